/- Walk: what the reference wants of an operator's kids. -/
import Derived.Test.YtggkfepifnfdoaaAskH
namespace Go.Proofs.Ytggkfepifnfdoaa
open Go.RowKit

/-- what kids an operator wants, a letter each: b 98, n 110, t 116, a 97, w 119, x 120, y 121, ? 63, * 42 -/
def wantsF (op : Int) : ByteArray := if op = 3 then ⟨#[98]⟩ else if op = 4 ∨ op = 5 then ⟨#[98, 42]⟩ else if op = 6 then ⟨#[98, 98]⟩ else if op = 7 then ⟨#[98, 120, 121]⟩ else if op = 8 then ⟨#[63, 63]⟩ else if op = 11 then ⟨#[110, 42]⟩ else if op = 12 then ⟨#[110]⟩ else if op = 13 ∨ op = 14 then ⟨#[110, 110]⟩ else if op = 16 ∨ op = 23 then ⟨#[119]⟩ else if op = 17 ∨ op = 18 ∨ op = 19 ∨ op = 20 ∨ op = 21 ∨ op = 22 then ⟨#[119, 119]⟩ else if op = 24 then ⟨#[97, 116]⟩ else if op = 25 then ⟨#[97, 116, 116]⟩ else ⟨#[]⟩
set_option maxRecDepth 100000 in
set_option maxHeartbeats 8000000 in
theorem wants_0 (op : Int) (w : World) (h : op = 1 ∨ op = 2 ∨ op = 3 ∨ op = 4 ∨ op = 5 ∨ op = 6 ∨ op = 7 ∨ op = 8 ∨ op = 9) : Calls Try.prog 64 #[.int .i64 op] w fun e w' => e = .returned (.string (wantsF op)) ∧ Below w.heap.size w w' := by
  rcases h with rfl | rfl | rfl | rfl | rfl | rfl | rfl | rfl | rfl
  all_goals
    go_enter Try.func64, Try.ntmps64
    go_wp2_with fail
    go_ret
    exact ⟨ret_string (by simp [wantsF]), (Below.refl _ _).alloc (Nat.le_refl _) _⟩
set_option maxRecDepth 100000 in
set_option maxHeartbeats 8000000 in
theorem wants_1 (op : Int) (w : World) (h : op = 10 ∨ op = 11 ∨ op = 12 ∨ op = 13 ∨ op = 14 ∨ op = 15 ∨ op = 16 ∨ op = 17) : Calls Try.prog 64 #[.int .i64 op] w fun e w' => e = .returned (.string (wantsF op)) ∧ Below w.heap.size w w' := by
  rcases h with rfl | rfl | rfl | rfl | rfl | rfl | rfl | rfl
  all_goals
    go_enter Try.func64, Try.ntmps64
    go_wp2_with fail
    go_ret
    exact ⟨ret_string (by simp [wantsF]), (Below.refl _ _).alloc (Nat.le_refl _) _⟩
set_option maxRecDepth 100000 in
set_option maxHeartbeats 8000000 in
theorem wants_2 (op : Int) (w : World) (h : op = 18 ∨ op = 19 ∨ op = 20 ∨ op = 21 ∨ op = 22 ∨ op = 23 ∨ op = 24 ∨ op = 25) : Calls Try.prog 64 #[.int .i64 op] w fun e w' => e = .returned (.string (wantsF op)) ∧ Below w.heap.size w w' := by
  rcases h with rfl | rfl | rfl | rfl | rfl | rfl | rfl | rfl
  all_goals
    go_enter Try.func64, Try.ntmps64
    go_wp2_with fail
    go_ret
    exact ⟨ret_string (by simp [wantsF]), (Below.refl _ _).alloc (Nat.le_refl _) _⟩
theorem wants_any (op : Int) (w : World) (h0 : 1 ≤ op) (h1 : op ≤ 25) : Calls Try.prog 64 #[.int .i64 op] w fun e w' => e = .returned (.string (wantsF op)) ∧ Below w.heap.size w w' := by
  by_cases h9 : op ≤ 9
  · exact wants_0 op w (by omega)
  by_cases h17 : op ≤ 17
  · exact wants_1 op w (by omega)
  · exact wants_2 op w (by omega)
end Go.Proofs.Ytggkfepifnfdoaa
