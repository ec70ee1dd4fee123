/- Walks: greatest common divisors; how many kids an operator has. -/
import Derived.Test.YtggkfepifnfdoaaAskD
import Derived.Deep.QuietTactic
import Derived.BigQuiet
namespace Go.Proofs.Ytggkfepifnfdoaa
open Go.RowKit

theorem gcd_tmod (x y : Int) : Int.gcd y (x.tmod y) = Int.gcd x y := by
  show y.natAbs.gcd (x.tmod y).natAbs = x.natAbs.gcd y.natAbs
  rw [Int.natAbs_tmod, Nat.gcd_comm, ← Nat.gcd_rec, Nat.gcd_comm]
def DrewP (v : Value) (w : World) (e : Ending) (w' : World) : Prop := e = .returned v ∧ ∃ n, w' = w.drewN n

set_option maxHeartbeats 400000 in
theorem gcdI_any (x y : Int) (w : World) (h0 : -4611686018427387904 ≤ x) (h1 : x ≤ 4611686018427387904) (h2 : -4611686018427387904 ≤ y) (h3 : y ≤ 4611686018427387904) :
    Calls Try.prog 65 #[.int .i64 x, .int .i64 y] w (DrewP (.int .i64 (Int.gcd x y : Nat)) w) := by
  go_enter Try.func65, Try.ntmps65
  go_wp2_with fail
  go_loopw [0, 1] (fun s0 s1 wr => ∃ a b : Int, s0 = .int .i64 a ∧ s1 = .int .i64 b ∧ -4611686018427387904 ≤ a ∧ a ≤ 4611686018427387904 ∧ -4611686018427387904 ≤ b ∧ b ≤ 4611686018427387904 ∧ Hid (Int.gcd a b = Int.gcd x y) ∧ Hid (∃ n, wr = w.drewN n)) (fun _ s1 _ => (intOf s1).natAbs)
  case atStart => exact ⟨x, y, rfl, rfl, h0, h1, h2, h3, rfl, 0, rfl⟩
  case round =>
    obtain ⟨a, b, rfl, rfl, ha, ha2, hb, hb2, HG, HW⟩ := hrel
    by_cases hz : b = 0
    · subst hz
      have e1 : (a.natAbs : Int) = (Int.gcd x y : Nat) := by rw [← HG.out, Int.gcd_zero_right]
      have HE := Lib.hid e1
      clear e1
      go_wp2_with fail
      all_goals go_ret
      all_goals exact ⟨ret_int (by rw [← HE.out]; omega), HW.out⟩
    · have hq : (b != 0) = true := by rw [bne_iff_ne]; omega
      have hq2 : (b == 0) = false := by rw [beq_eq_false_iff_ne]; omega
      go_wp2_with fail
      go_quiet (fail)
      go_wp2_with fail
      have h4 := Int.natAbs_tmod a b
      have h5 : (a.tmod b).natAbs < b.natAbs := by rw [h4]; exact Nat.mod_lt _ (by omega)
      go_roundw
      case rel =>
        refine ⟨b, a.tmod b, rfl, rfl, by omega, by omega, by omega, by omega, ?_, ?_⟩
        · show _ = _
          rw [gcd_tmod, HG.out]
        · obtain ⟨n, hn⟩ := HW.out
          exact ⟨n + nq, by rw [hn, World.drewN_drewN]⟩
      case measure => exact h5

set_option maxHeartbeats 400000 in
theorem gcdA_any (x y : Int) (w : World) (h0 : -4611686018427387904 ≤ x) (h1 : x ≤ 4611686018427387904) (h2 : -4611686018427387904 ≤ y) (h3 : y ≤ 4611686018427387904) :
    Calls Try.prog 85 #[.int .i64 x, .int .i64 y] w (DrewP (.int .i64 (Int.gcd x y : Nat)) w) := by
  go_enter Try.func85, Try.ntmps85
  go_wp2_with fail
  go_loopw [0, 1] (fun s0 s1 wr => ∃ a b : Int, s0 = .int .i64 a ∧ s1 = .int .i64 b ∧ -4611686018427387904 ≤ a ∧ a ≤ 4611686018427387904 ∧ -4611686018427387904 ≤ b ∧ b ≤ 4611686018427387904 ∧ Hid (Int.gcd a b = Int.gcd x y) ∧ Hid (∃ n, wr = w.drewN n)) (fun _ s1 _ => (intOf s1).natAbs)
  case atStart => exact ⟨x, y, rfl, rfl, h0, h1, h2, h3, rfl, 0, rfl⟩
  case round =>
    obtain ⟨a, b, rfl, rfl, ha, ha2, hb, hb2, HG, HW⟩ := hrel
    by_cases hz : b = 0
    · subst hz
      have e1 : (a.natAbs : Int) = (Int.gcd x y : Nat) := by rw [← HG.out, Int.gcd_zero_right]
      have HE := Lib.hid e1
      clear e1
      go_wp2_with fail
      all_goals go_ret
      all_goals exact ⟨ret_int (by rw [← HE.out]; omega), HW.out⟩
    · have hq : (b != 0) = true := by rw [bne_iff_ne]; omega
      have hq2 : (b == 0) = false := by rw [beq_eq_false_iff_ne]; omega
      go_wp2_with fail
      go_quiet (fail)
      go_wp2_with fail
      have h4 := Int.natAbs_tmod a b
      have h5 : (a.tmod b).natAbs < b.natAbs := by rw [h4]; exact Nat.mod_lt _ (by omega)
      go_roundw
      case rel =>
        refine ⟨b, a.tmod b, rfl, rfl, by omega, by omega, by omega, by omega, ?_, ?_⟩
        · show _ = _
          rw [gcd_tmod, HG.out]
        · obtain ⟨n, hn⟩ := HW.out
          exact ⟨n + nq, by rw [hn, World.drewN_drewN]⟩
      case measure => exact h5

def kidsF (op : Int) : Int :=
  if op = 1 ∨ op = 2 ∨ op = 10 ∨ op = 15 then 0 else if op = 3 ∨ op = 12 ∨ op = 16 ∨ op = 23 then 1 else if op = 7 ∨ op = 25 then 3 else if op = 4 ∨ op = 5 ∨ op = 11 then -1 else 2
set_option maxHeartbeats 4000000 in
theorem kids_any (op : Int) (w : World) (h0 : 1 ≤ op) (h1 : op ≤ 25) : Calls Try.prog 58 #[.int .i64 op] w fun e w' => e = .returned (.int .i64 (kidsF op)) ∧ w = w' := by
  have h : op = 1 ∨ op = 2 ∨ op = 3 ∨ op = 4 ∨ op = 5 ∨ op = 6 ∨ op = 7 ∨ op = 8 ∨ op = 9 ∨ op = 10 ∨ op = 11 ∨ op = 12 ∨ op = 13 ∨ op = 14 ∨ op = 15 ∨ op = 16 ∨ op = 17 ∨ op = 18 ∨ op = 19 ∨ op = 20 ∨ op = 21 ∨ op = 22 ∨ op = 23 ∨ op = 24 ∨ op = 25 := by omega
  clear h0 h1
  rcases h with rfl | rfl | rfl | rfl | rfl | rfl | rfl | rfl | rfl | rfl | rfl | rfl | rfl | rfl | rfl | rfl | rfl | rfl | rfl | rfl | rfl | rfl | rfl | rfl | rfl
  all_goals
    go_enter Try.func58, Try.ntmps58
    go_wp2_with fail
    go_ret
    exact ⟨ret_int (by decide), rfl⟩
end Go.Proofs.Ytggkfepifnfdoaa
