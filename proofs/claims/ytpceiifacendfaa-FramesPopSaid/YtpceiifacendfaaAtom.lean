/- Walks: what is wrong with an atom, in the program and in the reference. -/
import Derived.Test.YtpceiifacendfaaRowB
namespace Go.Proofs.Ytpceiifacendfaa
open Go.RowKit

def atomCode (x : AtomD) (nt ni : Int) : Int :=
  if x.kind < 1 ∨ 3 < x.kind then 4
  else if (¬ x.kind = 2 ∧ (¬ x.a = 0 ∨ ¬ x.b = 0)) ∨ (¬ x.kind = 3 ∧ (0 < x.row.of_.length ∨ ¬ x.row.kind = 0 ∨ ¬ x.row.to_ = 0)) then 5
  else if x.kind = 2 ∧ (x.a < 0 ∨ x.b ≤ x.a ∨ nt ≤ x.b) then 3
  else if x.kind = 3 then rowCode x.row ni else 0
/-- what the reference says first: -1: the row is to be asked -/
def atomPre (x : AtomD) (nt : Int) : Int :=
  if x.kind < 1 ∨ 3 < x.kind then 4
  else if (¬ x.kind = 2 ∧ (¬ x.a = 0 ∨ ¬ x.b = 0)) ∨ (¬ x.kind = 3 ∧ (0 < x.row.of_.length ∨ ¬ x.row.kind = 0 ∨ ¬ x.row.to_ = 0)) then 5
  else if x.kind = 2 ∧ (x.a < 0 ∨ x.b ≤ x.a ∨ nt ≤ x.b) then 3
  else if x.kind = 3 then -1 else 0

set_option maxRecDepth 100000 in
set_option maxHeartbeats 4000000 in
theorem atomFault_any (kind a b rk tt : Int) (A : Option Addr) (n c : Nat) (xs : List Int) (nt : Int) (R : Int) (w : World) (hlen : xs.length = n) (hR : atomPre ⟨kind, a, b, ⟨xs, rk, tt⟩⟩ nt = R) (hn : n ≤ maxLen) :
    Calls Try.prog 22 #[.agg #[.int .i64 kind, .int .i64 a, .int .i64 b, .slice A n c, .int .i64 rk, .int .i64 tt], .int .i64 nt] w fun e w' => e = .returned (.int .i64 R) ∧ Below w.heap.size w w' := by
  unfold maxLen at hn
  simp only [atomPre, hlen] at hR
  have HR := Lib.hid hR
  clear hR hlen
  go_enter Try.func22, Try.ntmps22
  go_wp2_with fail
  all_goals go_ret
  all_goals refine ⟨ret_int ?_, (Below.refl _ _).alloc (Nat.le_refl _) _⟩
  all_goals have e := HR.out
  all_goals clear HR
  all_goals first | grind | skip
end Go.Proofs.Ytpceiifacendfaa
