/- Walks: the fields of a node. -/
import Derived.Test.YtggkfepifnfdoaaAskE
namespace Go.Proofs.Ytggkfepifnfdoaa
open Go.RowKit

def fracOp (op : Int) : Bool := decide (op = 10 ∨ op = 12 ∨ op = 15)
def formedB (op n d : Int) (nm : ByteArray) : Bool := (nm.toList.isEmpty || op == 9) && (n == 0 || (fracOp op || op == 23)) && (d == 0 || fracOp op)
/-- the classes of operators that the fields' rules part -/
theorem op_classes (op : Int) : op = 9 ∨ op = 10 ∨ op = 12 ∨ op = 15 ∨ op = 23 ∨ ((op == 9) = false ∧ (op == 10) = false ∧ (op == 12) = false ∧ (op == 15) = false ∧ (op == 23) = false) := by
  simp only [beq_eq_false_iff_ne]; omega
theorem fracOp_other {op : Int} (h1 : (op == 10) = false) (h2 : (op == 12) = false) (h3 : (op == 15) = false) : fracOp op = false := by
  simp only [beq_eq_false_iff_ne] at h1 h2 h3
  simp [fracOp, h1, h2, h3]

set_option maxHeartbeats 4000000 in
theorem formed_any (op n d : Int) (A : Option Addr) (m c : Nat) (nm : ByteArray) (w : World) :
    Calls Try.prog 60 #[.agg #[.int .i64 op, .slice A m c, .int .i64 n, .int .i64 d, .string nm]] w fun e w' => e = .returned (.bool (formedB op n d nm)) ∧ Below w.heap.size w w' := by
  have HB : Hid (Below w.heap.size w (w.alloc (.cells #[.int .i64 op, .slice A m c, .int .i64 n, .int .i64 d, .string nm] 65))) := (Below.refl _ _).alloc (Nat.le_refl _) _
  rcases op_classes op with rfl | rfl | rfl | rfl | rfl | ⟨q1, q2, q3, q4, q5⟩
  rotate_right
  · have HF : Hid (formedB op n d nm = (nm.toList.isEmpty && n == 0 && d == 0)) := by show _ = _; rw [formedB, fracOp_other q2 q3 q4, q1, q5]; simp
    cases hn : nm.toList.isEmpty <;> cases hz : (n == 0) <;> cases hd : (d == 0)
    all_goals
      rw [hn, hz, hd] at HF
      go_enter Try.func60, Try.ntmps60
      go_wp2_with fail
      go_ret
      exact ⟨ret_bool HF.out.symm, HB.out⟩
  all_goals cases hn : nm.toList.isEmpty <;> cases hz : (n == 0) <;> cases hd : (d == 0)
  all_goals
    go_enter Try.func60, Try.ntmps60
    go_wp2_with fail
    go_ret
    exact ⟨ret_bool (by simp [formedB, fracOp, hn, hz, hd]), HB.out⟩
end Go.Proofs.Ytggkfepifnfdoaa
