/- Walk: the reference's fault of a node's fields. -/
import Derived.Test.YthooecojopfjbaaAskGI
namespace Go.Proofs.Ythooecojopfjbaa
open Go.RowKit

def fieldsF (op n d : Int) (nm : ByteArray) : Int := if formedB op n d nm = false then 5 else if numbersB op n d = false then 3 else 0

set_option maxHeartbeats 8000000 in
theorem fields_unformed (op n d : Int) (A : Option Addr) (m c : Nat) (nm : ByteArray) (w : World) (h : formedB op n d nm = false) :
    Calls Try.prog 38 #[.agg #[.int .i64 op, .slice A m c, .int .i64 n, .int .i64 d, .string nm]] w fun e w' => e = .returned (.int .i64 5) ∧ Below w.heap.size w w' := by
  have HB : Hid (Below w.heap.size w (w.alloc (.cells #[.int .i64 op, .slice A m c, .int .i64 n, .int .i64 d, .string nm] 59))) := (Below.refl _ _).alloc (Nat.le_refl _) _
  have HH := Lib.hid h
  clear h
  rcases op_classes op with rfl | rfl | rfl | rfl | rfl | ⟨q1, q2, q3, q4, q5⟩
  rotate_right
  · have hf : Hid (formedB op n d nm = (nm.toList.isEmpty && n == 0 && d == 0)) := by show _ = _; rw [formedB, fracOp_other q2 q3 q4, q1, q5]; simp
    have o9 : (op != 9) = true := by rw [bne, q1]; rfl
    have o15 : (op != 15) = true := by rw [bne, q4]; rfl
    have o23 : (op != 23) = true := by rw [bne, q5]; rfl
    cases hn : nm.toList.isEmpty <;> cases hz : (n == 0) <;> cases hd : (d == 0)
    all_goals
      have hz2 : (n != 0) = !(n == 0) := rfl
      have hd2 : (d != 0) = !(d == 0) := rfl
      rw [hz] at hz2
      rw [hd] at hd2
      simp only [Bool.not_true, Bool.not_false] at hz2 hd2
      have e := HH.out
      rw [hf.out, hn, hz, hd] at e
      first
        | (exfalso; revert e; decide)
        | (clear e
           go_enter Try.func38, Try.ntmps38
           go_wp2_with fail
           go_ret
           exact ⟨rfl, HB.out⟩)
  all_goals cases hn : nm.toList.isEmpty <;> cases hz : (n == 0) <;> cases hd : (d == 0)
  all_goals
    have hz2 : (n != 0) = !(n == 0) := rfl
    have hd2 : (d != 0) = !(d == 0) := rfl
    rw [hz] at hz2
    rw [hd] at hd2
    simp only [Bool.not_true, Bool.not_false] at hz2 hd2
    have e := HH.out
    rw [formedB, hn, hz, hd] at e
    first
      | (exfalso; revert e; decide)
      | (clear e
         go_enter Try.func38, Try.ntmps38
         go_wp2_with fail
         go_ret
         exact ⟨rfl, HB.out⟩)
end Go.Proofs.Ythooecojopfjbaa
