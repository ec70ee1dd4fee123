/- Walk: the reference's fault of the fields of a node. -/
import Derived.Test.YtggkfepifnfdoaaGreatAskKf
import Derived.Test.YtggkfepifnfdoaaGreatAskKw
namespace Go.Proofs.YtggkfepifnfdoaaGreat
open Go.RowKit

theorem fields_any (op n d : Int) (A : Option Addr) (m c : Nat) (nm : ByteArray) (w : World) :
    Calls Tryz.prog 43 #[.agg #[.int .i64 op, .slice A m c, .int .i64 n, .int .i64 d, .string nm]] w fun e w' => e = .returned (.int .i64 (fieldsF op n d nm)) ∧ Below w.heap.size w w' := by
  cases h : formedB op n d nm with
  | false => rw [fieldsF, if_pos h]; exact fields_unformed op n d A m c nm w h
  | true =>
    have e : fieldsF op n d nm = numCode op n d := by rw [fieldsF, if_neg (by rw [h]; simp)]; rfl
    rw [e]
    clear e
    rcases op_classes op with rfl | rfl | rfl | rfl | rfl | ⟨q1, q2, q3, q4, q5⟩
    · simp [formedB, fracOp] at h
      obtain ⟨rfl, rfl⟩ := h
      exact fieldsK_name A m c nm w
    · simp [formedB, fracOp] at h
      exact fieldsK_frac _ n d A m c nm w (.inl rfl) (by simpa using h)
    · simp [formedB, fracOp] at h
      exact fieldsK_frac _ n d A m c nm w (.inr rfl) (by simpa using h)
    · simp [formedB, fracOp] at h
      exact fieldsK_word n d A m c nm w (by simpa using h)
    · simp [formedB, fracOp] at h
      obtain ⟨h, rfl⟩ := h
      exact fieldsK_left n A m c nm w (by simpa using h)
    · have hf : formedB op n d nm = (nm.toList.isEmpty && n == 0 && d == 0) := by rw [formedB, fracOp_other q2 q3 q4, q1, q5]; simp
      rw [hf] at h
      simp only [Bool.and_eq_true, beq_iff_eq] at h
      obtain ⟨⟨h, rfl⟩, rfl⟩ := h
      exact fieldsK_other op A m c nm w q1 q2 q3 q4 q5 h
end Go.Proofs.YtggkfepifnfdoaaGreat
