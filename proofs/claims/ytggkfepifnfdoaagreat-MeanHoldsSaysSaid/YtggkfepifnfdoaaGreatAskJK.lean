/- Walk: the reference's fault of a node's fields. · Walk: the reference's fault of a node's fields, where they are formed. -/
import Derived.Test.YtggkfepifnfdoaaGreatAskGI
namespace Go.Proofs.YtggkfepifnfdoaaGreat
open Go.RowKit

def fieldsF (op n d : Int) (nm : ByteArray) : Int := if formedB op n d nm = false then 5 else if numbersB op n d = false then 3 else 0

set_option maxHeartbeats 8000000 in
theorem fields_unformed (op n d : Int) (A : Option Addr) (m c : Nat) (nm : ByteArray) (w : World) (h : formedB op n d nm = false) :
    Calls Tryz.prog 43 #[.agg #[.int .i64 op, .slice A m c, .int .i64 n, .int .i64 d, .string nm]] w fun e w' => e = .returned (.int .i64 5) ∧ Below w.heap.size w w' := by
  have HB : Hid (Below w.heap.size w (w.alloc (.cells #[.int .i64 op, .slice A m c, .int .i64 n, .int .i64 d, .string nm] 43))) := (Below.refl _ _).alloc (Nat.le_refl _) _
  have HH := Lib.hid h
  clear h
  rcases op_classes op with rfl | rfl | rfl | rfl | rfl | ⟨q1, q2, q3, q4, q5⟩
  rotate_right
  · have hf : Hid (formedB op n d nm = (nm.toList.isEmpty && n == 0 && d == 0)) := by show _ = _; rw [formedB, fracOp_other q2 q3 q4, q1, q5]; simp
    have o9 : (op != 9) = true := by rw [bne, q1]; rfl
    have o15 : (op != 15) = true := by rw [bne, q4]; rfl
    have o23 : (op != 23) = true := by rw [bne, q5]; rfl
    cases hn : nm.toList.isEmpty <;> cases hz : (n == 0) <;> cases hd : (d == 0)
    all_goals
      have hz2 : (n != 0) = !(n == 0) := rfl
      have hd2 : (d != 0) = !(d == 0) := rfl
      rw [hz] at hz2
      rw [hd] at hd2
      simp only [Bool.not_true, Bool.not_false] at hz2 hd2
      have e := HH.out
      rw [hf.out, hn, hz, hd] at e
      first
        | (exfalso; revert e; decide)
        | (clear e
           go_enter Tryz.func43, Tryz.ntmps43
           go_wp2_with fail
           go_ret
           exact ⟨rfl, HB.out⟩)
  all_goals cases hn : nm.toList.isEmpty <;> cases hz : (n == 0) <;> cases hd : (d == 0)
  all_goals
    have hz2 : (n != 0) = !(n == 0) := rfl
    have hd2 : (d != 0) = !(d == 0) := rfl
    rw [hz] at hz2
    rw [hd] at hd2
    simp only [Bool.not_true, Bool.not_false] at hz2 hd2
    have e := HH.out
    rw [formedB, hn, hz, hd] at e
    first
      | (exfalso; revert e; decide)
      | (clear e
         go_enter Tryz.func43, Tryz.ntmps43
         go_wp2_with fail
         go_ret
         exact ⟨rfl, HB.out⟩)
end Go.Proofs.YtggkfepifnfdoaaGreat
namespace Go.Proofs.YtggkfepifnfdoaaGreat
open Go.RowKit

def numCode (op n d : Int) : Int := if numbersB op n d = false then 3 else 0
theorem int_bne {x y : Int} {b : Bool} (h : (x == y) = b) : (x != y) = !b := by rw [bne, h]

set_option maxRecDepth 100000 in
set_option maxHeartbeats 8000000 in
theorem fieldsK_other (op : Int) (A : Option Addr) (m c : Nat) (nm : ByteArray) (w : World) (q1 : (op == 9) = false) (q2 : (op == 10) = false) (q3 : (op == 12) = false) (q4 : (op == 15) = false) (q5 : (op == 23) = false) (hn : nm.toList.isEmpty = true) :
    Calls Tryz.prog 43 #[.agg #[.int .i64 op, .slice A m c, .int .i64 0, .int .i64 0, .string nm]] w fun e w' => e = .returned (.int .i64 (numCode op 0 0)) ∧ Below w.heap.size w w' := by
  have HB : Hid (Below w.heap.size w (w.alloc (.cells #[.int .i64 op, .slice A m c, .int .i64 0, .int .i64 0, .string nm] 43))) := (Below.refl _ _).alloc (Nat.le_refl _) _
  have HR : Hid ((0 : Int) = numCode op 0 0) := by
    show _ = _
    simp only [beq_eq_false_iff_ne] at q1 q2 q3 q4 q5
    have hnb : numbersB op 0 0 = true := by rw [numbersB, if_neg (by omega), if_neg (by omega), if_neg (by omega)]
    rw [numCode, hnb]; rfl
  have o9 : (op != 9) = true := by rw [bne, q1]; rfl
  have o15 : (op != 15) = true := by rw [bne, q4]; rfl
  have o23 : (op != 23) = true := by rw [bne, q5]; rfl
  go_enter Tryz.func43, Tryz.ntmps43
  go_wp2_with fail
  go_quiet (fail)
  go_wp2_with fail
  go_ret
  exact ⟨ret_int HR.out, below_drewN HB.out _⟩
set_option maxRecDepth 100000 in
set_option maxHeartbeats 8000000 in
theorem fieldsK_name (A : Option Addr) (m c : Nat) (nm : ByteArray) (w : World) :
    Calls Tryz.prog 43 #[.agg #[.int .i64 9, .slice A m c, .int .i64 0, .int .i64 0, .string nm]] w fun e w' => e = .returned (.int .i64 (numCode 9 0 0)) ∧ Below w.heap.size w w' := by
  have HB : Hid (Below w.heap.size w (w.alloc (.cells #[.int .i64 9, .slice A m c, .int .i64 0, .int .i64 0, .string nm] 43))) := (Below.refl _ _).alloc (Nat.le_refl _) _
  have HR : Hid ((0 : Int) = numCode 9 0 0) := by show _ = _; decide
  cases hn : nm.toList.isEmpty
  all_goals
    go_enter Tryz.func43, Tryz.ntmps43
    go_wp2_with fail
    go_quiet (fail)
    go_wp2_with fail
    go_ret
    exact ⟨ret_int HR.out, below_drewN HB.out _⟩
set_option maxRecDepth 100000 in
set_option maxHeartbeats 8000000 in
theorem fieldsK_left (n : Int) (A : Option Addr) (m c : Nat) (nm : ByteArray) (w : World) (hn : nm.toList.isEmpty = true) :
    Calls Tryz.prog 43 #[.agg #[.int .i64 23, .slice A m c, .int .i64 n, .int .i64 0, .string nm]] w fun e w' => e = .returned (.int .i64 (numCode 23 n 0)) ∧ Below w.heap.size w w' := by
  have HB : Hid (Below w.heap.size w (w.alloc (.cells #[.int .i64 23, .slice A m c, .int .i64 n, .int .i64 0, .string nm] 43))) := (Below.refl _ _).alloc (Nat.le_refl _) _
  have hnb : numbersB 23 n 0 = decide (0 ≤ n ∧ n ≤ 8) := by rw [numbersB, if_neg (by omega), if_neg (by omega), if_pos rfl]
  have hz : (decide (n < 0) = true ∧ decide (8 < n) = false ∧ (3 : Int) = numCode 23 n 0) ∨ (decide (n < 0) = false ∧ decide (8 < n) = true ∧ (3 : Int) = numCode 23 n 0) ∨ (decide (n < 0) = false ∧ decide (8 < n) = false ∧ (0 : Int) = numCode 23 n 0) := by
    rw [numCode, hnb]
    simp only [decide_eq_true_eq, decide_eq_false_iff_not]
    by_cases h0 : n < 0
    · rw [if_pos (by omega)]; omega
    · by_cases h8 : 8 < n
      · rw [if_pos (by omega)]; omega
      · rw [if_neg (by omega)]; omega
  clear hnb
  cases hq : (n == 0)
  all_goals
    have hq2 := int_bne hq
    simp only [Bool.not_true, Bool.not_false] at hq2
    rcases hz with ⟨h, h2, hr⟩ | ⟨h, h2, hr⟩ | ⟨h, h2, hr⟩
  all_goals
    have HR := Lib.hid hr
    clear hr
    go_enter Tryz.func43, Tryz.ntmps43
    go_wp2_with fail
    go_quiet (fail)
    go_wp2_with fail
    go_ret
    exact ⟨ret_int HR.out, below_drewN HB.out _⟩
end Go.Proofs.YtggkfepifnfdoaaGreat
