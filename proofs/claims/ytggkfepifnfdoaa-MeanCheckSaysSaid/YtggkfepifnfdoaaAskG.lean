/- Walk: the numbers of a node. -/
import Derived.Test.YtggkfepifnfdoaaAskF
namespace Go.Proofs.Ytggkfepifnfdoaa
open Go.RowKit

def numbersB (op n d : Int) : Bool :=
  if op = 10 ∨ op = 12 then decide (-1000000 ≤ n ∧ n ≤ 1000000 ∧ 1 ≤ d ∧ d ≤ 1000000 ∧ Int.gcd n d = 1)
  else if op = 15 then decide (1 ≤ d ∧ d ≤ 8 ∧ 0 ≤ n ∧ n < 2 ^ d.toNat) else if op = 23 then decide (0 ≤ n ∧ n ≤ 8) else true

set_option maxHeartbeats 4000000 in
theorem numbers_any (op n d : Int) (A : Option Addr) (m c : Nat) (nm : ByteArray) (w : World) :
    Calls Try.prog 61 #[.agg #[.int .i64 op, .slice A m c, .int .i64 n, .int .i64 d, .string nm]] w fun e w' => e = .returned (.bool (numbersB op n d)) ∧ Below w.heap.size w w' := by
  have HB : Hid (Below w.heap.size w (w.alloc (.cells #[.int .i64 op, .slice A m c, .int .i64 n, .int .i64 d, .string nm] 65))) := (Below.refl _ _).alloc (Nat.le_refl _) _
  have hcl : (op = 10 ∨ op = 12) ∨ op = 15 ∨ op = 23 ∨ ((op == 10) = false ∧ (op == 12) = false ∧ (op == 15) = false ∧ (op == 23) = false) := by
    simp only [beq_eq_false_iff_ne]; omega
  rcases hcl with hop | rfl | rfl | ⟨q1, q2, q3, q4⟩
  · have hc : n < -1000000 ∨ (-1000000 ≤ n ∧ 1000000 < n) ∨ ((-1000000 ≤ n ∧ n ≤ 1000000) ∧ d < 1) ∨ ((-1000000 ≤ n ∧ n ≤ 1000000) ∧ 1 ≤ d ∧ 1000000 < d) ∨ ((-1000000 ≤ n ∧ n ≤ 1000000) ∧ 1 ≤ d ∧ d ≤ 1000000) := by omega
    have hnb : numbersB op n d = decide (-1000000 ≤ n ∧ n ≤ 1000000 ∧ 1 ≤ d ∧ d ≤ 1000000 ∧ Int.gcd n d = 1) := by rw [numbersB, if_pos hop]
    rcases hc with h | ⟨h, h2⟩ | ⟨⟨h, h2⟩, h3⟩ | ⟨⟨h, h2⟩, h3, h4⟩ | ⟨⟨h, h2⟩, h3, h4⟩
    rotate_right
    · have HG := Lib.hid (gcdA_any n d (w.alloc (.cells #[.int .i64 op, .slice A m c, .int .i64 n, .int .i64 d, .string nm] 65)) (by omega) (by omega) (by omega) (by omega))
      have HR : Hid ((((Int.gcd n d : Nat) : Int) == 1) = numbersB op n d) := by
        show _ = _
        rw [hnb, Bool.eq_iff_iff]; simp only [beq_iff_eq, decide_eq_true_eq]; omega
      clear hnb
      rcases hop with rfl | rfl
      all_goals
        go_enter Try.func61, Try.ntmps61
        go_wp2_with fail
        refine HG.out.mono ?_
        rintro e w' ⟨rfl, nn, rfl⟩
        go_wp2_with fail
        go_ret
        exact ⟨ret_bool HR.out, below_drewN HB.out _⟩
    all_goals
      have HR : Hid (false = numbersB op n d) := by show _ = _; rw [hnb]; symm; rw [decide_eq_false_iff_not]; omega
      clear hnb
      rcases hop with rfl | rfl
      all_goals
        go_enter Try.func61, Try.ntmps61
        go_wp2_with fail
        go_ret
        exact ⟨ret_bool HR.out, HB.out⟩
  · have hnb : numbersB 15 n d = decide (1 ≤ d ∧ d ≤ 8 ∧ 0 ≤ n ∧ n < 2 ^ d.toNat) := by rw [numbersB, if_neg (by omega), if_pos rfl]
    have hc : decide (1 ≤ d) = false ∨ (1 ≤ d ∧ decide (d ≤ 8) = false) ∨ ((1 ≤ d ∧ d ≤ 8) ∧ decide (0 ≤ n) = false) ∨ ((1 ≤ d ∧ d ≤ 8) ∧ 0 ≤ n) := by
      simp only [decide_eq_false_iff_not]; omega
    rcases hc with h | ⟨h, h2⟩ | ⟨⟨h, h2⟩, h3⟩ | ⟨⟨h, h2⟩, h3⟩
    rotate_right
    · have hd : d = 1 ∨ d = 2 ∨ d = 3 ∨ d = 4 ∨ d = 5 ∨ d = 6 ∨ d = 7 ∨ d = 8 := by omega
      clear h h2
      rcases hd with rfl | rfl | rfl | rfl | rfl | rfl | rfl | rfl
      · have HR : Hid (decide (n < 2) = numbersB 15 n 1) := by
          show _ = _
          rw [hnb, Bool.eq_iff_iff]
          simp only [decide_eq_true_eq]
          have e : (2 : Int) ^ ((1 : Int).toNat) = 2 := by decide
          rw [e]
          omega
        clear hnb
        go_enter Try.func61, Try.ntmps61
        go_wp2_with fail
        go_quiet (fail)
        go_wp2_with fail
        go_ret
        exact ⟨ret_bool (by rw [← HR.out]), below_drewN HB.out _⟩
      · have HR : Hid (decide (n < 4) = numbersB 15 n 2) := by
          show _ = _
          rw [hnb, Bool.eq_iff_iff]
          simp only [decide_eq_true_eq]
          have e : (2 : Int) ^ ((2 : Int).toNat) = 4 := by decide
          rw [e]
          omega
        clear hnb
        go_enter Try.func61, Try.ntmps61
        go_wp2_with fail
        go_quiet (fail)
        go_wp2_with fail
        go_ret
        exact ⟨ret_bool (by rw [← HR.out]), below_drewN HB.out _⟩
      · have HR : Hid (decide (n < 8) = numbersB 15 n 3) := by
          show _ = _
          rw [hnb, Bool.eq_iff_iff]
          simp only [decide_eq_true_eq]
          have e : (2 : Int) ^ ((3 : Int).toNat) = 8 := by decide
          rw [e]
          omega
        clear hnb
        go_enter Try.func61, Try.ntmps61
        go_wp2_with fail
        go_quiet (fail)
        go_wp2_with fail
        go_ret
        exact ⟨ret_bool (by rw [← HR.out]), below_drewN HB.out _⟩
      · have HR : Hid (decide (n < 16) = numbersB 15 n 4) := by
          show _ = _
          rw [hnb, Bool.eq_iff_iff]
          simp only [decide_eq_true_eq]
          have e : (2 : Int) ^ ((4 : Int).toNat) = 16 := by decide
          rw [e]
          omega
        clear hnb
        go_enter Try.func61, Try.ntmps61
        go_wp2_with fail
        go_quiet (fail)
        go_wp2_with fail
        go_ret
        exact ⟨ret_bool (by rw [← HR.out]), below_drewN HB.out _⟩
      · have HR : Hid (decide (n < 32) = numbersB 15 n 5) := by
          show _ = _
          rw [hnb, Bool.eq_iff_iff]
          simp only [decide_eq_true_eq]
          have e : (2 : Int) ^ ((5 : Int).toNat) = 32 := by decide
          rw [e]
          omega
        clear hnb
        go_enter Try.func61, Try.ntmps61
        go_wp2_with fail
        go_quiet (fail)
        go_wp2_with fail
        go_ret
        exact ⟨ret_bool (by rw [← HR.out]), below_drewN HB.out _⟩
      · have HR : Hid (decide (n < 64) = numbersB 15 n 6) := by
          show _ = _
          rw [hnb, Bool.eq_iff_iff]
          simp only [decide_eq_true_eq]
          have e : (2 : Int) ^ ((6 : Int).toNat) = 64 := by decide
          rw [e]
          omega
        clear hnb
        go_enter Try.func61, Try.ntmps61
        go_wp2_with fail
        go_quiet (fail)
        go_wp2_with fail
        go_ret
        exact ⟨ret_bool (by rw [← HR.out]), below_drewN HB.out _⟩
      · have HR : Hid (decide (n < 128) = numbersB 15 n 7) := by
          show _ = _
          rw [hnb, Bool.eq_iff_iff]
          simp only [decide_eq_true_eq]
          have e : (2 : Int) ^ ((7 : Int).toNat) = 128 := by decide
          rw [e]
          omega
        clear hnb
        go_enter Try.func61, Try.ntmps61
        go_wp2_with fail
        go_quiet (fail)
        go_wp2_with fail
        go_ret
        exact ⟨ret_bool (by rw [← HR.out]), below_drewN HB.out _⟩
      · have HR : Hid (decide (n < 256) = numbersB 15 n 8) := by
          show _ = _
          rw [hnb, Bool.eq_iff_iff]
          simp only [decide_eq_true_eq]
          have e : (2 : Int) ^ ((8 : Int).toNat) = 256 := by decide
          rw [e]
          omega
        clear hnb
        go_enter Try.func61, Try.ntmps61
        go_wp2_with fail
        go_quiet (fail)
        go_wp2_with fail
        go_ret
        exact ⟨ret_bool (by rw [← HR.out]), below_drewN HB.out _⟩
    all_goals
      have HR : Hid (false = numbersB 15 n d) := by show _ = _; rw [hnb]; symm; rw [decide_eq_false_iff_not]; simp only [decide_eq_false_iff_not] at *; omega
      clear hnb
      go_enter Try.func61, Try.ntmps61
      go_wp2_with fail
      go_quiet (fail)
      go_wp2_with fail
      go_ret
      exact ⟨ret_bool HR.out, below_drewN HB.out _⟩
  · have hnb : numbersB 23 n d = decide (0 ≤ n ∧ n ≤ 8) := by rw [numbersB, if_neg (by omega), if_neg (by omega), if_pos rfl]
    have hc : n < 0 ∨ (0 ≤ n ∧ n ≤ 8) ∨ (0 ≤ n ∧ 8 < n) := by omega
    rcases hc with h | ⟨h, h2⟩ | ⟨h, h2⟩
    · have HR : Hid (false = numbersB 23 n d) := by show _ = _; rw [hnb]; symm; rw [decide_eq_false_iff_not]; omega
      clear hnb
      go_enter Try.func61, Try.ntmps61
      go_wp2_with fail
      go_ret
      exact ⟨ret_bool (by first | exact HR.out | (rw [← HR.out]; simp <;> omega)), HB.out⟩
    · have HR : Hid (true = numbersB 23 n d) := by show _ = _; rw [hnb]; symm; rw [decide_eq_true_eq]; omega
      clear hnb
      go_enter Try.func61, Try.ntmps61
      go_wp2_with fail
      go_ret
      exact ⟨ret_bool (by first | exact HR.out | (rw [← HR.out]; simp <;> omega)), HB.out⟩
    · have HR : Hid (false = numbersB 23 n d) := by show _ = _; rw [hnb]; symm; rw [decide_eq_false_iff_not]; omega
      clear hnb
      go_enter Try.func61, Try.ntmps61
      go_wp2_with fail
      go_ret
      exact ⟨ret_bool (by first | exact HR.out | (rw [← HR.out]; simp <;> omega)), HB.out⟩
  · have HR : Hid (true = numbersB op n d) := by
      show _ = _
      simp only [beq_eq_false_iff_ne] at q1 q2 q3 q4
      rw [numbersB, if_neg (by omega), if_neg (by omega), if_neg (by omega)]
    go_enter Try.func61, Try.ntmps61
    go_wp2_with fail
    go_ret
    exact ⟨ret_bool HR.out, HB.out⟩
end Go.Proofs.Ytggkfepifnfdoaa
