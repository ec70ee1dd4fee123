/- Walk: the reference's fault of the fields of a word. -/
import Derived.Test.YtggkfepifnfdoaaGreatAskJK
namespace Go.Proofs.YtggkfepifnfdoaaGreat
open Go.RowKit

set_option maxRecDepth 100000 in
set_option maxHeartbeats 8000000 in
theorem fieldsK_word (n d : Int) (A : Option Addr) (m c : Nat) (nm : ByteArray) (w : World) (hn : nm.toList.isEmpty = true) :
    Calls Tryz.prog 43 #[.agg #[.int .i64 15, .slice A m c, .int .i64 n, .int .i64 d, .string nm]] w fun e w' => e = .returned (.int .i64 (numCode 15 n d)) ∧ Below w.heap.size w w' := by
  have HB : Hid (Below w.heap.size w (w.alloc (.cells #[.int .i64 15, .slice A m c, .int .i64 n, .int .i64 d, .string nm] 43))) := (Below.refl _ _).alloc (Nat.le_refl _) _
  have hnb : numbersB 15 n d = decide (1 ≤ d ∧ d ≤ 8 ∧ 0 ≤ n ∧ n < 2 ^ d.toNat) := by rw [numbersB, if_neg (by omega), if_pos rfl]
  have hc : decide (d < 1) = true ∨ (decide (d < 1) = false ∧ decide (8 < d) = true) ∨ (decide (d < 1) = false ∧ decide (8 < d) = false ∧ decide (n < 0) = true) ∨ ((1 ≤ d ∧ d ≤ 8) ∧ decide (n < 0) = false) := by
    simp only [decide_eq_true_eq, decide_eq_false_iff_not]; omega
  have h3 : ¬ (1 ≤ d ∧ d ≤ 8 ∧ 0 ≤ n) → (3 : Int) = numCode 15 n d := fun h => by rw [numCode, hnb, if_pos (by rw [decide_eq_false_iff_not]; omega)]
  cases hq : (n == 0) <;> cases hq3 : (d == 0)
  all_goals
    have hq2 := int_bne hq
    have hq4 := int_bne hq3
    simp only [Bool.not_true, Bool.not_false] at hq2 hq4
    rcases hc with h | ⟨h, h2⟩ | ⟨h, h2, h5⟩ | ⟨⟨h, h2⟩, h5⟩
    rotate_right
    · have hd : d = 1 ∨ d = 2 ∨ d = 3 ∨ d = 4 ∨ d = 5 ∨ d = 6 ∨ d = 7 ∨ d = 8 := by omega
      have hn0 : 0 ≤ n := by simp only [decide_eq_false_iff_not] at h5; omega
      clear h h2 h3
      rcases hd with rfl | rfl | rfl | rfl | rfl | rfl | rfl | rfl
      all_goals clear hq3 hq4
      · have e : (2 : Int) ^ ((1 : Int).toNat) = 2 := by decide
        have hv : (decide (2 ≤ n) = false ∧ (0 : Int) = numCode 15 n 1) ∨ (decide (2 ≤ n) = true ∧ (3 : Int) = numCode 15 n 1) := by
          rw [numCode, hnb, e]
          simp only [decide_eq_true_eq, decide_eq_false_iff_not]
          by_cases hlt : n < 2
          · rw [if_neg (by omega)]; omega
          · rw [if_pos (by omega)]; omega
        clear hnb e hn0
        rcases hv with ⟨hv, hr⟩ | ⟨hv, hr⟩
        all_goals
          have HR := Lib.hid hr
          clear hr
          go_enter Tryz.func43, Tryz.ntmps43
          go_wp2_with fail
          go_quiet (fail)
          go_wp2_with fail
          go_ret
          exact ⟨ret_int HR.out, below_drewN HB.out _⟩
      · have e : (2 : Int) ^ ((2 : Int).toNat) = 4 := by decide
        have hv : (decide (4 ≤ n) = false ∧ (0 : Int) = numCode 15 n 2) ∨ (decide (4 ≤ n) = true ∧ (3 : Int) = numCode 15 n 2) := by
          rw [numCode, hnb, e]
          simp only [decide_eq_true_eq, decide_eq_false_iff_not]
          by_cases hlt : n < 4
          · rw [if_neg (by omega)]; omega
          · rw [if_pos (by omega)]; omega
        clear hnb e hn0
        rcases hv with ⟨hv, hr⟩ | ⟨hv, hr⟩
        all_goals
          have HR := Lib.hid hr
          clear hr
          go_enter Tryz.func43, Tryz.ntmps43
          go_wp2_with fail
          go_quiet (fail)
          go_wp2_with fail
          go_ret
          exact ⟨ret_int HR.out, below_drewN HB.out _⟩
      · have e : (2 : Int) ^ ((3 : Int).toNat) = 8 := by decide
        have hv : (decide (8 ≤ n) = false ∧ (0 : Int) = numCode 15 n 3) ∨ (decide (8 ≤ n) = true ∧ (3 : Int) = numCode 15 n 3) := by
          rw [numCode, hnb, e]
          simp only [decide_eq_true_eq, decide_eq_false_iff_not]
          by_cases hlt : n < 8
          · rw [if_neg (by omega)]; omega
          · rw [if_pos (by omega)]; omega
        clear hnb e hn0
        rcases hv with ⟨hv, hr⟩ | ⟨hv, hr⟩
        all_goals
          have HR := Lib.hid hr
          clear hr
          go_enter Tryz.func43, Tryz.ntmps43
          go_wp2_with fail
          go_quiet (fail)
          go_wp2_with fail
          go_ret
          exact ⟨ret_int HR.out, below_drewN HB.out _⟩
      · have e : (2 : Int) ^ ((4 : Int).toNat) = 16 := by decide
        have hv : (decide (16 ≤ n) = false ∧ (0 : Int) = numCode 15 n 4) ∨ (decide (16 ≤ n) = true ∧ (3 : Int) = numCode 15 n 4) := by
          rw [numCode, hnb, e]
          simp only [decide_eq_true_eq, decide_eq_false_iff_not]
          by_cases hlt : n < 16
          · rw [if_neg (by omega)]; omega
          · rw [if_pos (by omega)]; omega
        clear hnb e hn0
        rcases hv with ⟨hv, hr⟩ | ⟨hv, hr⟩
        all_goals
          have HR := Lib.hid hr
          clear hr
          go_enter Tryz.func43, Tryz.ntmps43
          go_wp2_with fail
          go_quiet (fail)
          go_wp2_with fail
          go_ret
          exact ⟨ret_int HR.out, below_drewN HB.out _⟩
      · have e : (2 : Int) ^ ((5 : Int).toNat) = 32 := by decide
        have hv : (decide (32 ≤ n) = false ∧ (0 : Int) = numCode 15 n 5) ∨ (decide (32 ≤ n) = true ∧ (3 : Int) = numCode 15 n 5) := by
          rw [numCode, hnb, e]
          simp only [decide_eq_true_eq, decide_eq_false_iff_not]
          by_cases hlt : n < 32
          · rw [if_neg (by omega)]; omega
          · rw [if_pos (by omega)]; omega
        clear hnb e hn0
        rcases hv with ⟨hv, hr⟩ | ⟨hv, hr⟩
        all_goals
          have HR := Lib.hid hr
          clear hr
          go_enter Tryz.func43, Tryz.ntmps43
          go_wp2_with fail
          go_quiet (fail)
          go_wp2_with fail
          go_ret
          exact ⟨ret_int HR.out, below_drewN HB.out _⟩
      · have e : (2 : Int) ^ ((6 : Int).toNat) = 64 := by decide
        have hv : (decide (64 ≤ n) = false ∧ (0 : Int) = numCode 15 n 6) ∨ (decide (64 ≤ n) = true ∧ (3 : Int) = numCode 15 n 6) := by
          rw [numCode, hnb, e]
          simp only [decide_eq_true_eq, decide_eq_false_iff_not]
          by_cases hlt : n < 64
          · rw [if_neg (by omega)]; omega
          · rw [if_pos (by omega)]; omega
        clear hnb e hn0
        rcases hv with ⟨hv, hr⟩ | ⟨hv, hr⟩
        all_goals
          have HR := Lib.hid hr
          clear hr
          go_enter Tryz.func43, Tryz.ntmps43
          go_wp2_with fail
          go_quiet (fail)
          go_wp2_with fail
          go_ret
          exact ⟨ret_int HR.out, below_drewN HB.out _⟩
      · have e : (2 : Int) ^ ((7 : Int).toNat) = 128 := by decide
        have hv : (decide (128 ≤ n) = false ∧ (0 : Int) = numCode 15 n 7) ∨ (decide (128 ≤ n) = true ∧ (3 : Int) = numCode 15 n 7) := by
          rw [numCode, hnb, e]
          simp only [decide_eq_true_eq, decide_eq_false_iff_not]
          by_cases hlt : n < 128
          · rw [if_neg (by omega)]; omega
          · rw [if_pos (by omega)]; omega
        clear hnb e hn0
        rcases hv with ⟨hv, hr⟩ | ⟨hv, hr⟩
        all_goals
          have HR := Lib.hid hr
          clear hr
          go_enter Tryz.func43, Tryz.ntmps43
          go_wp2_with fail
          go_quiet (fail)
          go_wp2_with fail
          go_ret
          exact ⟨ret_int HR.out, below_drewN HB.out _⟩
      · have e : (2 : Int) ^ ((8 : Int).toNat) = 256 := by decide
        have hv : (decide (256 ≤ n) = false ∧ (0 : Int) = numCode 15 n 8) ∨ (decide (256 ≤ n) = true ∧ (3 : Int) = numCode 15 n 8) := by
          rw [numCode, hnb, e]
          simp only [decide_eq_true_eq, decide_eq_false_iff_not]
          by_cases hlt : n < 256
          · rw [if_neg (by omega)]; omega
          · rw [if_pos (by omega)]; omega
        clear hnb e hn0
        rcases hv with ⟨hv, hr⟩ | ⟨hv, hr⟩
        all_goals
          have HR := Lib.hid hr
          clear hr
          go_enter Tryz.func43, Tryz.ntmps43
          go_wp2_with fail
          go_quiet (fail)
          go_wp2_with fail
          go_ret
          exact ⟨ret_int HR.out, below_drewN HB.out _⟩
    all_goals
      have HR := Lib.hid (h3 (by simp only [decide_eq_true_eq, decide_eq_false_iff_not] at *; omega))
      clear hnb h3
      go_enter Tryz.func43, Tryz.ntmps43
      go_wp2_with fail
      go_quiet (fail)
      go_wp2_with fail
      go_ret
      exact ⟨ret_int HR.out, below_drewN HB.out _⟩

end Go.Proofs.YtggkfepifnfdoaaGreat
