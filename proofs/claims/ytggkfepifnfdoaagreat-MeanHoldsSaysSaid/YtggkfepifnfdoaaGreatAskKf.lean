/- Walk: the reference's fault of the fields of a fraction. -/
import Derived.Test.YtggkfepifnfdoaaGreatAskJK
namespace Go.Proofs.YtggkfepifnfdoaaGreat
open Go.RowKit

set_option maxRecDepth 100000 in
set_option maxHeartbeats 8000000 in
theorem fieldsK_frac (op n d : Int) (A : Option Addr) (m c : Nat) (nm : ByteArray) (w : World) (hop : op = 10 ∨ op = 12) (hn : nm.toList.isEmpty = true) :
    Calls Tryz.prog 43 #[.agg #[.int .i64 op, .slice A m c, .int .i64 n, .int .i64 d, .string nm]] w fun e w' => e = .returned (.int .i64 (numCode op n d)) ∧ Below w.heap.size w w' := by
  have HB : Hid (Below w.heap.size w (w.alloc (.cells #[.int .i64 op, .slice A m c, .int .i64 n, .int .i64 d, .string nm] 43))) := (Below.refl _ _).alloc (Nat.le_refl _) _
  have hc : n < -1000000 ∨ (-1000000 ≤ n ∧ 1000000 < n) ∨ ((-1000000 ≤ n ∧ n ≤ 1000000) ∧ d < 1) ∨ ((-1000000 ≤ n ∧ n ≤ 1000000) ∧ 1 ≤ d ∧ 1000000 < d) ∨ ((-1000000 ≤ n ∧ n ≤ 1000000) ∧ 1 ≤ d ∧ d ≤ 1000000) := by omega
  have hnb : numbersB op n d = decide (-1000000 ≤ n ∧ n ≤ 1000000 ∧ 1 ≤ d ∧ d ≤ 1000000 ∧ Int.gcd n d = 1) := by rw [numbersB, if_pos hop]
  cases hq : (n == 0) <;> cases hq3 : (d == 0)
  all_goals
    have hq2 := int_bne hq
    have hq4 := int_bne hq3
    simp only [Bool.not_true, Bool.not_false] at hq2 hq4
    rcases hc with h | ⟨h, h2⟩ | ⟨⟨h, h2⟩, h3⟩ | ⟨⟨h, h2⟩, h3, h4⟩ | ⟨⟨h, h2⟩, h3, h4⟩
    rotate_right
    · have HG := Lib.hid (gcdI_any n d (w.alloc (.cells #[.int .i64 op, .slice A m c, .int .i64 n, .int .i64 d, .string nm] 43)) (by omega) (by omega) (by omega) (by omega))
      have hin : ∀ b : Bool, ((((Int.gcd n d : Nat) : Int) == 1) = b) → (if b then (0 : Int) else 3) = numCode op n d := fun b hb => by
        cases b
        · simp only [beq_eq_false_iff_ne] at hb
          show (3 : Int) = numCode op n d
          rw [numCode, hnb, if_pos (by rw [decide_eq_false_iff_not]; omega)]
        · simp only [beq_iff_eq] at hb
          show (0 : Int) = numCode op n d
          rw [numCode, hnb, if_neg (by rw [decide_eq_false_iff_not]; omega)]
      generalize ((Int.gcd n d : Nat) : Int) = G at HG hin
      cases hg : (G == 1)
      · have HR := Lib.hid (hin _ hg)
        have hg2 := int_bne hg
        simp only [Bool.not_false] at hg2
        clear hnb hin
        rcases hop with rfl | rfl
        all_goals
          go_enter Tryz.func43, Tryz.ntmps43
          go_wp2_with fail
          refine HG.out.mono ?_
          rintro e w' ⟨rfl, nn, rfl⟩
          go_wp2_with fail
          go_ret
          exact ⟨ret_int HR.out, below_drewN HB.out _⟩
      · have HR := Lib.hid (hin _ hg)
        have hg2 := int_bne hg
        simp only [Bool.not_true] at hg2
        clear hnb hin
        rcases hop with rfl | rfl
        all_goals
          go_enter Tryz.func43, Tryz.ntmps43
          go_wp2_with fail
          refine HG.out.mono ?_
          rintro e w' ⟨rfl, nn, rfl⟩
          go_wp2_with fail
          go_quiet (fail)
          go_wp2_with fail
          go_ret
          exact ⟨ret_int HR.out, below_drewN (below_drewN HB.out _) _⟩
    all_goals
      have HR : Hid ((3 : Int) = numCode op n d) := by show _ = _; rw [numCode, hnb, if_pos (by rw [decide_eq_false_iff_not]; omega)]
      clear hnb
      rcases hop with rfl | rfl
      all_goals
        go_enter Tryz.func43, Tryz.ntmps43
        go_wp2_with fail
        go_ret
        exact ⟨ret_int HR.out, HB.out⟩
end Go.Proofs.YtggkfepifnfdoaaGreat
