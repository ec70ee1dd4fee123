/- Walks: umpiragekit.Picked (the part of KitA0 for seats without At). -/
import Derived.Test.YtdncchlfeanlmaaFuncs
import Derived.Test.YtdncchlfeanlmaaCore
namespace Go.Proofs.Ytdncchlfeanlmaa
open Go.RowKit

set_option maxHeartbeats 400000 in
theorem picked_any (a n R : Int) (w : World) (ha : I64 a) (h1 : 1 ≤ n) (h2 : n ≤ 9223372036854775807) (hR : a % n = R) : Calls Try.prog 7 #[.int .i64 a, .int .i64 n] w fun e w' => e = .returned (.int .i64 R) ∧ w = w' := by
  obtain ⟨h3, h4⟩ := ha
  have hn0 : (n == 0) = false := by rw [beq_eq_false_iff_ne]; omega
  have hn1 : (n == -1) = false := by rw [beq_eq_false_iff_ne]; omega
  by_cases h0 : 0 ≤ a
  · have hge := Int.emod_nonneg a (show n ≠ 0 by omega)
    have hlt := Int.emod_lt_of_pos a (show 0 < n by omega)
    have HR := Lib.hid hR
    have hng : ¬ a % n < 0 := by omega
    clear hR
    go_enter Try.func7, Try.ntmps7
    go_wp2_with fail
    go_ret
    exact ⟨ret_int HR.out, rfl⟩
  · have e : a.tmod n = -((-a) % n) := by rw [← Int.tmod_eq_emod_of_nonneg (show 0 ≤ -a by omega), Int.neg_tmod, Int.neg_neg]
    have hge := Int.emod_nonneg (-a) (show n ≠ 0 by omega)
    have hlt := Int.emod_lt_of_pos (-a) (show 0 < n by omega)
    obtain ⟨T, hT⟩ : ∃ T, a.tmod n = T := ⟨_, rfl⟩
    have hT1 : -n < T := by omega
    have hT2 : T ≤ 0 := by omega
    have hmod : (if T < 0 then T + n else T) = R := by
      rw [← hR]
      have h5 := Int.emod_emod_of_dvd a (Int.dvd_refl n)
      have h6 : a % n = T % n := by rw [← hT, Int.tmod_def, Int.sub_mul_emod_self_left]
      rw [h6]
      split
      · rw [← Int.add_emod_right, Int.emod_eq_of_lt (by omega) (by omega)]
      · rw [show T = 0 from by omega]; simp
    clear e hge hlt hR
    by_cases hT0 : T < 0
    · rw [if_pos hT0] at hmod
      have HR := Lib.hid hmod
      clear hmod
      go_enter Try.func7, Try.ntmps7
      go_wp2_with fail
      go_ret
      exact ⟨ret_int HR.out, rfl⟩
    · rw [if_neg hT0] at hmod
      have HR := Lib.hid hmod
      clear hmod
      go_enter Try.func7, Try.ntmps7
      go_wp2_with fail
      go_ret
      exact ⟨ret_int HR.out, rfl⟩

theorem wrap_i64 (x : Int) : I64 (wrap64 x) := by unfold wrap64 I64; omega
theorem picked_in (a n : Int) (w : World) (ha : I64 a) (h1 : 1 ≤ n) (h2 : n ≤ 9223372036854775807) : Calls Try.prog 7 #[.int .i64 a, .int .i64 n] w fun e w' => ∃ R : Int, e = .returned (.int .i64 R) ∧ w = w' ∧ 0 ≤ R ∧ R < n :=
  (picked_any a n (a % n) w ha h1 h2 rfl).mono fun _ _ ⟨h3, h4⟩ => ⟨a % n, h3, h4, Int.emod_nonneg a (by omega), Int.emod_lt_of_pos a (by omega)⟩
end Go.Proofs.Ytdncchlfeanlmaa
