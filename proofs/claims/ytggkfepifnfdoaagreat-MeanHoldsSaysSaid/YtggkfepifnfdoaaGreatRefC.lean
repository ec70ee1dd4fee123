/- Walks: operations on words: the reference. -/
import Derived.Test.YtggkfepifnfdoaaGreatWords
import Derived.Test.YtggkfepifnfdoaaGreatCore
namespace Go.Proofs.YtggkfepifnfdoaaGreat
open Go.RowKit

theorem shl_bits {b p : Int} (h1 : 1 ≤ b) (h8 : b ≤ 8) (h : (2 : Int) ^ b.toNat = p) : (2 ≤ p ∧ p ≤ 256) ∧ wrap64 (2 ^ b.toNat) = p ∧ IntKind.i64.wrap (1 * 2 ^ b.toNat) = p := by
  have hp := pow_bits h1 h8
  rw [h] at hp
  have e : IntKind.i64.wrap p = p := by rw [IntKind.wrap_i64]; omega
  rw [Int.one_mul, h]
  exact ⟨hp, by rw [IntWalk.wrap64_in p ⟨by omega, by omega⟩], e⟩
theorem bit_at (X k : Nat) (hX : X < 4611686018427387904) : bits .and .i64 ((X : Int) / 2 ^ k) 1 = if X.testBit k = true then 1 else 0 := by
  have e : ((X : Int) / 2 ^ k) = ((X / 2 ^ k : Nat) : Int) := by rw [Int.natCast_ediv]; simp
  have hl : X / 2 ^ k ≤ X := Nat.div_le_self _ _
  rw [e, Nat.testBit_eq_decide_div_mod_eq]
  generalize X / 2 ^ k = q at hl
  rw [bits_and (by omega) (by omega) (by omega) (by omega), landN, Int.toNat_natCast, show (1 : Int).toNat = 1 from rfl, Nat.and_one_is_mod]
  have h2 : q % 2 = 0 ∨ q % 2 = 1 := by omega
  rcases h2 with h | h <;> rw [h] <;> simp
theorem mod_step (Z k : Nat) : (((Z % 2 ^ (k + 1) : Nat)) : Int) = ((Z % 2 ^ k : Nat) : Int) + if Z.testBit k = true then 2 ^ k else 0 := by
  rw [Nat.pow_succ, Nat.mod_mul, Nat.testBit_eq_decide_div_mod_eq]
  have h2 : Z / 2 ^ k % 2 = 0 ∨ Z / 2 ^ k % 2 = 1 := by omega
  rcases h2 with h | h <;> rw [h] <;> simp
theorem pow_small {k : Nat} (hk : k ≤ 7) : (1 : Int) ≤ 2 ^ k ∧ (2 : Int) ^ k ≤ 128 := by
  have h : k = 0 ∨ k = 1 ∨ k = 2 ∨ k = 3 ∨ k = 4 ∨ k = 5 ∨ k = 6 ∨ k = 7 := by omega
  rcases h with rfl | rfl | rfl | rfl | rfl | rfl | rfl | rfl <;> decide

set_option maxHeartbeats 1000000 in
theorem wordOp_16 (b x y n R : Int) (w : World) (h1 : 1 ≤ b) (h8 : b ≤ 8) (hx0 : 0 ≤ x) (hx : x < 2 ^ b.toNat) (hR : wordF 16 b x y n = R) : Calls Tryz.prog 52 #[.int .i64 16, .int .i64 b, .int .i64 x, .int .i64 y, .int .i64 n] w fun e w' => e = .returned (.int .i64 R) ∧ w = w' := by
  obtain ⟨p, hpd⟩ : ∃ p, (2 : Int) ^ b.toNat = p := ⟨_, rfl⟩
  obtain ⟨⟨hp1, hp2⟩, hs1, hs2⟩ := shl_bits h1 h8 hpd
  rw [show wordF 16 b x y n = 2 ^ b.toNat - 1 - x from by simp [wordF], hpd] at hR
  rw [hpd] at hx
  have HR := Lib.hid hR
  have hp0 : (p == 0) = false := by rw [beq_eq_false_iff_ne]; omega
  have hpn : ¬ p = 0 := by omega
  have hpe : p - 1 + 1 = p := by omega
  clear hR hpd
  go_enter Tryz.func52, Tryz.ntmps52
  go_wp2_with fail
  go_ret
  exact ⟨ret_int HR.out, rfl⟩

set_option maxHeartbeats 1000000 in
theorem wordOp_20 (b x y n R : Int) (w : World) (h1 : 1 ≤ b) (h8 : b ≤ 8) (hx0 : 0 ≤ x) (hx : x < 2 ^ b.toNat) (hy0 : 0 ≤ y) (hy : y < 2 ^ b.toNat) (hR : wordF 20 b x y n = R) : Calls Tryz.prog 52 #[.int .i64 20, .int .i64 b, .int .i64 x, .int .i64 y, .int .i64 n] w fun e w' => e = .returned (.int .i64 R) ∧ w = w' := by
  obtain ⟨p, hpd⟩ : ∃ p, (2 : Int) ^ b.toNat = p := ⟨_, rfl⟩
  obtain ⟨⟨hp1, hp2⟩, hs1, hs2⟩ := shl_bits h1 h8 hpd
  rw [show wordF 20 b x y n = (x + y) % 2 ^ b.toNat from by simp [wordF], hpd] at hR
  rw [hpd] at hx hy
  have HR := Lib.hid hR
  have hp0 : (p == 0) = false := by rw [beq_eq_false_iff_ne]; omega
  have hpn : ¬ p = 0 := by omega
  have hpe : p - 1 + 1 = p := by omega
  have hmb : 0 ≤ (x + y) % p := Int.emod_nonneg _ (by omega)
  have hml : (x + y) % p < p := Int.emod_lt_of_pos _ (by omega)
  clear hR hpd
  go_enter Tryz.func52, Tryz.ntmps52
  go_wp2_with fail
  go_ret
  exact ⟨ret_int HR.out, rfl⟩

set_option maxHeartbeats 1000000 in
theorem wordOp_21 (b x y n R : Int) (w : World) (h1 : 1 ≤ b) (h8 : b ≤ 8) (hx0 : 0 ≤ x) (hx : x < 2 ^ b.toNat) (hy0 : 0 ≤ y) (hy : y < 2 ^ b.toNat) (hR : wordF 21 b x y n = R) : Calls Tryz.prog 52 #[.int .i64 21, .int .i64 b, .int .i64 x, .int .i64 y, .int .i64 n] w fun e w' => e = .returned (.int .i64 R) ∧ w = w' := by
  obtain ⟨p, hpd⟩ : ∃ p, (2 : Int) ^ b.toNat = p := ⟨_, rfl⟩
  obtain ⟨⟨hp1, hp2⟩, hs1, hs2⟩ := shl_bits h1 h8 hpd
  rw [show wordF 21 b x y n = x * y % 2 ^ b.toNat from by simp [wordF], hpd] at hR
  rw [hpd] at hx hy
  have HR := Lib.hid hR
  have hp0 : (p == 0) = false := by rw [beq_eq_false_iff_ne]; omega
  have hpn : ¬ p = 0 := by omega
  have hpe : p - 1 + 1 = p := by omega
  have hm0 : 0 ≤ x * y := Int.mul_nonneg hx0 hy0
  have hm1 : x * y ≤ 256 * 256 := Int.mul_le_mul (by omega) (by omega) hy0 (by omega)
  have hmb : 0 ≤ x * y % p := Int.emod_nonneg _ (by omega)
  have hml : x * y % p < p := Int.emod_lt_of_pos _ (by omega)
  clear hR hpd
  go_enter Tryz.func52, Tryz.ntmps52
  go_wp2_with fail
  go_ret
  exact ⟨ret_int HR.out, rfl⟩

set_option maxHeartbeats 1000000 in
theorem wordOp_23 (b x y n R : Int) (w : World) (h1 : 1 ≤ b) (h8 : b ≤ 8) (hx0 : 0 ≤ x) (hx : x < 2 ^ b.toNat) (hn0 : 0 ≤ n) (hn : n ≤ 8) (hR : wordF 23 b x y n = R) : Calls Tryz.prog 52 #[.int .i64 23, .int .i64 b, .int .i64 x, .int .i64 y, .int .i64 n] w fun e w' => e = .returned (.int .i64 R) ∧ w = w' := by
  obtain ⟨p, hpd⟩ : ∃ p, (2 : Int) ^ b.toNat = p := ⟨_, rfl⟩
  obtain ⟨⟨hp1, hp2⟩, hs1, hs2⟩ := shl_bits h1 h8 hpd
  rw [show wordF 23 b x y n = x * 2 ^ n.toNat % 2 ^ b.toNat from by simp [wordF], hpd] at hR
  rw [hpd] at hx
  obtain ⟨N, rfl⟩ : ∃ N : Nat, n = N := ⟨n.toNat, by omega⟩
  rw [Int.toNat_natCast] at hR
  have HR := Lib.hid hR
  have H0 : Hid (x * 2 ^ 0 % p = x) := by show _ = _; rw [Int.pow_zero, Int.mul_one, Int.emod_eq_of_lt hx0 hx]
  have hp0 : (p == 0) = false := by rw [beq_eq_false_iff_ne]; omega
  have hpn : ¬ p = 0 := by omega
  have hpe : p - 1 + 1 = p := by omega
  clear hR hpd
  go_enter Tryz.func52, Tryz.ntmps52
  go_wp2_with fail
  go_loop [2, 12] (fun s2 s12 => ∃ (k : Nat) (v : Int), k ≤ N ∧ s12 = .int .i64 k ∧ s2 = .int .i64 v ∧ 0 ≤ v ∧ v < p ∧ Hid (x * 2 ^ k % p = v)) (fun _ s12 => N - (intOf s12).toNat)
  case atStart => exact ⟨0, x, Nat.zero_le _, rfl, rfl, hx0, hx, H0⟩
  case round =>
    obtain ⟨k, v, hk, rfl, rfl, hv0, hv, HV⟩ := hrel
    by_cases hlt : k < N
    · have hmb : 0 ≤ 2 * v % p := Int.emod_nonneg _ (by omega)
      have hml : 2 * v % p < p := Int.emod_lt_of_pos _ (by omega)
      have hkI : (k : Int) < (N : Int) := by omega
      go_wp2_with fail
      go_round
      case rel => exact ⟨k + 1, 2 * v % p, by omega, by go_num, rfl, hmb, hml, by show _ = _; rw [← HV.out, Int.mul_emod 2, Int.emod_emod, ← Int.mul_emod, Int.pow_succ, ← Int.mul_assoc, Int.mul_comm (x * 2 ^ k) 2]⟩
      case measure => simp [intOf]; omega
    · obtain rfl : N = k := by omega
      have hkI : ¬ (N : Int) < (N : Int) := by omega
      go_wp2_with fail
      go_ret
      exact ⟨ret_int (by rw [← HR.out, ← HV.out]), rfl⟩

set_option maxHeartbeats 2000000 in
theorem wordOp_17 (b x y n R : Int) (w : World) (h1 : 1 ≤ b) (h8 : b ≤ 8) (hx0 : 0 ≤ x) (hx : x < 2 ^ b.toNat) (hy0 : 0 ≤ y) (hy : y < 2 ^ b.toNat) (hR : wordF 17 b x y n = R) : Calls Tryz.prog 52 #[.int .i64 17, .int .i64 b, .int .i64 x, .int .i64 y, .int .i64 n] w fun e w' => e = .returned (.int .i64 R) ∧ w = w' := by
  rw [show wordF 17 b x y n = landN x y from by simp [wordF]] at hR
  obtain ⟨B, rfl⟩ : ∃ B : Nat, b = B := ⟨b.toNat, by omega⟩
  obtain ⟨X, rfl⟩ : ∃ X : Nat, x = X := ⟨x.toNat, by omega⟩
  obtain ⟨Y, rfl⟩ : ∃ Y : Nat, y = Y := ⟨y.toNat, by omega⟩
  have hp := pow_bits h1 h8
  rw [Int.toNat_natCast] at hx hy hp
  have hXn : X < 2 ^ B := by have : ((2 ^ B : Nat) : Int) = 2 ^ B := by simp
                             omega
  have hYn : Y < 2 ^ B := by have : ((2 ^ B : Nat) : Int) = 2 ^ B := by simp
                             omega
  have hZ : X &&& Y < 2 ^ B := Nat.lt_of_le_of_lt Nat.and_le_left hXn
  have hRZ : ((X &&& Y : Nat) : Int) = R := by rw [← hR]; rfl
  have HZ := Lib.hid (And.intro hZ hRZ)
  have HT : Hid (∀ k, (X &&& Y).testBit k = (X.testBit k && Y.testBit k)) := fun k => by simp
  have hXs : X < 256 := by omega
  have hYs : Y < 256 := by omega
  have HXY := Lib.hid (And.intro hXs hYs)
  generalize X &&& Y = Z at HZ HT
  clear hR hx hy hXn hYn hZ hRZ hx0 hy0 hXs hYs hp
  go_enter Tryz.func52, Tryz.ntmps52
  go_wp2_with fail
  go_loop [13, 14] (fun s13 s14 => ∃ (k : Nat) (o : Int), k ≤ B ∧ s14 = .int .i64 k ∧ s13 = .int .i64 o ∧ 0 ≤ o ∧ o < 2 ^ k ∧ Hid (((Z % 2 ^ k : Nat) : Int) = o)) (fun _ s14 => B - (intOf s14).toNat)
  case atStart => exact ⟨0, 0, Nat.zero_le _, rfl, rfl, Int.le_refl _, by decide, by show _ = _; simp [Nat.mod_one]⟩
  case round =>
    obtain ⟨k, o, hk, rfl, rfl, ho0, ho, HO⟩ := hrel
    by_cases hlt : k < B
    · have hkI : (k : Int) < (B : Int) := by omega
      have hq := pow_small (k := k) (by omega)
      have hbx := bit_at X k (by have := HXY.out.1; omega)
      have hby := bit_at Y k (by have := HXY.out.2; omega)
      have hst := mod_step Z k
      rw [HO.out, HT.out] at hst
      obtain ⟨q, hq2⟩ : ∃ q, (2 : Int) ^ k = q := ⟨_, rfl⟩
      have hw : wrap64 (2 ^ k) = q := by rw [hq2]; rw [hq2] at hq; exact IntWalk.wrap64_in q ⟨by omega, by omega⟩
      have hpk : (2 : Int) ^ (k + 1) = q + q := by rw [Int.pow_succ, hq2]; omega
      rw [hq2] at hst ho hq
      obtain ⟨hq0, hq1⟩ := hq
      have HPK := Lib.hid hpk
      clear hpk hq2
      cases hxt : X.testBit k <;> cases hyt : Y.testBit k
      all_goals
        first | rw [hxt, if_pos rfl] at hbx | rw [hxt, if_neg (by simp)] at hbx
        first | rw [hyt, if_pos rfl] at hby | rw [hyt, if_neg (by simp)] at hby
        obtain ⟨L, hL⟩ : ∃ L, ((Z % 2 ^ (k + 1) : Nat) : Int) = L := ⟨_, rfl⟩
        rw [hL, hxt, hyt] at hst
        simp at hst
        have HST : Hid (((Z % 2 ^ (k + 1) : Nat) : Int) = _) := hL.trans hst
        clear hL
        clear hst hxt hyt
        go_wp2_with fail
        go_round
        case rel => exact ⟨k + 1, _, by omega, by go_num, rfl, by omega, by rw [HPK.out]; omega, HST⟩
        case measure => simp [intOf]; omega
    · obtain rfl : B = k := by omega
      have hkI : ¬ (B : Int) < (B : Int) := by omega
      have hRo : o = R := by rw [← HO.out, ← HZ.out.2, Nat.mod_eq_of_lt HZ.out.1]
      have HRO := Lib.hid hRo
      clear hRo
      go_wp2_with fail
      go_ret
      exact ⟨ret_int HRO.out, rfl⟩

set_option maxHeartbeats 2000000 in
theorem wordOp_18 (b x y n R : Int) (w : World) (h1 : 1 ≤ b) (h8 : b ≤ 8) (hx0 : 0 ≤ x) (hx : x < 2 ^ b.toNat) (hy0 : 0 ≤ y) (hy : y < 2 ^ b.toNat) (hR : wordF 18 b x y n = R) : Calls Tryz.prog 52 #[.int .i64 18, .int .i64 b, .int .i64 x, .int .i64 y, .int .i64 n] w fun e w' => e = .returned (.int .i64 R) ∧ w = w' := by
  rw [show wordF 18 b x y n = lorN x y from by simp [wordF]] at hR
  obtain ⟨B, rfl⟩ : ∃ B : Nat, b = B := ⟨b.toNat, by omega⟩
  obtain ⟨X, rfl⟩ : ∃ X : Nat, x = X := ⟨x.toNat, by omega⟩
  obtain ⟨Y, rfl⟩ : ∃ Y : Nat, y = Y := ⟨y.toNat, by omega⟩
  have hp := pow_bits h1 h8
  rw [Int.toNat_natCast] at hx hy hp
  have hXn : X < 2 ^ B := by have : ((2 ^ B : Nat) : Int) = 2 ^ B := by simp
                             omega
  have hYn : Y < 2 ^ B := by have : ((2 ^ B : Nat) : Int) = 2 ^ B := by simp
                             omega
  have hZ : X ||| Y < 2 ^ B := Nat.or_lt_two_pow hXn hYn
  have hRZ : ((X ||| Y : Nat) : Int) = R := by rw [← hR]; rfl
  have HZ := Lib.hid (And.intro hZ hRZ)
  have HT : Hid (∀ k, (X ||| Y).testBit k = (X.testBit k || Y.testBit k)) := fun k => by simp
  have hXs : X < 256 := by omega
  have hYs : Y < 256 := by omega
  have HXY := Lib.hid (And.intro hXs hYs)
  generalize X ||| Y = Z at HZ HT
  clear hR hx hy hXn hYn hZ hRZ hx0 hy0 hXs hYs hp
  go_enter Tryz.func52, Tryz.ntmps52
  go_wp2_with fail
  go_loop [13, 14] (fun s13 s14 => ∃ (k : Nat) (o : Int), k ≤ B ∧ s14 = .int .i64 k ∧ s13 = .int .i64 o ∧ 0 ≤ o ∧ o < 2 ^ k ∧ Hid (((Z % 2 ^ k : Nat) : Int) = o)) (fun _ s14 => B - (intOf s14).toNat)
  case atStart => exact ⟨0, 0, Nat.zero_le _, rfl, rfl, Int.le_refl _, by decide, by show _ = _; simp [Nat.mod_one]⟩
  case round =>
    obtain ⟨k, o, hk, rfl, rfl, ho0, ho, HO⟩ := hrel
    by_cases hlt : k < B
    · have hkI : (k : Int) < (B : Int) := by omega
      have hq := pow_small (k := k) (by omega)
      have hbx := bit_at X k (by have := HXY.out.1; omega)
      have hby := bit_at Y k (by have := HXY.out.2; omega)
      have hst := mod_step Z k
      rw [HO.out, HT.out] at hst
      obtain ⟨q, hq2⟩ : ∃ q, (2 : Int) ^ k = q := ⟨_, rfl⟩
      have hw : wrap64 (2 ^ k) = q := by rw [hq2]; rw [hq2] at hq; exact IntWalk.wrap64_in q ⟨by omega, by omega⟩
      have hpk : (2 : Int) ^ (k + 1) = q + q := by rw [Int.pow_succ, hq2]; omega
      rw [hq2] at hst ho hq
      obtain ⟨hq0, hq1⟩ := hq
      have HPK := Lib.hid hpk
      clear hpk hq2
      cases hxt : X.testBit k <;> cases hyt : Y.testBit k
      all_goals
        first | rw [hxt, if_pos rfl] at hbx | rw [hxt, if_neg (by simp)] at hbx
        first | rw [hyt, if_pos rfl] at hby | rw [hyt, if_neg (by simp)] at hby
        obtain ⟨L, hL⟩ : ∃ L, ((Z % 2 ^ (k + 1) : Nat) : Int) = L := ⟨_, rfl⟩
        rw [hL, hxt, hyt] at hst
        simp at hst
        have HST : Hid (((Z % 2 ^ (k + 1) : Nat) : Int) = _) := hL.trans hst
        clear hL
        clear hst hxt hyt
        go_wp2_with fail
        go_round
        case rel => exact ⟨k + 1, _, by omega, by go_num, rfl, by omega, by rw [HPK.out]; omega, HST⟩
        case measure => simp [intOf]; omega
    · obtain rfl : B = k := by omega
      have hkI : ¬ (B : Int) < (B : Int) := by omega
      have hRo : o = R := by rw [← HO.out, ← HZ.out.2, Nat.mod_eq_of_lt HZ.out.1]
      have HRO := Lib.hid hRo
      clear hRo
      go_wp2_with fail
      go_ret
      exact ⟨ret_int HRO.out, rfl⟩

set_option maxHeartbeats 2000000 in
theorem wordOp_19 (b x y n R : Int) (w : World) (h1 : 1 ≤ b) (h8 : b ≤ 8) (hx0 : 0 ≤ x) (hx : x < 2 ^ b.toNat) (hy0 : 0 ≤ y) (hy : y < 2 ^ b.toNat) (hR : wordF 19 b x y n = R) : Calls Tryz.prog 52 #[.int .i64 19, .int .i64 b, .int .i64 x, .int .i64 y, .int .i64 n] w fun e w' => e = .returned (.int .i64 R) ∧ w = w' := by
  rw [show wordF 19 b x y n = lxorN x y from by simp [wordF]] at hR
  obtain ⟨B, rfl⟩ : ∃ B : Nat, b = B := ⟨b.toNat, by omega⟩
  obtain ⟨X, rfl⟩ : ∃ X : Nat, x = X := ⟨x.toNat, by omega⟩
  obtain ⟨Y, rfl⟩ : ∃ Y : Nat, y = Y := ⟨y.toNat, by omega⟩
  have hp := pow_bits h1 h8
  rw [Int.toNat_natCast] at hx hy hp
  have hXn : X < 2 ^ B := by have : ((2 ^ B : Nat) : Int) = 2 ^ B := by simp
                             omega
  have hYn : Y < 2 ^ B := by have : ((2 ^ B : Nat) : Int) = 2 ^ B := by simp
                             omega
  have hZ : X ^^^ Y < 2 ^ B := Nat.xor_lt_two_pow hXn hYn
  have hRZ : ((X ^^^ Y : Nat) : Int) = R := by rw [← hR]; rfl
  have HZ := Lib.hid (And.intro hZ hRZ)
  have HT : Hid (∀ k, (X ^^^ Y).testBit k = (X.testBit k ^^ Y.testBit k)) := fun k => by simp
  have hXs : X < 256 := by omega
  have hYs : Y < 256 := by omega
  have HXY := Lib.hid (And.intro hXs hYs)
  generalize X ^^^ Y = Z at HZ HT
  clear hR hx hy hXn hYn hZ hRZ hx0 hy0 hXs hYs hp
  go_enter Tryz.func52, Tryz.ntmps52
  go_wp2_with fail
  go_loop [13, 14] (fun s13 s14 => ∃ (k : Nat) (o : Int), k ≤ B ∧ s14 = .int .i64 k ∧ s13 = .int .i64 o ∧ 0 ≤ o ∧ o < 2 ^ k ∧ Hid (((Z % 2 ^ k : Nat) : Int) = o)) (fun _ s14 => B - (intOf s14).toNat)
  case atStart => exact ⟨0, 0, Nat.zero_le _, rfl, rfl, Int.le_refl _, by decide, by show _ = _; simp [Nat.mod_one]⟩
  case round =>
    obtain ⟨k, o, hk, rfl, rfl, ho0, ho, HO⟩ := hrel
    by_cases hlt : k < B
    · have hkI : (k : Int) < (B : Int) := by omega
      have hq := pow_small (k := k) (by omega)
      have hbx := bit_at X k (by have := HXY.out.1; omega)
      have hby := bit_at Y k (by have := HXY.out.2; omega)
      have hst := mod_step Z k
      rw [HO.out, HT.out] at hst
      obtain ⟨q, hq2⟩ : ∃ q, (2 : Int) ^ k = q := ⟨_, rfl⟩
      have hw : wrap64 (2 ^ k) = q := by rw [hq2]; rw [hq2] at hq; exact IntWalk.wrap64_in q ⟨by omega, by omega⟩
      have hpk : (2 : Int) ^ (k + 1) = q + q := by rw [Int.pow_succ, hq2]; omega
      rw [hq2] at hst ho hq
      obtain ⟨hq0, hq1⟩ := hq
      have HPK := Lib.hid hpk
      clear hpk hq2
      cases hxt : X.testBit k <;> cases hyt : Y.testBit k
      all_goals
        first | rw [hxt, if_pos rfl] at hbx | rw [hxt, if_neg (by simp)] at hbx
        first | rw [hyt, if_pos rfl] at hby | rw [hyt, if_neg (by simp)] at hby
        obtain ⟨L, hL⟩ : ∃ L, ((Z % 2 ^ (k + 1) : Nat) : Int) = L := ⟨_, rfl⟩
        rw [hL, hxt, hyt] at hst
        simp at hst
        have HST : Hid (((Z % 2 ^ (k + 1) : Nat) : Int) = _) := hL.trans hst
        clear hL
        clear hst hxt hyt
        go_wp2_with fail
        go_round
        case rel => exact ⟨k + 1, _, by omega, by go_num, rfl, by omega, by rw [HPK.out]; omega, HST⟩
        case measure => simp [intOf]; omega
    · obtain rfl : B = k := by omega
      have hkI : ¬ (B : Int) < (B : Int) := by omega
      have hRo : o = R := by rw [← HO.out, ← HZ.out.2, Nat.mod_eq_of_lt HZ.out.1]
      have HRO := Lib.hid hRo
      clear hRo
      go_wp2_with fail
      go_ret
      exact ⟨ret_int HRO.out, rfl⟩

end Go.Proofs.YtggkfepifnfdoaaGreat
