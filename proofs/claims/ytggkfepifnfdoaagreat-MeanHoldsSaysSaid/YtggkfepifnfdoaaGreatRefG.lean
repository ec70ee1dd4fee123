/- Walk: the value of a node, operator by operator: the reference: sums, products, words. -/
import Derived.Test.YtggkfepifnfdoaaGreatRefD
import Derived.Test.YtggkfepifnfdoaaGreatValN
namespace Go.Proofs.YtggkfepifnfdoaaGreat
open Go.RowKit

set_option maxRecDepth 100000 in
set_option maxHeartbeats 4000000 in
theorem ref_word1 (A1 A2 A3 : Option Addr) (n1 c1 n2 c2 n3 c3 : Nat) (AM : Option Addr) (nm cm : Nat) (s : Int) (K : Option Addr) (kn kc : Nat) (N D : Int) (nme : ByteArray) (AK : Option Addr) (ck : Nat) (u : ValueD) (op b : Int) (S0 : Nat → Prop) (w : World) (hvs : Arr AtValue 4 w S0 AK 1 [u]) (hS0 : ∀ b, S0 b → b < w.heap.size) (h1 : 1 ≤ b) (h8 : b ≤ 8) (hsb : s = 10 + b) (hop : 16 ≤ op ∧ op ≤ 23 ∧ ¬ op = 22) (R : Int) (hW : ∀ W : World, Calls Tryz.prog 52 #[.int .i64 op, .int .i64 b, .int .i64 u.num, .int .i64 0, .int .i64 N] W fun e w' => e = .returned (.int .i64 R) ∧ W = w') :
    Calls Tryz.prog 17 #[.agg #[.slice A1 n1 c1, .slice A2 n2 c2, .slice A3 n3 c3], .agg #[.slice AM nm cm], .agg #[.int .i64 op, .slice K kn kc, .int .i64 N, .int .i64 D, .string nme], .int .i64 s, .slice AK 1 ck] w (ValueP S0 w (some (numV R))) := by
  obtain ⟨X, hX, hI, hsX⟩ := RefI.start w #[.slice A1 n1 c1, .slice A2 n2 c2, .slice A3 n3 c3] #[.slice AM nm cm] #[.int .i64 op, .slice K kn kc, .int .i64 N, .int .i64 D, .string nme]
  have x0 : X.cell? ⟨w.heap.size + 2, 0, none⟩ = some (.int .i64 op) := hI.node.cell 0
  have x2 : X.cell? ⟨w.heap.size + 2, 2, none⟩ = some (.int .i64 N) := hI.node.cell 2
  have x3 : X.cell? ⟨w.heap.size + 2, 3, none⟩ = some (.int .i64 D) := hI.node.cell 3
  have hzx : w.heap.size + 3 < X.heap.size := hI.val.lt
  have hvX : Arr AtValue 4 X S0 AK 1 [u] := hvs.keep stays_value (fun _ h => h) (fun b o h => hI.below.cell (p := ⟨b, o, none⟩) (hS0 b h))
  have HX := Lib.hid hX
  have HI := Lib.hid hI
  have HVX := Lib.hid hvX
  have HS0 := Lib.hid hS0
  have HSX := Lib.hid hsX
  have hl := hvX.len
  have HLV := Lib.hid hl
  obtain ⟨C, hC⟩ : ∃ C, ([u] : List ValueD).countP isOne = C := ⟨_, rfl⟩
  have HC0 : Hid (0 + (([u] : List ValueD).drop 0).countP isOne = C) := by show _ = _; rw [Nat.zero_add]; exact hC
  have HW := Lib.hid hW
  have hwb : wbits s = b := by rw [hsb, wbits, if_pos (by simp [wordB]; omega)]; omega
  have HWB := Lib.hid (fun W => wordBits_any s W)
  rw [hwb] at HWB
  obtain ⟨e1, e2, e3, e4, e5, e6, e7, e8, e9, e10, e11, e12, e13, e14, e24, e25⟩ := not_word (op := op) (by omega)
  have e15 : (op == 15) = false := by rw [beq_eq_false_iff_ne]; omega
  have e22 : (op == 22) = false := by rw [beq_eq_false_iff_ne]; omega
  clear hwb hsb h1 h8 hW hop
  have HCC := Lib.hid hC
  clear hX hI hsX hvs hvX hS0 hl hC
  go_enter Tryz.func17, Tryz.ntmps17
  go_wp2_with fail
  rw [HX.out]
  clear x0 x2 x3
  go_loop [16, 17] (fun s16 s17 => ∃ (k y : Nat), k ≤ 1 ∧ s17 = .int .i64 k ∧ s16 = .int .i64 y ∧ y ≤ k ∧ Hid (y + (([u] : List ValueD).drop k).countP isOne = C)) (fun _ s17 => 1 - (intOf s17).toNat)
  case atStart => exact ⟨0, 0, Nat.zero_le _, rfl, rfl, Nat.le_refl _, HC0⟩
  case round =>
    clear HC0
    obtain ⟨k, y, hk, rfl, rfl, hy, HY⟩ := hrel
    by_cases hlt : k < 1
    · obtain ⟨b0, off, hx, A5, n5, c5, rfl, -, v0, -, -, -, -, -, -, -, -, -⟩ := values_get HVX.out hlt
      have e1 := HY.out
      rw [drop_cons hx, List.countP_cons] at e1
      generalize ([u] : List ValueD)[k] = u9 at e1 v0
      obtain ⟨un9, ud9, uc9, ur9⟩ := u9
      dsimp only at v0
      clear hx HY
      cases hq : isOne ⟨un9, ud9, uc9, ur9⟩ with
      | true =>
        have q1 : (un9 == 1) = true := hq
        rw [hq, if_pos rfl] at e1
        have H1 : Hid (y + 1 + (([u] : List ValueD).drop (k + 1)).countP isOne = C) := by show _ = _; omega
        clear hq e1
        go_wp2_with fail
        go_round
        case rel => exact ⟨k + 1, y + 1, by omega, by go_num, by go_num, by omega, H1⟩
        case measure => simp [intOf]; omega
      | false =>
        have q1 : (un9 == 1) = false := hq
        rw [hq, if_neg (by simp)] at e1
        have H1 : Hid (y + (([u] : List ValueD).drop (k + 1)).countP isOne = C) := by show _ = _; omega
        clear hq e1
        go_wp2_with fail
        go_round
        case rel => exact ⟨k + 1, y, by omega, by go_num, rfl, by omega, H1⟩
        case measure => simp [intOf]; omega
    · have hkk : k = 1 := by omega
      subst hkk
      have e1 := HY.out
      rw [List.drop_of_length_le (by rw [HLV.out]; exact Nat.le_refl _), List.countP_nil, Nat.add_zero] at e1
      subst e1
      have x0 : X.cell? ⟨w.heap.size + 2, 0, none⟩ = some (.int .i64 op) := HI.out.node.cell 0
      have x2 : X.cell? ⟨w.heap.size + 2, 2, none⟩ = some (.int .i64 N) := HI.out.node.cell 2
      have x3 : X.cell? ⟨w.heap.size + 2, 3, none⟩ = some (.int .i64 D) := HI.out.node.cell 3
      clear HY hk hlt
      obtain ⟨b0, off, hx, A4, n4, c4, rfl, hb0, v0, v1, v2, v3, -, -, -, -, -, -⟩ := values_get HVX.out (i := 0) (by omega)
      simp only [List.getElem_cons_zero, Nat.zero_mul, Nat.add_zero] at v0
      have hbX : b0 < X.heap.size := Nat.lt_of_lt_of_le (HS0.out b0 hb0) HI.out.below.size
      obtain ⟨un, ud, uc, ur⟩ := u
      dsimp only at v0 HW
      clear hx HVX HCC v1 v2 v3 x3
      have zw2 : w.heap.size + 2 < X.heap.size := by omega
      have ne0 : w.heap.size + 3 ≠ b0 := by have := HS0.out b0 hb0; omega
      go_upto_region 66 with fail
      go_region_held3 (fun w' => w'.cell? ⟨w.heap.size + 2, 0, none⟩ = some (.int .i64 op) ∧ w'.cell? ⟨b0, off, none⟩ = some (.int .i64 un) ∧ w'.cell? ⟨w.heap.size + 2, 2, none⟩ = some (.int .i64 N))
        ((try dsimp only) <;> (repeat' apply And.intro) <;> go_keep)
        (first
          | (go_simp
             go_at_call 53
             refine (HWB.out _).mono ?_
             rintro e w' ⟨rfl, rfl⟩
             have r0 := x0
             have r1 := v0
             have r2 := x2)
          | (go_simp
             go_at_call 52
             refine (HW.out _).mono ?_
             rintro e w' ⟨rfl, rfl⟩
             have t0 := x0
             have t1 := v0
             have t2 := x2)
          | (go_simp
             go_at_call 49
             refine (rwhole_any _ _).mono ?_
             rintro e w6 ⟨rfl, hb6⟩
             have HB6 : Hid (Below X.heap.size X w6) := below_join (by first | exact below_drewN (Below.refl _ _) 1) hb6
             have HI6 := Lib.hid (HI.out.keep HB6.out)
             have q0 : w6.cell? ⟨w.heap.size + 2, 0, none⟩ = some (.int .i64 op) := by rw [HB6.out.cell (p := ⟨w.heap.size + 2, 0, none⟩) zw2]; exact x0
             have q1 : w6.cell? ⟨b0, off, none⟩ = some (.int .i64 un) := by rw [HB6.out.cell (p := ⟨b0, off, none⟩) hbX]; exact v0
             have q2 : w6.cell? ⟨w.heap.size + 2, 2, none⟩ = some (.int .i64 N) := by rw [HB6.out.cell (p := ⟨w.heap.size + 2, 2, none⟩) zw2]; exact x2
             clear hb6
             obtain ⟨m0, m1, m2, m3, u0, u1, u2, u3, zm⟩ := HI6.out.val.four)
          | fail)
      all_goals
        go_wp2_with fail
        have hF := HI6.out.fin (.int .i64 R) (.int .i64 1) (.slice none 0 0) (.int .i64 0)
        exact ref_ret HI6.out.val rfl rfl rfl rfl (valueP_plain R 1 hF.1)

set_option maxRecDepth 100000 in
set_option maxHeartbeats 4000000 in
theorem ref_word2 (A1 A2 A3 : Option Addr) (n1 c1 n2 c2 n3 c3 : Nat) (AM : Option Addr) (nm cm : Nat) (s : Int) (K : Option Addr) (kn kc : Nat) (N D : Int) (nme : ByteArray) (AK : Option Addr) (ck : Nat) (u v : ValueD) (op b : Int) (S0 : Nat → Prop) (w : World) (hvs : Arr AtValue 4 w S0 AK 2 [u, v]) (hS0 : ∀ b, S0 b → b < w.heap.size) (h1 : 1 ≤ b) (h8 : b ≤ 8) (hsb : s = 10 + b) (hop : 16 ≤ op ∧ op ≤ 23 ∧ ¬ op = 22) (R : Int) (hW : ∀ W : World, Calls Tryz.prog 52 #[.int .i64 op, .int .i64 b, .int .i64 u.num, .int .i64 v.num, .int .i64 N] W fun e w' => e = .returned (.int .i64 R) ∧ W = w') :
    Calls Tryz.prog 17 #[.agg #[.slice A1 n1 c1, .slice A2 n2 c2, .slice A3 n3 c3], .agg #[.slice AM nm cm], .agg #[.int .i64 op, .slice K kn kc, .int .i64 N, .int .i64 D, .string nme], .int .i64 s, .slice AK 2 ck] w (ValueP S0 w (some (numV R))) := by
  obtain ⟨X, hX, hI, hsX⟩ := RefI.start w #[.slice A1 n1 c1, .slice A2 n2 c2, .slice A3 n3 c3] #[.slice AM nm cm] #[.int .i64 op, .slice K kn kc, .int .i64 N, .int .i64 D, .string nme]
  have x0 : X.cell? ⟨w.heap.size + 2, 0, none⟩ = some (.int .i64 op) := hI.node.cell 0
  have x2 : X.cell? ⟨w.heap.size + 2, 2, none⟩ = some (.int .i64 N) := hI.node.cell 2
  have x3 : X.cell? ⟨w.heap.size + 2, 3, none⟩ = some (.int .i64 D) := hI.node.cell 3
  have hzx : w.heap.size + 3 < X.heap.size := hI.val.lt
  have hvX : Arr AtValue 4 X S0 AK 2 [u, v] := hvs.keep stays_value (fun _ h => h) (fun b o h => hI.below.cell (p := ⟨b, o, none⟩) (hS0 b h))
  have HX := Lib.hid hX
  have HI := Lib.hid hI
  have HVX := Lib.hid hvX
  have HS0 := Lib.hid hS0
  have HSX := Lib.hid hsX
  have hl := hvX.len
  have HLV := Lib.hid hl
  obtain ⟨C, hC⟩ : ∃ C, ([u, v] : List ValueD).countP isOne = C := ⟨_, rfl⟩
  have HC0 : Hid (0 + (([u, v] : List ValueD).drop 0).countP isOne = C) := by show _ = _; rw [Nat.zero_add]; exact hC
  have HW := Lib.hid hW
  have hwb : wbits s = b := by rw [hsb, wbits, if_pos (by simp [wordB]; omega)]; omega
  have HWB := Lib.hid (fun W => wordBits_any s W)
  rw [hwb] at HWB
  obtain ⟨e1, e2, e3, e4, e5, e6, e7, e8, e9, e10, e11, e12, e13, e14, e24, e25⟩ := not_word (op := op) (by omega)
  have e15 : (op == 15) = false := by rw [beq_eq_false_iff_ne]; omega
  have e22 : (op == 22) = false := by rw [beq_eq_false_iff_ne]; omega
  clear hwb hsb h1 h8 hW hop
  have HCC := Lib.hid hC
  clear hX hI hsX hvs hvX hS0 hl hC
  go_enter Tryz.func17, Tryz.ntmps17
  go_wp2_with fail
  rw [HX.out]
  clear x0 x2 x3
  go_loop [16, 17] (fun s16 s17 => ∃ (k y : Nat), k ≤ 2 ∧ s17 = .int .i64 k ∧ s16 = .int .i64 y ∧ y ≤ k ∧ Hid (y + (([u, v] : List ValueD).drop k).countP isOne = C)) (fun _ s17 => 2 - (intOf s17).toNat)
  case atStart => exact ⟨0, 0, Nat.zero_le _, rfl, rfl, Nat.le_refl _, HC0⟩
  case round =>
    clear HC0
    obtain ⟨k, y, hk, rfl, rfl, hy, HY⟩ := hrel
    by_cases hlt : k < 2
    · obtain ⟨b0, off, hx, A5, n5, c5, rfl, -, v0, -, -, -, -, -, -, -, -, -⟩ := values_get HVX.out hlt
      have e1 := HY.out
      rw [drop_cons hx, List.countP_cons] at e1
      generalize ([u, v] : List ValueD)[k] = u9 at e1 v0
      obtain ⟨un9, ud9, uc9, ur9⟩ := u9
      dsimp only at v0
      clear hx HY
      cases hq : isOne ⟨un9, ud9, uc9, ur9⟩ with
      | true =>
        have q1 : (un9 == 1) = true := hq
        rw [hq, if_pos rfl] at e1
        have H1 : Hid (y + 1 + (([u, v] : List ValueD).drop (k + 1)).countP isOne = C) := by show _ = _; omega
        clear hq e1
        go_wp2_with fail
        go_round
        case rel => exact ⟨k + 1, y + 1, by omega, by go_num, by go_num, by omega, H1⟩
        case measure => simp [intOf]; omega
      | false =>
        have q1 : (un9 == 1) = false := hq
        rw [hq, if_neg (by simp)] at e1
        have H1 : Hid (y + (([u, v] : List ValueD).drop (k + 1)).countP isOne = C) := by show _ = _; omega
        clear hq e1
        go_wp2_with fail
        go_round
        case rel => exact ⟨k + 1, y, by omega, by go_num, rfl, by omega, H1⟩
        case measure => simp [intOf]; omega
    · have hkk : k = 2 := by omega
      subst hkk
      have e1 := HY.out
      rw [List.drop_of_length_le (by rw [HLV.out]; exact Nat.le_refl _), List.countP_nil, Nat.add_zero] at e1
      subst e1
      have x0 : X.cell? ⟨w.heap.size + 2, 0, none⟩ = some (.int .i64 op) := HI.out.node.cell 0
      have x2 : X.cell? ⟨w.heap.size + 2, 2, none⟩ = some (.int .i64 N) := HI.out.node.cell 2
      have x3 : X.cell? ⟨w.heap.size + 2, 3, none⟩ = some (.int .i64 D) := HI.out.node.cell 3
      clear HY hk hlt
      obtain ⟨b0, off, hx, A4, n4, c4, rfl, hb0, v0, v1, v2, v3, hcc, hcn, hcm, i0, i1, i2⟩ := values_get HVX.out (i := 0) (by omega)
      obtain ⟨b1, off1, hx1, A5, n5, c5, hA1, -, w0, w1, w2, w3, -, -, -, j0, -, -⟩ := values_get HVX.out (i := 1) (by omega)
      injection hA1 with hA1
      injection hA1 with e1 e2
      subst e1 e2
      simp only [List.getElem_cons_succ, List.getElem_cons_zero, Nat.zero_mul, Nat.add_zero, Nat.one_mul] at v0 v1 v3 v2 hcc i0 i1 i2 w0 w1 w2 w3 j0
      have hbX : b0 < X.heap.size := Nat.lt_of_lt_of_le (HS0.out b0 hb0) HI.out.below.size
      obtain ⟨un, ud, uc, ur⟩ := u
      obtain ⟨vn, vd, vc, vr⟩ := v
      dsimp only at v0 v1 v3 w0 w1 w3 HW
      clear hx hx1 hcc hcn hcm i0 i1 i2 j0 HVX HCC v1 v2 v3 w1 w2 w3 x3
      have zw2 : w.heap.size + 2 < X.heap.size := by omega
      have ne0 : w.heap.size + 3 ≠ b0 := by have := HS0.out b0 hb0; omega
      go_upto_region 66 with fail
      go_region_held3 (fun w' => w'.cell? ⟨w.heap.size + 2, 0, none⟩ = some (.int .i64 op) ∧ w'.cell? ⟨b0, off, none⟩ = some (.int .i64 un) ∧ w'.cell? ⟨w.heap.size + 2, 2, none⟩ = some (.int .i64 N))
        ((try dsimp only) <;> (repeat' apply And.intro) <;> go_keep)
        (first
          | (go_simp
             go_at_call 53
             refine (HWB.out _).mono ?_
             rintro e w' ⟨rfl, rfl⟩
             have r0 := x0
             have r1 := v0
             have r2 := x2)
          | (go_simp
             go_at_call 52
             refine (HW.out _).mono ?_
             rintro e w' ⟨rfl, rfl⟩
             have t0 := x0
             have t1 := v0
             have t2 := x2)
          | (go_simp
             go_at_call 49
             refine (rwhole_any _ _).mono ?_
             rintro e w6 ⟨rfl, hb6⟩
             have HB6 : Hid (Below X.heap.size X w6) := below_join (by first | exact below_drewN (Below.refl _ _) 1) hb6
             have HI6 := Lib.hid (HI.out.keep HB6.out)
             have q0 : w6.cell? ⟨w.heap.size + 2, 0, none⟩ = some (.int .i64 op) := by rw [HB6.out.cell (p := ⟨w.heap.size + 2, 0, none⟩) zw2]; exact x0
             have q1 : w6.cell? ⟨b0, off, none⟩ = some (.int .i64 un) := by rw [HB6.out.cell (p := ⟨b0, off, none⟩) hbX]; exact v0
             have q2 : w6.cell? ⟨w.heap.size + 2, 2, none⟩ = some (.int .i64 N) := by rw [HB6.out.cell (p := ⟨w.heap.size + 2, 2, none⟩) zw2]; exact x2
             clear hb6
             obtain ⟨m0, m1, m2, m3, u0, u1, u2, u3, zm⟩ := HI6.out.val.four)
          | fail)
      all_goals
        go_wp2_with fail
        have hF := HI6.out.fin (.int .i64 R) (.int .i64 1) (.slice none 0 0) (.int .i64 0)
        exact ref_ret HI6.out.val rfl rfl rfl rfl (valueP_plain R 1 hF.1)

end Go.Proofs.YtggkfepifnfdoaaGreat
