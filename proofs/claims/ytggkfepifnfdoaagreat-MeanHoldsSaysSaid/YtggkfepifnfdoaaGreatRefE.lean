/- Walk: the value of a node, operator by operator: the reference. -/
import Derived.Test.YtggkfepifnfdoaaGreatRefD
namespace Go.Proofs.YtggkfepifnfdoaaGreat
open Go.RowKit

set_option maxRecDepth 100000 in
set_option maxHeartbeats 4000000 in
theorem ref_13 (A1 A2 A3 : Option Addr) (n1 c1 n2 c2 n3 c3 : Nat) (AM : Option Addr) (nm cm : Nat) (s : Int) (K : Option Addr) (kn kc : Nat) (N D : Int) (nme : ByteArray) (AK : Option Addr) (ck : Nat) (u v : ValueD) (S0 : Nat → Prop) (w : World) (hvs : Arr AtValue 4 w S0 AK 2 [u, v]) (hS0 : ∀ b, S0 b → b < w.heap.size) (hu : fracGood u.num u.den = true) (hv : fracGood v.num v.den = true) :
    Calls Tryz.prog 17 #[.agg #[.slice A1 n1 c1, .slice A2 n2 c2, .slice A3 n3 c3], .agg #[.slice AM nm cm], .agg #[.int .i64 13, .slice K kn kc, .int .i64 N, .int .i64 D, .string nme], .int .i64 s, .slice AK 2 ck] w (ValueP S0 w (some (bitV (lessQ (qOf u) (qOf v))))) := by
  obtain ⟨X, hX, hI, hsX⟩ := RefI.start w #[.slice A1 n1 c1, .slice A2 n2 c2, .slice A3 n3 c3] #[.slice AM nm cm] #[.int .i64 13, .slice K kn kc, .int .i64 N, .int .i64 D, .string nme]
  have x0 : X.cell? ⟨w.heap.size + 2, 0, none⟩ = some (.int .i64 13) := hI.node.cell 0
  have x2 : X.cell? ⟨w.heap.size + 2, 2, none⟩ = some (.int .i64 N) := hI.node.cell 2
  have x3 : X.cell? ⟨w.heap.size + 2, 3, none⟩ = some (.int .i64 D) := hI.node.cell 3
  have hzx : w.heap.size + 3 < X.heap.size := hI.val.lt
  have hvX : Arr AtValue 4 X S0 AK 2 [u, v] := hvs.keep stays_value (fun _ h => h) (fun b o h => hI.below.cell (p := ⟨b, o, none⟩) (hS0 b h))
  have HX := Lib.hid hX
  have HI := Lib.hid hI
  have HVX := Lib.hid hvX
  have HS0 := Lib.hid hS0
  have HSX := Lib.hid hsX
  have hl := hvX.len
  have HLV := Lib.hid hl
  obtain ⟨C, hC⟩ : ∃ C, ([u, v] : List ValueD).countP isOne = C := ⟨_, rfl⟩
  have HC0 : Hid (0 + (([u, v] : List ValueD).drop 0).countP isOne = C) := by show _ = _; rw [Nat.zero_add]; exact hC
  obtain ⟨q, hq⟩ : ∃ q, lessQ (qOf u) (qOf v) = q := ⟨_, rfl⟩
  rw [hq]
  have HL := Lib.hid (fun W => refLess_any (qOf u) (qOf v) q W hu hv hq)
  clear hq
  have HCC := Lib.hid hC
  clear hX hI hsX hvs hvX hS0 hl hC
  go_enter Tryz.func17, Tryz.ntmps17
  go_wp2_with fail
  rw [HX.out]
  clear x0 x2 x3
  go_loop [16, 17] (fun s16 s17 => ∃ (k y : Nat), k ≤ 2 ∧ s17 = .int .i64 k ∧ s16 = .int .i64 y ∧ y ≤ k ∧ Hid (y + (([u, v] : List ValueD).drop k).countP isOne = C)) (fun _ s17 => 2 - (intOf s17).toNat)
  case atStart => exact ⟨0, 0, Nat.zero_le _, rfl, rfl, Nat.le_refl _, HC0⟩
  case round =>
    clear HC0
    obtain ⟨k, y, hk, rfl, rfl, hy, HY⟩ := hrel
    by_cases hlt : k < 2
    · obtain ⟨b0, off, hx, A5, n5, c5, rfl, -, v0, -, -, -, -, -, -, -, -, -⟩ := values_get HVX.out hlt
      have e1 := HY.out
      rw [drop_cons hx, List.countP_cons] at e1
      generalize ([u, v] : List ValueD)[k] = u9 at e1 v0
      obtain ⟨un9, ud9, uc9, ur9⟩ := u9
      dsimp only at v0
      clear hx HY
      cases hq : isOne ⟨un9, ud9, uc9, ur9⟩ with
      | true =>
        have q1 : (un9 == 1) = true := hq
        rw [hq, if_pos rfl] at e1
        have H1 : Hid (y + 1 + (([u, v] : List ValueD).drop (k + 1)).countP isOne = C) := by show _ = _; omega
        clear hq e1
        go_wp2_with fail
        go_round
        case rel => exact ⟨k + 1, y + 1, by omega, by go_num, by go_num, by omega, H1⟩
        case measure => simp [intOf]; omega
      | false =>
        have q1 : (un9 == 1) = false := hq
        rw [hq, if_neg (by simp)] at e1
        have H1 : Hid (y + (([u, v] : List ValueD).drop (k + 1)).countP isOne = C) := by show _ = _; omega
        clear hq e1
        go_wp2_with fail
        go_round
        case rel => exact ⟨k + 1, y, by omega, by go_num, rfl, by omega, H1⟩
        case measure => simp [intOf]; omega
    · have hkk : k = 2 := by omega
      subst hkk
      have e1 := HY.out
      rw [List.drop_of_length_le (by rw [HLV.out]; exact Nat.le_refl _), List.countP_nil, Nat.add_zero] at e1
      subst e1
      have x0 : X.cell? ⟨w.heap.size + 2, 0, none⟩ = some (.int .i64 13) := HI.out.node.cell 0
      have x2 : X.cell? ⟨w.heap.size + 2, 2, none⟩ = some (.int .i64 N) := HI.out.node.cell 2
      have x3 : X.cell? ⟨w.heap.size + 2, 3, none⟩ = some (.int .i64 D) := HI.out.node.cell 3
      clear HY hk hlt
      obtain ⟨b0, off, hx, A4, n4, c4, rfl, hb0, v0, v1, v2, v3, hcc, hcn, hcm, i0, i1, i2⟩ := values_get HVX.out (i := 0) (by omega)
      obtain ⟨b1, off1, hx1, A5, n5, c5, hA1, -, w0, w1, w2, w3, -, -, -, j0, -, -⟩ := values_get HVX.out (i := 1) (by omega)
      injection hA1 with hA1
      injection hA1 with e1 e2
      subst e1 e2
      simp only [List.getElem_cons_succ, List.getElem_cons_zero, Nat.zero_mul, Nat.add_zero, Nat.one_mul] at v0 v1 v3 v2 hcc i0 i1 i2 w0 w1 w2 w3 j0
      have hbX : b0 < X.heap.size := Nat.lt_of_lt_of_le (HS0.out b0 hb0) HI.out.below.size
      obtain ⟨un, ud, uc, ur⟩ := u
      obtain ⟨vn, vd, vc, vr⟩ := v
      dsimp only at v0 v1 v3 w0 w1 w3 hu hv
      unfold qOf at HL
      dsimp only at HL
      clear hx hx1 hcc hcn hcm i0 i1 i2 j0 HVX HCC hu hv
      go_upto_region 54 with fail
      go_still_tail 8, (by kernel_rfl)
      change wpList _ _ _ _ _ X.drew
      have HID : Hid (RefI w X.drew #[.slice A1 n1 c1, .slice A2 n2 c2, .slice A3 n3 c3] #[.slice AM nm cm] #[.int .i64 13, .slice K kn kc, .int .i64 N, .int .i64 D, .string nme]) := HI.out.keep (below_drewN (Below.refl _ _) 1)
      clear v0 v1 v2 v3 w0 w1 w2 w3 x0 x2 x3 hzx hbX hb0
      go_wp2_with fail
      refine (HL.out _).mono ?_
      rintro e w5 ⟨rfl, hb5⟩
      have HI5 := Lib.hid (HID.out.keep hb5)
      clear hb5
      go_wp2_with fail
      refine (rbit_any _ _).mono ?_
      rintro e w6 ⟨rfl, hb6⟩
      have HI6 := Lib.hid (HI5.out.keep hb6)
      clear hb6
      obtain ⟨m0, m1, m2, m3, u0, u1, u2, u3, zm⟩ := HI6.out.val.four
      go_wp2_with fail
      have hF := HI6.out.fin (.int .i64 (bitN q)) (.int .i64 1) (.slice none 0 0) (.int .i64 0)
      exact ref_ret HI6.out.val rfl rfl rfl rfl (valueP_plain (bitN q) 1 hF.1)

set_option maxRecDepth 100000 in
set_option maxHeartbeats 4000000 in
theorem ref_14 (A1 A2 A3 : Option Addr) (n1 c1 n2 c2 n3 c3 : Nat) (AM : Option Addr) (nm cm : Nat) (s : Int) (K : Option Addr) (kn kc : Nat) (N D : Int) (nme : ByteArray) (AK : Option Addr) (ck : Nat) (u v : ValueD) (S0 : Nat → Prop) (w : World) (hvs : Arr AtValue 4 w S0 AK 2 [u, v]) (hS0 : ∀ b, S0 b → b < w.heap.size) (hu : fracGood u.num u.den = true) (hv : fracGood v.num v.den = true) :
    Calls Tryz.prog 17 #[.agg #[.slice A1 n1 c1, .slice A2 n2 c2, .slice A3 n3 c3], .agg #[.slice AM nm cm], .agg #[.int .i64 14, .slice K kn kc, .int .i64 N, .int .i64 D, .string nme], .int .i64 s, .slice AK 2 ck] w (ValueP S0 w (some (bitV (!lessQ (qOf v) (qOf u))))) := by
  obtain ⟨X, hX, hI, hsX⟩ := RefI.start w #[.slice A1 n1 c1, .slice A2 n2 c2, .slice A3 n3 c3] #[.slice AM nm cm] #[.int .i64 14, .slice K kn kc, .int .i64 N, .int .i64 D, .string nme]
  have x0 : X.cell? ⟨w.heap.size + 2, 0, none⟩ = some (.int .i64 14) := hI.node.cell 0
  have x2 : X.cell? ⟨w.heap.size + 2, 2, none⟩ = some (.int .i64 N) := hI.node.cell 2
  have x3 : X.cell? ⟨w.heap.size + 2, 3, none⟩ = some (.int .i64 D) := hI.node.cell 3
  have hzx : w.heap.size + 3 < X.heap.size := hI.val.lt
  have hvX : Arr AtValue 4 X S0 AK 2 [u, v] := hvs.keep stays_value (fun _ h => h) (fun b o h => hI.below.cell (p := ⟨b, o, none⟩) (hS0 b h))
  have HX := Lib.hid hX
  have HI := Lib.hid hI
  have HVX := Lib.hid hvX
  have HS0 := Lib.hid hS0
  have HSX := Lib.hid hsX
  have hl := hvX.len
  have HLV := Lib.hid hl
  obtain ⟨C, hC⟩ : ∃ C, ([u, v] : List ValueD).countP isOne = C := ⟨_, rfl⟩
  have HC0 : Hid (0 + (([u, v] : List ValueD).drop 0).countP isOne = C) := by show _ = _; rw [Nat.zero_add]; exact hC
  obtain ⟨q, hq⟩ : ∃ q, lessQ (qOf v) (qOf u) = q := ⟨_, rfl⟩
  rw [hq]
  have HL := Lib.hid (fun W => refLess_any (qOf v) (qOf u) q W hv hu hq)
  clear hq
  have HCC := Lib.hid hC
  clear hX hI hsX hvs hvX hS0 hl hC
  go_enter Tryz.func17, Tryz.ntmps17
  go_wp2_with fail
  rw [HX.out]
  clear x0 x2 x3
  go_loop [16, 17] (fun s16 s17 => ∃ (k y : Nat), k ≤ 2 ∧ s17 = .int .i64 k ∧ s16 = .int .i64 y ∧ y ≤ k ∧ Hid (y + (([u, v] : List ValueD).drop k).countP isOne = C)) (fun _ s17 => 2 - (intOf s17).toNat)
  case atStart => exact ⟨0, 0, Nat.zero_le _, rfl, rfl, Nat.le_refl _, HC0⟩
  case round =>
    clear HC0
    obtain ⟨k, y, hk, rfl, rfl, hy, HY⟩ := hrel
    by_cases hlt : k < 2
    · obtain ⟨b0, off, hx, A5, n5, c5, rfl, -, v0, -, -, -, -, -, -, -, -, -⟩ := values_get HVX.out hlt
      have e1 := HY.out
      rw [drop_cons hx, List.countP_cons] at e1
      generalize ([u, v] : List ValueD)[k] = u9 at e1 v0
      obtain ⟨un9, ud9, uc9, ur9⟩ := u9
      dsimp only at v0
      clear hx HY
      cases hq : isOne ⟨un9, ud9, uc9, ur9⟩ with
      | true =>
        have q1 : (un9 == 1) = true := hq
        rw [hq, if_pos rfl] at e1
        have H1 : Hid (y + 1 + (([u, v] : List ValueD).drop (k + 1)).countP isOne = C) := by show _ = _; omega
        clear hq e1
        go_wp2_with fail
        go_round
        case rel => exact ⟨k + 1, y + 1, by omega, by go_num, by go_num, by omega, H1⟩
        case measure => simp [intOf]; omega
      | false =>
        have q1 : (un9 == 1) = false := hq
        rw [hq, if_neg (by simp)] at e1
        have H1 : Hid (y + (([u, v] : List ValueD).drop (k + 1)).countP isOne = C) := by show _ = _; omega
        clear hq e1
        go_wp2_with fail
        go_round
        case rel => exact ⟨k + 1, y, by omega, by go_num, rfl, by omega, H1⟩
        case measure => simp [intOf]; omega
    · have hkk : k = 2 := by omega
      subst hkk
      have e1 := HY.out
      rw [List.drop_of_length_le (by rw [HLV.out]; exact Nat.le_refl _), List.countP_nil, Nat.add_zero] at e1
      subst e1
      have x0 : X.cell? ⟨w.heap.size + 2, 0, none⟩ = some (.int .i64 14) := HI.out.node.cell 0
      have x2 : X.cell? ⟨w.heap.size + 2, 2, none⟩ = some (.int .i64 N) := HI.out.node.cell 2
      have x3 : X.cell? ⟨w.heap.size + 2, 3, none⟩ = some (.int .i64 D) := HI.out.node.cell 3
      clear HY hk hlt
      obtain ⟨b0, off, hx, A4, n4, c4, rfl, hb0, v0, v1, v2, v3, hcc, hcn, hcm, i0, i1, i2⟩ := values_get HVX.out (i := 0) (by omega)
      obtain ⟨b1, off1, hx1, A5, n5, c5, hA1, -, w0, w1, w2, w3, -, -, -, j0, -, -⟩ := values_get HVX.out (i := 1) (by omega)
      injection hA1 with hA1
      injection hA1 with e1 e2
      subst e1 e2
      simp only [List.getElem_cons_succ, List.getElem_cons_zero, Nat.zero_mul, Nat.add_zero, Nat.one_mul] at v0 v1 v3 v2 hcc i0 i1 i2 w0 w1 w2 w3 j0
      have hbX : b0 < X.heap.size := Nat.lt_of_lt_of_le (HS0.out b0 hb0) HI.out.below.size
      obtain ⟨un, ud, uc, ur⟩ := u
      obtain ⟨vn, vd, vc, vr⟩ := v
      dsimp only at v0 v1 v3 w0 w1 w3 hu hv
      unfold qOf at HL
      dsimp only at HL
      clear hx hx1 hcc hcn hcm i0 i1 i2 j0 HVX HCC hu hv
      go_upto_region 56 with fail
      go_still_tail 8, (by kernel_rfl)
      change wpList _ _ _ _ _ X.drew
      have HID : Hid (RefI w X.drew #[.slice A1 n1 c1, .slice A2 n2 c2, .slice A3 n3 c3] #[.slice AM nm cm] #[.int .i64 14, .slice K kn kc, .int .i64 N, .int .i64 D, .string nme]) := HI.out.keep (below_drewN (Below.refl _ _) 1)
      clear v0 v1 v2 v3 w0 w1 w2 w3 x0 x2 x3 hzx hbX hb0
      go_wp2_with fail
      refine (HL.out _).mono ?_
      rintro e w5 ⟨rfl, hb5⟩
      have HI5 := Lib.hid (HID.out.keep hb5)
      clear hb5
      go_wp2_with fail
      refine (rbit_any _ _).mono ?_
      rintro e w6 ⟨rfl, hb6⟩
      have HI6 := Lib.hid (HI5.out.keep hb6)
      clear hb6
      obtain ⟨m0, m1, m2, m3, u0, u1, u2, u3, zm⟩ := HI6.out.val.four
      go_wp2_with fail
      have hF := HI6.out.fin (.int .i64 (bitN (!q))) (.int .i64 1) (.slice none 0 0) (.int .i64 0)
      exact ref_ret HI6.out.val rfl rfl rfl rfl (valueP_plain (bitN (!q)) 1 hF.1)

set_option maxRecDepth 100000 in
set_option maxHeartbeats 4000000 in
theorem ref_22 (A1 A2 A3 : Option Addr) (n1 c1 n2 c2 n3 c3 : Nat) (AM : Option Addr) (nm cm : Nat) (s : Int) (K : Option Addr) (kn kc : Nat) (N D : Int) (nme : ByteArray) (AK : Option Addr) (ck : Nat) (u v : ValueD) (S0 : Nat → Prop) (w : World) (hvs : Arr AtValue 4 w S0 AK 2 [u, v]) (hS0 : ∀ b, S0 b → b < w.heap.size) (hu : fracGood u.num u.den = true) (hv : fracGood v.num v.den = true) :
    Calls Tryz.prog 17 #[.agg #[.slice A1 n1 c1, .slice A2 n2 c2, .slice A3 n3 c3], .agg #[.slice AM nm cm], .agg #[.int .i64 22, .slice K kn kc, .int .i64 N, .int .i64 D, .string nme], .int .i64 s, .slice AK 2 ck] w (ValueP S0 w (some (bitV (lessQ (qOf u) (qOf v))))) := by
  obtain ⟨X, hX, hI, hsX⟩ := RefI.start w #[.slice A1 n1 c1, .slice A2 n2 c2, .slice A3 n3 c3] #[.slice AM nm cm] #[.int .i64 22, .slice K kn kc, .int .i64 N, .int .i64 D, .string nme]
  have x0 : X.cell? ⟨w.heap.size + 2, 0, none⟩ = some (.int .i64 22) := hI.node.cell 0
  have x2 : X.cell? ⟨w.heap.size + 2, 2, none⟩ = some (.int .i64 N) := hI.node.cell 2
  have x3 : X.cell? ⟨w.heap.size + 2, 3, none⟩ = some (.int .i64 D) := hI.node.cell 3
  have hzx : w.heap.size + 3 < X.heap.size := hI.val.lt
  have hvX : Arr AtValue 4 X S0 AK 2 [u, v] := hvs.keep stays_value (fun _ h => h) (fun b o h => hI.below.cell (p := ⟨b, o, none⟩) (hS0 b h))
  have HX := Lib.hid hX
  have HI := Lib.hid hI
  have HVX := Lib.hid hvX
  have HS0 := Lib.hid hS0
  have HSX := Lib.hid hsX
  have hl := hvX.len
  have HLV := Lib.hid hl
  obtain ⟨C, hC⟩ : ∃ C, ([u, v] : List ValueD).countP isOne = C := ⟨_, rfl⟩
  have HC0 : Hid (0 + (([u, v] : List ValueD).drop 0).countP isOne = C) := by show _ = _; rw [Nat.zero_add]; exact hC
  obtain ⟨q, hq⟩ : ∃ q, lessQ (qOf u) (qOf v) = q := ⟨_, rfl⟩
  rw [hq]
  have HL := Lib.hid (fun W => refLess_any (qOf u) (qOf v) q W hu hv hq)
  clear hq
  have HCC := Lib.hid hC
  clear hX hI hsX hvs hvX hS0 hl hC
  go_enter Tryz.func17, Tryz.ntmps17
  go_wp2_with fail
  rw [HX.out]
  clear x0 x2 x3
  go_loop [16, 17] (fun s16 s17 => ∃ (k y : Nat), k ≤ 2 ∧ s17 = .int .i64 k ∧ s16 = .int .i64 y ∧ y ≤ k ∧ Hid (y + (([u, v] : List ValueD).drop k).countP isOne = C)) (fun _ s17 => 2 - (intOf s17).toNat)
  case atStart => exact ⟨0, 0, Nat.zero_le _, rfl, rfl, Nat.le_refl _, HC0⟩
  case round =>
    clear HC0
    obtain ⟨k, y, hk, rfl, rfl, hy, HY⟩ := hrel
    by_cases hlt : k < 2
    · obtain ⟨b0, off, hx, A5, n5, c5, rfl, -, v0, -, -, -, -, -, -, -, -, -⟩ := values_get HVX.out hlt
      have e1 := HY.out
      rw [drop_cons hx, List.countP_cons] at e1
      generalize ([u, v] : List ValueD)[k] = u9 at e1 v0
      obtain ⟨un9, ud9, uc9, ur9⟩ := u9
      dsimp only at v0
      clear hx HY
      cases hq : isOne ⟨un9, ud9, uc9, ur9⟩ with
      | true =>
        have q1 : (un9 == 1) = true := hq
        rw [hq, if_pos rfl] at e1
        have H1 : Hid (y + 1 + (([u, v] : List ValueD).drop (k + 1)).countP isOne = C) := by show _ = _; omega
        clear hq e1
        go_wp2_with fail
        go_round
        case rel => exact ⟨k + 1, y + 1, by omega, by go_num, by go_num, by omega, H1⟩
        case measure => simp [intOf]; omega
      | false =>
        have q1 : (un9 == 1) = false := hq
        rw [hq, if_neg (by simp)] at e1
        have H1 : Hid (y + (([u, v] : List ValueD).drop (k + 1)).countP isOne = C) := by show _ = _; omega
        clear hq e1
        go_wp2_with fail
        go_round
        case rel => exact ⟨k + 1, y, by omega, by go_num, rfl, by omega, H1⟩
        case measure => simp [intOf]; omega
    · have hkk : k = 2 := by omega
      subst hkk
      have e1 := HY.out
      rw [List.drop_of_length_le (by rw [HLV.out]; exact Nat.le_refl _), List.countP_nil, Nat.add_zero] at e1
      subst e1
      have x0 : X.cell? ⟨w.heap.size + 2, 0, none⟩ = some (.int .i64 22) := HI.out.node.cell 0
      have x2 : X.cell? ⟨w.heap.size + 2, 2, none⟩ = some (.int .i64 N) := HI.out.node.cell 2
      have x3 : X.cell? ⟨w.heap.size + 2, 3, none⟩ = some (.int .i64 D) := HI.out.node.cell 3
      clear HY hk hlt
      obtain ⟨b0, off, hx, A4, n4, c4, rfl, hb0, v0, v1, v2, v3, hcc, hcn, hcm, i0, i1, i2⟩ := values_get HVX.out (i := 0) (by omega)
      obtain ⟨b1, off1, hx1, A5, n5, c5, hA1, -, w0, w1, w2, w3, -, -, -, j0, -, -⟩ := values_get HVX.out (i := 1) (by omega)
      injection hA1 with hA1
      injection hA1 with e1 e2
      subst e1 e2
      simp only [List.getElem_cons_succ, List.getElem_cons_zero, Nat.zero_mul, Nat.add_zero, Nat.one_mul] at v0 v1 v3 v2 hcc i0 i1 i2 w0 w1 w2 w3 j0
      have hbX : b0 < X.heap.size := Nat.lt_of_lt_of_le (HS0.out b0 hb0) HI.out.below.size
      obtain ⟨un, ud, uc, ur⟩ := u
      obtain ⟨vn, vd, vc, vr⟩ := v
      dsimp only at v0 v1 v3 w0 w1 w3 hu hv
      unfold qOf at HL
      dsimp only at HL
      clear hx hx1 hcc hcn hcm i0 i1 i2 j0 HVX HCC hu hv
      go_upto_region 54 with fail
      go_still_tail 8, (by kernel_rfl)
      change wpList _ _ _ _ _ X.drew
      have HID : Hid (RefI w X.drew #[.slice A1 n1 c1, .slice A2 n2 c2, .slice A3 n3 c3] #[.slice AM nm cm] #[.int .i64 22, .slice K kn kc, .int .i64 N, .int .i64 D, .string nme]) := HI.out.keep (below_drewN (Below.refl _ _) 1)
      clear v0 v1 v2 v3 w0 w1 w2 w3 x0 x2 x3 hzx hbX hb0
      go_wp2_with fail
      refine (HL.out _).mono ?_
      rintro e w5 ⟨rfl, hb5⟩
      have HI5 := Lib.hid (HID.out.keep hb5)
      clear hb5
      go_wp2_with fail
      refine (rbit_any _ _).mono ?_
      rintro e w6 ⟨rfl, hb6⟩
      have HI6 := Lib.hid (HI5.out.keep hb6)
      clear hb6
      obtain ⟨m0, m1, m2, m3, u0, u1, u2, u3, zm⟩ := HI6.out.val.four
      go_wp2_with fail
      have hF := HI6.out.fin (.int .i64 (bitN q)) (.int .i64 1) (.slice none 0 0) (.int .i64 0)
      exact ref_ret HI6.out.val rfl rfl rfl rfl (valueP_plain (bitN q) 1 hF.1)

set_option maxRecDepth 100000 in
set_option maxHeartbeats 4000000 in
theorem ref_24 (A1 A2 A3 : Option Addr) (n1 c1 n2 c2 n3 c3 : Nat) (AM : Option Addr) (nm cm : Nat) (s : Int) (K : Option Addr) (kn kc : Nat) (N D : Int) (nme : ByteArray) (AK : Option Addr) (ck : Nat) (u v : ValueD) (S0 : Nat → Prop) (w : World) (hvs : Arr AtValue 4 w S0 AK 2 [u, v]) (hS0 : ∀ b, S0 b → b < w.heap.size) (hu1 : u.cells.length ≤ 1000000) :
    Calls Tryz.prog 17 #[.agg #[.slice A1 n1 c1, .slice A2 n2 c2, .slice A3 n3 c3], .agg #[.slice AM nm cm], .agg #[.int .i64 24, .slice K kn kc, .int .i64 N, .int .i64 D, .string nme], .int .i64 s, .slice AK 2 ck] w (ValueP S0 w (some (numV (getF v.num u.rest u.cells)))) := by
  obtain ⟨X, hX, hI, hsX⟩ := RefI.start w #[.slice A1 n1 c1, .slice A2 n2 c2, .slice A3 n3 c3] #[.slice AM nm cm] #[.int .i64 24, .slice K kn kc, .int .i64 N, .int .i64 D, .string nme]
  have x0 : X.cell? ⟨w.heap.size + 2, 0, none⟩ = some (.int .i64 24) := hI.node.cell 0
  have x2 : X.cell? ⟨w.heap.size + 2, 2, none⟩ = some (.int .i64 N) := hI.node.cell 2
  have x3 : X.cell? ⟨w.heap.size + 2, 3, none⟩ = some (.int .i64 D) := hI.node.cell 3
  have hzx : w.heap.size + 3 < X.heap.size := hI.val.lt
  have hvX : Arr AtValue 4 X S0 AK 2 [u, v] := hvs.keep stays_value (fun _ h => h) (fun b o h => hI.below.cell (p := ⟨b, o, none⟩) (hS0 b h))
  have HX := Lib.hid hX
  have HI := Lib.hid hI
  have HVX := Lib.hid hvX
  have HS0 := Lib.hid hS0
  have HSX := Lib.hid hsX
  have hl := hvX.len
  have HLV := Lib.hid hl
  obtain ⟨C, hC⟩ : ∃ C, ([u, v] : List ValueD).countP isOne = C := ⟨_, rfl⟩
  have HC0 : Hid (0 + (([u, v] : List ValueD).drop 0).countP isOne = C) := by show _ = _; rw [Nat.zero_add]; exact hC
  obtain ⟨q, hq⟩ : ∃ q, getF v.num u.rest u.cells = q := ⟨_, rfl⟩
  rw [hq]
  have HQQ := Lib.hid hq
  clear hq
  have HCC := Lib.hid hC
  clear hX hI hsX hvs hvX hS0 hl hC
  go_enter Tryz.func17, Tryz.ntmps17
  go_wp2_with fail
  rw [HX.out]
  clear x0 x2 x3
  go_loop [16, 17] (fun s16 s17 => ∃ (k y : Nat), k ≤ 2 ∧ s17 = .int .i64 k ∧ s16 = .int .i64 y ∧ y ≤ k ∧ Hid (y + (([u, v] : List ValueD).drop k).countP isOne = C)) (fun _ s17 => 2 - (intOf s17).toNat)
  case atStart => exact ⟨0, 0, Nat.zero_le _, rfl, rfl, Nat.le_refl _, HC0⟩
  case round =>
    clear HC0
    obtain ⟨k, y, hk, rfl, rfl, hy, HY⟩ := hrel
    by_cases hlt : k < 2
    · obtain ⟨b0, off, hx, A5, n5, c5, rfl, -, v0, -, -, -, -, -, -, -, -, -⟩ := values_get HVX.out hlt
      have e1 := HY.out
      rw [drop_cons hx, List.countP_cons] at e1
      generalize ([u, v] : List ValueD)[k] = u9 at e1 v0
      obtain ⟨un9, ud9, uc9, ur9⟩ := u9
      dsimp only at v0
      clear hx HY
      cases hq : isOne ⟨un9, ud9, uc9, ur9⟩ with
      | true =>
        have q1 : (un9 == 1) = true := hq
        rw [hq, if_pos rfl] at e1
        have H1 : Hid (y + 1 + (([u, v] : List ValueD).drop (k + 1)).countP isOne = C) := by show _ = _; omega
        clear hq e1
        go_wp2_with fail
        go_round
        case rel => exact ⟨k + 1, y + 1, by omega, by go_num, by go_num, by omega, H1⟩
        case measure => simp [intOf]; omega
      | false =>
        have q1 : (un9 == 1) = false := hq
        rw [hq, if_neg (by simp)] at e1
        have H1 : Hid (y + (([u, v] : List ValueD).drop (k + 1)).countP isOne = C) := by show _ = _; omega
        clear hq e1
        go_wp2_with fail
        go_round
        case rel => exact ⟨k + 1, y, by omega, by go_num, rfl, by omega, H1⟩
        case measure => simp [intOf]; omega
    · have hkk : k = 2 := by omega
      subst hkk
      have e1 := HY.out
      rw [List.drop_of_length_le (by rw [HLV.out]; exact Nat.le_refl _), List.countP_nil, Nat.add_zero] at e1
      subst e1
      have x0 : X.cell? ⟨w.heap.size + 2, 0, none⟩ = some (.int .i64 24) := HI.out.node.cell 0
      have x2 : X.cell? ⟨w.heap.size + 2, 2, none⟩ = some (.int .i64 N) := HI.out.node.cell 2
      have x3 : X.cell? ⟨w.heap.size + 2, 3, none⟩ = some (.int .i64 D) := HI.out.node.cell 3
      clear HY hk hlt
      obtain ⟨b0, off, hx, A4, n4, c4, rfl, hb0, v0, v1, v2, v3, hcc, hcn, hcm, i0, i1, i2⟩ := values_get HVX.out (i := 0) (by omega)
      obtain ⟨b1, off1, hx1, A5, n5, c5, hA1, -, w0, w1, w2, w3, -, -, -, j0, -, -⟩ := values_get HVX.out (i := 1) (by omega)
      injection hA1 with hA1
      injection hA1 with e1 e2
      subst e1 e2
      simp only [List.getElem_cons_succ, List.getElem_cons_zero, Nat.zero_mul, Nat.add_zero, Nat.one_mul] at v0 v1 v3 v2 hcc i0 i1 i2 w0 w1 w2 w3 j0
      have hbX : b0 < X.heap.size := Nat.lt_of_lt_of_le (HS0.out b0 hb0) HI.out.below.size
      obtain ⟨un, ud, uc, ur⟩ := u
      obtain ⟨vn, vd, vc, vr⟩ := v
      dsimp only at v0 v1 v3 w0 w1 w3 hcc hu1 ⊢
      have hq := HQQ.out
      dsimp only at hq
      have hlc := hcc.len
      have HL := Lib.hid (fun (W : World) (hW : Below X.heap.size X W) => cellOf_any un ud ur vn A4 n4 c4 uc q W (hcc.keep stays_cell (fun b hb => Nat.lt_of_lt_of_le (HS0.out b hb) (Nat.le_trans HI.out.below.size hW.size)) (fun b o hb => hW.cell (p := ⟨b, o, none⟩) (Nat.lt_of_lt_of_le (HS0.out b hb) HI.out.below.size))) (by omega) hq)
      clear hx hx1 hcc hcn hcm i0 i1 i2 j0 HVX HCC hu1 hq hlc
      go_upto_region 60 with fail
      go_still_tail 8, (by kernel_rfl)
      change wpList _ _ _ _ _ X.drew
      have HID : Hid (RefI w X.drew #[.slice A1 n1 c1, .slice A2 n2 c2, .slice A3 n3 c3] #[.slice AM nm cm] #[.int .i64 24, .slice K kn kc, .int .i64 N, .int .i64 D, .string nme]) := HI.out.keep (below_drewN (Below.refl _ _) 1)
      clear v0 v1 v2 v3 w0 w1 w2 w3 x0 x2 x3 hzx hbX hb0
      go_wp2_with fail
      refine (HL.out _ (below_drewN (Below.refl _ _) 1)).mono ?_
      rintro e w5 ⟨rfl, hb5⟩
      have HI5 := Lib.hid (HID.out.keep hb5)
      clear hb5
      go_wp2_with fail
      refine (rwhole_any _ _).mono ?_
      rintro e w6 ⟨rfl, hb6⟩
      have HI6 := Lib.hid (HI5.out.keep hb6)
      clear hb6
      obtain ⟨m0, m1, m2, m3, u0, u1, u2, u3, zm⟩ := HI6.out.val.four
      go_wp2_with fail
      have hF := HI6.out.fin (.int .i64 (q)) (.int .i64 1) (.slice none 0 0) (.int .i64 0)
      exact ref_ret HI6.out.val rfl rfl rfl rfl (valueP_plain (q) 1 hF.1)

set_option maxRecDepth 100000 in
set_option maxHeartbeats 4000000 in
theorem ref_25 (A1 A2 A3 : Option Addr) (n1 c1 n2 c2 n3 c3 : Nat) (AM : Option Addr) (nm cm : Nat) (s : Int) (K : Option Addr) (kn kc : Nat) (N D : Int) (nme : ByteArray) (AK : Option Addr) (ck : Nat) (u v x : ValueD) (S0 : Nat → Prop) (w : World) (hvs : Arr AtValue 4 w S0 AK 3 [u, v, x]) (hS0 : ∀ b, S0 b → b < w.heap.size) (hu1 : u.cells.length ≤ 1000000) :
    Calls Tryz.prog 17 #[.agg #[.slice A1 n1 c1, .slice A2 n2 c2, .slice A3 n3 c3], .agg #[.slice AM nm cm], .agg #[.int .i64 25, .slice K kn kc, .int .i64 N, .int .i64 D, .string nme], .int .i64 s, .slice AK 3 ck] w (ValueP S0 w (some ⟨0, 0, putR v.num x.num (x.num == u.rest) u.cells, u.rest⟩)) := by
  obtain ⟨X, hX, hI, hsX⟩ := RefI.start w #[.slice A1 n1 c1, .slice A2 n2 c2, .slice A3 n3 c3] #[.slice AM nm cm] #[.int .i64 25, .slice K kn kc, .int .i64 N, .int .i64 D, .string nme]
  have x0 : X.cell? ⟨w.heap.size + 2, 0, none⟩ = some (.int .i64 25) := hI.node.cell 0
  have x2 : X.cell? ⟨w.heap.size + 2, 2, none⟩ = some (.int .i64 N) := hI.node.cell 2
  have x3 : X.cell? ⟨w.heap.size + 2, 3, none⟩ = some (.int .i64 D) := hI.node.cell 3
  have hzx : w.heap.size + 3 < X.heap.size := hI.val.lt
  have hvX : Arr AtValue 4 X S0 AK 3 [u, v, x] := hvs.keep stays_value (fun _ h => h) (fun b o h => hI.below.cell (p := ⟨b, o, none⟩) (hS0 b h))
  have HX := Lib.hid hX
  have HI := Lib.hid hI
  have HVX := Lib.hid hvX
  have HS0 := Lib.hid hS0
  have HSX := Lib.hid hsX
  have hl := hvX.len
  have HLV := Lib.hid hl
  obtain ⟨C, hC⟩ : ∃ C, ([u, v, x] : List ValueD).countP isOne = C := ⟨_, rfl⟩
  have HC0 : Hid (0 + (([u, v, x] : List ValueD).drop 0).countP isOne = C) := by show _ = _; rw [Nat.zero_add]; exact hC
  obtain ⟨q, hq⟩ : ∃ q, putR v.num x.num (x.num == u.rest) u.cells = q := ⟨_, rfl⟩
  rw [hq]
  have HQQ := Lib.hid hq
  clear hq
  have HCC := Lib.hid hC
  clear hX hI hsX hvs hvX hS0 hl hC
  go_enter Tryz.func17, Tryz.ntmps17
  go_wp2_with fail
  rw [HX.out]
  clear x0 x2 x3
  go_loop [16, 17] (fun s16 s17 => ∃ (k y : Nat), k ≤ 3 ∧ s17 = .int .i64 k ∧ s16 = .int .i64 y ∧ y ≤ k ∧ Hid (y + (([u, v, x] : List ValueD).drop k).countP isOne = C)) (fun _ s17 => 3 - (intOf s17).toNat)
  case atStart => exact ⟨0, 0, Nat.zero_le _, rfl, rfl, Nat.le_refl _, HC0⟩
  case round =>
    clear HC0
    obtain ⟨k, y, hk, rfl, rfl, hy, HY⟩ := hrel
    by_cases hlt : k < 3
    · obtain ⟨b0, off, hx, A5, n5, c5, rfl, -, v0, -, -, -, -, -, -, -, -, -⟩ := values_get HVX.out hlt
      have e1 := HY.out
      rw [drop_cons hx, List.countP_cons] at e1
      generalize ([u, v, x] : List ValueD)[k] = u9 at e1 v0
      obtain ⟨un9, ud9, uc9, ur9⟩ := u9
      dsimp only at v0
      clear hx HY
      cases hq : isOne ⟨un9, ud9, uc9, ur9⟩ with
      | true =>
        have q1 : (un9 == 1) = true := hq
        rw [hq, if_pos rfl] at e1
        have H1 : Hid (y + 1 + (([u, v, x] : List ValueD).drop (k + 1)).countP isOne = C) := by show _ = _; omega
        clear hq e1
        go_wp2_with fail
        go_round
        case rel => exact ⟨k + 1, y + 1, by omega, by go_num, by go_num, by omega, H1⟩
        case measure => simp [intOf]; omega
      | false =>
        have q1 : (un9 == 1) = false := hq
        rw [hq, if_neg (by simp)] at e1
        have H1 : Hid (y + (([u, v, x] : List ValueD).drop (k + 1)).countP isOne = C) := by show _ = _; omega
        clear hq e1
        go_wp2_with fail
        go_round
        case rel => exact ⟨k + 1, y, by omega, by go_num, rfl, by omega, H1⟩
        case measure => simp [intOf]; omega
    · have hkk : k = 3 := by omega
      subst hkk
      have e1 := HY.out
      rw [List.drop_of_length_le (by rw [HLV.out]; exact Nat.le_refl _), List.countP_nil, Nat.add_zero] at e1
      subst e1
      have x0 : X.cell? ⟨w.heap.size + 2, 0, none⟩ = some (.int .i64 25) := HI.out.node.cell 0
      have x2 : X.cell? ⟨w.heap.size + 2, 2, none⟩ = some (.int .i64 N) := HI.out.node.cell 2
      have x3 : X.cell? ⟨w.heap.size + 2, 3, none⟩ = some (.int .i64 D) := HI.out.node.cell 3
      clear HY hk hlt
      obtain ⟨b0, off, hx, A4, n4, c4, rfl, hb0, v0, v1, v2, v3, hcc, hcn, hcm, i0, i1, i2⟩ := values_get HVX.out (i := 0) (by omega)
      obtain ⟨b1, off1, hx1, A5, n5, c5, hA1, -, w0, w1, w2, w3, -, -, -, j0, -, -⟩ := values_get HVX.out (i := 1) (by omega)
      injection hA1 with hA1
      injection hA1 with e1 e2
      subst e1 e2
      simp only [List.getElem_cons_succ, List.getElem_cons_zero, Nat.zero_mul, Nat.add_zero, Nat.one_mul] at v0 v1 v3 v2 hcc i0 i1 i2 w0 w1 w2 w3 j0
      have hbX : b0 < X.heap.size := Nat.lt_of_lt_of_le (HS0.out b0 hb0) HI.out.below.size
      obtain ⟨b2, off2, hx2, A6, n6, c6, hA2, -, y0, -, -, -, -, -, -, k0, -, -⟩ := values_get HVX.out (i := 2) (by omega)
      injection hA2 with hA2
      injection hA2 with e1 e2
      subst e1 e2
      simp only [List.getElem_cons_succ, List.getElem_cons_zero] at y0 k0
      obtain ⟨un, ud, uc, ur⟩ := u
      obtain ⟨vn, vd, vc, vr⟩ := v
      obtain ⟨yn, yd, yc, yr⟩ := x
      dsimp only at v0 v1 v3 w0 w1 w3 hcc hu1 y0 k0 j0 ⊢
      have hq := HQQ.out
      dsimp only at hq
      have hlc := hcc.len
      have HL : Hid (∀ W : World, Below X.heap.size X W → Calls Tryz.prog 51 #[.agg #[.int .i64 un, .int .i64 ud, .slice A4 n4 c4, .int .i64 ur], .int .i64 vn, .int .i64 yn] W (NewV ⟨0, 0, q, ur⟩ W)) := fun W hW => by
        rw [← hq]
        exact putCell_any un ud ur vn yn A4 n4 c4 uc W (hcc.keep stays_cell (fun b hb => Nat.lt_of_lt_of_le (HS0.out b hb) (Nat.le_trans HI.out.below.size hW.size)) (fun b o hb => hW.cell (p := ⟨b, o, none⟩) (Nat.lt_of_lt_of_le (HS0.out b hb) HI.out.below.size))) (by omega) j0 k0
      clear hx hx1 hx2 hcc hcn hcm i0 i1 i2 j0 k0 HVX HCC hu1 hq hlc
      go_upto_region 62 with fail
      go_still_tail 13, (by kernel_rfl)
      change wpList _ _ _ _ _ X.drew
      have HID : Hid (RefI w X.drew #[.slice A1 n1 c1, .slice A2 n2 c2, .slice A3 n3 c3] #[.slice AM nm cm] #[.int .i64 25, .slice K kn kc, .int .i64 N, .int .i64 D, .string nme]) := HI.out.keep (below_drewN (Below.refl _ _) 1)
      have HL2 := Lib.hid (HL.out X.drew (below_drewN (Below.refl _ _) 1))
      have HZX := Lib.hid hzx
      clear v0 v1 v2 v3 w0 w1 w2 w3 y0 x0 x2 x3 hzx hbX hb0
      go_wp2_with fail
      refine HL2.out.mono ?_
      rintro e w6 ⟨A7, c7, rfl, h51, h52, h53, hb6⟩
      have HI6 := Lib.hid (HID.out.keep hb6)
      have HA5 := Lib.hid (And.intro h51 (And.intro h52 h53))
      clear hb6 h51 h52 h53
      obtain ⟨m0, m1, m2, m3, u0, u1, u2, u3, zm⟩ := HI6.out.val.four
      go_wp2_with fail
      have hF := HI6.out.fin (.int .i64 0) (.int .i64 0) (.slice A7 q.length c7) (.int .i64 ur)
      have hAZ : Arr AtCell 2 (put4 w6 (w.heap.size + 3) (.int .i64 0) (.int .i64 0) (.slice A7 q.length c7) (.int .i64 ur)) (fun b => S0 b ∨ (w.heap.size ≤ b ∧ b < (put4 w6 (w.heap.size + 3) (.int .i64 0) (.int .i64 0) (.slice A7 q.length c7) (.int .i64 ur)).heap.size)) A7 q.length q := HA5.out.2.2.keep stays_cell (fun b hb => .inr (by have h9 : X.heap.size ≤ b ∧ b < w6.heap.size := hb; have := HZX.out; unfold put4; simp; omega)) (fun b o hb => only_cell (row := some (w.heap.size + 3)) (put4_only (only_refl w6 _) _ _ _ _) hb.2 (fun e => by injection e with e; have h9 : X.heap.size ≤ b ∧ b < w6.heap.size := hb; have := HZX.out; omega))
      exact ref_ret HI6.out.val rfl rfl rfl rfl (⟨hF.1, A7, c7, rfl, HA5.out.1, HA5.out.2.1, hAZ⟩)

end Go.Proofs.YtggkfepifnfdoaaGreat
