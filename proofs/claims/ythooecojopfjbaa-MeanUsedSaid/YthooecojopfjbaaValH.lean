/- Walk: what a meaning tells: the program. -/
import Derived.Test.YthooecojopfjbaaValG
import Derived.Test.YthooecojopfjbaaMeanDE
namespace Go.Proofs.Ythooecojopfjbaa
open Go.RowKit

theorem values_get {w : World} {S : Nat → Prop} {A : Option Addr} {n : Nat} {xs : List ValueD} (h : Arr AtValue 4 w S A n xs) {i : Nat} (hi : i < n) :
    ∃ (b off : Nat) (hx : i < xs.length) (A2 : Option Addr) (n2 c2 : Nat), A = some ⟨b, off, none⟩ ∧ S b ∧ w.cell? ⟨b, off + i * 4, none⟩ = some (.int .i64 xs[i].num) ∧ w.cell? ⟨b, off + i * 4 + 1, none⟩ = some (.int .i64 xs[i].den) ∧
      w.cell? ⟨b, off + i * 4 + 2, none⟩ = some (.slice A2 n2 c2) ∧ w.cell? ⟨b, off + i * 4 + 3, none⟩ = some (.int .i64 xs[i].rest) ∧ Arr AtCell 2 w S A2 n2 xs[i].cells ∧ n2 ≤ c2 ∧ c2 ≤ maxLen ∧ I64 xs[i].num ∧ I64 xs[i].den ∧ I64 xs[i].rest := by
  obtain ⟨b, off, hx, e, hb, h4, h5, ⟨A2, n2, c2, h6, h7, h8, h9⟩, h10⟩ := Arr.get h hi
  exact ⟨b, off, hx, A2, n2, c2, e, hb, h4.1, h5.1, h6, h10.1, h9, h7, h8, h4.2, h5.2, h10.2⟩
theorem cellsOk_len {rest : Int} : ∀ {cs : List CellD} {p : Int}, p ≤ 1000 → cellsOk rest p cs = true → (cs.length : Int) ≤ 1000 - p
  | [], p, hp, _ => by simp; omega
  | c :: r, p, _, h => by
    rw [cellsOk, Bool.and_eq_true, cellOk, Bool.and_eq_true, decide_eq_true_eq] at h
    have h1 : 0 ≤ c.at_ ∧ c.at_ ≤ 1000 := by have := h.1.1; simp only [Bool.and_eq_true, thingB, decide_eq_true_eq] at this; exact this.1.1
    have := cellsOk_len h1.2 h.2
    have := h.1.2
    rw [List.length_cons]
    omega
theorem goodV_cells {s : Int} {v : ValueD} (h : goodV s v = true) : v.cells.length ≤ 1001 := by
  by_cases h5 : s = 5
  · subst h5
    rw [goodV, if_pos rfl, arrB] at h
    simp only [Bool.and_eq_true] at h
    have := cellsOk_len (by omega) h.2
    omega
  · rw [(goodV_num h h5).1]; simp

/-- a result of four cells is stored: what lies behind block g is as it was -/
theorem put4_new {w w5 : World} {B g n : Nat} {t : TypeId} {a0 b0 c0 d0 : Value} {A : Option Addr} {xs : List CellD} (hb : Below w.heap.size w w5) (hm : Blk w5 g t #[a0, b0, c0, d0]) (hg : w.heap.size ≤ g) (hB : g < B) (ha : Arr AtCell 2 w5 (fun b => B ≤ b ∧ b < w5.heap.size) A n xs) (a b c d : Value) :
    Below w.heap.size w (put4 w5 g a b c d) ∧ Blk (put4 w5 g a b c d) g t #[a, b, c, d] ∧ Arr AtCell 2 (put4 w5 g a b c d) (fun x => w.heap.size ≤ x ∧ x < (put4 w5 g a b c d).heap.size) A n xs := by
  have h3 : w5.grownBy (put4 w5 g a b c d) (some g) := put4_only (only_refl _ _) _ _ _ _
  exact ⟨put4_below hb hg a b c d, put4_blk hm a b c d, ha.keep stays_cell (fun x hx => ⟨by omega, Nat.lt_of_lt_of_le hx.2 h3.size⟩) (fun x o hx => only_cell h3 hx.2 (fun e => by injection e with e; omega))⟩

set_option maxRecDepth 100000 in
set_option maxHeartbeats 4000000 in
theorem told_any (AR : Option Addr) (nr cr : Nat) (rows : List EntryD) (rest : ValueD) (AC : Option Addr) (nc cc : Nat) (AK : Option Addr) (nk ck : Nat) (vs : List ValueD) (w : World)
    (hrows : ArrB AtEntry 5 w w.heap.size AR nr rows) (hnr : nr ≤ 1000) (hrest : ArrB AtCell 2 w w.heap.size AC nc rest.cells) (hvs : ArrB AtValue 4 w w.heap.size AK nk vs) (hn8 : nk ≤ 1000) (hal : ∀ e ∈ rows, e.args.length = vs.length ∧ e.to_.cells.length ≤ 1001) (hrl : rest.cells.length ≤ 1001) :
    Calls Try.prog 103 #[.agg #[.slice AR nr cr, .int .i64 rest.num, .int .i64 rest.den, .slice AC nc cc, .int .i64 rest.rest], .slice AK nk ck] w (NewV (toldF vs rest rows) w) := by
  obtain ⟨hb0, hk0, hm0, hs0⟩ := two_boxes w 64 54 #[.slice AR nr cr, .int .i64 rest.num, .int .i64 rest.den, .slice AC nc cc, .int .i64 rest.rest] #[.int .i64 0, .int .i64 0, .slice none 0 0, .int .i64 0]
  obtain ⟨X, hX⟩ : ∃ X, (w.alloc (.cells #[.slice AR nr cr, .int .i64 rest.num, .int .i64 rest.den, .slice AC nc cc, .int .i64 rest.rest] 64)).alloc (.cells #[.int .i64 0, .int .i64 0, .slice none 0 0, .int .i64 0] 54) = X := ⟨_, rfl⟩
  rw [hX] at hb0 hk0 hm0 hs0
  have hMK : ∀ W : World, Below (w.heap.size + 2) X W → Below w.heap.size w W ∧ Blk W w.heap.size 64 #[.slice AR nr cr, .int .i64 rest.num, .int .i64 rest.den, .slice AC nc cc, .int .i64 rest.rest] ∧ Blk W (w.heap.size + 1) 54 #[.int .i64 0, .int .i64 0, .slice none 0 0, .int .i64 0] := fun W hW =>
    ⟨hb0.trans (hW.mono (by omega)), hk0.below hW (by omega), hm0.below hW (by omega)⟩
  have MK := Lib.hid hMK
  have HRO := Lib.hid (And.intro hrows (And.intro hrest hvs))
  have HL := Lib.hid (And.intro hrows.len (And.intro hvs.len hrest.len))
  have HAL := Lib.hid (And.intro hal hrl)
  have HX := Lib.hid hX
  have HS := Lib.hid hs0
  -- the end: a value copied, and stored as the result
  obtain ⟨V, hV⟩ : ∃ V, toldF vs rest rows = V := ⟨_, rfl⟩
  rw [hV]
  have HV := Lib.hid hV
  have x0 : X.cell? ⟨w.heap.size, 0, none⟩ = some (.slice AR nr cr) := hk0.cell 0
  clear hrows hrest hvs hal hrl hb0 hk0 hm0 hs0 hX hMK hV
  go_enter Try.func103, Try.ntmps103
  go_wp2_with fail
  rw [HX.out]
  clear x0
  go_loopw [13] (fun s wr => ∃ k : Nat, k ≤ nr ∧ s = .int .i64 k ∧ Below (w.heap.size + 2) X wr ∧ Hid (toldF vs rest (rows.drop k) = V)) (fun s _ => nr - (intOf s).toNat)
  case atStart => exact ⟨0, Nat.zero_le _, rfl, Below.refl _ _, HV⟩
  case round =>
    clear HV
    obtain ⟨k, hk, rfl, hbel, HK⟩ := hrel
    obtain ⟨hbw, hkm, hkr⟩ := MK.out wr hbel
    by_cases hlt : k < nr
    · obtain ⟨b, off, hx, A', n', c', A2, n2, c2, rfl, hb, hc0, hc1, hc2, hc3, hc4, hca, hcc, hcn, hcn2⟩ := entries_get (HRO.out.1.below stays_entry hbw (Nat.le_refl _)) hlt
      have e1 := HK.out
      rw [drop_cons hx, toldF] at e1
      have hax := HAL.out.1 _ (List.getElem_mem hx)
      generalize rows[k] = y at e1 hc1 hc2 hc4 hca hcc hax
      obtain ⟨ya, yn, yd, yc, yr⟩ := y
      dsimp only at e1 hc1 hc2 hc4 hca hcc hax
      have hla := hca.len
      have hlc := hcc.len
      have hlv := HL.out.2.1
      obtain rfl : nk = n' := by omega
      obtain ⟨Y, hY⟩ : ∃ Y, wr.alloc (.cells #[.slice A' nk c', .int .i64 yn, .int .i64 yd, .slice A2 n2 c2, .int .i64 yr] 91) = Y := ⟨_, rfl⟩
      have hz := hkr.lt
      have hbY : Below (w.heap.size + 2) X Y := by rw [← hY]; exact hbel.alloc (by omega) _
      have hby : Blk Y wr.heap.size 91 #[.slice A' nk c', .int .i64 yn, .int .i64 yd, .slice A2 n2 c2, .int .i64 yr] := by rw [← hY]; exact Blk.new _ _ _
      have hYw : Below w.heap.size wr Y := by rw [← hY]; exact (Below.refl _ _).alloc (by omega) _
      have y0 : Y.cell? ⟨wr.heap.size, 0, none⟩ = some (.slice A' nk c') := hby.cell 0
      have hkI : (k : Int) < (nr : Int) := by omega
      have HY := Lib.hid hY
      have HB := Lib.hid (And.intro hbY (And.intro hby (And.intro (hca.below stays_int hYw (Nat.le_refl _)) (hcc.below stays_cell hYw (Nat.le_refl _)))))
      have HLN := Lib.hid (And.intro hla (And.intro hlc (And.intro hlv hax)))
      have HWZ : Hid (w.heap.size + 2 ≤ wr.heap.size) := hz
      obtain ⟨q, hq⟩ : ∃ q, argsAre ya vs = q := ⟨_, rfl⟩
      rw [hq] at e1
      have HE := Lib.hid e1
      have HQ : Hid ((true && argsAre (ya.drop 0) (vs.drop 0)) = q) := by show _ = _; rw [Bool.true_and]; exact hq
      have hkz : (wr.heap.size) < Y.heap.size := hby.lt
      clear HK hx hbel hbw hkm hkr hb hca hcc hla hlc hlv hax hbY hby hYw hY hz e1 hq
      go_upto_region 4 with fail
      rw [HY.out]
      clear hc0 hc1 hc2 hc3 hc4
      go_wp2_with fail
      clear y0
      obtain ⟨wo, rfl⟩ : ∃ wo : World, wo = wr := ⟨_, rfl⟩
      go_loopw [7, 20] (fun s7 s20 wi => ∃ (j : Nat) (same : Bool), j ≤ nk ∧ s7 = .bool same ∧ s20 = .int .i64 j ∧ wi = Y ∧ Hid ((same && argsAre (ya.drop j) (vs.drop j)) = q)) (fun _ s20 _ => nk - (intOf s20).toNat)
      case atStart => exact ⟨0, true, Nat.zero_le _, rfl, rfl, rfl, HQ⟩
      case round =>
        clear HQ
        obtain ⟨j, same, hj, rfl, rfl, rfl, HJ⟩ := hrel
        have hHB := HB.out
        obtain ⟨hbY, hby, hca, hcc⟩ := hHB
        by_cases hjlt : j < nk
        · obtain ⟨b3, off3, hx3, rfl, hb3, hc3, -, -⟩ := ints_get hca hjlt
          obtain ⟨b4, off4, hx4, A4, n4, c4, rfl, hb4, hv4, -, -, -, -, -, -, -, -, -⟩ := values_get (HRO.out.2.2.below stays_value (MK.out wr hbY).1 (Nat.le_refl _)) hjlt
          have e2 := HJ.out
          rw [drop_cons hx3, drop_cons hx4, argsAre] at e2
          generalize ya[j] = z at e2 hc3
          generalize vs[j] = u at e2 hv4
          obtain ⟨un, ud, uc, ur⟩ := u
          dsimp only at e2 hv4
          have hjI : (j : Int) < (nk : Int) := by omega
          have HBW := Lib.hid (And.intro hbY hby)
          clear HJ hx3 hx4 hca hcc hbY hby hb3 hb4
          cases same with
          | true =>
            have H2 : Hid (((un == z) && argsAre (ya.drop (j + 1)) (vs.drop (j + 1))) = q) := by show _ = _; rw [← e2, Bool.true_and]
            clear e2
            go_wp2_with fail
            go_roundw
            case rel => exact ⟨j + 1, un == z, by omega, rfl, by go_num, by trivial, H2⟩
            case measure => simp [intOf]; omega
          | false =>
            have H2 : Hid ((false && argsAre (ya.drop (j + 1)) (vs.drop (j + 1))) = q) := by show _ = _; rw [← e2, Bool.false_and, Bool.false_and]
            clear e2
            go_wp2_with fail
            go_roundw
            case rel => exact ⟨j + 1, false, by omega, rfl, by go_num, by trivial, H2⟩
            case measure => simp [intOf]; omega
        · obtain rfl : nk = j := by omega
          have e2 := HJ.out
          rw [List.drop_of_length_le (by have := HLN.out.1; omega), List.drop_of_length_le (by have := HLN.out.2.2.1; omega), show argsAre [] [] = true from rfl, Bool.and_true] at e2
          · subst e2
            have e1 := HE.out
            have y1 : wr.cell? ⟨wo.heap.size, 1, none⟩ = some (.int .i64 yn) := hby.cell 1
            have y2 : wr.cell? ⟨wo.heap.size, 2, none⟩ = some (.int .i64 yd) := hby.cell 2
            have y3 : wr.cell? ⟨wo.heap.size, 3, none⟩ = some (.slice A2 n2 c2) := hby.cell 3
            have y4 : wr.cell? ⟨wo.heap.size, 4, none⟩ = some (.int .i64 yr) := hby.cell 4
            have hsz := (MK.out wr hbY).1.size
            have HC := Lib.hid (copied_any yn yd yr A2 n2 c2 yc wr (hcc.keep stays_cell (fun b hb => Nat.lt_of_lt_of_le hb hsz) (fun _ _ _ => rfl)) (by have := HLN.out.2.1; have h9 := HLN.out.2.2.2.2; omega))
            have HBY := Lib.hid hbY
            clear HJ hby hca hcc hbY hsz
            cases same with
            | true =>
              rw [if_pos rfl] at e1
              subst e1
              go_wp2_with fail
              refine HC.out.mono ?_
              rintro e w5 ⟨A5, c5, rfl, h51, h52, h53, hb5⟩
              have hmx := (MK.out w5 (HBY.out.trans (hb5.mono (by have := HWZ.out; omega)))).2.2
              have hbx := (MK.out w5 (HBY.out.trans (hb5.mono (by have := HWZ.out; omega)))).1
              have HF := Lib.hid (fun a b c d => put4_new hbx hmx (Nat.le_succ _) (by show w.heap.size + 1 < wr.heap.size; have := HWZ.out; omega) h53 a b c d)
              have HE5 := Lib.hid (And.intro h51 h52)
              have zm : w.heap.size + 1 < w5.heap.size := hmx.lt
              have m0 : w5.cell? ⟨w.heap.size + 1, 0, none⟩ = some (.int .i64 0) := hmx.cell 0
              have m1 : w5.cell? ⟨w.heap.size + 1, 1, none⟩ = some (.int .i64 0) := hmx.cell 1
              have m2 : w5.cell? ⟨w.heap.size + 1, 2, none⟩ = some (.slice none 0 0) := hmx.cell 2
              have m3 : w5.cell? ⟨w.heap.size + 1, 3, none⟩ = some (.int .i64 0) := hmx.cell 3
              have u0 : w5.frozen? ⟨w.heap.size + 1, 0, none⟩ = false := hmx.frozen 0
              have u1 : w5.frozen? ⟨w.heap.size + 1, 1, none⟩ = false := hmx.frozen 1
              have u2 : w5.frozen? ⟨w.heap.size + 1, 2, none⟩ = false := hmx.frozen 2
              have u3 : w5.frozen? ⟨w.heap.size + 1, 3, none⟩ = false := hmx.frozen 3
              clear hmx hbx h51 h52 h53 hb5
              go_wp2_with fail
              clear m0 m1 m2 m3 u0 u1 u2 u3
              have hF := HF.out (.int .i64 yn) (.int .i64 yd) (.slice A5 yc.length c5) (.int .i64 yr)
              have e4 : (((w5.setCell ⟨w.heap.size + 1, 0, none⟩ (.int .i64 yn)).setCell ⟨w.heap.size + 1, 1, none⟩ (.int .i64 yd)).setCell ⟨w.heap.size + 1, 2, none⟩ (.slice A5 yc.length c5)).setCell ⟨w.heap.size + 1, 3, none⟩ (.int .i64 yr) = put4 w5 (w.heap.size + 1) (.int .i64 yn) (.int .i64 yd) (.slice A5 yc.length c5) (.int .i64 yr) := rfl
              rw [e4]
              clear e4
              generalize put4 w5 (w.heap.size + 1) (.int .i64 yn) (.int .i64 yd) (.slice A5 yc.length c5) (.int .i64 yr) = Z at hF ⊢
              have d0 := hF.2.1.cell 0
              have d1 := hF.2.1.cell 1
              have d2 := hF.2.1.cell 2
              have d3 := hF.2.1.cell 3
              simp only [List.getElem?_toArray, List.getElem?_cons_zero, List.getElem?_cons_succ] at d0 d1 d2 d3
              exact bodyPost_ret (v := .agg #[.int .i64 yn, .int .i64 yd, .slice A5 yc.length c5, .int .i64 yr]) (by simp [results, Try.results103, go_sem, d0, d1, d2, d3]) rfl ⟨A5, c5, rfl, HE5.out.1, HE5.out.2, hF.2.2, hF.1⟩
            | false =>
              rw [if_neg (by simp)] at e1
              have H1 := Lib.hid e1
              clear e1 y1 y2 y3 y4 HC
              go_wp2_with fail
              go_roundw
              case rel => exact ⟨k + 1, by omega, by go_num, HBY.out, H1⟩
              case measure => simp [intOf]; omega
    · obtain rfl : nr = k := by omega
      have e1 := HK.out
      rw [List.drop_of_length_le (by have := HL.out.1; omega), toldF] at e1
      subst e1
      have x1 : wr.cell? ⟨w.heap.size, 1, none⟩ = some (.int .i64 rest.num) := hkm.cell 1
      have x2 : wr.cell? ⟨w.heap.size, 2, none⟩ = some (.int .i64 rest.den) := hkm.cell 2
      have x3 : wr.cell? ⟨w.heap.size, 3, none⟩ = some (.slice AC nc cc) := hkm.cell 3
      have x4 : wr.cell? ⟨w.heap.size, 4, none⟩ = some (.int .i64 rest.rest) := hkm.cell 4
      have hz := hkr.lt
      have HWZ : Hid (w.heap.size + 2 ≤ wr.heap.size) := hz
      have hzm : w.heap.size < wr.heap.size := hkm.lt
      have HC := Lib.hid (copied_any rest.num rest.den rest.rest AC nc cc rest.cells wr (HRO.out.2.1.below stays_cell hbw hbw.size) (by have := HL.out.2.2; have := HAL.out.2; omega))
      have HBE := Lib.hid hbel
      clear HK hbel hbw hkm hkr hk hz
      go_wp2_with fail
      refine HC.out.mono ?_
      rintro e w5 ⟨A5, c5, rfl, h51, h52, h53, hb5⟩
      have hmx := (MK.out w5 (HBE.out.trans (hb5.mono HWZ.out))).2.2
      have hbx := (MK.out w5 (HBE.out.trans (hb5.mono HWZ.out))).1
      have HF := Lib.hid (fun a b c d => put4_new hbx hmx (Nat.le_succ _) (by show w.heap.size + 1 < wr.heap.size; have := HWZ.out; omega) h53 a b c d)
      have HE5 := Lib.hid (And.intro h51 h52)
      have zm : w.heap.size + 1 < w5.heap.size := hmx.lt
      have m0 : w5.cell? ⟨w.heap.size + 1, 0, none⟩ = some (.int .i64 0) := hmx.cell 0
      have m1 : w5.cell? ⟨w.heap.size + 1, 1, none⟩ = some (.int .i64 0) := hmx.cell 1
      have m2 : w5.cell? ⟨w.heap.size + 1, 2, none⟩ = some (.slice none 0 0) := hmx.cell 2
      have m3 : w5.cell? ⟨w.heap.size + 1, 3, none⟩ = some (.int .i64 0) := hmx.cell 3
      have u0 : w5.frozen? ⟨w.heap.size + 1, 0, none⟩ = false := hmx.frozen 0
      have u1 : w5.frozen? ⟨w.heap.size + 1, 1, none⟩ = false := hmx.frozen 1
      have u2 : w5.frozen? ⟨w.heap.size + 1, 2, none⟩ = false := hmx.frozen 2
      have u3 : w5.frozen? ⟨w.heap.size + 1, 3, none⟩ = false := hmx.frozen 3
      clear hmx hbx h51 h52 h53 hb5
      go_wp2_with fail
      clear m0 m1 m2 m3 u0 u1 u2 u3
      have hF := HF.out (.int .i64 rest.num) (.int .i64 rest.den) (.slice A5 rest.cells.length c5) (.int .i64 rest.rest)
      have e4 : (((w5.setCell ⟨w.heap.size + 1, 0, none⟩ (.int .i64 rest.num)).setCell ⟨w.heap.size + 1, 1, none⟩ (.int .i64 rest.den)).setCell ⟨w.heap.size + 1, 2, none⟩ (.slice A5 rest.cells.length c5)).setCell ⟨w.heap.size + 1, 3, none⟩ (.int .i64 rest.rest) = put4 w5 (w.heap.size + 1) (.int .i64 rest.num) (.int .i64 rest.den) (.slice A5 rest.cells.length c5) (.int .i64 rest.rest) := rfl
      rw [e4]
      clear e4
      generalize put4 w5 (w.heap.size + 1) (.int .i64 rest.num) (.int .i64 rest.den) (.slice A5 rest.cells.length c5) (.int .i64 rest.rest) = Z at hF ⊢
      have d0 := hF.2.1.cell 0
      have d1 := hF.2.1.cell 1
      have d2 := hF.2.1.cell 2
      have d3 := hF.2.1.cell 3
      simp only [List.getElem?_toArray, List.getElem?_cons_zero, List.getElem?_cons_succ] at d0 d1 d2 d3
      exact bodyPost_ret (v := .agg #[.int .i64 rest.num, .int .i64 rest.den, .slice A5 rest.cells.length c5, .int .i64 rest.rest]) (by simp [results, Try.results103, go_sem, d0, d1, d2, d3]) rfl ⟨A5, c5, rfl, HE5.out.1, HE5.out.2, hF.2.2, hF.1⟩
end Go.Proofs.Ythooecojopfjbaa
