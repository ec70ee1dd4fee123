/- Walk: is a meaning one of a declaration: the program. -/
import Derived.Test.YthooecojopfjbaaMeanDE
namespace Go.Proofs.Ythooecojopfjbaa
open Go.RowKit

theorem mean1_pred (B : Nat) (AD : Option Addr) (nd cd : Nat) (xs : List EntryD) (w : World) (hB : w.cell? ⟨B, 1, none⟩ = some (.slice AD nd cd)) (hlt : B < w.heap.size) : PredEntry Try.prog 122 #[.pointer (some ⟨B, 0, none⟩)] (sizeBad nd) xs w := fun W x A n c A2 n2 c2 _ hb ha _ _ _ =>
  (mean1_any x A n c A2 n2 c2 B AD nd cd W ((hb.cell (p := ⟨B, 1, none⟩) hlt).trans hB) (Nat.lt_of_lt_of_le hlt hb.size) ha.len).mono fun _ _ ⟨he, h2⟩ => ⟨he, hb.trans (h2.mono hb.size)⟩
theorem mean2_pred (xs : List EntryD) (w : World) (h8 : ∀ x ∈ xs, x.args.length ≤ 1000000) : PredEntry Try.prog 123 #[] rangeBad xs w := fun W x A n c A2 n2 c2 hx hb ha _ _ _ =>
  (mean2_any x A n c A2 n2 c2 w.heap.size W hb.size ha (by have := h8 x hx; have := ha.len; omega)).mono fun _ _ ⟨he, h2⟩ => ⟨he, hb.trans (h2.mono hb.size)⟩
theorem mean3_pred (y : EntryD) (B B0 : Nat) (AY : Option Addr) (ny cy : Nat) (xs : List EntryD) (w : World) (hB : w.cell? ⟨B, 0, none⟩ = some (.slice AY ny cy)) (hlt : B < w.heap.size) (hy : IntsB w B0 AY ny y.args) (hB0 : B0 ≤ w.heap.size) (hny : ny ≤ 9223372036854775807) : PredEntry Try.prog 126 #[.pointer (some ⟨B, 0, none⟩)] (sameArgs y) xs w := fun W x A n c A2 n2 c2 _ hb ha _ hn _ =>
  (mean3_any x y A n c A2 n2 c2 w.heap.size B AY ny cy W hb.size ha hn ((hb.cell (p := ⟨B, 0, none⟩) hlt).trans hB) (Nat.lt_of_lt_of_le hlt hb.size) (hy.below stays_int (hb.mono hB0) hB0) hny).mono fun _ _ ⟨he, h2⟩ => ⟨he, hb.trans (h2.mono hb.size)⟩
theorem mean4_pred (B : Nat) (so : Int) (xs : List EntryD) (w : World) (hB : w.cell? ⟨B, 2, none⟩ = some (.int .i64 so)) (hlt : B < w.heap.size) : PredEntry Try.prog 128 #[.pointer (some ⟨B, 0, none⟩)] (toBad so) xs w := fun W x A n c A2 n2 c2 _ hb _ hc _ hn2 =>
  (mean4_any x A n c A2 n2 c2 w.heap.size B so W hb.size hc hn2 ((hb.cell (p := ⟨B, 2, none⟩) hlt).trans hB) (Nat.lt_of_lt_of_le hlt hb.size)).mono fun _ _ ⟨he, h2⟩ => ⟨he, hb.trans (h2.mono hb.size)⟩

set_option maxRecDepth 100000 in
set_option maxHeartbeats 4000000 in
theorem checkMeaning_any (nm : ByteArray) (AD : Option Addr) (nd cd : Nat) (dargs : List Int) (so : Int) (AR : Option Addr) (nr cr : Nat) (rows : List EntryD) (num den : Int) (AC : Option Addr) (nc cc : Nat) (cells : List CellD) (rest R : Int) (w : World)
    (hdl : dargs.length = nd) (hd8 : nd ≤ 1000000) (hrows : ArrB AtEntry 5 w w.heap.size AR nr rows) (hrc : nr ≤ cr) (hcells : ArrB AtCell 2 w w.heap.size AC nc cells) (hnc : nc ≤ 9223372036854775807) (hR : meaningF ⟨nm, dargs, so⟩ ⟨rows, num, den, cells, rest⟩ = R) :
    Calls Try.prog 96 #[.agg #[.string nm, .slice AD nd cd, .int .i64 so], .agg #[.slice AR nr cr, .int .i64 num, .int .i64 den, .slice AC nc cc, .int .i64 rest]] w fun e w' => e = .returned (.int .i64 R) ∧ Below w.heap.size w w' := by
  have eg1 : ∀ args w, (callFunc 122 args).run Try.prog w = .ok (.enter 122 args) w := enters_of Try.func122 (by kernel_rfl) rfl
  have eg2 : ∀ args w, (callFunc 123 args).run Try.prog w = .ok (.enter 123 args) w := enters_of Try.func123 (by kernel_rfl) rfl
  have eg3 : ∀ args w, (callFunc 126 args).run Try.prog w = .ok (.enter 126 args) w := enters_of Try.func126 (by kernel_rfl) rfl
  have eg4 : ∀ args w, (callFunc 128 args).run Try.prog w = .ok (.enter 128 args) w := enters_of Try.func128 (by kernel_rfl) rfl
  obtain ⟨hb0, hk0, hm0, hs0⟩ := two_boxes w 61 64 #[.string nm, .slice AD nd cd, .int .i64 so] #[.slice AR nr cr, .int .i64 num, .int .i64 den, .slice AC nc cc, .int .i64 rest]
  have hlr := hrows.len
  have hMK : ∀ W : World, Below (w.heap.size + 2) ((w.alloc (.cells #[.string nm, .slice AD nd cd, .int .i64 so] 61)).alloc (.cells #[.slice AR nr cr, .int .i64 num, .int .i64 den, .slice AC nc cc, .int .i64 rest] 64)) W → Below w.heap.size w W ∧ W.cell? ⟨w.heap.size, 1, none⟩ = some (.slice AD nd cd) ∧ W.cell? ⟨w.heap.size, 2, none⟩ = some (.int .i64 so) ∧
      W.cell? ⟨w.heap.size + 1, 0, none⟩ = some (.slice AR nr cr) ∧ W.cell? ⟨w.heap.size + 1, 1, none⟩ = some (.int .i64 num) ∧ W.cell? ⟨w.heap.size + 1, 2, none⟩ = some (.int .i64 den) ∧ W.cell? ⟨w.heap.size + 1, 3, none⟩ = some (.slice AC nc cc) ∧ W.cell? ⟨w.heap.size + 1, 4, none⟩ = some (.int .i64 rest) ∧ w.heap.size + 1 < W.heap.size := fun W hW =>
    have h1 := hk0.below hW (by omega)
    have h2 := hm0.below hW (by omega)
    ⟨hb0.trans (hW.mono (by omega)), h1.cell 1, h1.cell 2, h2.cell 0, h2.cell 1, h2.cell 2, h2.cell 3, h2.cell 4, h2.lt⟩
  generalize hXd : (w.alloc (.cells #[.string nm, .slice AD nd cd, .int .i64 so] 61)).alloc (.cells #[.slice AR nr cr, .int .i64 num, .int .i64 den, .slice AC nc cc, .int .i64 rest] 64) = X at hb0 hk0 hm0 hs0 hMK
  have HXD := Lib.hid hXd
  have MK := Lib.hid hMK
  have H0 := Lib.hid (And.intro hb0 hs0)
  have HRO := Lib.hid (And.intro hrows hcells)
  have x0 := MK.out X (Below.refl _ _)
  obtain ⟨-, x1, x2, x3, x4, x5, x6, x7, hzx⟩ := x0
  rw [meaningF] at hR
  dsimp only at hR
  rw [hlr, hdl] at hR
  clear hb0 hk0 hm0 hs0 hMK hXd hrows hcells hdl
  by_cases hmany : 1000 < nr
  · rw [if_pos (.inl hmany)] at hR
    subst hR
    have hI : (nr : Int) > 1000 := by omega
    go_enter Try.func96, Try.ntmps96
    go_wp2_with fail
    rw [HXD.out]
    go_ret
    exact ⟨rfl, H0.out.1⟩
  have hI : ¬ ((nr : Int) > 1000) := by omega
  have hC1 : ∀ Q, rows.any (sizeBad nd) = Q → Calls Try.prog 121 #[.slice AR nr cr, .func (.func 122) #[] #[.pointer (some ⟨w.heap.size, 0, none⟩)]] X fun e w' => e = .returned (.bool Q) ∧ Below X.heap.size X w' := fun Q hQ =>
    containsEntries_any 122 _ eg1 (sizeBad nd) AR nr cr rows Q X (HRO.out.1.below stays_entry H0.out.1 (by have := H0.out.1.size; omega)) (by omega) (mean1_pred w.heap.size AD nd cd rows X x1 (by omega)) hQ
  cases hq1 : rows.any (sizeBad nd) with
  | true =>
    rw [if_pos (.inr hq1)] at hR
    subst hR
    have HC1 := Lib.hid (hC1 _ hq1)
    clear hC1 hq1
    go_enter Try.func96, Try.ntmps96
    go_wp2_with fail
    rw [HXD.out]
    refine HC1.out.mono ?_
    rintro e w1 ⟨rfl, hb1⟩
    have HB1 := Lib.hid (MK.out w1 (hb1.mono (by have := H0.out.2; omega))).1
    clear hb1 x1 x2 x3 x4 x5 x6 x7 hzx
    go_wp2_with fail
    go_ret
    exact ⟨rfl, HB1.out⟩
  | false =>
  have h8 : ∀ x ∈ rows, x.args.length ≤ 1000000 := fun x hx => by
    have := List.any_eq_false.1 hq1 x hx
    simp only [sizeBad, decide_eq_true_eq, Classical.not_not] at this
    omega
  rw [if_neg (by rw [hq1]; simp [hmany])] at hR
  have HC1 := Lib.hid (hC1 _ hq1)
  have HC2 : Hid (∀ (W : World), Below X.heap.size X W → ∀ Q, rows.any rangeBad = Q → Calls Try.prog 121 #[.slice AR nr cr, .func (.func 123) #[] #[]] W fun e w' => e = .returned (.bool Q) ∧ Below W.heap.size W w') := fun W hW Q hQ =>
    containsEntries_any 123 _ eg2 rangeBad AR nr cr rows Q W ((HRO.out.1.below stays_entry H0.out.1 (by have := H0.out.1.size; omega)).below stays_entry (hW.mono (by have := H0.out.1.size; omega)) (Nat.le_trans H0.out.1.size hW.size)) (by omega) (mean2_pred rows W h8) hQ
  clear hC1 hq1
  cases hq2 : rows.any rangeBad with
  | true =>
    rw [if_pos hq2] at hR
    subst hR
    go_enter Try.func96, Try.ntmps96
    go_wp2_with fail
    rw [HXD.out]
    refine HC1.out.mono ?_
    rintro e w1 ⟨rfl, hb1⟩
    have HB1 := Lib.hid hb1
    obtain ⟨-, x1, x2, x3, x4, x5, x6, x7, hzx⟩ := MK.out w1 (hb1.mono (by have := H0.out.2; omega))
    clear hb1
    go_wp2_with fail
    refine (HC2.out w1 HB1.out _ hq2).mono ?_
    rintro e w2 ⟨rfl, hb2⟩
    have HB2 := Lib.hid (MK.out w2 ((HB1.out.trans (hb2.mono HB1.out.size)).mono (by have := H0.out.2; omega))).1
    clear hb2 x1 x2 x3 x4 x5 x6 x7 hzx
    go_wp2_with fail
    go_ret
    exact ⟨rfl, HB2.out⟩
  | false =>
  rw [if_neg (by rw [hq2]; simp)] at hR
  have HQ2 := Lib.hid hq2
  obtain ⟨D, hD⟩ : ∃ D, dupB [] rows = D := ⟨_, rfl⟩
  rw [hD] at hR
  have H7 : Hid (D = true → 7 = R) := fun h => by rw [if_pos h] at hR; exact hR
  have H8 : Hid (D = false → (if goodV so ⟨num, den, cells, rest⟩ = false ∨ rows.any (toBad so) = true then (8 : Int) else 0) = R) := fun h => by rw [if_neg (by rw [h]; simp)] at hR; exact hR
  have HD := Lib.hid hD
  have HN : Hid (nr ≤ 9223372036854775807) := by show _ ≤ _; omega
  have HX3 := Lib.hid eg3
  have HX4 := Lib.hid eg4
  clear hq2 hR hD eg1 eg2 eg3 eg4 x1 x2 x3 x4 x5 x6 x7 hzx
  obtain ⟨-, x1, x2, x3, x4, x5, x6, x7, hzx⟩ := MK.out X (Below.refl _ _)
  go_enter Try.func96, Try.ntmps96
  go_wp2_with fail
  rw [HXD.out]
  refine HC1.out.mono ?_
  rintro e w1 ⟨rfl, hb1⟩
  have HB1 := Lib.hid hb1
  clear x1 x2 x3 x4 x5 x6 x7 hzx
  obtain ⟨-, x1, x2, x3, x4, x5, x6, x7, hzx⟩ := MK.out w1 (hb1.mono (by have := H0.out.2; omega))
  clear hb1
  go_wp2_with fail
  refine (HC2.out w1 HB1.out _ HQ2.out).mono ?_
  rintro e w2 ⟨rfl, hb2⟩
  have HB2 := Lib.hid ((HB1.out.trans (hb2.mono HB1.out.size)).mono (show w.heap.size + 2 ≤ X.heap.size by have := H0.out.2; omega))
  clear hb2 x1 x2 x3 x4 x5 x6 x7 hzx
  obtain ⟨-, x1, x2, x3, x4, x5, x6, x7, hzx⟩ := MK.out w2 HB2.out
  go_wp2_with fail
  clear x1 x2 x3 x4 x5 x6 x7 hzx
  go_loopw [23] (fun s wr => ∃ k : Nat, k ≤ nr ∧ s = .int .i64 k ∧ Below (w.heap.size + 2) X wr ∧ Hid (dupB (rows.take k) (rows.drop k) = D)) (fun s _ => nr - (intOf s).toNat)
  case atStart => exact ⟨0, Nat.zero_le _, rfl, HB2.out, HD⟩
  case round =>
    obtain ⟨k, hk, rfl, hbel, HK⟩ := hrel
    obtain ⟨hbw, x1, x2, x3, x4, x5, x6, x7, hzx⟩ := MK.out wr hbel
    by_cases hlt : k < nr
    · have hro := HRO.out.1.below stays_entry hbw (Nat.le_refl _)
      obtain ⟨b, off, hx, A', n', c', A2, n2, c2, rfl, hb, hc0, hc1, hc2, hc3, hc4, hca, hcc, hcn, hcn2⟩ := entries_get hro hlt
      have e1 := HK.out
      rw [drop_cons hx, dupB] at e1
      have htk : rows.take (k + 1) = rows.take k ++ [rows[k]] := by rw [List.take_append_getElem]
      generalize rows[k] = y at e1 hc1 hc2 hc4 hca hcc htk
      obtain ⟨ya, yt⟩ := y
      obtain ⟨yn, yd, yc, yr⟩ := yt
      dsimp only at hc1 hc2 hc4 hca hcc
      have hwb : Below wr.heap.size wr (wr.alloc (.cells #[.slice A' n' c', .int .i64 yn, .int .i64 yd, .slice A2 n2 c2, .int .i64 yr] 91)) := (Below.refl _ _).alloc (Nat.le_refl _) _
      have hbn := Blk.new wr 91 #[.slice A' n' c', .int .i64 yn, .int .i64 yd, .slice A2 n2 c2, .int .i64 yr]
      have hzB : (wr.alloc (.cells #[.slice A' n' c', .int .i64 yn, .int .i64 yd, .slice A2 n2 c2, .int .i64 yr] 91)).heap.size = wr.heap.size + 1 := by simp
      have hro2 : ArrB AtEntry 5 (wr.alloc (.cells #[.slice A' n' c', .int .i64 yn, .int .i64 yd, .slice A2 n2 c2, .int .i64 yr] 91)) (wr.alloc (.cells #[.slice A' n' c', .int .i64 yn, .int .i64 yd, .slice A2 n2 c2, .int .i64 yr] 91)).heap.size (some ⟨b, off, none⟩) k (rows.take k) := ArrB.below (B := w.heap.size) (hro.take hk) stays_entry (hwb.mono (by omega)) (by omega)
      have HCC : Hid (∀ Q, (rows.take k).any (sameArgs ⟨ya, yn, yd, yc, yr⟩) = Q → Calls Try.prog 121 #[.slice (some ⟨b, off, none⟩) k cr, .func (.func 126) #[] #[.pointer (some ⟨wr.heap.size, 0, none⟩)]] (wr.alloc (.cells #[.slice A' n' c', .int .i64 yn, .int .i64 yd, .slice A2 n2 c2, .int .i64 yr] 91)) fun e w' => e = .returned (.bool Q) ∧ Below (wr.alloc (.cells #[.slice A' n' c', .int .i64 yn, .int .i64 yd, .slice A2 n2 c2, .int .i64 yr] 91)).heap.size (wr.alloc (.cells #[.slice A' n' c', .int .i64 yn, .int .i64 yd, .slice A2 n2 c2, .int .i64 yr] 91)) w') := fun Q hQ =>
        containsEntries_any 126 _ HX3.out (sameArgs ⟨ya, yn, yd, yc, yr⟩) (some ⟨b, off, none⟩) k cr (rows.take k) Q _ hro2 (by have := HN.out; omega) (mean3_pred ⟨ya, yn, yd, yc, yr⟩ wr.heap.size w.heap.size A' n' c' _ _ (hbn.cell 0) (by omega) (hca.below stays_int (hwb.mono (by omega)) (Nat.le_refl _)) (by omega) hcn) hQ
      have HW := Lib.hid (show Below (w.heap.size + 2) X (wr.alloc (.cells #[.slice A' n' c', .int .i64 yn, .int .i64 yd, .slice A2 n2 c2, .int .i64 yr] 91)) from hbel.alloc (by omega) _)
      have hcI : (k : Int) ≤ (cr : Int) := by omega
      have HZ := Lib.hid (And.intro hzB hzx)
      clear hwb hbn hro hro2 hca hcc hbel hbw hzB HK hx hb
      cases hq3 : (rows.take k).any (sameArgs ⟨ya, yn, yd, yc, yr⟩) with
      | true =>
        rw [hq3, Bool.true_or] at e1
        have hR := H7.out e1.symm
        subst hR
        clear e1
        have HC3 := Lib.hid (HCC.out _ hq3)
        clear hq3 HCC
        go_wp2_with fail
        refine HC3.out.mono ?_
        rintro e w5 ⟨rfl, hb5⟩
        have HB5 := Lib.hid (MK.out w5 (HW.out.trans (hb5.mono (by have := HZ.out; omega)))).1
        clear hb5 x1 x2 x3 x4 x5 x6 x7 hzx hc0 hc1 hc2 hc3 hc4
        go_wp2_with fail
        go_ret
        exact ⟨rfl, HB5.out⟩
      | false =>
        rw [hq3, Bool.false_or, ← htk] at e1
        have H1 := Lib.hid e1
        clear e1 htk
        have HC3 := Lib.hid (HCC.out _ hq3)
        clear hq3 HCC
        go_wp2_with fail
        refine HC3.out.mono ?_
        rintro e w5 ⟨rfl, hb5⟩
        have HB5 := Lib.hid (HW.out.trans (hb5.mono (show w.heap.size + 2 ≤ _ by have := HZ.out; omega)))
        clear hb5 x1 x2 x3 x4 x5 x6 x7 hzx hc0 hc1 hc2 hc3 hc4
        go_wp2_with fail
        go_roundw
        case rel => exact ⟨k + 1, by omega, by go_num, HB5.out, H1⟩
        case measure => simp [intOf]; omega
    · obtain rfl : nr = k := by omega
      have e1 := HK.out
      rw [List.drop_of_length_le (by omega), dupB] at e1
      have hR := H8.out e1.symm
      clear e1 HK hk
      have hcl := HRO.out.2.below stays_cell hbw (Nat.le_refl _)
      have HIS : Hid (∀ Q, goodV so ⟨num, den, cells, rest⟩ = Q → Calls Try.prog 127 #[.int .i64 so, .agg #[.int .i64 num, .int .i64 den, .slice AC nc cc, .int .i64 rest]] wr fun e w' => e = .returned (.bool Q) ∧ Below wr.heap.size wr w') := fun Q hQ =>
        is_any so num den AC nc cc cells rest Q wr (hcl.keep stays_cell (fun b hb => Nat.lt_of_lt_of_le hb hbw.size) (fun _ _ _ => rfl)) hnc hQ
      have HBR := Lib.hid hbel
      have HZR := Lib.hid hzx
      clear hcl hbel hbw
      cases hq5 : goodV so ⟨num, den, cells, rest⟩ with
      | false =>
        rw [if_pos (.inl hq5)] at hR
        subst hR
        have HC5 := Lib.hid (HIS.out _ hq5)
        clear hq5 HIS
        go_wp2_with fail
        refine HC5.out.mono ?_
        rintro e w5 ⟨rfl, hb5⟩
        have HB5 := Lib.hid (MK.out w5 (HBR.out.trans (hb5.mono HZR.out))).1
        clear hb5 x1 x2 x3 x4 x5 x6 x7 hzx
        go_wp2_with fail
        go_ret
        exact ⟨rfl, HB5.out⟩
      | true =>
        have HC5 := Lib.hid (HIS.out _ hq5)
        have hR2 : (if rows.any (toBad so) = true then (8 : Int) else 0) = R := by rw [← hR, hq5]; simp
        clear hR hq5 HIS
        obtain ⟨Q, hQ⟩ : ∃ Q, rows.any (toBad so) = Q := ⟨_, rfl⟩
        rw [hQ] at hR2
        have HR2 := Lib.hid hR2
        have HQQ := Lib.hid hQ
        clear hR2 hQ
        go_wp2_with fail
        refine HC5.out.mono ?_
        rintro e w5 ⟨rfl, hb5⟩
        have HB5 := Lib.hid (HBR.out.trans (hb5.mono HZR.out))
        clear hb5 x1 x2 x3 x4 x5 x6 x7 hzx
        obtain ⟨hbw, x1, x2, x3, x4, x5, x6, x7, hzx⟩ := MK.out w5 HB5.out
        have HC6 := Lib.hid (containsEntries_any 128 #[.pointer (some ⟨w.heap.size, 0, none⟩)] HX4.out (toBad so) AR nr cr rows Q w5 (HRO.out.1.below stays_entry hbw hbw.size) HN.out (mean4_pred w.heap.size so rows w5 x2 (by omega)) HQQ.out)
        have HBW := Lib.hid hbw
        clear hbw
        cases Q with
        | true =>
          go_wp2_with fail
          refine HC6.out.mono ?_
          rintro e w6 ⟨rfl, hb6⟩
          have HB6 := Lib.hid (HBW.out.trans (hb6.mono HBW.out.size))
          clear hb6 x1 x2 x3 x4 x5 x6 x7 hzx
          go_wp2_with fail
          go_ret
          exact ⟨ret_int (by rw [← HR2.out]; rfl), HB6.out⟩
        | false =>
          go_wp2_with fail
          refine HC6.out.mono ?_
          rintro e w6 ⟨rfl, hb6⟩
          have HB6 := Lib.hid (HBW.out.trans (hb6.mono HBW.out.size))
          clear hb6 x1 x2 x3 x4 x5 x6 x7 hzx
          go_wp2_with fail
          go_ret
          exact ⟨ret_int (by rw [← HR2.out]; rfl), HB6.out⟩
end Go.Proofs.Ythooecojopfjbaa
