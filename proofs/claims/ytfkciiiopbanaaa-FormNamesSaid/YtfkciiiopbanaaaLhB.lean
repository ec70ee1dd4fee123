/- Walk: package long's Cmp. -/
import Derived.Test.YtfkciiiopbanaaaLgZA
namespace Go.Proofs.Ytfkciiiopbanaaa
open Go.RowKit

theorem boxes2 (w : World) (t : TypeId) (c0 c1 : Array Value) : Below w.heap.size w ((w.alloc (.cells c0 t)).alloc (.cells c1 t)) ∧ ((w.alloc (.cells c0 t)).alloc (.cells c1 t)).heap.size = w.heap.size + 2 ∧
    Blk ((w.alloc (.cells c0 t)).alloc (.cells c1 t)) w.heap.size t c0 ∧ Blk ((w.alloc (.cells c0 t)).alloc (.cells c1 t)) (w.heap.size + 1) t c1 :=
  ⟨lay_below [(t, c0), (t, c1)] w, lay_size [(t, c0), (t, c1)] w, lay_blk [(t, c0), (t, c1)] w 0 _ _ rfl, lay_blk [(t, c0), (t, c1)] w 1 _ _ rfl⟩
theorem cmpI_neg {a b : Int} (ha : a < 0) (hb : b < 0) : cmpN b.natAbs a.natAbs = cmpI a b := by
  unfold cmpN cmpI
  by_cases h1 : a < b
  · rw [if_pos h1, if_pos (by omega)]
  · by_cases h2 : b < a
    · rw [if_neg h1, if_pos h2, if_neg (by omega), if_pos (by omega)]
    · rw [if_neg h1, if_neg h2, if_neg (by omega), if_neg (by omega)]
theorem cmpI_pos {a b : Int} (ha : 0 ≤ a) (hb : 0 ≤ b) : cmpN a.natAbs b.natAbs = cmpI a b := by
  unfold cmpN cmpI
  by_cases h1 : a < b
  · rw [if_pos h1, if_pos (by omega)]
  · by_cases h2 : b < a
    · rw [if_neg h1, if_pos h2, if_neg (by omega), if_pos (by omega)]
    · rw [if_neg h1, if_neg h2, if_neg (by omega), if_neg (by omega)]
theorem sign_cases (a : Int) : (a < 0 ∧ a.sign = -1) ∨ (a = 0 ∧ a.sign = 0) ∨ (0 < a ∧ a.sign = 1) := by
  rcases Int.lt_trichotomy a 0 with h | h | h
  · exact .inl ⟨h, Int.sign_eq_neg_one_of_neg h⟩
  · exact .inr (.inl ⟨h, by rw [h]; rfl⟩)
  · exact .inr (.inr ⟨h, Int.sign_eq_one_of_pos h⟩)
set_option maxRecDepth 100000 in
set_option maxHeartbeats 8000000 in
theorem lcmp_any (a b : Int) (w : World) (ha : (digN a.natAbs).length ≤ 50000) (hb : (digN b.natAbs).length ≤ 50000) :
    Calls Try.prog 59 #[Lng a, Lng b] w fun e w' => e = .returned (.int .i64 (cmpI a b)) ∧ Below w.heap.size w w' := by
  have HA : ∀ W, Calls Try.prog 67 #[Lng a] W (RowP (digN a.natAbs) W) := fun W => limbs_any a W (by omega)
  have HB : ∀ W, Calls Try.prog 67 #[Lng b] W (RowP (digN b.natAbs) W) := fun W => limbs_any b W (by omega)
  have HSA := fun W => lngSign_any a W
  have HSB := fun W => lngSign_any b W
  have hva := val_digN a.natAbs
  have hvb := val_digN b.natAbs
  have hca := canon_digN a.natAbs
  have hcb := canon_digN b.natAbs
  have hsa := sign_cases a
  have hsb := sign_cases b
  obtain ⟨s, l, hL, hl, -⟩ := lng_open a
  obtain ⟨t, m, hM, hm, -⟩ := lng_open b
  rw [hL] at HA HSA ⊢
  rw [hM] at HB HSB ⊢
  rw [hl] at ha hva hca HA
  rw [hm] at hb hvb hcb HB
  clear hL hM hl hm
  obtain ⟨na, hna⟩ : ∃ na, decide (a < 0) = na := ⟨_, rfl⟩
  obtain ⟨nb, hnb⟩ : ∃ nb, decide (b < 0) = nb := ⟨_, rfl⟩
  rw [hna] at HA HSA ⊢
  rw [hnb] at HB HSB ⊢
  obtain ⟨sa, hsa1⟩ : ∃ sa, a.sign = sa := ⟨_, rfl⟩
  obtain ⟨sb, hsb1⟩ : ∃ sb, b.sign = sb := ⟨_, rfl⟩
  rw [hsa1] at hsa HSA
  rw [hsb1] at hsb HSB
  have HP := Lib.hid (And.intro hca (And.intro hcb (And.intro hva hvb)))
  have HH := Lib.hid (And.intro HA (And.intro HB (And.intro HSA HSB)))
  obtain ⟨C, hC⟩ : ∃ C, cmpI a b = C := ⟨_, rfl⟩
  rw [hC]
  clear HA HB HSA HSB hca hcb hsa1 hsb1
  have hbx := boxes2 w 88 #[.bool na, .string s] #[.bool nb, .string t]
  go_enter Try.func59, Try.ntmps59
  go_upto_region 1 with fail
  generalize (w.alloc (.cells #[.bool na, .string s] 88)).alloc (.cells #[.bool nb, .string t] 88) = X at hbx ⊢
  obtain ⟨hx, hsz, k0, k1⟩ := hbx
  obtain ⟨a0, a1, -, -⟩ := lng_cells k0
  obtain ⟨b0, b1, -, -⟩ := lng_cells k1
  have HX := Lib.hid hx
  have hlt0 : w.heap.size < X.heap.size := by omega
  have hlt1 : w.heap.size + 1 < X.heap.size := by omega
  have HS := Lib.hid (And.intro hsa (And.intro hsb (And.intro hna (And.intro hnb (And.intro hC (And.intro hva hvb))))))
  clear hx k0 k1 hsz hsa hsb hna hnb hC hva hvb
  go_region_held3 (fun w' => w'.cell? ⟨w.heap.size, 0, none⟩ = some (.bool na) ∧ w'.cell? ⟨w.heap.size, 1, none⟩ = some (.string s) ∧ w'.cell? ⟨w.heap.size + 1, 0, none⟩ = some (.bool nb) ∧ w'.cell? ⟨w.heap.size + 1, 1, none⟩ = some (.string t))
    (go_keep)
    (first
      | (go_simp
         go_at_call 65
         with_reducible refine (HH.out.2.2.1 X.drew).mono ?_
         rintro e w1 ⟨rfl, hb1⟩
         have hbw1 : Below X.heap.size X w1 := below_of_drew hb1
         have f0 : w1.cell? ⟨w.heap.size, 0, none⟩ = some (.bool na) := (hbw1.cell (p := ⟨w.heap.size, 0, none⟩) hlt0).trans a0
         have f1 : w1.cell? ⟨w.heap.size, 1, none⟩ = some (.string s) := (hbw1.cell (p := ⟨w.heap.size, 1, none⟩) hlt0).trans a1
         have f2 : w1.cell? ⟨w.heap.size + 1, 0, none⟩ = some (.bool nb) := (hbw1.cell (p := ⟨w.heap.size + 1, 0, none⟩) hlt1).trans b0
         have f3 : w1.cell? ⟨w.heap.size + 1, 1, none⟩ = some (.string t) := (hbw1.cell (p := ⟨w.heap.size + 1, 1, none⟩) hlt1).trans b1
         have HB1 := Lib.hid hbw1
         clear hb1 hbw1)
      | (go_simp
         go_at_call 65
         with_reducible refine (HH.out.2.2.2 w1).mono ?_
         rintro e w2 ⟨rfl, hb2⟩
         have hbw2 : Below X.heap.size X w2 := HB1.out.trans (hb2.mono HB1.out.size)
         have g0 : w2.cell? ⟨w.heap.size, 0, none⟩ = some (.bool na) := (hbw2.cell (p := ⟨w.heap.size, 0, none⟩) hlt0).trans a0
         have g1 : w2.cell? ⟨w.heap.size, 1, none⟩ = some (.string s) := (hbw2.cell (p := ⟨w.heap.size, 1, none⟩) hlt0).trans a1
         have g2 : w2.cell? ⟨w.heap.size + 1, 0, none⟩ = some (.bool nb) := (hbw2.cell (p := ⟨w.heap.size + 1, 0, none⟩) hlt1).trans b0
         have g3 : w2.cell? ⟨w.heap.size + 1, 1, none⟩ = some (.string t) := (hbw2.cell (p := ⟨w.heap.size + 1, 1, none⟩) hlt1).trans b1
         have HB2 := Lib.hid hbw2
         clear hb2 hbw2)
      | fail)
  by_cases hss : sa = sb
  · have hsb0 : (sa != sb) = false := by simp [hss]
    by_cases hneg : na = true
    · have HCMP : Hid (cmpN (valL m) (valL l) = C) := by
        obtain ⟨h1, h2, h3, h4, h5, h6, h7⟩ := HS.out
        rw [hneg] at h3
        have ha0 : a < 0 := by simpa using h3
        show _ = _
        rw [h6, h7, ← h5]
        exact cmpI_neg ha0 (by omega)
      obtain rfl : true = na := hneg.symm
      go_upto_region 7 with fail
      go_region_held3 (fun w' => w'.cell? ⟨w.heap.size, 0, none⟩ = some (.bool true) ∧ w'.cell? ⟨w.heap.size, 1, none⟩ = some (.string s) ∧ w'.cell? ⟨w.heap.size + 1, 0, none⟩ = some (.bool nb) ∧ w'.cell? ⟨w.heap.size + 1, 1, none⟩ = some (.string t))
        (go_keep)
        (first
          | (go_simp
             go_at_call 67
             with_reducible refine (HH.out.2.1 w2.drew).mono ?_
             rintro e w3 ⟨v3, rfl, hown3, hb3⟩
             obtain ⟨A3, c3, rfl, hl3, hm3, hd3⟩ := hown3.reads
             have hbw3 : Below X.heap.size X w3 := HB2.out.trans ((below_of_drew hb3).mono HB2.out.size)
             have h0 : w3.cell? ⟨w.heap.size, 0, none⟩ = some (.bool true) := (hbw3.cell (p := ⟨w.heap.size, 0, none⟩) hlt0).trans a0
             have h1 : w3.cell? ⟨w.heap.size, 1, none⟩ = some (.string s) := (hbw3.cell (p := ⟨w.heap.size, 1, none⟩) hlt0).trans a1
             have h2 : w3.cell? ⟨w.heap.size + 1, 0, none⟩ = some (.bool nb) := (hbw3.cell (p := ⟨w.heap.size + 1, 0, none⟩) hlt1).trans b0
             have h3 : w3.cell? ⟨w.heap.size + 1, 1, none⟩ = some (.string t) := (hbw3.cell (p := ⟨w.heap.size + 1, 1, none⟩) hlt1).trans b1
             have H3 := Lib.hid (And.intro hd3 hbw3)
             clear hown3 hb3 hl3 hm3 hd3 hbw3)
          | (go_simp
             go_at_call 67
             with_reducible refine (HH.out.1 w3).mono ?_
             rintro e w4 ⟨v4, rfl, hown4, hb4⟩
             obtain ⟨A4, c4, rfl, hl4, hm4, hd4⟩ := hown4.reads
             have hbw4 : Below X.heap.size X w4 := H3.out.2.trans (hb4.mono H3.out.2.size)
             have i0 : w4.cell? ⟨w.heap.size, 0, none⟩ = some (.bool true) := (hbw4.cell (p := ⟨w.heap.size, 0, none⟩) hlt0).trans a0
             have i1 : w4.cell? ⟨w.heap.size, 1, none⟩ = some (.string s) := (hbw4.cell (p := ⟨w.heap.size, 1, none⟩) hlt0).trans a1
             have i2 : w4.cell? ⟨w.heap.size + 1, 0, none⟩ = some (.bool nb) := (hbw4.cell (p := ⟨w.heap.size + 1, 0, none⟩) hlt1).trans b0
             have i3 : w4.cell? ⟨w.heap.size + 1, 1, none⟩ = some (.string t) := (hbw4.cell (p := ⟨w.heap.size + 1, 1, none⟩) hlt1).trans b1
             have H4 := Lib.hid (And.intro (H3.out.1.below stays_u hb4 hb4.size) (And.intro hd4 hbw4))
             clear hown4 hb4 hl4 hm4 hd4 hbw4)
          | (go_simp
             go_at_call 66
             with_reducible refine (cmp_any A3 m.length c3 m A4 l.length c4 l w4 w4.heap.size H4.out.1 H4.out.2.1 (Nat.le_trans hb (by decide)) (Nat.le_trans ha (by decide)) HP.out.2.1 HP.out.1).mono ?_
             rintro e w5 ⟨rfl, hb5⟩
             have hbw5 : Below X.heap.size X w5 := H4.out.2.2.trans (hb5.mono H4.out.2.2.size)
             have j0 : w5.cell? ⟨w.heap.size, 0, none⟩ = some (.bool true) := (hbw5.cell (p := ⟨w.heap.size, 0, none⟩) hlt0).trans a0
             have j1 : w5.cell? ⟨w.heap.size, 1, none⟩ = some (.string s) := (hbw5.cell (p := ⟨w.heap.size, 1, none⟩) hlt0).trans a1
             have j2 : w5.cell? ⟨w.heap.size + 1, 0, none⟩ = some (.bool nb) := (hbw5.cell (p := ⟨w.heap.size + 1, 0, none⟩) hlt1).trans b0
             have j3 : w5.cell? ⟨w.heap.size + 1, 1, none⟩ = some (.string t) := (hbw5.cell (p := ⟨w.heap.size + 1, 1, none⟩) hlt1).trans b1
             have H5 := Lib.hid hbw5
             clear hb5 hbw5)
          | fail)
      all_goals
        go_wp2_with fail
        go_ret
        exact ⟨ret_int (HCMP.out), HX.out.trans (H5.out.mono HX.out.size)⟩
    · have HCMP : Hid (cmpN (valL l) (valL m) = C) := by
        obtain ⟨h1, h2, h3, h4, h5, h6, h7⟩ := HS.out
        have ha0 : ¬ a < 0 := fun h => hneg (by rw [← h3]; exact decide_eq_true h)
        show _ = _
        rw [h6, h7, ← h5]
        exact cmpI_pos (by omega) (by omega)
      obtain rfl : false = na := by cases na <;> simp at hneg ⊢
      go_upto_region 8 with fail
      go_region_held3 (fun w' => w'.cell? ⟨w.heap.size, 0, none⟩ = some (.bool false) ∧ w'.cell? ⟨w.heap.size, 1, none⟩ = some (.string s) ∧ w'.cell? ⟨w.heap.size + 1, 0, none⟩ = some (.bool nb) ∧ w'.cell? ⟨w.heap.size + 1, 1, none⟩ = some (.string t))
        (go_keep)
        (first
          | (go_simp
             go_at_call 67
             with_reducible refine (HH.out.1 w2.drew).mono ?_
             rintro e w3 ⟨v3, rfl, hown3, hb3⟩
             obtain ⟨A3, c3, rfl, hl3, hm3, hd3⟩ := hown3.reads
             have hbw3 : Below X.heap.size X w3 := HB2.out.trans ((below_of_drew hb3).mono HB2.out.size)
             have h0 : w3.cell? ⟨w.heap.size, 0, none⟩ = some (.bool false) := (hbw3.cell (p := ⟨w.heap.size, 0, none⟩) hlt0).trans a0
             have h1 : w3.cell? ⟨w.heap.size, 1, none⟩ = some (.string s) := (hbw3.cell (p := ⟨w.heap.size, 1, none⟩) hlt0).trans a1
             have h2 : w3.cell? ⟨w.heap.size + 1, 0, none⟩ = some (.bool nb) := (hbw3.cell (p := ⟨w.heap.size + 1, 0, none⟩) hlt1).trans b0
             have h3 : w3.cell? ⟨w.heap.size + 1, 1, none⟩ = some (.string t) := (hbw3.cell (p := ⟨w.heap.size + 1, 1, none⟩) hlt1).trans b1
             have H3 := Lib.hid (And.intro hd3 hbw3)
             clear hown3 hb3 hl3 hm3 hd3 hbw3)
          | (go_simp
             go_at_call 67
             with_reducible refine (HH.out.2.1 w3).mono ?_
             rintro e w4 ⟨v4, rfl, hown4, hb4⟩
             obtain ⟨A4, c4, rfl, hl4, hm4, hd4⟩ := hown4.reads
             have hbw4 : Below X.heap.size X w4 := H3.out.2.trans (hb4.mono H3.out.2.size)
             have i0 : w4.cell? ⟨w.heap.size, 0, none⟩ = some (.bool false) := (hbw4.cell (p := ⟨w.heap.size, 0, none⟩) hlt0).trans a0
             have i1 : w4.cell? ⟨w.heap.size, 1, none⟩ = some (.string s) := (hbw4.cell (p := ⟨w.heap.size, 1, none⟩) hlt0).trans a1
             have i2 : w4.cell? ⟨w.heap.size + 1, 0, none⟩ = some (.bool nb) := (hbw4.cell (p := ⟨w.heap.size + 1, 0, none⟩) hlt1).trans b0
             have i3 : w4.cell? ⟨w.heap.size + 1, 1, none⟩ = some (.string t) := (hbw4.cell (p := ⟨w.heap.size + 1, 1, none⟩) hlt1).trans b1
             have H4 := Lib.hid (And.intro (H3.out.1.below stays_u hb4 hb4.size) (And.intro hd4 hbw4))
             clear hown4 hb4 hl4 hm4 hd4 hbw4)
          | (go_simp
             go_at_call 66
             with_reducible refine (cmp_any A3 l.length c3 l A4 m.length c4 m w4 w4.heap.size H4.out.1 H4.out.2.1 (Nat.le_trans ha (by decide)) (Nat.le_trans hb (by decide)) HP.out.1 HP.out.2.1).mono ?_
             rintro e w5 ⟨rfl, hb5⟩
             have hbw5 : Below X.heap.size X w5 := H4.out.2.2.trans (hb5.mono H4.out.2.2.size)
             have j0 : w5.cell? ⟨w.heap.size, 0, none⟩ = some (.bool false) := (hbw5.cell (p := ⟨w.heap.size, 0, none⟩) hlt0).trans a0
             have j1 : w5.cell? ⟨w.heap.size, 1, none⟩ = some (.string s) := (hbw5.cell (p := ⟨w.heap.size, 1, none⟩) hlt0).trans a1
             have j2 : w5.cell? ⟨w.heap.size + 1, 0, none⟩ = some (.bool nb) := (hbw5.cell (p := ⟨w.heap.size + 1, 0, none⟩) hlt1).trans b0
             have j3 : w5.cell? ⟨w.heap.size + 1, 1, none⟩ = some (.string t) := (hbw5.cell (p := ⟨w.heap.size + 1, 1, none⟩) hlt1).trans b1
             have H5 := Lib.hid hbw5
             clear hb5 hbw5)
          | fail)
      all_goals
        go_wp2_with fail
        go_ret
        exact ⟨ret_int (HCMP.out), HX.out.trans (H5.out.mono HX.out.size)⟩
  · have hsb0 : (sa != sb) = true := by simp [hss]
    by_cases hl : sa < sb
    · have HC : Hid (-1 = C) := by
        obtain ⟨h1, h2, h3, h4, h5, h6, h7⟩ := HS.out
        show _ = _
        rw [← h5, cmpI, if_pos (by omega)]
      go_wp2_with fail
      go_ret
      exact ⟨ret_int HC.out, HX.out.trans (HB2.out.mono HX.out.size)⟩
    · have HC : Hid (1 = C) := by
        obtain ⟨h1, h2, h3, h4, h5, h6, h7⟩ := HS.out
        show _ = _
        rw [← h5, cmpI, if_neg (by omega), if_pos (by omega)]
      go_wp2_with fail
      go_ret
      exact ⟨ret_int HC.out, HX.out.trans (HB2.out.mono HX.out.size)⟩
end Go.Proofs.Ytfkciiiopbanaaa
