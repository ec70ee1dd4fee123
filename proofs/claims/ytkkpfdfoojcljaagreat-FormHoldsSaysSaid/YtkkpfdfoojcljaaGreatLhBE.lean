/- Walk: package long's Cmp. · Walks: package exact's mul, add. · Walks: package exact's den, Int, made. · Walk: package exact's made. -/
import Derived.Test.YtkkpfdfoojcljaaGreatLgZA
namespace Go.Proofs.YtkkpfdfoojcljaaGreat
open Go.RowKit

theorem boxes2 (w : World) (t : TypeId) (c0 c1 : Array Value) : Below w.heap.size w ((w.alloc (.cells c0 t)).alloc (.cells c1 t)) ∧ ((w.alloc (.cells c0 t)).alloc (.cells c1 t)).heap.size = w.heap.size + 2 ∧
    Blk ((w.alloc (.cells c0 t)).alloc (.cells c1 t)) w.heap.size t c0 ∧ Blk ((w.alloc (.cells c0 t)).alloc (.cells c1 t)) (w.heap.size + 1) t c1 :=
  ⟨lay_below [(t, c0), (t, c1)] w, lay_size [(t, c0), (t, c1)] w, lay_blk [(t, c0), (t, c1)] w 0 _ _ rfl, lay_blk [(t, c0), (t, c1)] w 1 _ _ rfl⟩
theorem cmpI_neg {a b : Int} (ha : a < 0) (hb : b < 0) : cmpN b.natAbs a.natAbs = cmpI a b := by
  unfold cmpN cmpI
  by_cases h1 : a < b
  · rw [if_pos h1, if_pos (by omega)]
  · by_cases h2 : b < a
    · rw [if_neg h1, if_pos h2, if_neg (by omega), if_pos (by omega)]
    · rw [if_neg h1, if_neg h2, if_neg (by omega), if_neg (by omega)]
theorem cmpI_pos {a b : Int} (ha : 0 ≤ a) (hb : 0 ≤ b) : cmpN a.natAbs b.natAbs = cmpI a b := by
  unfold cmpN cmpI
  by_cases h1 : a < b
  · rw [if_pos h1, if_pos (by omega)]
  · by_cases h2 : b < a
    · rw [if_neg h1, if_pos h2, if_neg (by omega), if_pos (by omega)]
    · rw [if_neg h1, if_neg h2, if_neg (by omega), if_neg (by omega)]
theorem sign_cases (a : Int) : (a < 0 ∧ a.sign = -1) ∨ (a = 0 ∧ a.sign = 0) ∨ (0 < a ∧ a.sign = 1) := by
  rcases Int.lt_trichotomy a 0 with h | h | h
  · exact .inl ⟨h, Int.sign_eq_neg_one_of_neg h⟩
  · exact .inr (.inl ⟨h, by rw [h]; rfl⟩)
  · exact .inr (.inr ⟨h, Int.sign_eq_one_of_pos h⟩)
set_option maxRecDepth 100000 in
set_option maxHeartbeats 8000000 in
theorem lcmp_any (a b : Int) (w : World) (ha : (digN a.natAbs).length ≤ 50000) (hb : (digN b.natAbs).length ≤ 50000) :
    Calls Tryz.prog 66 #[Lng a, Lng b] w fun e w' => e = .returned (.int .i64 (cmpI a b)) ∧ Below w.heap.size w w' := by
  have HA : ∀ W, Calls Tryz.prog 88 #[Lng a] W (RowP (digN a.natAbs) W) := fun W => limbs_any a W (by omega)
  have HB : ∀ W, Calls Tryz.prog 88 #[Lng b] W (RowP (digN b.natAbs) W) := fun W => limbs_any b W (by omega)
  have HSA := fun W => lngSign_any a W
  have HSB := fun W => lngSign_any b W
  have hva := val_digN a.natAbs
  have hvb := val_digN b.natAbs
  have hca := canon_digN a.natAbs
  have hcb := canon_digN b.natAbs
  have hsa := sign_cases a
  have hsb := sign_cases b
  obtain ⟨s, l, hL, hl, -⟩ := lng_open a
  obtain ⟨t, m, hM, hm, -⟩ := lng_open b
  rw [hL] at HA HSA ⊢
  rw [hM] at HB HSB ⊢
  rw [hl] at ha hva hca HA
  rw [hm] at hb hvb hcb HB
  clear hL hM hl hm
  obtain ⟨na, hna⟩ : ∃ na, decide (a < 0) = na := ⟨_, rfl⟩
  obtain ⟨nb, hnb⟩ : ∃ nb, decide (b < 0) = nb := ⟨_, rfl⟩
  rw [hna] at HA HSA ⊢
  rw [hnb] at HB HSB ⊢
  obtain ⟨sa, hsa1⟩ : ∃ sa, a.sign = sa := ⟨_, rfl⟩
  obtain ⟨sb, hsb1⟩ : ∃ sb, b.sign = sb := ⟨_, rfl⟩
  rw [hsa1] at hsa HSA
  rw [hsb1] at hsb HSB
  have HP := Lib.hid (And.intro hca (And.intro hcb (And.intro hva hvb)))
  have HH := Lib.hid (And.intro HA (And.intro HB (And.intro HSA HSB)))
  obtain ⟨C, hC⟩ : ∃ C, cmpI a b = C := ⟨_, rfl⟩
  rw [hC]
  clear HA HB HSA HSB hca hcb hsa1 hsb1
  have hbx := boxes2 w 86 #[.bool na, .string s] #[.bool nb, .string t]
  go_enter Tryz.func66, Tryz.ntmps66
  go_upto_region 1 with fail
  generalize (w.alloc (.cells #[.bool na, .string s] 86)).alloc (.cells #[.bool nb, .string t] 86) = X at hbx ⊢
  obtain ⟨hx, hsz, k0, k1⟩ := hbx
  obtain ⟨a0, a1, -, -⟩ := lng_cells k0
  obtain ⟨b0, b1, -, -⟩ := lng_cells k1
  have HX := Lib.hid hx
  have hlt0 : w.heap.size < X.heap.size := by omega
  have hlt1 : w.heap.size + 1 < X.heap.size := by omega
  have HS := Lib.hid (And.intro hsa (And.intro hsb (And.intro hna (And.intro hnb (And.intro hC (And.intro hva hvb))))))
  clear hx k0 k1 hsz hsa hsb hna hnb hC hva hvb
  go_region_held3 (fun w' => w'.cell? ⟨w.heap.size, 0, none⟩ = some (.bool na) ∧ w'.cell? ⟨w.heap.size, 1, none⟩ = some (.string s) ∧ w'.cell? ⟨w.heap.size + 1, 0, none⟩ = some (.bool nb) ∧ w'.cell? ⟨w.heap.size + 1, 1, none⟩ = some (.string t))
    (go_keep)
    (first
      | (go_simp
         go_at_call 86
         with_reducible refine (HH.out.2.2.1 X.drew).mono ?_
         rintro e w1 ⟨rfl, hb1⟩
         have hbw1 : Below X.heap.size X w1 := below_of_drew hb1
         have f0 : w1.cell? ⟨w.heap.size, 0, none⟩ = some (.bool na) := (hbw1.cell (p := ⟨w.heap.size, 0, none⟩) hlt0).trans a0
         have f1 : w1.cell? ⟨w.heap.size, 1, none⟩ = some (.string s) := (hbw1.cell (p := ⟨w.heap.size, 1, none⟩) hlt0).trans a1
         have f2 : w1.cell? ⟨w.heap.size + 1, 0, none⟩ = some (.bool nb) := (hbw1.cell (p := ⟨w.heap.size + 1, 0, none⟩) hlt1).trans b0
         have f3 : w1.cell? ⟨w.heap.size + 1, 1, none⟩ = some (.string t) := (hbw1.cell (p := ⟨w.heap.size + 1, 1, none⟩) hlt1).trans b1
         have HB1 := Lib.hid hbw1
         clear hb1 hbw1)
      | (go_simp
         go_at_call 86
         with_reducible refine (HH.out.2.2.2 w1).mono ?_
         rintro e w2 ⟨rfl, hb2⟩
         have hbw2 : Below X.heap.size X w2 := HB1.out.trans (hb2.mono HB1.out.size)
         have g0 : w2.cell? ⟨w.heap.size, 0, none⟩ = some (.bool na) := (hbw2.cell (p := ⟨w.heap.size, 0, none⟩) hlt0).trans a0
         have g1 : w2.cell? ⟨w.heap.size, 1, none⟩ = some (.string s) := (hbw2.cell (p := ⟨w.heap.size, 1, none⟩) hlt0).trans a1
         have g2 : w2.cell? ⟨w.heap.size + 1, 0, none⟩ = some (.bool nb) := (hbw2.cell (p := ⟨w.heap.size + 1, 0, none⟩) hlt1).trans b0
         have g3 : w2.cell? ⟨w.heap.size + 1, 1, none⟩ = some (.string t) := (hbw2.cell (p := ⟨w.heap.size + 1, 1, none⟩) hlt1).trans b1
         have HB2 := Lib.hid hbw2
         clear hb2 hbw2)
      | fail)
  by_cases hss : sa = sb
  · have hsb0 : (sa != sb) = false := by simp [hss]
    by_cases hneg : na = true
    · have HCMP : Hid (cmpN (valL m) (valL l) = C) := by
        obtain ⟨h1, h2, h3, h4, h5, h6, h7⟩ := HS.out
        rw [hneg] at h3
        have ha0 : a < 0 := by simpa using h3
        show _ = _
        rw [h6, h7, ← h5]
        exact cmpI_neg ha0 (by omega)
      obtain rfl : true = na := hneg.symm
      go_upto_region 7 with fail
      go_region_held3 (fun w' => w'.cell? ⟨w.heap.size, 0, none⟩ = some (.bool true) ∧ w'.cell? ⟨w.heap.size, 1, none⟩ = some (.string s) ∧ w'.cell? ⟨w.heap.size + 1, 0, none⟩ = some (.bool nb) ∧ w'.cell? ⟨w.heap.size + 1, 1, none⟩ = some (.string t))
        (go_keep)
        (first
          | (go_simp
             go_at_call 88
             with_reducible refine (HH.out.2.1 w2.drew).mono ?_
             rintro e w3 ⟨v3, rfl, hown3, hb3⟩
             obtain ⟨A3, c3, rfl, hl3, hm3, hd3⟩ := hown3.reads
             have hbw3 : Below X.heap.size X w3 := HB2.out.trans ((below_of_drew hb3).mono HB2.out.size)
             have h0 : w3.cell? ⟨w.heap.size, 0, none⟩ = some (.bool true) := (hbw3.cell (p := ⟨w.heap.size, 0, none⟩) hlt0).trans a0
             have h1 : w3.cell? ⟨w.heap.size, 1, none⟩ = some (.string s) := (hbw3.cell (p := ⟨w.heap.size, 1, none⟩) hlt0).trans a1
             have h2 : w3.cell? ⟨w.heap.size + 1, 0, none⟩ = some (.bool nb) := (hbw3.cell (p := ⟨w.heap.size + 1, 0, none⟩) hlt1).trans b0
             have h3 : w3.cell? ⟨w.heap.size + 1, 1, none⟩ = some (.string t) := (hbw3.cell (p := ⟨w.heap.size + 1, 1, none⟩) hlt1).trans b1
             have H3 := Lib.hid (And.intro hd3 hbw3)
             clear hown3 hb3 hl3 hm3 hd3 hbw3)
          | (go_simp
             go_at_call 88
             with_reducible refine (HH.out.1 w3).mono ?_
             rintro e w4 ⟨v4, rfl, hown4, hb4⟩
             obtain ⟨A4, c4, rfl, hl4, hm4, hd4⟩ := hown4.reads
             have hbw4 : Below X.heap.size X w4 := H3.out.2.trans (hb4.mono H3.out.2.size)
             have i0 : w4.cell? ⟨w.heap.size, 0, none⟩ = some (.bool true) := (hbw4.cell (p := ⟨w.heap.size, 0, none⟩) hlt0).trans a0
             have i1 : w4.cell? ⟨w.heap.size, 1, none⟩ = some (.string s) := (hbw4.cell (p := ⟨w.heap.size, 1, none⟩) hlt0).trans a1
             have i2 : w4.cell? ⟨w.heap.size + 1, 0, none⟩ = some (.bool nb) := (hbw4.cell (p := ⟨w.heap.size + 1, 0, none⟩) hlt1).trans b0
             have i3 : w4.cell? ⟨w.heap.size + 1, 1, none⟩ = some (.string t) := (hbw4.cell (p := ⟨w.heap.size + 1, 1, none⟩) hlt1).trans b1
             have H4 := Lib.hid (And.intro (H3.out.1.below stays_u hb4 hb4.size) (And.intro hd4 hbw4))
             clear hown4 hb4 hl4 hm4 hd4 hbw4)
          | (go_simp
             go_at_call 87
             with_reducible refine (cmp_any A3 m.length c3 m A4 l.length c4 l w4 w4.heap.size H4.out.1 H4.out.2.1 (Nat.le_trans hb (by decide)) (Nat.le_trans ha (by decide)) HP.out.2.1 HP.out.1).mono ?_
             rintro e w5 ⟨rfl, hb5⟩
             have hbw5 : Below X.heap.size X w5 := H4.out.2.2.trans (hb5.mono H4.out.2.2.size)
             have j0 : w5.cell? ⟨w.heap.size, 0, none⟩ = some (.bool true) := (hbw5.cell (p := ⟨w.heap.size, 0, none⟩) hlt0).trans a0
             have j1 : w5.cell? ⟨w.heap.size, 1, none⟩ = some (.string s) := (hbw5.cell (p := ⟨w.heap.size, 1, none⟩) hlt0).trans a1
             have j2 : w5.cell? ⟨w.heap.size + 1, 0, none⟩ = some (.bool nb) := (hbw5.cell (p := ⟨w.heap.size + 1, 0, none⟩) hlt1).trans b0
             have j3 : w5.cell? ⟨w.heap.size + 1, 1, none⟩ = some (.string t) := (hbw5.cell (p := ⟨w.heap.size + 1, 1, none⟩) hlt1).trans b1
             have H5 := Lib.hid hbw5
             clear hb5 hbw5)
          | fail)
      all_goals
        go_wp2_with fail
        go_ret
        exact ⟨ret_int (HCMP.out), HX.out.trans (H5.out.mono HX.out.size)⟩
    · have HCMP : Hid (cmpN (valL l) (valL m) = C) := by
        obtain ⟨h1, h2, h3, h4, h5, h6, h7⟩ := HS.out
        have ha0 : ¬ a < 0 := fun h => hneg (by rw [← h3]; exact decide_eq_true h)
        show _ = _
        rw [h6, h7, ← h5]
        exact cmpI_pos (by omega) (by omega)
      obtain rfl : false = na := by cases na <;> simp at hneg ⊢
      go_upto_region 8 with fail
      go_region_held3 (fun w' => w'.cell? ⟨w.heap.size, 0, none⟩ = some (.bool false) ∧ w'.cell? ⟨w.heap.size, 1, none⟩ = some (.string s) ∧ w'.cell? ⟨w.heap.size + 1, 0, none⟩ = some (.bool nb) ∧ w'.cell? ⟨w.heap.size + 1, 1, none⟩ = some (.string t))
        (go_keep)
        (first
          | (go_simp
             go_at_call 88
             with_reducible refine (HH.out.1 w2.drew).mono ?_
             rintro e w3 ⟨v3, rfl, hown3, hb3⟩
             obtain ⟨A3, c3, rfl, hl3, hm3, hd3⟩ := hown3.reads
             have hbw3 : Below X.heap.size X w3 := HB2.out.trans ((below_of_drew hb3).mono HB2.out.size)
             have h0 : w3.cell? ⟨w.heap.size, 0, none⟩ = some (.bool false) := (hbw3.cell (p := ⟨w.heap.size, 0, none⟩) hlt0).trans a0
             have h1 : w3.cell? ⟨w.heap.size, 1, none⟩ = some (.string s) := (hbw3.cell (p := ⟨w.heap.size, 1, none⟩) hlt0).trans a1
             have h2 : w3.cell? ⟨w.heap.size + 1, 0, none⟩ = some (.bool nb) := (hbw3.cell (p := ⟨w.heap.size + 1, 0, none⟩) hlt1).trans b0
             have h3 : w3.cell? ⟨w.heap.size + 1, 1, none⟩ = some (.string t) := (hbw3.cell (p := ⟨w.heap.size + 1, 1, none⟩) hlt1).trans b1
             have H3 := Lib.hid (And.intro hd3 hbw3)
             clear hown3 hb3 hl3 hm3 hd3 hbw3)
          | (go_simp
             go_at_call 88
             with_reducible refine (HH.out.2.1 w3).mono ?_
             rintro e w4 ⟨v4, rfl, hown4, hb4⟩
             obtain ⟨A4, c4, rfl, hl4, hm4, hd4⟩ := hown4.reads
             have hbw4 : Below X.heap.size X w4 := H3.out.2.trans (hb4.mono H3.out.2.size)
             have i0 : w4.cell? ⟨w.heap.size, 0, none⟩ = some (.bool false) := (hbw4.cell (p := ⟨w.heap.size, 0, none⟩) hlt0).trans a0
             have i1 : w4.cell? ⟨w.heap.size, 1, none⟩ = some (.string s) := (hbw4.cell (p := ⟨w.heap.size, 1, none⟩) hlt0).trans a1
             have i2 : w4.cell? ⟨w.heap.size + 1, 0, none⟩ = some (.bool nb) := (hbw4.cell (p := ⟨w.heap.size + 1, 0, none⟩) hlt1).trans b0
             have i3 : w4.cell? ⟨w.heap.size + 1, 1, none⟩ = some (.string t) := (hbw4.cell (p := ⟨w.heap.size + 1, 1, none⟩) hlt1).trans b1
             have H4 := Lib.hid (And.intro (H3.out.1.below stays_u hb4 hb4.size) (And.intro hd4 hbw4))
             clear hown4 hb4 hl4 hm4 hd4 hbw4)
          | (go_simp
             go_at_call 87
             with_reducible refine (cmp_any A3 l.length c3 l A4 m.length c4 m w4 w4.heap.size H4.out.1 H4.out.2.1 (Nat.le_trans ha (by decide)) (Nat.le_trans hb (by decide)) HP.out.1 HP.out.2.1).mono ?_
             rintro e w5 ⟨rfl, hb5⟩
             have hbw5 : Below X.heap.size X w5 := H4.out.2.2.trans (hb5.mono H4.out.2.2.size)
             have j0 : w5.cell? ⟨w.heap.size, 0, none⟩ = some (.bool false) := (hbw5.cell (p := ⟨w.heap.size, 0, none⟩) hlt0).trans a0
             have j1 : w5.cell? ⟨w.heap.size, 1, none⟩ = some (.string s) := (hbw5.cell (p := ⟨w.heap.size, 1, none⟩) hlt0).trans a1
             have j2 : w5.cell? ⟨w.heap.size + 1, 0, none⟩ = some (.bool nb) := (hbw5.cell (p := ⟨w.heap.size + 1, 0, none⟩) hlt1).trans b0
             have j3 : w5.cell? ⟨w.heap.size + 1, 1, none⟩ = some (.string t) := (hbw5.cell (p := ⟨w.heap.size + 1, 1, none⟩) hlt1).trans b1
             have H5 := Lib.hid hbw5
             clear hb5 hbw5)
          | fail)
      all_goals
        go_wp2_with fail
        go_ret
        exact ⟨ret_int (HCMP.out), HX.out.trans (H5.out.mono HX.out.size)⟩
  · have hsb0 : (sa != sb) = true := by simp [hss]
    by_cases hl : sa < sb
    · have HC : Hid (-1 = C) := by
        obtain ⟨h1, h2, h3, h4, h5, h6, h7⟩ := HS.out
        show _ = _
        rw [← h5, cmpI, if_pos (by omega)]
      go_wp2_with fail
      go_ret
      exact ⟨ret_int HC.out, HX.out.trans (HB2.out.mono HX.out.size)⟩
    · have HC : Hid (1 = C) := by
        obtain ⟨h1, h2, h3, h4, h5, h6, h7⟩ := HS.out
        show _ = _
        rw [← h5, cmpI, if_neg (by omega), if_pos (by omega)]
      go_wp2_with fail
      go_ret
      exact ⟨ret_int HC.out, HX.out.trans (HB2.out.mono HX.out.size)⟩
end Go.Proofs.YtkkpfdfoojcljaaGreat
namespace Go.Proofs.YtkkpfdfoojcljaaGreat
open Go.RowKit

set_option maxRecDepth 100000 in
set_option maxHeartbeats 4000000 in
theorem xmul_any (a b : Int) (w : World) (ha : (digN a.natAbs).length ≤ 2000) (hb : (digN b.natAbs).length ≤ 2000) :
    Calls Tryz.prog 67 #[Lng a, Lng b] w fun e w' => e = .returned (Lng (a * b)) ∧ Below w.heap.size w w' := by
  have HM : ∀ W, Calls Tryz.prog 89 #[Lng a, Lng b] W fun e w' => e = .returned (.tuple #[Lng (a * b), .int .i64 0]) ∧ Below W.heap.size W w' := fun W => mul_any a b W ha hb
  obtain ⟨rs, -, hR, -⟩ := lng_open (a * b)
  rw [hR] at HM ⊢
  generalize decide (a * b < 0) = rb at HM ⊢
  obtain ⟨s, -, hL, -⟩ := lng_open a
  obtain ⟨t, -, hM, -⟩ := lng_open b
  rw [hL] at HM ⊢
  rw [hM] at HM ⊢
  generalize decide (a < 0) = na at HM ⊢
  generalize decide (b < 0) = nb at HM ⊢
  have HH := Lib.hid HM
  clear HM hR hL hM ha hb
  have hbx := boxes3 w 86 #[.bool na, .string s] #[.bool nb, .string t] #[.bool false, .string ⟨#[]⟩]
  go_enter Tryz.func67, Tryz.ntmps67
  go_upto_region 1 with fail
  generalize ((w.alloc (.cells #[.bool na, .string s] 86)).alloc (.cells #[.bool nb, .string t] 86)).alloc (.cells #[.bool false, .string ⟨#[]⟩] 86) = X at hbx ⊢
  obtain ⟨hx, hsz, k0, k1, k2⟩ := hbx
  obtain ⟨a0, a1, -, -⟩ := lng_cells k0
  obtain ⟨b0, b1, -, -⟩ := lng_cells k1
  have HX := Lib.hid (And.intro hx (And.intro k2 hsz))
  clear hx k0 k1 k2 hsz
  go_upto_region 2 with (first
    | (go_at_call 89
       with_reducible refine (HH.out X).mono ?_
       rintro e w1 ⟨rfl, hb1⟩
       have hk1 := HX.out.2.1.below hb1 (by rw [HX.out.2.2]; omega)
       have hkn := (Blk.new w1 86 #[.bool rb, .string rs])
       have hko := hk1.alloc (.cells #[.bool rb, .string rs] 86)
       obtain ⟨n0, n1, n2, n3⟩ := lng_cells hkn
       obtain ⟨o0, o1, o2, o3⟩ := lng_cells hko
       have hkf := lng_cells (Blk.new w1 86 #[.bool false, .string ⟨#[]⟩])
       obtain ⟨p0, p1, p2, p3⟩ := hkf
       have HB := Lib.hid (And.intro hko (HX.out.1.trans ((hb1.mono HX.out.1.size).trans (((Below.refl w1.heap.size w1).alloc (Nat.le_refl _) (.cells #[.bool rb, .string rs] 86)).mono (Nat.le_trans HX.out.1.size hb1.size)))))
       clear hb1 hk1 hkn hko)
    | fail)
  go_wp2_with fail
  obtain ⟨Z, hZ⟩ : ∃ Z, Z = ((w1.alloc (.cells #[.bool rb, .string rs] 86)).setCell ⟨w.heap.size + 1 + 1, 0, none⟩ (.bool rb)).setCell ⟨w.heap.size + 1 + 1, 1, none⟩ (.string rs) := ⟨_, rfl⟩
  obtain ⟨z0, z1, z2⟩ := lng_put _ _ hZ HB.out.1 HB.out.2 (by omega)
  rw [← hZ]
  refine bodyPost_ret (v := .agg #[.bool rb, .string rs]) (by simp [results, Tryz.results67, go_sem, z0, z1]) rfl ⟨rfl, z2⟩
set_option maxRecDepth 100000 in
set_option maxHeartbeats 4000000 in
theorem xadd_any (a b : Int) (w : World) (ha : (digN a.natAbs).length ≤ 2000) (hb : (digN b.natAbs).length ≤ 2000) :
    Calls Tryz.prog 85 #[Lng a, Lng b] w fun e w' => e = .returned (Lng (a + b)) ∧ Below w.heap.size w w' := by
  have HM : ∀ W, Calls Tryz.prog 99 #[Lng a, Lng b] W fun e w' => e = .returned (.tuple #[Lng (a + b), .int .i64 0]) ∧ Below W.heap.size W w' := fun W => add_any a b W ha hb
  obtain ⟨rs, -, hR, -⟩ := lng_open (a + b)
  rw [hR] at HM ⊢
  generalize decide (a + b < 0) = rb at HM ⊢
  obtain ⟨s, -, hL, -⟩ := lng_open a
  obtain ⟨t, -, hM, -⟩ := lng_open b
  rw [hL] at HM ⊢
  rw [hM] at HM ⊢
  generalize decide (a < 0) = na at HM ⊢
  generalize decide (b < 0) = nb at HM ⊢
  have HH := Lib.hid HM
  clear HM hR hL hM ha hb
  have hbx := boxes3 w 86 #[.bool na, .string s] #[.bool nb, .string t] #[.bool false, .string ⟨#[]⟩]
  go_enter Tryz.func85, Tryz.ntmps85
  go_upto_region 1 with fail
  generalize ((w.alloc (.cells #[.bool na, .string s] 86)).alloc (.cells #[.bool nb, .string t] 86)).alloc (.cells #[.bool false, .string ⟨#[]⟩] 86) = X at hbx ⊢
  obtain ⟨hx, hsz, k0, k1, k2⟩ := hbx
  obtain ⟨a0, a1, -, -⟩ := lng_cells k0
  obtain ⟨b0, b1, -, -⟩ := lng_cells k1
  have HX := Lib.hid (And.intro hx (And.intro k2 hsz))
  clear hx k0 k1 k2 hsz
  go_upto_region 2 with (first
    | (go_at_call 99
       with_reducible refine (HH.out X).mono ?_
       rintro e w1 ⟨rfl, hb1⟩
       have hk1 := HX.out.2.1.below hb1 (by rw [HX.out.2.2]; omega)
       have hkn := (Blk.new w1 86 #[.bool rb, .string rs])
       have hko := hk1.alloc (.cells #[.bool rb, .string rs] 86)
       obtain ⟨n0, n1, n2, n3⟩ := lng_cells hkn
       obtain ⟨o0, o1, o2, o3⟩ := lng_cells hko
       have hkf := lng_cells (Blk.new w1 86 #[.bool false, .string ⟨#[]⟩])
       obtain ⟨p0, p1, p2, p3⟩ := hkf
       have HB := Lib.hid (And.intro hko (HX.out.1.trans ((hb1.mono HX.out.1.size).trans (((Below.refl w1.heap.size w1).alloc (Nat.le_refl _) (.cells #[.bool rb, .string rs] 86)).mono (Nat.le_trans HX.out.1.size hb1.size)))))
       clear hb1 hk1 hkn hko)
    | fail)
  go_wp2_with fail
  obtain ⟨Z, hZ⟩ : ∃ Z, Z = ((w1.alloc (.cells #[.bool rb, .string rs] 86)).setCell ⟨w.heap.size + 1 + 1, 0, none⟩ (.bool rb)).setCell ⟨w.heap.size + 1 + 1, 1, none⟩ (.string rs) := ⟨_, rfl⟩
  obtain ⟨z0, z1, z2⟩ := lng_put _ _ hZ HB.out.1 HB.out.2 (by omega)
  rw [← hZ]
  refine bodyPost_ret (v := .agg #[.bool rb, .string rs]) (by simp [results, Tryz.results85, go_sem, z0, z1]) rfl ⟨rfl, z2⟩
end Go.Proofs.YtkkpfdfoojcljaaGreat
namespace Go.Proofs.YtkkpfdfoojcljaaGreat
open Go.RowKit

/-- a fraction as package exact has it: numerator, denominator (nought for 1 too) -/
def NumV (n d : Int) : Value := .agg #[.bool (decide (n < 0)), .string (sizeB (digN n.natAbs)), .bool (decide (d < 0)), .string (sizeB (digN d.natAbs))]
theorem num_open (n d : Int) : ∃ s t, NumV n d = .agg #[.bool (decide (n < 0)), .string s, .bool (decide (d < 0)), .string t] ∧ Lng n = .agg #[.bool (decide (n < 0)), .string s] ∧ Lng d = .agg #[.bool (decide (d < 0)), .string t] := ⟨_, _, rfl, rfl, rfl⟩
theorem boxesN (w : World) (t0 t1 : TypeId) (c0 c1 : Array Value) : Below w.heap.size w ((w.alloc (.cells c0 t0)).alloc (.cells c1 t1)) ∧ ((w.alloc (.cells c0 t0)).alloc (.cells c1 t1)).heap.size = w.heap.size + 2 ∧
    Blk ((w.alloc (.cells c0 t0)).alloc (.cells c1 t1)) w.heap.size t0 c0 ∧ Blk ((w.alloc (.cells c0 t0)).alloc (.cells c1 t1)) (w.heap.size + 1) t1 c1 :=
  ⟨lay_below [(t0, c0), (t1, c1)] w, lay_size [(t0, c0), (t1, c1)] w, lay_blk [(t0, c0), (t1, c1)] w 0 _ _ rfl, lay_blk [(t0, c0), (t1, c1)] w 1 _ _ rfl⟩
theorem num_cells {w : World} {g : Nat} {t : TypeId} {a b c d : Value} (h : Blk w g t #[a, b, c, d]) : (w.cell? ⟨g, 0, none⟩ = some a ∧ w.cell? ⟨g, 1, none⟩ = some b ∧ w.cell? ⟨g, 2, none⟩ = some c ∧ w.cell? ⟨g, 3, none⟩ = some d) ∧ w.frozen? ⟨g, 0, none⟩ = false ∧ w.frozen? ⟨g, 1, none⟩ = false ∧ w.frozen? ⟨g, 2, none⟩ = false ∧ w.frozen? ⟨g, 3, none⟩ = false :=
  ⟨⟨by rw [h.cell 0]; rfl, by rw [h.cell 1]; rfl, by rw [h.cell 2]; rfl, by rw [h.cell 3]; rfl⟩, h.frozen 0, h.frozen 1, h.frozen 2, h.frozen 3⟩
/-- a fraction is put into a box -/
theorem num_put {w1 W Z : World} {g B : Nat} {t : TypeId} {x y x' y' : Value} (a b c d : Value) (hZ : Z = (((w1.setCell ⟨g, 0, none⟩ a).setCell ⟨g, 1, none⟩ b).setCell ⟨g, 2, none⟩ c).setCell ⟨g, 3, none⟩ d) (h : Blk w1 g t #[x, y, x', y']) (hb : Below B W w1) (hg : B ≤ g) :
    (Z.cell? ⟨g, 0, none⟩ = some a ∧ Z.cell? ⟨g, 1, none⟩ = some b ∧ Z.cell? ⟨g, 2, none⟩ = some c ∧ Z.cell? ⟨g, 3, none⟩ = some d) ∧ Below B W Z := by
  have hz := num_cells ((((h.set_ 0 a).set_ 1 b).set_ 2 c).set_ 3 d)
  rw [← hZ] at hz
  exact ⟨hz.1, by rw [hZ]; exact (((hb.setCell hg _).setCell hg _).setCell hg _).setCell hg _⟩
set_option maxRecDepth 100000 in
set_option maxHeartbeats 4000000 in
theorem den_any (n d : Int) (w : World) :
    Calls Tryz.prog 68 #[NumV n d] w fun e w' => e = .returned (Lng (if d = 0 then 1 else d)) ∧ Below w.heap.size w w' := by
  have HSG := fun W => lngSign_any d W
  have HOF := fun W => of_any 1 W (by decide) (by decide)
  have hsd : (d.sign == 0) = decide (d = 0) := by
    rw [Bool.eq_iff_iff, beq_iff_eq, decide_eq_true_iff]; exact Int.sign_eq_zero_iff_zero
  obtain ⟨s, t, hN, -, hM⟩ := num_open n d
  obtain ⟨rs, -, hR, -⟩ := lng_open 1
  rw [hN]
  rw [hM] at HSG
  rw [hR] at HOF
  have hres : Lng (if d = 0 then 1 else d) = if d = 0 then .agg #[.bool false, .string rs] else .agg #[.bool (decide (d < 0)), .string t] := by
    split
    · rw [hR]; rfl
    · exact hM
  rw [hres]
  generalize decide (n < 0) = na
  generalize decide (d < 0) = nd at HSG ⊢
  have e1 : decide ((1 : Int) < 0) = false := rfl
  rw [e1] at HOF
  have hbx := boxesN w 88 86 #[.bool na, .string s, .bool nd, .string t] #[.bool false, .string ⟨#[]⟩]
  have HH := Lib.hid (And.intro HSG HOF)
  clear HSG HOF hN hM hR hres e1
  obtain ⟨RR, hRR⟩ : ∃ RR, (if d = 0 then Value.agg #[.bool false, .string rs] else .agg #[.bool nd, .string t]) = RR := ⟨_, rfl⟩
  rw [hRR]
  have HRR := Lib.hid hRR
  clear hRR
  go_enter Tryz.func68, Tryz.ntmps68
  go_upto_region 1 with fail
  generalize (w.alloc (.cells #[.bool na, .string s, .bool nd, .string t] 88)).alloc (.cells #[.bool false, .string ⟨#[]⟩] 86) = X at hbx ⊢
  obtain ⟨hx, hsz, k0, k1⟩ := hbx
  obtain ⟨⟨a0, a1, a2, a3⟩, -⟩ := num_cells k0
  have HX := Lib.hid (And.intro hx (And.intro k0 (And.intro k1 hsz)))
  clear hx k0 k1 hsz
  by_cases hd : d = 0
  · have hsI : (d.sign == 0) = true := by rw [hsd, decide_eq_true hd]
    have HR : Hid (RR = .agg #[.bool false, .string rs]) := by show _ = _; rw [← HRR.out, if_pos hd]
    clear hd hsd
    go_wp2_with (first
      | (go_at_call 86
         with_reducible refine (HH.out.1 X).mono ?_
         rintro e w1 ⟨rfl, hb1⟩)
      | (go_at_call 69
         with_reducible refine (HH.out.2 w1).mono ?_
         rintro e w2 ⟨rfl, hb2⟩
         have hbx2 : Below X.heap.size X w2 := hb1.trans (hb2.mono hb1.size)
         have hk2 := HX.out.2.2.1.below hbx2 (by rw [HX.out.2.2.2]; omega)
         obtain ⟨g2, g3, g4, g5⟩ := lng_cells hk2
         have HB2 := Lib.hid (And.intro hk2 (HX.out.1.trans (hbx2.mono HX.out.1.size)))
         clear hk2 hb1 hb2 hbx2)
      | fail)
    obtain ⟨Z, hZ⟩ : ∃ Z, Z = (w2.setCell ⟨w.heap.size + 1, 0, none⟩ (.bool false)).setCell ⟨w.heap.size + 1, 1, none⟩ (.string rs) := ⟨_, rfl⟩
    obtain ⟨z0, z1, z2⟩ := lng_put _ _ hZ HB2.out.1 HB2.out.2 (by omega)
    rw [← hZ]
    refine bodyPost_ret (v := .agg #[.bool false, .string rs]) (by simp [results, Tryz.results68, go_sem, z0, z1]) rfl ⟨by rw [HR.out], z2⟩
  · have hsI : (d.sign == 0) = false := by rw [hsd, decide_eq_false hd]
    have HR : Hid (RR = .agg #[.bool nd, .string t]) := by show _ = _; rw [← HRR.out, if_neg hd]
    clear hd hsd
    go_upto_region 3 with (first
      | (go_at_call 86
         with_reducible refine (HH.out.1 X).mono ?_
         rintro e w1 ⟨rfl, hb1⟩)
      | fail)
    have hk2 := HX.out.2.2.1.below hb1 (by rw [HX.out.2.2.2]; omega)
    have hk0 := HX.out.2.1.below hb1 (by rw [HX.out.2.2.2]; omega)
    obtain ⟨g2, g3, g4, g5⟩ := lng_cells hk2
    obtain ⟨⟨b0, b1, b2, b3⟩, -⟩ := num_cells hk0
    have HB2 := Lib.hid (And.intro hk2 (HX.out.1.trans (hb1.mono HX.out.1.size)))
    clear hk2 hb1 hk0
    go_wp2_with fail
    obtain ⟨Z, hZ⟩ : ∃ Z, Z = (w1.setCell ⟨w.heap.size + 1, 0, none⟩ (.bool nd)).setCell ⟨w.heap.size + 1, 1, none⟩ (.string t) := ⟨_, rfl⟩
    obtain ⟨z0, z1, z2⟩ := lng_put _ _ hZ HB2.out.1 HB2.out.2 (by omega)
    rw [← hZ]
    refine bodyPost_ret (v := .agg #[.bool nd, .string t]) (by simp [results, Tryz.results68, go_sem, z0, z1]) rfl ⟨by rw [HR.out], z2⟩
set_option maxRecDepth 100000 in
set_option maxHeartbeats 4000000 in
theorem xint_any (x : Int) (w : World) (hx : -4611686018427387904 ≤ x) (hx2 : x ≤ 4611686018427387904) :
    Calls Tryz.prog 50 #[.int .i64 x] w fun e w' => e = .returned (NumV x 1) ∧ Below w.heap.size w w' := by
  have HX := fun W => of_any x W hx hx2
  have HO := fun W => of_any 1 W (by decide) (by decide)
  obtain ⟨s, t, hN, hL, hM⟩ := num_open x 1
  rw [hN]
  rw [hL] at HX
  rw [hM] at HO
  generalize decide (x < 0) = na at HX ⊢
  rw [show decide ((1 : Int) < 0) = false from rfl] at HO ⊢
  have HH := Lib.hid (And.intro HX HO)
  clear HX HO hN hL hM
  have hk := Blk.new w 88 #[.bool false, .string ⟨#[]⟩, .bool false, .string ⟨#[]⟩]
  have hb := (Below.refl w.heap.size w).alloc (Nat.le_refl _) (.cells #[.bool false, .string ⟨#[]⟩, .bool false, .string ⟨#[]⟩] 88)
  go_enter Tryz.func50, Tryz.ntmps50
  go_upto_region 1 with fail
  generalize w.alloc (.cells #[.bool false, .string ⟨#[]⟩, .bool false, .string ⟨#[]⟩] 88) = X at hk hb ⊢
  have HK := Lib.hid (And.intro hk hb)
  clear hk hb
  go_wp2_with (first
    | (go_at_call 69
       with_reducible refine (HH.out.1 X).mono ?_
       rintro e w1 ⟨rfl, hb1⟩)
    | (go_at_call 69
       with_reducible refine (HH.out.2 w1).mono ?_
       rintro e w2 ⟨rfl, hb2⟩
       have hbx2 : Below X.heap.size X w2 := hb1.trans (hb2.mono hb1.size)
       have hk2 := HK.out.1.below hbx2 HK.out.1.lt
       obtain ⟨⟨g0, g1, g2, g3⟩, g4, g5, g6, g7⟩ := num_cells hk2
       have HB2 := Lib.hid (And.intro hk2 (HK.out.2.trans (hbx2.mono HK.out.2.size)))
       clear hk2 hb1 hb2 hbx2)
    | fail)
  obtain ⟨Z, hZ⟩ : ∃ Z, Z = (((w2.setCell ⟨w.heap.size, 0, none⟩ (.bool na)).setCell ⟨w.heap.size, 1, none⟩ (.string s)).setCell ⟨w.heap.size, 2, none⟩ (.bool false)).setCell ⟨w.heap.size, 3, none⟩ (.string t) := ⟨_, rfl⟩
  obtain ⟨⟨z0, z1, z2, z3⟩, z4⟩ := num_put _ _ _ _ hZ HB2.out.1 HB2.out.2 (Nat.le_refl _)
  rw [← hZ]
  refine bodyPost_ret (v := .agg #[.bool na, .string s, .bool false, .string t]) (by simp [results, Tryz.results50, go_sem, z0, z1, z2, z3]) rfl ⟨rfl, z4⟩
end Go.Proofs.YtkkpfdfoojcljaaGreat
namespace Go.Proofs.YtkkpfdfoojcljaaGreat
open Go.RowKit

theorem boxesM (w : World) (t t2 : TypeId) (c0 c1 c2 : Array Value) : Below w.heap.size w (((w.alloc (.cells c0 t)).alloc (.cells c1 t)).alloc (.cells c2 t2)) ∧ (((w.alloc (.cells c0 t)).alloc (.cells c1 t)).alloc (.cells c2 t2)).heap.size = w.heap.size + 3 ∧
    Blk (((w.alloc (.cells c0 t)).alloc (.cells c1 t)).alloc (.cells c2 t2)) w.heap.size t c0 ∧ Blk (((w.alloc (.cells c0 t)).alloc (.cells c1 t)).alloc (.cells c2 t2)) (w.heap.size + 1) t c1 ∧ Blk (((w.alloc (.cells c0 t)).alloc (.cells c1 t)).alloc (.cells c2 t2)) (w.heap.size + 1 + 1) t2 c2 :=
  ⟨lay_below [(t, c0), (t, c1), (t2, c2)] w, lay_size [(t, c0), (t, c1), (t2, c2)] w, lay_blk [(t, c0), (t, c1), (t2, c2)] w 0 _ _ rfl, lay_blk [(t, c0), (t, c1), (t2, c2)] w 1 _ _ rfl, lay_blk [(t, c0), (t, c1), (t2, c2)] w 2 _ _ rfl⟩
set_option maxRecDepth 100000 in
set_option maxHeartbeats 8000000 in
theorem xmade_any (n : Int) (d : Nat) (w : World) (hn : (digN n.natAbs).length ≤ 20000) (hd : (digN d).length ≤ 20000) (hd0 : 0 < d) :
    Calls Tryz.prog 84 #[Lng n, Lng (d : Int)] w fun e w' => e = .returned (NumV (n / ((Nat.gcd n.natAbs d : Nat) : Int)) ((d / Nat.gcd n.natAbs d : Nat) : Int)) ∧ Below w.heap.size w w' := by
  have HSG : ∀ W, Calls Tryz.prog 86 #[Lng (d : Int)] W fun e w' => e = .returned (.int .i64 1) ∧ Below W.heap.size W w' := fun W => by
    have := lngSign_any (d : Int) W
    rwa [Int.sign_eq_one_of_pos (by omega)] at this
  have HG := fun W => gcd_any n (d : Int) W (by omega) (by rw [Int.natAbs_natCast]; omega)
  rw [Int.natAbs_natCast] at HG
  have hg0 : 0 < Nat.gcd n.natAbs d := Nat.gcd_pos_of_pos_right _ hd0
  have hgd : Nat.gcd n.natAbs d ∣ d := Nat.gcd_dvd_right _ _
  have hgn : ((Nat.gcd n.natAbs d : Nat) : Int) ∣ n := Int.ofNat_dvd_left.2 (Nat.gcd_dvd_left _ _)
  have hgl : (digN (Nat.gcd n.natAbs d)).length ≤ 20000 := Nat.le_trans (digN_mono (Nat.le_of_dvd hd0 hgd)) hd
  generalize Nat.gcd n.natAbs d = g at *
  have HDN := fun W => divmod_any n g W hn hgl hg0 hgn
  have HDD := fun W => divmod_any (d : Int) g W (by rw [Int.natAbs_natCast]; exact hd) hgl hg0 (Int.ofNat_dvd.2 hgd)
  rw [← Int.natCast_ediv] at HDD
  rw [lng_zero] at HDN HDD
  obtain ⟨ps, qs, hN, hP, hQ⟩ := num_open (n / (g : Int)) ((d / g : Nat) : Int)
  rw [hN]
  rw [hP] at HDN
  rw [hQ] at HDD
  generalize decide (n / (g : Int) < 0) = pb at HDN ⊢
  generalize decide (((d / g : Nat) : Int) < 0) = qb at HDD ⊢
  obtain ⟨s, -, hL, -⟩ := lng_open n
  obtain ⟨t, -, hM, -⟩ := lng_open (d : Int)
  obtain ⟨gs, -, hG, -⟩ := lng_open (g : Int)
  rw [hL] at HG HDN ⊢
  rw [hM] at HSG HG HDD ⊢
  rw [hG] at HG HDN HDD
  generalize decide (n < 0) = na at HG HDN ⊢
  generalize decide ((d : Int) < 0) = nd at HSG HG HDD ⊢
  generalize decide ((g : Int) < 0) = gb at HG HDN HDD
  have HH := Lib.hid (And.intro HSG (And.intro HG (And.intro HDN HDD)))
  clear HSG HG HDN HDD hg0 hgd hgn hgl hN hP hQ hL hM hG hn hd hd0
  have hbx := boxesM w 86 88 #[.bool na, .string s] #[.bool nd, .string t] #[.bool false, .string ⟨#[]⟩, .bool false, .string ⟨#[]⟩]
  go_enter Tryz.func84, Tryz.ntmps84
  go_upto_region 1 with fail
  generalize ((w.alloc (.cells #[.bool na, .string s] 86)).alloc (.cells #[.bool nd, .string t] 86)).alloc (.cells #[.bool false, .string ⟨#[]⟩, .bool false, .string ⟨#[]⟩] 88) = X at hbx ⊢
  obtain ⟨hx, hsz, k0, k1, k2⟩ := hbx
  obtain ⟨b0, b1, -, -⟩ := lng_cells k1
  have HX := Lib.hid (And.intro hx (And.intro k0 (And.intro k1 (And.intro k2 hsz))))
  have hlt0 : w.heap.size < X.heap.size := by omega
  have hlt1 : w.heap.size + 1 < X.heap.size := by omega
  have hlt2 : w.heap.size + 1 + 1 < X.heap.size := by omega
  clear hx k0 k1 k2 hsz
  go_upto_region 4 with (first
    | (go_at_call 86
       with_reducible refine (HH.out.1 X).mono ?_
       rintro e w1 ⟨rfl, hb1⟩
       obtain ⟨c0, c1, -, -⟩ := lng_cells (HX.out.2.1.below hb1 hlt0)
       obtain ⟨c2, c3, -, -⟩ := lng_cells (HX.out.2.2.1.below hb1 hlt1)
       have H1 := Lib.hid hb1
       clear hb1)
    | (go_at_call 97
       with_reducible refine (HH.out.2.1 w1).mono ?_
       rintro e w2 ⟨rfl, hb2⟩
       obtain ⟨o0, o1, o2, o3⟩ := lng_cells (Blk.new w2 86 #[.bool false, .string ⟨#[]⟩])
       have H2 := Lib.hid (H1.out.trans (hb2.mono H1.out.size))
       clear hb2)
    | fail)
  obtain ⟨Y, hY⟩ : ∃ Y, Y = w2.alloc (.cells #[.bool gb, .string gs] 86) := ⟨_, rfl⟩
  have hby : Below X.heap.size X Y := by rw [hY]; exact H2.out.alloc H2.out.size _
  have hyg : Blk Y w2.heap.size 86 #[.bool gb, .string gs] := by rw [hY]; exact Blk.new w2 _ _
  obtain ⟨gg, hgg⟩ : ∃ gg, w2.heap.size = gg := ⟨_, rfl⟩
  rw [← hY]
  rw [hgg] at hyg ⊢
  obtain ⟨g0, g1, -, -⟩ := lng_cells hyg
  obtain ⟨y0, y1, -, -⟩ := lng_cells (HX.out.2.1.below hby hlt0)
  have hgX : X.heap.size ≤ gg := by rw [← hgg]; exact H2.out.size
  have HY := Lib.hid (And.intro hby hyg)
  clear hby hyg hY hgg H1 H2 c0 c1 c2 c3 o0 o1 o2 o3 b0 b1
  go_upto_region 5 with (first
    | (go_at_call 98
       with_reducible refine (HH.out.2.2.1 Y).mono ?_
       rintro e w3 ⟨rfl, hb3⟩
       obtain ⟨o0, o1, o2, o3⟩ := lng_cells ((Blk.new w3 86 #[.bool false, .string ⟨#[]⟩]).alloc (.cells #[.bool false, .string ⟨#[]⟩] 86))
       obtain ⟨p0, p1, p2, p3⟩ := lng_cells (new_at w3 86 #[.bool false, .string ⟨#[]⟩] #[.bool false, .string ⟨#[]⟩])
       obtain ⟨q0, q1, q2, q3⟩ := lng_cells (new_at w3 86 #[.bool pb, .string ps] #[.bool false, .string ⟨#[]⟩])
       have H3 := Lib.hid (And.intro (HY.out.1.trans (hb3.mono HY.out.1.size)) hb3)
       clear hb3)
    | fail)
  obtain ⟨Y2, hY2⟩ : ∃ Y2, Y2 = (w3.alloc (.cells #[.bool pb, .string ps] 86)).alloc (.cells #[.bool false, .string ⟨#[]⟩] 86) := ⟨_, rfl⟩
  have hby2 : Below Y.heap.size Y Y2 := by rw [hY2]; exact (H3.out.2.alloc H3.out.2.size _).alloc (by have := H3.out.2.size; simp; omega) _
  have hyp : Blk Y2 w3.heap.size 86 #[.bool pb, .string ps] := by rw [hY2]; exact (Blk.new w3 _ _).alloc _
  obtain ⟨gp, hgp⟩ : ∃ gp, w3.heap.size = gp := ⟨_, rfl⟩
  rw [← hY2]
  rw [hgp] at hyp ⊢
  have hgl2 : gg < Y.heap.size := HY.out.2.lt
  have hYX : X.heap.size ≤ Y.heap.size := HY.out.1.size
  obtain ⟨e0, e1, -, -⟩ := lng_cells (HY.out.2.below hby2 hgl2)
  obtain ⟨f0, f1, -, -⟩ := lng_cells ((HX.out.2.2.1.below HY.out.1 hlt1).below hby2 (Nat.lt_of_lt_of_le hlt1 hYX))
  have HY2 := Lib.hid (And.intro (HY.out.1.trans (hby2.mono hYX)) hyp)
  clear hby2 hyp hY2 hgp H3 g0 g1 y0 y1 o0 o1 o2 o3 p0 p1 p2 p3 q0 q1 q2 q3
  go_upto_region 6 with (first
    | (go_at_call 98
       with_reducible refine (HH.out.2.2.2 Y2).mono ?_
       rintro e w4 ⟨rfl, hb4⟩
       obtain ⟨o0, o1, o2, o3⟩ := lng_cells ((Blk.new w4 86 #[.bool false, .string ⟨#[]⟩]).alloc (.cells #[.bool false, .string ⟨#[]⟩] 86))
       obtain ⟨p0, p1, p2, p3⟩ := lng_cells (new_at w4 86 #[.bool false, .string ⟨#[]⟩] #[.bool false, .string ⟨#[]⟩])
       obtain ⟨q0, q1, q2, q3⟩ := lng_cells (new_at w4 86 #[.bool qb, .string qs] #[.bool false, .string ⟨#[]⟩])
       have H4 := Lib.hid (And.intro (HY2.out.1.trans (hb4.mono HY2.out.1.size)) hb4)
       clear hb4)
    | fail)
  obtain ⟨Y3, hY3⟩ : ∃ Y3, Y3 = (w4.alloc (.cells #[.bool qb, .string qs] 86)).alloc (.cells #[.bool false, .string ⟨#[]⟩] 86) := ⟨_, rfl⟩
  have hby3 : Below Y2.heap.size Y2 Y3 := by rw [hY3]; exact (H4.out.2.alloc H4.out.2.size _).alloc (by have := H4.out.2.size; simp; omega) _
  have hyq : Blk Y3 w4.heap.size 86 #[.bool qb, .string qs] := by rw [hY3]; exact (Blk.new w4 _ _).alloc _
  have hbX3 : Below X.heap.size X Y3 := HY2.out.1.trans (hby3.mono HY2.out.1.size)
  rw [← hY3]
  obtain ⟨l0, l1, -, -⟩ := lng_cells hyq
  obtain ⟨m0, m1, -, -⟩ := lng_cells (HY2.out.2.below hby3 HY2.out.2.lt)
  have hk3 := HX.out.2.2.2.1.below hbX3 hlt2
  obtain ⟨⟨r0, r1, r2, r3⟩, r4, r5, r6, r7⟩ := num_cells hk3
  have HY3 := Lib.hid (And.intro hk3 (HX.out.1.trans (hbX3.mono HX.out.1.size)))
  clear hby3 hyq hbX3 hk3 hY3 H4 e0 e1 f0 f1 o0 o1 o2 o3 p0 p1 p2 p3 q0 q1 q2 q3
  go_wp2_with fail
  obtain ⟨Z, hZ⟩ : ∃ Z, Z = (((Y3.setCell ⟨w.heap.size + 1 + 1, 0, none⟩ (.bool pb)).setCell ⟨w.heap.size + 1 + 1, 1, none⟩ (.string ps)).setCell ⟨w.heap.size + 1 + 1, 2, none⟩ (.bool qb)).setCell ⟨w.heap.size + 1 + 1, 3, none⟩ (.string qs) := ⟨_, rfl⟩
  obtain ⟨⟨z0, z1, z2, z3⟩, z4⟩ := num_put _ _ _ _ hZ HY3.out.1 HY3.out.2 (by omega)
  rw [← hZ]
  refine bodyPost_ret (v := .agg #[.bool pb, .string ps, .bool qb, .string qs]) (by simp [results, Tryz.results84, go_sem, z0, z1, z2, z3]) rfl ⟨rfl, z4⟩
end Go.Proofs.YtkkpfdfoojcljaaGreat
