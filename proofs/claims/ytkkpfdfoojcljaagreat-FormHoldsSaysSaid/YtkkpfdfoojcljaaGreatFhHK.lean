/- The reference's whole numbers of any length: Add, Sub (printed by genFhH.py). · The reference's whole numbers of any length: Sub. -/
import Derived.Test.YtkkpfdfoojcljaaGreatFhEG
import Derived.Deep.RegionLaw
namespace Go.Proofs.YtkkpfdfoojcljaaGreat
open Go.RowKit


set_option maxRecDepth 100000 in
set_option maxHeartbeats 8000000 in
theorem wAdd_any (g : Nat) (t : TypeId) (a b : Value) (gx : Nat) (x : Int) (A : Option Addr) (n c : Nat) (gy : Nat) (y : Int) (A2 : Option Addr) (n2 c2 : Nat) (w : World) (hk : Blk w g t #[a, b]) (ht : t ≠ 110) (h : IntAt w gx 0 x A n c) (h2 : IntAt w gy 0 y A2 n2 c2) (hn : n ≤ 100000) (hn2 : n2 ≤ 100000) :
    Calls Tryz.prog 56 #[.pointer (some ⟨g, 0, none⟩), .pointer (some ⟨gx, 0, none⟩), .pointer (some ⟨gy, 0, none⟩)] w fun e w' => e = .returned (.pointer (some ⟨g, 0, none⟩)) ∧ Put w w' g 0 (x + y) := by
  have c0 := h.neg
  have c1 : w.cell? ⟨gx, 1, none⟩ = some (.slice A n c) := h.row
  have d0 := h2.neg
  have d1 : w.cell? ⟨gy, 1, none⟩ = some (.slice A2 n2 c2) := h2.row
  have hgx := h.lt
  have hgy := h2.lt
  have hg := hk.lt
  have hlx := h.digs.len
  have hly := h2.digs.len
  have HVX := Lib.hid (And.intro (val_digN x.natAbs) (val_digN y.natAbs))
  have HCmp := Lib.hid (fun (W : World) (hb : Below w.heap.size w W) => wCmpAbs_any gx 0 x A n c gy 0 y A2 n2 c2 W (h.below hb) (h2.below hb) (by omega) (by omega))
  have HH := Lib.hid (And.intro hk (And.intro ht (And.intro h h2)))
  clear hk ht h h2
  obtain ⟨sx, hsx⟩ : ∃ s, decide (x < 0) = s := ⟨_, rfl⟩
  obtain ⟨sy, hsy⟩ : ∃ s, decide (y < 0) = s := ⟨_, rfl⟩
  rw [hsx] at c0
  rw [hsy] at d0
  have HS := Lib.hid (And.intro hsx hsy)
  clear hsx hsy
  have hpos : ∀ (s : Bool) (z : Int), decide (z < 0) = s → (s = true → z < 0) ∧ (s = false → 0 ≤ z) := fun s z h => ⟨fun e => by rw [e] at h; exact of_decide_eq_true h, fun e => by rw [e] at h; have := of_decide_eq_false h; omega⟩
  have HSg := Lib.hid (And.intro (hpos sx x HS.out.1) (hpos sy y HS.out.2))
  clear hpos
  go_enter Tryz.func56, Tryz.ntmps56
  go_wp2_with fail
  go_quiet (fail)
  obtain ⟨wc, hwc⟩ : ∃ wc, w.drewN nq = wc := ⟨_, rfl⟩
  have hbc : Below w.heap.size w wc := by rw [← hwc]; exact below_drewN (Below.refl _ _) _
  rw [hwc]
  clear hwc
  rcases sx with _ | _ <;> rcases sy with _ | _
  · skip
    have HBc := Lib.hid hbc
    have e0 := (hbc.cell (p := ⟨gx, 0, none⟩) hgx).trans c0
    have e1 := (hbc.cell (p := ⟨gx, 1, none⟩) hgx).trans c1
    have e2 := (hbc.cell (p := ⟨gy, 0, none⟩) hgy).trans d0
    have e3 := (hbc.cell (p := ⟨gy, 1, none⟩) hgy).trans d1
    have hgx1 := Nat.lt_of_lt_of_le hgx hbc.size
    have hgy1 := Nat.lt_of_lt_of_le hgy hbc.size
    have hbd : Below w.heap.size w wc.drew := hbc.drew
    have HC := Lib.hid (sumOf_any A n c (digN x.natAbs) A2 n2 c2 (digN y.natAbs) wc.drew (HH.out.2.2.1.digsB.later hbd) (HH.out.2.2.2.digsB.later hbd) (by omega) (by omega))
    clear hbd hbc
    go_wp2_with fail
    go_region_law (first
      | (go_simp
         go_at_call 77
         refine HC.out.mono ?_
         rintro e w6 ⟨v, l, rfl, hown, hval, hlen, hb6⟩
         obtain ⟨A6, c6, rfl, hc6, hc6m⟩ := hown.len
         have hbw : Below w.heap.size w w6 := HBc.out.trans ((below_of_drew hb6).mono HBc.out.size)
         have f0 := (hbw.cell (p := ⟨gx, 0, none⟩) hgx).trans c0
         have f1 := (hbw.cell (p := ⟨gx, 1, none⟩) hgx).trans c1
         have f2 := (hbw.cell (p := ⟨gy, 0, none⟩) hgy).trans d0
         have f3 := (hbw.cell (p := ⟨gy, 1, none⟩) hgy).trans d1
         have k6 := HH.out.1.below hbw hg
         have y0 : w6.cell? ⟨g, 0, none⟩ = some a := k6.cell 0
         have y1 : w6.cell? ⟨g, 1, none⟩ = some b := k6.cell 1
         have z0 := k6.frozen 0
         have z1 := k6.frozen 1
         have gz6 := k6.lt
         have H6 := Lib.hid (And.intro (head_made (s := false) HH.out.1 HH.out.2.1 hbw hown) hval)
         clear hown hlen hb6 hbw k6 hc6 hc6m hval)
      | fail)
    all_goals
      go_wp2_with fail
      refine (wTrim_any g t false A6 _ c6 l _ H6.out.1.1).mono ?_
      rintro e w7 ⟨rfl, hp⟩
      have HP := Lib.hid (put_trim (z := x + y) HH.out.1 H6.out.1 (by have h1 := H6.out.2; rw [HVX.out.1, HVX.out.2] at h1; have h2 := HSg.out; unfold sgnD; rw [h1]; simp at h2 ⊢; omega) hp)
      clear hp
      go_wp2_with fail
      go_ret
      exact ⟨rfl, HP.out⟩
  · go_wp2_with fail
    refine (HCmp.out _ hbc).mono ?_
    rintro e w2 ⟨rfl, hb2⟩
    have hbc2 : Below w.heap.size w w2 := hbc.trans (hb2.mono hbc.size)
    clear hb2 hbc
    obtain ⟨wc, rfl⟩ : ∃ wc : World, wc = w2 := ⟨_, rfl⟩
    have hbc := hbc2
    clear hbc2
    by_cases hcmp : x.natAbs < y.natAbs
    · have hci : cmpN x.natAbs y.natAbs = -1 := cmpN_lt hcmp
      rw [hci]
      have HBc := Lib.hid hbc
      have e0 := (hbc.cell (p := ⟨gx, 0, none⟩) hgx).trans c0
      have e1 := (hbc.cell (p := ⟨gx, 1, none⟩) hgx).trans c1
      have e2 := (hbc.cell (p := ⟨gy, 0, none⟩) hgy).trans d0
      have e3 := (hbc.cell (p := ⟨gy, 1, none⟩) hgy).trans d1
      have hgx1 := Nat.lt_of_lt_of_le hgx hbc.size
      have hgy1 := Nat.lt_of_lt_of_le hgy hbc.size
      have hbd : Below w.heap.size w wc.drew := hbc.drew
      have HC := Lib.hid (lessOf_any A2 n2 c2 (digN y.natAbs) A n c (digN x.natAbs) wc.drew (HH.out.2.2.2.digsB.later hbd) (HH.out.2.2.1.digsB.later hbd) (by omega) (by rw [← hlx, ← hly]; exact digN_mono (Nat.le_of_lt hcmp)) (by rw [HVX.out.1, HVX.out.2]; omega))
      clear hbd hbc
      go_wp2_with fail
      go_region_law (first
        | (go_simp
           go_at_call 79
           refine HC.out.mono ?_
           rintro e w6 ⟨v, l, rfl, hown, hval, hlen, hb6⟩
           obtain ⟨A6, c6, rfl, hc6, hc6m⟩ := hown.len
           have hbw : Below w.heap.size w w6 := HBc.out.trans ((below_of_drew hb6).mono HBc.out.size)
           have f0 := (hbw.cell (p := ⟨gx, 0, none⟩) hgx).trans c0
           have f1 := (hbw.cell (p := ⟨gx, 1, none⟩) hgx).trans c1
           have f2 := (hbw.cell (p := ⟨gy, 0, none⟩) hgy).trans d0
           have f3 := (hbw.cell (p := ⟨gy, 1, none⟩) hgy).trans d1
           have k6 := HH.out.1.below hbw hg
           have y0 : w6.cell? ⟨g, 0, none⟩ = some a := k6.cell 0
           have y1 : w6.cell? ⟨g, 1, none⟩ = some b := k6.cell 1
           have z0 := k6.frozen 0
           have z1 := k6.frozen 1
           have gz6 := k6.lt
           have H6 := Lib.hid (And.intro (head_made (s := true) HH.out.1 HH.out.2.1 hbw hown) hval)
           clear hown hlen hb6 hbw k6 hc6 hc6m hval)
        | fail)
      all_goals
        go_wp2_with fail
        refine (wTrim_any g t true A6 _ c6 l _ H6.out.1.1).mono ?_
        rintro e w7 ⟨rfl, hp⟩
        have HP := Lib.hid (put_trim (z := x + y) HH.out.1 H6.out.1 (by have h1 := H6.out.2; rw [HVX.out.1, HVX.out.2] at h1; have h2 := HSg.out; unfold sgnD; rw [h1]; simp at h2 ⊢; omega) hp)
        clear hp
        go_wp2_with fail
        go_ret
        exact ⟨rfl, HP.out⟩
    · have hci : (0 : Int) ≤ cmpN x.natAbs y.natAbs := by unfold cmpN; rw [if_neg hcmp]; split <;> omega
      have HBc := Lib.hid hbc
      have e0 := (hbc.cell (p := ⟨gx, 0, none⟩) hgx).trans c0
      have e1 := (hbc.cell (p := ⟨gx, 1, none⟩) hgx).trans c1
      have e2 := (hbc.cell (p := ⟨gy, 0, none⟩) hgy).trans d0
      have e3 := (hbc.cell (p := ⟨gy, 1, none⟩) hgy).trans d1
      have hgx1 := Nat.lt_of_lt_of_le hgx hbc.size
      have hgy1 := Nat.lt_of_lt_of_le hgy hbc.size
      have hbd : Below w.heap.size w wc.drew := hbc.drew
      have HC := Lib.hid (lessOf_any A n c (digN x.natAbs) A2 n2 c2 (digN y.natAbs) wc.drew (HH.out.2.2.1.digsB.later hbd) (HH.out.2.2.2.digsB.later hbd) (by omega) (by rw [← hlx, ← hly]; exact digN_mono (by omega)) (by rw [HVX.out.1, HVX.out.2]; omega))
      clear hbd hbc
      go_wp2_with fail
      go_region_law (first
        | (go_simp
           go_at_call 79
           refine HC.out.mono ?_
           rintro e w6 ⟨v, l, rfl, hown, hval, hlen, hb6⟩
           obtain ⟨A6, c6, rfl, hc6, hc6m⟩ := hown.len
           have hbw : Below w.heap.size w w6 := HBc.out.trans ((below_of_drew hb6).mono HBc.out.size)
           have f0 := (hbw.cell (p := ⟨gx, 0, none⟩) hgx).trans c0
           have f1 := (hbw.cell (p := ⟨gx, 1, none⟩) hgx).trans c1
           have f2 := (hbw.cell (p := ⟨gy, 0, none⟩) hgy).trans d0
           have f3 := (hbw.cell (p := ⟨gy, 1, none⟩) hgy).trans d1
           have k6 := HH.out.1.below hbw hg
           have y0 : w6.cell? ⟨g, 0, none⟩ = some a := k6.cell 0
           have y1 : w6.cell? ⟨g, 1, none⟩ = some b := k6.cell 1
           have z0 := k6.frozen 0
           have z1 := k6.frozen 1
           have gz6 := k6.lt
           have H6 := Lib.hid (And.intro (head_made (s := false) HH.out.1 HH.out.2.1 hbw hown) hval)
           clear hown hlen hb6 hbw k6 hc6 hc6m hval)
        | fail)
      all_goals
        go_wp2_with fail
        refine (wTrim_any g t false A6 _ c6 l _ H6.out.1.1).mono ?_
        rintro e w7 ⟨rfl, hp⟩
        have HP := Lib.hid (put_trim (z := x + y) HH.out.1 H6.out.1 (by have h1 := H6.out.2; rw [HVX.out.1, HVX.out.2] at h1; have h2 := HSg.out; unfold sgnD; rw [h1]; simp at h2 ⊢; omega) hp)
        clear hp
        go_wp2_with fail
        go_ret
        exact ⟨rfl, HP.out⟩
  · go_wp2_with fail
    refine (HCmp.out _ hbc).mono ?_
    rintro e w2 ⟨rfl, hb2⟩
    have hbc2 : Below w.heap.size w w2 := hbc.trans (hb2.mono hbc.size)
    clear hb2 hbc
    obtain ⟨wc, rfl⟩ : ∃ wc : World, wc = w2 := ⟨_, rfl⟩
    have hbc := hbc2
    clear hbc2
    by_cases hcmp : x.natAbs < y.natAbs
    · have hci : cmpN x.natAbs y.natAbs = -1 := cmpN_lt hcmp
      rw [hci]
      have HBc := Lib.hid hbc
      have e0 := (hbc.cell (p := ⟨gx, 0, none⟩) hgx).trans c0
      have e1 := (hbc.cell (p := ⟨gx, 1, none⟩) hgx).trans c1
      have e2 := (hbc.cell (p := ⟨gy, 0, none⟩) hgy).trans d0
      have e3 := (hbc.cell (p := ⟨gy, 1, none⟩) hgy).trans d1
      have hgx1 := Nat.lt_of_lt_of_le hgx hbc.size
      have hgy1 := Nat.lt_of_lt_of_le hgy hbc.size
      have hbd : Below w.heap.size w wc.drew := hbc.drew
      have HC := Lib.hid (lessOf_any A2 n2 c2 (digN y.natAbs) A n c (digN x.natAbs) wc.drew (HH.out.2.2.2.digsB.later hbd) (HH.out.2.2.1.digsB.later hbd) (by omega) (by rw [← hlx, ← hly]; exact digN_mono (Nat.le_of_lt hcmp)) (by rw [HVX.out.1, HVX.out.2]; omega))
      clear hbd hbc
      go_wp2_with fail
      go_region_law (first
        | (go_simp
           go_at_call 79
           refine HC.out.mono ?_
           rintro e w6 ⟨v, l, rfl, hown, hval, hlen, hb6⟩
           obtain ⟨A6, c6, rfl, hc6, hc6m⟩ := hown.len
           have hbw : Below w.heap.size w w6 := HBc.out.trans ((below_of_drew hb6).mono HBc.out.size)
           have f0 := (hbw.cell (p := ⟨gx, 0, none⟩) hgx).trans c0
           have f1 := (hbw.cell (p := ⟨gx, 1, none⟩) hgx).trans c1
           have f2 := (hbw.cell (p := ⟨gy, 0, none⟩) hgy).trans d0
           have f3 := (hbw.cell (p := ⟨gy, 1, none⟩) hgy).trans d1
           have k6 := HH.out.1.below hbw hg
           have y0 : w6.cell? ⟨g, 0, none⟩ = some a := k6.cell 0
           have y1 : w6.cell? ⟨g, 1, none⟩ = some b := k6.cell 1
           have z0 := k6.frozen 0
           have z1 := k6.frozen 1
           have gz6 := k6.lt
           have H6 := Lib.hid (And.intro (head_made (s := false) HH.out.1 HH.out.2.1 hbw hown) hval)
           clear hown hlen hb6 hbw k6 hc6 hc6m hval)
        | fail)
      all_goals
        go_wp2_with fail
        refine (wTrim_any g t false A6 _ c6 l _ H6.out.1.1).mono ?_
        rintro e w7 ⟨rfl, hp⟩
        have HP := Lib.hid (put_trim (z := x + y) HH.out.1 H6.out.1 (by have h1 := H6.out.2; rw [HVX.out.1, HVX.out.2] at h1; have h2 := HSg.out; unfold sgnD; rw [h1]; simp at h2 ⊢; omega) hp)
        clear hp
        go_wp2_with fail
        go_ret
        exact ⟨rfl, HP.out⟩
    · have hci : (0 : Int) ≤ cmpN x.natAbs y.natAbs := by unfold cmpN; rw [if_neg hcmp]; split <;> omega
      have HBc := Lib.hid hbc
      have e0 := (hbc.cell (p := ⟨gx, 0, none⟩) hgx).trans c0
      have e1 := (hbc.cell (p := ⟨gx, 1, none⟩) hgx).trans c1
      have e2 := (hbc.cell (p := ⟨gy, 0, none⟩) hgy).trans d0
      have e3 := (hbc.cell (p := ⟨gy, 1, none⟩) hgy).trans d1
      have hgx1 := Nat.lt_of_lt_of_le hgx hbc.size
      have hgy1 := Nat.lt_of_lt_of_le hgy hbc.size
      have hbd : Below w.heap.size w wc.drew := hbc.drew
      have HC := Lib.hid (lessOf_any A n c (digN x.natAbs) A2 n2 c2 (digN y.natAbs) wc.drew (HH.out.2.2.1.digsB.later hbd) (HH.out.2.2.2.digsB.later hbd) (by omega) (by rw [← hlx, ← hly]; exact digN_mono (by omega)) (by rw [HVX.out.1, HVX.out.2]; omega))
      clear hbd hbc
      go_wp2_with fail
      go_region_law (first
        | (go_simp
           go_at_call 79
           refine HC.out.mono ?_
           rintro e w6 ⟨v, l, rfl, hown, hval, hlen, hb6⟩
           obtain ⟨A6, c6, rfl, hc6, hc6m⟩ := hown.len
           have hbw : Below w.heap.size w w6 := HBc.out.trans ((below_of_drew hb6).mono HBc.out.size)
           have f0 := (hbw.cell (p := ⟨gx, 0, none⟩) hgx).trans c0
           have f1 := (hbw.cell (p := ⟨gx, 1, none⟩) hgx).trans c1
           have f2 := (hbw.cell (p := ⟨gy, 0, none⟩) hgy).trans d0
           have f3 := (hbw.cell (p := ⟨gy, 1, none⟩) hgy).trans d1
           have k6 := HH.out.1.below hbw hg
           have y0 : w6.cell? ⟨g, 0, none⟩ = some a := k6.cell 0
           have y1 : w6.cell? ⟨g, 1, none⟩ = some b := k6.cell 1
           have z0 := k6.frozen 0
           have z1 := k6.frozen 1
           have gz6 := k6.lt
           have H6 := Lib.hid (And.intro (head_made (s := true) HH.out.1 HH.out.2.1 hbw hown) hval)
           clear hown hlen hb6 hbw k6 hc6 hc6m hval)
        | fail)
      all_goals
        go_wp2_with fail
        refine (wTrim_any g t true A6 _ c6 l _ H6.out.1.1).mono ?_
        rintro e w7 ⟨rfl, hp⟩
        have HP := Lib.hid (put_trim (z := x + y) HH.out.1 H6.out.1 (by have h1 := H6.out.2; rw [HVX.out.1, HVX.out.2] at h1; have h2 := HSg.out; unfold sgnD; rw [h1]; simp at h2 ⊢; omega) hp)
        clear hp
        go_wp2_with fail
        go_ret
        exact ⟨rfl, HP.out⟩
  · skip
    have HBc := Lib.hid hbc
    have e0 := (hbc.cell (p := ⟨gx, 0, none⟩) hgx).trans c0
    have e1 := (hbc.cell (p := ⟨gx, 1, none⟩) hgx).trans c1
    have e2 := (hbc.cell (p := ⟨gy, 0, none⟩) hgy).trans d0
    have e3 := (hbc.cell (p := ⟨gy, 1, none⟩) hgy).trans d1
    have hgx1 := Nat.lt_of_lt_of_le hgx hbc.size
    have hgy1 := Nat.lt_of_lt_of_le hgy hbc.size
    have hbd : Below w.heap.size w wc.drew := hbc.drew
    have HC := Lib.hid (sumOf_any A n c (digN x.natAbs) A2 n2 c2 (digN y.natAbs) wc.drew (HH.out.2.2.1.digsB.later hbd) (HH.out.2.2.2.digsB.later hbd) (by omega) (by omega))
    clear hbd hbc
    go_wp2_with fail
    go_region_law (first
      | (go_simp
         go_at_call 77
         refine HC.out.mono ?_
         rintro e w6 ⟨v, l, rfl, hown, hval, hlen, hb6⟩
         obtain ⟨A6, c6, rfl, hc6, hc6m⟩ := hown.len
         have hbw : Below w.heap.size w w6 := HBc.out.trans ((below_of_drew hb6).mono HBc.out.size)
         have f0 := (hbw.cell (p := ⟨gx, 0, none⟩) hgx).trans c0
         have f1 := (hbw.cell (p := ⟨gx, 1, none⟩) hgx).trans c1
         have f2 := (hbw.cell (p := ⟨gy, 0, none⟩) hgy).trans d0
         have f3 := (hbw.cell (p := ⟨gy, 1, none⟩) hgy).trans d1
         have k6 := HH.out.1.below hbw hg
         have y0 : w6.cell? ⟨g, 0, none⟩ = some a := k6.cell 0
         have y1 : w6.cell? ⟨g, 1, none⟩ = some b := k6.cell 1
         have z0 := k6.frozen 0
         have z1 := k6.frozen 1
         have gz6 := k6.lt
         have H6 := Lib.hid (And.intro (head_made (s := true) HH.out.1 HH.out.2.1 hbw hown) hval)
         clear hown hlen hb6 hbw k6 hc6 hc6m hval)
      | fail)
    all_goals
      go_wp2_with fail
      refine (wTrim_any g t true A6 _ c6 l _ H6.out.1.1).mono ?_
      rintro e w7 ⟨rfl, hp⟩
      have HP := Lib.hid (put_trim (z := x + y) HH.out.1 H6.out.1 (by have h1 := H6.out.2; rw [HVX.out.1, HVX.out.2] at h1; have h2 := HSg.out; unfold sgnD; rw [h1]; simp at h2 ⊢; omega) hp)
      clear hp
      go_wp2_with fail
      go_ret
      exact ⟨rfl, HP.out⟩
end Go.Proofs.YtkkpfdfoojcljaaGreat
namespace Go.Proofs.YtkkpfdfoojcljaaGreat
open Go.RowKit

theorem put_old {w w2 w' : World} {g : Nat} {z : Int} {t : TypeId} {a b : Value} (hk : Blk w g t #[a, b]) (hb : Below w.heap.size w w2) (h : Put w2 w' g 0 z) : Put w w' g 0 z :=
  Put.after (only_of_below hb (some g)) hk (hk.below hb hk.lt) h
set_option maxRecDepth 100000 in
set_option maxHeartbeats 2000000 in
theorem wSub_any (g : Nat) (t : TypeId) (a b : Value) (gx : Nat) (x : Int) (A : Option Addr) (n c : Nat) (gy : Nat) (y : Int) (A2 : Option Addr) (n2 c2 : Nat) (w : World) (hk : Blk w g t #[a, b]) (ht : t ≠ 110) (h : IntAt w gx 0 x A n c) (h2 : IntAt w gy 0 y A2 n2 c2) (hn : n ≤ 100000) (hn2 : n2 ≤ 100000) :
    Calls Tryz.prog 110 #[.pointer (some ⟨g, 0, none⟩), .pointer (some ⟨gx, 0, none⟩), .pointer (some ⟨gy, 0, none⟩)] w fun e w' => e = .returned (.pointer (some ⟨g, 0, none⟩)) ∧ Put w w' g 0 (x - y) := by
  have hb0 : Below w.heap.size w (w.alloc (.cells #[.bool false, .slice none 0 0] 72)) := (Below.refl _ _).alloc (Nat.le_refl _) _
  have hk0 := Blk.new w 72 #[.bool false, .slice none 0 0]
  have HC := Lib.hid (wNeg_any w.heap.size 72 _ _ gy 0 y A2 n2 c2 _ hk0 (by decide) (h2.below hb0) (by omega))
  have HH := Lib.hid (And.intro hk (And.intro ht (And.intro h (And.intro hb0 hk0))))
  have hly := h2.digs.len
  clear hk ht h h2 hb0 hk0
  go_enter Tryz.func110, Tryz.ntmps110
  go_wp2_with fail
  refine HC.out.mono ?_
  rintro e w2 ⟨rfl, hp⟩
  obtain ⟨A3, n3, c3, h3⟩ := hp.at_
  have hb2 : Below w.heap.size w w2 := below_then HH.out.2.2.2.1 hp.1 HH.out.2.2.2.1.size (fun x hx => by injection hx with hx; omega)
  have hn3 : n3 ≤ 100000 := by have := h3.digs.len; rw [Int.natAbs_neg] at this; omega
  have HA := Lib.hid (wAdd_any g t a b gx x A n c w.heap.size (-y) A3 n3 c3 w2 (HH.out.1.below hb2 HH.out.1.lt) HH.out.2.1 (HH.out.2.2.1.below hb2) h3 hn hn3)
  have HB := Lib.hid hb2
  clear h3 hp hb2
  go_wp2_with fail
  refine HA.out.mono ?_
  rintro e w3 ⟨rfl, hp⟩
  have HP := Lib.hid (put_old HH.out.1 HB.out hp)
  clear hp
  go_wp2_with fail
  go_ret
  refine ⟨rfl, ?_⟩
  have h1 := HP.out
  rwa [← Int.sub_eq_add_neg] at h1
end Go.Proofs.YtkkpfdfoojcljaaGreat
