/- Walk: package long's sum, Add. -/
import Derived.Test.YtkkpfdfoojcljaaGreatLgLM
import Derived.Deep.RegionHeld3
import Derived.Deep.DeepCutAuto
import Derived.Lib.Hide
namespace Go.Proofs.YtkkpfdfoojcljaaGreat
open Go.RowKit

/-- digits that a call handed back, in the world as it is now -/
def Got (W : World) (v : Value) (l : List Nat) : Prop := ∃ A c, v = .slice A l.length c ∧ l.length ≤ c ∧ c ≤ maxLen ∧ DigsB W W.heap.size A l.length l
theorem Got.of {W : World} {B : Nat} {v : Value} {l : List Nat} (h : OwnU W B v l) : Got W v l := h.reads
theorem Got.past {W W' : World} {v : Value} {l : List Nat} (h : Got W v l) (hb : Below W.heap.size W W') : Got W' v l := by
  obtain ⟨A, c, e, h1, h2, h3⟩ := h
  exact ⟨A, c, e, h1, h2, h3.below stays_u hb hb.size⟩
theorem drewD {w : World} {A : Option Addr} {n : Nat} {l : List Nat} (h : DigsB w w.heap.size A n l) : DigsB w.drew w.drew.heap.size A n l := Arr.drew stays_u h
theorem int_of_abs (z : Int) : z = if decide (z < 0) then -(z.natAbs : Int) else (z.natAbs : Int) := by
  by_cases h : z < 0
  · rw [if_pos (by simpa using h)]; omega
  · rw [if_neg (by simpa using h)]; omega

theorem boxes3 (w : World) (t : TypeId) (c0 c1 c2 : Array Value) : Below w.heap.size w (((w.alloc (.cells c0 t)).alloc (.cells c1 t)).alloc (.cells c2 t)) ∧ (((w.alloc (.cells c0 t)).alloc (.cells c1 t)).alloc (.cells c2 t)).heap.size = w.heap.size + 3 ∧
    Blk (((w.alloc (.cells c0 t)).alloc (.cells c1 t)).alloc (.cells c2 t)) w.heap.size t c0 ∧ Blk (((w.alloc (.cells c0 t)).alloc (.cells c1 t)).alloc (.cells c2 t)) (w.heap.size + 1) t c1 ∧ Blk (((w.alloc (.cells c0 t)).alloc (.cells c1 t)).alloc (.cells c2 t)) (w.heap.size + 1 + 1) t c2 :=
  ⟨lay_below [(t, c0), (t, c1), (t, c2)] w, lay_size [(t, c0), (t, c1), (t, c2)] w, lay_blk [(t, c0), (t, c1), (t, c2)] w 0 _ _ rfl, lay_blk [(t, c0), (t, c1), (t, c2)] w 1 _ _ rfl, lay_blk [(t, c0), (t, c1), (t, c2)] w 2 _ _ rfl⟩
set_option maxRecDepth 100000 in
set_option maxHeartbeats 4000000 in
theorem sum_any (a b : Int) (w : World) (ha : (digN a.natAbs).length ≤ 50000) (hb : (digN b.natAbs).length ≤ 50000) :
    Calls Tryz.prog 107 #[Lng a, Lng b] w fun e w' => e = .returned (Lng (a + b)) ∧ Below w.heap.size w w' := by
  have HA : ∀ W, Calls Tryz.prog 88 #[Lng a] W (RowP (digN a.natAbs) W) := fun W => limbs_any a W (by omega)
  have HB : ∀ W, Calls Tryz.prog 88 #[Lng b] W (RowP (digN b.natAbs) W) := fun W => limbs_any b W (by omega)
  have hva := val_digN a.natAbs
  have hvb := val_digN b.natAbs
  have hca := canon_digN a.natAbs
  have hcb := canon_digN b.natAbs
  have ea := int_of_abs a
  have eb := int_of_abs b
  obtain ⟨rs, -, hR, -⟩ := lng_open (a + b)
  rw [hR]
  generalize decide (a + b < 0) = rb at hR ⊢
  obtain ⟨s, l, hL, hl, -⟩ := lng_open a
  obtain ⟨t, m, hM, hm, -⟩ := lng_open b
  rw [hL] at HA ⊢
  rw [hM] at HB ⊢
  rw [hl] at ha hva hca HA
  rw [hm] at hb hvb hcb HB
  clear hL hl hM hm
  rw [← hva] at ea
  rw [← hvb] at eb
  generalize decide (a < 0) = na at HA ea ⊢
  generalize decide (b < 0) = nb at HB eb ⊢
  rw [ea, eb] at hR
  have HP := Lib.hid (And.intro hR (And.intro hca hcb))
  have HAB := Lib.hid (And.intro HA HB)
  clear hR hca hcb HA HB ea eb hva hvb
  go_enter Tryz.func107, Tryz.ntmps107
  go_upto_region 1 with fail
  have hbx := boxes3 w 86 #[.bool na, .string s] #[.bool nb, .string t] #[.bool false, .string ⟨#[]⟩]
  generalize ((w.alloc (.cells #[.bool na, .string s] 86)).alloc (.cells #[.bool nb, .string t] 86)).alloc (.cells #[.bool false, .string ⟨#[]⟩] 86) = X at hbx ⊢
  obtain ⟨hx, hsz, k0, k1, k2⟩ := hbx
  obtain ⟨a0, a1, -, -⟩ := lng_cells k0
  obtain ⟨b0, b1, -, -⟩ := lng_cells k1
  have HX := Lib.hid (And.intro hx (And.intro k0 (And.intro k1 (And.intro k2 hsz))))
  have hlt0 : w.heap.size < X.heap.size := by omega
  have hlt1 : w.heap.size + 1 < X.heap.size := by omega
  have hlt2 : w.heap.size + 1 + 1 < X.heap.size := by omega
  clear hx k0 k1 k2 hsz
  go_cut [5, 6] (fun s5 s6 wx => Hid (Got wx s5 l ∧ Got wx s6 m ∧ Below X.heap.size X wx))
  case first =>
    go_region_held3 (fun w' => w'.cell? ⟨w.heap.size, 0, none⟩ = some (.bool na) ∧ w'.cell? ⟨w.heap.size, 1, none⟩ = some (.string s) ∧ w'.cell? ⟨w.heap.size + 1, 0, none⟩ = some (.bool nb) ∧ w'.cell? ⟨w.heap.size + 1, 1, none⟩ = some (.string t))
      (go_keep)
      (first
        | (go_simp
           go_at_call 88
           with_reducible refine (HAB.out.1 X.drew).mono ?_
           rintro e w1 ⟨v1, rfl, hown1, hb1⟩
           have hbw1 : Below X.heap.size X w1 := below_of_drew hb1
           have f1 : w1.cell? ⟨w.heap.size, 0, none⟩ = some (.bool na) := (hbw1.cell (p := ⟨w.heap.size, 0, none⟩) hlt0).trans a0
           have f2 : w1.cell? ⟨w.heap.size, 1, none⟩ = some (.string s) := (hbw1.cell (p := ⟨w.heap.size, 1, none⟩) hlt0).trans a1
           have f3 : w1.cell? ⟨w.heap.size + 1, 0, none⟩ = some (.bool nb) := (hbw1.cell (p := ⟨w.heap.size + 1, 0, none⟩) hlt1).trans b0
           have f4 : w1.cell? ⟨w.heap.size + 1, 1, none⟩ = some (.string t) := (hbw1.cell (p := ⟨w.heap.size + 1, 1, none⟩) hlt1).trans b1
           have HB1 := Lib.hid (And.intro hbw1 (Got.of hown1))
           clear hown1 hb1 hbw1)
        | (go_simp
           go_at_call 88
           with_reducible refine (HAB.out.2 w1).mono ?_
           rintro e w2 ⟨v2, rfl, hown2, hb2⟩
           have hbw2 : Below X.heap.size X w2 := HB1.out.1.trans (hb2.mono HB1.out.1.size)
           have g1 : w2.cell? ⟨w.heap.size, 0, none⟩ = some (.bool na) := (hbw2.cell (p := ⟨w.heap.size, 0, none⟩) hlt0).trans a0
           have g2 : w2.cell? ⟨w.heap.size, 1, none⟩ = some (.string s) := (hbw2.cell (p := ⟨w.heap.size, 1, none⟩) hlt0).trans a1
           have g3 : w2.cell? ⟨w.heap.size + 1, 0, none⟩ = some (.bool nb) := (hbw2.cell (p := ⟨w.heap.size + 1, 0, none⟩) hlt1).trans b0
           have g4 : w2.cell? ⟨w.heap.size + 1, 1, none⟩ = some (.string t) := (hbw2.cell (p := ⟨w.heap.size + 1, 1, none⟩) hlt1).trans b1
           have HB2 : Hid (Got w2 v1 l ∧ Got w2 v2 m ∧ Below X.heap.size X w2) := ⟨HB1.out.2.past hb2, Got.of hown2, hbw2⟩
           clear hown2 hb2 hbw2)
        | (go_simp
           go_at_call 88
           with_reducible refine (HAB.out.2 X.drew).mono ?_
           rintro e w1 ⟨v2, rfl, hown1, hb1⟩
           have hbw1 : Below X.heap.size X w1 := below_of_drew hb1
           have f1 : w1.cell? ⟨w.heap.size, 0, none⟩ = some (.bool na) := (hbw1.cell (p := ⟨w.heap.size, 0, none⟩) hlt0).trans a0
           have f2 : w1.cell? ⟨w.heap.size, 1, none⟩ = some (.string s) := (hbw1.cell (p := ⟨w.heap.size, 1, none⟩) hlt0).trans a1
           have f3 : w1.cell? ⟨w.heap.size + 1, 0, none⟩ = some (.bool nb) := (hbw1.cell (p := ⟨w.heap.size + 1, 0, none⟩) hlt1).trans b0
           have f4 : w1.cell? ⟨w.heap.size + 1, 1, none⟩ = some (.string t) := (hbw1.cell (p := ⟨w.heap.size + 1, 1, none⟩) hlt1).trans b1
           have HB1 := Lib.hid (And.intro hbw1 (Got.of hown1))
           clear hown1 hb1 hbw1)
        | (go_simp
           go_at_call 88
           with_reducible refine (HAB.out.1 w1).mono ?_
           rintro e w2 ⟨v1, rfl, hown2, hb2⟩
           have hbw2 : Below X.heap.size X w2 := HB1.out.1.trans (hb2.mono HB1.out.1.size)
           have g1 : w2.cell? ⟨w.heap.size, 0, none⟩ = some (.bool na) := (hbw2.cell (p := ⟨w.heap.size, 0, none⟩) hlt0).trans a0
           have g2 : w2.cell? ⟨w.heap.size, 1, none⟩ = some (.string s) := (hbw2.cell (p := ⟨w.heap.size, 1, none⟩) hlt0).trans a1
           have g3 : w2.cell? ⟨w.heap.size + 1, 0, none⟩ = some (.bool nb) := (hbw2.cell (p := ⟨w.heap.size + 1, 0, none⟩) hlt1).trans b0
           have g4 : w2.cell? ⟨w.heap.size + 1, 1, none⟩ = some (.string t) := (hbw2.cell (p := ⟨w.heap.size + 1, 1, none⟩) hlt1).trans b1
           have HB2 : Hid (Got w2 v1 l ∧ Got w2 v2 m ∧ Below X.heap.size X w2) := ⟨Got.of hown2, HB1.out.2.past hb2, hbw2⟩
           clear hown2 hb2 hbw2)
        | fail)
    all_goals (go_wp2_with fail; go_meet; exact HB2)
  case rest =>
    obtain ⟨⟨A5, c5, rfl, h5, h5m, hd5⟩, ⟨A6, c6, rfl, h6, h6m, hd6⟩, hbc⟩ := hcut
    have c0 : wc.cell? ⟨w.heap.size, 0, none⟩ = some (.bool na) := (hbc.cell (p := ⟨w.heap.size, 0, none⟩) hlt0).trans a0
    have d0 : wc.cell? ⟨w.heap.size + 1, 0, none⟩ = some (.bool nb) := (hbc.cell (p := ⟨w.heap.size + 1, 0, none⟩) hlt1).trans b0
    have HC := Lib.hid (And.intro hd5 (And.intro hd6 hbc))
    have HC2 := Lib.hid (And.intro h5 (And.intro h5m (And.intro h6 h6m)))
    clear hd5 hd6 hbc h5 h5m h6 h6m
    by_cases he : na = nb
    · obtain rfl : na = nb := he
      go_wp2_with fail
      have HQ : Hid (Lng (if na then -((valL l + valL m : Nat) : Int) else ((valL l + valL m : Nat) : Int)) = .agg #[.bool rb, .string rs]) := by
        show _ = _
        rw [← HP.out.1]
        congr 1
        cases na <;> simp <;> omega
      clear HAB
      go_region_with (first
        | (go_at_call 118
           with_reducible refine (plus_any A5 l.length c5 l A6 m.length c6 m wc.drew (drewD HC.out.1) (drewD HC.out.2.1) (by omega) (by omega)).mono ?_
           rintro e w1 ⟨v1, q, rfl, hown1, hq, hql, hb1⟩
           have hbw1 : Below X.heap.size X w1 := HC.out.2.2.trans ((below_of_drew hb1).mono HC.out.2.2.size)
           have f1 : w1.cell? ⟨w.heap.size, 0, none⟩ = some (.bool na) := (hbw1.cell (p := ⟨w.heap.size, 0, none⟩) hlt0).trans a0
           obtain ⟨A1, c1, rfl, hl1, hm1, hd1⟩ := hown1.reads
           have hq5 : q.length ≤ 100000 := by omega
           have HB1 := Lib.hid (And.intro hbw1 (And.intro hd1 (And.intro hl1 (And.intro hm1 (And.intro hq hq5)))))
           clear hown1 hb1 hbw1 hq hql hq5 hd1 hl1 hm1)
        | (go_at_call 90
           with_reducible refine (made_any na A1 q.length c1 q w1 w1.heap.size (Nat.le_refl _) HB1.out.2.1 HB1.out.2.2.1 HB1.out.2.2.2.1 HB1.out.2.2.2.2.2).mono ?_
           rintro e w2 ⟨rfl, hb2⟩
           rw [HB1.out.2.2.2.2.1, HQ.out]
           have hbw2 : Below X.heap.size X w2 := HB1.out.1.trans (hb2.mono HB1.out.1.size)
           have g1 : w2.cell? ⟨w.heap.size, 0, none⟩ = some (.bool na) := (hbw2.cell (p := ⟨w.heap.size, 0, none⟩) hlt0).trans a0
           have hk2 := HX.out.2.2.2.1.below hbw2 hlt2
           have g2 := lng_cells hk2
           obtain ⟨g2, g3, g4, g5⟩ := g2
           have HB2 := Lib.hid (And.intro hbw2 hk2)
           clear hk2 hbw2 hb2)
        | fail)
      all_goals
        go_wp2_with fail
        obtain ⟨Z, hZ⟩ : ∃ Z, Z = (w2.setCell ⟨w.heap.size + 1 + 1, 0, none⟩ (.bool rb)).setCell ⟨w.heap.size + 1 + 1, 1, none⟩ (.string rs) := ⟨_, rfl⟩
        obtain ⟨z0, z1, z2⟩ := lng_put _ _ hZ HB2.out.2 (HX.out.1.trans (HB2.out.1.mono HX.out.1.size)) (by omega)
        rw [← hZ]
        refine bodyPost_ret (v := .agg #[.bool rb, .string rs]) (by simp [results, Tryz.results107, go_sem, z0, z1]) rfl ⟨rfl, z2⟩
    · have heb : (na == nb) = false := by simpa using he
      have hcmp : ∀ W, Below X.heap.size X W → DigsB W W.heap.size A5 l.length l → DigsB W W.heap.size A6 m.length m → Calls Tryz.prog 87 #[.slice A5 l.length c5, .slice A6 m.length c6] W fun e w' => e = .returned (.int .i64 (cmpN (valL l) (valL m))) ∧ Below W.heap.size W w' := fun W _ h1 h2 => cmp_any A5 l.length c5 l A6 m.length c6 m W W.heap.size h1 h2 (by omega) (by omega) HP.out.2.1 HP.out.2.2
      have HCMP := Lib.hid hcmp
      clear hcmp
      by_cases hle : valL m ≤ valL l
      · have hN0 : ∃ N : Int, cmpN (valL l) (valL m) = N ∧ 0 ≤ N := ⟨_, rfl, by unfold cmpN; rw [if_neg (by omega)]; split <;> omega⟩
        obtain ⟨N, hN, hN0⟩ := hN0
        have hml : m.length ≤ l.length := by
          apply Nat.le_of_not_lt
          intro hlt
          have := cmp_len HP.out.2.1 HP.out.2.2 hlt
          omega
        have HLE := Lib.hid (And.intro hle (And.intro hN hml))
        clear hle hN hml
        go_wp2_with fail
        refine (HCMP.out wc HC.out.2.2 HC.out.1 HC.out.2.1).mono ?_
        rintro e wd ⟨rfl, hbd⟩
        rw [HLE.out.2.1]
        have HC3 := HC
        clear HC
        have c0d : wd.cell? ⟨w.heap.size, 0, none⟩ = some (.bool na) := (hbd.cell (p := ⟨w.heap.size, 0, none⟩) (Nat.lt_of_lt_of_le hlt0 HC3.out.2.2.size)).trans c0
        have HC : Hid (DigsB wd wd.heap.size A5 l.length l ∧ DigsB wd wd.heap.size A6 m.length m ∧ Below X.heap.size X wd) := ⟨HC3.out.1.below stays_u hbd hbd.size, HC3.out.2.1.below stays_u hbd hbd.size, HC3.out.2.2.trans (hbd.mono HC3.out.2.2.size)⟩
        clear hbd c0 d0 HC3 HCMP
        go_wp2_with fail
        have HQ : Hid (Lng (if na then -((valL l - valL m : Nat) : Int) else ((valL l - valL m : Nat) : Int)) = .agg #[.bool rb, .string rs]) := by
          show _ = _
          rw [← HP.out.1]
          congr 1
          have h1 := HLE.out.1; cases na <;> cases nb <;> simp at heb ⊢ <;> omega
        clear HAB
        go_region_with (first
          | (go_at_call 119
             with_reducible refine (minus_any A5 l.length c5 l A6 m.length c6 m wd.drew (drewD HC.out.1) (drewD HC.out.2.1) (by omega) HLE.out.2.2 HLE.out.1).mono ?_
             rintro e w1 ⟨v1, q, rfl, hown1, hq, hql, hb1⟩
             have hbw1 : Below X.heap.size X w1 := HC.out.2.2.trans ((below_of_drew hb1).mono HC.out.2.2.size)
             have f1 : w1.cell? ⟨w.heap.size, 0, none⟩ = some (.bool na) := (hbw1.cell (p := ⟨w.heap.size, 0, none⟩) hlt0).trans a0
             obtain ⟨A1, c1, rfl, hl1, hm1, hd1⟩ := hown1.reads
             have hq5 : q.length ≤ 100000 := by omega
             have HB1 := Lib.hid (And.intro hbw1 (And.intro hd1 (And.intro hl1 (And.intro hm1 (And.intro hq hq5)))))
             clear hown1 hb1 hbw1 hq hql hq5 hd1 hl1 hm1)
          | (go_at_call 90
             with_reducible refine (made_any na A1 q.length c1 q w1 w1.heap.size (Nat.le_refl _) HB1.out.2.1 HB1.out.2.2.1 HB1.out.2.2.2.1 HB1.out.2.2.2.2.2).mono ?_
             rintro e w2 ⟨rfl, hb2⟩
             rw [HB1.out.2.2.2.2.1, HQ.out]
             have hbw2 : Below X.heap.size X w2 := HB1.out.1.trans (hb2.mono HB1.out.1.size)
             have g1 : w2.cell? ⟨w.heap.size, 0, none⟩ = some (.bool na) := (hbw2.cell (p := ⟨w.heap.size, 0, none⟩) hlt0).trans a0
             have hk2 := HX.out.2.2.2.1.below hbw2 hlt2
             have g2 := lng_cells hk2
             obtain ⟨g2, g3, g4, g5⟩ := g2
             have HB2 := Lib.hid (And.intro hbw2 hk2)
             clear hk2 hbw2 hb2)
          | fail)
        all_goals
          go_wp2_with fail
          obtain ⟨Z, hZ⟩ : ∃ Z, Z = (w2.setCell ⟨w.heap.size + 1 + 1, 0, none⟩ (.bool rb)).setCell ⟨w.heap.size + 1 + 1, 1, none⟩ (.string rs) := ⟨_, rfl⟩
          obtain ⟨z0, z1, z2⟩ := lng_put _ _ hZ HB2.out.2 (HX.out.1.trans (HB2.out.1.mono HX.out.1.size)) (by omega)
          rw [← hZ]
          refine bodyPost_ret (v := .agg #[.bool rb, .string rs]) (by simp [results, Tryz.results107, go_sem, z0, z1]) rfl ⟨rfl, z2⟩
      · have hN0 : ∃ N : Int, cmpN (valL l) (valL m) = N ∧ ¬ 0 ≤ N := ⟨_, rfl, by unfold cmpN; rw [if_pos (by omega)]; omega⟩
        obtain ⟨N, hN, hN0⟩ := hN0
        have hml : l.length ≤ m.length := by
          apply Nat.le_of_not_lt
          intro hlt
          have := cmp_len HP.out.2.2 HP.out.2.1 hlt
          omega
        have hle2 : valL l ≤ valL m := by omega
        have HLE := Lib.hid (And.intro hle2 (And.intro hN hml))
        clear hle hN hml hle2
        go_wp2_with fail
        refine (HCMP.out wc HC.out.2.2 HC.out.1 HC.out.2.1).mono ?_
        rintro e wd ⟨rfl, hbd⟩
        rw [HLE.out.2.1]
        have HC3 := HC
        clear HC
        have d0d : wd.cell? ⟨w.heap.size + 1, 0, none⟩ = some (.bool nb) := (hbd.cell (p := ⟨w.heap.size + 1, 0, none⟩) (Nat.lt_of_lt_of_le hlt1 HC3.out.2.2.size)).trans d0
        have HC : Hid (DigsB wd wd.heap.size A5 l.length l ∧ DigsB wd wd.heap.size A6 m.length m ∧ Below X.heap.size X wd) := ⟨HC3.out.1.below stays_u hbd hbd.size, HC3.out.2.1.below stays_u hbd hbd.size, HC3.out.2.2.trans (hbd.mono HC3.out.2.2.size)⟩
        clear hbd c0 d0 HC3 HCMP
        go_wp2_with fail
        have HQ : Hid (Lng (if nb then -((valL m - valL l : Nat) : Int) else ((valL m - valL l : Nat) : Int)) = .agg #[.bool rb, .string rs]) := by
          show _ = _
          rw [← HP.out.1]
          congr 1
          have h1 := HLE.out.1; cases na <;> cases nb <;> simp at heb ⊢ <;> omega
        clear HAB
        go_region_with (first
          | (go_at_call 119
             with_reducible refine (minus_any A6 m.length c6 m A5 l.length c5 l wd.drew (drewD HC.out.2.1) (drewD HC.out.1) (by omega) HLE.out.2.2 HLE.out.1).mono ?_
             rintro e w1 ⟨v1, q, rfl, hown1, hq, hql, hb1⟩
             have hbw1 : Below X.heap.size X w1 := HC.out.2.2.trans ((below_of_drew hb1).mono HC.out.2.2.size)
             have f1 : w1.cell? ⟨w.heap.size + 1, 0, none⟩ = some (.bool nb) := (hbw1.cell (p := ⟨w.heap.size + 1, 0, none⟩) hlt1).trans b0
             obtain ⟨A1, c1, rfl, hl1, hm1, hd1⟩ := hown1.reads
             have hq5 : q.length ≤ 100000 := by omega
             have HB1 := Lib.hid (And.intro hbw1 (And.intro hd1 (And.intro hl1 (And.intro hm1 (And.intro hq hq5)))))
             clear hown1 hb1 hbw1 hq hql hq5 hd1 hl1 hm1)
          | (go_at_call 90
             with_reducible refine (made_any nb A1 q.length c1 q w1 w1.heap.size (Nat.le_refl _) HB1.out.2.1 HB1.out.2.2.1 HB1.out.2.2.2.1 HB1.out.2.2.2.2.2).mono ?_
             rintro e w2 ⟨rfl, hb2⟩
             rw [HB1.out.2.2.2.2.1, HQ.out]
             have hbw2 : Below X.heap.size X w2 := HB1.out.1.trans (hb2.mono HB1.out.1.size)
             have g1 : w2.cell? ⟨w.heap.size + 1, 0, none⟩ = some (.bool nb) := (hbw2.cell (p := ⟨w.heap.size + 1, 0, none⟩) hlt1).trans b0
             have hk2 := HX.out.2.2.2.1.below hbw2 hlt2
             have g2 := lng_cells hk2
             obtain ⟨g2, g3, g4, g5⟩ := g2
             have HB2 := Lib.hid (And.intro hbw2 hk2)
             clear hk2 hbw2 hb2)
          | fail)
        all_goals
          go_wp2_with fail
          obtain ⟨Z, hZ⟩ : ∃ Z, Z = (w2.setCell ⟨w.heap.size + 1 + 1, 0, none⟩ (.bool rb)).setCell ⟨w.heap.size + 1 + 1, 1, none⟩ (.string rs) := ⟨_, rfl⟩
          obtain ⟨z0, z1, z2⟩ := lng_put _ _ hZ HB2.out.2 (HX.out.1.trans (HB2.out.1.mono HX.out.1.size)) (by omega)
          rw [← hZ]
          refine bodyPost_ret (v := .agg #[.bool rb, .string rs]) (by simp [results, Tryz.results107, go_sem, z0, z1]) rfl ⟨rfl, z2⟩
end Go.Proofs.YtkkpfdfoojcljaaGreat
