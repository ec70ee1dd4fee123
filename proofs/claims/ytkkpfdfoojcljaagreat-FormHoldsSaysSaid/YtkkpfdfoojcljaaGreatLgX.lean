/- Walk: package long's Gcd. -/
import Derived.Test.YtkkpfdfoojcljaaGreatLgW
import Derived.Deep.LoopGhost
namespace Go.Proofs.YtkkpfdfoojcljaaGreat
open Go.RowKit

theorem trim_canon (A : Option Addr) (c : Nat) (l : List Nat) (w : World) (h : DigsB w w.heap.size A l.length l) (hn : l.length ≤ c) (hc : c ≤ maxLen) (hl : Canon l) :
    Calls Tryz.prog 103 #[.slice A l.length c] w fun e w' => e = .returned (.slice A l.length c) ∧ w = w' := by
  refine (trim_any A l.length c l w w.heap.size h hn hc).mono ?_
  rintro e w' ⟨rfl, rfl, -, -⟩
  rw [← canon_eq hl]
  exact ⟨rfl, rfl⟩
theorem digN_mono {a b : Nat} (h : a ≤ b) : (digN a).length ≤ (digN b).length := by
  apply digN_len
  have := val_lt (canon_digN b).1
  rw [val_digN] at this
  omega
set_option maxRecDepth 100000 in
set_option maxHeartbeats 8000000 in
theorem gcd_any (a b : Int) (w : World) (ha : (digN a.natAbs).length ≤ 50000) (hb : (digN b.natAbs).length ≤ 50000) :
    Calls Tryz.prog 97 #[Lng a, Lng b] w fun e w' => e = .returned (Lng ((Nat.gcd a.natAbs b.natAbs : Nat) : Int)) ∧ Below w.heap.size w w' := by
  have HA : ∀ W, Calls Tryz.prog 88 #[Lng a] W (RowP (digN a.natAbs) W) := fun W => limbs_any a W (by omega)
  have HB : ∀ W, Calls Tryz.prog 88 #[Lng b] W (RowP (digN b.natAbs) W) := fun W => limbs_any b W (by omega)
  have hva := val_digN a.natAbs
  have hvb := val_digN b.natAbs
  have hca := canon_digN a.natAbs
  have hcb := canon_digN b.natAbs
  obtain ⟨rs, -, hR, -⟩ := lng_open ((Nat.gcd a.natAbs b.natAbs : Nat) : Int)
  rw [hR]
  generalize decide (((Nat.gcd a.natAbs b.natAbs : Nat) : Int) < 0) = rb at hR ⊢
  obtain ⟨s, l, hL, hl, -⟩ := lng_open a
  obtain ⟨t, m, hM, hm, -⟩ := lng_open b
  rw [hL] at HA ⊢
  rw [hM] at HB ⊢
  rw [hl] at ha hva hca HA
  rw [hm] at hb hvb hcb HB
  clear hL hM
  generalize decide (a < 0) = na at HA ⊢
  generalize decide (b < 0) = nb at HB ⊢
  generalize a.natAbs = NA at *
  generalize b.natAbs = NB at *
  have HP := Lib.hid (And.intro hca (And.intro hcb (And.intro hR (And.intro hl (And.intro hm (And.intro hva hvb))))))
  have HAB := Lib.hid (And.intro HA HB)
  clear hR hca hcb HA HB hva hvb hl hm
  go_enter Tryz.func97, Tryz.ntmps97
  go_upto_region 1 with fail
  have hbx := boxes3 w 86 #[.bool na, .string s] #[.bool nb, .string t] #[.bool false, .string ⟨#[]⟩]
  generalize ((w.alloc (.cells #[.bool na, .string s] 86)).alloc (.cells #[.bool nb, .string t] 86)).alloc (.cells #[.bool false, .string ⟨#[]⟩] 86) = X at hbx ⊢
  obtain ⟨hx, hsz, k0, k1, k2⟩ := hbx
  obtain ⟨a0, a1, -, -⟩ := lng_cells k0
  obtain ⟨b0, b1, -, -⟩ := lng_cells k1
  have HX := Lib.hid (And.intro hx (And.intro k0 (And.intro k1 (And.intro k2 hsz))))
  have hlt0 : w.heap.size < X.heap.size := by omega
  have hlt1 : w.heap.size + 1 < X.heap.size := by omega
  have hlt2 : w.heap.size + 1 + 1 < X.heap.size := by omega
  clear hx k0 k1 k2 hsz
  go_cut [5, 6] (fun s5 s6 wx => Hid (Got wx s5 l ∧ Got wx s6 m ∧ Below X.heap.size X wx))
  case first =>
    go_region_held3 (fun w' => w'.cell? ⟨w.heap.size, 0, none⟩ = some (.bool na) ∧ w'.cell? ⟨w.heap.size, 1, none⟩ = some (.string s) ∧ w'.cell? ⟨w.heap.size + 1, 0, none⟩ = some (.bool nb) ∧ w'.cell? ⟨w.heap.size + 1, 1, none⟩ = some (.string t))
      (go_keep)
      (first
        | (go_simp
           go_at_call 88
           with_reducible refine (HAB.out.1 X.drew).mono ?_
           rintro e w1 ⟨v1, rfl, hown1, hb1⟩
           obtain ⟨AA, cA, rfl, hl1, hm1, hd1⟩ := hown1.reads
           have hbw1 : Below X.heap.size X w1 := below_of_drew hb1
           have f0 : w1.cell? ⟨w.heap.size, 0, none⟩ = some (.bool na) := (hbw1.cell (p := ⟨w.heap.size, 0, none⟩) hlt0).trans a0
           have f1 : w1.cell? ⟨w.heap.size, 1, none⟩ = some (.string s) := (hbw1.cell (p := ⟨w.heap.size, 1, none⟩) hlt0).trans a1
           have f2 : w1.cell? ⟨w.heap.size + 1, 0, none⟩ = some (.bool nb) := (hbw1.cell (p := ⟨w.heap.size + 1, 0, none⟩) hlt1).trans b0
           have f3 : w1.cell? ⟨w.heap.size + 1, 1, none⟩ = some (.string t) := (hbw1.cell (p := ⟨w.heap.size + 1, 1, none⟩) hlt1).trans b1
           have HA1 := Lib.hid (And.intro hd1 (And.intro hl1 (And.intro hm1 hbw1)))
           clear hown1 hb1 hbw1 hd1 hl1 hm1)
        | (go_simp
           go_at_call 88
           with_reducible refine (HAB.out.2 w1).mono ?_
           rintro e w2 ⟨v2, rfl, hown2, hb2⟩
           obtain ⟨AB, cB, rfl, hl2, hm2, hd2⟩ := hown2.reads
           have hbw2 : Below X.heap.size X w2 := HA1.out.2.2.2.trans (hb2.mono HA1.out.2.2.2.size)
           have g0 : w2.cell? ⟨w.heap.size, 0, none⟩ = some (.bool na) := (hbw2.cell (p := ⟨w.heap.size, 0, none⟩) hlt0).trans a0
           have g1 : w2.cell? ⟨w.heap.size, 1, none⟩ = some (.string s) := (hbw2.cell (p := ⟨w.heap.size, 1, none⟩) hlt0).trans a1
           have g2 : w2.cell? ⟨w.heap.size + 1, 0, none⟩ = some (.bool nb) := (hbw2.cell (p := ⟨w.heap.size + 1, 0, none⟩) hlt1).trans b0
           have g3 : w2.cell? ⟨w.heap.size + 1, 1, none⟩ = some (.string t) := (hbw2.cell (p := ⟨w.heap.size + 1, 1, none⟩) hlt1).trans b1
           have HB2 := Lib.hid (And.intro hd2 (And.intro hl2 (And.intro hm2 hbw2)))
           have HA2 := Lib.hid (And.intro (HA1.out.1.below stays_u hb2 hb2.size) (And.intro HA1.out.2.1 (And.intro HA1.out.2.2.1 hbw2)))
           clear hown2 hb2 hbw2 hd2 hl2 hm2)
        | (go_simp
           go_at_call 88
           with_reducible refine (HAB.out.2 X.drew).mono ?_
           rintro e w1 ⟨v1, rfl, hown1, hb1⟩
           obtain ⟨AB, cB, rfl, hl1, hm1, hd1⟩ := hown1.reads
           have hbw1 : Below X.heap.size X w1 := below_of_drew hb1
           have f0 : w1.cell? ⟨w.heap.size, 0, none⟩ = some (.bool na) := (hbw1.cell (p := ⟨w.heap.size, 0, none⟩) hlt0).trans a0
           have f1 : w1.cell? ⟨w.heap.size, 1, none⟩ = some (.string s) := (hbw1.cell (p := ⟨w.heap.size, 1, none⟩) hlt0).trans a1
           have f2 : w1.cell? ⟨w.heap.size + 1, 0, none⟩ = some (.bool nb) := (hbw1.cell (p := ⟨w.heap.size + 1, 0, none⟩) hlt1).trans b0
           have f3 : w1.cell? ⟨w.heap.size + 1, 1, none⟩ = some (.string t) := (hbw1.cell (p := ⟨w.heap.size + 1, 1, none⟩) hlt1).trans b1
           have HB1 := Lib.hid (And.intro hd1 (And.intro hl1 (And.intro hm1 hbw1)))
           clear hown1 hb1 hbw1 hd1 hl1 hm1)
        | (go_simp
           go_at_call 88
           with_reducible refine (HAB.out.1 w1).mono ?_
           rintro e w2 ⟨v2, rfl, hown2, hb2⟩
           obtain ⟨AA, cA, rfl, hl2, hm2, hd2⟩ := hown2.reads
           have hbw2 : Below X.heap.size X w2 := HB1.out.2.2.2.trans (hb2.mono HB1.out.2.2.2.size)
           have g0 : w2.cell? ⟨w.heap.size, 0, none⟩ = some (.bool na) := (hbw2.cell (p := ⟨w.heap.size, 0, none⟩) hlt0).trans a0
           have g1 : w2.cell? ⟨w.heap.size, 1, none⟩ = some (.string s) := (hbw2.cell (p := ⟨w.heap.size, 1, none⟩) hlt0).trans a1
           have g2 : w2.cell? ⟨w.heap.size + 1, 0, none⟩ = some (.bool nb) := (hbw2.cell (p := ⟨w.heap.size + 1, 0, none⟩) hlt1).trans b0
           have g3 : w2.cell? ⟨w.heap.size + 1, 1, none⟩ = some (.string t) := (hbw2.cell (p := ⟨w.heap.size + 1, 1, none⟩) hlt1).trans b1
           have HA2 := Lib.hid (And.intro hd2 (And.intro hl2 (And.intro hm2 hbw2)))
           have HB2 := Lib.hid (And.intro (HB1.out.1.below stays_u hb2 hb2.size) (And.intro HB1.out.2.1 (And.intro HB1.out.2.2.1 hbw2)))
           clear hown2 hb2 hbw2 hd2 hl2 hm2)
        | (go_simp
           go_at_call 103
           with_reducible refine (trim_canon AA cA l w1 HA1.out.1 HA1.out.2.1 HA1.out.2.2.1 HP.out.1).mono ?_
           rintro e w9 ⟨rfl, rfl⟩)
        | (go_simp
           go_at_call 103
           with_reducible refine (trim_canon AA cA l w2 HA2.out.1 HA2.out.2.1 HA2.out.2.2.1 HP.out.1).mono ?_
           rintro e w9 ⟨rfl, rfl⟩)
        | (go_simp
           go_at_call 103
           with_reducible refine (trim_canon AB cB m w1 HB1.out.1 HB1.out.2.1 HB1.out.2.2.1 HP.out.2.1).mono ?_
           rintro e w9 ⟨rfl, rfl⟩)
        | (go_simp
           go_at_call 103
           with_reducible refine (trim_canon AB cB m w2 HB2.out.1 HB2.out.2.1 HB2.out.2.2.1 HP.out.2.1).mono ?_
           rintro e w9 ⟨rfl, rfl⟩)
        | fail)
    all_goals (go_wp2_with fail; go_meet; exact ⟨⟨AA, cA, rfl, HA2.out.2.1, HA2.out.2.2.1, HA2.out.1⟩, ⟨AB, cB, rfl, HB2.out.2.1, HB2.out.2.2.1, HB2.out.1⟩, HA2.out.2.2.2⟩)
  case rest =>
    obtain ⟨⟨A5, c5, rfl, h5, h5m, hd5⟩, ⟨A6, c6, rfl, h6, h6m, hd6⟩, hbc⟩ := hcut
    obtain ⟨M, hM1, hM2, hM5⟩ : ∃ M, l.length ≤ M ∧ m.length ≤ M ∧ M ≤ 50000 := ⟨50000, ha, hb, Nat.le_refl _⟩
    obtain ⟨GG, hGG⟩ : ∃ GG, Nat.gcd NA NB = GG := ⟨_, rfl⟩
    have h0 : (digN NA).length = l.length ∧ (digN NB).length = m.length ∧ DigsB wc wc.heap.size A5 l.length (digN NA) ∧ l.length ≤ c5 ∧ c5 ≤ maxLen ∧ DigsB wc wc.heap.size A6 m.length (digN NB) ∧ m.length ≤ c6 ∧ c6 ≤ maxLen ∧ Nat.gcd NA NB = GG ∧ NB < NB + 1 ∧ Below X.heap.size X wc := by
      rw [HP.out.2.2.2.1, HP.out.2.2.2.2.1]
      exact ⟨rfl, rfl, hd5, h5, h5m, hd6, h6, h6m, hGG, Nat.lt_succ_self _, hbc⟩
    have HGG := Lib.hid hGG
    have H0 := Lib.hid h0
    clear hGG
    clear h0 h5 h5m hd5 h6 h6m hd6 hbc a0 a1 b0 b1
    go_wp2_with fail
    go_loopg [5, 6] (NB + 1) (fun gk s5 s6 wr => ∃ (P Q np nq : Nat) (A5 A6 : Option Addr) (c5 c6 : Nat), s5 = .slice A5 np c5 ∧ s6 = .slice A6 nq c6 ∧ np ≤ M ∧ nq ≤ M ∧ Hid ((digN P).length = np ∧ (digN Q).length = nq ∧ DigsB wr wr.heap.size A5 np (digN P) ∧ np ≤ c5 ∧ c5 ≤ maxLen ∧ DigsB wr wr.heap.size A6 nq (digN Q) ∧ nq ≤ c6 ∧ c6 ≤ maxLen ∧ Nat.gcd P Q = GG ∧ Q < gk ∧ Below X.heap.size X wr))
    case atStart => exact ⟨NA, NB, l.length, m.length, A5, A6, c5, c6, rfl, rfl, hM1, hM2, H0.out⟩
    case round =>
      clear H0 hM1 hM2
      obtain ⟨P, Q, np, nq, A5, A6, c5, c6, rfl, rfl, hnp, hnq, HD⟩ := hrel
      by_cases hq0 : nq = 0
      · have hQ : Q = 0 := by
          have h1 := HD.out.2.1
          rw [hq0] at h1
          exact (digN_nil_iff Q).1 (List.length_eq_zero_iff.1 h1)
        have hg := HD.out.2.2.2.2.2.2.2.2.1
        rw [hQ, Nat.gcd_zero_right] at hg
        have hres : Lng (if false = true then -((valL (digN P) : Nat) : Int) else ((valL (digN P) : Nat) : Int)) = .agg #[.bool rb, .string rs] := by
          rw [if_neg (by simp), val_digN, hg, ← HGG.out]; exact HP.out.2.2.1
        have HRES := Lib.hid hres
        clear hres hQ hg
        go_wp2_with fail
        refine (made_any false A5 np c5 (digN P) wr wr.heap.size (Nat.le_refl _) HD.out.2.2.1 HD.out.2.2.2.1 HD.out.2.2.2.2.1 (by omega)).mono ?_
        rintro e w2 ⟨rfl, hb2⟩
        rw [HRES.out]
        have hbw2 : Below X.heap.size X w2 := HD.out.2.2.2.2.2.2.2.2.2.2.trans (hb2.mono HD.out.2.2.2.2.2.2.2.2.2.2.size)
        have hk2 := HX.out.2.2.2.1.below hbw2 hlt2
        obtain ⟨g2, g3, g4, g5⟩ := lng_cells hk2
        have HB2 := Lib.hid (And.intro hbw2 hk2)
        clear hk2 hbw2 hb2
        go_wp2_with fail
        obtain ⟨Z, hZ⟩ : ∃ Z, Z = (w2.setCell ⟨w.heap.size + 1 + 1, 0, none⟩ (.bool rb)).setCell ⟨w.heap.size + 1 + 1, 1, none⟩ (.string rs) := ⟨_, rfl⟩
        obtain ⟨z0, z1, z2⟩ := lng_put _ _ hZ HB2.out.2 (HX.out.1.trans (HB2.out.1.mono HX.out.1.size)) (by omega)
        rw [← hZ]
        refine bodyPost_ret (v := .agg #[.bool rb, .string rs]) (by simp [results, Tryz.results97, go_sem, z0, z1]) rfl ⟨rfl, z2⟩
      · have hqI : (0 : Int) < (nq : Int) := by omega
        have hQ0 : 0 < Q := by
          apply Nat.pos_of_ne_zero
          rintro rfl
          have h1 := HD.out.2.1
          rw [digN_zero] at h1
          exact hq0 h1.symm
        have hquo := quotient_any A5 np c5 (digN P) A6 nq c6 (digN Q) wr HD.out.2.2.1 HD.out.2.2.2.2.2.1 (by omega) (by omega) HD.out.2.2.2.1 HD.out.2.2.2.2.1 HD.out.2.2.2.2.2.2.1 HD.out.2.2.2.2.2.2.2.1 (by rw [val_digN]; exact hQ0)
        rw [val_digN, val_digN] at hquo
        have HQ := Lib.hid (And.intro hquo hQ0)
        clear hquo hQ0
        go_upto_region 4 with (first
          | (go_at_call 106
             with_reducible refine HQ.out.1.mono ?_
             rintro e w2 ⟨v7, v8, q7, r8, rfl, -, ⟨A8, c8, rfl, h8, h8m, hd8⟩, -, hr8, -, hr8l, hb2⟩
             have HQ2 := Lib.hid (And.intro hd8 (And.intro h8 (And.intro h8m (And.intro hr8 hb2))))
             clear hd8 h8 h8m hr8 hb2)
          | fail)
        go_wp2_with fail
        refine (trim_any A8 r8.length c8 r8 w2 w2.heap.size HQ2.out.1 HQ2.out.2.1 HQ2.out.2.2.1).mono ?_
        rintro e w3 ⟨rfl, rfl, hk8, ht8⟩
        have hd := trim_got HQ2.out.1 ht8 hk8
        rw [HQ2.out.2.2.2.1] at hd hk8 ⊢
        have hmod := Nat.mod_lt P HQ.out.2
        have hlen : (digN (P % Q)).length ≤ nq := by rw [← HD.out.2.1]; exact digN_mono (Nat.le_of_lt hmod)
        have HQ3 := Lib.hid (And.intro hd (And.intro hk8 hmod))
        obtain ⟨nr, hnr⟩ : ∃ nr, (digN (P % Q)).length = nr := ⟨_, rfl⟩
        rw [hnr] at hlen HQ3 ⊢
        have HNR := Lib.hid hnr
        clear hnr hd hk8 ht8 hmod
        go_wp2_with fail
        go_roundg Q
        case measure => exact HD.out.2.2.2.2.2.2.2.2.2.1
        case rel => exact ⟨Q, P % Q, nq, nr, A6, A8, c6, c8, rfl, rfl, hnq, by omega, HD.out.2.1, HNR.out, HD.out.2.2.2.2.2.1.below stays_u HQ2.out.2.2.2.2 HQ2.out.2.2.2.2.size, HD.out.2.2.2.2.2.2.1, HD.out.2.2.2.2.2.2.2.1, HQ3.out.1, by have := HQ3.out.2.1; have := HQ2.out.2.1; omega, HQ2.out.2.2.1,
          by rw [Nat.gcd_comm, ← Nat.gcd_rec, Nat.gcd_comm]; exact HD.out.2.2.2.2.2.2.2.2.1, HQ3.out.2.2, HD.out.2.2.2.2.2.2.2.2.2.2.trans (HQ2.out.2.2.2.2.mono HD.out.2.2.2.2.2.2.2.2.2.2.size)⟩
end Go.Proofs.YtkkpfdfoojcljaaGreat
