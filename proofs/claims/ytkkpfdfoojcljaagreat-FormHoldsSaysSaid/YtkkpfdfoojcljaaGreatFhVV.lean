/- The reference's whole numbers of any length: the long division by two digits or more (printed by genFhV.py). · The reference's long division answers what it is to answer. -/
import Derived.Test.YtkkpfdfoojcljaaGreatFhU
namespace Go.Proofs.YtkkpfdfoojcljaaGreat
open Go.RowKit

theorem digs_inj : ∀ {a b : List Nat}, Digs a → Digs b → a.length = b.length → valL a = valL b → a = b
  | [], [], _, _, _, _ => rfl
  | [], _ :: _, _, _, hl, _ => by simp at hl
  | _ :: _, [], _, _, hl, _ => by simp at hl
  | x :: a, y :: b, ha, hb, hl, h => by
    have h1 := ha x (by simp)
    have h2 := hb y (by simp)
    simp only [valL] at h
    have e1 : x = y := by omega
    have e2 : valL a = valL b := by omega
    rw [e1, digs_inj (fun z hz => ha z (List.mem_cons_of_mem _ hz)) (fun z hz => hb z (List.mem_cons_of_mem _ hz)) (by simpa using hl) e2]
/-- the first digits of a row whose others are noughts -/
theorem take_full {l : List Nat} (hd : Digs l) {k : Nat} (hl : l.length = k + 1) (h : (digN (valL l)).length = k) : l.take k = digN (valL l) := by
  have h1 := val_take_drop l k (by omega)
  have h2 : valL l < 4294967296 ^ k := by
    have := val_lt (canon_digN (valL l)).1
    rwa [val_digN, h] at this
  have h3 : valL (l.drop k) = 0 := by
    apply Nat.eq_zero_of_not_pos
    intro hp
    have := Nat.mul_le_mul_left (4294967296 ^ k) hp
    omega
  have h4 : valL (l.take k) = valL (digN (valL l)) := by
    rw [val_digN, h1, h3]; omega
  exact digs_inj (hd.take k) (canon_digN _).1 (by rw [List.length_take, hl, h]; omega) h4
set_option maxRecDepth 100000 in
set_option maxHeartbeats 16000000 in
theorem parts_many (A : Option Addr) (na c : Nat) (l : List Nat) (A2 : Option Addr) (nb c2 : Nat) (m : List Nat) (w : World) (h : DigsB w w.heap.size A na l) (h2 : DigsB w w.heap.size A2 (nb + 2) m) (hn : na ≤ 50000) (hn2 : nb + 2 ≤ 50000) (ca : Canon l) (cb : Canon m) (hle : valL m ≤ valL l) :
    Calls Tryz.prog 105 #[.slice A na c, .slice A2 (nb + 2) c2] w (PartsP (valL l) (valL m) (na + 1) w) := by
  have hln := h.len
  have hln2 := h2.len
  have va : valL l = valL l := rfl
  obtain ⟨X, hX⟩ : ∃ X, valL l = X := ⟨_, rfl⟩
  obtain ⟨Y, hY⟩ : ∃ Y, valL m = Y := ⟨_, rfl⟩
  rw [hX, hY] at hle ⊢
  have hYp : 0 < Y := by rw [← hY]; exact canon_pos cb (by intro e; rw [e] at hln2; simp at hln2)
  obtain ⟨b, off, x, hx, ea, hbB, hcell, hx32⟩ := digs_get h2 (i := nb + 1) (by omega)
  subst ea
  have hx0 : 0 < x := by
    apply Nat.pos_of_ne_zero
    intro e
    apply cb.2
    rw [List.getLast?_eq_getElem?, hln2, show nb + 2 - 1 = nb + 1 by omega, hx, e]
  have hna2 : nb + 2 ≤ na := by
    apply Nat.le_of_not_lt
    intro hlt
    have := cmp_len ca cb (by rw [hln, hln2]; exact hlt)
    rw [hX, hY] at this
    omega
  have HAB := Lib.hid (And.intro h (And.intro h2 (And.intro ca (And.intro cb (And.intro hX (And.intro hY (And.intro hln (And.intro hln2 hx))))))))
  clear h h2 ca cb hX hY hln hln2 hx va hle
  go_enter Tryz.func105, Tryz.ntmps105
  go_upto_block 2 with fail
  go_cut [9] (fun s9 wx => ∃ (k : Nat), s9 = .int .i64 (k : Int) ∧ k < 32 ∧ w = wx ∧ Hid (2147483648 ≤ x * 2 ^ k ∧ x * 2 ^ k < 4294967296))
  case first =>
    go_wp2_with fail
    go_loopw [9] (fun s9 wx => ∃ (k : Nat), s9 = .int .i64 (k : Int) ∧ k ≤ 31 ∧ w = wx ∧ Hid (x * 2 ^ k < 4294967296)) (fun s9 _ => 32 - (intOf s9).toNat)
    case atStart => exact ⟨0, rfl, by omega, rfl, Lib.hid (by simp; omega)⟩
    case round =>
      obtain ⟨k, rfl, hk, rfl, HK⟩ := hrel
      obtain ⟨e, he⟩ : ∃ e, 2 ^ k = e := ⟨_, rfl⟩
      have heI : (2 : Int) ^ k = (e : Int) := by rw [← he]; exact (Int.natCast_pow 2 k).symm
      obtain ⟨q, hq⟩ : ∃ q, x * e = q := ⟨_, rfl⟩
      have hqI : (x : Int) * (e : Int) = (q : Int) := by rw [← hq, Int.natCast_mul]
      have hq32 : q < 4294967296 := by rw [← hq, ← he]; exact HK.out
      have hqm : (q : Int) % 4294967296 = (q : Int) := by omega
      by_cases hbig : 2147483648 ≤ q
      · have hqd : (q : Int) / 2147483648 = 1 := by omega
        have HQ := Lib.hid (show 2147483648 ≤ x * 2 ^ k ∧ x * 2 ^ k < 4294967296 by rw [he, hq]; omega)
        clear hq he
        go_wp2_with fail
        go_meet
        exact ⟨k, rfl, by omega, by first | rfl | trivial, HQ.out⟩
      · have hqd : (q : Int) / 2147483648 = 0 := by omega
        have HQ := Lib.hid (shift_more hx0 hk (by rw [he, hq]; omega))
        have hk31 : k < 31 := HQ.out.1
        clear hq he
        go_wp2_with fail
        go_roundw
        case rel => exact ⟨k + 1, by go_num, by omega, by first | rfl | trivial, HQ.out.2⟩
        case measure => simp only [intOf]; omega
  case rest =>
    obtain ⟨k, rfl, hk32, rfl, HS31⟩ := hcut
    obtain ⟨e, f, he, -, hef, he0, -, he31, -⟩ := pow_split hk32
    have hsb := HS31.out
    rw [← he] at hsb
    have hnv := norm_v (b := m) (m := nb + 1) HAB.out.2.2.2.1.1 HAB.out.2.2.2.2.2.2.2.1 HAB.out.2.2.2.2.2.2.2.2 hef he0 hsb.1 hsb.2
    rw [HAB.out.2.2.2.2.2.1] at hnv
    have hnv2 : (digN (Y * e)).length = nb + 2 := hnv.1
    have HK := Lib.hid (And.intro (And.intro hnv2 hnv.2) he)
    clear hsb hef hnv hnv2 he HS31 hcell hx0 hx32
    have hbd : Below w.heap.size w w.drew := (Below.refl _ _).drew
    have HC1 := Lib.hid (shiftLeft_any (some ⟨b, off, none⟩) (nb + 2) c2 m k w.drew (HAB.out.2.1.below stays_u hbd hbd.size) (by omega) hk32)
    have hb2I : (0 : Int) ≤ (nb : Int) + 2 := by omega
    have hb2N : ((nb : Int) + 2).toNat = nb + 2 := by omega
    clear hbd
    go_wp2_with fail
    go_region_law (first
      | (go_simp
         go_at_call 111
         with_reducible refine HC1.out.mono ?_
         rintro e' w2 ⟨v9, lv, rfl, hown9, hv9, hl9, hb9⟩
         obtain ⟨g9, c9, rfl, -, -, hc9, hm9⟩ := hown9.form (by omega)
         obtain ⟨A9, c9', e9, -, -, hd9⟩ := hown9.reads
         have e9' : A9 = some ⟨g9, 0, none⟩ := by injection e9 with e1 e2 e3; exact e1.symm
         subst e9'
         rw [hl9] at hc9 hd9 ⊢
         rw [HAB.out.2.2.2.2.2.1, ← HK.out.2] at hv9
         have hb9' := below_of_drew hb9
         have HL9 := Lib.hid (And.intro hv9 (And.intro hl9 (And.intro hb9' (And.intro hm9 hd9))))
         have hcI : ((nb : Int) + 2) ≤ (c9 : Int) := by omega
         have hc0 : ¬ c9 = 0 := by omega
         have HC2 := Lib.hid (shiftLeft_any A na c l k w2 (HAB.out.1.below stays_u hb9' hb9'.size) (by omega) hk32)
         clear e9 hv9 hl9 hb9 hb9' hm9 hd9 hown9)
      | (go_simp
         go_at_call 111
         with_reducible refine HC2.out.mono ?_
         rintro e' w3 ⟨v10, U0, rfl, hown10, hv10, hl10, hb10⟩
         rw [HAB.out.2.2.2.2.1, ← HK.out.2] at hv10
         obtain ⟨g, cu, rfl, hg0, hg1, hgc, hgm⟩ := hown10.form (by omega)
         rw [hl10] at hown10 hgc ⊢
         have HU := Lib.hid (And.intro hown10 (And.intro hv10 (And.intro hl10 (And.intro hb10 (And.intro hg0 (And.intro hg1 (And.intro hgc hgm)))))))
         clear hown10 hv10 hl10 hb10 hg0 hg1 hgc hgm)
      | fail)
    have hv9 : DigsB w2 w2.heap.size (some ⟨g9, 0, none⟩) (nb + 2) (digN (Y * e)) := by
      have hd9 := HL9.out.2.2.2.2
      have h1 := Arr.take hd9 (k := nb + 2) (by omega)
      have h2 := take_full hd9.digs (k := nb + 2) HL9.out.2.1 (by rw [HL9.out.1]; exact HK.out.1.1)
      rwa [h2, HL9.out.1] at h1
    have hb12 : Below w.heap.size w w2 := HL9.out.2.2.1
    have HV := Lib.hid (And.intro hv9 (And.intro hb12 HL9.out.2.2.2.1))
    obtain ⟨T, hT⟩ : ∃ T, na = T + nb + 1 := ⟨na - nb - 1, by omega⟩
    have hTI : (na : Int) + 1 - ((nb : Int) + 2) = (T : Int) := by omega
    have HT := Lib.hid hT
    have hT1 : T ≤ na := by omega
    clear hT hv9 hb12 HL9 HC1 HC2
    have hmk := make_u (na + 1) (na + 1) .i64 .i64 (Nat.le_refl _) (by omega)
    have hm1 : ((na + 1 : Nat) : Int) = (na : Int) + 1 := by omega
    rw [hm1] at hmk
    clear hm1
    go_wp2_with fail
    have hst : QSt X Y e na (na + 1) g cu w3.heap.size T U0 (List.replicate (na + 1) 0) w2 (w3.alloc (.cells (zc (na + 1)) 110)) := by
      have hd : Digs U0 := HU.out.1.digs
      refine ⟨HU.out.2.2.1, hd, by simp, digs_zeros _, ?_, ?_, ?_, ?_, ?_⟩
      · have e0 : valL ((List.replicate (na + 1) 0).drop T) = 0 := by rw [List.drop_replicate]; exact val_zeros _
        rw [e0, HU.out.2.1]; simp
      · have h1 := start_lt (U := U0) (X := X) (V := Y * e) (e := e) (la := na) (m := nb + 1) HU.out.2.1 (by
          have := val_lt HAB.out.2.2.1.1
          rwa [HAB.out.2.2.2.2.1, HAB.out.2.2.2.2.2.2.1] at this) he0 he31 (by obtain ⟨y, _, _, h⟩ := HK.out.1.2; exact h) HU.out.2.2.1 (by omega)
        rwa [show na - (nb + 1) = T by have := HT.out; omega] at h1
      · exact HU.out.1.past ((Below.refl w3.heap.size w3).alloc (Nat.le_refl _) _) (Nat.le_refl _)
      · exact own_made w3 HU.out.2.2.2.1.size (Nat.le_refl _) (by omega)
      · exact HU.out.2.2.2.1.alloc HU.out.2.2.2.1.size _
    have hgq : g ≠ w3.heap.size := by have := HU.out.2.2.2.2.2.1; omega
    have hg2 : w2.heap.size ≤ g := HU.out.2.2.2.2.1
    have hgc := HU.out.2.2.2.2.2.2.1
    have HU8 := Lib.hid HU.out.2.2.2.2.2.2.2
    have hv2 : ∃ v, digN (Y * e) = v := ⟨_, rfl⟩
    obtain ⟨v, hv⟩ := hv2
    have hVV : valL v = Y * e := by rw [← hv, val_digN]
    have hVD : Digs v := by rw [← hv]; exact (canon_digN _).1
    have hVL := HK.out.1.1
    obtain ⟨v1, hv1, hbig, -⟩ := HK.out.1.2
    have hVA := HV.out.1
    rw [hv] at hVL hv1 hVA
    obtain ⟨v0, hv0⟩ : ∃ v0, v[nb]? = some v0 := ⟨_, List.getElem?_eq_getElem (by omega)⟩
    have hv132 := dig_at hVD hv1
    have hv032 := dig_at hVD hv0
    have hV0 : 0 < valL v := by rw [hVV]; exact Nat.mul_pos hYp he0
    have HVV := Lib.hid (And.intro hVV (And.intro hVD (And.intro hVL (And.intro hv1 (And.intro hbig (And.intro hv0 (And.intro hVA hV0)))))))
    obtain ⟨gq, hgqe⟩ : ∃ gq, w3.heap.size = gq := ⟨_, rfl⟩
    rw [hgqe] at hst hgq ⊢
    have HST := Lib.hid hst
    have hbX : w.heap.size ≤ w2.heap.size := HV.out.2.1.size
    clear hst hv hVV hVD hVL hv1 hbig hv0 hVA hV0 hgqe hmk HU
    go_loopw [14] (fun s14 wr => ∃ (j : Nat) (U Q : List Nat), s14 = .int .i64 ((j : Int) - 1) ∧ j ≤ T ∧ Hid (QSt X Y e na (na + 1) g cu gq j U Q w2 wr)) (fun s14 _ => (intOf s14 + 1).toNat)
    case atStart => exact ⟨T, U0, _, rfl, Nat.le_refl _, HST.out⟩
    case round =>
      clear HST
      obtain ⟨j, U, Q, rfl, hj, HD⟩ := hrel
      rcases j with _ | j
      · have hU : DigsB wr wr.heap.size (some ⟨g, 0, none⟩) (nb + 2) (U.take (nb + 2)) := by
          obtain ⟨A', c', e', -, -, h3⟩ := HD.out.ou.reads
          injection e' with e1 e2 e3
          subst e1
          rw [HD.out.lu] at h3
          exact Arr.take h3 (by omega)
        have hlt := HD.out.lt
        have heq := HD.out.eq
        rw [List.drop_zero] at hlt
        rw [List.drop_zero, Nat.pow_zero, Nat.mul_one] at heq
        have htk : valL (U.take (nb + 2)) = valL U := by
          have h1 := val_take_drop U (nb + 2) (by rw [HD.out.lu]; omega)
          have h2 : valL (U.drop (nb + 2)) = 0 := by
            have h3 := upper_zero (u := 0 :: U) (j := 0) HVV.out.2.1 HVV.out.2.2.1 (by simp only [List.length_cons, HD.out.lu]; omega) (by simpa [HVV.out.1] using hlt)
            rw [show 0 + 1 + (nb + 2) = nb + 2 + 1 by omega, List.drop_succ_cons] at h3
            exact h3
          rw [h2, Nat.mul_zero, Nat.add_zero] at h1
          exact h1.symm
        obtain ⟨h1, h2, -⟩ := quo_end he0 heq hlt
        have hncu : (nb : Int) + 2 ≤ (cu : Int) := by omega
        have hcu0 : ¬ cu = 0 := by omega
        have hrt := shiftRight_any (some ⟨g, 0, none⟩) (nb + 2) cu (U.take (nb + 2)) k wr hU (by omega) (by omega) (by omega) HU8.out hk32
        rw [htk, ← HK.out.2, h2] at hrt
        have HR := Lib.hid (And.intro hrt h1)
        clear hU hlt heq htk h1 h2 hrt
        go_wp2_with fail
        refine HR.out.1.mono ?_
        rintro e' wz ⟨v20, r20, rfl, hr1, hr2, hr3, hr4⟩
        have hq := HD.out.oq.past hr4 (Nat.le_refl _)
        have HZ := Lib.hid (And.intro (OwnU.base hr1 (Nat.le_trans hbX HD.out.be.size)) (And.intro hr2 (And.intro hr3 (And.intro hr4 (OwnU.base hq hbX)))))
        clear hr1 hr2 hr3 hr4 hq
        go_wp2_with fail
        go_ret2
        exact ⟨_, Q, _, r20, rfl, HZ.out.2.2.2.2, HZ.out.1, HR.out.2, HZ.out.2.1, by rw [HD.out.lq]; exact Nat.le_refl _, by rw [HZ.out.2.2.1]; omega, HV.out.2.1.trans ((HD.out.be.trans (HZ.out.2.2.2.1.mono HD.out.be.size)).mono hbX)⟩
      · have hj1 : ((j + 1 : Nat) : Int) - 1 = (j : Int) := by omega
        rw [hj1]
        obtain ⟨u0, g0⟩ : ∃ x, U[j + (nb + 2)]? = some x := ⟨_, List.getElem?_eq_getElem (by have := HD.out.lu; have := HT.out; omega)⟩
        obtain ⟨u1, g1⟩ : ∃ x, U[j + (nb + 1)]? = some x := ⟨_, List.getElem?_eq_getElem (by have := HD.out.lu; have := HT.out; omega)⟩
        obtain ⟨u2, g2⟩ : ∃ x, U[j + nb]? = some x := ⟨_, List.getElem?_eq_getElem (by have := HD.out.lu; have := HT.out; omega)⟩
        have hlj : j + (nb + 3) ≤ U.length := by have := HD.out.lu; have := HT.out; omega
        have K := kn_of HD.out.du HVV.out.2.1 HVV.out.2.2.1 hlj HVV.out.2.2.2.1 HVV.out.2.2.2.2.2.1 g0 g1 g2 HVV.out.2.2.2.2.1 (by rw [HVV.out.1]; exact HD.out.lt)
        have hu0 := dig_at HD.out.du g0
        have hu1 := dig_at HD.out.du g1
        have hu2 := dig_at HD.out.du g2
        have c0 := HD.out.ou.cell g0
        have c1 := HD.out.ou.cell g1
        have c2' := HD.out.ou.cell g2
        obtain ⟨b9, off9, y9, hy9, e9, hb9, d1, -⟩ := digs_get HVV.out.2.2.2.2.2.2.1 (i := nb + 1) (by omega)
        obtain rfl : v1 = y9 := by have h := HVV.out.2.2.2.1; rw [hy9] at h; injection h with h; exact h.symm
        obtain ⟨b8, off8, y8, hy8, e8, -, d0, -⟩ := digs_get HVV.out.2.2.2.2.2.2.1 (i := nb) (by omega)
        obtain rfl : v0 = y8 := by have h := HVV.out.2.2.2.2.2.1; rw [hy8] at h; injection h with h; exact h.symm
        injection e9 with e9
        injection e9 with e9a e9b
        subst e9a e9b
        injection e8 with e8
        injection e8 with e8a e8b
        subst e8a e8b
        rw [Nat.zero_add] at d1 d0
        have d1r := (HD.out.be.cell (p := ⟨g9, nb + 1, none⟩) hb9).trans d1
        have d0r := (HD.out.be.cell (p := ⟨g9, nb, none⟩) hb9).trans d0
        have HKN := Lib.hid K
        have hjT : (j : Int) + (nb : Int) + 2 ≤ (na : Int) := by have := HT.out; omega
        clear K g0 g1 g2 hy9 hy8 d1 d0 hlj
        obtain ⟨top, htop⟩ : ∃ top, u0 * 4294967296 + u1 = top := ⟨_, rfl⟩
        have hor := or_hi hu0 hu1
        rw [htop] at hor
        have htI : top ≤ 18446744073709551615 := by omega
        rw [htop] at HKN
        obtain ⟨G0, hG0⟩ : ∃ G0, top / v1 = G0 := ⟨_, rfl⟩
        obtain ⟨r0, hr0⟩ : ∃ r0, top % v1 = r0 := ⟨_, rfl⟩
        have hv1p : 0 < v1 := by have := HKN.out.big; omega
        have hr0v : r0 < v1 := by rw [← hr0]; exact Nat.mod_lt _ hv1p
        have hG033 : G0 ≤ 8589934592 := by
          rw [← hG0]
          apply Nat.le_of_lt_succ
          rw [Nat.div_lt_iff_lt_mul hv1p]
          have h1 := HKN.out.big
          have h2 : (8589934592 + 1) * 2147483648 ≤ (8589934592 + 1) * v1 := Nat.mul_le_mul_left _ h1
          omega
        have hGI : (top : Int) / (v1 : Int) = (G0 : Int) := by rw [← hG0]; exact (Int.natCast_ediv top v1).symm
        have hrI : (top : Int) % (v1 : Int) = (r0 : Int) := by rw [← hr0]; exact (Int.natCast_emod top v1).symm
        have hvz : ((v1 : Int) == 0) = false := by rw [beq_eq_false_iff_ne]; omega
        have hst0 : G0 * v1 + r0 = top := by rw [← hG0, ← hr0, Nat.mul_comm]; exact Nat.div_add_mod top v1
        have HS0 := Lib.hid (And.intro hst0 (show valL (U.drop j) / valL v ≤ G0 by rw [← hG0]; exact HKN.out.start))
        clear htop hG0 hr0 hst0
        go_upto_region 19 with fail
        go_quiet (fail)
        go_upto_region 20 with fail
        go_quiet (fail)
        go_upto_block 6 with fail
        rw [hrI]
        rw [World.drewN_drewN]
        go_cut [16, 17] (fun s16 s17 wx => ∃ (G r q : Nat), s16 = .int .u64 (G : Int) ∧ s17 = .int .u64 (r : Int) ∧ G < 4294967296 ∧ wx = wr.drewN q ∧ Hid (valL (U.drop j) / valL v ≤ G ∧ G * valL v < valL (U.drop j) + valL v))
        case first =>
          go_wp2_with fail
          go_loopw [16, 17] (fun s16 s17 wq => ∃ (G r q : Nat), s16 = .int .u64 (G : Int) ∧ s17 = .int .u64 (r : Int) ∧ wq = wr.drewN q ∧ r < 4294967296 ∧ G ≤ 8589934592 ∧ Hid (G * v1 + r = top ∧ valL (U.drop j) / valL v ≤ G)) (fun s16 _ _ => (intOf s16).toNat)
          case atStart => exact ⟨G0, r0, _, rfl, rfl, rfl, by omega, hG033, HS0.out⟩
          case round =>
            clear HS0
            obtain ⟨G, r, q, rfl, rfl, rfl, hr, hG, HG⟩ := hrel
            by_cases hbig : 4294967296 ≤ G
            · obtain ⟨Gd, hGd⟩ : ∃ Gd, G / 4294967296 = Gd := ⟨_, rfl⟩
              have hGdI : (G : Int) / 4294967296 = (Gd : Int) := by omega
              have hGd0 : ¬ (Gd : Int) = 0 := by omega
              have hGdN : ¬ Gd = 0 := by omega
              have hGdb : ((Gd : Int) == 0) = false := by rw [beq_eq_false_iff_ne]; exact hGd0
              clear hGd
              have hnx := HKN.out.next HG.out.1 HG.out.2 (.inl hbig)
              have hG1 : 1 ≤ G := Nat.le_trans (Nat.le_add_left 1 _) hnx
              obtain ⟨G1, hGG⟩ : ∃ G1, G1 + 1 = G := ⟨G - 1, by omega⟩
              have hg1 : G1 * v1 + (r + v1) = top := by have := HG.out.1; rw [← hGG, Nat.add_mul, Nat.one_mul] at this; omega
              have hGI : (G : Int) - 1 = (G1 : Int) := by omega
              have hle1 : valL (U.drop j) / valL v ≤ G1 := by omega
              have HG1 := Lib.hid (And.intro hg1 (And.intro hle1 hGG))
              clear hnx hg1 hle1 HG hG1 hGG
              by_cases hbr : 4294967296 ≤ r + v1
              · have hbrI : ((r : Int) + (v1 : Int)) / 4294967296 = 1 := by omega
                go_upto_region 21 with fail
                go_quiet (fail)
                go_wp2_with fail
                go_meet
                have hs := HKN.out.stop HG1.out.1 (.inr hbr)
                exact ⟨G1, r + v1, _, rfl, by simp, hs.1, rfl, HG1.out.2.1, hs.2⟩
              · have hbrI : ((r : Int) + (v1 : Int)) / 4294967296 = 0 := by omega
                go_upto_region 21 with fail
                go_quiet (fail)
                go_wp2_with fail
                go_roundw
                case rel => exact ⟨G1, r + v1, _, rfl, by simp, rfl, by omega, by have := HG1.out.2.2; omega, HG1.out.1, HG1.out.2.1⟩
                case measure => have := HG1.out.2.2; simp only [intOf]; omega
            · have hGB : G < 4294967296 := by omega
              have hGdI : (G : Int) / 4294967296 = 0 := by omega
              obtain ⟨p, hp⟩ : ∃ p, G * v0 = p := ⟨_, rfl⟩
              have hpI : (G : Int) * (v0 : Int) = (p : Int) := by rw [← hp, Int.natCast_mul]
              have hpl : p ≤ 18446744065119617025 := by
                have := (mul_cast_le hGB hv032).2
                rw [hpI] at this
                omega
              obtain ⟨z, hz⟩ : ∃ z, r * 4294967296 + u2 = z := ⟨_, rfl⟩
              have hzI := or_hi hr hu2
              rw [hz] at hzI
              have HPZ := Lib.hid (And.intro hp hz)
              have hc22 : wr.cell? ⟨g, j + (nb + 2) - 2, none⟩ = some (.int .u32 (u2 : Int)) := by rw [show j + (nb + 2) - 2 = j + nb by omega]; exact c2'
              clear hp hz
              by_cases hc : z < p
              · have hcI : (z : Int) < (p : Int) := by omega
                have hnx := HKN.out.next HG.out.1 HG.out.2 (.inr (by rw [HPZ.out.1, HPZ.out.2]; exact hc))
                have hG1 : 1 ≤ G := Nat.le_trans (Nat.le_add_left 1 _) hnx
                obtain ⟨G1, hGG⟩ : ∃ G1, G1 + 1 = G := ⟨G - 1, by omega⟩
                have hg1 : G1 * v1 + (r + v1) = top := by have := HG.out.1; rw [← hGG, Nat.add_mul, Nat.one_mul] at this; omega
                have hGI : (G : Int) - 1 = (G1 : Int) := by omega
                have hle1 : valL (U.drop j) / valL v ≤ G1 := by omega
                have HG1 := Lib.hid (And.intro hg1 (And.intro hle1 hGG))
                clear hnx hg1 hle1 HG hG1 hGG
                by_cases hbr : 4294967296 ≤ r + v1
                · have hbrI : ((r : Int) + (v1 : Int)) / 4294967296 = 1 := by omega
                  go_upto_region 21 with fail
                  go_quiet (fail)
                  go_wp2_with fail
                  go_meet
                  have hs := HKN.out.stop HG1.out.1 (.inr hbr)
                  exact ⟨G1, r + v1, _, rfl, by simp, hs.1, rfl, HG1.out.2.1, hs.2⟩
                · have hbrI : ((r : Int) + (v1 : Int)) / 4294967296 = 0 := by omega
                  go_upto_region 21 with fail
                  go_quiet (fail)
                  go_wp2_with fail
                  go_roundw
                  case rel => exact ⟨G1, r + v1, _, rfl, by simp, rfl, by omega, by have := HG1.out.2.2; omega, HG1.out.1, HG1.out.2.1⟩
                  case measure => have := HG1.out.2.2; simp only [intOf]; omega
              · have hcI : ¬ (z : Int) < (p : Int) := by omega
                go_upto_region 21 with fail
                go_quiet (fail)
                go_wp2_with fail
                go_meet
                have hs := HKN.out.stop HG.out.1 (.inl ⟨hGB, by rw [HPZ.out.1, HPZ.out.2]; omega⟩)
                exact ⟨G, r, _, rfl, rfl, hs.1, rfl, HG.out.2, hs.2⟩
        case rest =>
          obtain ⟨G, r, q, rfl, rfl, hGB, rfl, HGV⟩ := hcut
          have HD2 := Lib.hid (HD.out.drewN q)
          clear hor hGI hrI hvz HS0 c0 c1 c2' d1r d0r hr0v hG033 HD htI hu0 hu1 hu2
          generalize wr.drewN q = Wd at HD2 ⊢
          have hjn : (j : Int) + ((nb : Int) + 2) + 1 ≤ (cu : Int) := by omega
          have hVarr : Arr AtU 1 Wd (fun x => x ≠ g ∧ x < Wd.heap.size) (some ⟨g9, 0, none⟩) (nb + 2) v := by
            have h1 := HVV.out.2.2.2.2.2.2.1.below stays_u HD2.out.be (Nat.le_refl _)
            have h2 := HD2.out.be.size
            exact Arr.keep stays_u h1 (fun x hx => ⟨by omega, by omega⟩) (fun _ _ _ => rfl)
          have hU3 : j + (nb + 3) ≤ U.length := by have := HD2.out.lu; have := HT.out; omega
          have HVA := Lib.hid hVarr
          have HU3 := Lib.hid hU3
          clear hVarr hU3
          go_wp2_with fail
          go_loopw [18, 19, 174] (fun s18 s19 s174 wq => ∃ (i p o : Nat) (out : List Nat), s174 = .int .i64 (i : Int) ∧ s18 = .int .u64 (p : Int) ∧ s19 = .int .u64 (o : Int) ∧ i ≤ nb + 2 ∧ p < 4294967296 ∧ o ≤ 1 ∧ Hid (out.length = i ∧ Digs out ∧ valL out + G * valL (v.take i) = valL (((U.drop j).take (nb + 3)).take i) + 4294967296 ^ i * (p + o) ∧ OwnU wq w2.heap.size (.slice (some ⟨g, 0, none⟩) (na + 1) cu) (U.take j ++ out ++ U.drop (j + i)) ∧ Wd.grownBy wq (some g))) (fun _ _ s174 _ => nb + 2 - (intOf s174).toNat)
          case atStart => exact ⟨0, 0, 0, [], rfl, rfl, rfl, by omega, by omega, by omega, rfl, Digs.nil_, by simp [valL], by simpa using HD2.out.ou, only_refl Wd (some g)⟩
          case round =>
            obtain ⟨i, p, o, out, rfl, rfl, rfl, hi, hp, ho, HF⟩ := hrel
            by_cases hil : i < nb + 2
            · have hilI : (i : Int) < (nb : Int) + 2 := by omega
              have hjiI : (j : Int) + (i : Int) < (na : Int) + 1 := by omega
              have hjU : j + i < U.length := by have := HU3.out; omega
              obtain ⟨x, hx⟩ : ∃ x, U[j + i]? = some x := ⟨_, List.getElem?_eq_getElem hjU⟩
              have hx2 : (U.take j ++ out ++ U.drop (j + i))[j + i]? = some x := (window_get HF.out.1 hjU).trans hx
              have hx32 := dig_at HD2.out.du hx
              have hcell := HF.out.2.2.2.1.cell hx2
              have hfr := HF.out.2.2.2.1.unfrozen (j + i)
              have hx3 : ((U.drop j).take (nb + 3))[i]? = some x := by rw [List.getElem?_take, if_pos (by omega), List.getElem?_drop]; exact hx
              obtain ⟨b2, off2, hlt2, eb, ⟨hb2, hb2s⟩, hcell20, hy32⟩ := Arr.get HVA.out hil
              have hy : v[i]? = some v[i] := List.getElem?_eq_getElem hlt2
              rw [Nat.mul_one] at hcell20
              generalize v[i] = y at hy hcell20 hy32
              injection eb with eb
              injection eb with eba ebb
              subst eba ebb
              have hcell2 := (only_cell HF.out.2.2.2.2 hb2s (by simpa using (Ne.symm hb2))).trans hcell20
              rw [Nat.zero_add] at hcell2
              obtain ⟨qq, hqq⟩ : ∃ qq, G * y = qq := ⟨_, rfl⟩
              have hqI : (G : Int) * (y : Int) = (qq : Int) := by rw [← hqq, Int.natCast_mul]
              have hqm := (mul_cast_le hGB hy32).2
              rw [hqI] at hqm
              obtain ⟨lo, hlo⟩ : ∃ lo, (p + qq) % 4294967296 = lo := ⟨_, rfl⟩
              obtain ⟨hi2, hhi⟩ : ∃ hi2, (p + qq) / 4294967296 = hi2 := ⟨_, rfl⟩
              have hloI : ((p : Int) + (qq : Int)) % 4294967296 = (lo : Int) := by omega
              have hhiI : ((p : Int) + (qq : Int)) / 4294967296 = (hi2 : Int) := by omega
              have hlo32 : lo < 4294967296 := by omega
              have hhi32 : hi2 < 4294967296 := by omega
              obtain ⟨d, o2, hd32, ho2, hdo, hd, hod⟩ := sub_digit (m := lo) hx32 hlo32 ho
              have hr := off_round (c := p) (g := G) (t := y) HF.out.1 HF.out.2.2.1 hx3 (.inl hy) (d := d) (o' := o2) (by rw [hqq, hlo]; exact hdo)
              rw [hqq, hhi] at hr
              have HR := Lib.hid (And.intro hr (And.intro hjU (And.intro hd hod)))
              clear hcell20 hy hlt2 hx hx2 hx3 hr hqq hlo hhi hdo hjU hd hod
              go_wp2_with fail
              rw [HR.out.2.2.1, HR.out.2.2.2]
              go_roundw
              case rel => exact ⟨i + 1, hi2, o2, out ++ [d], by go_num, rfl, rfl, by omega, by omega, ho2, by rw [List.length_append, HF.out.1]; rfl, digs_snoc HF.out.2.1 hd32, HR.out.1, by
                have h1 := HF.out.2.2.2.1.put (by rw [window_len HF.out.1 (Nat.le_of_lt HR.out.2.1)]; exact HD2.out.lu.symm) (j + i) hd32
                rwa [window_set HF.out.1 HR.out.2.1] at h1, only_setCell HF.out.2.2.2.2 (.inl rfl) _⟩
              case measure => simp only [intOf]; omega
            · have hin : i = nb + 2 := by omega
              have hiI : ¬ (i : Int) < (nb : Int) + 2 := by omega
              have hjnI : (j : Int) + ((nb : Int) + 2) < (na : Int) + 1 := by omega
              have hjU : j + (nb + 2) < U.length := by have := HU3.out; omega
              obtain ⟨x, hx⟩ : ∃ x, U[j + (nb + 2)]? = some x := ⟨_, List.getElem?_eq_getElem hjU⟩
              have hx2 : (U.take j ++ out ++ U.drop (j + i))[j + (nb + 2)]? = some x := by rw [hin]; exact (window_get (by rw [HF.out.1, hin]) hjU).trans hx
              have hx32 := dig_at HD2.out.du hx
              have hcell := HF.out.2.2.2.1.cell hx2
              have hfr := HF.out.2.2.2.1.unfrozen (j + (nb + 2))
              have hx3 : ((U.drop j).take (nb + 3))[nb + 2]? = some x := by rw [List.getElem?_take, if_pos (by omega), List.getElem?_drop]; exact hx
              obtain ⟨d, o2, hd32, ho2, hdo, hd, hod⟩ := sub_digit (m := p) hx32 hp ho
              have hr := off_round (c := p) (g := G) (t := 0) (by rw [HF.out.1, hin]) (by have := HF.out.2.2.1; rwa [hin] at this) hx3 (.inr ⟨by rw [HVV.out.2.2.1]; exact Nat.le_refl _, rfl⟩) (d := d) (o' := o2) (by rw [Nat.mul_zero, Nat.add_zero, Nat.mod_eq_of_lt hp]; exact hdo)
              simp only [Nat.mul_zero, Nat.add_zero] at hr
              rw [Nat.div_eq_of_lt hp, Nat.zero_add, List.take_of_length_le (l := v) (by rw [HVV.out.2.2.1]; omega), List.take_take, Nat.min_self] at hr
              have hown := HF.out.2.2.2.1.put (by rw [window_len HF.out.1 (by omega)]; exact HD2.out.lu.symm) (j + (nb + 2)) hd32
              have hset : (U.take j ++ out ++ U.drop (j + i)).set (j + (nb + 2)) d = U.take j ++ (out ++ [d]) ++ U.drop (j + (nb + 3)) := by
                rw [hin]; exact window_set (by rw [HF.out.1, hin]) hjU
              rw [hset] at hown
              have hol0 : (out ++ [d]).length = nb + 3 := by rw [List.length_append, HF.out.1, hin]; rfl
              have HX0 := Lib.hid (And.intro hown (And.intro hr (And.intro hol0 (And.intro (digs_snoc HF.out.2.1 hd32) (And.intro (And.intro hd hod) (one_only HF.out.2.2.2.2 (j + (nb + 2)) (.int .u32 (d : Int))))))))
              have HIN := Lib.hid hin
              clear hx hx2 hx3 hr hown hset hol0 hd hod hdo hin hjU
              go_upto_region 37 with fail
              rw [HX0.out.2.2.2.2.1.1]
              obtain ⟨wd, hwd⟩ : ∃ wd, IntKind.u64.wrap (IntKind.u64.wrap ((x : Int) - (p : Int)) - (o : Int)) = wd := ⟨_, rfl⟩
              have HWD0 := HX0.out.2.2.2.2.1.2
              rw [hwd] at HWD0 ⊢
              have HWD := Lib.hid HWD0
              obtain ⟨Ws, hWs⟩ : ∃ Ws, Ws = wr.setCell ⟨g, j + (nb + 2), none⟩ (.int .u32 (d : Int)) := ⟨_, rfl⟩
              have how := HX0.out.1
              have hov := HX0.out.2.1
              have hol := HX0.out.2.2.1
              have hod := HX0.out.2.2.2.1
              have hog := HX0.out.2.2.2.2.2
              rw [← hWs] at how hog ⊢
              have hU3 := HU3.out
              clear HX0 HWD0 hwd hWs hcell hfr HIN hiI
              generalize out ++ [d] = out at how hov hol hod
              generalize o2 = o at ho2 hov HWD
              have hz := upper_zero (u := U) (j := j) HVV.out.2.1 HVV.out.2.2.1 (by omega) (by rw [HVV.out.1]; exact HD2.out.lt)
              rw [show j + 1 + (nb + 2) = j + (nb + 3) by omega] at hz
              have hwv := win_val hU3 hz
              have hlo := val_lt hod
              rw [hol] at hlo
              have hcase := sub_cases (B := 4294967296 ^ (nb + 3)) HKN.out HGV.out.1 HGV.out.2 (by rw [← hwv]; exact hov) hlo ho2
              have hwhole := sub_whole hol hU3 hov
              have hoq : OwnU Ws w2.heap.size (.slice (some ⟨gq, 0, none⟩) (na + 1) (na + 1)) Q := OwnV.kept tells_u HD2.out.oq hog (.inr (own_ne (Ne.symm hgq))) (fun _ hb => False.elim hb)
              have hbe : Below w2.heap.size w2 Ws := below_then HD2.out.be hog HD2.out.be.size (fun x hx => by injection hx with hx; omega)
              have hSl : (U.take j ++ out ++ U.drop (j + (nb + 3))).length = na + 1 := by rw [window_len hol hU3]; exact HD2.out.lu
              have hSd : Digs (U.take j ++ out ++ U.drop (j + (nb + 3))) := how.digs
              obtain ⟨qj, hqj⟩ : ∃ x, Q[j]? = some x := ⟨_, List.getElem?_eq_getElem (by have := HD2.out.lq; omega)⟩
              have cq := hoq.cell hqj
              have fq := hoq.unfrozen j
              have hjTI : (j : Int) < (na : Int) + 1 := by omega
              have HW := Lib.hid (And.intro how (And.intro hoq (And.intro hbe (And.intro hSl (And.intro hSd (And.intro hwhole (And.intro hU3 (And.intro hol (And.intro hod hov)))))))))
              clear how hoq hbe hSl hSd hwhole hz hwv hlo hov hog hqj
              rcases hcase with ⟨rfl, hGe⟩ | ⟨rfl, hGe⟩
              · have HGE := Lib.hid hGe
                have hw63 : wd / 9223372036854775808 = 0 := by have := HWD.out; omega
                clear hGe cq fq
                obtain ⟨qj, hqj⟩ : ∃ x, Q[j]? = some x := ⟨_, List.getElem?_eq_getElem (by have := HD2.out.lq; omega)⟩
                have cq := HW.out.2.1.cell hqj
                have fq := HW.out.2.1.unfrozen j
                clear hqj
                go_wp2_with fail
                go_roundw
                case rel =>
                  have hre := round_end (n := nb + 2) (X0 := X * e) (t := G) HD2.out.du HW.out.2.2.2.2.1 (by rw [HW.out.2.2.2.1]; exact HD2.out.lu.symm) (by have := HW.out.2.2.2.2.2.2.1; omega) HVV.out.2.2.2.2.2.2.2 HGE.out (by rw [HVV.out.1]; exact HD2.out.eq) (by have := HD2.out.lq; omega) (by have := HW.out.2.2.2.2.2.1; rw [Nat.mul_zero, Nat.add_zero] at this; exact this)
                  rw [HVV.out.1] at hre
                  exact ⟨j, _, Q.set j G, rfl, by omega, ⟨HW.out.2.2.2.1, HW.out.2.2.2.2.1, by rw [List.length_set]; exact HD2.out.lq, HD2.out.dq.set _ hGB, hre.1, hre.2,
                    OwnV.kept tells_u HW.out.1 (only_setCell (only_refl Ws (some gq)) (.inl rfl) _) (.inr (own_ne hgq)) (fun _ hb => False.elim hb), HW.out.2.1.put HD2.out.lq.symm j hGB, HW.out.2.2.1.setCell (by show w2.heap.size ≤ gq; exact (HD2.out.oq.lt gq rfl).1) _⟩⟩
                case measure => simp only [intOf]; omega
              · obtain ⟨G1, hG1⟩ : ∃ G1, valL (U.drop j) / valL v = G1 := ⟨_, rfl⟩
                rw [hG1] at hGe
                have hGI : (G : Int) - 1 = (G1 : Int) := by omega
                have hG1B : G1 < 4294967296 := by omega
                have hw63 : wd / 9223372036854775808 = 1 := by have := HWD.out; omega
                have HGE := Lib.hid (And.intro hGe hG1)
                clear hGe hG1 cq fq
                obtain ⟨S, hS⟩ : ∃ S, U.take j ++ out ++ U.drop (j + (nb + 3)) = S := ⟨_, rfl⟩
                rw [hS] at HW
                have HS := Lib.hid hS
                clear hS
                have hjn3 : j + (nb + 2) < na + 1 := by have := HT.out; omega
                go_wp2_with fail
                go_loopw [18, 235] (fun s18 s235 wq => ∃ (i p : Nat) (o2 : List Nat), s235 = .int .i64 (i : Int) ∧ s18 = .int .u64 (p : Int) ∧ i ≤ nb + 2 ∧ p ≤ 1 ∧ Hid (o2.length = i ∧ Digs o2 ∧ valL o2 + 4294967296 ^ i * p = valL ((S.drop j).take i) + valL (v.take i) ∧ OwnU wq w2.heap.size (.slice (some ⟨g, 0, none⟩) (na + 1) cu) (S.take j ++ o2 ++ S.drop (j + i)) ∧ Ws.grownBy wq (some g))) (fun _ s235 _ => nb + 2 - (intOf s235).toNat)
                case atStart => exact ⟨0, 0, [], rfl, rfl, by omega, by omega, rfl, Digs.nil_, by simp [valL], by simpa using HW.out.1, only_refl Ws (some g)⟩
                case round =>
                  obtain ⟨i, p, o2, rfl, rfl, hi, hp, HE⟩ := hrel
                  by_cases hil : i < nb + 2
                  · have hilI : (i : Int) < (nb : Int) + 2 := by omega
                    have hji : j + i < S.length := by rw [HW.out.2.2.2.1]; omega
                    obtain ⟨z, hz⟩ : ∃ z, S[j + i]? = some z := ⟨_, List.getElem?_eq_getElem hji⟩
                    have hz2 : (S.take j ++ o2 ++ S.drop (j + i))[j + i]? = some z := (window_get HE.out.1 hji).trans hz
                    have hz32 := dig_at HW.out.2.2.2.2.1 hz
                    have hcz := HE.out.2.2.2.1.cell hz2
                    have hfz := HE.out.2.2.2.1.unfrozen (j + i)
                    obtain ⟨b7, off7, y, hy, e7, -, hy1, hy32⟩ := digs_get HVV.out.2.2.2.2.2.2.1 (i := i) hil
                    injection e7 with e7
                    injection e7 with e7a e7b
                    subst e7a e7b
                    rw [Nat.zero_add] at hy1
                    have hy2 : Wd.cell? ⟨g9, i, none⟩ = some (.int .u32 (y : Int)) := (HD2.out.be.cell (p := ⟨g9, i, none⟩) hb9).trans hy1
                    have hy3 : Ws.cell? ⟨g9, i, none⟩ = some (.int .u32 (y : Int)) := (HW.out.2.2.1.cell (p := ⟨g9, i, none⟩) hb9).trans hy1
                    have hcy : wr.cell? ⟨g9, i, none⟩ = some (.int .u32 (y : Int)) := (only_cell HE.out.2.2.2.2 (Nat.lt_of_lt_of_le hb9 HW.out.2.2.1.size) (by simp; omega)).trans hy3
                    have hr := plus_round (c := p) (x := z) (t := y) HE.out.1 HE.out.2.2.1 (by rw [List.getElem?_drop]; exact hz) (.inl hy)
                    have HR := Lib.hid (And.intro hr hji)
                    clear hr hji hz hz2 hy hy1 hy2 hy3
                    have hjiI : (j : Int) + (i : Int) < (na : Int) + 1 := by omega
                    go_wp2_with fail
                    have e1 : ((p : Int) + ((z : Int) + (y : Int))) % 4294967296 = (((p + z + y) % 4294967296 : Nat) : Int) := by omega
                    have e2 : ((p : Int) + ((z : Int) + (y : Int))) / 4294967296 = (((p + z + y) / 4294967296 : Nat) : Int) := by omega
                    rw [e1, e2]
                    have hd : (p + z + y) % 4294967296 < 4294967296 := Nat.mod_lt _ (by omega)
                    clear e1 e2
                    go_roundw
                    case rel => exact ⟨i + 1, _, o2 ++ [(p + z + y) % 4294967296], by go_num, rfl, by omega, by omega, by rw [List.length_append, HE.out.1]; rfl, digs_snoc HE.out.2.1 hd, HR.out.1, by
                      have h1 := HE.out.2.2.2.1.put (by rw [window_len HE.out.1 (Nat.le_of_lt HR.out.2)]; exact HW.out.2.2.2.1.symm) (j + i) hd
                      rwa [window_set HE.out.1 HR.out.2] at h1, only_setCell HE.out.2.2.2.2 (.inl rfl) _⟩
                    case measure => simp only [intOf]; omega
                  · have hin : i = nb + 2 := by omega
                    have HIN := Lib.hid hin
                    have hiI : ¬ (i : Int) < (nb : Int) + 2 := by omega
                    have hjS : j + (nb + 2) < S.length := by rw [HW.out.2.2.2.1]; exact hjn3
                    obtain ⟨t, ht⟩ : ∃ t, S[j + (nb + 2)]? = some t := ⟨_, List.getElem?_eq_getElem hjS⟩
                    have ht2 : (S.take j ++ o2 ++ S.drop (j + i))[j + (nb + 2)]? = some t := by
                      rw [hin, window_get (by rw [HE.out.1, hin]) hjS]; exact ht
                    have hct := HE.out.2.2.2.1.cell ht2
                    have hft := HE.out.2.2.2.1.unfrozen (j + (nb + 2))
                    have ht32 := dig_at HW.out.2.2.2.2.1 ht
                    obtain ⟨t1, ht1⟩ : ∃ t1, (t + p) % 4294967296 = t1 := ⟨_, rfl⟩
                    obtain ⟨t2, ht2'⟩ : ∃ t2, (t + p) / 4294967296 = t2 := ⟨_, rfl⟩
                    have ht132 : t1 < 4294967296 := by omega
                    have htt : t1 + 4294967296 * t2 = t + p := by omega
                    have htI : ((t : Int) + (p : Int)) % 4294967296 = (t1 : Int) := by omega
                    have hpm : (p : Int) % 4294967296 = (p : Int) := by omega
                    have hjnI : (j : Int) + ((nb : Int) + 2) < (na : Int) + 1 := by omega
                    have hu1 := HE.out.2.2.2.1.put (by rw [window_len HE.out.1 (by omega)]; exact HW.out.2.2.2.1.symm) (j + (nb + 2)) ht132
                    have hu2 : (S.take j ++ o2 ++ S.drop (j + i)).set (j + (nb + 2)) t1 = S.take j ++ (o2 ++ [t1]) ++ S.drop (j + (nb + 3)) := by
                      rw [hin]; exact window_set (by rw [HE.out.1, hin]) hjS
                    rw [hu2] at hu1
                    have hba := back_all (n := nb + 2) (out := out) (out2 := o2) (c := p) (t' := t1) (c2 := t2) (t := t) (G := G) (q := G1) HD2.out.du HVV.out.2.1 HVV.out.2.2.1 (by rw [HVV.out.1]; exact HD2.out.lt) HW.out.2.2.2.2.2.2.1 HW.out.2.2.2.2.2.2.2.1 (by rw [HE.out.1, hin]) HE.out.2.1 ht132
                      (by rw [HS.out]; exact HW.out.2.2.2.2.2.1) HW.out.2.2.2.2.2.2.2.2.1 (by
                        rw [HS.out]
                        have h1 := HE.out.2.2.1
                        rwa [hin, List.take_of_length_le (l := v) (by rw [HVV.out.2.2.1]; exact Nat.le_refl _)] at h1) (by rw [HS.out, List.getElem?_drop]; exact ht) htt HGE.out.1 HGE.out.2.symm
                    rw [HS.out] at hba
                    have hul : (S.take j ++ (o2 ++ [t1]) ++ S.drop (j + (nb + 3))).length = na + 1 := by
                      rw [window_len (by rw [List.length_append, HE.out.1, hin]; rfl) (by omega)]; exact HW.out.2.2.2.1
                    generalize S.take j ++ (o2 ++ [t1]) ++ S.drop (j + (nb + 3)) = U2 at hba hu1 hul
                    obtain ⟨Y1, hY1⟩ : ∃ Y1, Y1 = wr.setCell ⟨g, j + (nb + 2), none⟩ (.int .u32 (t1 : Int)) := ⟨_, rfl⟩
                    rw [← hY1] at hu1
                    have hyg : Ws.grownBy Y1 (some g) := by rw [hY1]; exact only_setCell HE.out.2.2.2.2 (.inl rfl) _
                    have hyq : OwnU Y1 w2.heap.size (.slice (some ⟨gq, 0, none⟩) (na + 1) (na + 1)) Q := OwnV.kept tells_u HW.out.2.1 hyg (.inr (own_ne (Ne.symm hgq))) (fun _ hb => False.elim hb)
                    have hyb : Below w2.heap.size w2 Y1 := below_then HW.out.2.2.1 hyg HW.out.2.2.1.size (fun x hx => by injection hx with hx; omega)
                    obtain ⟨qj, hqj⟩ : ∃ x, Q[j]? = some x := ⟨_, List.getElem?_eq_getElem (by have := HD2.out.lq; omega)⟩
                    have cq := hyq.cell hqj
                    have fq := hyq.unfrozen j
                    have HY1 := Lib.hid (And.intro hu1 (And.intro hyq (And.intro hyb (And.intro hba hul))))
                    clear ht ht2 ht1 ht2' hu1 hu2 hba hul hyg hyq hyb hqj hin
                    go_upto_region 48 with fail
                    rw [← hY1]
                    clear hct hft hY1
                    go_wp2_with fail
                    go_roundw
                    case rel =>
                      have hre := round_end (n := nb + 2) (X0 := X * e) (t := G1) HD2.out.du HY1.out.2.2.2.1.1 (by rw [HY1.out.2.2.2.2]; exact HD2.out.lu.symm) (by have := HW.out.2.2.2.2.2.2.1; omega) HVV.out.2.2.2.2.2.2.2 HGE.out.2.symm (by rw [HVV.out.1]; exact HD2.out.eq) (by have := HD2.out.lq; omega) HY1.out.2.2.2.1.2
                      rw [HVV.out.1] at hre
                      exact ⟨j, _, Q.set j G1, rfl, by omega, ⟨HY1.out.2.2.2.2, HY1.out.2.2.2.1.1, by rw [List.length_set]; exact HD2.out.lq, HD2.out.dq.set _ hG1B, hre.1, hre.2,
                        OwnV.kept tells_u HY1.out.1 (only_setCell (only_refl Y1 (some gq)) (.inl rfl) _) (.inr (own_ne hgq)) (fun _ hb => False.elim hb), HY1.out.2.1.put HD2.out.lq.symm j hG1B, HY1.out.2.2.1.setCell (by show w2.heap.size ≤ gq; exact (HD2.out.oq.lt gq rfl).1) _⟩⟩
                    case measure => simp only [intOf]; omega
end Go.Proofs.YtkkpfdfoojcljaaGreat
namespace Go.Proofs.YtkkpfdfoojcljaaGreat
open Go.RowKit

theorem parts_spec : PartsSpec := fun A n c l A2 n2 c2 m w h h2 hn hn2 _ _ _ _ ca cb hp hle => by
  have hl2 := h2.len
  match n2, m, hl2 with
  | 0, [], _ => simp [valL] at hp
  | 1, [d], _ =>
    have e : valL [d] = d := by simp [valL]
    rw [e] at hp ⊢
    exact parts_one A n c l A2 c2 d w h h2 hn hp
  | nb + 2, m, _ => exact parts_many A n c l A2 nb c2 m w h h2 hn hn2 ca cb hle
end Go.Proofs.YtkkpfdfoojcljaaGreat
