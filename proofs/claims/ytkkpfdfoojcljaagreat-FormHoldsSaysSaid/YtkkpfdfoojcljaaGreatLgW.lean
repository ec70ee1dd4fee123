/- Walk: package long's quotient: the two short ways. -/
import Derived.Test.YtkkpfdfoojcljaaGreatLgSU
import Derived.Test.YtkkpfdfoojcljaaGreatLgAV
import Derived.Deep.CutBlock
namespace Go.Proofs.YtkkpfdfoojcljaaGreat
open Go.RowKit

def QuoP (X Y L : Nat) (w : World) (e : Ending) (w' : World) : Prop := ∃ (v1 v2 : Value) (q r : List Nat), e = .returned (.tuple #[v1, v2]) ∧ Got w' v1 q ∧ Got w' v2 r ∧ valL q = X / Y ∧ valL r = X % Y ∧ q.length ≤ L ∧ r.length ≤ L ∧ Below w.heap.size w w'
/-- long division in memory: j digits of the quotient are still to come -/
structure QSt (X Y e na T g cu gq : Nat) (j : Nat) (U Q : List Nat) (W wr : World) : Prop where
  lu : U.length = na + 1
  du : Digs U
  lq : Q.length = T
  dq : Digs Q
  eq : X * e = valL (Q.drop j) * 4294967296 ^ j * (Y * e) + valL U
  lt : valL (U.drop j) < Y * e
  ou : OwnU wr W.heap.size (.slice (some ⟨g, 0, none⟩) (na + 1) cu) U
  oq : OwnU wr W.heap.size (.slice (some ⟨gq, 0, none⟩) T T) Q
  be : Below W.heap.size W wr
theorem own_ne {g g' n c : Nat} (h : g ≠ g') : (Value.slice (some ⟨g, 0, none⟩) n c).ownBlock ≠ some g' := fun e => h (by injection e)
theorem OwnU.drewN {w : World} {B : Nat} {v : Value} {l : List Nat} (h : OwnU w B v l) (k : Nat) : OwnU (w.drewN k) B v l := by
  obtain ⟨cells, h1, h2⟩ := h
  exact ⟨cells, h1, Cels.keep (w := w) (w' := w.drewN k) tells_u (fun _ hb => hb) (fun _ _ _ => rfl) _ _ h2⟩
theorem QSt.drewN {X Y e na T g cu gq j : Nat} {U Q : List Nat} {W wr : World} (h : QSt X Y e na T g cu gq j U Q W wr) (k : Nat) : QSt X Y e na T g cu gq j U Q W (wr.drewN k) :=
  ⟨h.lu, h.du, h.lq, h.dq, h.eq, h.lt, OwnU.drewN h.ou k, OwnU.drewN h.oq k, below_drewN h.be k⟩
theorem OwnU.base {w : World} {B B' : Nat} {v : Value} {l : List Nat} (h : OwnU w B v l) (hB : B' ≤ B) : OwnU w B' v l := by
  obtain ⟨cells, ho, hc⟩ := h
  refine ⟨cells, ⟨ho.1, ?_⟩, hc⟩
  rcases ho.2 with h1 | ⟨g, cap, cur, e, hb, rest⟩
  · exact .inl h1
  · exact .inr ⟨g, cap, cur, e, Nat.le_trans hB hb, rest⟩
theorem got_nil (W : World) : Got W (.slice none 0 0) [] := ⟨none, 0, rfl, Nat.le_refl _, by simp [maxLen], Arr.nil_⟩
theorem got_one {W : World} {g x : Nat} {t : TypeId} (h : Blk W g t #[.int .u32 (x : Int)]) (hx : x < 4294967296) : Got W (.slice (some ⟨g, 0, none⟩) 1 1) [x] :=
  ⟨_, 1, rfl, Nat.le_refl _, by simp [maxLen], row_one (S := fun b => b < W.heap.size) tells_u atV_u h ⟨rfl, hx⟩ h.lt⟩
theorem trim_got {w : World} {A : Option Addr} {n : Nat} {l : List Nat} (h : DigsB w w.heap.size A n l) (ht : l.take (digN (valL l)).length = digN (valL l)) (hk : (digN (valL l)).length ≤ l.length) : DigsB w w.heap.size A (digN (valL l)).length (digN (valL l)) := by
  have := Arr.take h (k := (digN (valL l)).length) (by rw [← h.len]; exact hk)
  rwa [ht] at this
set_option maxRecDepth 100000 in
set_option maxHeartbeats 4000000 in
theorem quotient_any (A : Option Addr) (n c : Nat) (l : List Nat) (A2 : Option Addr) (n2 c2 : Nat) (m : List Nat) (w : World) (h : DigsB w w.heap.size A n l) (h2 : DigsB w w.heap.size A2 n2 m) (hn : n ≤ 50000) (hn2 : n2 ≤ 50000) (hnc : n ≤ c) (hcm : c ≤ maxLen) (hnc2 : n2 ≤ c2) (hcm2 : c2 ≤ maxLen) (hpos : 0 < valL m) :
    Calls Tryz.prog 106 #[.slice A n c, .slice A2 n2 c2] w (QuoP (valL l) (valL m) (n + n2 + 1) w) := by
  have hln := h.len
  have hln2 := h2.len
  go_enter Tryz.func106, Tryz.ntmps106
  go_upto_region 2 with (first
    | (go_at_call 103
       with_reducible refine (trim_any A n c l w w.heap.size h hnc hcm).mono ?_
       rintro e wa ⟨rfl, rfl, hk1, ht1⟩)
    | (go_at_call 103
       with_reducible refine (trim_any A2 n2 c2 m w w.heap.size h2 hnc2 hcm2).mono ?_
       rintro e wa ⟨rfl, rfl, hk2, ht2⟩)
    | fail)
  have da := trim_got h ht1 hk1
  have db := trim_got h2 ht2 hk2
  have ca := canon_digN (valL l)
  have cb := canon_digN (valL m)
  have va := val_digN (valL l)
  have vb := val_digN (valL m)
  generalize valL l = X at *
  generalize valL m = Y at *
  clear h h2 ht1 ht2
  generalize digN X = ta at *
  generalize digN Y = tb at *
  obtain ⟨na, hna⟩ : ∃ na, ta.length = na := ⟨_, rfl⟩
  obtain ⟨nb, hnb⟩ : ∃ nb, tb.length = nb := ⟨_, rfl⟩
  rw [hna] at da hk1 ⊢
  rw [hnb] at db hk2 ⊢
  have hna5 : na ≤ n := by omega
  have hnb5 : nb ≤ n2 := by omega
  have HAB := Lib.hid (And.intro da (And.intro db (And.intro ca (And.intro cb (And.intro va (And.intro vb (And.intro hna hnb)))))))
  have hnb0 : 0 < nb := by
    apply Nat.pos_of_ne_zero
    rintro rfl
    have : tb = [] := List.length_eq_zero_iff.1 hnb
    rw [this] at vb
    simp [valL] at vb
    omega
  have HP := Lib.hid hpos
  clear da db ca cb va vb hna hnb hk1 hk2 hln hln2 hpos
  have hcmp : ∀ W, Below w.heap.size w W → Calls Tryz.prog 87 #[.slice A na c, .slice A2 nb c2] W fun e w' => e = .returned (.int .i64 (cmpN X Y)) ∧ Below w.heap.size W w' := fun W hW => by
    have := cmp_any A na c ta A2 nb c2 tb W w.heap.size (HAB.out.1.below stays_u hW (Nat.le_refl _)) (HAB.out.2.1.below stays_u hW (Nat.le_refl _)) (by omega) (by omega) HAB.out.2.2.1 HAB.out.2.2.2.1
    rwa [HAB.out.2.2.2.2.1, HAB.out.2.2.2.2.2.1] at this
  by_cases hlt : X < Y
  · rw [cmpN_lt hlt] at hcmp
    have HLT := Lib.hid hlt
    clear hlt
    go_wp2_with fail
    refine (hcmp w (Below.refl _ _)).mono ?_
    rintro e w1 ⟨rfl, hb1⟩
    clear hcmp
    go_wp2_with fail
    go_ret2
    have hda := HAB.out.1.below stays_u hb1 hb1.size
    refine ⟨_, _, [], ta, rfl, got_nil _, ⟨A, c, ?_, by rw [HAB.out.2.2.2.2.2.2.1]; omega, hcm, by rw [HAB.out.2.2.2.2.2.2.1]; exact hda⟩, by rw [Nat.div_eq_of_lt HLT.out]; rfl, by rw [HAB.out.2.2.2.2.1, Nat.mod_eq_of_lt HLT.out], by simp, by rw [HAB.out.2.2.2.2.2.2.1]; omega, hb1⟩
    rw [HAB.out.2.2.2.2.2.2.1]; rfl
  · have hge : ∃ N : Int, cmpN X Y = N ∧ ¬ N < 0 := ⟨_, rfl, by unfold cmpN; rw [if_neg hlt]; split <;> omega⟩
    obtain ⟨N, hN, hN0⟩ := hge
    rw [hN] at hcmp
    have HLT := Lib.hid (And.intro hlt hN)
    clear hlt hN
    by_cases hb1 : nb = 1
    · subst hb1
      obtain ⟨b, off, d, hd, ea, hbB, hcell, hd32⟩ := digs_get HAB.out.2.1 (i := 0) (by omega)
      subst ea
      rw [Nat.add_zero] at hcell
      have hY : d = Y := by
        have h1 := HAB.out.2.2.2.2.2.1
        have h2 := HAB.out.2.2.2.2.2.2.2
        match tb, h2, hd, h1 with
        | [z], _, hd, h1 => simp [valL] at h1 hd; omega
      subst hY
      clear hd
      go_wp2_with fail
      refine (hcmp w (Below.refl _ _)).mono ?_
      rintro e w1 ⟨rfl, hb1⟩
      have hda := HAB.out.1.below stays_u hb1 hb1.size
      have hcell1 := (hb1.cell (p := ⟨b, off, none⟩) hbB).trans hcell
      have HB1 := Lib.hid (And.intro hb1 hda)
      clear hcmp hb1 hda hcell
      go_wp2_with fail
      refine (short_any A na c ta d w1 HB1.out.2 (by omega) HP.out hd32).mono ?_
      rintro e w2 ⟨v, q, rfl, hown, hq, hql, hb2⟩
      rw [HAB.out.2.2.2.2.1] at hq ⊢
      have hm32 : X % d < 4294967296 := Nat.lt_trans (Nat.mod_lt _ HP.out) hd32
      have HB2 := Lib.hid (And.intro hown (And.intro hq (And.intro hql hb2)))
      clear hown hq hql hb2
      go_wp2_with fail
      go_ret2
      have e0 : (X : Int) % (d : Int) = ((X % d : Nat) : Int) := (Int.natCast_emod X d).symm
      rw [e0]
      have hbn := Blk.new w2 110 #[.int .u32 ((X % d : Nat) : Int)]
      have hba := (Below.refl w2.heap.size w2).alloc (Nat.le_refl _) (.cells #[.int .u32 ((X % d : Nat) : Int)] 110)
      have hb20 : Below w.heap.size w w2 := HB1.out.1.trans (HB2.out.2.2.2.mono HB1.out.1.size)
      exact ⟨v, _, q, [X % d], rfl, (Got.of HB2.out.1).past hba, got_one hbn hm32, HB2.out.2.1, by simp [valL], by rw [HB2.out.2.2.1]; omega, by simp, hb20.trans (hba.mono hb20.size)⟩
    · obtain ⟨nb, rfl⟩ : ∃ nb', nb = nb' + 2 := ⟨nb - 2, by omega⟩
      clear hb1 hnb0
      obtain ⟨b, off, x, hx, ea, hbB, hcell, hx32⟩ := digs_get HAB.out.2.1 (i := nb + 1) (by omega)
      subst ea
      have hx0 : 0 < x := by
        apply Nat.pos_of_ne_zero
        intro e
        apply HAB.out.2.2.2.1.2
        rw [List.getLast?_eq_getElem?, HAB.out.2.2.2.2.2.2.2, show nb + 2 - 1 = nb + 1 by omega, hx, e]
      have hbl0 := (bitLen_spec x hx0 (by omega)).1
      have hbl32 := bitLen_le32 hx0 hx32
      obtain ⟨k, hk⟩ : ∃ k, 32 - Lib.bitLen x = k := ⟨_, rfl⟩
      have hsb := shift_big hx0 hx32
      rw [hk] at hsb
      have hk32 : k < 32 := by omega
      have hkI : (32 : Int) - (Lib.bitLen x : Int) = (k : Int) := by omega
      obtain ⟨e, f, he, -, hef, he0, -, he31, -⟩ := pow_split hk32
      rw [← he] at hsb
      have hnv := norm_v (b := tb) (m := nb + 1) HAB.out.2.2.2.1.1 HAB.out.2.2.2.2.2.2.2 hx hef he0 hsb.1 hsb.2
      rw [HAB.out.2.2.2.2.2.1] at hnv
      have hna2 : nb + 2 ≤ na := by
        apply Nat.le_of_not_lt
        intro hlt
        have := cmp_len HAB.out.2.2.1 HAB.out.2.2.2.1 (by rw [HAB.out.2.2.2.2.2.2.1, HAB.out.2.2.2.2.2.2.2]; exact hlt)
        rw [HAB.out.2.2.2.2.1, HAB.out.2.2.2.2.2.1] at this
        exact HLT.out.1 this
      have hnv2 : (digN (Y * e)).length = nb + 2 := hnv.1
      have HK := Lib.hid (And.intro hkI (And.intro he (And.intro (And.intro hnv2 hnv.2) (And.intro hx0 hx32))))
      clear hx hbl0 hbl32 hsb hk hkI hef hnv hnv2 he
      go_upto_region 9 with (first
        | (go_at_call 87
           with_reducible refine (hcmp w (Below.refl _ _)).mono ?_
           rintro e' w1 ⟨rfl, hb1⟩
           have hcell1 := (hb1.cell (p := ⟨b, off + (nb + 1), none⟩) hbB).trans hcell)
        | (go_at_call 114
           with_reducible refine (lead32_any (x : Int) w1 (by have := HK.out.2.2.2.1; omega) (by have := HK.out.2.2.2.2; omega)).mono ?_
           rintro e' w2 ⟨rfl, rfl⟩
           rw [Int.toNat_natCast, HK.out.1])
        | (go_at_call 115
           with_reducible refine (left_any (some ⟨b, off, none⟩) (nb + 2) c2 tb k w1 (HAB.out.2.1.below stays_u hb1 hb1.size) (by omega) hk32).mono ?_
           rintro e' w2 ⟨v9, lv, rfl, hown9, hv9, hl9, hb9⟩
           obtain ⟨A9, c9, rfl, hc9, hm9, hd9⟩ := hown9.reads
           rw [hl9] at hc9 hd9 ⊢
           have HL9 := Lib.hid (And.intro hv9 (And.intro hl9 (And.intro hb9 (And.intro hc9 (And.intro hm9 hd9)))))
           clear hv9 hl9 hb9 hc9 hm9 hd9 hown9)
        | (go_at_call 103
           with_reducible refine (trim_any A9 (nb + 2 + 1) c9 lv w2 w2.heap.size HL9.out.2.2.2.2.2 HL9.out.2.2.2.1 HL9.out.2.2.2.2.1).mono ?_
           rintro e' w3 ⟨rfl, rfl, hk9, ht9⟩
           rw [HL9.out.1, HAB.out.2.2.2.2.2.1, ← HK.out.2.1, HK.out.2.2.1.1]
           have HT9 := Lib.hid (And.intro hk9 ht9)
           clear hk9 ht9)
        | fail)
      have hv9 : DigsB w2 w2.heap.size A9 (nb + 2) (digN (Y * e)) := by
        have h1 := trim_got HL9.out.2.2.2.2.2 HT9.out.2 HT9.out.1
        rwa [HL9.out.1, HAB.out.2.2.2.2.2.1, ← HK.out.2.1, HK.out.2.2.1.1] at h1
      have hb12 : Below w.heap.size w w2 := hb1.trans (HL9.out.2.2.1.mono hb1.size)
      have hda2 := HAB.out.1.below stays_u hb12 hb12.size
      have hc29 := HL9.out.2.2.2.1
      have hm29 := HL9.out.2.2.2.2.1
      have HV := Lib.hid (And.intro hv9 (And.intro hb12 (And.intro hda2 (And.intro hc29 hm29))))
      clear hv9 hb12 hda2 hc29 hm29 HL9 HT9 hcell hcell1 hb1 hcmp
      go_upto_region 10 with (first
        | (go_at_call 115
           with_reducible refine (left_any A na c ta k w2 HV.out.2.2.1 (by omega) hk32).mono ?_
           rintro e' w3 ⟨v10, U0, rfl, hown10, hv10, hl10, hb10⟩
           obtain ⟨g, cu, rfl, hg0, hg1, hgc, hgm⟩ := hown10.form (by omega)
           rw [hl10] at hown10 hgc ⊢
           have HU := Lib.hid (And.intro hown10 (And.intro hv10 (And.intro hl10 (And.intro hb10 (And.intro hg0 (And.intro hg1 (And.intro hgc hgm)))))))
           clear hown10 hv10 hl10 hb10 hg0 hg1 hgc hgm)
        | fail)
      obtain ⟨T, hT⟩ : ∃ T, na = T + nb + 1 := ⟨na - nb - 1, by omega⟩
      have hTI : (na : Int) + 1 - ((nb : Int) + 2) = (T : Int) := by omega
      have HT := Lib.hid hT
      have hT1 : T ≤ na := by omega
      clear hT
      have hmk := make_u T T .i64 .i64 (Nat.le_refl _) (by omega)
      refine wp_loop_rounds 1 ?_
      rw [rounds_succ]
      go_wp2_with fail
      have hst : QSt X Y e na T g cu w3.heap.size T U0 (List.replicate T 0) w2 (w3.alloc (.cells (zc T) 110)) := by
        have hd : Digs U0 := HU.out.1.digs
        refine ⟨HU.out.2.2.1, hd, by simp, digs_zeros _, ?_, ?_, ?_, ?_, ?_⟩
        · rw [List.drop_eq_nil_of_le (by simp), HU.out.2.1, HAB.out.2.2.2.2.1, ← HK.out.2.1]; simp [valL]
        · have h1 := start_lt (U := U0) (X := X) (V := Y * e) (e := e) (la := na) (m := nb + 1) (by rw [HU.out.2.1, HAB.out.2.2.2.2.1, ← HK.out.2.1]) (by
            have := val_lt HAB.out.2.2.1.1
            rwa [HAB.out.2.2.2.2.1, HAB.out.2.2.2.2.2.2.1] at this) he0 he31 (by obtain ⟨y, _, _, h⟩ := HK.out.2.2.1.2; exact h) HU.out.2.2.1 (by omega)
          rwa [show na - (nb + 1) = T by have := HT.out; omega] at h1
        · exact HU.out.1.past ((Below.refl w3.heap.size w3).alloc (Nat.le_refl _) _) (Nat.le_refl _)
        · exact own_made w3 HU.out.2.2.2.1.size (Nat.le_refl _) (by omega)
        · exact HU.out.2.2.2.1.alloc HU.out.2.2.2.1.size _
      have hgq : g ≠ w3.heap.size := by have := HU.out.2.2.2.2.2.1; omega
      have hg2 : w2.heap.size ≤ g := HU.out.2.2.2.2.1
      have hgc := HU.out.2.2.2.2.2.2.1
      have HU8 := Lib.hid HU.out.2.2.2.2.2.2.2
      have hv2 : ∃ v, digN (Y * e) = v := ⟨_, rfl⟩
      obtain ⟨v, hv⟩ := hv2
      have hVV : valL v = Y * e := by rw [← hv, val_digN]
      have hVD : Digs v := by rw [← hv]; exact (canon_digN _).1
      have hVL := HK.out.2.2.1.1
      obtain ⟨v1, hv1, hbig, -⟩ := HK.out.2.2.1.2
      have hVA := HV.out.1
      rw [hv] at hVL hv1 hVA
      obtain ⟨v0, hv0⟩ : ∃ v0, v[nb]? = some v0 := ⟨_, List.getElem?_eq_getElem (by omega)⟩
      have hv132 := dig_at hVD hv1
      have hv032 := dig_at hVD hv0
      have hV0 : 0 < valL v := by rw [hVV]; exact Nat.mul_pos HP.out he0
      have HVV := Lib.hid (And.intro hVV (And.intro hVD (And.intro hVL (And.intro hv1 (And.intro hbig (And.intro hv0 (And.intro hVA hV0)))))))
      obtain ⟨gq, hgqe⟩ : ∃ gq, w3.heap.size = gq := ⟨_, rfl⟩
      rw [hgqe] at hst hgq ⊢
      have HST := Lib.hid hst
      have hbX : w.heap.size ≤ w2.heap.size := HV.out.2.1.size
      clear hst hv hVV hVD hVL hv1 hbig hv0 hVA hV0 hgqe hmk HU
      go_loopw [13] (fun s13 wr => ∃ (j : Nat) (U Q : List Nat), s13 = .int .i64 ((j : Int) - 1) ∧ j ≤ T ∧ Hid (QSt X Y e na T g cu gq j U Q w2 wr)) (fun s13 _ => (intOf s13 + 1).toNat)
      case atStart => exact ⟨T, U0, _, rfl, Nat.le_refl _, HST.out⟩
      case round =>
        clear HST
        obtain ⟨j, U, Q, rfl, hj, HD⟩ := hrel
        rcases j with _ | j
        · have hU : DigsB wr wr.heap.size (some ⟨g, 0, none⟩) (nb + 2) (U.take (nb + 2)) := by
            obtain ⟨A', c', e', -, -, h3⟩ := HD.out.ou.reads
            injection e' with e1 e2 e3
            subst e1
            rw [HD.out.lu] at h3
            exact Arr.take h3 (by omega)
          have hlt := HD.out.lt
          have heq := HD.out.eq
          rw [List.drop_zero] at hlt
          rw [List.drop_zero, Nat.pow_zero, Nat.mul_one] at heq
          have htk : valL (U.take (nb + 2)) = valL U := by
            have h1 := val_take_drop U (nb + 2) (by rw [HD.out.lu]; omega)
            have h2 : valL (U.drop (nb + 2)) = 0 := by
              have h3 := upper_zero (u := 0 :: U) (j := 0) HVV.out.2.1 HVV.out.2.2.1 (by simp only [List.length_cons, HD.out.lu]; omega) (by simpa [HVV.out.1] using hlt)
              rw [show 0 + 1 + (nb + 2) = nb + 2 + 1 by omega, List.drop_succ_cons] at h3
              exact h3
            rw [h2, Nat.mul_zero, Nat.add_zero] at h1
            exact h1.symm
          obtain ⟨h1, h2, -⟩ := quo_end he0 heq hlt
          have hrt := right_any (some ⟨g, 0, none⟩) (nb + 2) cu (U.take (nb + 2)) k wr hU (by omega) (by omega) (by omega) HU8.out hk32
          rw [htk, ← HK.out.2.1, h2] at hrt
          have HR := Lib.hid (And.intro hrt h1)
          have hncu : (nb : Int) + 2 ≤ (cu : Int) := by omega
          have hcu0 : ¬ cu = 0 := by omega
          clear hU hlt heq htk h1 h2 hrt
          go_wp2_with fail
          refine HR.out.1.mono ?_
          rintro e' wz ⟨v20, r20, lb, rfl, hr1, hr2, hr3, hr4⟩
          have hq := (HD.out.oq.past hr4 (Nat.le_refl _)).reads
          have HZ := Lib.hid (And.intro (Got.of hr1) (And.intro hr2 (And.intro hr3 (And.intro hr4 hq))))
          clear hr1 hr2 hr3 hr4 hq
          go_wp2_with fail
          go_ret2
          exact ⟨_, _, Q, r20, rfl, HZ.out.2.2.2.2, HZ.out.1, HR.out.2, HZ.out.2.1, by rw [HD.out.lq]; omega, by rw [HZ.out.2.2.1]; omega, HV.out.2.1.trans ((HD.out.be.trans (HZ.out.2.2.2.1.mono HD.out.be.size)).mono hbX)⟩
        · have hj1 : ((j + 1 : Nat) : Int) - 1 = (j : Int) := by omega
          rw [hj1]
          obtain ⟨u0, g0⟩ : ∃ x, U[j + (nb + 2)]? = some x := ⟨_, List.getElem?_eq_getElem (by have := HD.out.lu; have := HT.out; omega)⟩
          obtain ⟨u1, g1⟩ : ∃ x, U[j + (nb + 1)]? = some x := ⟨_, List.getElem?_eq_getElem (by have := HD.out.lu; have := HT.out; omega)⟩
          obtain ⟨u2, g2⟩ : ∃ x, U[j + nb]? = some x := ⟨_, List.getElem?_eq_getElem (by have := HD.out.lu; have := HT.out; omega)⟩
          have hlj : j + (nb + 3) ≤ U.length := by have := HD.out.lu; have := HT.out; omega
          have K := kn_of HD.out.du HVV.out.2.1 HVV.out.2.2.1 hlj HVV.out.2.2.2.1 HVV.out.2.2.2.2.2.1 g0 g1 g2 HVV.out.2.2.2.2.1 (by rw [HVV.out.1]; exact HD.out.lt)
          have hu0 := dig_at HD.out.du g0
          have hu1 := dig_at HD.out.du g1
          have hu2 := dig_at HD.out.du g2
          have c0 := HD.out.ou.cell g0
          have c1 := HD.out.ou.cell g1
          have c2' := HD.out.ou.cell g2
          obtain ⟨b9, off9, y9, hy9, e9, hb9, d1, -⟩ := digs_get HVV.out.2.2.2.2.2.2.1 (i := nb + 1) (by omega)
          obtain rfl : v1 = y9 := by have h := HVV.out.2.2.2.1; rw [hy9] at h; injection h with h; exact h.symm
          obtain ⟨b8, off8, y8, hy8, e8, -, d0, -⟩ := digs_get HVV.out.2.2.2.2.2.2.1 (i := nb) (by omega)
          obtain rfl : v0 = y8 := by have h := HVV.out.2.2.2.2.2.1; rw [hy8] at h; injection h with h; exact h.symm
          subst e9
          injection e8 with e8
          injection e8 with e8a e8b
          subst e8a e8b
          have d1r := (HD.out.be.cell (p := ⟨b9, off9 + (nb + 1), none⟩) hb9).trans d1
          have d0r := (HD.out.be.cell (p := ⟨b9, off9 + nb, none⟩) hb9).trans d0
          have HKN := Lib.hid K
          have hjT : (j : Int) + (nb : Int) + 2 ≤ (na : Int) := by have := HT.out; omega
          clear K g0 g1 g2 hy9 hy8 d1 d0 hlj
          obtain ⟨top, htop⟩ : ∃ top, u0 * 4294967296 + u1 = top := ⟨_, rfl⟩
          have hor := or_hi hu0 hu1
          rw [htop] at hor
          have htI : top ≤ 18446744073709551615 := by omega
          rw [htop] at HKN
          obtain ⟨G0, hG0⟩ : ∃ G0, top / v1 = G0 := ⟨_, rfl⟩
          obtain ⟨r0, hr0⟩ : ∃ r0, top % v1 = r0 := ⟨_, rfl⟩
          have hv1p : 0 < v1 := by have := HKN.out.big; omega
          have hr0v : r0 < v1 := by rw [← hr0]; exact Nat.mod_lt _ hv1p
          have hG033 : G0 ≤ 8589934592 := by
            rw [← hG0]
            apply Nat.le_of_lt_succ
            rw [Nat.div_lt_iff_lt_mul hv1p]
            have h1 := HKN.out.big
            have h2 : (8589934592 + 1) * 2147483648 ≤ (8589934592 + 1) * v1 := Nat.mul_le_mul_left _ h1
            omega
          have hGI : (top : Int) / (v1 : Int) = (G0 : Int) := by rw [← hG0]; exact (Int.natCast_ediv top v1).symm
          have hrI : (top : Int) % (v1 : Int) = (r0 : Int) := by rw [← hr0]; exact (Int.natCast_emod top v1).symm
          have hvz : ((v1 : Int) == 0) = false := by rw [beq_eq_false_iff_ne]; omega
          have hst0 : G0 * v1 + r0 = top := by rw [← hG0, ← hr0, Nat.mul_comm]; exact Nat.div_add_mod top v1
          have HS0 := Lib.hid (And.intro hst0 (show valL (U.drop j) / valL v ≤ G0 by rw [← hG0]; exact HKN.out.start))
          clear htop hG0 hr0 hst0
          go_upto_region 17 with fail
          go_quiet (fail)
          go_upto_region 18 with fail
          go_quiet (fail)
          go_upto_block 5 with fail
          rw [hrI]
          rw [World.drewN_drewN]
          go_cut [15, 16] (fun s15 s16 wx => ∃ (G r q : Nat), s15 = .int .u64 (G : Int) ∧ s16 = .int .u64 (r : Int) ∧ G < 4294967296 ∧ wx = wr.drewN q ∧ Hid (valL (U.drop j) / valL v ≤ G ∧ G * valL v < valL (U.drop j) + valL v))
          case first =>
            go_wp2_with fail
            go_loopw [15, 16] (fun s15 s16 wq => ∃ (G r q : Nat), s15 = .int .u64 (G : Int) ∧ s16 = .int .u64 (r : Int) ∧ wq = wr.drewN q ∧ r < 4294967296 ∧ G ≤ 8589934592 ∧ Hid (G * v1 + r = top ∧ valL (U.drop j) / valL v ≤ G)) (fun s15 _ _ => (intOf s15).toNat)
            case atStart => exact ⟨G0, r0, _, rfl, rfl, rfl, by omega, hG033, HS0.out⟩
            case round =>
              clear HS0
              obtain ⟨G, r, q, rfl, rfl, rfl, hr, hG, HG⟩ := hrel
              by_cases hbig : 4294967296 ≤ G
              · have hbigI : (4294967296 : Int) ≤ (G : Int) := by omega
                have hnx := HKN.out.next HG.out.1 HG.out.2 (.inl hbig)
                have hG1 : 1 ≤ G := Nat.le_trans (Nat.le_add_left 1 _) hnx
                obtain ⟨G1, hGG⟩ : ∃ G1, G1 + 1 = G := ⟨G - 1, by omega⟩
                have hg1 : G1 * v1 + (r + v1) = top := by have := HG.out.1; rw [← hGG, Nat.add_mul, Nat.one_mul] at this; omega
                have hGI : (G : Int) - 1 = (G1 : Int) := by omega
                have hle1 : valL (U.drop j) / valL v ≤ G1 := by omega
                have HG1 := Lib.hid (And.intro hg1 (And.intro hle1 hGG))
                clear hnx hg1 hle1 HG hG1 hGG
                by_cases hbr : 4294967296 ≤ r + v1
                · have hbrI : (4294967296 : Int) ≤ (r : Int) + (v1 : Int) := by omega
                  go_upto_region 19 with fail
                  go_quiet (fail)
                  go_wp2_with fail
                  go_meet
                  have hs := HKN.out.stop HG1.out.1 (.inr hbr)
                  exact ⟨G1, r + v1, _, rfl, by simp, hs.1, rfl, HG1.out.2.1, hs.2⟩
                · have hbrI : ¬ (4294967296 : Int) ≤ (r : Int) + (v1 : Int) := by omega
                  go_upto_region 19 with fail
                  go_quiet (fail)
                  go_wp2_with fail
                  go_roundw
                  case rel => exact ⟨G1, r + v1, _, rfl, by simp, rfl, by omega, by have := HG1.out.2.2; omega, HG1.out.1, HG1.out.2.1⟩
                  case measure => have := HG1.out.2.2; simp only [intOf]; omega
              · have hGB : G < 4294967296 := by omega
                have hbigI : ¬ (4294967296 : Int) ≤ (G : Int) := by omega
                obtain ⟨p, hp⟩ : ∃ p, G * v0 = p := ⟨_, rfl⟩
                have hpI : (G : Int) * (v0 : Int) = (p : Int) := by rw [← hp, Int.natCast_mul]
                have hpl : p ≤ 18446744065119617025 := by
                  have := (mul_cast_le hGB hv032).2
                  rw [hpI] at this
                  omega
                obtain ⟨z, hz⟩ : ∃ z, r * 4294967296 + u2 = z := ⟨_, rfl⟩
                have hzI := or_hi hr hu2
                rw [hz] at hzI
                have HPZ := Lib.hid (And.intro hp hz)
                have hc22 : wr.cell? ⟨g, j + (nb + 2) - 2, none⟩ = some (.int .u32 (u2 : Int)) := by rw [show j + (nb + 2) - 2 = j + nb by omega]; exact c2'
                clear hp hz
                by_cases hc : z < p
                · have hcI : (z : Int) < (p : Int) := by omega
                  have hnx := HKN.out.next HG.out.1 HG.out.2 (.inr (by rw [HPZ.out.1, HPZ.out.2]; exact hc))
                  have hG1 : 1 ≤ G := Nat.le_trans (Nat.le_add_left 1 _) hnx
                  obtain ⟨G1, hGG⟩ : ∃ G1, G1 + 1 = G := ⟨G - 1, by omega⟩
                  have hg1 : G1 * v1 + (r + v1) = top := by have := HG.out.1; rw [← hGG, Nat.add_mul, Nat.one_mul] at this; omega
                  have hGI : (G : Int) - 1 = (G1 : Int) := by omega
                  have hle1 : valL (U.drop j) / valL v ≤ G1 := by omega
                  have HG1 := Lib.hid (And.intro hg1 (And.intro hle1 hGG))
                  clear hnx hg1 hle1 HG hG1 hGG
                  by_cases hbr : 4294967296 ≤ r + v1
                  · have hbrI : (4294967296 : Int) ≤ (r : Int) + (v1 : Int) := by omega
                    go_upto_region 19 with fail
                    go_quiet (fail)
                    go_wp2_with fail
                    go_meet
                    have hs := HKN.out.stop HG1.out.1 (.inr hbr)
                    exact ⟨G1, r + v1, _, rfl, by simp, hs.1, rfl, HG1.out.2.1, hs.2⟩
                  · have hbrI : ¬ (4294967296 : Int) ≤ (r : Int) + (v1 : Int) := by omega
                    go_upto_region 19 with fail
                    go_quiet (fail)
                    go_wp2_with fail
                    go_roundw
                    case rel => exact ⟨G1, r + v1, _, rfl, by simp, rfl, by omega, by have := HG1.out.2.2; omega, HG1.out.1, HG1.out.2.1⟩
                    case measure => have := HG1.out.2.2; simp only [intOf]; omega
                · have hcI : ¬ (z : Int) < (p : Int) := by omega
                  go_upto_region 19 with fail
                  go_quiet (fail)
                  go_wp2_with fail
                  go_meet
                  have hs := HKN.out.stop HG.out.1 (.inl ⟨hGB, by rw [HPZ.out.1, HPZ.out.2]; omega⟩)
                  exact ⟨G, r, _, rfl, rfl, hs.1, rfl, HG.out.2, hs.2⟩
          case rest =>
            obtain ⟨G, r, q, rfl, rfl, hGB, rfl, HGV⟩ := hcut
            have HD2 := Lib.hid (HD.out.drewN q)
            clear hor hGI hrI hvz HS0 c0 c1 c2' d1r d0r hr0v hG033 HD htI hu0 hu1 hu2
            generalize wr.drewN q = Wd at HD2 ⊢
            have hcj : ¬ cu - j = 0 := by omega
            have hjn : (j : Int) + ((nb : Int) + 2) + 1 ≤ (cu : Int) := by omega
            have hVarr : Arr AtU 1 Wd (fun x => x ≠ g ∧ x < Wd.heap.size) (some ⟨b9, off9, none⟩) (nb + 2) v := by
              have h1 := HVV.out.2.2.2.2.2.2.1.below stays_u HD2.out.be (Nat.le_refl _)
              have h2 := HD2.out.be.size
              exact Arr.keep stays_u h1 (fun x hx => ⟨by omega, by omega⟩) (fun _ _ _ => rfl)
            have hsub := subtract_any g (na + 1) cu w2.heap.size j (nb + 3) (cu - j) U (some ⟨b9, off9, none⟩) (nb + 2) c9 v G Wd HD2.out.ou HD2.out.lu hVarr rfl (by have := HT.out; omega) (by omega) hGB
            rw [show nb + 3 = j + (nb + 2) + 1 - j by omega] at hsub
            have HSUB := Lib.hid hsub
            clear hsub hVarr
            go_wp2_with fail
            refine HSUB.out.mono ?_
            rintro e' Ws ⟨o, out, rfl, ho, hol, hod, hov, how, hog⟩
            rw [show j + (nb + 2) + 1 - j = nb + 3 by omega] at hol hov how
            have hU3 : j + (nb + 3) ≤ U.length := by have := HD2.out.lu; have := HT.out; omega
            have hz := upper_zero (u := U) (j := j) HVV.out.2.1 HVV.out.2.2.1 (by omega) (by rw [HVV.out.1]; exact HD2.out.lt)
            rw [show j + 1 + (nb + 2) = j + (nb + 3) by omega] at hz
            have hwv := win_val hU3 hz
            have hlo := val_lt hod
            rw [hol] at hlo
            have hcase := sub_cases (B := 4294967296 ^ (nb + 3)) HKN.out HGV.out.1 HGV.out.2 (by rw [← hwv]; exact hov) hlo ho
            have hwhole := sub_whole hol hU3 hov
            have hoq : OwnU Ws w2.heap.size (.slice (some ⟨gq, 0, none⟩) T T) Q := OwnV.kept tells_u HD2.out.oq hog (.inr (own_ne (Ne.symm hgq))) (fun _ hb => False.elim hb)
            have hbe : Below w2.heap.size w2 Ws := below_then HD2.out.be hog HD2.out.be.size (fun x hx => by injection hx with hx; omega)
            have hSl : (U.take j ++ out ++ U.drop (j + (nb + 3))).length = na + 1 := by rw [window_len hol hU3]; exact HD2.out.lu
            have hSd : Digs (U.take j ++ out ++ U.drop (j + (nb + 3))) := how.digs
            obtain ⟨qj, hqj⟩ : ∃ x, Q[j]? = some x := ⟨_, List.getElem?_eq_getElem (by have := HD2.out.lq; omega)⟩
            have cq := hoq.cell hqj
            have fq := hoq.unfrozen j
            have hjTI : (j : Int) < (T : Int) := by omega
            have HW := Lib.hid (And.intro how (And.intro hoq (And.intro hbe (And.intro hSl (And.intro hSd (And.intro hwhole (And.intro hU3 (And.intro hol (And.intro hod hov)))))))))
            clear how hoq hbe hSl hSd hwhole hz hwv hlo hov hog hqj HSUB
            rcases hcase with ⟨rfl, hGe⟩ | ⟨rfl, hGe⟩
            · have HGE := Lib.hid hGe
              clear hGe cq fq
              obtain ⟨qj, hqj⟩ : ∃ x, Q[j]? = some x := ⟨_, List.getElem?_eq_getElem (by have := HD2.out.lq; omega)⟩
              have cq := HW.out.2.1.cell hqj
              have fq := HW.out.2.1.unfrozen j
              clear hqj
              go_wp2_with fail
              go_roundw
              case rel =>
                have hre := round_end (n := nb + 2) (X0 := X * e) (t := G) HD2.out.du HW.out.2.2.2.2.1 (by rw [HW.out.2.2.2.1]; exact HD2.out.lu.symm) (by have := HW.out.2.2.2.2.2.2.1; omega) HVV.out.2.2.2.2.2.2.2 HGE.out (by rw [HVV.out.1]; exact HD2.out.eq) (by have := HD2.out.lq; omega) (by have := HW.out.2.2.2.2.2.1; rw [Nat.mul_zero, Nat.add_zero] at this; exact this)
                rw [HVV.out.1] at hre
                exact ⟨j, _, Q.set j G, rfl, by omega, ⟨HW.out.2.2.2.1, HW.out.2.2.2.2.1, by rw [List.length_set]; exact HD2.out.lq, HD2.out.dq.set _ hGB, hre.1, hre.2,
                  OwnV.kept tells_u HW.out.1 (only_setCell (only_refl Ws (some gq)) (.inl rfl) _) (.inr (own_ne hgq)) (fun _ hb => False.elim hb), HW.out.2.1.put HD2.out.lq.symm j hGB, HW.out.2.2.1.setCell (by show w2.heap.size ≤ gq; exact (HD2.out.oq.lt gq rfl).1) _⟩⟩
              case measure => simp only [intOf]; omega
            · obtain ⟨G1, hG1⟩ : ∃ G1, valL (U.drop j) / valL v = G1 := ⟨_, rfl⟩
              rw [hG1] at hGe
              have hGI : (G : Int) - 1 = (G1 : Int) := by omega
              have hG1B : G1 < 4294967296 := by omega
              have HGE := Lib.hid (And.intro hGe hG1)
              clear hGe hG1 cq fq
              obtain ⟨S, hS⟩ : ∃ S, U.take j ++ out ++ U.drop (j + (nb + 3)) = S := ⟨_, rfl⟩
              rw [hS] at HW
              have HS := Lib.hid hS
              clear hS
              have hjn3 : j + (nb + 2) < na + 1 := by have := HT.out; omega
              go_wp2_with fail
              go_loopw [17, 169] (fun s17 s169 wq => ∃ (i p : Nat) (o2 : List Nat), s169 = .int .i64 (i : Int) ∧ s17 = .int .u64 (p : Int) ∧ i ≤ nb + 2 ∧ p ≤ 1 ∧ Hid (o2.length = i ∧ Digs o2 ∧ valL o2 + 4294967296 ^ i * p = valL ((S.drop j).take i) + valL (v.take i) ∧ OwnU wq w2.heap.size (.slice (some ⟨g, 0, none⟩) (na + 1) cu) (S.take j ++ o2 ++ S.drop (j + i)) ∧ Ws.grownBy wq (some g))) (fun _ s169 _ => nb + 2 - (intOf s169).toNat)
              case atStart => exact ⟨0, 0, [], rfl, rfl, by omega, by omega, rfl, Digs.nil_, by simp [valL], by simpa using HW.out.1, only_refl Ws (some g)⟩
              case round =>
                obtain ⟨i, p, o2, rfl, rfl, hi, hp, HE⟩ := hrel
                by_cases hil : i < nb + 2
                · have hilI : (i : Int) < (nb : Int) + 2 := by omega
                  have hji : j + i < S.length := by rw [HW.out.2.2.2.1]; omega
                  obtain ⟨z, hz⟩ : ∃ z, S[j + i]? = some z := ⟨_, List.getElem?_eq_getElem hji⟩
                  have hz2 : (S.take j ++ o2 ++ S.drop (j + i))[j + i]? = some z := (window_get HE.out.1 hji).trans hz
                  have hz32 := dig_at HW.out.2.2.2.2.1 hz
                  have hcz := HE.out.2.2.2.1.cell hz2
                  have hfz := HE.out.2.2.2.1.unfrozen (j + i)
                  obtain ⟨b7, off7, y, hy, e7, -, hy1, hy32⟩ := digs_get HVV.out.2.2.2.2.2.2.1 (i := i) hil
                  injection e7 with e7
                  injection e7 with e7a e7b
                  subst e7a e7b
                  have hy2 : Wd.cell? ⟨b9, off9 + i, none⟩ = some (.int .u32 (y : Int)) := (HD2.out.be.cell (p := ⟨b9, off9 + i, none⟩) hb9).trans hy1
                  have hy3 : Ws.cell? ⟨b9, off9 + i, none⟩ = some (.int .u32 (y : Int)) := (HW.out.2.2.1.cell (p := ⟨b9, off9 + i, none⟩) hb9).trans hy1
                  have hcy : wr.cell? ⟨b9, off9 + i, none⟩ = some (.int .u32 (y : Int)) := (only_cell HE.out.2.2.2.2 (Nat.lt_of_lt_of_le hb9 HW.out.2.2.1.size) (by simp; omega)).trans hy3
                  have hr := plus_round (c := p) (x := z) (t := y) HE.out.1 HE.out.2.2.1 (by rw [List.getElem?_drop]; exact hz) (.inl hy)
                  have HR := Lib.hid (And.intro hr hji)
                  clear hr hji hz hz2 hy hy1 hy2 hy3
                  have hjiI : (j : Int) + (i : Int) < (na : Int) + 1 := by omega
                  go_wp2_with fail
                  have e1 : ((p : Int) + ((z : Int) + (y : Int))) % 4294967296 = (((p + z + y) % 4294967296 : Nat) : Int) := by omega
                  have e2 : ((p : Int) + ((z : Int) + (y : Int))) / 4294967296 = (((p + z + y) / 4294967296 : Nat) : Int) := by omega
                  rw [e1, e2]
                  have hd : (p + z + y) % 4294967296 < 4294967296 := Nat.mod_lt _ (by omega)
                  clear e1 e2
                  go_roundw
                  case rel => exact ⟨i + 1, _, o2 ++ [(p + z + y) % 4294967296], by go_num, rfl, by omega, by omega, by rw [List.length_append, HE.out.1]; rfl, digs_snoc HE.out.2.1 hd, HR.out.1, by
                    have h1 := HE.out.2.2.2.1.put (by rw [window_len HE.out.1 (Nat.le_of_lt HR.out.2)]; exact HW.out.2.2.2.1.symm) (j + i) hd
                    rwa [window_set HE.out.1 HR.out.2] at h1, only_setCell HE.out.2.2.2.2 (.inl rfl) _⟩
                  case measure => simp only [intOf]; omega
                · have hin : i = nb + 2 := by omega
                  have HIN := Lib.hid hin
                  have hiI : ¬ (i : Int) < (nb : Int) + 2 := by omega
                  have hjS : j + (nb + 2) < S.length := by rw [HW.out.2.2.2.1]; exact hjn3
                  obtain ⟨t, ht⟩ : ∃ t, S[j + (nb + 2)]? = some t := ⟨_, List.getElem?_eq_getElem hjS⟩
                  have ht2 : (S.take j ++ o2 ++ S.drop (j + i))[j + (nb + 2)]? = some t := by
                    rw [hin, window_get (by rw [HE.out.1, hin]) hjS]; exact ht
                  have hct := HE.out.2.2.2.1.cell ht2
                  have hft := HE.out.2.2.2.1.unfrozen (j + (nb + 2))
                  have ht32 := dig_at HW.out.2.2.2.2.1 ht
                  obtain ⟨t1, ht1⟩ : ∃ t1, (t + p) % 4294967296 = t1 := ⟨_, rfl⟩
                  obtain ⟨t2, ht2'⟩ : ∃ t2, (t + p) / 4294967296 = t2 := ⟨_, rfl⟩
                  have ht132 : t1 < 4294967296 := by omega
                  have htt : t1 + 4294967296 * t2 = t + p := by omega
                  have htI : ((t : Int) + (p : Int)) % 4294967296 = (t1 : Int) := by omega
                  have hpm : (p : Int) % 4294967296 = (p : Int) := by omega
                  have hjnI : (j : Int) + ((nb : Int) + 2) < (na : Int) + 1 := by omega
                  have hu1 := HE.out.2.2.2.1.put (by rw [window_len HE.out.1 (by omega)]; exact HW.out.2.2.2.1.symm) (j + (nb + 2)) ht132
                  have hu2 : (S.take j ++ o2 ++ S.drop (j + i)).set (j + (nb + 2)) t1 = S.take j ++ (o2 ++ [t1]) ++ S.drop (j + (nb + 3)) := by
                    rw [hin]; exact window_set (by rw [HE.out.1, hin]) hjS
                  rw [hu2] at hu1
                  have hba := back_all (n := nb + 2) (out := out) (out2 := o2) (c := p) (t' := t1) (c2 := t2) (t := t) (G := G) (q := G1) HD2.out.du HVV.out.2.1 HVV.out.2.2.1 (by rw [HVV.out.1]; exact HD2.out.lt) HW.out.2.2.2.2.2.2.1 HW.out.2.2.2.2.2.2.2.1 (by rw [HE.out.1, hin]) HE.out.2.1 ht132
                    (by rw [HS.out]; exact HW.out.2.2.2.2.2.1) HW.out.2.2.2.2.2.2.2.2.1 (by
                      rw [HS.out]
                      have h1 := HE.out.2.2.1
                      rwa [hin, List.take_of_length_le (l := v) (by rw [HVV.out.2.2.1]; exact Nat.le_refl _)] at h1) (by rw [HS.out, List.getElem?_drop]; exact ht) htt HGE.out.1 HGE.out.2.symm
                  rw [HS.out] at hba
                  have hul : (S.take j ++ (o2 ++ [t1]) ++ S.drop (j + (nb + 3))).length = na + 1 := by
                    rw [window_len (by rw [List.length_append, HE.out.1, hin]; rfl) (by omega)]; exact HW.out.2.2.2.1
                  generalize S.take j ++ (o2 ++ [t1]) ++ S.drop (j + (nb + 3)) = U2 at hba hu1 hul
                  obtain ⟨Y1, hY1⟩ : ∃ Y1, Y1 = wr.setCell ⟨g, j + (nb + 2), none⟩ (.int .u32 (t1 : Int)) := ⟨_, rfl⟩
                  rw [← hY1] at hu1
                  have hyg : Ws.grownBy Y1 (some g) := by rw [hY1]; exact only_setCell HE.out.2.2.2.2 (.inl rfl) _
                  have hyq : OwnU Y1 w2.heap.size (.slice (some ⟨gq, 0, none⟩) T T) Q := OwnV.kept tells_u HW.out.2.1 hyg (.inr (own_ne (Ne.symm hgq))) (fun _ hb => False.elim hb)
                  have hyb : Below w2.heap.size w2 Y1 := below_then HW.out.2.2.1 hyg HW.out.2.2.1.size (fun x hx => by injection hx with hx; omega)
                  obtain ⟨qj, hqj⟩ : ∃ x, Q[j]? = some x := ⟨_, List.getElem?_eq_getElem (by have := HD2.out.lq; omega)⟩
                  have cq := hyq.cell hqj
                  have fq := hyq.unfrozen j
                  have HY1 := Lib.hid (And.intro hu1 (And.intro hyq (And.intro hyb (And.intro hba hul))))
                  clear ht ht2 ht1 ht2' hu1 hu2 hba hul hyg hyq hyb hqj hin
                  go_upto_region 34 with fail
                  rw [← hY1]
                  clear hct hft hY1
                  go_wp2_with fail
                  go_roundw
                  case rel =>
                    have hre := round_end (n := nb + 2) (X0 := X * e) (t := G1) HD2.out.du HY1.out.2.2.2.1.1 (by rw [HY1.out.2.2.2.2]; exact HD2.out.lu.symm) (by have := HW.out.2.2.2.2.2.2.1; omega) HVV.out.2.2.2.2.2.2.2 HGE.out.2.symm (by rw [HVV.out.1]; exact HD2.out.eq) (by have := HD2.out.lq; omega) HY1.out.2.2.2.1.2
                    rw [HVV.out.1] at hre
                    exact ⟨j, _, Q.set j G1, rfl, by omega, ⟨HY1.out.2.2.2.2, HY1.out.2.2.2.1.1, by rw [List.length_set]; exact HD2.out.lq, HD2.out.dq.set _ hG1B, hre.1, hre.2,
                      OwnV.kept tells_u HY1.out.1 (only_setCell (only_refl Y1 (some gq)) (.inl rfl) _) (.inr (own_ne hgq)) (fun _ hb => False.elim hb), HY1.out.2.1.put HD2.out.lq.symm j hG1B, HY1.out.2.2.1.setCell (by show w2.heap.size ≤ gq; exact (HD2.out.oq.lt gq rfl).1) _⟩⟩
                  case measure => simp only [intOf]; omega
end Go.Proofs.YtkkpfdfoojcljaaGreat
