/- The reference's whole numbers of any length: QuoRem where its long division is not asked. · The reference's whole numbers of any length: QuoRem. -/
import Derived.Test.YtkkpfdfoojcljaaGreatFhHK
namespace Go.Proofs.YtkkpfdfoojcljaaGreat
open Go.RowKit

/-- from w to the last world only the headers g1 and g2 have changed, and new blocks have come -/
inductive Grow2 (g1 g2 : Nat) (w : World) : World → Prop where
  | refl : Grow2 g1 g2 w w
  | none_ {w1 w2 : World} : Grow2 g1 g2 w w1 → w1.grownBy w2 none → Grow2 g1 g2 w w2
  | one {w1 w2 : World} : Grow2 g1 g2 w w1 → w1.grownBy w2 (some g1) → ¬ URow w1 g1 → Grow2 g1 g2 w w2
  | two {w1 w2 : World} : Grow2 g1 g2 w w1 → w1.grownBy w2 (some g2) → ¬ URow w1 g2 → Grow2 g1 g2 w w2
theorem IntAt.grow2 {w w' : World} {g1 g2 g o : Nat} {z : Int} {A : Option Addr} {n c : Nat} (h : IntAt w g o z A n c) (hg : Grow2 g1 g2 w w') (h1 : g ≠ g1) (h2 : g ≠ g2) : IntAt w' g o z A n c := by
  induction hg with
  | refl => exact h
  | none_ _ hw ih => exact ih.grown hw (by simp) (fun x hx => by cases hx)
  | one _ hw hu ih => exact ih.grown hw (by simp; exact fun e => h1 e.symm) (fun x hx => by injection hx with hx; subst hx; exact hu)
  | two _ hw hu ih => exact ih.grown hw (by simp; exact fun e => h2 e.symm) (fun x hx => by injection hx with hx; subst hx; exact hu)
theorem Grow2.blk {w w' : World} {g1 g2 g : Nat} {t : TypeId} {cs : Array Value} (hg : Grow2 g1 g2 w w') (h : Blk w g t cs) (h1 : g ≠ g1) (h2 : g ≠ g2) : Blk w' g t cs := by
  induction hg with
  | refl => exact h
  | none_ _ hw ih => exact ih.grown hw (by simp)
  | one _ hw _ ih => exact ih.grown hw (by simp; exact h1)
  | two _ hw _ ih => exact ih.grown hw (by simp; exact h2)
theorem Grow2.belowB {w w' : World} {g1 g2 B : Nat} (hg : Grow2 g1 g2 w w') (hB : B ≤ w.heap.size) (h1 : B ≤ g1) (h2 : B ≤ g2) : Below B w w' ∧ w.heap.size ≤ w'.heap.size := by
  induction hg with
  | refl => exact ⟨Below.refl _ _, Nat.le_refl _⟩
  | none_ _ hw ih => exact ⟨below_then ih.1 hw (Nat.le_trans hB ih.2) (fun x hx => by cases hx), Nat.le_trans ih.2 hw.size⟩
  | one _ hw _ ih => exact ⟨below_then ih.1 hw (Nat.le_trans hB ih.2) (fun x hx => by injection hx with hx; omega), Nat.le_trans ih.2 hw.size⟩
  | two _ hw _ ih => exact ⟨below_then ih.1 hw (Nat.le_trans hB ih.2) (fun x hx => by injection hx with hx; omega), Nat.le_trans ih.2 hw.size⟩
theorem Own1.grown {w w' : World} {g g' : Nat} {t : TypeId} {s : Bool} {A : Option Addr} {n c : Nat} {l : List Nat} (h : Own1 w g t s A n c l) (hg : w.grownBy w' (some g')) (hne : g ≠ g') (hu : ¬ URow w g') : Own1 w' g t s A n c l :=
  ⟨h.blk.grown hg (by simp; exact hne), h.ne, h.nc, h.cm, digsT_grown h.digs hg (fun x hx => by injection hx with hx; subst hx; exact hu)⟩
/-- quotient and rest, in two headers -/
def QR (w w' : World) (gz gr : Nat) (tz tr : TypeId) (Q R : Int) : Prop := Grow2 gz gr w w' ∧ (∃ A n c, Own1 w' gz tz (decide (Q < 0)) A n c (digN Q.natAbs)) ∧ ∃ A n c, Own1 w' gr tr (decide (R < 0)) A n c (digN R.natAbs)
/-- first the rest is put, then the quotient -/
theorem qr_make {w w1 w2 w3 : World} {gz gr : Nat} {tz tr : TypeId} {a b a' b' : Value} {Q R : Int} (hne : gz ≠ gr) (hz : Blk w gz tz #[a, b]) (hzt : tz ≠ 110) (hr : Blk w gr tr #[a', b']) (hrt : tr ≠ 110) (hb : Below w.heap.size w w1) (h2 : Put w1 w2 gr 0 R) (h3 : Put w2 w3 gz 0 Q) : QR w w3 gz gr tz tr Q R := by
  have hz1 := hz.below hb hz.lt
  have hr1 := hr.below hb hr.lt
  obtain ⟨e1, A, n, c, o1⟩ := h2.own hr1
  have hz2 := hz1.grown e1 (by simp; exact hne)
  obtain ⟨e2, A2, n2, c2, o2⟩ := h3.own hz2
  exact ⟨.one (.two (.none_ .refl (only_of_below hb none)) e1 (urow_not hr1 hrt)) e2 (urow_not hz2 hzt), ⟨A2, n2, c2, o2⟩, A, n, c, o1.grown e2 (fun e => hne e.symm) (urow_not hz2 hzt)⟩
theorem tdiv_small {x y : Int} (h : x.natAbs < y.natAbs) : x.tdiv y = 0 ∧ x.tmod y = x := by
  have h1 : x.tdiv y = 0 := by
    have := Int.natAbs_tdiv x y
    have h2 : x.natAbs.div y.natAbs = 0 := Nat.div_eq_of_lt h
    rw [h2] at this
    omega
  refine ⟨h1, ?_⟩
  have h2 := Int.mul_tdiv_add_tmod x y
  rw [h1, Int.mul_zero, Int.zero_add] at h2
  exact h2
/-- what the long division is to answer -/
def PartsP (N D : Nat) (L : Nat) (w : World) (e : Ending) (w' : World) : Prop := ∃ v1 l1 v2 l2, e = .returned (.tuple #[v1, v2]) ∧ OwnU w' w.heap.size v1 l1 ∧ OwnU w' w.heap.size v2 l2 ∧ valL l1 = N / D ∧ valL l2 = N % D ∧ l1.length ≤ L ∧ l2.length ≤ L ∧ Below w.heap.size w w'
def PartsSpec : Prop := ∀ (A : Option Addr) (n c : Nat) (l : List Nat) (A2 : Option Addr) (n2 c2 : Nat) (m : List Nat) (w : World), DigsB w w.heap.size A n l → DigsB w w.heap.size A2 n2 m → n ≤ 50000 → n2 ≤ 50000 → n ≤ c → c ≤ maxLen → n2 ≤ c2 → c2 ≤ maxLen → Canon l → Canon m → 0 < valL m → valL m ≤ valL l →
  Calls Tryz.prog 105 #[.slice A n c, .slice A2 n2 c2] w (PartsP (valL l) (valL m) (n + 1) w)
theorem sgn_quo {x y : Int} {l : List Nat} (h : valL l = x.natAbs / y.natAbs) : sgnD (decide (x < 0) != decide (y < 0)) l = x.tdiv y := by
  unfold sgnD
  rw [h]
  by_cases hx : x < 0 <;> by_cases hy : y < 0
  · obtain ⟨p, rfl⟩ : ∃ p : Nat, x = -(p : Int) := ⟨x.natAbs, by omega⟩
    obtain ⟨q, rfl⟩ : ∃ q : Nat, y = -(q : Int) := ⟨y.natAbs, by omega⟩
    rw [decide_eq_true hx, decide_eq_true hy, if_neg (by simp), Int.natAbs_neg, Int.natAbs_neg, Int.natAbs_natCast, Int.natAbs_natCast, Int.neg_tdiv, Int.tdiv_neg, Int.neg_neg]
    rfl
  · obtain ⟨p, rfl⟩ : ∃ p : Nat, x = -(p : Int) := ⟨x.natAbs, by omega⟩
    obtain ⟨q, rfl⟩ := Int.eq_ofNat_of_zero_le (show 0 ≤ y by omega)
    rw [decide_eq_true hx, decide_eq_false hy, if_pos (by simp), Int.natAbs_neg, Int.natAbs_natCast, Int.natAbs_natCast, Int.neg_tdiv]
    rfl
  · obtain ⟨p, rfl⟩ := Int.eq_ofNat_of_zero_le (show 0 ≤ x by omega)
    obtain ⟨q, rfl⟩ : ∃ q : Nat, y = -(q : Int) := ⟨y.natAbs, by omega⟩
    rw [decide_eq_false hx, decide_eq_true hy, if_pos (by simp), Int.natAbs_neg, Int.natAbs_natCast, Int.natAbs_natCast, Int.tdiv_neg]
    rfl
  · obtain ⟨p, rfl⟩ := Int.eq_ofNat_of_zero_le (show 0 ≤ x by omega)
    obtain ⟨q, rfl⟩ := Int.eq_ofNat_of_zero_le (show 0 ≤ y by omega)
    rw [decide_eq_false hx, decide_eq_false hy, if_neg (by simp), Int.natAbs_natCast, Int.natAbs_natCast]
    rfl
theorem sgn_rem {x y : Int} {l : List Nat} (h : valL l = x.natAbs % y.natAbs) : sgnD (decide (x < 0)) l = x.tmod y := by
  unfold sgnD
  rw [h]
  have hy : x.tmod y = x.tmod (y.natAbs : Int) := by
    rcases Int.natAbs_eq y with h | h
    · rw [← h]
    · rw [show x.tmod y = x.tmod (-(y.natAbs : Int)) by rw [← h], Int.tmod_neg]
  rw [hy]
  by_cases hx : x < 0
  · obtain ⟨p, rfl⟩ : ∃ p : Nat, x = -(p : Int) := ⟨x.natAbs, by omega⟩
    rw [decide_eq_true hx, if_pos rfl, Int.natAbs_neg, Int.natAbs_natCast, Int.neg_tmod]
    rfl
  · obtain ⟨p, rfl⟩ := Int.eq_ofNat_of_zero_le (show 0 ≤ x by omega)
    rw [decide_eq_false hx, if_neg (by simp), Int.natAbs_natCast]
    rfl
end Go.Proofs.YtkkpfdfoojcljaaGreat
namespace Go.Proofs.YtkkpfdfoojcljaaGreat
open Go.RowKit

set_option maxRecDepth 100000 in
set_option maxHeartbeats 8000000 in
theorem quoRem_small (gz gr : Nat) (tz tr : TypeId) (a b a' b' : Value) (gx : Nat) (x : Int) (A : Option Addr) (n c : Nat) (gy : Nat) (y : Int) (A2 : Option Addr) (n2 c2 : Nat) (w : World) (hne : gz ≠ gr) (hz : Blk w gz tz #[a, b]) (hzt : tz ≠ 110) (hr : Blk w gr tr #[a', b']) (hrt : tr ≠ 110)
    (h : IntAt w gx 0 x A n c) (h2 : IntAt w gy 0 y A2 n2 c2) (hn : n ≤ 50000) (hn2 : n2 ≤ 50000) (hlt : x.natAbs < y.natAbs) :
    Calls Tryz.prog 95 #[.pointer (some ⟨gz, 0, none⟩), .pointer (some ⟨gx, 0, none⟩), .pointer (some ⟨gy, 0, none⟩), .pointer (some ⟨gr, 0, none⟩)] w fun e w' => e = .returned (.tuple #[.pointer (some ⟨gz, 0, none⟩), .pointer (some ⟨gr, 0, none⟩)]) ∧ QR w w' gz gr tz tr (x.tdiv y) (x.tmod y) := by
  obtain ⟨q1, q2⟩ := tdiv_small hlt
  rw [q1, q2]
  have HC := Lib.hid (wCmpAbs_any gx 0 x A n c gy 0 y A2 n2 c2 w h h2 (by omega) (by omega))
  have hcm : cmpN x.natAbs y.natAbs = -1 := cmpN_lt hlt
  have HH := Lib.hid (And.intro hz (And.intro hzt (And.intro hr (And.intro hrt h))))
  clear hz hzt hr hrt h h2 q1 q2
  go_enter Tryz.func95, Tryz.ntmps95
  go_wp2_with fail
  refine HC.out.mono ?_
  rintro e w1 ⟨rfl, hb1⟩
  rw [hcm]
  have HB := Lib.hid hb1
  have HS := Lib.hid (wSet_any gr 0 gx 0 tr #[a', b'] x A n c w1 (HH.out.2.2.1.below hb1 HH.out.2.2.1.lt) HH.out.2.2.2.1 (by simp) (HH.out.2.2.2.2.below hb1) (by omega))
  clear hb1
  go_wp2_with fail
  refine HS.out.mono ?_
  rintro e w2 ⟨rfl, hp⟩
  have hr1 := HH.out.2.2.1.below HB.out HH.out.2.2.1.lt
  have hz1 := HH.out.1.below HB.out HH.out.1.lt
  have hz2 := hz1.grown (hp.own hr1).1 (by simp; exact hne)
  have HS2 := Lib.hid (wSetInt64_any gz tz a b 0 w2 hz2 HH.out.2.1 (by unfold I64; omega))
  have HP := Lib.hid hp
  clear hp hr1 hz1 hz2
  go_wp2_with fail
  refine HS2.out.mono ?_
  rintro e w3 ⟨rfl, hp⟩
  have HP2 := Lib.hid hp
  clear hp
  go_wp2_with fail
  go_ret2
  exact ⟨rfl, qr_make hne HH.out.1 HH.out.2.1 HH.out.2.2.1 HH.out.2.2.2.1 HB.out HP.out HP2.out⟩
theorem Own1.sign {w : World} {g : Nat} {t : TypeId} {s : Bool} {A : Option Addr} {n c : Nat} {l : List Nat} (h : Own1 w g t s A n c l) (s' : Bool) : Own1 (w.setCell ⟨g, 0, none⟩ (.bool s')) g t s' A n c l :=
  ⟨h.blk.set_ 0 _, h.ne, h.nc, h.cm, digsT_grown h.digs (one_only (only_refl w (some g)) 0 _) (fun x hx => by injection hx with hx; subst hx; exact urow_not h.blk h.ne)⟩
set_option maxRecDepth 100000 in
set_option maxHeartbeats 8000000 in
theorem quoRem_two (gz gr : Nat) (tz tr : TypeId) (a b a' b' : Value) (gx : Nat) (x : Int) (A : Option Addr) (n c : Nat) (gy : Nat) (y : Int) (A2 : Option Addr) (n2 c2 : Nat) (w : World) (hne : gz ≠ gr) (hz : Blk w gz tz #[a, b]) (hzt : tz ≠ 110) (hr : Blk w gr tr #[a', b']) (hrt : tr ≠ 110)
    (h : IntAt w gx 0 x A n c) (h2 : IntAt w gy 0 y A2 n2 c2) (hn : n ≤ 2) (hle : y.natAbs ≤ x.natAbs) (hy0 : ¬ y = 0) :
    Calls Tryz.prog 95 #[.pointer (some ⟨gz, 0, none⟩), .pointer (some ⟨gx, 0, none⟩), .pointer (some ⟨gy, 0, none⟩), .pointer (some ⟨gr, 0, none⟩)] w fun e w' => e = .returned (.tuple #[.pointer (some ⟨gz, 0, none⟩), .pointer (some ⟨gr, 0, none⟩)]) ∧ QR w w' gz gr tz tr (x.tdiv y) (x.tmod y) := by
  have hn2 : n2 ≤ 2 := by rw [← h2.digs.len]; exact Nat.le_trans (digN_mono hle) (by rw [h.digs.len]; exact hn)
  have HC := Lib.hid (wCmpAbs_any gx 0 x A n c gy 0 y A2 n2 c2 w h h2 (by omega) (by omega))
  have hcm : ¬ cmpN x.natAbs y.natAbs < 0 := by unfold cmpN; rw [if_neg (by omega)]; split <;> omega
  have hX64 : x.natAbs < 18446744073709551616 := by
    have h1 := val_lt (canon_digN x.natAbs).1
    rw [val_digN, h.digs.len] at h1
    exact Nat.lt_of_lt_of_le h1 (Nat.pow_le_pow_right (n := 4294967296) (by omega) hn)
  have HH := Lib.hid (And.intro hz (And.intro hzt (And.intro hr (And.intro hrt (And.intro h h2)))))
  clear hz hzt hr hrt h h2
  go_enter Tryz.func95, Tryz.ntmps95
  go_wp2_with fail
  refine HC.out.mono ?_
  rintro e w1 ⟨rfl, hb1⟩
  have hx1 := HH.out.2.2.2.2.1.below hb1
  have hy1 := HH.out.2.2.2.2.2.below hb1
  have c0 := hx1.neg
  have c1 : w1.cell? ⟨gx, 1, none⟩ = some (.slice A n c) := hx1.row
  have d0 := hy1.neg
  have HB := Lib.hid hb1
  have HX := Lib.hid (And.intro hx1 hy1)
  have hnI : (n : Int) < 3 := by omega
  clear hb1 hx1 hy1
  go_wp2_with fail
  go_quiet (fail)
  obtain ⟨wc, hwc⟩ : ∃ wc, w1.drewN nq = wc := ⟨_, rfl⟩
  have hbc : Below w1.heap.size w1 wc := by rw [← hwc]; exact below_drewN (Below.refl _ _) _
  have k1 : wc.cell? ⟨gx, 1, none⟩ = some (.slice A n c) := (HX.out.1.below hbc).row
  rw [hwc]
  clear hwc c0 c1 d0
  have HU := Lib.hid (wUint64_any gx 0 x A n c wc (HX.out.1.below hbc) hn)
  have HU2 := Lib.hid (wUint64_any gy 0 y A2 n2 c2 wc (HX.out.2.below hbc) hn2)
  have HBc := Lib.hid (HB.out.trans (hbc.mono HB.out.size))
  clear hbc HX
  go_wp2_with fail
  refine HU.out.mono ?_
  rintro e w9 ⟨rfl, hw⟩
  subst hw
  go_wp2_with fail
  refine HU2.out.mono ?_
  rintro e w9 ⟨rfl, hw⟩
  subst hw
  obtain ⟨X, hX⟩ : ∃ X, x.natAbs = X := ⟨_, rfl⟩
  obtain ⟨Y, hY⟩ : ∃ Y, y.natAbs = Y := ⟨_, rfl⟩
  have hY0 : Y ≠ 0 := by omega
  have hX64' : X < 18446744073709551616 := by omega
  have HXY := Lib.hid (And.intro hX hY)
  rw [hX, hY]
  have hYz : ((Y : Int) == 0) = false := beq_eq_false_iff_ne.2 (by omega)
  obtain ⟨q, hq⟩ : ∃ q, X / Y = q := ⟨_, rfl⟩
  obtain ⟨m, hm⟩ : ∃ m, X % Y = m := ⟨_, rfl⟩
  have hqX : q ≤ X := by rw [← hq]; exact Nat.div_le_self _ _
  have hmX : m ≤ X := by rw [← hm]; exact Nat.mod_le _ _
  have hqI : (X : Int) / (Y : Int) = (q : Int) := by rw [← hq]; exact (Int.natCast_ediv X Y).symm
  have hmI : (X : Int) % (Y : Int) = (m : Int) := by rw [← hm]; exact (Int.natCast_emod X Y).symm
  have hwq : IntKind.u64.wrap (q : Int) = (q : Int) := by rw [IntKind.wrap_u64]; omega
  have hwm : IntKind.u64.wrap (m : Int) = (m : Int) := by rw [IntKind.wrap_u64]; omega
  have HQM := Lib.hid (And.intro hq hm)
  have hzc := HH.out.1.below HBc.out HH.out.1.lt
  have hrc := HH.out.2.2.1.below HBc.out HH.out.2.2.1.lt
  have HS := Lib.hid (wSetUint64_any gz tz a b q wc hzc HH.out.2.1 (by omega))
  have HKc := Lib.hid (And.intro hzc hrc)
  clear hq hm hX hY hX64 hzc hrc
  go_wp2_with fail
  refine HS.out.mono ?_
  rintro e w2 ⟨rfl, hp⟩
  obtain ⟨g2, Aq, nq', cq, oq⟩ := hp.own HKc.out.1
  have hr2 := HKc.out.2.grown g2 (by simp; exact fun e => hne e.symm)
  have HS2 := Lib.hid (wSetUint64_any gr tr a' b' m w2 hr2 HH.out.2.2.2.1 (by omega))
  have H2 := Lib.hid (And.intro g2 (And.intro oq hr2))
  clear hp g2 oq hr2
  go_wp2_with fail
  refine HS2.out.mono ?_
  rintro e w3 ⟨rfl, hp⟩
  obtain ⟨g3, Am, nm, cm, om⟩ := hp.own H2.out.2.2
  have oq3 := H2.out.2.1.grown g3 hne (urow_not H2.out.2.2 HH.out.2.2.2.1)
  have y0 : w3.cell? ⟨gz, 0, none⟩ = some (.bool (decide ((q : Int) < 0))) := oq3.blk.cell 0
  have y1 : w3.cell? ⟨gr, 0, none⟩ = some (.bool (decide ((m : Int) < 0))) := om.blk.cell 0
  have z0 := oq3.blk.frozen 0
  have z1 := om.blk.frozen 0
  have gl0 := oq3.blk.lt
  have gl1 := om.blk.lt
  have H3 := Lib.hid (And.intro g3 (And.intro oq3 om))
  clear hp g3 oq3 om
  go_wp2_with fail
  have o1 := one_only (only_refl w3 (some gz)) 0 (.bool (decide (x < 0) != decide (y < 0)))
  have oq4 := H3.out.2.1.sign (decide (x < 0) != decide (y < 0))
  have om4 := H3.out.2.2.grown o1 (fun e => hne e.symm) (urow_not H3.out.2.1.blk H3.out.2.1.ne)
  have o2 := one_only (only_refl (w3.setCell ⟨gz, 0, none⟩ (.bool (decide (x < 0) != decide (y < 0)))) (some gr)) 0 (.bool (decide (x < 0)))
  have oq5 := oq4.grown o2 hne (urow_not om4.blk om4.ne)
  have om5 := om4.sign (decide (x < 0))
  have HW := Lib.hid (And.intro o1 (And.intro o2 (And.intro oq4 (And.intro om4 (And.intro oq5 om5)))))
  have HT := Lib.hid (wTrim_any gz tz (decide (x < 0) != decide (y < 0)) Aq nq' cq _ _ oq5)
  clear o1 o2 oq4 om4 oq5 om5 y0 y1 z0 z1
  refine HT.out.mono ?_
  rintro e w4 ⟨rfl, hp4⟩
  have hvq : valL (digN ((q : Int)).natAbs) = x.natAbs / y.natAbs := by rw [val_digN, Int.natAbs_natCast, HXY.out.1, HXY.out.2, HQM.out.1]
  have hvm : valL (digN ((m : Int)).natAbs) = x.natAbs % y.natAbs := by rw [val_digN, Int.natAbs_natCast, HXY.out.1, HXY.out.2, HQM.out.2]
  rw [sgn_quo hvq] at hp4
  obtain ⟨g4, Az, nz, cz, oz⟩ := hp4.own HW.out.2.2.2.2.1.blk
  have om6 := HW.out.2.2.2.2.2.grown g4 (fun e => hne e.symm) (urow_not HW.out.2.2.2.2.1.blk HW.out.2.2.2.2.1.ne)
  have HT2 := Lib.hid (wTrim_any gr tr (decide (x < 0)) Am nm cm _ _ om6)
  have H4 := Lib.hid (And.intro g4 (And.intro oz (And.intro om6 hvm)))
  clear hp4 g4 oz om6 hvq hvm
  go_wp2_with fail
  refine HT2.out.mono ?_
  rintro e w5 ⟨rfl, hp5⟩
  rw [sgn_rem H4.out.2.2.2] at hp5
  obtain ⟨g5, Ar, nr, cr, or5⟩ := hp5.own H4.out.2.2.1.blk
  have H5 := Lib.hid (And.intro g5 or5)
  clear hp5 g5 or5
  go_wp2_with fail
  go_ret2
  refine ⟨rfl, ?_, ⟨Az, nz, cz, H4.out.2.1.grown H5.out.1 hne (urow_not H4.out.2.2.1.blk H4.out.2.2.1.ne)⟩, Ar, nr, cr, H5.out.2⟩
  have s0 : Grow2 gz gr w wc := .none_ .refl (only_of_below HBc.out none)
  have s1 : Grow2 gz gr w w2 := .one s0 H2.out.1 (urow_not HKc.out.1 HH.out.2.1)
  have s2 : Grow2 gz gr w w3 := .two s1 H3.out.1 (urow_not H2.out.2.2 HH.out.2.2.2.1)
  have s3 := Grow2.one s2 HW.out.1 (urow_not H3.out.2.1.blk H3.out.2.1.ne)
  have s4 := Grow2.two s3 HW.out.2.1 (urow_not HW.out.2.2.2.1.blk HW.out.2.2.2.1.ne)
  have s5 := Grow2.one s4 H4.out.1 (urow_not HW.out.2.2.2.2.1.blk HW.out.2.2.2.2.1.ne)
  exact .two s5 H5.out.1 (urow_not H4.out.2.2.1.blk H4.out.2.2.1.ne)
set_option maxRecDepth 100000 in
set_option maxHeartbeats 8000000 in
theorem quoRem_parts (HP : PartsSpec) (gz gr : Nat) (tz tr : TypeId) (a b a' b' : Value) (gx : Nat) (x : Int) (A : Option Addr) (n c : Nat) (gy : Nat) (y : Int) (A2 : Option Addr) (n2 c2 : Nat) (w : World) (hne : gz ≠ gr) (hz : Blk w gz tz #[a, b]) (hzt : tz ≠ 110) (hr : Blk w gr tr #[a', b']) (hrt : tr ≠ 110)
    (h : IntAt w gx 0 x A n c) (h2 : IntAt w gy 0 y A2 n2 c2) (hn : 3 ≤ n) (hn5 : n ≤ 50000) (hle : y.natAbs ≤ x.natAbs) (hy0 : ¬ y = 0) :
    Calls Tryz.prog 95 #[.pointer (some ⟨gz, 0, none⟩), .pointer (some ⟨gx, 0, none⟩), .pointer (some ⟨gy, 0, none⟩), .pointer (some ⟨gr, 0, none⟩)] w fun e w' => e = .returned (.tuple #[.pointer (some ⟨gz, 0, none⟩), .pointer (some ⟨gr, 0, none⟩)]) ∧ QR w w' gz gr tz tr (x.tdiv y) (x.tmod y) := by
  have hn2 : n2 ≤ n := by rw [← h2.digs.len, ← h.digs.len]; exact digN_mono hle
  have HC := Lib.hid (wCmpAbs_any gx 0 x A n c gy 0 y A2 n2 c2 w h h2 (by omega) (by omega))
  have hcm : ¬ cmpN x.natAbs y.natAbs < 0 := by unfold cmpN; rw [if_neg (by omega)]; split <;> omega
  have HH := Lib.hid (And.intro hz (And.intro hzt (And.intro hr (And.intro hrt (And.intro h h2)))))
  clear hz hzt hr hrt h h2
  go_enter Tryz.func95, Tryz.ntmps95
  go_wp2_with fail
  refine HC.out.mono ?_
  rintro e w1 ⟨rfl, hb1⟩
  have hx1 := HH.out.2.2.2.2.1.below hb1
  have hy1 := HH.out.2.2.2.2.2.below hb1
  have c0 := hx1.neg
  have c1 : w1.cell? ⟨gx, 1, none⟩ = some (.slice A n c) := hx1.row
  have d0 := hy1.neg
  have HB := Lib.hid hb1
  have HX := Lib.hid (And.intro hx1 hy1)
  have hnI : ¬ (n : Int) < 3 := by omega
  clear hb1 hx1 hy1
  go_wp2_with fail
  go_quiet (fail)
  obtain ⟨wc, hwc⟩ : ∃ wc, w1.drewN nq = wc := ⟨_, rfl⟩
  have hbc : Below w1.heap.size w1 wc := by rw [← hwc]; exact below_drewN (Below.refl _ _) _
  have k1 : wc.cell? ⟨gx, 1, none⟩ = some (.slice A n c) := (HX.out.1.below hbc).row
  have k2 : wc.cell? ⟨gy, 1, none⟩ = some (.slice A2 n2 c2) := (HX.out.2.below hbc).row
  rw [hwc]
  clear hwc c0 c1 d0
  have hx2 := HX.out.1.below hbc
  have hy2 := HX.out.2.below hbc
  have HBc := Lib.hid (HB.out.trans (hbc.mono HB.out.size))
  have hbd : Below wc.heap.size wc wc.drew := (Below.refl _ _).drew
  have HC2 := Lib.hid (HP A n c (digN x.natAbs) A2 n2 c2 (digN y.natAbs) wc.drew (hx2.digsB.later hbd) (hy2.digsB.later hbd) hn5 (by omega) hx2.nc hx2.cm hy2.nc hy2.cm (canon_digN _) (canon_digN _) (by rw [val_digN]; omega) (by rw [val_digN, val_digN]; exact hle))
  clear hbc HX hx2 hy2 hbd
  go_wp2_with fail
  go_region_law (first
    | (go_simp
       go_at_call 105
       refine HC2.out.mono ?_
       rintro e w6 ⟨v1, l1, v2, l2, rfl, ho1, ho2, hq, hm, hl1, hl2, hb6⟩
       obtain ⟨A7, c7, rfl, -, -⟩ := ho1.len
       obtain ⟨A8, c8, rfl, -, -⟩ := ho2.len
       have hb6' := below_of_drew hb6
       have H6 := Lib.hid (And.intro (HBc.out.trans (hb6'.mono HBc.out.size)) (And.intro ho1 (And.intro ho2 (And.intro hq hm))))
       clear ho1 ho2 hq hm hl1 hl2 hb6 hb6')
    | fail)
  all_goals
    have kz6 := HH.out.1.below H6.out.1 HH.out.1.lt
    have kr6 := HH.out.2.2.1.below H6.out.1 HH.out.2.2.1.lt
    have y0 : w6.cell? ⟨gz, 0, none⟩ = some a := kz6.cell 0
    have y1 : w6.cell? ⟨gz, 1, none⟩ = some b := kz6.cell 1
    have y2 : w6.cell? ⟨gr, 0, none⟩ = some a' := kr6.cell 0
    have y3 : w6.cell? ⟨gr, 1, none⟩ = some b' := kr6.cell 1
    have z0 := kz6.frozen 0
    have z1 := kz6.frozen 1
    have z2 := kr6.frozen 0
    have z3 := kr6.frozen 1
    have gl0 := kz6.lt
    have gl1 := kr6.lt
    have HK6 := Lib.hid (And.intro kz6 kr6)
    clear kz6 kr6
    go_wp2_with fail
    have oz1 := head_made (s := (decide (x < 0) != decide (y < 0))) HH.out.1 HH.out.2.1 H6.out.1 H6.out.2.1
    obtain ⟨-, r1, r2, r3⟩ := own_urow H6.out.2.2.1 rfl (fun b hb => False.elim hb)
    have o1 : w6.grownBy _ (some gz) := two_only w6 gz (.bool (decide (x < 0) != decide (y < 0))) (.slice A7 l1.length c7)
    have krW := HK6.out.2.grown o1 (by simp; exact fun e => hne e.symm)
    have r4 := digsT_grown r3 o1 (fun u hu => by injection hu with hu; subst hu; exact urow_not HK6.out.1 HH.out.2.1)
    have o2 := two_only (two w6 gz (.bool (decide (x < 0) != decide (y < 0))) (.slice A7 l1.length c7)) gr (.bool (decide (x < 0))) (.slice A8 l2.length c8)
    have hu1 := urow_not krW HH.out.2.2.2.1
    have or2 : Own1 _ gr tr (decide (x < 0)) A8 l2.length c8 l2 := ⟨two_blk krW _ _, HH.out.2.2.2.1, r1, r2, digsT_grown r4 o2 (fun u hu => by injection hu with hu; subst hu; exact hu1)⟩
    have oz2 := Own1.grown oz1.1 o2 hne hu1
    have HW := Lib.hid (And.intro o1 (And.intro o2 (And.intro hu1 (And.intro oz2 or2))))
    have HT := Lib.hid (wTrim_any gz tz (decide (x < 0) != decide (y < 0)) A7 _ c7 l1 _ oz2)
    clear oz1 r1 r2 r3 o1 krW r4 o2 hu1 or2 oz2 y0 y1 y2 y3 z0 z1 z2 z3
    refine HT.out.mono ?_
    rintro e w4 ⟨rfl, hp4⟩
    have hvq : valL l1 = x.natAbs / y.natAbs := by rw [H6.out.2.2.2.1, val_digN, val_digN]
    have hvm : valL l2 = x.natAbs % y.natAbs := by rw [H6.out.2.2.2.2, val_digN, val_digN]
    rw [sgn_quo hvq] at hp4
    obtain ⟨g4, Az, nz, cz, oz⟩ := hp4.own HW.out.2.2.2.1.blk
    have om6 := HW.out.2.2.2.2.grown g4 (fun e => hne e.symm) (urow_not HW.out.2.2.2.1.blk HW.out.2.2.2.1.ne)
    have HT2 := Lib.hid (wTrim_any gr tr (decide (x < 0)) A8 _ c8 _ _ om6)
    have H4 := Lib.hid (And.intro g4 (And.intro oz (And.intro om6 hvm)))
    clear hp4 g4 oz om6 hvq hvm
    go_wp2_with fail
    refine HT2.out.mono ?_
    rintro e w5 ⟨rfl, hp5⟩
    rw [sgn_rem H4.out.2.2.2] at hp5
    obtain ⟨g5, Ar, nr, cr, or5⟩ := hp5.own H4.out.2.2.1.blk
    have H5 := Lib.hid (And.intro g5 or5)
    clear hp5 g5 or5
    go_wp2_with fail
    go_ret2
    refine ⟨rfl, ?_, ⟨Az, nz, cz, H4.out.2.1.grown H5.out.1 hne (urow_not H4.out.2.2.1.blk H4.out.2.2.1.ne)⟩, Ar, nr, cr, H5.out.2⟩
    have s0 : Grow2 gz gr w w6 := .none_ .refl (only_of_below H6.out.1 none)
    have s3 := Grow2.one s0 HW.out.1 (urow_not HK6.out.1 HH.out.2.1)
    have s4 := Grow2.two s3 HW.out.2.1 HW.out.2.2.1
    have s5 := Grow2.one s4 H4.out.1 (urow_not HW.out.2.2.2.1.blk HW.out.2.2.2.1.ne)
    exact .two s5 H5.out.1 (urow_not H4.out.2.2.1.blk H4.out.2.2.1.ne)
theorem wQuoRem_any (HP : PartsSpec) (gz gr : Nat) (tz tr : TypeId) (a b a' b' : Value) (gx : Nat) (x : Int) (A : Option Addr) (n c : Nat) (gy : Nat) (y : Int) (A2 : Option Addr) (n2 c2 : Nat) (w : World) (hne : gz ≠ gr) (hz : Blk w gz tz #[a, b]) (hzt : tz ≠ 110) (hr : Blk w gr tr #[a', b']) (hrt : tr ≠ 110)
    (h : IntAt w gx 0 x A n c) (h2 : IntAt w gy 0 y A2 n2 c2) (hn : n ≤ 50000) (hn2 : n2 ≤ 50000) (hy0 : ¬ y = 0) :
    Calls Tryz.prog 95 #[.pointer (some ⟨gz, 0, none⟩), .pointer (some ⟨gx, 0, none⟩), .pointer (some ⟨gy, 0, none⟩), .pointer (some ⟨gr, 0, none⟩)] w fun e w' => e = .returned (.tuple #[.pointer (some ⟨gz, 0, none⟩), .pointer (some ⟨gr, 0, none⟩)]) ∧ QR w w' gz gr tz tr (x.tdiv y) (x.tmod y) := by
  by_cases hlt : x.natAbs < y.natAbs
  · exact quoRem_small gz gr tz tr a b a' b' gx x A n c gy y A2 n2 c2 w hne hz hzt hr hrt h h2 hn hn2 hlt
  · by_cases h3 : n ≤ 2
    · exact quoRem_two gz gr tz tr a b a' b' gx x A n c gy y A2 n2 c2 w hne hz hzt hr hrt h h2 h3 (by omega) hy0
    · exact quoRem_parts HP gz gr tz tr a b a' b' gx x A n c gy y A2 n2 c2 w hne hz hzt hr hrt h h2 (by omega) hn (by omega) hy0
end Go.Proofs.YtkkpfdfoojcljaaGreat
