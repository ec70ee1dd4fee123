/- The reference's fractions: Add, Sub, Cmp (printed by genFhW.py). · The reference's RowHolds: a row, of numbers, by its fractions. -/
import Derived.Test.YtkkpfdfoojcljaaGreatFhQT
import Derived.Test.YtkkpfdfoojcljaaGreatLhKL
import Derived.StillTailTactics
namespace Go.Proofs.YtkkpfdfoojcljaaGreat
open Go.RowKit

theorem add_len {x y : Int} {n : Nat} (h : (digN x.natAbs).length ≤ n) (h2 : (digN y.natAbs).length ≤ n) : (digN (x + y).natAbs).length ≤ n + 1 := by
  apply digN_len
  have h1 := val_lt (canon_digN x.natAbs).1
  have h3 := val_lt (canon_digN y.natAbs).1
  rw [val_digN] at h1 h3
  have h4 := Nat.lt_of_lt_of_le h1 (Nat.pow_le_pow_right (by omega) h)
  have h5 := Nat.lt_of_lt_of_le h3 (Nat.pow_le_pow_right (by omega) h2)
  rw [Nat.pow_succ]
  omega
theorem mkRat_add (a b : Rat) : mkRat (a.num * (b.den : Int) + b.num * (a.den : Int)) (a.den * b.den) = a + b := by
  rw [← Rat.mkRat_add_mkRat _ _ (Nat.ne_of_gt a.den_pos) (Nat.ne_of_gt b.den_pos), Rat.mkRat_self, Rat.mkRat_self]
/-- the product of two numbers that two calls make, into a new number made ahead of them -/
theorem mul_mk {W w1 w2 : World} {g1 g2 : Nat} {x y : Int} {K L : Nat} (h1 : Made (W.alloc (.cells #[.bool false, .slice none 0 0] 72)) w1 g1 x) (h2 : Made w1 w2 g2 y) (hx : (digN x.natAbs).length ≤ K) (hy : (digN y.natAbs).length ≤ L) (hK : K ≤ 20000) (hL : L ≤ 20000) :
    Calls Tryz.prog 53 #[.pointer (some ⟨W.heap.size, 0, none⟩), .pointer (some ⟨g1, 0, none⟩), .pointer (some ⟨g2, 0, none⟩)] w2 fun e w' => e = .returned (.pointer (some ⟨W.heap.size, 0, none⟩)) ∧ Made W w' W.heap.size (x * y) := by
  have hb0 : Below W.heap.size W (W.alloc (.cells #[.bool false, .slice none 0 0] 72)) := (Below.refl _ _).alloc (Nat.le_refl _) _
  have hk0 := Blk.new W 72 #[.bool false, .slice none 0 0]
  obtain ⟨A, n, c, i1, e1⟩ := h1.at_
  obtain ⟨A2, n2, c2, i2, e2⟩ := h2.at_
  have hb2 : Below W.heap.size W w2 := hb0.trans ((h1.1.mono hb0.size).trans (h2.1.mono (Nat.le_trans hb0.size h1.1.size)))
  have hk2 : Blk w2 W.heap.size 72 #[.bool false, .slice none 0 0] := (hk0.below h1.1 hk0.lt).below h2.1 (Nat.lt_of_lt_of_le hk0.lt h1.1.size)
  exact (wMul_any W.heap.size 72 _ _ g1 x A n c g2 y A2 n2 c2 w2 hk2 (by decide) (i1.below h2.1) i2 (by omega) (by omega)).mono fun e w' h => ⟨h.1, h.2.made hk2 hb2 (Nat.le_refl _)⟩
theorem RatAt.lens {w : World} {g : Nat} {q : Rat} {K : Nat} (h : RatAt w g q K) : (digN q.num.natAbs).length ≤ K ∧ (digN ((q.den : Int)).natAbs).length ≤ K := by
  obtain ⟨A, n, c, A2, n2, c2, i1, i2, i3, i4⟩ := h
  exact ⟨by rw [i1.digs.len]; exact i3, by rw [i2.digs.len]; exact i4⟩
theorem RatAt.le {w : World} {g : Nat} {q : Rat} {K L : Nat} (h : RatAt w g q K) (hL : K ≤ L) : RatAt w g q L := by
  obtain ⟨A, n, c, A2, n2, c2, i1, i2, i3, i4⟩ := h
  exact ⟨A, n, c, A2, n2, c2, i1, i2, by omega, by omega⟩
set_option maxRecDepth 100000 in
set_option maxHeartbeats 6000000 in
theorem rAdd_any (HPS : PartsSpec) (g : Nat) (t : TypeId) (hs : Array Value) (gx : Nat) (q : Rat) (gy : Nat) (r : Rat) (K L : Nat) (w : World) (hk : Blk w g t hs) (ht : t ≠ 110) (hsz : hs.size = 4) (h : RatAt w gx q K) (h2 : RatAt w gy r L) (hK : K ≤ 20000) (hL : L ≤ 20000) :
    Calls Tryz.prog 35 #[.pointer (some ⟨g, 0, none⟩), .pointer (some ⟨gx, 0, none⟩), .pointer (some ⟨gy, 0, none⟩)] w fun e w' => e = .returned (.pointer (some ⟨g, 0, none⟩)) ∧ w.grownBy w' (some g) ∧ RatAt w' g (q + r) (K + L + 1) := by
  have hb0 : Below w.heap.size w (w.alloc (.cells #[.bool false, .slice none 0 0] 72)) := (Below.refl _ _).alloc (Nat.le_refl _) _
  have HC1 := Lib.hid (rNum_any gx q K _ (h.below hb0) (by omega))
  have HL := Lib.hid (And.intro h.lens h2.lens)
  have HH := Lib.hid (And.intro hk (And.intro ht (And.intro hsz (And.intro h (And.intro h2 hb0)))))
  have hg := hk.lt
  have hdp : 0 < q.den * r.den := Nat.mul_pos q.den_pos r.den_pos
  clear hk ht hsz h h2 hb0
  go_enter Tryz.func35, Tryz.ntmps35
  go_wp2_with fail
  refine HC1.out.mono ?_
  rintro e w1 ⟨g1, rfl, hm1⟩
  have HB1 := Lib.hid (And.intro hm1 (HH.out.2.2.2.2.2.trans (hm1.1.mono HH.out.2.2.2.2.2.size)))
  have HC2 := Lib.hid (rDenom_any gy r L w1 (HH.out.2.2.2.2.1.below HB1.out.2) (by omega))
  clear hm1
  go_wp2_with fail
  refine HC2.out.mono ?_
  rintro e w2 ⟨g2, rfl, hm2⟩
  have HM := Lib.hid (mul_mk HB1.out.1 hm2 HL.out.1.1 HL.out.2.2 hK hL)
  clear hm2
  go_wp2_with fail
  refine HM.out.mono ?_
  rintro e w3 ⟨rfl, hm3⟩
  have hb3' : Below w3.heap.size w3 (w3.alloc (.cells #[.bool false, .slice none 0 0] 72)) := (Below.refl _ _).alloc (Nat.le_refl _) _
  have H3 := Lib.hid (And.intro hm3 hb3')
  have HC4 := Lib.hid (rNum_any gy r L _ ((HH.out.2.2.2.2.1.below hm3.1).below hb3') (by omega))
  clear hm3 hb3'
  go_wp2_with fail
  refine HC4.out.mono ?_
  rintro e w4 ⟨g4, rfl, hm4⟩
  have HB4 := Lib.hid (And.intro hm4 (H3.out.2.trans (hm4.1.mono H3.out.2.size)))
  have HC5 := Lib.hid (rDenom_any gx q K w4 ((HH.out.2.2.2.1.below H3.out.1.1).below HB4.out.2) (by omega))
  clear hm4
  go_wp2_with fail
  refine HC5.out.mono ?_
  rintro e w5 ⟨g5, rfl, hm5⟩
  have HM2 := Lib.hid (mul_mk HB4.out.1 hm5 HL.out.2.1 HL.out.1.2 hL hK)
  clear hm5
  go_wp2_with fail
  refine HM2.out.mono ?_
  rintro e w6 ⟨rfl, hm6⟩
  obtain ⟨-, -, A1, n1, c1, o1⟩ := H3.out.1
  obtain ⟨A2, n2, c2, i2, e2⟩ := hm6.at_
  have hb6 : Below w.heap.size w w6 := H3.out.1.1.trans (hm6.1.mono H3.out.1.1.size)
  have hk6 := o1.blk.below hm6.1 o1.blk.lt
  have i1 := o1.at_.below hm6.1
  have l1 : n1 ≤ K + L := by rw [← i1.digs.len]; exact mul_len HL.out.1.1 HL.out.2.2
  have l2 : n2 ≤ L + K := by rw [← i2.digs.len]; exact mul_len HL.out.2.1 HL.out.1.2
  have HA := Lib.hid (wAdd_any w.heap.size 72 _ _ w.heap.size (q.num * (r.den : Int)) A1 n1 c1 w3.heap.size (r.num * (q.den : Int)) A2 n2 c2 w6 hk6 (by decide) i1 i2 (by omega) (by omega))
  have HK6 := Lib.hid (And.intro hk6 hb6)
  clear o1 i1 i2 e2 hm6 hb6 hk6 l1 l2
  go_wp2_with fail
  refine HA.out.mono ?_
  rintro e w7 ⟨rfl, hp7⟩
  have hm7 : Made w w7 w.heap.size (q.num * (r.den : Int) + r.num * (q.den : Int)) := hp7.made HK6.out.1 HK6.out.2 (Nat.le_refl _)
  have hb7' : Below w7.heap.size w7 (w7.alloc (.cells #[.bool false, .slice none 0 0] 72)) := (Below.refl _ _).alloc (Nat.le_refl _) _
  have H7 := Lib.hid (And.intro hm7 hb7')
  have HC8 := Lib.hid (rDenom_any gx q K _ ((HH.out.2.2.2.1.below hm7.1).below hb7') (by omega))
  clear hp7 hm7 hb7'
  go_wp2_with fail
  refine HC8.out.mono ?_
  rintro e w8 ⟨g8, rfl, hm8⟩
  have HB8 := Lib.hid (And.intro hm8 (H7.out.2.trans (hm8.1.mono H7.out.2.size)))
  have HC9 := Lib.hid (rDenom_any gy r L w8 ((HH.out.2.2.2.2.1.below H7.out.1.1).below HB8.out.2) (by omega))
  clear hm8
  go_wp2_with fail
  refine HC9.out.mono ?_
  rintro e w9 ⟨g9, rfl, hm9⟩
  have HM9 := Lib.hid (mul_mk HB8.out.1 hm9 HL.out.1.2 HL.out.2.2 hK hL)
  clear hm9
  go_wp2_with fail
  refine HM9.out.mono ?_
  rintro e w10 ⟨rfl, hm10⟩
  have hbw : Below w.heap.size w w10 := H7.out.1.1.trans (hm10.1.mono H7.out.1.1.size)
  obtain ⟨A3, n3, c3, i3, e3⟩ := H7.out.1.at_
  obtain ⟨A6, n6, c6, i6, e6⟩ := hm10.at_
  rw [← Int.natCast_mul] at i6
  have l3 : n3 ≤ K + L + 1 := by rw [e3]; exact add_len (mul_len HL.out.1.1 HL.out.2.2) (Nat.le_trans (mul_len HL.out.2.1 HL.out.1.2) (Nat.le_of_eq (Nat.add_comm L K)))
  have l6 : n6 ≤ K + L + 1 := by rw [e6]; exact Nat.le_succ_of_le (mul_len HL.out.1.2 HL.out.2.2)
  have HS := Lib.hid (setFrac_any HPS g t hs w.heap.size (q.num * (r.den : Int) + r.num * (q.den : Int)) A3 n3 c3 w7.heap.size (q.den * r.den) A6 n6 c6 w10 (HH.out.1.below hbw hg) HH.out.2.1 HH.out.2.2.1 (i3.below hm10.1) i6 hdp (K + L + 1) l3 l6 (by omega))
  have HB := Lib.hid hbw
  clear hm10 i3 e3 i6 e6 hbw l3 l6
  go_wp2_with fail
  refine HS.out.mono ?_
  rintro e w11 ⟨rfl, hgr, hq⟩
  rw [mkRat_add] at hq
  have HP := Lib.hid (And.intro (only_then (only_of_below HB.out (some g)) hgr (fun x hx => .inr hx)) hq)
  clear hgr hq
  go_wp2_with fail
  go_ret
  exact ⟨rfl, HP.out⟩
set_option maxRecDepth 100000 in
set_option maxHeartbeats 4000000 in
theorem rSub_any (HPS : PartsSpec) (g : Nat) (t : TypeId) (hs : Array Value) (gx : Nat) (q : Rat) (gy : Nat) (r : Rat) (K L : Nat) (w : World) (hk : Blk w g t hs) (ht : t ≠ 110) (hsz : hs.size = 4) (h : RatAt w gx q K) (h2 : RatAt w gy r L) (hK : K ≤ 20000) (hL : L ≤ 20000) :
    Calls Tryz.prog 57 #[.pointer (some ⟨g, 0, none⟩), .pointer (some ⟨gx, 0, none⟩), .pointer (some ⟨gy, 0, none⟩)] w fun e w' => e = .returned (.pointer (some ⟨g, 0, none⟩)) ∧ w.grownBy w' (some g) ∧ RatAt w' g (q - r) (K + L + 1) := by
  have hb0 : Below w.heap.size w (w.alloc (.cells #[.bool false, .slice none 0 0, .bool false, .slice none 0 0] 74)) := (Below.refl _ _).alloc (Nat.le_refl _) _
  have hk0 := Blk.new w 74 #[.bool false, .slice none 0 0, .bool false, .slice none 0 0]
  have HC := Lib.hid (rNeg_any HPS w.heap.size 74 _ gy r L _ hk0 (by decide) (by simp) (h2.below hb0) (by omega))
  have HH := Lib.hid (And.intro hk (And.intro ht (And.intro hsz (And.intro h hb0))))
  have hg := hk.lt
  clear hk ht hsz h h2 hb0 hk0
  go_enter Tryz.func57, Tryz.ntmps57
  go_wp2_with fail
  refine HC.out.mono ?_
  rintro e w1 ⟨rfl, hg1, hq1⟩
  have hb1 : Below w.heap.size w w1 := below_then HH.out.2.2.2.2 hg1 HH.out.2.2.2.2.size (fun x hx => by injection hx with hx; omega)
  have HA := Lib.hid (rAdd_any HPS g t hs gx q w.heap.size (-r) K L w1 (HH.out.1.below hb1 hg) HH.out.2.1 HH.out.2.2.1 (HH.out.2.2.2.1.below hb1) hq1 hK hL)
  have HB := Lib.hid hb1
  clear hg1 hq1 hb1
  go_wp2_with fail
  refine HA.out.mono ?_
  rintro e w2 ⟨rfl, hgr, hq⟩
  rw [← Rat.sub_eq_add_neg] at hq
  have HP := Lib.hid (And.intro (only_then (only_of_below HB.out (some g)) hgr (fun x hx => .inr hx)) hq)
  clear hgr hq
  go_wp2_with fail
  go_ret
  exact ⟨rfl, HP.out⟩
set_option maxRecDepth 100000 in
set_option maxHeartbeats 4000000 in
theorem rCmp_any (HPS : PartsSpec) (gx : Nat) (q : Rat) (gy : Nat) (r : Rat) (K L : Nat) (w : World) (h : RatAt w gx q K) (h2 : RatAt w gy r L) (hK : K ≤ 20000) (hL : L ≤ 20000) :
    Calls Tryz.prog 37 #[.pointer (some ⟨gx, 0, none⟩), .pointer (some ⟨gy, 0, none⟩)] w fun e w' => e = .returned (.int .i64 (sgnI (q - r).num)) ∧ Below w.heap.size w w' := by
  have hb0 : Below w.heap.size w (w.alloc (.cells #[.bool false, .slice none 0 0, .bool false, .slice none 0 0] 74)) := (Below.refl _ _).alloc (Nat.le_refl _) _
  have hk0 := Blk.new w 74 #[.bool false, .slice none 0 0, .bool false, .slice none 0 0]
  have HC := Lib.hid (rSub_any HPS w.heap.size 74 _ gx q gy r K L _ hk0 (by decide) (by simp) (h.below hb0) (h2.below hb0) hK hL)
  have HH := Lib.hid hb0
  clear h h2 hb0 hk0
  go_enter Tryz.func37, Tryz.ntmps37
  go_wp2_with fail
  refine HC.out.mono ?_
  rintro e w1 ⟨rfl, hg1, hq1⟩
  have HS := Lib.hid (rSign_any w.heap.size (q - r) (K + L + 1) w1 hq1)
  have HB := Lib.hid (below_then HH.out hg1 HH.out.size (fun x hx => by injection hx with hx; omega) : Below w.heap.size w w1)
  clear hg1 hq1
  go_wp2_with fail
  refine HS.out.mono ?_
  rintro e w2 ⟨rfl, hw⟩
  subst hw
  go_wp2_with fail
  go_ret
  exact ⟨rfl, HB.out⟩
end Go.Proofs.YtkkpfdfoojcljaaGreat
namespace Go.Proofs.YtkkpfdfoojcljaaGreat
open Go.RowKit

theorem RatAt.grown {w w' : World} {g g' : Nat} {q : Rat} {k : Nat} (h : RatAt w g q k) (hg : w.grownBy w' (some g')) (hne : g' ≠ g) (hu : ¬ URow w g') : RatAt w' g q k := by
  obtain ⟨A, n, c, A2, n2, c2, h1, h2, h3, h4⟩ := h
  exact ⟨A, n, c, A2, n2, c2, h1.grown hg (by simp; exact hne) (fun x hx => by injection hx with hx; subst hx; exact hu), h2.grown hg (by simp; exact hne) (fun x hx => by injection hx with hx; subst hx; exact hu), h3, h4⟩
theorem RatAt.lt {w : World} {g : Nat} {q : Rat} {k : Nat} (h : RatAt w g q k) : g < w.heap.size := by
  obtain ⟨A, n, c, A2, n2, c2, h1, -⟩ := h
  exact h1.lt
theorem sgn_le (z : Int) : (sgnI z ≤ 0 ↔ z ≤ 0) ∧ (sgnI z < 0 ↔ z < 0) ∧ (sgnI z = 0 ↔ z = 0) := by
  unfold sgnI
  by_cases h : z = 0
  · rw [if_pos h]; omega
  · rw [if_neg h]
    by_cases h2 : z < 0
    · rw [if_pos h2]; omega
    · rw [if_neg h2]; omega
theorem sub_num (q r : Rat) : ((q - r).num ≤ 0 ↔ q ≤ r) ∧ ((q - r).num < 0 ↔ q < r) ∧ ((q - r).num = 0 ↔ q = r) := by
  have e1 : (q - r).num ≤ 0 ↔ q ≤ r := by
    rw [Rat.le_iff_sub_nonneg, ← Rat.num_nonneg]
    have e : r - q = -(q - r) := by grind
    have : (r - q).num = -(q - r).num := by rw [e]; rfl
    omega
  have e2 : (q - r).num = 0 ↔ q = r := by
    rw [Rat.num_eq_zero]
    constructor <;> intro h <;> grind
  refine ⟨e1, ?_, e2⟩
  have h3 : q < r ↔ q ≤ r ∧ ¬ q = r := by grind
  rw [h3, ← e1, ← e2]
  omega
theorem mkRat_one (c : Int) : mkRat c 1 = (c : Rat) := by
  have h := Rat.mkRat_self (c : Rat)
  exact h
theorem newInt1 (HPS : PartsSpec) (c : Int) (w : World) (hc : I64 c) :
    Calls Tryz.prog 34 #[.int .i64 c, .int .i64 1] w (NewQ (c : Rat) 2 w) := by
  have h := newRat_any HPS c 1 w hc (by omega) ⟨by omega, by omega⟩
  rw [mkRat_one] at h
  exact h
theorem rat_block {w : World} : ¬ URow (w.alloc (.cells #[.bool false, .slice none 0 0, .bool false, .slice none 0 0] 74)) w.heap.size := urow_not (Blk.new w 74 _) (by decide)
/-- how far the sum has come -/
def RSum (X : World) (xs : List Int) (ys : List FracD) (R : Rat) (g k : Nat) (q : Rat) (wr : World) : Prop :=
  RatAt wr g q (2 + 5 * k) ∧ rowG q (xs.drop k) ((ys.drop k).map ratF) = R ∧ Below X.heap.size X wr
set_option maxRecDepth 100000 in
set_option maxHeartbeats 8000000 in
theorem refRow_any (HPS : PartsSpec) (A B : Option Addr) (n c n2 c2 : Nat) (r : RowD) (ys : List FracD) (w : World) (hxs : IntsB w w.heap.size A n r.of_) (hys : ArrB AtFrac 2 w w.heap.size B n2 ys) (hn2 : n2 ≤ 12) (hR : rowF r n2 = (0, 0)) (hG : ∀ y ∈ ys, fracGood y.num y.den = true) :
    Calls Tryz.prog 19 #[.agg #[.slice A n c, .int .i64 r.kind, .int .i64 r.to_], .slice B n2 c2] w fun e w' => e = .returned (.bool (rowHoldsF r ys)) ∧ Below w.heap.size w w' := by
  obtain ⟨hk0, hln, hal, ht1, ht2⟩ := rowF_good hR
  obtain ⟨xs, kind, tt⟩ := r
  simp only [rowHoldsF] at hxs hln hal hk0 ht1 ht2 ⊢
  have hlen := hxs.len
  have hlen2 := hys.len
  have hn : n ≤ n2 := by omega
  have HAL := Lib.hid (And.intro hal (And.intro hG (And.intro hlen hlen2)))
  obtain ⟨R, hRR⟩ : ∃ R, rowR xs (ys.map ratF) = R := ⟨_, rfl⟩
  rw [hRR]
  have HRR := Lib.hid hRR
  have HT := Lib.hid (And.intro ht1 ht2)
  clear hR hln hal hG hRR hlen hlen2
  obtain ⟨X, hX⟩ : ∃ X, w.alloc (.cells #[.slice A n c, .int .i64 kind, .int .i64 tt] 45) = X := ⟨_, rfl⟩
  have hb0 : Below w.heap.size w X := by rw [← hX]; exact (Below.refl _ _).alloc (Nat.le_refl _) _
  have hk1 : Blk X w.heap.size 45 #[.slice A n c, .int .i64 kind, .int .i64 tt] := by rw [← hX]; exact Blk.new w _ _
  have HC0 := Lib.hid (newInt1 HPS 0 X ⟨by omega, by omega⟩)
  have HX := Lib.hid (And.intro hb0 hk1)
  have HXS := Lib.hid (And.intro hxs hys)
  have HE := Lib.hid hX
  clear hb0 hk1 hxs hys hX
  go_enter Tryz.func19, Tryz.ntmps19
  go_upto_region 1 with fail
  rw [HE.out]
  go_wp2_with fail
  refine HC0.out.mono ?_
  rintro e w0 ⟨g0, rfl, hb1, -, hq0⟩
  have HQ0 := Lib.hid (And.intro hb1 hq0)
  clear hb1 hq0
  go_wp2_with fail
  go_loopw [5, 6] (fun s5 s6 wr => ∃ (k g : Nat) (q : Rat), s5 = .pointer (some ⟨g, 0, none⟩) ∧ s6 = .int .i64 (k : Int) ∧ k ≤ n ∧ Hid (RSum X xs ys R g k q wr)) (fun _ s6 _ => n - (intOf s6).toNat)
  case atStart =>
    refine ⟨0, g0, 0, rfl, rfl, Nat.zero_le _, Lib.hid ⟨by simpa using HQ0.out.2, ?_, HQ0.out.1⟩⟩
    rw [rowG_eq, List.drop_zero, List.drop_zero, HRR.out, Rat.zero_add]
  case round =>
    clear HQ0 HC0
    obtain ⟨k, g, q, rfl, rfl, hk, HK⟩ := hrel
    have hlw : w.heap.size < X.heap.size := HX.out.2.lt
    have hlx : X.heap.size ≤ wr.heap.size := HK.out.2.2.size
    have hkr := HX.out.2.below HK.out.2.2 hlw
    have a0 : wr.cell? ⟨w.heap.size, 0, none⟩ = some (.slice A n c) := hkr.cell 0
    have a1 : wr.cell? ⟨w.heap.size, 1, none⟩ = some (.int .i64 kind) := hkr.cell 1
    have a2 : wr.cell? ⟨w.heap.size, 2, none⟩ = some (.int .i64 tt) := hkr.cell 2
    have hw0 : Below w.heap.size w wr := HX.out.1.trans (HK.out.2.2.mono (Nat.le_of_lt hlw))
    have HW := Lib.hid (And.intro hkr hw0)
    have hlw2 : w.heap.size < wr.heap.size := by omega
    by_cases hlt : k < n
    · obtain ⟨hqat, hg, hbel⟩ := HK.out
      obtain ⟨b1, off1, hx1, rfl, hb1, hcell, -, -⟩ := ints_get (HXS.out.1.below stays_int hw0 (Nat.le_refl _)) hlt
      obtain ⟨b2, off2, hx2, rfl, hb2, n0, n1⟩ := fracs_at (HXS.out.2.below stays_frac hw0 (Nat.le_refl _)) (Nat.lt_of_lt_of_le hlt hn)
      have hxm := HAL.out.1 _ (List.getElem_mem hx1)
      have hym := HAL.out.2.1 _ (List.getElem_mem hx2)
      rw [drop_cons hx1, drop_cons hx2, List.map_cons, rowG] at hg
      generalize xs[k] = cf at hcell hxm hg
      generalize ys[k] = y at n0 n1 hym hg
      obtain ⟨nm, dn⟩ := y
      simp only [fracGood, decide_eq_true_eq] at n0 n1 hym
      obtain ⟨d, rfl⟩ : ∃ d : Nat, dn = (d : Int) := ⟨dn.toNat, by omega⟩
      have hd0 : 0 < d := by omega
      have e1 : ratF ⟨nm, (d : Int)⟩ = mkRat nm d := by simp [ratF]
      rw [e1, Rat.mul_comm] at hg
      have HC1 := Lib.hid (newRat_any HPS nm d wr.drew ⟨by omega, by omega⟩ hd0 ⟨by omega, by omega⟩)
      have HC2 := Lib.hid (fun W => newInt1 HPS cf W ⟨by omega, by omega⟩)
      have hc1 : cf ≤ 1000000 := hxm.2
      have HQ := Lib.hid (And.intro hqat (And.intro hg hbel))
      clear hxm hym hx1 hx2 e1 hqat hg hbel HK hkr hw0
      have hi2 : (k : Int) < (n2 : Int) := by omega
      have hkI : (k : Int) < (n : Int) := by omega
      have hkn2 : k < n2 := by omega
      have hb1w : b1 < wr.heap.size := by omega
      go_upto_region 5 with fail
      go_still_tail 10, (by kernel_rfl)
      change wpList _ _ _ _ _ wr.drew
      go_wp2_with fail
      refine HC1.out.mono ?_
      rintro e w1 ⟨g1, rfl, hbd, hg1, hq1⟩
      have hbw1 : Below wr.heap.size wr w1 := below_of_drew hbd
      have f0 : w1.cell? ⟨w.heap.size, 0, none⟩ = some (.slice (some ⟨b1, off1, none⟩) n c) := (hbw1.cell (p := ⟨w.heap.size, 0, none⟩) hlw2).trans a0
      have f1 : w1.cell? ⟨b1, off1 + k, none⟩ = some (.int .i64 cf) := (hbw1.cell (p := ⟨b1, off1 + k, none⟩) hb1w).trans hcell
      have hl1 : w.heap.size < w1.heap.size := Nat.lt_of_lt_of_le hlw2 hbw1.size
      have hl2 : b1 < w1.heap.size := Nat.lt_of_lt_of_le hb1w hbw1.size
      obtain ⟨hbz, hkz0, hkz1, hsz⟩ := two_boxes w1 74 74 #[.bool false, .slice none 0 0, .bool false, .slice none 0 0] #[.bool false, .slice none 0 0, .bool false, .slice none 0 0]
      have H1 := Lib.hid (And.intro hbw1 (And.intro hq1 (And.intro hbz (And.intro hkz0 (And.intro hkz1 hsz)))))
      clear hbd hbw1 hq1 hcell a0 a1 a2 hbz hkz0 hkz1 hsz n0 n1
      go_wp2_with fail
      generalize (w1.alloc (.cells #[.bool false, .slice none 0 0, .bool false, .slice none 0 0] 74)).alloc (.cells #[.bool false, .slice none 0 0, .bool false, .slice none 0 0] 74) = W3 at H1 ⊢
      refine (HC2.out W3).mono ?_
      rintro e w4 ⟨g4, rfl, hb4, hg4, hq4⟩
      obtain ⟨hbw1, hq1, hbz, hkz0, hkz1, hsz⟩ := H1.out
      have hb14 : Below w1.heap.size w1 w4 := hbz.trans (hb4.mono (by omega))
      have HM := Lib.hid (rMul_any HPS (w1.heap.size + 1) 74 _ g1 (mkRat nm d) g4 (cf : Rat) 2 w4 (hkz1.below hb4 (by omega)) (by decide) (by simp) (hq1.below hb14) hq4 (by omega))
      have H4 := Lib.hid (And.intro hb14 (And.intro (hkz0.below hb4 (by omega)) (And.intro (hkz1.below hb4 (by omega)) (Nat.le_trans (Nat.le_of_eq hsz.symm) hb4.size))))
      clear hb4 hq4 hbw1 hq1 hbz hkz0 hkz1 hsz hb14
      go_wp2_with fail
      refine HM.out.mono ?_
      rintro e w5 ⟨rfl, hgr5, hq5⟩
      have hu : ¬ URow w4 (w1.heap.size + 1) := urow_not H4.out.2.2.1 (by decide)
      have hqlt := HQ.out.1.lt
      have hsz1 := H1.out.1.size
      have hqa : RatAt w5 g q (2 + 5 * k) := ((HQ.out.1.below H1.out.1).below H4.out.1).grown hgr5 (by omega) hu
      have hkz5 := H4.out.2.1.grown hgr5 (by simp)
      have HA := Lib.hid (rAdd_any HPS w1.heap.size 74 _ g q (w1.heap.size + 1) (mkRat nm d * (cf : Rat)) (2 + 5 * k) (2 + 2) w5 hkz5 (by decide) (by simp) hqa hq5 (by omega) (by omega))
      have H5 := Lib.hid (And.intro hgr5 (And.intro hqlt hsz1))
      clear hgr5 hq5 hu hqa hkz5 hqlt hsz1
      go_wp2_with fail
      refine HA.out.mono ?_
      rintro e w6 ⟨rfl, hgr6, hq6⟩
      have hB : Below X.heap.size X w6 := by
        have h1 : Below X.heap.size X w4 := (HQ.out.2.2.trans (H1.out.1.mono HQ.out.2.2.size)).trans (H4.out.1.mono (Nat.le_trans HQ.out.2.2.size H1.out.1.size))
        have hz1 := H1.out.1.size
        have h2 : Below X.heap.size X w5 := below_then h1 H5.out.1 h1.size (fun x hx => by injection hx with hx; omega)
        exact below_then h2 hgr6 h2.size (fun x hx => by injection hx with hx; omega)
      have H6 := Lib.hid (And.intro hq6 hB)
      clear hgr6 hq6 hB
      go_wp2_with fail
      go_roundw
      case rel => exact ⟨k + 1, _, _, rfl, by go_num, by omega, Lib.hid ⟨by have h := H6.out.1; rwa [show 2 + 5 * k + (2 + 2) + 1 = 2 + 5 * (k + 1) by omega] at h, HQ.out.2.1, H6.out.2⟩⟩
      case measure => simp [intOf]; omega
    · obtain rfl : k = n := by omega
      obtain ⟨hqat, hg, hbel⟩ := HK.out
      have e1 : q = R := by
        rw [List.drop_of_length_le (by have := HAL.out.2.2.1; omega)] at hg
        cases hd : (ys.drop k).map ratF <;> rw [hd] at hg <;> exact hg
      subst e1
      have HC2 := Lib.hid (newInt1 HPS tt wr ⟨by have := HT.out; omega, by have := HT.out; omega⟩)
      have HQ := Lib.hid (And.intro hqat hbel)
      clear hg hqat hbel HK hkr hw0
      go_wp2_with fail
      refine HC2.out.mono ?_
      rintro e w1 ⟨g1, rfl, hb1, -, hq1⟩
      have f1 : w1.cell? ⟨w.heap.size, 1, none⟩ = some (.int .i64 kind) := (hb1.cell (p := ⟨w.heap.size, 1, none⟩) hlw2).trans a1
      have HCM := Lib.hid (rCmp_any HPS g q g1 (tt : Rat) (2 + 5 * k) 2 w1 (HQ.out.1.below hb1) hq1 (by omega) (by omega))
      have H1 := Lib.hid (HW.out.2.trans (hb1.mono (Nat.le_of_lt hlw2)))
      have hl1 : w.heap.size < w1.heap.size := Nat.lt_of_lt_of_le hlw2 hb1.size
      clear hb1 hq1 a0 a1 a2
      go_wp2_with fail
      refine HCM.out.mono ?_
      rintro e w2 ⟨rfl, hb2⟩
      have f2 : w2.cell? ⟨w.heap.size, 1, none⟩ = some (.int .i64 kind) := (hb2.cell (p := ⟨w.heap.size, 1, none⟩) hl1).trans f1
      have HB := Lib.hid (H1.out.trans (hb2.mono (Nat.le_of_lt hl1)))
      have HS := Lib.hid (And.intro (sgn_le (q - (tt : Rat)).num) (sub_num q (tt : Rat)))
      generalize sgnI (q - (tt : Rat)).num = D at HS ⊢
      clear f1 hb2
      have hk3 : kind = 1 ∨ kind = 2 ∨ kind = 3 := by omega
      rcases hk3 with rfl | rfl | rfl
      · go_wp2_with fail
        go_ret
        exact ⟨ret_bool (by rw [decide_eq_decide, HS.out.1.1, HS.out.2.1]), HB.out⟩
      · go_wp2_with fail
        go_ret
        exact ⟨ret_bool (by rw [decide_eq_decide, HS.out.1.2.1, HS.out.2.2.1]), HB.out⟩
      · go_wp2_with fail
        go_ret
        exact ⟨ret_bool (by rw [Bool.eq_iff_iff, beq_iff_eq, decide_eq_true_eq, HS.out.1.2.2, HS.out.2.2.2]), HB.out⟩
end Go.Proofs.YtkkpfdfoojcljaaGreat
