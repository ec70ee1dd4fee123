/- The reference's fractions: SetFrac with a denominator above 0. · The reference's fractions: NewRat. · The reference's fractions: Neg. · The reference's fractions: Mul (printed by genFhT.py). -/
import Derived.Test.YtkkpfdfoojcljaaGreatFhOP
import Derived.Test.YtkkpfdfoojcljaaGreatFhEG
import Derived.Test.YtkkpfdfoojcljaaGreatLhHI
import Derived.Test.YtkkpfdfoojcljaaGreatFhIJ
namespace Go.Proofs.YtkkpfdfoojcljaaGreat
open Go.RowKit

theorem Put.headGone {w w' : World} {g o : Nat} {z : Int} (h : Put w w' g o z) : ¬ URow w g := by
  obtain ⟨-, t, hs, A, n, c, k1, k2, -⟩ := h
  exact urow_not k1 k2
/-- other cells of the same header stay -/
theorem IntAt.putOther {w w' : World} {g o o' : Nat} {z x : Int} {A : Option Addr} {n c : Nat} (hx : IntAt w g o x A n c) (h : Put w w' g o' z) (h1 : o ≠ o') (h2 : o ≠ o' + 1) (h3 : o + 1 ≠ o') : IntAt w' g o x A n c := by
  obtain ⟨hg, t, hs, A2, n2, c2, k1, k2, k3, k4, -, -, -⟩ := h
  obtain ⟨-, hn, hr, hnc, hcm, hd⟩ := hx
  refine ⟨⟨_, _, k4, k2⟩, ?_, ?_, hnc, hcm, digsT_grown hd hg (fun u hu => by injection hu with hu; subst hu; exact urow_not k1 k2)⟩
  · rw [k4.cell, Array.getElem?_setIfInBounds_ne (by omega), Array.getElem?_setIfInBounds_ne (by omega), ← k1.cell]
    exact hn
  · rw [k4.cell, Array.getElem?_setIfInBounds_ne (by omega), Array.getElem?_setIfInBounds_ne (by omega), ← k1.cell]
    exact hr
/-- a number that a call has just made -/
theorem new_put {w w1 : World} {z : Int} (hp : Put (w.alloc (.cells #[.bool false, .slice none 0 0] 72)) w1 w.heap.size 0 z) : Below w.heap.size w w1 ∧ w.heap.size < w1.heap.size ∧ ∃ A n c, IntAt w1 w.heap.size 0 z A n c ∧ n = (digN z.natAbs).length := by
  have hb0 : Below w.heap.size w (w.alloc (.cells #[.bool false, .slice none 0 0] 72)) := (Below.refl _ _).alloc (Nat.le_refl _) _
  obtain ⟨A, n, c, h⟩ := hp.at_
  exact ⟨below_then hb0 hp.1 hb0.size (fun x hx => by injection hx with hx; omega), h.lt, A, n, c, h, h.digs.len.symm⟩
theorem tdiv_len {a : Int} {G K : Nat} (h : (digN a.natAbs).length ≤ K) : (digN (a.tdiv (G : Int)).natAbs).length ≤ K := by
  refine Nat.le_trans (digN_mono ?_) h
  rw [Int.natAbs_tdiv]
  exact Nat.div_le_self _ _
theorem Put.blk {w w' : World} {g o : Nat} {z : Int} {t : TypeId} {hs : Array Value} (h : Put w w' g o z) (hk : Blk w g t hs) : ∃ hs', Blk w' g t hs' ∧ hs'.size = hs.size := by
  obtain ⟨-, t', hs0, A, n, c, k1, k2, k3, k4, -⟩ := h
  have e : hs0 = hs ∧ t' = t := by
    unfold Blk at hk k1
    rw [hk] at k1
    injection k1 with k1
    injection k1 with e1 e2 _
    exact ⟨e1.symm, e2.symm⟩
  obtain ⟨rfl, rfl⟩ := e
  exact ⟨_, k4, by simp⟩
set_option maxRecDepth 100000 in
set_option maxHeartbeats 8000000 in
theorem setFrac_any (HPS : PartsSpec) (g : Nat) (t : TypeId) (hs : Array Value) (gx : Nat) (a : Int) (A : Option Addr) (n c : Nat) (gy : Nat) (b : Nat) (A2 : Option Addr) (n2 c2 : Nat) (w : World) (hk : Blk w g t hs) (ht : t ≠ 110) (hsz : hs.size = 4) (h : IntAt w gx 0 a A n c) (h2 : IntAt w gy 0 (b : Int) A2 n2 c2) (hb : 0 < b) (K : Nat) (hn : n ≤ K) (hn2 : n2 ≤ K) (hK : K ≤ 50000) :
    Calls Tryz.prog 51 #[.pointer (some ⟨g, 0, none⟩), .pointer (some ⟨gx, 0, none⟩), .pointer (some ⟨gy, 0, none⟩)] w fun e w' => e = .returned (.pointer (some ⟨g, 0, none⟩)) ∧ w.grownBy w' (some g) ∧ RatAt w' g (mkRat a b) K := by
  obtain ⟨G, hG⟩ : ∃ G, Nat.gcd a.natAbs ((b : Int)).natAbs = G := ⟨_, rfl⟩
  have hG0 : 0 < G := by rw [← hG, Int.natAbs_natCast]; exact Nat.gcd_pos_of_pos_right _ hb
  have hGa : (G : Int) ∣ a := Int.ofNat_dvd_left.2 (by rw [← hG]; exact Nat.gcd_dvd_left _ _)
  have hGb : G ∣ b := by have := Nat.gcd_dvd_right a.natAbs ((b : Int)).natAbs; rwa [hG, Int.natAbs_natCast] at this
  have hnum : (mkRat a b).num = a.tdiv (G : Int) := by
    rw [Rat.mkRat_def, dif_neg (by omega), (norm_num_den _ _ _).1, Int.tdiv_eq_ediv_of_dvd hGa, ← hG, Int.natAbs_natCast]
  have hden : (((mkRat a b).den : Nat) : Int) = (b : Int).tdiv (G : Int) := by
    rw [Rat.mkRat_def, dif_neg (by omega), (norm_num_den _ _ _).2, ← hG, Int.natAbs_natCast]
    rfl
  have hy0 : ¬ (b : Int).tdiv (G : Int) < 0 := by
    rw [← hden]; omega
  have hb0 : Below w.heap.size w (w.alloc (.cells #[.bool false, .slice none 0 0] 72)) := (Below.refl _ _).alloc (Nat.le_refl _) _
  have hk0 := Blk.new w 72 #[.bool false, .slice none 0 0]
  have hgcd := wGCD_any HPS w.heap.size 72 _ _ gx a A n c gy (b : Int) A2 n2 c2 _ hk0 (by decide) (h.below hb0) (h2.below hb0) K hn hn2 hK
  rw [hG] at hgcd
  have HC := Lib.hid hgcd
  have hlx := h.digs.len
  have hly := h2.digs.len
  have HR := Lib.hid (And.intro hnum (And.intro hden (And.intro hy0 hG)))
  have HH := Lib.hid (And.intro hk (And.intro ht (And.intro hsz (And.intro h h2))))
  have hg := hk.lt
  clear hk ht hsz h h2 hb0 hk0 hgcd hnum hden hy0 hGa hGb hG
  go_enter Tryz.func51, Tryz.ntmps51
  go_wp2_with fail
  refine HC.out.mono ?_
  rintro e w1 ⟨rfl, hp⟩
  obtain ⟨hb1, hl1, A3, n3, c3, h3, hn3⟩ := new_put hp
  have hb1' : Below w1.heap.size w1 (w1.alloc (.cells #[.bool false, .slice none 0 0] 72)) := (Below.refl _ _).alloc (Nat.le_refl _) _
  have hk1 := Blk.new w1 72 #[.bool false, .slice none 0 0]
  have hn3K : n3 ≤ K := by
    rw [hn3, Int.natAbs_natCast]
    refine Nat.le_trans (digN_mono ?_) (Nat.le_trans (Nat.le_of_eq hly) hn2)
    rw [← HR.out.2.2.2]
    exact Nat.gcd_le_right _ (by omega)
  have HC1 := Lib.hid (wQuo_any HPS w1.heap.size 72 _ _ gx a A n c w.heap.size (G : Int) A3 n3 c3 _ hk1 (by decide) ((HH.out.2.2.2.1.below hb1).below hb1') (h3.below hb1') (by omega) (by omega) (by omega))
  have H1 := Lib.hid (And.intro hb1 (And.intro h3 hn3K))
  clear hp hb1 hb1' hk1 h3 hn3 hn3K
  go_wp2_with fail
  refine HC1.out.mono ?_
  rintro e w2 ⟨rfl, hp⟩
  obtain ⟨hb2, hl2, A4, n4, c4, h4, hn4⟩ := new_put hp
  have hb2' : Below w2.heap.size w2 (w2.alloc (.cells #[.bool false, .slice none 0 0] 72)) := (Below.refl _ _).alloc (Nat.le_refl _) _
  have hk2 := Blk.new w2 72 #[.bool false, .slice none 0 0]
  have hbw2 : Below w.heap.size w w2 := H1.out.1.trans (hb2.mono H1.out.1.size)
  have HC2 := Lib.hid (wQuo_any HPS w2.heap.size 72 _ _ gy (b : Int) A2 n2 c2 w.heap.size (G : Int) A3 n3 c3 _ hk2 (by decide) ((HH.out.2.2.2.2.below hbw2).below hb2') ((H1.out.2.1.below hb2).below hb2') (by omega) (by have := H1.out.2.2; omega) (by omega))
  have H2 := Lib.hid (And.intro hbw2 (And.intro h4 hn4))
  clear hp hb2 hb2' hk2 h4 hn4 hbw2
  go_wp2_with fail
  refine HC2.out.mono ?_
  rintro e w3 ⟨rfl, hp⟩
  obtain ⟨hb3, hl3, A5, n5, c5, h5, hn5⟩ := new_put hp
  have hbw3 : Below w.heap.size w w3 := H2.out.1.trans (hb3.mono H2.out.1.size)
  have d0 := h5.neg
  rw [decide_eq_false (Int.not_lt.2 HR.out.2.2.1)] at d0
  have h4' := H2.out.2.1.below hb3
  have hlen4 : n4 ≤ K := by rw [H2.out.2.2]; exact tdiv_len (by omega)
  have hlen5 : n5 ≤ K := by rw [hn5]; exact tdiv_len (by omega)
  have HS := Lib.hid (wSet_any g 0 w1.heap.size 0 t hs (a.tdiv (G : Int)) A4 n4 c4 w3 (HH.out.1.below hbw3 hg) HH.out.2.1 (by have := HH.out.2.2.1; omega) h4' (by omega))
  have H3 := Lib.hid (And.intro hbw3 (And.intro h5 (And.intro hlen4 hlen5)))
  clear hp hb3 hbw3 h5 hn5 h4' hlen4 hlen5
  go_wp2_with fail
  refine HS.out.mono ?_
  rintro e w4 ⟨rfl, hp⟩
  obtain ⟨hs4, hk4, hsz4⟩ := hp.blk (HH.out.1.below H3.out.1 hg)
  obtain ⟨A6, n6, c6, h6⟩ := hp.at_
  have h5' := H3.out.2.1.grown hp.1 (by simp; omega) (fun u hu => by injection hu with hu; subst hu; exact hp.headGone)
  have HS2 := Lib.hid (wSet_any g 2 w2.heap.size 0 t hs4 ((b : Int).tdiv (G : Int)) A5 n5 c5 w4 hk4 HH.out.2.1 (by have := HH.out.2.2.1; omega) h5' (by have := H3.out.2.2.2; omega))
  have H4 := Lib.hid (And.intro hp.1 h6)
  clear hp hk4 hsz4 h6 h5'
  go_wp2_with fail
  refine HS2.out.mono ?_
  rintro e w5 ⟨rfl, hp⟩
  obtain ⟨A7, n7, c7, h7⟩ := hp.at_
  have H5 := Lib.hid (And.intro hp.1 (And.intro h7 (H4.out.2.putOther hp (by omega) (by omega) (by omega))))
  clear hp h7
  go_wp2_with fail
  go_ret
  refine ⟨rfl, only_then (only_then (only_of_below H3.out.1 (some g)) H4.out.1 (fun x hx => .inr hx)) H5.out.1 (fun x hx => .inr hx), A6, n6, c6, A7, n7, c7, by rw [HR.out.1]; exact H5.out.2.2, by rw [HR.out.2.1]; exact H5.out.2.1, ?_, ?_⟩
  · rw [← H5.out.2.2.digs.len]; exact tdiv_len (by omega)
  · rw [← H5.out.2.1.digs.len]; exact tdiv_len (by omega)
end Go.Proofs.YtkkpfdfoojcljaaGreat
namespace Go.Proofs.YtkkpfdfoojcljaaGreat
open Go.RowKit

/-- a new fraction -/
def NewQ (q : Rat) (K : Nat) (w : World) (e : Ending) (w' : World) : Prop := ∃ g, e = .returned (.pointer (some ⟨g, 0, none⟩)) ∧ Below w.heap.size w w' ∧ w.heap.size ≤ g ∧ RatAt w' g q K
theorem i64_len {x : Int} (h : I64 x) : (digN x.natAbs).length ≤ 2 := by
  apply digN_len
  unfold I64 at h
  show x.natAbs < 18446744073709551616
  omega
set_option maxRecDepth 100000 in
set_option maxHeartbeats 4000000 in
theorem newRat_any (HPS : PartsSpec) (a : Int) (b : Nat) (w : World) (ha : I64 a) (hb0 : 0 < b) (hb : I64 (b : Int)) :
    Calls Tryz.prog 34 #[.int .i64 a, .int .i64 (b : Int)] w (NewQ (mkRat a b) 2 w) := by
  have hbw : Below w.heap.size w (w.alloc (.cells #[.bool false, .slice none 0 0, .bool false, .slice none 0 0] 74)) := (Below.refl _ _).alloc (Nat.le_refl _) _
  have hk0 := Blk.new w 74 #[.bool false, .slice none 0 0, .bool false, .slice none 0 0]
  have HC := Lib.hid (newInt_any a (w.alloc (.cells #[.bool false, .slice none 0 0, .bool false, .slice none 0 0] 74)) ha)
  have HH := Lib.hid (And.intro hbw (And.intro hk0 (And.intro ha hb)))
  clear hbw hk0 ha hb
  go_enter Tryz.func34, Tryz.ntmps34
  go_wp2_with fail
  refine HC.out.mono ?_
  rintro e w1 ⟨g1, rfl, hm⟩
  obtain ⟨A, n, c, h1, hn1⟩ := hm.at_
  have HC1 := Lib.hid (newInt_any (b : Int) w1 HH.out.2.2.2)
  have H1 := Lib.hid (And.intro hm.1 (And.intro h1 hn1))
  clear hm h1 hn1
  go_wp2_with fail
  refine HC1.out.mono ?_
  rintro e w2 ⟨g2, rfl, hm⟩
  obtain ⟨A2, n2, c2, h2, hn2⟩ := hm.at_
  have hz1 := HH.out.1.size
  have hb1 : Below (w.alloc (.cells #[.bool false, .slice none 0 0, .bool false, .slice none 0 0] 74)).heap.size _ w2 := H1.out.1.trans (hm.1.mono H1.out.1.size)
  have hk2 := HH.out.2.1.below hb1 HH.out.2.1.lt
  have HS := Lib.hid (setFrac_any HPS w.heap.size 74 _ g1 a A n c g2 b A2 n2 c2 w2 hk2 (by decide) (by simp) (H1.out.2.1.below hm.1) h2 hb0 2 (by rw [H1.out.2.2]; exact i64_len HH.out.2.2.1) (by rw [hn2]; exact i64_len HH.out.2.2.2) (by omega))
  have HB := Lib.hid (HH.out.1.trans (hb1.mono hz1))
  clear hm h2 hn2 hb1 hk2
  go_wp2_with fail
  refine HS.out.mono ?_
  rintro e w3 ⟨rfl, hg, hq⟩
  have HP := Lib.hid (And.intro hg hq)
  clear hg hq
  go_wp2_with fail
  go_ret
  exact ⟨_, rfl, below_then HB.out HP.out.1 HB.out.size (fun x hx => by injection hx with hx; omega), Nat.le_refl _, HP.out.2⟩
end Go.Proofs.YtkkpfdfoojcljaaGreat
namespace Go.Proofs.YtkkpfdfoojcljaaGreat
open Go.RowKit

theorem mkRat_neg (q : Rat) : mkRat (-q.num) q.den = -q := by
  have h := Rat.mkRat_self (-q)
  exact h
set_option maxRecDepth 100000 in
set_option maxHeartbeats 4000000 in
theorem rNeg_any (HPS : PartsSpec) (g : Nat) (t : TypeId) (hs : Array Value) (gx : Nat) (q : Rat) (K : Nat) (w : World) (hk : Blk w g t hs) (ht : t ≠ 110) (hsz : hs.size = 4) (h : RatAt w gx q K) (hK : K ≤ 50000) :
    Calls Tryz.prog 80 #[.pointer (some ⟨g, 0, none⟩), .pointer (some ⟨gx, 0, none⟩)] w fun e w' => e = .returned (.pointer (some ⟨g, 0, none⟩)) ∧ w.grownBy w' (some g) ∧ RatAt w' g (-q) K := by
  obtain ⟨A, n, c, A2, n2, c2, h1, h2, h3, h4⟩ := h
  have hb0 : Below w.heap.size w (w.alloc (.cells #[.bool false, .slice none 0 0] 72)) := (Below.refl _ _).alloc (Nat.le_refl _) _
  have hk0 := Blk.new w 72 #[.bool false, .slice none 0 0]
  have HC := Lib.hid (wNeg_any w.heap.size 72 _ _ gx 0 q.num A n c _ hk0 (by decide) (h1.below hb0) (by omega))
  have HH := Lib.hid (And.intro hk (And.intro ht (And.intro hsz (And.intro (show RatAt w gx q K from ⟨A, n, c, A2, n2, c2, h1, h2, h3, h4⟩) (And.intro h1.digs.len h2.digs.len)))))
  have hg := hk.lt
  have hdp := q.den_pos
  clear hk ht hsz h1 h2 hb0 hk0
  go_enter Tryz.func80, Tryz.ntmps80
  go_wp2_with fail
  refine HC.out.mono ?_
  rintro e w1 ⟨rfl, hp⟩
  obtain ⟨hb1, hl1, A3, n3, c3, h5, hn3⟩ := new_put hp
  have HD := Lib.hid (rDenom_any gx q K w1 (HH.out.2.2.2.1.below hb1) (by omega))
  have H1 := Lib.hid (And.intro hb1 (And.intro h5 hn3))
  clear hp hb1 h5 hn3
  go_wp2_with fail
  refine HD.out.mono ?_
  rintro e w2 ⟨g2, rfl, hm⟩
  obtain ⟨A4, n4, c4, h6, hn4⟩ := hm.at_
  have hb2 : Below w.heap.size w w2 := H1.out.1.trans (hm.1.mono H1.out.1.size)
  have HS := Lib.hid (setFrac_any HPS g t hs w.heap.size (-q.num) A3 n3 c3 g2 q.den A4 n4 c4 w2 (HH.out.1.below hb2 hg) HH.out.2.1 HH.out.2.2.1 (H1.out.2.1.below hm.1) h6 hdp K (by rw [H1.out.2.2, Int.natAbs_neg, HH.out.2.2.2.2.1]; exact h3) (by rw [hn4, HH.out.2.2.2.2.2]; exact h4) hK)
  have HB := Lib.hid hb2
  clear hm h6 hn4 hb2
  go_wp2_with fail
  refine HS.out.mono ?_
  rintro e w3 ⟨rfl, hgr, hq⟩
  rw [mkRat_neg] at hq
  have HP := Lib.hid (And.intro (only_then (only_of_below HB.out (some g)) hgr (fun x hx => .inr hx)) hq)
  clear hgr hq
  go_wp2_with fail
  go_ret
  exact ⟨rfl, HP.out⟩
end Go.Proofs.YtkkpfdfoojcljaaGreat
namespace Go.Proofs.YtkkpfdfoojcljaaGreat
open Go.RowKit

theorem mul_len {x y : Int} {n m : Nat} (h : (digN x.natAbs).length ≤ n) (h2 : (digN y.natAbs).length ≤ m) : (digN (x * y).natAbs).length ≤ n + m := by
  apply digN_len
  have h1 := val_lt (canon_digN x.natAbs).1
  have h3 := val_lt (canon_digN y.natAbs).1
  rw [val_digN] at h1 h3
  rw [Int.natAbs_mul, Nat.pow_add]
  exact Nat.mul_lt_mul'' (Nat.lt_of_lt_of_le h1 (Nat.pow_le_pow_right (by omega) h)) (Nat.lt_of_lt_of_le h3 (Nat.pow_le_pow_right (by omega) h2))
theorem mkRat_mul (a b : Rat) : mkRat (a.num * b.num) (a.den * b.den) = a * b := by
  rw [← Rat.mkRat_mul_mkRat, Rat.mkRat_self, Rat.mkRat_self]
/-- the product of two numbers that two calls make, into a new number made ahead of them -/
theorem mul_new {W w1 w2 : World} {g1 g2 : Nat} {x y : Int} {K : Nat} (h1 : Made (W.alloc (.cells #[.bool false, .slice none 0 0] 72)) w1 g1 x) (h2 : Made w1 w2 g2 y) (hx : (digN x.natAbs).length ≤ K) (hy : (digN y.natAbs).length ≤ K) (hK : K ≤ 20000) :
    Calls Tryz.prog 53 #[.pointer (some ⟨W.heap.size, 0, none⟩), .pointer (some ⟨g1, 0, none⟩), .pointer (some ⟨g2, 0, none⟩)] w2 fun e w' => e = .returned (.pointer (some ⟨W.heap.size, 0, none⟩)) ∧ Below W.heap.size W w' ∧ ∃ A n c, IntAt w' W.heap.size 0 (x * y) A n c ∧ n ≤ K + K := by
  have hb0 : Below W.heap.size W (W.alloc (.cells #[.bool false, .slice none 0 0] 72)) := (Below.refl _ _).alloc (Nat.le_refl _) _
  have hk0 := Blk.new W 72 #[.bool false, .slice none 0 0]
  obtain ⟨A, n, c, i1, e1⟩ := h1.at_
  obtain ⟨A2, n2, c2, i2, e2⟩ := h2.at_
  have hb2 : Below W.heap.size W w2 := hb0.trans ((h1.1.mono hb0.size).trans (h2.1.mono (Nat.le_trans hb0.size h1.1.size)))
  have hk2 : Blk w2 W.heap.size 72 #[.bool false, .slice none 0 0] := (hk0.below h1.1 hk0.lt).below h2.1 (Nat.lt_of_lt_of_le hk0.lt h1.1.size)
  refine (wMul_any W.heap.size 72 _ _ g1 x A n c g2 y A2 n2 c2 w2 hk2 (by decide) (i1.below h2.1) i2 (by omega) (by omega)).mono fun e w' h => ⟨h.1, below_then hb2 h.2.1 hb2.size (fun u hu => by injection hu with hu; omega), ?_⟩
  obtain ⟨A3, n3, c3, i3⟩ := h.2.at_
  exact ⟨A3, n3, c3, i3, by rw [← i3.digs.len]; exact mul_len hx hy⟩
set_option maxRecDepth 100000 in
set_option maxHeartbeats 4000000 in
theorem rMul_any (HPS : PartsSpec) (g : Nat) (t : TypeId) (hs : Array Value) (gx : Nat) (q : Rat) (gy : Nat) (r : Rat) (K : Nat) (w : World) (hk : Blk w g t hs) (ht : t ≠ 110) (hsz : hs.size = 4) (h : RatAt w gx q K) (h2 : RatAt w gy r K) (hK : K ≤ 20000) :
    Calls Tryz.prog 36 #[.pointer (some ⟨g, 0, none⟩), .pointer (some ⟨gx, 0, none⟩), .pointer (some ⟨gy, 0, none⟩)] w fun e w' => e = .returned (.pointer (some ⟨g, 0, none⟩)) ∧ w.grownBy w' (some g) ∧ RatAt w' g (q * r) (K + K) := by
  have hlq : (digN q.num.natAbs).length ≤ K ∧ (digN ((q.den : Int)).natAbs).length ≤ K := by
    obtain ⟨A, n, c, A2, n2, c2, i1, i2, i3, i4⟩ := h
    exact ⟨by rw [i1.digs.len]; exact i3, by rw [i2.digs.len]; exact i4⟩
  have hlr : (digN r.num.natAbs).length ≤ K ∧ (digN ((r.den : Int)).natAbs).length ≤ K := by
    obtain ⟨A, n, c, A2, n2, c2, i1, i2, i3, i4⟩ := h2
    exact ⟨by rw [i1.digs.len]; exact i3, by rw [i2.digs.len]; exact i4⟩
  have hb0 : Below w.heap.size w (w.alloc (.cells #[.bool false, .slice none 0 0] 72)) := (Below.refl _ _).alloc (Nat.le_refl _) _
  have HC1 := Lib.hid (rNum_any gx q K _ (h.below hb0) (by omega))
  have HL := Lib.hid (And.intro hlq hlr)
  have HH := Lib.hid (And.intro hk (And.intro ht (And.intro hsz (And.intro h (And.intro h2 hb0)))))
  have hg := hk.lt
  have hdp : 0 < q.den * r.den := Nat.mul_pos q.den_pos r.den_pos
  clear hk ht hsz h h2 hb0 hlq hlr
  go_enter Tryz.func36, Tryz.ntmps36
  go_wp2_with fail
  refine HC1.out.mono ?_
  rintro e w1 ⟨g1, rfl, hm1⟩
  have HB1 := Lib.hid (And.intro hm1 (HH.out.2.2.2.2.2.trans (hm1.1.mono HH.out.2.2.2.2.2.size)))
  have HC2 := Lib.hid (rNum_any gy r K w1 (HH.out.2.2.2.2.1.below HB1.out.2) (by omega))
  clear hm1
  go_wp2_with fail
  refine HC2.out.mono ?_
  rintro e w2 ⟨g2, rfl, hm2⟩
  have HM := Lib.hid (mul_new HB1.out.1 hm2 HL.out.1.1 HL.out.2.1 hK)
  clear hm2
  go_wp2_with fail
  refine HM.out.mono ?_
  rintro e w3 ⟨rfl, hb3, A3, n3, c3, i3, e3⟩
  have hb3' : Below w3.heap.size w3 (w3.alloc (.cells #[.bool false, .slice none 0 0] 72)) := (Below.refl _ _).alloc (Nat.le_refl _) _
  have H3 := Lib.hid (And.intro hb3 (And.intro i3 (And.intro e3 hb3')))
  have HC4 := Lib.hid (rDenom_any gx q K _ ((HH.out.2.2.2.1.below hb3).below hb3') (by omega))
  clear hb3 i3 e3 hb3'
  go_wp2_with fail
  refine HC4.out.mono ?_
  rintro e w4 ⟨g4, rfl, hm4⟩
  have HB4 := Lib.hid (And.intro hm4 (H3.out.2.2.2.trans (hm4.1.mono H3.out.2.2.2.size)))
  have HC5 := Lib.hid (rDenom_any gy r K w4 ((HH.out.2.2.2.2.1.below H3.out.1).below HB4.out.2) (by omega))
  clear hm4
  go_wp2_with fail
  refine HC5.out.mono ?_
  rintro e w5 ⟨g5, rfl, hm5⟩
  have HM2 := Lib.hid (mul_new HB4.out.1 hm5 HL.out.1.2 HL.out.2.2 hK)
  clear hm5
  go_wp2_with fail
  refine HM2.out.mono ?_
  rintro e w6 ⟨rfl, hb6, A6, n6, c6, i6, e6⟩
  have hbw : Below w.heap.size w w6 := H3.out.1.trans (hb6.mono H3.out.1.size)
  rw [← Int.natCast_mul] at i6
  have HS := Lib.hid (setFrac_any HPS g t hs w.heap.size (q.num * r.num) A3 n3 c3 w3.heap.size (q.den * r.den) A6 n6 c6 w6 (HH.out.1.below hbw hg) HH.out.2.1 HH.out.2.2.1 (H3.out.2.1.below hb6) i6 hdp (K + K) H3.out.2.2.1 e6 (by omega))
  have HB := Lib.hid hbw
  clear hb6 i6 e6 hbw
  go_wp2_with fail
  refine HS.out.mono ?_
  rintro e w7 ⟨rfl, hgr, hq⟩
  rw [mkRat_mul] at hq
  have HP := Lib.hid (And.intro (only_then (only_of_below HB.out (some g)) hgr (fun x hx => .inr hx)) hq)
  clear hgr hq
  go_wp2_with fail
  go_ret
  exact ⟨rfl, HP.out⟩
end Go.Proofs.YtkkpfdfoojcljaaGreat
