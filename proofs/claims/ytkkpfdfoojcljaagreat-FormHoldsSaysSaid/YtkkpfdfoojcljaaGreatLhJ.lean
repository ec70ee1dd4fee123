/- Walk: row.sum: the sum of a row over numbers. -/
import Derived.Test.YtkkpfdfoojcljaaGreatLhHI
import Derived.Test.YtkkpfdfoojcljaaGreatRAT
namespace Go.Proofs.YtkkpfdfoojcljaaGreat
open Go.RowKit

/-- a row without a fault -/
theorem rowF_good {r : RowD} {m : Int} (h : rowF r m = (0, 0)) : (1 ≤ r.kind ∧ r.kind ≤ 3) ∧ (r.of_.length : Int) ≤ m ∧ (∀ x ∈ r.of_, -1000000 ≤ x ∧ x ≤ 1000000) ∧ -1000000 ≤ r.to_ ∧ r.to_ ≤ 1000000 := by
  rw [rowF] at h
  split at h
  · simp at h
  split at h
  · simp at h
  have key : ∀ (l : List Int) (i : Int), firstBad (fun x _ => wholeC x) l i = (0, 0) → ∀ x ∈ l, -1000000 ≤ x ∧ x ≤ 1000000 := by
    intro l
    induction l with
    | nil => intro i _ x hx; simp at hx
    | cons y r ih =>
      intro i h x hx
      have h2 := firstBad_cons h
      have h3 : wholeC y = 0 := by
        by_cases hy : wholeC y = 0
        · exact hy
        · have := (h2.2 hy).1; exact this
      have h4 : -1000000 ≤ y ∧ y ≤ 1000000 := by
        unfold wholeC wholeB at h3
        by_cases hy : -1000000 ≤ y ∧ y ≤ 1000000
        · exact hy
        · simp [hy] at h3
      rcases List.mem_cons.1 hx with rfl | hx
      · exact h4
      · exact ih _ (h2.1 h3) x hx
  have hk := key _ _ h
  refine ⟨by omega, by omega, fun x hx => hk x (by simp [hx]), hk _ (by simp)⟩
theorem fracs_at {w : World} {B : Nat} {A : Option Addr} {n : Nat} {xs : List FracD} (h : ArrB AtFrac 2 w B A n xs) {i : Nat} (hi : i < n) :
    ∃ (b off : Nat) (hx : i < xs.length), A = some ⟨b, off, none⟩ ∧ b < B ∧ w.cell? ⟨b, off + i * 2, none⟩ = some (.int .i64 xs[i].num) ∧ w.cell? ⟨b, off + i * 2 + 1, none⟩ = some (.int .i64 xs[i].den) := by
  obtain ⟨b, off, hx, e, hb, h0, h1⟩ := Arr.get h hi
  exact ⟨b, off, hx, e, hb, h0.1, h1.1⟩
theorem num_set {w1 W Z : World} {g B : Nat} {t : TypeId} {x y x' y' : Value} (a b c d : Value) (hZ : Z = (((w1.setCell ⟨g, 0, none⟩ a).setCell ⟨g, 1, none⟩ b).setCell ⟨g, 2, none⟩ c).setCell ⟨g, 3, none⟩ d) (h : Blk w1 g t #[x, y, x', y']) (hb : Below B W w1) (hg : B ≤ g) :
    Blk Z g t #[a, b, c, d] ∧ Below B W Z := by
  subst hZ
  exact ⟨(((h.set_ 0 a).set_ 1 b).set_ 2 c).set_ 3 d, (((hb.setCell (p := ⟨g, 0, none⟩) hg a).setCell (p := ⟨g, 1, none⟩) hg b).setCell (p := ⟨g, 2, none⟩) hg c).setCell (p := ⟨g, 3, none⟩) hg d⟩
theorem boxesR (w : World) (t0 t1 : TypeId) (c0 c1 c2 : Array Value) : Below w.heap.size w (((w.alloc (.cells c0 t0)).alloc (.cells c1 t1)).alloc (.cells c2 t1)) ∧ (((w.alloc (.cells c0 t0)).alloc (.cells c1 t1)).alloc (.cells c2 t1)).heap.size = w.heap.size + 3 ∧
    Blk (((w.alloc (.cells c0 t0)).alloc (.cells c1 t1)).alloc (.cells c2 t1)) w.heap.size t0 c0 ∧ Blk (((w.alloc (.cells c0 t0)).alloc (.cells c1 t1)).alloc (.cells c2 t1)) (w.heap.size + 1) t1 c1 ∧ Blk (((w.alloc (.cells c0 t0)).alloc (.cells c1 t1)).alloc (.cells c2 t1)) (w.heap.size + 1 + 1) t1 c2 :=
  ⟨lay_below [(t0, c0), (t1, c1), (t1, c2)] w, lay_size [(t0, c0), (t1, c1), (t1, c2)] w, lay_blk [(t0, c0), (t1, c1), (t1, c2)] w 0 _ _ rfl, lay_blk [(t0, c0), (t1, c1), (t1, c2)] w 1 _ _ rfl, lay_blk [(t0, c0), (t1, c1), (t1, c2)] w 2 _ _ rfl⟩
theorem zeroN : NumV (Rat.num 0) 0 = .agg #[.bool false, .string ⟨#[]⟩, .bool false, .string ⟨#[]⟩] := by
  have e : (0 : Rat).num = 0 := rfl
  rw [e, NumV, Int.natAbs_zero, digN_zero]; rfl
/-- how far the sum has come -/
def SumAt (w X : World) (xs : List Int) (ys : List FracD) (R : Rat) (k : Nat) (wr : World) : Prop :=
  ∃ (q : Rat) (ad : Int) (qn_b qd_b : Bool) (qn_s qd_s : ByteArray), LeftN q ad ∧ RB (61 * k) q ∧ rowG q (xs.drop k) ((ys.drop k).map ratF) = R ∧ NumV q.num ad = .agg #[.bool qn_b, .string qn_s, .bool qd_b, .string qd_s] ∧ Blk wr (w.heap.size + 1 + 1) 88 #[.bool qn_b, .string qn_s, .bool qd_b, .string qd_s] ∧ Below (w.heap.size + 1 + 1) X wr

set_option maxRecDepth 100000 in
set_option maxHeartbeats 8000000 in
theorem sum_row (A B : Option Addr) (n c n2 c2 : Nat) (r : RowD) (ys : List FracD) (w : World) (hxs : IntsB w w.heap.size A n r.of_) (hys : ArrB AtFrac 2 w w.heap.size B n2 ys) (hn2 : n2 ≤ 12) (hR : rowF r n2 = (0, 0)) (hG : ∀ y ∈ ys, fracGood y.num y.den = true) :
    Calls Tryz.prog 48 #[.agg #[.slice A n c, .int .i64 r.kind, .int .i64 r.to_], .slice B n2 c2] w fun e w' => (∃ ad, e = .returned (NumV (rowR r.of_ (ys.map ratF)).num ad) ∧ LeftN (rowR r.of_ (ys.map ratF)) ad) ∧ Below w.heap.size w w' := by
  obtain ⟨xs, kind, tt⟩ := r
  obtain ⟨-, hln, hal, -, -⟩ := rowF_good hR
  simp only at hxs hln hal ⊢
  have hlen := hxs.len
  have hlen2 := hys.len
  have hn : n ≤ n2 := by omega
  have HAL := Lib.hid (And.intro hal (And.intro hG (And.intro hlen hlen2)))
  obtain ⟨R, hRR⟩ : ∃ R, rowR xs (ys.map ratF) = R := ⟨_, rfl⟩
  rw [hRR]
  have HRR := Lib.hid hRR
  clear hR hln hal hG hRR hlen hlen2
  go_enter Tryz.func48, Tryz.ntmps48
  go_upto_region 2 with fail
  have hbx := boxesR w 45 88 #[.slice A n c, .int .i64 kind, .int .i64 tt] #[.bool false, .string ⟨#[]⟩, .bool false, .string ⟨#[]⟩] #[.bool false, .string ⟨#[]⟩, .bool false, .string ⟨#[]⟩]
  generalize ((w.alloc (.cells #[.slice A n c, .int .i64 kind, .int .i64 tt] 45)).alloc (.cells #[.bool false, .string ⟨#[]⟩, .bool false, .string ⟨#[]⟩] 88)).alloc (.cells #[.bool false, .string ⟨#[]⟩, .bool false, .string ⟨#[]⟩] 88) = X at hbx ⊢
  obtain ⟨hx, hsz, k0, k1, k2⟩ := hbx
  have a0 : X.cell? ⟨w.heap.size, 0, none⟩ = some (.slice A n c) := by rw [k0.cell 0]; rfl
  have HX := Lib.hid (And.intro hx (And.intro hsz (And.intro k1 k2)))
  have HXS := Lib.hid (And.intro hxs hys)
  clear hx k0 k1 k2 hsz hxs hys
  go_upto_region 3 with fail
  clear a0
  go_loopw [11] (fun s wr => ∃ k : Nat, k ≤ n ∧ s = .int .i64 k ∧ Hid (SumAt w X xs ys R k wr)) (fun s _ => n - (intOf s).toNat)
  case atStart =>
    refine ⟨0, Nat.zero_le _, rfl, Lib.hid ⟨0, 0, false, false, ⟨#[]⟩, ⟨#[]⟩, rfl, rb_zero, ?_, zeroN, HX.out.2.2.2, Below.refl _ _⟩⟩
    rw [rowG_eq, List.drop_zero, List.drop_zero, HRR.out, Rat.zero_add]
  case round =>
    obtain ⟨k, hk, rfl, HK⟩ := hrel
    by_cases hlt : k < n
    · obtain ⟨q, ad, qn_b, qd_b, qn_s, qd_s, hL, hB, hg, hq, hbk, hbel⟩ := HK.out
      have hw0 : Below w.heap.size w wr := HX.out.1.trans (hbel.mono (by have := HX.out.2.1; omega))
      obtain ⟨b1, off1, hx1, rfl, hb1, hcell, -, -⟩ := ints_get (HXS.out.1.below stays_int hw0 (Nat.le_refl _)) hlt
      obtain ⟨b2, off2, hx2, rfl, hb2, n0, n1⟩ := fracs_at (HXS.out.2.below stays_frac hw0 (Nat.le_refl _)) (Nat.lt_of_lt_of_le hlt hn)
      have hxm := HAL.out.1 _ (List.getElem_mem hx1)
      have hym := HAL.out.2.1 _ (List.getElem_mem hx2)
      rw [drop_cons hx1, drop_cons hx2, List.map_cons, rowG] at hg
      generalize xs[k] = cf at hcell hxm hg
      generalize ys[k] = y at n0 n1 hym hg
      have hyb := rb_frac y hym
      have hcb : RB 30 (cf : Rat) := rb_int cf (by
        have e : (2 : Nat) ^ 30 = 1073741824 := by decide
        omega)
      have hmb := hcb.times hyb
      have hpb := hB.plus hmb
      have HCI := fun W => int_rat cf W (by omega) (by omega)
      have HCO := fun W => of_rat y W (by simp only [fracGood, decide_eq_true_eq] at hym; omega) (by simp only [fracGood, decide_eq_true_eq] at hym; omega) (by simp only [fracGood, decide_eq_true_eq] at hym; omega) (by simp only [fracGood, decide_eq_true_eq] at hym; omega)
      have HCT := fun W => times_rat (cf : Rat) (ratF y) W (Nat.le_refl 500) (rb_lens hcb (by omega)) (rb_lens hyb (by omega))
      have HCP := fun W => plus_rat q ((cf : Rat) * ratF y) ad W hL (Nat.le_refl 500) (rb_lens hB (by omega)) (rb_lens hmb (by omega))
      have hpb2 := hpb.mono (M := 61 * (k + 1)) (by omega)
      have HP := Lib.hid (And.intro hpb2 hg)
      clear hxm hym hyb hcb hmb hpb hB hg hL hpb2 HK
      obtain ⟨nm, dn⟩ := y
      simp only at n0 n1 HCI HCO HCT HCP
      obtain ⟨c_s, c_t, hNC, -, -⟩ := num_open (cf : Rat).num ((cf : Rat).den : Int)
      obtain ⟨y_s, y_t, hNY, -, -⟩ := num_open (ratF ⟨nm, dn⟩).num ((ratF ⟨nm, dn⟩).den : Int)
      obtain ⟨m_s, m_t, hNM, -, -⟩ := num_open ((cf : Rat) * ratF ⟨nm, dn⟩).num (((cf : Rat) * ratF ⟨nm, dn⟩).den : Int)
      obtain ⟨p_s, p_t, hNP, -, -⟩ := num_open (q + (cf : Rat) * ratF ⟨nm, dn⟩).num ((q + (cf : Rat) * ratF ⟨nm, dn⟩).den : Int)
      rw [show NumR (cf : Rat) = _ from hNC] at HCI HCT
      rw [show NumR (ratF ⟨nm, dn⟩) = _ from hNY] at HCO HCT
      rw [show NumR ((cf : Rat) * ratF ⟨nm, dn⟩) = _ from hNM] at HCT HCP
      rw [show NumR (q + (cf : Rat) * ratF ⟨nm, dn⟩) = _ from hNP] at HCP
      rw [hq] at HCP
      have HN := Lib.hid hNP
      clear hNC hNY hNM hNP hq
      generalize decide ((cf : Rat).num < 0) = c_b at *
      generalize decide (((cf : Rat).den : Int) < 0) = c_d at *
      generalize decide ((ratF ⟨nm, dn⟩).num < 0) = y_b at *
      generalize decide (((ratF ⟨nm, dn⟩).den : Int) < 0) = y_d at *
      generalize decide (((cf : Rat) * ratF ⟨nm, dn⟩).num < 0) = m_b at *
      generalize decide ((((cf : Rat) * ratF ⟨nm, dn⟩).den : Int) < 0) = m_d at *
      generalize decide ((q + (cf : Rat) * ratF ⟨nm, dn⟩).num < 0) = p_b at *
      generalize decide (((q + (cf : Rat) * ratF ⟨nm, dn⟩).den : Int) < 0) = p_d at *
      have HH := Lib.hid (And.intro HCI (And.intro HCO (And.intro HCT HCP)))
      clear HCI HCO HCT HCP
      obtain ⟨⟨t0, t1, t2, t3⟩, -⟩ := num_cells hbk
      have hlt2 : w.heap.size + 1 + 1 < wr.heap.size := by have := HX.out.2.1; have := hbel.size; omega
      have hltb : b2 < wr.heap.size := by omega
      have HW := Lib.hid (And.intro hbk hbel)
      clear hbk hbel hw0 hx1 hx2
      have hi1 : (0 : Int) ≤ (k : Int) := by omega
      have hi2 : (k : Int) < (n2 : Int) := by omega
      go_upto_region 5 with fail
      go_region_with
        (first
        | (go_simp
           go_at_call 50
           with_reducible refine (HH.out.1 wr.drew).mono ?_
           rintro e w1 ⟨rfl, hb1⟩
           have hbw1 : Below wr.heap.size wr w1 := below_of_drew hb1
           have f1_0 : w1.cell? ⟨b2, off2 + k * 2, none⟩ = some (.int .i64 nm) := (hbw1.cell (p := ⟨b2, off2 + k * 2, none⟩) hltb).trans n0
           have f1_1 : w1.cell? ⟨b2, off2 + k * 2 + 1, none⟩ = some (.int .i64 dn) := (hbw1.cell (p := ⟨b2, off2 + k * 2 + 1, none⟩) hltb).trans n1
           have g1_0 : w1.cell? ⟨w.heap.size + 1 + 1, 0, none⟩ = some (.bool qn_b) := (hbw1.cell (p := ⟨w.heap.size + 1 + 1, 0, none⟩) hlt2).trans t0
           have g1_1 : w1.cell? ⟨w.heap.size + 1 + 1, 1, none⟩ = some (.string qn_s) := (hbw1.cell (p := ⟨w.heap.size + 1 + 1, 1, none⟩) hlt2).trans t1
           have g1_2 : w1.cell? ⟨w.heap.size + 1 + 1, 2, none⟩ = some (.bool qd_b) := (hbw1.cell (p := ⟨w.heap.size + 1 + 1, 2, none⟩) hlt2).trans t2
           have g1_3 : w1.cell? ⟨w.heap.size + 1 + 1, 3, none⟩ = some (.string qd_s) := (hbw1.cell (p := ⟨w.heap.size + 1 + 1, 3, none⟩) hlt2).trans t3
           have H1 := Lib.hid hbw1
           clear hb1 hbw1)
        | (go_simp
           go_at_call 65
           with_reducible refine (HH.out.2.1 w1).mono ?_
           rintro e w2 ⟨rfl, hb2⟩
           have hbw2 : Below wr.heap.size wr w2 := H1.out.trans (hb2.mono H1.out.size)
           have f2_0 : w2.cell? ⟨b2, off2 + k * 2, none⟩ = some (.int .i64 nm) := (hbw2.cell (p := ⟨b2, off2 + k * 2, none⟩) hltb).trans n0
           have f2_1 : w2.cell? ⟨b2, off2 + k * 2 + 1, none⟩ = some (.int .i64 dn) := (hbw2.cell (p := ⟨b2, off2 + k * 2 + 1, none⟩) hltb).trans n1
           have g2_0 : w2.cell? ⟨w.heap.size + 1 + 1, 0, none⟩ = some (.bool qn_b) := (hbw2.cell (p := ⟨w.heap.size + 1 + 1, 0, none⟩) hlt2).trans t0
           have g2_1 : w2.cell? ⟨w.heap.size + 1 + 1, 1, none⟩ = some (.string qn_s) := (hbw2.cell (p := ⟨w.heap.size + 1 + 1, 1, none⟩) hlt2).trans t1
           have g2_2 : w2.cell? ⟨w.heap.size + 1 + 1, 2, none⟩ = some (.bool qd_b) := (hbw2.cell (p := ⟨w.heap.size + 1 + 1, 2, none⟩) hlt2).trans t2
           have g2_3 : w2.cell? ⟨w.heap.size + 1 + 1, 3, none⟩ = some (.string qd_s) := (hbw2.cell (p := ⟨w.heap.size + 1 + 1, 3, none⟩) hlt2).trans t3
           have H2 := Lib.hid hbw2
           clear hb2 hbw2 f1_0 f1_1 g1_0 g1_1 g1_2 g1_3)
        | (go_simp
           go_at_call 64
           with_reducible refine (HH.out.2.2.1 w2).mono ?_
           rintro e w3 ⟨rfl, hb3⟩
           have hbw3 : Below wr.heap.size wr w3 := H2.out.trans (hb3.mono H2.out.size)
           have f3_0 : w3.cell? ⟨b2, off2 + k * 2, none⟩ = some (.int .i64 nm) := (hbw3.cell (p := ⟨b2, off2 + k * 2, none⟩) hltb).trans n0
           have f3_1 : w3.cell? ⟨b2, off2 + k * 2 + 1, none⟩ = some (.int .i64 dn) := (hbw3.cell (p := ⟨b2, off2 + k * 2 + 1, none⟩) hltb).trans n1
           have g3_0 : w3.cell? ⟨w.heap.size + 1 + 1, 0, none⟩ = some (.bool qn_b) := (hbw3.cell (p := ⟨w.heap.size + 1 + 1, 0, none⟩) hlt2).trans t0
           have g3_1 : w3.cell? ⟨w.heap.size + 1 + 1, 1, none⟩ = some (.string qn_s) := (hbw3.cell (p := ⟨w.heap.size + 1 + 1, 1, none⟩) hlt2).trans t1
           have g3_2 : w3.cell? ⟨w.heap.size + 1 + 1, 2, none⟩ = some (.bool qd_b) := (hbw3.cell (p := ⟨w.heap.size + 1 + 1, 2, none⟩) hlt2).trans t2
           have g3_3 : w3.cell? ⟨w.heap.size + 1 + 1, 3, none⟩ = some (.string qd_s) := (hbw3.cell (p := ⟨w.heap.size + 1 + 1, 3, none⟩) hlt2).trans t3
           have H3 := Lib.hid hbw3
           clear hb3 hbw3 f2_0 f2_1 g2_0 g2_1 g2_2 g2_3)
        | (go_simp
           go_at_call 63
           with_reducible refine (HH.out.2.2.2 w3).mono ?_
           rintro e w4 ⟨rfl, hb4⟩
           have hbw4 : Below wr.heap.size wr w4 := H3.out.trans (hb4.mono H3.out.size)
           have f4_0 : w4.cell? ⟨b2, off2 + k * 2, none⟩ = some (.int .i64 nm) := (hbw4.cell (p := ⟨b2, off2 + k * 2, none⟩) hltb).trans n0
           have f4_1 : w4.cell? ⟨b2, off2 + k * 2 + 1, none⟩ = some (.int .i64 dn) := (hbw4.cell (p := ⟨b2, off2 + k * 2 + 1, none⟩) hltb).trans n1
           have hk9 := HW.out.1.below hbw4 hlt2
           obtain ⟨⟨r0, r1, r2, r3⟩, r4, r5, r6, r7⟩ := num_cells hk9
           have H9 := Lib.hid (And.intro hk9 (HW.out.2.trans (hbw4.mono (Nat.le_of_lt hlt2))))
           clear hb4 hbw4 hk9 f3_0 f3_1 g3_0 g3_1 g3_2 g3_3)
        | fail)
      all_goals go_wp2_with fail
      all_goals go_roundw
      all_goals first
      | (obtain ⟨Z, hZ⟩ : ∃ Z, Z = (((w4.setCell ⟨w.heap.size + 1 + 1, 0, none⟩ (.bool p_b)).setCell ⟨w.heap.size + 1 + 1, 1, none⟩ (.string p_s)).setCell ⟨w.heap.size + 1 + 1, 2, none⟩ (.bool p_d)).setCell ⟨w.heap.size + 1 + 1, 3, none⟩ (.string p_t) := ⟨_, rfl⟩
         rw [← hZ]
         obtain ⟨z1, z2⟩ := num_set _ _ _ _ hZ H9.out.1 H9.out.2 (Nat.le_refl _)
         exact ⟨k + 1, by omega, by go_num, Lib.hid ⟨_, _, p_b, p_d, p_s, p_t, den_if _, HP.out.1, HP.out.2, HN.out, z1, z2⟩⟩)
      | (simp [intOf]; omega)
    · obtain rfl : k = n := by omega
      obtain ⟨q, ad, qn_b, qd_b, qn_s, qd_s, hL, -, hg, hq, hbk, hbel⟩ := HK.out
      have e1 : q = R := by
        rw [List.drop_of_length_le (by have := HAL.out.2.2.1; omega)] at hg
        cases hd : (ys.drop k).map ratF <;> rw [hd] at hg <;> exact hg
      subst e1
      have hk1 := HX.out.2.2.1.below hbel (by omega)
      obtain ⟨⟨t0, t1, t2, t3⟩, -⟩ := num_cells hbk
      obtain ⟨⟨u0, u1, u2, u3⟩, u4, u5, u6, u7⟩ := num_cells hk1
      have H9 := Lib.hid (And.intro hk1 (HX.out.1.trans (hbel.mono (by have := HX.out.2.1; omega))))
      have HLQ := Lib.hid (And.intro hL hq)
      clear hk1 hbk hbel hg HK hL hq
      go_wp2_with fail
      obtain ⟨Z, hZ⟩ : ∃ Z, Z = (((wr.setCell ⟨w.heap.size + 1, 0, none⟩ (.bool qn_b)).setCell ⟨w.heap.size + 1, 1, none⟩ (.string qn_s)).setCell ⟨w.heap.size + 1, 2, none⟩ (.bool qd_b)).setCell ⟨w.heap.size + 1, 3, none⟩ (.string qd_s) := ⟨_, rfl⟩
      obtain ⟨⟨z0, z1, z2, z3⟩, z4⟩ := num_put _ _ _ _ hZ H9.out.1 H9.out.2 (by omega)
      rw [← hZ]
      refine bodyPost_ret (v := .agg #[.bool qn_b, .string qn_s, .bool qd_b, .string qd_s]) (by simp [results, Tryz.results48, go_sem, z0, z1, z2, z3]) rfl ⟨⟨ad, by rw [HLQ.out.2], HLQ.out.1⟩, z4⟩
end Go.Proofs.YtkkpfdfoojcljaaGreat
