/- Walk: row.check of a row and numbers without a fault; how great a sum gets. · Walk: row.Holds of a row and numbers without a fault. -/
import Derived.Test.YtkkpfdfoojcljaaGreatLhJ
namespace Go.Proofs.YtkkpfdfoojcljaaGreat
open Go.RowKit

theorem fault_set {w1 W Z : World} {g B : Nat} {t : TypeId} {x y : Value} (a b : Value) (hZ : Z = (w1.setCell ⟨g, 0, none⟩ a).setCell ⟨g, 1, none⟩ b) (h : Blk w1 g t #[x, y]) (hb : Below B W w1) (hg : B ≤ g) :
    (Z.cell? ⟨g, 0, none⟩ = some a ∧ Z.cell? ⟨g, 1, none⟩ = some b) ∧ Below B W Z := by
  subst hZ
  have hz := (h.set_ 0 a).set_ 1 b
  exact ⟨⟨by rw [hz.cell 0]; rfl, by rw [hz.cell 1]; rfl⟩, (hb.setCell (p := ⟨g, 0, none⟩) hg a).setCell (p := ⟨g, 1, none⟩) hg b⟩
theorem field_fault (a b : Int) (w : World) : (Instr.field 33 (.agg #[.int .i64 a, .int .i64 b]) 0).run Tryz.prog w = .ok (.int .i64 a) w := by kernel_rfl
theorem sum_rb : ∀ (xs : List Int) (ys : List FracD) (q : Rat) (N : Nat), RB N q → (∀ x ∈ xs, -1000000 ≤ x ∧ x ≤ 1000000) → (∀ y ∈ ys, fracGood y.num y.den = true) → RB (N + 61 * xs.length) (rowG q xs (ys.map ratF))
  | [], ys, q, N, h, _, _ => by simpa [rowG] using h
  | x :: r, [], q, N, h, _, _ => by rw [List.map_nil, rowG]; exact h.mono (by omega)
  | x :: r, y :: s, q, N, h, h1, h2 => by
    rw [List.map_cons, rowG]
    have e : (2 : Nat) ^ 30 = 1073741824 := by decide
    have hx := h1 x (by simp)
    have hc : RB 30 (x : Rat) := rb_int x (by omega)
    have hm := h.plus (hc.times (rb_frac y (h2 y (by simp))))
    have := sum_rb r s _ _ hm (fun z hz => h1 z (by simp [hz])) (fun z hz => h2 z (by simp [hz]))
    exact this.mono (by simp only [List.length_cons]; omega)
theorem sum_small {xs : List Int} {ys : List FracD} (hl : xs.length ≤ 12) (h1 : ∀ x ∈ xs, -1000000 ≤ x ∧ x ≤ 1000000) (h2 : ∀ y ∈ ys, fracGood y.num y.den = true) : RB 732 (rowR xs (ys.map ratF)) := by
  have h := sum_rb xs ys 0 0 rb_zero h1 h2
  rw [rowG_eq, Rat.zero_add] at h
  exact h.mono (by omega)

set_option maxRecDepth 100000 in
set_option maxHeartbeats 4000000 in
theorem rowCk_any (A B : Option Addr) (n c n2 c2 : Nat) (r : RowD) (ys : List FracD) (w : World) (hxs : IntsB w w.heap.size A n r.of_) (hn : n ≤ maxLen) (hys : ArrB AtFrac 2 w w.heap.size B n2 ys) (hn2 : n2 ≤ 12) (hR : rowF r n2 = (0, 0)) (hG : ∀ y ∈ ys, fracGood y.num y.den = true) :
    Calls Tryz.prog 47 #[.agg #[.slice A n c, .int .i64 r.kind, .int .i64 r.to_], .slice B n2 c2] w fun e w' => e = .returned (.agg #[.int .i64 0, .int .i64 0]) ∧ Below w.heap.size w w' := by
  obtain ⟨-, -, -, ht1, ht2⟩ := rowF_good hR
  have HC := Lib.hid (fun W (hb : Below w.heap.size w W) => rowCheck_any A n c r n2 0 0 W (hxs.below stays_int hb hb.size) ⟨by omega, by omega⟩ hn (by omega) (by omega) hR)
  obtain ⟨xs, kind, tt⟩ := r
  simp only at HC ⊢
  have HG := Lib.hid (And.intro hys hG)
  have hfd := fun W => field_fault 0 0 W
  clear hxs hn hys hR hG ht1 ht2
  go_enter Tryz.func47, Tryz.ntmps47
  go_upto_region 1 with fail
  obtain ⟨hb0, hbk, hbf, hs0⟩ := two_boxes w 45 33 #[.slice A n c, .int .i64 kind, .int .i64 tt] #[.int .i64 0, .int .i64 0]
  generalize (w.alloc (.cells #[.slice A n c, .int .i64 kind, .int .i64 tt] 45)).alloc (.cells #[.int .i64 0, .int .i64 0] 33) = X at hb0 hbk hbf hs0 ⊢
  have a0 : X.cell? ⟨w.heap.size, 0, none⟩ = some (.slice A n c) := hbk.cell 0
  have a1 : X.cell? ⟨w.heap.size, 1, none⟩ = some (.int .i64 kind) := hbk.cell 1
  have a2 : X.cell? ⟨w.heap.size, 2, none⟩ = some (.int .i64 tt) := hbk.cell 2
  have HX := Lib.hid (And.intro hb0 (And.intro hs0 hbf))
  clear hb0 hs0 hbf hbk
  go_wp2_with fail
  refine (HC.out X HX.out.1).mono ?_
  rintro e w1 ⟨rfl, hb1⟩
  have HB1 := Lib.hid hb1
  clear hb1 a0 a1 a2
  go_wp2_with fail
  go_loopw [18] (fun s wr => ∃ k : Nat, k ≤ n2 ∧ s = .int .i64 k ∧ Hid (Below X.heap.size X wr)) (fun s _ => n2 - (intOf s).toNat)
  case atStart =>
    refine ⟨0, Nat.zero_le _, rfl, Lib.hid ?_⟩
    exact HB1.out.alloc HB1.out.size _
  case round =>
    obtain ⟨k, hk, rfl, HK⟩ := hrel
    by_cases hlt : k < n2
    · have hw0 : Below w.heap.size w wr := HX.out.1.trans (HK.out.mono (by have := HX.out.2.1; omega))
      obtain ⟨b2, off2, hx2, rfl, hb2, n0, n1⟩ := fracs_at (HG.out.1.below stays_frac hw0 (Nat.le_refl _)) hlt
      have hym := HG.out.2 _ (List.getElem_mem hx2)
      generalize ys[k] = y at n0 n1 hym
      obtain ⟨nm, dn⟩ := y
      simp only at n0 n1 hym
      have HF := fun W => fracCheck_any nm dn W
      rw [hym] at HF
      simp only [if_true] at HF
      have HF := Lib.hid HF
      clear hym hw0 hx2
      go_wp2_with fail
      refine (HF.out _).mono ?_
      rintro e w2 ⟨rfl, hb2'⟩
      go_wp2_with fail
      go_roundw
      case rel => exact ⟨k + 1, by omega, by go_num, Lib.hid (((HK.out.alloc HK.out.size _).trans (hb2'.mono (by have := HK.out.size; simp; omega))))⟩
      case measure => simp [intOf]; omega
    · obtain rfl : k = n2 := by omega
      have hf := HX.out.2.2.below HK.out (by have := HX.out.2.1; omega)
      have H9 := Lib.hid (And.intro hf (HX.out.1.trans (HK.out.mono (by have := HX.out.2.1; omega))))
      have u0 := hf.frozen 0
      have u1 := hf.frozen 1
      have v0 : wr.cell? ⟨w.heap.size + 1, 0, none⟩ = some (.int .i64 0) := hf.cell 0
      have v1 : wr.cell? ⟨w.heap.size + 1, 1, none⟩ = some (.int .i64 0) := hf.cell 1
      clear hf HK
      go_wp2_with fail
      obtain ⟨Z, hZ⟩ : ∃ Z, Z = (wr.setCell ⟨w.heap.size + 1, 0, none⟩ (.int .i64 0)).setCell ⟨w.heap.size + 1, 1, none⟩ (.int .i64 0) := ⟨_, rfl⟩
      obtain ⟨⟨z0, z1⟩, z2⟩ := fault_set _ _ hZ H9.out.1 H9.out.2 (by omega)
      rw [← hZ]
      refine bodyPost_ret (v := .agg #[.int .i64 0, .int .i64 0]) (by simp [results, Tryz.results47, go_sem, z0, z1]) rfl ⟨rfl, z2⟩
end Go.Proofs.YtkkpfdfoojcljaaGreat
namespace Go.Proofs.YtkkpfdfoojcljaaGreat
open Go.RowKit

/-- what a row says of numbers -/
def rowHoldsF (r : RowD) (ys : List FracD) : Bool :=
  if r.kind = 1 then decide (rowR r.of_ (ys.map ratF) ≤ (r.to_ : Rat)) else if r.kind = 2 then decide (rowR r.of_ (ys.map ratF) < (r.to_ : Rat)) else decide (rowR r.of_ (ys.map ratF) = (r.to_ : Rat))
set_option maxRecDepth 100000 in
set_option maxHeartbeats 8000000 in
theorem rowHolds_any (A B : Option Addr) (n c n2 c2 : Nat) (r : RowD) (ys : List FracD) (w : World) (hxs : IntsB w w.heap.size A n r.of_) (hn : n ≤ maxLen) (hys : ArrB AtFrac 2 w w.heap.size B n2 ys) (hn2 : n2 ≤ 12) (hR : rowF r n2 = (0, 0)) (hG : ∀ y ∈ ys, fracGood y.num y.den = true) :
    Calls Tryz.prog 29 #[.agg #[.slice A n c, .int .i64 r.kind, .int .i64 r.to_], .slice B n2 c2] w fun e w' => e = .returned (.tuple #[.bool (rowHoldsF r ys), .agg #[.int .i64 0, .int .i64 0]]) ∧ Below w.heap.size w w' := by
  obtain ⟨hk0, hln, hal, ht1, ht2⟩ := rowF_good hR
  have hlen2 := hys.len
  have hrb := sum_small (by omega) hal hG
  have HCK := fun W (hb : Below w.heap.size w W) => rowCk_any A B n c n2 c2 r ys W (hxs.below stays_int hb hb.size) hn (hys.below stays_frac hb hb.size) hn2 hR hG
  have HCS := fun W (hb : Below w.heap.size w W) => sum_row A B n c n2 c2 r ys W (hxs.below stays_int hb hb.size) (hys.below stays_frac hb hb.size) hn2 hR hG
  obtain ⟨xs, kind, tt⟩ := r
  simp only [rowHoldsF] at HCK HCS hrb hk0 ht1 ht2 ⊢
  generalize rowR xs (ys.map ratF) = R at HCS hrb ⊢
  have htb : RB 30 (tt : Rat) := rb_int tt (by
    have e : (2 : Nat) ^ 30 = 1073741824 := by decide
    omega)
  have HCI := fun W => int_rat tt W (by omega) (by omega)
  have HCC := fun W ad (hL : LeftN R ad) => cmp_rat R (tt : Rat) ad W hL (Nat.le_refl 500) (rb_lens hrb (by omega)) (rb_lens htb (by omega))
  rw [← cmp_le R (tt : Rat), ← cmp_lt R (tt : Rat), ← cmp_eq R (tt : Rat)]
  generalize cmpI (R.num * ((tt : Rat).den : Int)) ((tt : Rat).num * (R.den : Int)) = D at HCC ⊢
  obtain ⟨t_s, t_t, hNT, -, -⟩ := num_open (tt : Rat).num ((tt : Rat).den : Int)
  rw [show NumR (tt : Rat) = _ from hNT] at HCI HCC
  generalize decide ((tt : Rat).num < 0) = t_b at HCI HCC
  generalize decide (((tt : Rat).den : Int) < 0) = t_d at HCI HCC
  have HH := Lib.hid (And.intro HCK (And.intro HCS (And.intro HCI HCC)))
  clear HCK HCS HCI HCC hNT hrb htb hxs hys hR hG hal hln hlen2 ht1 ht2
  go_enter Tryz.func29, Tryz.ntmps29
  go_upto_region 1 with fail
  obtain ⟨hb0, hbk, hbf, hs0⟩ := two_boxes w 45 33 #[.slice A n c, .int .i64 kind, .int .i64 tt] #[.int .i64 0, .int .i64 0]
  generalize (w.alloc (.cells #[.slice A n c, .int .i64 kind, .int .i64 tt] 45)).alloc (.cells #[.int .i64 0, .int .i64 0] 33) = Y at hb0 hbk hbf hs0 ⊢
  have y0 : Y.cell? ⟨w.heap.size, 0, none⟩ = some (.slice A n c) := hbk.cell 0
  have y1 : Y.cell? ⟨w.heap.size, 1, none⟩ = some (.int .i64 kind) := hbk.cell 1
  have y2 : Y.cell? ⟨w.heap.size, 2, none⟩ = some (.int .i64 tt) := hbk.cell 2
  have HY := Lib.hid (And.intro hb0 (And.intro hs0 (And.intro hbk hbf)))
  clear hb0 hs0 hbf hbk
  go_wp2_with fail
  refine (HH.out.1 Y HY.out.1).mono ?_
  rintro e w0 ⟨rfl, hb1⟩
  have HB1 := Lib.hid hb1
  clear hb1 y0 y1 y2
  go_upto_region 4 with fail
  have hbX := HB1.out.alloc HB1.out.size (.cells #[.int .i64 0, .int .i64 0] 33)
  generalize w0.alloc (.cells #[.int .i64 0, .int .i64 0] 33) = X at hbX ⊢
  have a0 : X.cell? ⟨w.heap.size, 0, none⟩ = some (.slice A n c) := (HY.out.2.2.1.below hbX (by have := HY.out.2.1; omega)).cell 0
  have a1 : X.cell? ⟨w.heap.size, 1, none⟩ = some (.int .i64 kind) := (HY.out.2.2.1.below hbX (by have := HY.out.2.1; omega)).cell 1
  have a2 : X.cell? ⟨w.heap.size, 2, none⟩ = some (.int .i64 tt) := (HY.out.2.2.1.below hbX (by have := HY.out.2.1; omega)).cell 2
  have hlt0 : w.heap.size < X.heap.size := by have := HY.out.2.1; have := hbX.size; omega
  have hlt1 : w.heap.size + 1 < X.heap.size := by have := HY.out.2.1; have := hbX.size; omega
  have HX := Lib.hid (And.intro (HY.out.2.2.2.below hbX (by have := HY.out.2.1; omega)) (HY.out.1.trans (hbX.mono (by have := HY.out.2.1; omega))))
  clear hbX HY HB1
  go_region_held3 (fun w' => w'.cell? ⟨w.heap.size, 0, none⟩ = some (.slice A n c) ∧ w'.cell? ⟨w.heap.size, 1, none⟩ = some (.int .i64 kind) ∧ w'.cell? ⟨w.heap.size, 2, none⟩ = some (.int .i64 tt))
    ((try dsimp only) <;> (repeat' apply And.intro) <;> (first | go_keep | (repeat (first | (with_reducible assumption) | (with_reducible refine cell_skip (by dsimp only; omega) ?_) | (with_reducible refine cell_old (by dsimp only; omega) ?_)))))
    (first
      | (go_simp
         go_at_call 48
         with_reducible refine (HH.out.2.1 X.drew (below_drew1 HX.out.2)).mono ?_
         rintro e w1 ⟨⟨ad, rfl, hL⟩, hb1⟩
         have hbw1 : Below X.heap.size X w1 := below_of_drew hb1
         have f1_0 : w1.cell? ⟨w.heap.size, 0, none⟩ = some (.slice A n c) := (hbw1.cell (p := ⟨w.heap.size, 0, none⟩) hlt0).trans a0
         have f1_1 : w1.cell? ⟨w.heap.size, 1, none⟩ = some (.int .i64 kind) := (hbw1.cell (p := ⟨w.heap.size, 1, none⟩) hlt0).trans a1
         have f1_2 : w1.cell? ⟨w.heap.size, 2, none⟩ = some (.int .i64 tt) := (hbw1.cell (p := ⟨w.heap.size, 2, none⟩) hlt0).trans a2
         have H1 := Lib.hid hbw1
         have HL := Lib.hid hL
         clear hb1 hbw1 hL)
      | (go_simp
         go_at_call 50
         with_reducible refine (HH.out.2.2.1 w1).mono ?_
         rintro e w2 ⟨rfl, hb2⟩
         have hbw2 : Below X.heap.size X w2 := H1.out.trans (hb2.mono H1.out.size)
         have f2_0 : w2.cell? ⟨w.heap.size, 0, none⟩ = some (.slice A n c) := (hbw2.cell (p := ⟨w.heap.size, 0, none⟩) hlt0).trans a0
         have f2_1 : w2.cell? ⟨w.heap.size, 1, none⟩ = some (.int .i64 kind) := (hbw2.cell (p := ⟨w.heap.size, 1, none⟩) hlt0).trans a1
         have f2_2 : w2.cell? ⟨w.heap.size, 2, none⟩ = some (.int .i64 tt) := (hbw2.cell (p := ⟨w.heap.size, 2, none⟩) hlt0).trans a2
         have H2 := Lib.hid hbw2
         clear hb2 hbw2 f1_0 f1_1 f1_2)
      | (go_simp
         go_at_call 49
         with_reducible refine (HH.out.2.2.2 w2 ad HL.out).mono ?_
         rintro e w3 ⟨rfl, hb3⟩
         have hbw3 : Below X.heap.size X w3 := H2.out.trans (hb3.mono H2.out.size)
         have f3_0 : w3.cell? ⟨w.heap.size, 0, none⟩ = some (.slice A n c) := (hbw3.cell (p := ⟨w.heap.size, 0, none⟩) hlt0).trans a0
         have f3_1 : w3.cell? ⟨w.heap.size, 1, none⟩ = some (.int .i64 kind) := (hbw3.cell (p := ⟨w.heap.size, 1, none⟩) hlt0).trans a1
         have f3_2 : w3.cell? ⟨w.heap.size, 2, none⟩ = some (.int .i64 tt) := (hbw3.cell (p := ⟨w.heap.size, 2, none⟩) hlt0).trans a2
         have hk9 := HX.out.1.below hbw3 hlt1
         have u0 : w3.cell? ⟨w.heap.size + 1, 0, none⟩ = some (.int .i64 0) := hk9.cell 0
         have u1 : w3.cell? ⟨w.heap.size + 1, 1, none⟩ = some (.int .i64 0) := hk9.cell 1
         have u2 := hk9.frozen 0
         have u3 := hk9.frozen 1
         have H9 := Lib.hid (And.intro hk9 (HX.out.2.trans (hbw3.mono HX.out.2.size)))
         clear hb3 hbw3 hk9 f2_0 f2_1 f2_2)
      | fail)
  have hk3 : kind = 1 ∨ kind = 2 ∨ kind = 3 := by omega
  rcases hk3 with rfl | rfl | rfl
  all_goals go_wp2_with fail
  · obtain ⟨Z, hZ⟩ : ∃ Z, Z = (w3.setCell ⟨w.heap.size + 1, 0, none⟩ (.int .i64 0)).setCell ⟨w.heap.size + 1, 1, none⟩ (.int .i64 0) := ⟨_, rfl⟩
    obtain ⟨⟨z0, z1⟩, z2⟩ := fault_set _ _ hZ H9.out.1 H9.out.2 (by omega)
    rw [← hZ]
    refine bodyPost_ret (v := .tuple #[.bool (decide (D ≤ 0)), .agg #[.int .i64 0, .int .i64 0]]) (by simp [results, Tryz.results29, go_sem, z0, z1]) rfl ⟨by simp, z2⟩
  · obtain ⟨Z, hZ⟩ : ∃ Z, Z = (w3.setCell ⟨w.heap.size + 1, 0, none⟩ (.int .i64 0)).setCell ⟨w.heap.size + 1, 1, none⟩ (.int .i64 0) := ⟨_, rfl⟩
    obtain ⟨⟨z0, z1⟩, z2⟩ := fault_set _ _ hZ H9.out.1 H9.out.2 (by omega)
    rw [← hZ]
    refine bodyPost_ret (v := .tuple #[.bool (decide (D < 0)), .agg #[.int .i64 0, .int .i64 0]]) (by simp [results, Tryz.results29, go_sem, z0, z1]) rfl ⟨by simp, z2⟩
  · obtain ⟨Z, hZ⟩ : ∃ Z, Z = (w3.setCell ⟨w.heap.size + 1, 0, none⟩ (.int .i64 0)).setCell ⟨w.heap.size + 1, 1, none⟩ (.int .i64 0) := ⟨_, rfl⟩
    obtain ⟨⟨z0, z1⟩, z2⟩ := fault_set _ _ hZ H9.out.1 H9.out.2 (by omega)
    rw [← hZ]
    refine bodyPost_ret (v := .tuple #[.bool (D == 0), .agg #[.int .i64 0, .int .i64 0]]) (by simp [results, Tryz.results29, go_sem, z0, z1]) rfl ⟨by simp, z2⟩
end Go.Proofs.YtkkpfdfoojcljaaGreat
