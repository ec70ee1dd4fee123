/- Walks: fractions added, multiplied, compared: the program, whole. -/
import Derived.Test.YtdncchlfeanlmaaFracCD
import Derived.Test.YtdncchlfeanlmaaFuncs
import Derived.Deep.Cut
import Derived.Deep.RegionLaw
namespace Go.Proofs.Ytdncchlfeanlmaa
open Go.RowKit

theorem boxes4 (w : World) (t1 t2 t3 t4 : TypeId) (c1 c2 c3 c4 : Array Value) : ∃ X, (((w.alloc (.cells c1 t1)).alloc (.cells c2 t2)).alloc (.cells c3 t3)).alloc (.cells c4 t4) = X ∧ Below w.heap.size w X ∧ Blk X w.heap.size t1 c1 ∧ Blk X (w.heap.size + 1) t2 c2 ∧ Blk X (w.heap.size + 2) t3 c3 ∧ Blk X (w.heap.size + 3) t4 c4 ∧ X.heap.size = w.heap.size + 4 := by
  obtain ⟨h1, h2, h3, h4⟩ := two_boxes w t1 t2 c1 c2
  have b3 := Blk.new ((w.alloc (.cells c1 t1)).alloc (.cells c2 t2)) t3 c3
  have b4 := Blk.new (((w.alloc (.cells c1 t1)).alloc (.cells c2 t2)).alloc (.cells c3 t3)) t4 c4
  have e4 : (((w.alloc (.cells c1 t1)).alloc (.cells c2 t2)).alloc (.cells c3 t3)).heap.size = w.heap.size + 3 := by simp
  rw [h4] at b3
  rw [e4] at b4
  exact ⟨_, rfl, (h1.alloc (by omega) _).alloc (by simp; omega) _, (h2.alloc _).alloc _, (h3.alloc _).alloc _, b3.alloc _, b4, by simp⟩
theorem two_fracs {w : World} {g : Nat} {a b : FracD} (h : Blk w g 88 #[.int .i64 a.num, .int .i64 a.den, .int .i64 b.num, .int .i64 b.den]) (ha : fracGood a.num a.den = true) (hb : fracGood b.num b.den = true) : ArrB AtFrac 2 w w.heap.size (some ⟨g, 0, none⟩) 2 [a, b] := by
  have hI : ∀ x : Int, -1073741824 ≤ x → x ≤ 1073741824 → I64 x := fun x h1 h2 => by unfold I64; omega
  simp only [fracGood, decide_eq_true_eq] at ha hb
  refine ⟨rfl, fun i x hx => ?_⟩
  rcases i with _ | _ | i
  · simp only [List.getElem?_cons_zero, Option.some.injEq] at hx
    subst hx
    exact ⟨g, 0, rfl, h.lt, ⟨h.cell 0, hI _ (by omega) (by omega)⟩, h.cell 1, hI _ (by omega) (by omega)⟩
  · simp only [Nat.zero_add, List.getElem?_cons_succ, List.getElem?_cons_zero, Option.some.injEq] at hx
    subst hx
    exact ⟨g, 0, rfl, h.lt, ⟨h.cell 2, hI _ (by omega) (by omega)⟩, h.cell 3, hI _ (by omega) (by omega)⟩
  · simp at hx

/-- two blocks of two cells, written whole -/
def four (w : World) (g h : Nat) (a b c d : Value) : World := two (two w g a b) h c d
theorem four_ok {w0 w : World} {B g h : Nat} {t1 t2 : TypeId} {a0 b0 c0 d0 : Value} (hb : Below B w0 w) (h1 : Blk w g t1 #[a0, b0]) (h2 : Blk w h t2 #[c0, d0]) (hg : B ≤ g) (hh : B ≤ h) (hne : g ≠ h) (a b c d : Value) :
    Below B w0 (four w g h a b c d) ∧ Blk (four w g h a b c d) g t1 #[a, b] ∧ Blk (four w g h a b c d) h t2 #[c, d] := by
  have k1 := two_blk h1 a b
  have k2 : Blk (two w g a b) h t2 #[c0, d0] := (h2.far (p := ⟨g, 0, none⟩) (fun e => hne e.symm) a).far (p := ⟨g, 1, none⟩) (fun e => hne e.symm) b
  exact ⟨two_below (two_below hb hg a b) hh c d, (k1.far (p := ⟨h, 0, none⟩) hne c).far (p := ⟨h, 1, none⟩) hne d, two_blk k2 c d⟩

set_option maxRecDepth 100000 in
set_option maxHeartbeats 600000 in
theorem apply_any (g : Nat) (eg : ∀ args w, (callFunc g args).run Try.prog w = .ok (.enter g args) w) (a b : FracD) (n d : Int) (r : Option FracD) (w : World) (ha : fracGood a.num a.den = true) (hb : fracGood b.num b.den = true)
    (hp : ∀ W, Calls Try.prog g #[.agg #[.int .i64 a.num, .int .i64 a.den], .agg #[.int .i64 b.num, .int .i64 b.den]] W fun e w' => e = .returned (.tuple #[.int .i64 n, .int .i64 d]) ∧ Below W.heap.size W w')
    (h0 : -4611686018427387904 ≤ n) (h1 : n ≤ 4611686018427387904) (h2 : 1 ≤ d) (h3 : d ≤ 4611686018427387904) (hr : lowF n d = r) :
    Calls Try.prog 86 #[.agg #[.int .i64 a.num, .int .i64 a.den], .agg #[.int .i64 b.num, .int .i64 b.den], .func (.func g) #[] #[]] w fun e w' => e = .returned (makeV r) ∧ Below w.heap.size w w' := by
  obtain ⟨X, hX, hbX, k1, k2, k3, k4, hsX⟩ := boxes4 w 88 88 88 29 #[.int .i64 a.num, .int .i64 a.den] #[.int .i64 b.num, .int .i64 b.den] #[.int .i64 0, .int .i64 0] #[.int .i64 0, .int .i64 0]
  obtain ⟨X2, hX2⟩ : ∃ X2, X.alloc (.cells #[.int .i64 a.num, .int .i64 a.den, .int .i64 b.num, .int .i64 b.den] 88) = X2 := ⟨_, rfl⟩
  have kb : Blk X2 X.heap.size 88 #[.int .i64 a.num, .int .i64 a.den, .int .i64 b.num, .int .i64 b.den] := by rw [← hX2]; exact Blk.new _ _ _
  have hb2 : Below X.heap.size X X2 := by rw [← hX2]; exact (Below.refl _ _).alloc (Nat.le_refl _) _
  have hs2 : X2.heap.size = w.heap.size + 5 := by rw [← hX2]; simp [hsX]
  rw [hsX] at kb
  have HC := Lib.hid (checked_any (some ⟨w.heap.size + 4, 0, none⟩) 2 2 [a, b] X2 (two_fracs kb ha hb) (by omega) (fun x hx => by
    simp only [List.mem_cons, List.not_mem_nil, or_false] at hx
    rcases hx with rfl | rfl
    · exact ha
    · exact hb))
  have HP := Lib.hid hp
  have HM := Lib.hid (fun W => make_any n d r W h0 h1 h2 h3 hr)
  have hMK : ∀ W : World, Below (w.heap.size + 5) X2 W → Below w.heap.size w W ∧ W.cell? ⟨w.heap.size, 0, none⟩ = some (.int .i64 a.num) ∧ W.cell? ⟨w.heap.size, 1, none⟩ = some (.int .i64 a.den) ∧ W.cell? ⟨w.heap.size + 1, 0, none⟩ = some (.int .i64 b.num) ∧ W.cell? ⟨w.heap.size + 1, 1, none⟩ = some (.int .i64 b.den) ∧
      Blk W (w.heap.size + 2) 88 #[.int .i64 0, .int .i64 0] ∧ Blk W (w.heap.size + 3) 29 #[.int .i64 0, .int .i64 0] ∧ w.heap.size + 3 < W.heap.size := fun W hW =>
    have m1 := (k1.below hb2 (by omega)).below hW (by omega)
    have m2 := (k2.below hb2 (by omega)).below hW (by omega)
    have m3 := (k3.below hb2 (by omega)).below hW (by omega)
    have m4 := (k4.below hb2 (by omega)).below hW (by omega)
    ⟨(hbX.trans (hb2.mono (by omega))).trans (hW.mono (by omega)), m1.cell 0, m1.cell 1, m2.cell 0, m2.cell 1, m3, m4, m4.lt⟩
  have MK := Lib.hid hMK
  have HX := Lib.hid hX
  have HX2 := Lib.hid hX2
  have HS := Lib.hid (And.intro hsX hs2)
  clear hbX k1 k2 k3 k4 hsX kb hb2 hs2 hMK hX hX2 hp ha hb hr h0 h1 h2 h3
  go_enter Try.func86, Try.ntmps86
  go_wp2_with fail
  rw [HX.out, HX2.out]
  refine HC.out.mono ?_
  rintro e w1 ⟨rfl, hb1⟩
  have hb3 : Below (w.heap.size + 5) X2 (w1.alloc (.cells #[.int .i64 0, .int .i64 0] 29)) := (hb1.mono (by have := HS.out.2; omega)).alloc (by have := hb1.size; have := HS.out.2; omega) _
  have kf := Blk.new w1 29 #[.int .i64 0, .int .i64 0]
  obtain ⟨Y, hY⟩ : ∃ Y, w1.alloc (.cells #[.int .i64 0, .int .i64 0] 29) = Y := ⟨_, rfl⟩
  rw [hY] at hb3 kf
  obtain ⟨hbw, a0, a1, b0, b1, -, -, hz⟩ := MK.out Y hb3
  have f0 : Y.cell? ⟨w1.heap.size, 0, none⟩ = some (.int .i64 0) := kf.cell 0
  have f1 : Y.cell? ⟨w1.heap.size, 1, none⟩ = some (.int .i64 0) := kf.cell 1
  have hzf : w1.heap.size < Y.heap.size := kf.lt
  have HB3 := Lib.hid hb3
  have HY := Lib.hid hY
  clear hb1 hb3 hY kf hbw
  go_upto_region 2 with fail
  rw [HY.out]
  go_wp2_with (go_at_fn g; refine (HP.out _).mono ?_; rintro e w2 ⟨rfl, hb2⟩)
  refine (HM.out _).mono ?_
  rintro e w3 ⟨rfl, hb4⟩
  have hz5 : w.heap.size + 5 ≤ Y.heap.size := by have := HB3.out.size; have := HS.out.2; omega
  obtain ⟨hbw, -, -, -, -, m3, m4, hz⟩ := MK.out w3 (HB3.out.trans ((hb2.trans (hb4.mono hb2.size)).mono hz5))
  have HF := Lib.hid (fun a b c d => four_ok hbw m3 m4 (by omega) (by omega) (by omega) a b c d)
  have c0 : w3.cell? ⟨w.heap.size + 2, 0, none⟩ = some (.int .i64 0) := m3.cell 0
  have c1 : w3.cell? ⟨w.heap.size + 2, 1, none⟩ = some (.int .i64 0) := m3.cell 1
  have v0 : w3.frozen? ⟨w.heap.size + 2, 0, none⟩ = false := m3.frozen 0
  have v1 : w3.frozen? ⟨w.heap.size + 2, 1, none⟩ = false := m3.frozen 1
  have c2 : w3.cell? ⟨w.heap.size + 3, 0, none⟩ = some (.int .i64 0) := m4.cell 0
  have c3 : w3.cell? ⟨w.heap.size + 3, 1, none⟩ = some (.int .i64 0) := m4.cell 1
  have v2 : w3.frozen? ⟨w.heap.size + 3, 0, none⟩ = false := m4.frozen 0
  have v3 : w3.frozen? ⟨w.heap.size + 3, 1, none⟩ = false := m4.frozen 1
  clear a0 a1 b0 b1 f0 f1 hzf hb2 hb4 m3 m4 hbw
  cases r with
  | none =>
    unfold makeV
    go_wp2_with fail
    clear c0 c1 c2 c3 v0 v1 v2 v3
    have hF := HF.out (.int .i64 0) (.int .i64 0) (.int .i64 10) (.int .i64 0)
    have e4 : (((w3.setCell ⟨w.heap.size + 1 + 1, 0, none⟩ (.int .i64 0)).setCell ⟨w.heap.size + 1 + 1, 1, none⟩ (.int .i64 0)).setCell ⟨w.heap.size + 1 + 1 + 1, 0, none⟩ (.int .i64 10)).setCell ⟨w.heap.size + 1 + 1 + 1, 1, none⟩ (.int .i64 0) = four w3 (w.heap.size + 2) (w.heap.size + 3) (.int .i64 0) (.int .i64 0) (.int .i64 10) (.int .i64 0) := rfl
    rw [e4]
    clear e4
    generalize four w3 (w.heap.size + 2) (w.heap.size + 3) (.int .i64 0) (.int .i64 0) (.int .i64 10) (.int .i64 0) = Z at hF ⊢
    have d0 := hF.2.1.cell 0
    have d1 := hF.2.1.cell 1
    have d2 := hF.2.2.cell 0
    have d3 := hF.2.2.cell 1
    simp only [List.getElem?_toArray, List.getElem?_cons_zero, List.getElem?_cons_succ] at d0 d1 d2 d3
    exact bodyPost_ret (v := .tuple #[.agg #[.int .i64 0, .int .i64 0], .agg #[.int .i64 10, .int .i64 0]]) (by simp [results, Try.results86, go_sem, d0, d1, d2, d3]) rfl ⟨rfl, hF.1⟩
  | some q =>
    unfold makeV
    go_wp2_with fail
    clear c0 c1 c2 c3 v0 v1 v2 v3
    have hF := HF.out (.int .i64 q.num) (.int .i64 q.den) (.int .i64 0) (.int .i64 0)
    have e4 : (((w3.setCell ⟨w.heap.size + 1 + 1, 0, none⟩ (.int .i64 q.num)).setCell ⟨w.heap.size + 1 + 1, 1, none⟩ (.int .i64 q.den)).setCell ⟨w.heap.size + 1 + 1 + 1, 0, none⟩ (.int .i64 0)).setCell ⟨w.heap.size + 1 + 1 + 1, 1, none⟩ (.int .i64 0) = four w3 (w.heap.size + 2) (w.heap.size + 3) (.int .i64 q.num) (.int .i64 q.den) (.int .i64 0) (.int .i64 0) := rfl
    rw [e4]
    clear e4
    generalize four w3 (w.heap.size + 2) (w.heap.size + 3) (.int .i64 q.num) (.int .i64 q.den) (.int .i64 0) (.int .i64 0) = Z at hF ⊢
    have d0 := hF.2.1.cell 0
    have d1 := hF.2.1.cell 1
    have d2 := hF.2.2.cell 0
    have d3 := hF.2.2.cell 1
    simp only [List.getElem?_toArray, List.getElem?_cons_zero, List.getElem?_cons_succ] at d0 d1 d2 d3
    exact bodyPost_ret (v := .tuple #[.agg #[.int .i64 q.num, .int .i64 q.den], .agg #[.int .i64 0, .int .i64 0]]) (by simp [results, Try.results86, go_sem, d0, d1, d2, d3]) rfl ⟨rfl, hF.1⟩

set_option maxRecDepth 100000 in
set_option maxHeartbeats 600000 in
theorem fracAdd_any (a b : FracD) (r : Option FracD) (w : World) (ha : fracGood a.num a.den = true) (hb : fracGood b.num b.den = true) (hr : addQ a b = r) :
    Calls Try.prog 74 #[.agg #[.int .i64 a.num, .int .i64 a.den], .agg #[.int .i64 b.num, .int .i64 b.den]] w fun e w' => e = .returned (makeV r) ∧ Below w.heap.size w w' := by
  have eg : ∀ args w, (callFunc 88 args).run Try.prog w = .ok (.enter 88 args) w := enters_of Try.func88 (by kernel_rfl) rfl
  obtain ⟨⟨h1, h2⟩, ⟨h3, h4⟩, ⟨h5, h6⟩, ⟨h7, h8⟩⟩ := cross ha hb
  obtain ⟨X, hX, hbX, k1, k2, k3, k4, hsX⟩ := boxes4 w 88 88 88 29 #[.int .i64 a.num, .int .i64 a.den] #[.int .i64 b.num, .int .i64 b.den] #[.int .i64 0, .int .i64 0] #[.int .i64 0, .int .i64 0]
  have HC := Lib.hid (apply_any 88 eg a b (a.num * b.den + b.num * a.den) (a.den * b.den) r X ha hb (fun W => add1_any a b ha hb W) (by omega) (by omega) h5 (by omega) hr)
  have HX := Lib.hid hX
  have HK := Lib.hid (And.intro hbX (And.intro k3 (And.intro k4 hsX)))
  clear hX hbX k1 k2 k3 k4 hsX hr ha hb eg h1 h2 h3 h4 h5 h6 h7 h8
  go_enter Try.func74, Try.ntmps74
  go_wp2_with fail
  rw [HX.out]
  refine HC.out.mono ?_
  rintro e w3 ⟨rfl, hb3⟩
  obtain ⟨hbX, k3, k4, hsX⟩ := HK.out
  have m3 := k3.below hb3 (by omega)
  have m4 := k4.below hb3 (by omega)
  have hbw := hbX.trans (hb3.mono (by omega))
  have hz : w.heap.size + 3 < w3.heap.size := m4.lt
  have HF := Lib.hid (fun a b c d => four_ok hbw m3 m4 (by omega) (by omega) (by omega) a b c d)
  have c0 : w3.cell? ⟨w.heap.size + 2, 0, none⟩ = some (.int .i64 0) := m3.cell 0
  have c1 : w3.cell? ⟨w.heap.size + 2, 1, none⟩ = some (.int .i64 0) := m3.cell 1
  have v0 : w3.frozen? ⟨w.heap.size + 2, 0, none⟩ = false := m3.frozen 0
  have v1 : w3.frozen? ⟨w.heap.size + 2, 1, none⟩ = false := m3.frozen 1
  have c2 : w3.cell? ⟨w.heap.size + 3, 0, none⟩ = some (.int .i64 0) := m4.cell 0
  have c3 : w3.cell? ⟨w.heap.size + 3, 1, none⟩ = some (.int .i64 0) := m4.cell 1
  have v2 : w3.frozen? ⟨w.heap.size + 3, 0, none⟩ = false := m4.frozen 0
  have v3 : w3.frozen? ⟨w.heap.size + 3, 1, none⟩ = false := m4.frozen 1
  clear hb3 m3 m4 hbw hbX k3 k4 hsX
  cases r with
  | none =>
    unfold makeV
    go_wp2_with fail
    clear c0 c1 c2 c3 v0 v1 v2 v3
    have hF := HF.out (.int .i64 0) (.int .i64 0) (.int .i64 10) (.int .i64 0)
    have e4 : (((w3.setCell ⟨w.heap.size + 1 + 1, 0, none⟩ (.int .i64 0)).setCell ⟨w.heap.size + 1 + 1, 1, none⟩ (.int .i64 0)).setCell ⟨w.heap.size + 1 + 1 + 1, 0, none⟩ (.int .i64 10)).setCell ⟨w.heap.size + 1 + 1 + 1, 1, none⟩ (.int .i64 0) = four w3 (w.heap.size + 2) (w.heap.size + 3) (.int .i64 0) (.int .i64 0) (.int .i64 10) (.int .i64 0) := rfl
    rw [e4]
    clear e4
    generalize four w3 (w.heap.size + 2) (w.heap.size + 3) (.int .i64 0) (.int .i64 0) (.int .i64 10) (.int .i64 0) = Z at hF ⊢
    have d0 := hF.2.1.cell 0
    have d1 := hF.2.1.cell 1
    have d2 := hF.2.2.cell 0
    have d3 := hF.2.2.cell 1
    simp only [List.getElem?_toArray, List.getElem?_cons_zero, List.getElem?_cons_succ] at d0 d1 d2 d3
    exact bodyPost_ret (v := .tuple #[.agg #[.int .i64 0, .int .i64 0], .agg #[.int .i64 10, .int .i64 0]]) (by simp [results, Try.results74, go_sem, d0, d1, d2, d3]) rfl ⟨rfl, hF.1⟩
  | some q =>
    unfold makeV
    go_wp2_with fail
    clear c0 c1 c2 c3 v0 v1 v2 v3
    have hF := HF.out (.int .i64 q.num) (.int .i64 q.den) (.int .i64 0) (.int .i64 0)
    have e4 : (((w3.setCell ⟨w.heap.size + 1 + 1, 0, none⟩ (.int .i64 q.num)).setCell ⟨w.heap.size + 1 + 1, 1, none⟩ (.int .i64 q.den)).setCell ⟨w.heap.size + 1 + 1 + 1, 0, none⟩ (.int .i64 0)).setCell ⟨w.heap.size + 1 + 1 + 1, 1, none⟩ (.int .i64 0) = four w3 (w.heap.size + 2) (w.heap.size + 3) (.int .i64 q.num) (.int .i64 q.den) (.int .i64 0) (.int .i64 0) := rfl
    rw [e4]
    clear e4
    generalize four w3 (w.heap.size + 2) (w.heap.size + 3) (.int .i64 q.num) (.int .i64 q.den) (.int .i64 0) (.int .i64 0) = Z at hF ⊢
    have d0 := hF.2.1.cell 0
    have d1 := hF.2.1.cell 1
    have d2 := hF.2.2.cell 0
    have d3 := hF.2.2.cell 1
    simp only [List.getElem?_toArray, List.getElem?_cons_zero, List.getElem?_cons_succ] at d0 d1 d2 d3
    exact bodyPost_ret (v := .tuple #[.agg #[.int .i64 q.num, .int .i64 q.den], .agg #[.int .i64 0, .int .i64 0]]) (by simp [results, Try.results74, go_sem, d0, d1, d2, d3]) rfl ⟨rfl, hF.1⟩

set_option maxRecDepth 100000 in
set_option maxHeartbeats 600000 in
theorem fracTimes_any (a b : FracD) (r : Option FracD) (w : World) (ha : fracGood a.num a.den = true) (hb : fracGood b.num b.den = true) (hr : timesQ a b = r) :
    Calls Try.prog 73 #[.agg #[.int .i64 a.num, .int .i64 a.den], .agg #[.int .i64 b.num, .int .i64 b.den]] w fun e w' => e = .returned (makeV r) ∧ Below w.heap.size w w' := by
  have eg : ∀ args w, (callFunc 87 args).run Try.prog w = .ok (.enter 87 args) w := enters_of Try.func87 (by kernel_rfl) rfl
  obtain ⟨⟨h1, h2⟩, ⟨h3, h4⟩, ⟨h5, h6⟩, ⟨h7, h8⟩⟩ := cross ha hb
  obtain ⟨X, hX, hbX, k1, k2, k3, k4, hsX⟩ := boxes4 w 88 88 88 29 #[.int .i64 a.num, .int .i64 a.den] #[.int .i64 b.num, .int .i64 b.den] #[.int .i64 0, .int .i64 0] #[.int .i64 0, .int .i64 0]
  have HC := Lib.hid (apply_any 87 eg a b (a.num * b.num) (a.den * b.den) r X ha hb (fun W => times1_any a b ha hb W) (by omega) (by omega) h5 (by omega) hr)
  have HX := Lib.hid hX
  have HK := Lib.hid (And.intro hbX (And.intro k3 (And.intro k4 hsX)))
  clear hX hbX k1 k2 k3 k4 hsX hr ha hb eg h1 h2 h3 h4 h5 h6 h7 h8
  go_enter Try.func73, Try.ntmps73
  go_wp2_with fail
  rw [HX.out]
  refine HC.out.mono ?_
  rintro e w3 ⟨rfl, hb3⟩
  obtain ⟨hbX, k3, k4, hsX⟩ := HK.out
  have m3 := k3.below hb3 (by omega)
  have m4 := k4.below hb3 (by omega)
  have hbw := hbX.trans (hb3.mono (by omega))
  have hz : w.heap.size + 3 < w3.heap.size := m4.lt
  have HF := Lib.hid (fun a b c d => four_ok hbw m3 m4 (by omega) (by omega) (by omega) a b c d)
  have c0 : w3.cell? ⟨w.heap.size + 2, 0, none⟩ = some (.int .i64 0) := m3.cell 0
  have c1 : w3.cell? ⟨w.heap.size + 2, 1, none⟩ = some (.int .i64 0) := m3.cell 1
  have v0 : w3.frozen? ⟨w.heap.size + 2, 0, none⟩ = false := m3.frozen 0
  have v1 : w3.frozen? ⟨w.heap.size + 2, 1, none⟩ = false := m3.frozen 1
  have c2 : w3.cell? ⟨w.heap.size + 3, 0, none⟩ = some (.int .i64 0) := m4.cell 0
  have c3 : w3.cell? ⟨w.heap.size + 3, 1, none⟩ = some (.int .i64 0) := m4.cell 1
  have v2 : w3.frozen? ⟨w.heap.size + 3, 0, none⟩ = false := m4.frozen 0
  have v3 : w3.frozen? ⟨w.heap.size + 3, 1, none⟩ = false := m4.frozen 1
  clear hb3 m3 m4 hbw hbX k3 k4 hsX
  cases r with
  | none =>
    unfold makeV
    go_wp2_with fail
    clear c0 c1 c2 c3 v0 v1 v2 v3
    have hF := HF.out (.int .i64 0) (.int .i64 0) (.int .i64 10) (.int .i64 0)
    have e4 : (((w3.setCell ⟨w.heap.size + 1 + 1, 0, none⟩ (.int .i64 0)).setCell ⟨w.heap.size + 1 + 1, 1, none⟩ (.int .i64 0)).setCell ⟨w.heap.size + 1 + 1 + 1, 0, none⟩ (.int .i64 10)).setCell ⟨w.heap.size + 1 + 1 + 1, 1, none⟩ (.int .i64 0) = four w3 (w.heap.size + 2) (w.heap.size + 3) (.int .i64 0) (.int .i64 0) (.int .i64 10) (.int .i64 0) := rfl
    rw [e4]
    clear e4
    generalize four w3 (w.heap.size + 2) (w.heap.size + 3) (.int .i64 0) (.int .i64 0) (.int .i64 10) (.int .i64 0) = Z at hF ⊢
    have d0 := hF.2.1.cell 0
    have d1 := hF.2.1.cell 1
    have d2 := hF.2.2.cell 0
    have d3 := hF.2.2.cell 1
    simp only [List.getElem?_toArray, List.getElem?_cons_zero, List.getElem?_cons_succ] at d0 d1 d2 d3
    exact bodyPost_ret (v := .tuple #[.agg #[.int .i64 0, .int .i64 0], .agg #[.int .i64 10, .int .i64 0]]) (by simp [results, Try.results73, go_sem, d0, d1, d2, d3]) rfl ⟨rfl, hF.1⟩
  | some q =>
    unfold makeV
    go_wp2_with fail
    clear c0 c1 c2 c3 v0 v1 v2 v3
    have hF := HF.out (.int .i64 q.num) (.int .i64 q.den) (.int .i64 0) (.int .i64 0)
    have e4 : (((w3.setCell ⟨w.heap.size + 1 + 1, 0, none⟩ (.int .i64 q.num)).setCell ⟨w.heap.size + 1 + 1, 1, none⟩ (.int .i64 q.den)).setCell ⟨w.heap.size + 1 + 1 + 1, 0, none⟩ (.int .i64 0)).setCell ⟨w.heap.size + 1 + 1 + 1, 1, none⟩ (.int .i64 0) = four w3 (w.heap.size + 2) (w.heap.size + 3) (.int .i64 q.num) (.int .i64 q.den) (.int .i64 0) (.int .i64 0) := rfl
    rw [e4]
    clear e4
    generalize four w3 (w.heap.size + 2) (w.heap.size + 3) (.int .i64 q.num) (.int .i64 q.den) (.int .i64 0) (.int .i64 0) = Z at hF ⊢
    have d0 := hF.2.1.cell 0
    have d1 := hF.2.1.cell 1
    have d2 := hF.2.2.cell 0
    have d3 := hF.2.2.cell 1
    simp only [List.getElem?_toArray, List.getElem?_cons_zero, List.getElem?_cons_succ] at d0 d1 d2 d3
    exact bodyPost_ret (v := .tuple #[.agg #[.int .i64 q.num, .int .i64 q.den], .agg #[.int .i64 0, .int .i64 0]]) (by simp [results, Try.results73, go_sem, d0, d1, d2, d3]) rfl ⟨rfl, hF.1⟩
end Go.Proofs.Ytdncchlfeanlmaa
