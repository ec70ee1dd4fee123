/- Plain: fractions in lowest terms are good. No program is named here. · Walks: the judge's sum of rows: a multiple is added to a number. -/
import Derived.Test.YtdncchlfeanlmaaFracPW
import Derived.Test.YtdncchlfeanlmaaJuCD
import Derived.Test.YtdncchlfeanlmaaFracE
import Derived.BigRegion
namespace Go.Proofs.Ytdncchlfeanlmaa
open Go.RowKit

theorem gcd_pos {n d : Int} (hd : 0 < d) : 0 < Int.gcd n d := Int.gcd_pos_of_ne_zero_right _ (by omega)
theorem lowF_spec {n d : Int} {q : FracD} (hd : 0 < d) (h : lowF n d = some q) : fracGood q.num q.den = true ∧ (d = 1 → q.den = 1) := by
  unfold lowF at h
  split at h
  · cases h
  · rename_i hc
    injection h with h
    subst h
    have hg := gcd_pos (n := n) hd
    obtain ⟨a, ha⟩ := Int.gcd_dvd_left n d
    obtain ⟨b, hb⟩ := Int.gcd_dvd_right n d
    have hg0 : ((Int.gcd n d : Nat) : Int) ≠ 0 := by omega
    have e1 : n.tdiv (Int.gcd n d : Nat) = a := Int.tdiv_eq_of_eq_mul_right hg0 ha
    have e2 : d.tdiv (Int.gcd n d : Nat) = b := Int.tdiv_eq_of_eq_mul_right hg0 hb
    rw [e1, e2] at hc ⊢
    have hbp : 0 < b := by
      rcases Int.lt_trichotomy b 0 with h | h | h
      · have : (Int.gcd n d : Int) * b ≤ 0 := Int.mul_nonpos_of_nonneg_of_nonpos (by omega) (by omega)
        omega
      · rw [h] at hb; omega
      · exact h
    have hco : Int.gcd a b = 1 := by
      have h1 : Int.gcd ((Int.gcd n d : Nat) * a) ((Int.gcd n d : Nat) * b) = Int.gcd n d * Int.gcd a b := by rw [Int.gcd_mul_left]; simp
      rw [← ha, ← hb] at h1
      have h2 : Int.gcd n d * Int.gcd a b = Int.gcd n d * 1 := by omega
      exact Nat.eq_of_mul_eq_mul_left hg h2
    refine ⟨?_, ?_⟩
    · simp only [fracGood, decide_eq_true_eq]
      exact ⟨by omega, by omega, by omega, by omega, hco⟩
    · intro h1
      show b = 1
      rw [h1] at hb
      have : b ∣ 1 := ⟨(Int.gcd n d : Nat), by rw [Int.mul_comm]; exact (by rw [h1]; exact hb)⟩
      exact Int.eq_one_of_dvd_one (by omega) this

theorem qgood {q : FracD} (h : fracGood q.num q.den = true) : 1 ≤ q.den ∧ q.den ≤ 1073741824 ∧ -1073741824 ≤ q.num ∧ q.num ≤ 1073741824 := by
  simp only [fracGood, decide_eq_true_eq] at h
  exact ⟨h.1, h.2.1, h.2.2.1, h.2.2.2.1⟩
theorem addQ_good {a b q : FracD} (ha : fracGood a.num a.den = true) (hb : fracGood b.num b.den = true) (h : addQ a b = some q) : fracGood q.num q.den = true ∧ (a.den = 1 → b.den = 1 → q.den = 1) := by
  have h1 := qgood ha
  have h2 := qgood hb
  obtain ⟨h3, h4⟩ := lowF_spec (Int.mul_pos (by omega) (by omega)) h
  exact ⟨h3, fun e1 e2 => h4 (by rw [e1, e2]; rfl)⟩
theorem timesQ_good {a b q : FracD} (ha : fracGood a.num a.den = true) (hb : fracGood b.num b.den = true) (h : timesQ a b = some q) : fracGood q.num q.den = true ∧ (a.den = 1 → b.den = 1 → q.den = 1) := by
  have h1 := qgood ha
  have h2 := qgood hb
  obtain ⟨h3, h4⟩ := lowF_spec (Int.mul_pos (by omega) (by omega)) h
  exact ⟨h3, fun e1 e2 => h4 (by rw [e1, e2]; rfl)⟩
end Go.Proofs.Ytdncchlfeanlmaa
namespace Go.Proofs.Ytdncchlfeanlmaa
open Go.RowKit

theorem heap_set (w : World) (p : Addr) (v : Value) (k : Nat) (hk : k = p.block) : ∀ w2 : World, w2.heap[k]? = w.heap[k]? → (w2.setCell p v).heap[k]? = (w.setCell p v).heap[k]? := fun w2 h => by
  subst hk
  simp [World.setCell, Array.getElem?_modify, h]
theorem below_put {B : Nat} {w w' : World} (h : Below B w w') (p : Addr) (v : Value) : Below B (w.setCell p v) (w'.setCell p v) :=
  ⟨h.os, h.tape, h.output, by simpa [World.setCell] using h.size, fun i hi => by
    by_cases e : i = p.block
    · exact heap_set w p v i e w' (h.block i hi)
    · exact (Below.heap_setCell w' p v i e).trans ((h.block i hi).trans (Below.heap_setCell w p v i e).symm)⟩
/-- a fraction of two cells is written anew -/
def putQ (w : World) (b o : Nat) (q : FracD) : World := (w.setCell ⟨b, o, none⟩ (.int .i64 q.num)).setCell ⟨b, o + 1, none⟩ (.int .i64 q.den)
theorem below_putQ {B : Nat} {w w' : World} (h : Below B w w') (b o : Nat) (q : FracD) : Below B (putQ w b o q) (putQ w' b o q) := below_put (below_put h _ _) _ _
theorem only_putQ (w : World) (b o : Nat) (q : FracD) : w.grownBy (putQ w b o q) (some b) := one_only (one_only (only_refl _ _) _ _) _ _

def JAddP (a : FracD) (x : Int) (m : FracD) (b o : Nat) (w : World) (e : Ending) (w' : World) : Prop :=
  (∀ q, addC a x m = some q → e = .returned (.bool true) ∧ Below w.heap.size (putQ w b o q) w') ∧ (addC a x m = none → e = .returned (.bool false) ∧ w.grownBy w' (some b))
theorem good_whole {x : Int} (h0 : -1073741824 ≤ x) (h1 : x ≤ 1073741824) : fracGood x 1 = true := by simp [fracGood, h0, h1]
theorem addC_good {a m q : FracD} {x : Int} (ha : fracGood a.num a.den = true) (hm : fracGood m.num m.den = true) (h0 : -1073741824 ≤ x) (h1 : x ≤ 1073741824) (h : addC a x m = some q) : fracGood q.num q.den = true := by
  unfold addC at h
  cases ht : timesQ ⟨x, 1⟩ m with
  | none => rw [ht] at h; cases h
  | some p =>
    rw [ht] at h
    exact (addQ_good ha (timesQ_good (a := ⟨x, 1⟩) (good_whole h0 h1) hm ht).1 h).1

set_option maxRecDepth 100000 in
set_option maxHeartbeats 4000000 in
theorem jadd_any (a : FracD) (x : Int) (m : FracD) (b o : Nat) (w : World) (ha : fracGood a.num a.den = true) (hm : fracGood m.num m.den = true) (h0 : -1073741824 ≤ x) (h1 : x ≤ 1073741824)
    (hb : b < w.heap.size) (hc0 : w.cell? ⟨b, o, none⟩ = some (.int .i64 a.num)) (hc1 : w.cell? ⟨b, o + 1, none⟩ = some (.int .i64 a.den)) (hf0 : w.frozen? ⟨b, o, none⟩ = false) (hf1 : w.frozen? ⟨b, o + 1, none⟩ = false) :
    Calls Try.prog 66 #[.pointer (some ⟨b, o, none⟩), .int .i64 x, .agg #[.int .i64 m.num, .int .i64 m.den]] w (JAddP a x m b o w) := by
  have hbel0 : Below w.heap.size w (w.alloc (.cells #[.int .i64 m.num, .int .i64 m.den] 88)) := (Below.refl _ _).alloc (Nat.le_refl _) _
  cases ht : timesQ ⟨x, 1⟩ m with
  | none =>
    have HT := Lib.hid (fracTimes_any ⟨x, 1⟩ m none (w.alloc (.cells #[.int .i64 m.num, .int .i64 m.den] 88)) (good_whole h0 h1) hm ht)
    have HN : Hid (addC a x m = none) := by show _ = _; unfold addC; rw [ht]; rfl
    clear ht
    go_enter Try.func66, Try.ntmps66
    go_wp2_with fail
    refine HT.out.mono ?_
    rintro e w9 ⟨rfl, hb9⟩
    have HB := Lib.hid (hbel0.trans (hb9.mono hbel0.size))
    have hz9 := hb9.size
    rw [World.size_alloc] at hz9
    unfold makeV
    clear hb9
    go_wp2_with fail
    go_ret
    refine ⟨fun q hq => (by rw [HN.out] at hq; cases hq), fun _ => ⟨rfl, ?_⟩⟩
    exact only_of_below ((HB.out.alloc (by omega) _).alloc (by simp; omega) _) _
  | some p =>
    have hp := (timesQ_good (a := ⟨x, 1⟩) (good_whole h0 h1) hm ht).1
    have HT := Lib.hid (fracTimes_any ⟨x, 1⟩ m (some p) (w.alloc (.cells #[.int .i64 m.num, .int .i64 m.den] 88)) (good_whole h0 h1) hm ht)
    have HAC : Hid (addC a x m = addQ a p) := by show _ = _; unfold addC; rw [ht]; rfl
    have HP := Lib.hid (And.intro ha hp)
    clear ht
    go_enter Try.func66, Try.ntmps66
    go_wp2_with fail
    refine HT.out.mono ?_
    rintro e w9 ⟨rfl, hb9⟩
    have hbw9 : Below w.heap.size w w9 := hbel0.trans (hb9.mono hbel0.size)
    have hz9 := hbw9.size
    have hbX : Below w.heap.size w ((w9.alloc (.cells #[.int .i64 p.num, .int .i64 p.den] 88)).alloc (.cells #[.int .i64 0, .int .i64 0] 29)) := (hbw9.alloc hz9 _).alloc (by simp; omega) _
    have hkp := (Blk.new w9 88 #[.int .i64 p.num, .int .i64 p.den]).alloc (.cells #[.int .i64 0, .int .i64 0] 29)
    have hkf := Blk.new (w9.alloc (.cells #[.int .i64 p.num, .int .i64 p.den] 88)) 29 #[.int .i64 0, .int .i64 0]
    rw [World.size_alloc] at hkf
    unfold makeV
    obtain ⟨X, hX⟩ : ∃ X, (w9.alloc (.cells #[.int .i64 p.num, .int .i64 p.den] 88)).alloc (.cells #[.int .i64 0, .int .i64 0] 29) = X := ⟨_, rfl⟩
    rw [hX] at hbX hkp hkf
    have HX := Lib.hid hX
    clear hX
    have hbo : b < X.heap.size := Nat.lt_of_lt_of_le hb hbX.size
    have y0 : X.cell? ⟨b, o, none⟩ = some (.int .i64 a.num) := (hbX.cell (p := ⟨b, o, none⟩) hb).trans hc0
    have y1 : X.cell? ⟨b, o + 1, none⟩ = some (.int .i64 a.den) := (hbX.cell (p := ⟨b, o + 1, none⟩) hb).trans hc1
    have y2 : X.cell? ⟨w9.heap.size, 0, none⟩ = some (.int .i64 p.num) := hkp.cell 0
    have y3 : X.cell? ⟨w9.heap.size, 1, none⟩ = some (.int .i64 p.den) := hkp.cell 1
    have y4 : X.cell? ⟨w9.heap.size + 1, 0, none⟩ = some (.int .i64 0) := hkf.cell 0
    have HBX := Lib.hid (And.intro hbX (And.intro hkp hkf))
    clear hb9 hbw9 hbX hkp hkf hbel0 hc0 hc1
    obtain ⟨r, hr⟩ : ∃ r, addQ a p = r := ⟨_, rfl⟩
    have HR : Hid (addC a x m = r) := by show _ = _; rw [HAC.out, hr]
    have HADD := Lib.hid (fun W => fracAdd_any a p r W HP.out.1 HP.out.2 hr)
    clear hr HAC
    go_upto_region 4 with fail
    rw [HX.out]
    have yf0 : X.frozen? ⟨b, o, none⟩ = false := (HBX.out.1.frozen (p := ⟨b, o, none⟩) hb).trans hf0
    have yf1 : X.frozen? ⟨b, o + 1, none⟩ = false := (HBX.out.1.frozen (p := ⟨b, o + 1, none⟩) hb).trans hf1
    have hnb : ¬ b = w9.heap.size + 1 := by omega
    have hnb' : ¬ w9.heap.size + 1 = b := by omega
    clear hf0 hf1 HX
    cases r with
    | none =>
      go_region_law (first
      | (go_simp
         go_at_call 74
         with_reducible refine (HADD.out X.drew).mono ?_
         rintro e w8 ⟨rfl, hb8⟩
         unfold makeV
         have hbX8 : Below X.heap.size X w8 := below_of_drew hb8
         have g0 : w8.cell? ⟨b, o, none⟩ = some (.int .i64 a.num) := (hbX8.cell (p := ⟨b, o, none⟩) hbo).trans y0
         have g1 : w8.cell? ⟨b, o + 1, none⟩ = some (.int .i64 a.den) := (hbX8.cell (p := ⟨b, o + 1, none⟩) hbo).trans y1
         have g2 : w8.frozen? ⟨b, o, none⟩ = false := (hbX8.frozen (p := ⟨b, o, none⟩) hbo).trans yf0
         have g3 : w8.frozen? ⟨b, o + 1, none⟩ = false := (hbX8.frozen (p := ⟨b, o + 1, none⟩) hbo).trans yf1
         have hkf8 := HBX.out.2.2.below hbX8 HBX.out.2.2.lt
         have g4 : w8.cell? ⟨w9.heap.size + 1, 0, none⟩ = some (.int .i64 0) := hkf8.cell 0
         have g5 : w8.cell? ⟨w9.heap.size + 1, 1, none⟩ = some (.int .i64 0) := hkf8.cell 1
         have g6 : w8.frozen? ⟨w9.heap.size + 1, 0, none⟩ = false := hkf8.frozen 0
         have g7 : w8.frozen? ⟨w9.heap.size + 1, 1, none⟩ = false := hkf8.frozen 1
         have gz : b < w8.heap.size := Nat.lt_of_lt_of_le hbo hbX8.size
         have HB8 : Hid (Below w.heap.size w w8 ∧ w9.heap.size + 1 < w8.heap.size) := ⟨HBX.out.1.trans (hbX8.mono HBX.out.1.size), hkf8.lt⟩
         clear hb8 hbX8 hkf8)
      | fail)
      all_goals
        go_wp2_with fail
        go_ret
        refine ⟨fun q hq => (by rw [HR.out] at hq; cases hq), fun _ => ⟨rfl, ?_⟩⟩
        have h9 := only_of_below HB8.out.1 (some b)
        have hZ : w.heap.size ≤ w9.heap.size + 1 := by omega
        first
          | exact only_setCell (p := ⟨w9.heap.size + 1, 1, none⟩) (only_setCell (p := ⟨w9.heap.size + 1, 0, none⟩) (only_setCell (p := ⟨b, o + 1, none⟩) (only_setCell (p := ⟨b, o, none⟩) h9 (.inl rfl) _) (.inl rfl) _) (.inr hZ) _) (.inr hZ) _
          | exact only_setCell (p := ⟨b, o + 1, none⟩) (only_setCell (p := ⟨b, o, none⟩) (only_setCell (p := ⟨w9.heap.size + 1, 1, none⟩) (only_setCell (p := ⟨w9.heap.size + 1, 0, none⟩) h9 (.inr hZ) _) (.inr hZ) _) (.inl rfl) _) (.inl rfl) _
    | some q =>
      go_region_law (first
      | (go_simp
         go_at_call 74
         with_reducible refine (HADD.out X.drew).mono ?_
         rintro e w8 ⟨rfl, hb8⟩
         unfold makeV
         have hbX8 : Below X.heap.size X w8 := below_of_drew hb8
         have g0 : w8.cell? ⟨b, o, none⟩ = some (.int .i64 a.num) := (hbX8.cell (p := ⟨b, o, none⟩) hbo).trans y0
         have g1 : w8.cell? ⟨b, o + 1, none⟩ = some (.int .i64 a.den) := (hbX8.cell (p := ⟨b, o + 1, none⟩) hbo).trans y1
         have g2 : w8.frozen? ⟨b, o, none⟩ = false := (hbX8.frozen (p := ⟨b, o, none⟩) hbo).trans yf0
         have g3 : w8.frozen? ⟨b, o + 1, none⟩ = false := (hbX8.frozen (p := ⟨b, o + 1, none⟩) hbo).trans yf1
         have hkf8 := HBX.out.2.2.below hbX8 HBX.out.2.2.lt
         have g4 : w8.cell? ⟨w9.heap.size + 1, 0, none⟩ = some (.int .i64 0) := hkf8.cell 0
         have g5 : w8.cell? ⟨w9.heap.size + 1, 1, none⟩ = some (.int .i64 0) := hkf8.cell 1
         have g6 : w8.frozen? ⟨w9.heap.size + 1, 0, none⟩ = false := hkf8.frozen 0
         have g7 : w8.frozen? ⟨w9.heap.size + 1, 1, none⟩ = false := hkf8.frozen 1
         have gz : b < w8.heap.size := Nat.lt_of_lt_of_le hbo hbX8.size
         have HB8 : Hid (Below w.heap.size w w8 ∧ w9.heap.size + 1 < w8.heap.size) := ⟨HBX.out.1.trans (hbX8.mono HBX.out.1.size), hkf8.lt⟩
         clear hb8 hbX8 hkf8)
      | fail)
      all_goals
        go_wp2_with fail
        go_ret
        refine ⟨fun q' hq => ?_, fun h => (by rw [HR.out] at h; cases h)⟩
        rw [HR.out] at hq
        injection hq with hq
        subst hq
        have hZ : w.heap.size ≤ w9.heap.size + 1 := by omega
        refine ⟨rfl, ?_⟩
        first
          | exact ((below_putQ HB8.out.1 b o q).setCell (p := ⟨w9.heap.size + 1, 0, none⟩) hZ _).setCell (p := ⟨w9.heap.size + 1, 1, none⟩) hZ _
          | exact below_putQ ((HB8.out.1.setCell (p := ⟨w9.heap.size + 1, 0, none⟩) hZ _).setCell (p := ⟨w9.heap.size + 1, 1, none⟩) hZ _) b o q
end Go.Proofs.Ytdncchlfeanlmaa
