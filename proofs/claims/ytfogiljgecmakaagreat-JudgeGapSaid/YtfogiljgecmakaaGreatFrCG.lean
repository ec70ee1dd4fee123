/- Walks: a fraction in lowest terms: the program. · Walks: fractions added, multiplied, compared: the program. · Walks: fractions added, multiplied, compared: the program, whole. · Plain: fractions in lowest terms are good. No program is named here. · Walks: the judge's sum of rows: a multiple is added to a number. -/
import Derived.Test.YtfogiljgecmakaaGreatFuFr
import Derived.Test.YtfogiljgecmakaaGreatCore
import Derived.Deep.LoopGhost
import Derived.RegionTactic
import Derived.Deep.Cut
import Derived.Deep.RegionLaw
import Derived.Test.YtfogiljgecmakaaGreatJuCF
import Derived.BigRegion
namespace Go.Proofs.YtfogiljgecmakaaGreat
open Go.RowKit

def makeV : Option FracD → Value
  | some q => .tuple #[.agg #[.int .i64 q.num, .int .i64 q.den], .agg #[.int .i64 0, .int .i64 0]]
  | none => .tuple #[.agg #[.int .i64 0, .int .i64 0], .agg #[.int .i64 10, .int .i64 0]]
theorem tdiv_nat (n : Int) (g : Nat) : n.tdiv (g : Int) = if n < 0 then -((n.natAbs / g : Nat) : Int) else ((n.natAbs / g : Nat) : Int) := by
  obtain ⟨a, rfl | rfl⟩ := Int.eq_nat_or_neg n
  · rw [if_neg (by omega), Int.natAbs_natCast]; rfl
  · rw [Int.neg_tdiv, Int.natAbs_neg, Int.natAbs_natCast]
    have e : (a : Int).tdiv (g : Int) = ((a / g : Nat) : Int) := rfl
    rw [e]
    by_cases h : a = 0
    · subst h; simp
    · rw [if_pos (by omega)]
theorem lowF_nat {n d : Int} (hd : 0 < d) : lowF n d = if 1073741824 < n.natAbs / Int.gcd n d ∨ 1073741824 < d.natAbs / Int.gcd n d then none else some ⟨if n < 0 then -((n.natAbs / Int.gcd n d : Nat) : Int) else ((n.natAbs / Int.gcd n d : Nat) : Int), ((d.natAbs / Int.gcd n d : Nat) : Int)⟩ := by
  unfold lowF
  rw [tdiv_nat, tdiv_nat, if_neg (show ¬ d < 0 by omega)]
  generalize n.natAbs / Int.gcd n d = A
  generalize d.natAbs / Int.gcd n d = B
  by_cases h : n < 0
  · rw [if_pos h]
    by_cases h2 : 1073741824 < A ∨ 1073741824 < B
    · rw [if_pos h2, if_pos (by omega)]
    · rw [if_neg h2, if_neg (by omega)]
  · rw [if_neg h]
    by_cases h2 : 1073741824 < A ∨ 1073741824 < B
    · rw [if_pos h2, if_pos (by omega)]
    · rw [if_neg h2, if_neg (by omega)]

set_option maxRecDepth 100000 in
set_option maxHeartbeats 600000 in
theorem make_any (num den : Int) (r : Option FracD) (w : World) (h0 : -4611686018427387904 ≤ num) (h1 : num ≤ 4611686018427387904) (h2 : 1 ≤ den) (h3 : den ≤ 4611686018427387904) (hr : lowF num den = r) :
    Calls Tryz.prog 187 #[.int .i64 num, .int .i64 den] w fun e w' => e = .returned (makeV r) ∧ Below w.heap.size w w' := by
  have hb : Below w.heap.size w ((w.alloc (.cells #[.int .i64 0, .int .i64 0] 51)).alloc (.cells #[.int .i64 0, .int .i64 0] 33)) := ((Below.refl _ _).alloc (Nat.le_refl _) _).alloc (by simp) _
  have HB := Lib.hid hb
  clear hb
  rw [lowF_nat (by omega)] at hr
  obtain ⟨g, hg⟩ : ∃ g, Int.gcd num den = g := ⟨_, rfl⟩
  obtain ⟨a, ha⟩ : ∃ a, num.natAbs = a := ⟨_, rfl⟩
  obtain ⟨b, hb⟩ : ∃ b, den.natAbs = b := ⟨_, rfl⟩
  have hgp : 0 < g := by rw [← hg]; exact Int.gcd_pos_of_ne_zero_right _ (by omega)
  have hgd : Nat.gcd a b = g := by rw [← ha, ← hb]; exact hg
  rw [ha, hb, hg] at hr
  have HG := Lib.hid (fun W => gcdU_any a b W (by omega) (by omega))
  rw [hgd] at HG
  have hs1 := fun W => size_any num W h0 h1
  have hs2 := fun W => size_any den W (by omega) h3
  rw [ha] at hs1
  rw [hb] at hs2
  have HS1 := Lib.hid hs1
  have HS2 := Lib.hid hs2
  have hle1 : a / g ≤ a := Nat.div_le_self _ _
  have hle2 : b / g ≤ b := Nat.div_le_self _ _
  have hq1 : (a : Int).tdiv (g : Int) = ((a / g : Nat) : Int) := rfl
  have hq2 : (b : Int).tdiv (g : Int) = ((b / g : Nat) : Int) := rfl
  have hz : ((g : Int) == 0) = false := by rw [beq_eq_false_iff_ne]; omega
  have hz2 : (den == 0) = false := by rw [beq_eq_false_iff_ne]; omega
  generalize a / g = A at hle1 hq1 hr
  generalize b / g = B at hle2 hq2 hr
  have hla : a ≤ 4611686018427387904 := by omega
  have hlb : b ≤ 4611686018427387904 := by omega
  clear hgd hs1 hs2 hg ha hb
  by_cases hA : 1073741824 < A
  · rw [if_pos (.inl hA)] at hr
    subst hr
    have hAI : (A : Int) > 1073741824 := by omega
    go_enter Tryz.func187, Tryz.ntmps187
    go_wp2_with (first | (go_at_call 51; first | (with_reducible (refine (HS1.out _).mono ?_); rintro e w' ⟨rfl, rfl⟩) | (with_reducible (refine (HS2.out _).mono ?_); rintro e w' ⟨rfl, rfl⟩)) | fail)
    refine (HG.out _).mono ?_
    rintro e w' ⟨rfl, m, rfl⟩
    go_wp2_with fail
    go_quiet (fail)
    go_wp2_with fail
    refine bodyPost_ret (v := .tuple #[.agg #[.int .i64 0, .int .i64 0], .agg #[.int .i64 10, .int .i64 0]]) (by simp [results, Tryz.results187, go_sem]) rfl ⟨rfl, ?_⟩
    exact ((((below_drewN HB.out _).setCell (p := ⟨w.heap.size, 0, none⟩) (Nat.le_refl _) _).setCell (p := ⟨w.heap.size, 1, none⟩) (Nat.le_refl _) _).setCell (p := ⟨w.heap.size + 1, 0, none⟩) (Nat.le_succ _) _).setCell (p := ⟨w.heap.size + 1, 1, none⟩) (Nat.le_succ _) _
  · have hAI : ¬ ((A : Int) > 1073741824) := by omega
    by_cases hB : 1073741824 < B
    · rw [if_pos (.inr hB)] at hr
      subst hr
      have hBI : (B : Int) > 1073741824 := by omega
      go_enter Tryz.func187, Tryz.ntmps187
      go_wp2_with (first | (go_at_call 51; first | (with_reducible (refine (HS1.out _).mono ?_); rintro e w' ⟨rfl, rfl⟩) | (with_reducible (refine (HS2.out _).mono ?_); rintro e w' ⟨rfl, rfl⟩)) | fail)
      refine (HG.out _).mono ?_
      rintro e w' ⟨rfl, m, rfl⟩
      go_wp2_with fail
      go_quiet (fail)
      go_wp2_with fail
      refine bodyPost_ret (v := .tuple #[.agg #[.int .i64 0, .int .i64 0], .agg #[.int .i64 10, .int .i64 0]]) (by simp [results, Tryz.results187, go_sem]) rfl ⟨rfl, ?_⟩
      exact ((((below_drewN HB.out _).setCell (p := ⟨w.heap.size, 0, none⟩) (Nat.le_refl _) _).setCell (p := ⟨w.heap.size, 1, none⟩) (Nat.le_refl _) _).setCell (p := ⟨w.heap.size + 1, 0, none⟩) (Nat.le_succ _) _).setCell (p := ⟨w.heap.size + 1, 1, none⟩) (Nat.le_succ _) _
    · rw [if_neg (by omega)] at hr
      have hBI : ¬ ((B : Int) > 1073741824) := by omega
      have hdn : decide (den < 0) = false := by rw [decide_eq_false_iff_not]; omega
      by_cases hneg : num < 0
      · rw [if_pos hneg] at hr
        subst hr
        have hnn : decide (num < 0) = true := by rw [decide_eq_true_eq]; exact hneg
        go_enter Tryz.func187, Tryz.ntmps187
        go_wp2_with (first | (go_at_call 51; first | (with_reducible (refine (HS1.out _).mono ?_); rintro e w' ⟨rfl, rfl⟩) | (with_reducible (refine (HS2.out _).mono ?_); rintro e w' ⟨rfl, rfl⟩)) | fail)
        refine (HG.out _).mono ?_
        rintro e w' ⟨rfl, m, rfl⟩
        go_wp2_with fail
        go_quiet (fail)
        go_wp2_with fail
        refine bodyPost_ret (v := .tuple #[.agg #[.int .i64 (-(A : Int)), .int .i64 B], .agg #[.int .i64 0, .int .i64 0]]) (by simp [results, Tryz.results187, go_sem]) rfl ⟨rfl, ?_⟩
        exact (((((below_drewN HB.out _).setCell (p := ⟨w.heap.size, 0, none⟩) (Nat.le_refl _) _).setCell (p := ⟨w.heap.size, 1, none⟩) (Nat.le_refl _) _).setCell (p := ⟨w.heap.size + 1, 0, none⟩) (Nat.le_succ _) _).setCell (p := ⟨w.heap.size + 1, 1, none⟩) (Nat.le_succ _) _).alloc (by simp; omega) _
      · rw [if_neg hneg] at hr
        subst hr
        have hnn : decide (num < 0) = false := by rw [decide_eq_false_iff_not]; exact hneg
        go_enter Tryz.func187, Tryz.ntmps187
        go_wp2_with (first | (go_at_call 51; first | (with_reducible (refine (HS1.out _).mono ?_); rintro e w' ⟨rfl, rfl⟩) | (with_reducible (refine (HS2.out _).mono ?_); rintro e w' ⟨rfl, rfl⟩)) | fail)
        refine (HG.out _).mono ?_
        rintro e w' ⟨rfl, m, rfl⟩
        go_wp2_with fail
        go_quiet (fail)
        go_wp2_with fail
        refine bodyPost_ret (v := .tuple #[.agg #[.int .i64 A, .int .i64 B], .agg #[.int .i64 0, .int .i64 0]]) (by simp [results, Tryz.results187, go_sem]) rfl ⟨rfl, ?_⟩
        exact (((((below_drewN HB.out _).setCell (p := ⟨w.heap.size, 0, none⟩) (Nat.le_refl _) _).setCell (p := ⟨w.heap.size, 1, none⟩) (Nat.le_refl _) _).setCell (p := ⟨w.heap.size + 1, 0, none⟩) (Nat.le_succ _) _).setCell (p := ⟨w.heap.size + 1, 1, none⟩) (Nat.le_succ _) _).alloc (by simp; omega) _
end Go.Proofs.YtfogiljgecmakaaGreat
namespace Go.Proofs.YtfogiljgecmakaaGreat
open Go.RowKit

theorem field_codeF (a b : Int) (w : World) : (Instr.field 33 (.agg #[.int .i64 a, .int .i64 b]) 0).run Tryz.prog w = .ok (.int .i64 a) w := by kernel_rfl
theorem fracCheck_yes (num den : Int) (h : fracGood num den = true) (w : World) :
    Calls Tryz.prog 31 #[.agg #[.int .i64 num, .int .i64 den]] w fun e w' => e = .returned (.agg #[.int .i64 0, .int .i64 0]) ∧ Below w.heap.size w w' :=
  (fracCheck_any num den w).mono fun e w' ⟨he, hb⟩ => ⟨by rw [he, h]; rfl, hb⟩

set_option maxRecDepth 100000 in
set_option maxHeartbeats 2000000 in
theorem checked_any (A : Option Addr) (n c : Nat) (xs : List FracD) (w : World) (hxs : ArrB AtFrac 2 w w.heap.size A n xs) (hn : n ≤ 9223372036854775807) (hg : ∀ x ∈ xs, fracGood x.num x.den = true) :
    Calls Tryz.prog 186 #[.slice A n c] w fun e w' => e = .returned (.agg #[.int .i64 0, .int .i64 0]) ∧ Below w.heap.size w w' := by
  have HXS := Lib.hid hxs
  have HG := Lib.hid hg
  clear hxs hg
  have hfd := fun a W => field_codeF a 0 W
  go_enter Tryz.func186, Tryz.ntmps186
  go_wp2_with fail
  go_loopw [7] (fun s wr => ∃ k : Nat, k ≤ n ∧ s = .int .i64 k ∧ Below w.heap.size w wr ∧ Blk wr w.heap.size 33 #[.int .i64 0, .int .i64 0]) (fun s _ => n - (intOf s).toNat)
  case atStart => exact ⟨0, Nat.zero_le _, rfl, (Below.refl _ _).alloc (Nat.le_refl _) _, Blk.new _ _ _⟩
  case round =>
    obtain ⟨k, hk, rfl, hbel, hbf⟩ := hrel
    have hz : w.heap.size < wr.heap.size := hbf.lt
    by_cases hlt : k < n
    · obtain ⟨b, off, hx, rfl, hb, hc0, hc1⟩ := Arr.get (HXS.out.below stays_frac hbel (Nat.le_refl _)) hlt
      have hgx := HG.out _ (List.getElem_mem hx)
      generalize xs[k] = x at hgx hc0 hc1
      obtain ⟨xn, xd⟩ := x
      have h0 : wr.cell? ⟨b, off + k * 2, none⟩ = some (.int .i64 xn) := hc0.1
      have h1 : wr.cell? ⟨b, off + k * 2 + 1, none⟩ = some (.int .i64 xd) := hc1.1
      have HC := Lib.hid (fun W => fracCheck_yes xn xd hgx W)
      have hb1 : Below w.heap.size w (wr.alloc (.cells #[.int .i64 xn, .int .i64 xd] 51)) := hbel.alloc (Nat.le_of_lt hz) _
      have hf1 := hbf.alloc (.cells #[.int .i64 xn, .int .i64 xd] 51)
      have hs1 : (wr.alloc (.cells #[.int .i64 xn, .int .i64 xd] 51)).heap.size = wr.heap.size + 1 := by simp
      have HX := Lib.hid (And.intro hb1 (And.intro hf1 hs1))
      clear hx hgx hc0 hc1 hb1 hf1 hs1 hbel hbf
      go_wp2_with fail
      refine (HC.out _).mono ?_
      rintro e w1 ⟨rfl, hb2⟩
      obtain ⟨hb1, hf1, hs1⟩ := HX.out
      have HY := Lib.hid (And.intro (hb1.trans (hb2.mono (by omega))) (hf1.below hb2 (by omega)))
      clear hb1 hf1 hs1 hb2 HX
      go_wp2_with fail
      go_roundw
      case rel => exact ⟨k + 1, by omega, by go_num, HY.out.1, HY.out.2⟩
      case measure => simp [intOf]; omega
    · obtain rfl : k = n := by omega
      have HB := Lib.hid (And.intro hbel hbf)
      have z0 : wr.cell? ⟨w.heap.size, 0, none⟩ = some (.int .i64 0) := hbf.cell 0
      have z1 : wr.cell? ⟨w.heap.size, 1, none⟩ = some (.int .i64 0) := hbf.cell 1
      have v0 : wr.frozen? ⟨w.heap.size, 0, none⟩ = false := hbf.frozen 0
      have v1 : wr.frozen? ⟨w.heap.size, 1, none⟩ = false := hbf.frozen 1
      clear hbel hbf
      go_wp2_with fail
      clear z0 z1 v0 v1
      have hz1 := two_blk HB.out.2 (.int .i64 0) (.int .i64 0)
      have hz2 : Below w.heap.size w (two wr w.heap.size (.int .i64 0) (.int .i64 0)) := two_below HB.out.1 (Nat.le_refl _) (.int .i64 0) (.int .i64 0)
      have e4 : (wr.setCell ⟨w.heap.size, 0, none⟩ (.int .i64 0)).setCell ⟨w.heap.size, 1, none⟩ (.int .i64 0) = two wr w.heap.size (.int .i64 0) (.int .i64 0) := rfl
      rw [e4]
      clear e4
      generalize two wr w.heap.size (.int .i64 0) (.int .i64 0) = Z at hz1 hz2 ⊢
      have d0 := hz1.cell 0
      have d1 := hz1.cell 1
      simp only [List.getElem?_toArray, List.getElem?_cons_zero, List.getElem?_cons_succ] at d0 d1
      exact bodyPost_ret (v := .agg #[.int .i64 0, .int .i64 0]) (by simp [results, Tryz.results186, go_sem, d0, d1]) rfl ⟨rfl, hz2⟩

theorem mul_le_mul' {a b x y : Int} (h1 : -a ≤ x) (h2 : x ≤ a) (h3 : -b ≤ y) (h4 : y ≤ b) : -(a * b) ≤ x * y ∧ x * y ≤ a * b := by
  have ha : x.natAbs ≤ a.natAbs := by omega
  have hb : y.natAbs ≤ b.natAbs := by omega
  have h := Nat.mul_le_mul ha hb
  rw [← Int.natAbs_mul, ← Int.natAbs_mul] at h
  have hab : 0 ≤ a * b := Int.mul_nonneg (by omega) (by omega)
  omega
theorem mul30 {x y : Int} (h1 : -1073741824 ≤ x) (h2 : x ≤ 1073741824) (h3 : -1073741824 ≤ y) (h4 : y ≤ 1073741824) : -1152921504606846976 ≤ x * y ∧ x * y ≤ 1152921504606846976 := by
  have := mul_le_mul' (a := 1073741824) (b := 1073741824) h1 h2 h3 h4
  omega
/-- the terms of two good fractions, multiplied crosswise -/
theorem cross {a b : FracD} (ha : fracGood a.num a.den = true) (hb : fracGood b.num b.den = true) : (-1152921504606846976 ≤ a.num * b.den ∧ a.num * b.den ≤ 1152921504606846976) ∧ (-1152921504606846976 ≤ b.num * a.den ∧ b.num * a.den ≤ 1152921504606846976) ∧
    (1 ≤ a.den * b.den ∧ a.den * b.den ≤ 1152921504606846976) ∧ (-1152921504606846976 ≤ a.num * b.num ∧ a.num * b.num ≤ 1152921504606846976) := by
  simp only [fracGood, decide_eq_true_eq] at ha hb
  have h1 : 0 < a.den * b.den := Int.mul_pos (by omega) (by omega)
  have h2 := mul30 (x := a.den) (y := b.den) (by omega) (by omega) (by omega) (by omega)
  exact ⟨mul30 (by omega) (by omega) (by omega) (by omega), mul30 (by omega) (by omega) (by omega) (by omega), ⟨by omega, h2.2⟩, mul30 (by omega) (by omega) (by omega) (by omega)⟩

set_option maxRecDepth 100000 in
set_option maxHeartbeats 2000000 in
theorem add1_any (a b : FracD) (ha : fracGood a.num a.den = true) (hb : fracGood b.num b.den = true) (w : World) :
    Calls Tryz.prog 173 #[.agg #[.int .i64 a.num, .int .i64 a.den], .agg #[.int .i64 b.num, .int .i64 b.den]] w fun e w' => e = .returned (.tuple #[.int .i64 (a.num * b.den + b.num * a.den), .int .i64 (a.den * b.den)]) ∧ Below w.heap.size w w' := by
  obtain ⟨⟨h1, h2⟩, ⟨h3, h4⟩, ⟨h5, h6⟩, -⟩ := cross ha hb
  obtain ⟨an, ad⟩ := a
  obtain ⟨bn, bd⟩ := b
  dsimp only at *
  have HB : Hid (Below w.heap.size w ((w.alloc (.cells #[.int .i64 an, .int .i64 ad] 51)).alloc (.cells #[.int .i64 bn, .int .i64 bd] 51))) := ((Below.refl _ _).alloc (Nat.le_refl _) _).alloc (by simp) _
  clear ha hb
  go_enter Tryz.func173, Tryz.ntmps173
  go_wp2_with fail
  go_quiet (fail)
  go_wp2_with fail
  exact bodyPost_ret (v := .tuple #[.int .i64 (an * bd + bn * ad), .int .i64 (ad * bd)]) (by simp [results, Tryz.results173, go_sem]) rfl ⟨rfl, below_drewN HB.out _⟩

set_option maxRecDepth 100000 in
set_option maxHeartbeats 2000000 in
theorem times1_any (a b : FracD) (ha : fracGood a.num a.den = true) (hb : fracGood b.num b.den = true) (w : World) :
    Calls Tryz.prog 172 #[.agg #[.int .i64 a.num, .int .i64 a.den], .agg #[.int .i64 b.num, .int .i64 b.den]] w fun e w' => e = .returned (.tuple #[.int .i64 (a.num * b.num), .int .i64 (a.den * b.den)]) ∧ Below w.heap.size w w' := by
  obtain ⟨-, -, ⟨h5, h6⟩, ⟨h1, h2⟩⟩ := cross ha hb
  obtain ⟨an, ad⟩ := a
  obtain ⟨bn, bd⟩ := b
  dsimp only at *
  have HB : Hid (Below w.heap.size w ((w.alloc (.cells #[.int .i64 an, .int .i64 ad] 51)).alloc (.cells #[.int .i64 bn, .int .i64 bd] 51))) := ((Below.refl _ _).alloc (Nat.le_refl _) _).alloc (by simp) _
  clear ha hb
  go_enter Tryz.func172, Tryz.ntmps172
  go_wp2_with fail
  go_quiet (fail)
  go_wp2_with fail
  exact bodyPost_ret (v := .tuple #[.int .i64 (an * bn), .int .i64 (ad * bd)]) (by simp [results, Tryz.results172, go_sem]) rfl ⟨rfl, below_drewN HB.out _⟩
end Go.Proofs.YtfogiljgecmakaaGreat
namespace Go.Proofs.YtfogiljgecmakaaGreat
open Go.RowKit

theorem boxes4 (w : World) (t1 t2 t3 t4 : TypeId) (c1 c2 c3 c4 : Array Value) : ∃ X, (((w.alloc (.cells c1 t1)).alloc (.cells c2 t2)).alloc (.cells c3 t3)).alloc (.cells c4 t4) = X ∧ Below w.heap.size w X ∧ Blk X w.heap.size t1 c1 ∧ Blk X (w.heap.size + 1) t2 c2 ∧ Blk X (w.heap.size + 2) t3 c3 ∧ Blk X (w.heap.size + 3) t4 c4 ∧ X.heap.size = w.heap.size + 4 := by
  obtain ⟨h1, h2, h3, h4⟩ := two_boxes w t1 t2 c1 c2
  have b3 := Blk.new ((w.alloc (.cells c1 t1)).alloc (.cells c2 t2)) t3 c3
  have b4 := Blk.new (((w.alloc (.cells c1 t1)).alloc (.cells c2 t2)).alloc (.cells c3 t3)) t4 c4
  have e4 : (((w.alloc (.cells c1 t1)).alloc (.cells c2 t2)).alloc (.cells c3 t3)).heap.size = w.heap.size + 3 := by simp
  rw [h4] at b3
  rw [e4] at b4
  exact ⟨_, rfl, (h1.alloc (by omega) _).alloc (by simp; omega) _, (h2.alloc _).alloc _, (h3.alloc _).alloc _, b3.alloc _, b4, by simp⟩
theorem two_fracs {w : World} {g : Nat} {a b : FracD} (h : Blk w g 51 #[.int .i64 a.num, .int .i64 a.den, .int .i64 b.num, .int .i64 b.den]) (ha : fracGood a.num a.den = true) (hb : fracGood b.num b.den = true) : ArrB AtFrac 2 w w.heap.size (some ⟨g, 0, none⟩) 2 [a, b] := by
  have hI : ∀ x : Int, -1073741824 ≤ x → x ≤ 1073741824 → I64 x := fun x h1 h2 => by unfold I64; omega
  simp only [fracGood, decide_eq_true_eq] at ha hb
  refine ⟨rfl, fun i x hx => ?_⟩
  rcases i with _ | _ | i
  · simp only [List.getElem?_cons_zero, Option.some.injEq] at hx
    subst hx
    exact ⟨g, 0, rfl, h.lt, ⟨h.cell 0, hI _ (by omega) (by omega)⟩, h.cell 1, hI _ (by omega) (by omega)⟩
  · simp only [Nat.zero_add, List.getElem?_cons_succ, List.getElem?_cons_zero, Option.some.injEq] at hx
    subst hx
    exact ⟨g, 0, rfl, h.lt, ⟨h.cell 2, hI _ (by omega) (by omega)⟩, h.cell 3, hI _ (by omega) (by omega)⟩
  · simp at hx

/-- two blocks of two cells, written whole -/
def four (w : World) (g h : Nat) (a b c d : Value) : World := two (two w g a b) h c d
theorem four_ok {w0 w : World} {B g h : Nat} {t1 t2 : TypeId} {a0 b0 c0 d0 : Value} (hb : Below B w0 w) (h1 : Blk w g t1 #[a0, b0]) (h2 : Blk w h t2 #[c0, d0]) (hg : B ≤ g) (hh : B ≤ h) (hne : g ≠ h) (a b c d : Value) :
    Below B w0 (four w g h a b c d) ∧ Blk (four w g h a b c d) g t1 #[a, b] ∧ Blk (four w g h a b c d) h t2 #[c, d] := by
  have k1 := two_blk h1 a b
  have k2 : Blk (two w g a b) h t2 #[c0, d0] := (h2.far (p := ⟨g, 0, none⟩) (fun e => hne e.symm) a).far (p := ⟨g, 1, none⟩) (fun e => hne e.symm) b
  exact ⟨two_below (two_below hb hg a b) hh c d, (k1.far (p := ⟨h, 0, none⟩) hne c).far (p := ⟨h, 1, none⟩) hne d, two_blk k2 c d⟩

set_option maxRecDepth 100000 in
set_option maxHeartbeats 600000 in
theorem apply_any (g : Nat) (eg : ∀ args w, (callFunc g args).run Tryz.prog w = .ok (.enter g args) w) (a b : FracD) (n d : Int) (r : Option FracD) (w : World) (ha : fracGood a.num a.den = true) (hb : fracGood b.num b.den = true)
    (hp : ∀ W, Calls Tryz.prog g #[.agg #[.int .i64 a.num, .int .i64 a.den], .agg #[.int .i64 b.num, .int .i64 b.den]] W fun e w' => e = .returned (.tuple #[.int .i64 n, .int .i64 d]) ∧ Below W.heap.size W w')
    (h0 : -4611686018427387904 ≤ n) (h1 : n ≤ 4611686018427387904) (h2 : 1 ≤ d) (h3 : d ≤ 4611686018427387904) (hr : lowF n d = r) :
    Calls Tryz.prog 171 #[.agg #[.int .i64 a.num, .int .i64 a.den], .agg #[.int .i64 b.num, .int .i64 b.den], .func (.func g) #[] #[]] w fun e w' => e = .returned (makeV r) ∧ Below w.heap.size w w' := by
  obtain ⟨X, hX, hbX, k1, k2, k3, k4, hsX⟩ := boxes4 w 51 51 51 33 #[.int .i64 a.num, .int .i64 a.den] #[.int .i64 b.num, .int .i64 b.den] #[.int .i64 0, .int .i64 0] #[.int .i64 0, .int .i64 0]
  obtain ⟨X2, hX2⟩ : ∃ X2, X.alloc (.cells #[.int .i64 a.num, .int .i64 a.den, .int .i64 b.num, .int .i64 b.den] 51) = X2 := ⟨_, rfl⟩
  have kb : Blk X2 X.heap.size 51 #[.int .i64 a.num, .int .i64 a.den, .int .i64 b.num, .int .i64 b.den] := by rw [← hX2]; exact Blk.new _ _ _
  have hb2 : Below X.heap.size X X2 := by rw [← hX2]; exact (Below.refl _ _).alloc (Nat.le_refl _) _
  have hs2 : X2.heap.size = w.heap.size + 5 := by rw [← hX2]; simp [hsX]
  rw [hsX] at kb
  have HC := Lib.hid (checked_any (some ⟨w.heap.size + 4, 0, none⟩) 2 2 [a, b] X2 (two_fracs kb ha hb) (by omega) (fun x hx => by
    simp only [List.mem_cons, List.not_mem_nil, or_false] at hx
    rcases hx with rfl | rfl
    · exact ha
    · exact hb))
  have HP := Lib.hid hp
  have HM := Lib.hid (fun W => make_any n d r W h0 h1 h2 h3 hr)
  have hMK : ∀ W : World, Below (w.heap.size + 5) X2 W → Below w.heap.size w W ∧ W.cell? ⟨w.heap.size, 0, none⟩ = some (.int .i64 a.num) ∧ W.cell? ⟨w.heap.size, 1, none⟩ = some (.int .i64 a.den) ∧ W.cell? ⟨w.heap.size + 1, 0, none⟩ = some (.int .i64 b.num) ∧ W.cell? ⟨w.heap.size + 1, 1, none⟩ = some (.int .i64 b.den) ∧
      Blk W (w.heap.size + 2) 51 #[.int .i64 0, .int .i64 0] ∧ Blk W (w.heap.size + 3) 33 #[.int .i64 0, .int .i64 0] ∧ w.heap.size + 3 < W.heap.size := fun W hW =>
    have m1 := (k1.below hb2 (by omega)).below hW (by omega)
    have m2 := (k2.below hb2 (by omega)).below hW (by omega)
    have m3 := (k3.below hb2 (by omega)).below hW (by omega)
    have m4 := (k4.below hb2 (by omega)).below hW (by omega)
    ⟨(hbX.trans (hb2.mono (by omega))).trans (hW.mono (by omega)), m1.cell 0, m1.cell 1, m2.cell 0, m2.cell 1, m3, m4, m4.lt⟩
  have MK := Lib.hid hMK
  have HX := Lib.hid hX
  have HX2 := Lib.hid hX2
  have HS := Lib.hid (And.intro hsX hs2)
  clear hbX k1 k2 k3 k4 hsX kb hb2 hs2 hMK hX hX2 hp ha hb hr h0 h1 h2 h3
  go_enter Tryz.func171, Tryz.ntmps171
  go_wp2_with fail
  rw [HX.out, HX2.out]
  refine HC.out.mono ?_
  rintro e w1 ⟨rfl, hb1⟩
  have hb3 : Below (w.heap.size + 5) X2 (w1.alloc (.cells #[.int .i64 0, .int .i64 0] 33)) := (hb1.mono (by have := HS.out.2; omega)).alloc (by have := hb1.size; have := HS.out.2; omega) _
  have kf := Blk.new w1 33 #[.int .i64 0, .int .i64 0]
  obtain ⟨Y, hY⟩ : ∃ Y, w1.alloc (.cells #[.int .i64 0, .int .i64 0] 33) = Y := ⟨_, rfl⟩
  rw [hY] at hb3 kf
  obtain ⟨hbw, a0, a1, b0, b1, -, -, hz⟩ := MK.out Y hb3
  have f0 : Y.cell? ⟨w1.heap.size, 0, none⟩ = some (.int .i64 0) := kf.cell 0
  have f1 : Y.cell? ⟨w1.heap.size, 1, none⟩ = some (.int .i64 0) := kf.cell 1
  have hzf : w1.heap.size < Y.heap.size := kf.lt
  have HB3 := Lib.hid hb3
  have HY := Lib.hid hY
  clear hb1 hb3 hY kf hbw
  go_upto_region 2 with fail
  rw [HY.out]
  go_wp2_with (go_at_fn g; refine (HP.out _).mono ?_; rintro e w2 ⟨rfl, hb2⟩)
  refine (HM.out _).mono ?_
  rintro e w3 ⟨rfl, hb4⟩
  have hz5 : w.heap.size + 5 ≤ Y.heap.size := by have := HB3.out.size; have := HS.out.2; omega
  obtain ⟨hbw, -, -, -, -, m3, m4, hz⟩ := MK.out w3 (HB3.out.trans ((hb2.trans (hb4.mono hb2.size)).mono hz5))
  have HF := Lib.hid (fun a b c d => four_ok hbw m3 m4 (by omega) (by omega) (by omega) a b c d)
  have c0 : w3.cell? ⟨w.heap.size + 2, 0, none⟩ = some (.int .i64 0) := m3.cell 0
  have c1 : w3.cell? ⟨w.heap.size + 2, 1, none⟩ = some (.int .i64 0) := m3.cell 1
  have v0 : w3.frozen? ⟨w.heap.size + 2, 0, none⟩ = false := m3.frozen 0
  have v1 : w3.frozen? ⟨w.heap.size + 2, 1, none⟩ = false := m3.frozen 1
  have c2 : w3.cell? ⟨w.heap.size + 3, 0, none⟩ = some (.int .i64 0) := m4.cell 0
  have c3 : w3.cell? ⟨w.heap.size + 3, 1, none⟩ = some (.int .i64 0) := m4.cell 1
  have v2 : w3.frozen? ⟨w.heap.size + 3, 0, none⟩ = false := m4.frozen 0
  have v3 : w3.frozen? ⟨w.heap.size + 3, 1, none⟩ = false := m4.frozen 1
  clear a0 a1 b0 b1 f0 f1 hzf hb2 hb4 m3 m4 hbw
  cases r with
  | none =>
    unfold makeV
    go_wp2_with fail
    clear c0 c1 c2 c3 v0 v1 v2 v3
    have hF := HF.out (.int .i64 0) (.int .i64 0) (.int .i64 10) (.int .i64 0)
    have e4 : (((w3.setCell ⟨w.heap.size + 1 + 1, 0, none⟩ (.int .i64 0)).setCell ⟨w.heap.size + 1 + 1, 1, none⟩ (.int .i64 0)).setCell ⟨w.heap.size + 1 + 1 + 1, 0, none⟩ (.int .i64 10)).setCell ⟨w.heap.size + 1 + 1 + 1, 1, none⟩ (.int .i64 0) = four w3 (w.heap.size + 2) (w.heap.size + 3) (.int .i64 0) (.int .i64 0) (.int .i64 10) (.int .i64 0) := rfl
    rw [e4]
    clear e4
    generalize four w3 (w.heap.size + 2) (w.heap.size + 3) (.int .i64 0) (.int .i64 0) (.int .i64 10) (.int .i64 0) = Z at hF ⊢
    have d0 := hF.2.1.cell 0
    have d1 := hF.2.1.cell 1
    have d2 := hF.2.2.cell 0
    have d3 := hF.2.2.cell 1
    simp only [List.getElem?_toArray, List.getElem?_cons_zero, List.getElem?_cons_succ] at d0 d1 d2 d3
    exact bodyPost_ret (v := .tuple #[.agg #[.int .i64 0, .int .i64 0], .agg #[.int .i64 10, .int .i64 0]]) (by simp [results, Tryz.results171, go_sem, d0, d1, d2, d3]) rfl ⟨rfl, hF.1⟩
  | some q =>
    unfold makeV
    go_wp2_with fail
    clear c0 c1 c2 c3 v0 v1 v2 v3
    have hF := HF.out (.int .i64 q.num) (.int .i64 q.den) (.int .i64 0) (.int .i64 0)
    have e4 : (((w3.setCell ⟨w.heap.size + 1 + 1, 0, none⟩ (.int .i64 q.num)).setCell ⟨w.heap.size + 1 + 1, 1, none⟩ (.int .i64 q.den)).setCell ⟨w.heap.size + 1 + 1 + 1, 0, none⟩ (.int .i64 0)).setCell ⟨w.heap.size + 1 + 1 + 1, 1, none⟩ (.int .i64 0) = four w3 (w.heap.size + 2) (w.heap.size + 3) (.int .i64 q.num) (.int .i64 q.den) (.int .i64 0) (.int .i64 0) := rfl
    rw [e4]
    clear e4
    generalize four w3 (w.heap.size + 2) (w.heap.size + 3) (.int .i64 q.num) (.int .i64 q.den) (.int .i64 0) (.int .i64 0) = Z at hF ⊢
    have d0 := hF.2.1.cell 0
    have d1 := hF.2.1.cell 1
    have d2 := hF.2.2.cell 0
    have d3 := hF.2.2.cell 1
    simp only [List.getElem?_toArray, List.getElem?_cons_zero, List.getElem?_cons_succ] at d0 d1 d2 d3
    exact bodyPost_ret (v := .tuple #[.agg #[.int .i64 q.num, .int .i64 q.den], .agg #[.int .i64 0, .int .i64 0]]) (by simp [results, Tryz.results171, go_sem, d0, d1, d2, d3]) rfl ⟨rfl, hF.1⟩

set_option maxRecDepth 100000 in
set_option maxHeartbeats 600000 in
theorem fracAdd_any (a b : FracD) (r : Option FracD) (w : World) (ha : fracGood a.num a.den = true) (hb : fracGood b.num b.den = true) (hr : addQ a b = r) :
    Calls Tryz.prog 153 #[.agg #[.int .i64 a.num, .int .i64 a.den], .agg #[.int .i64 b.num, .int .i64 b.den]] w fun e w' => e = .returned (makeV r) ∧ Below w.heap.size w w' := by
  have eg : ∀ args w, (callFunc 173 args).run Tryz.prog w = .ok (.enter 173 args) w := enters_of Tryz.func173 (by kernel_rfl) rfl
  obtain ⟨⟨h1, h2⟩, ⟨h3, h4⟩, ⟨h5, h6⟩, ⟨h7, h8⟩⟩ := cross ha hb
  obtain ⟨X, hX, hbX, k1, k2, k3, k4, hsX⟩ := boxes4 w 51 51 51 33 #[.int .i64 a.num, .int .i64 a.den] #[.int .i64 b.num, .int .i64 b.den] #[.int .i64 0, .int .i64 0] #[.int .i64 0, .int .i64 0]
  have HC := Lib.hid (apply_any 173 eg a b (a.num * b.den + b.num * a.den) (a.den * b.den) r X ha hb (fun W => add1_any a b ha hb W) (by omega) (by omega) h5 (by omega) hr)
  have HX := Lib.hid hX
  have HK := Lib.hid (And.intro hbX (And.intro k3 (And.intro k4 hsX)))
  clear hX hbX k1 k2 k3 k4 hsX hr ha hb eg h1 h2 h3 h4 h5 h6 h7 h8
  go_enter Tryz.func153, Tryz.ntmps153
  go_wp2_with fail
  rw [HX.out]
  refine HC.out.mono ?_
  rintro e w3 ⟨rfl, hb3⟩
  obtain ⟨hbX, k3, k4, hsX⟩ := HK.out
  have m3 := k3.below hb3 (by omega)
  have m4 := k4.below hb3 (by omega)
  have hbw := hbX.trans (hb3.mono (by omega))
  have hz : w.heap.size + 3 < w3.heap.size := m4.lt
  have HF := Lib.hid (fun a b c d => four_ok hbw m3 m4 (by omega) (by omega) (by omega) a b c d)
  have c0 : w3.cell? ⟨w.heap.size + 2, 0, none⟩ = some (.int .i64 0) := m3.cell 0
  have c1 : w3.cell? ⟨w.heap.size + 2, 1, none⟩ = some (.int .i64 0) := m3.cell 1
  have v0 : w3.frozen? ⟨w.heap.size + 2, 0, none⟩ = false := m3.frozen 0
  have v1 : w3.frozen? ⟨w.heap.size + 2, 1, none⟩ = false := m3.frozen 1
  have c2 : w3.cell? ⟨w.heap.size + 3, 0, none⟩ = some (.int .i64 0) := m4.cell 0
  have c3 : w3.cell? ⟨w.heap.size + 3, 1, none⟩ = some (.int .i64 0) := m4.cell 1
  have v2 : w3.frozen? ⟨w.heap.size + 3, 0, none⟩ = false := m4.frozen 0
  have v3 : w3.frozen? ⟨w.heap.size + 3, 1, none⟩ = false := m4.frozen 1
  clear hb3 m3 m4 hbw hbX k3 k4 hsX
  cases r with
  | none =>
    unfold makeV
    go_wp2_with fail
    clear c0 c1 c2 c3 v0 v1 v2 v3
    have hF := HF.out (.int .i64 0) (.int .i64 0) (.int .i64 10) (.int .i64 0)
    have e4 : (((w3.setCell ⟨w.heap.size + 1 + 1, 0, none⟩ (.int .i64 0)).setCell ⟨w.heap.size + 1 + 1, 1, none⟩ (.int .i64 0)).setCell ⟨w.heap.size + 1 + 1 + 1, 0, none⟩ (.int .i64 10)).setCell ⟨w.heap.size + 1 + 1 + 1, 1, none⟩ (.int .i64 0) = four w3 (w.heap.size + 2) (w.heap.size + 3) (.int .i64 0) (.int .i64 0) (.int .i64 10) (.int .i64 0) := rfl
    rw [e4]
    clear e4
    generalize four w3 (w.heap.size + 2) (w.heap.size + 3) (.int .i64 0) (.int .i64 0) (.int .i64 10) (.int .i64 0) = Z at hF ⊢
    have d0 := hF.2.1.cell 0
    have d1 := hF.2.1.cell 1
    have d2 := hF.2.2.cell 0
    have d3 := hF.2.2.cell 1
    simp only [List.getElem?_toArray, List.getElem?_cons_zero, List.getElem?_cons_succ] at d0 d1 d2 d3
    exact bodyPost_ret (v := .tuple #[.agg #[.int .i64 0, .int .i64 0], .agg #[.int .i64 10, .int .i64 0]]) (by simp [results, Tryz.results153, go_sem, d0, d1, d2, d3]) rfl ⟨rfl, hF.1⟩
  | some q =>
    unfold makeV
    go_wp2_with fail
    clear c0 c1 c2 c3 v0 v1 v2 v3
    have hF := HF.out (.int .i64 q.num) (.int .i64 q.den) (.int .i64 0) (.int .i64 0)
    have e4 : (((w3.setCell ⟨w.heap.size + 1 + 1, 0, none⟩ (.int .i64 q.num)).setCell ⟨w.heap.size + 1 + 1, 1, none⟩ (.int .i64 q.den)).setCell ⟨w.heap.size + 1 + 1 + 1, 0, none⟩ (.int .i64 0)).setCell ⟨w.heap.size + 1 + 1 + 1, 1, none⟩ (.int .i64 0) = four w3 (w.heap.size + 2) (w.heap.size + 3) (.int .i64 q.num) (.int .i64 q.den) (.int .i64 0) (.int .i64 0) := rfl
    rw [e4]
    clear e4
    generalize four w3 (w.heap.size + 2) (w.heap.size + 3) (.int .i64 q.num) (.int .i64 q.den) (.int .i64 0) (.int .i64 0) = Z at hF ⊢
    have d0 := hF.2.1.cell 0
    have d1 := hF.2.1.cell 1
    have d2 := hF.2.2.cell 0
    have d3 := hF.2.2.cell 1
    simp only [List.getElem?_toArray, List.getElem?_cons_zero, List.getElem?_cons_succ] at d0 d1 d2 d3
    exact bodyPost_ret (v := .tuple #[.agg #[.int .i64 q.num, .int .i64 q.den], .agg #[.int .i64 0, .int .i64 0]]) (by simp [results, Tryz.results153, go_sem, d0, d1, d2, d3]) rfl ⟨rfl, hF.1⟩

set_option maxRecDepth 100000 in
set_option maxHeartbeats 600000 in
theorem fracTimes_any (a b : FracD) (r : Option FracD) (w : World) (ha : fracGood a.num a.den = true) (hb : fracGood b.num b.den = true) (hr : timesQ a b = r) :
    Calls Tryz.prog 152 #[.agg #[.int .i64 a.num, .int .i64 a.den], .agg #[.int .i64 b.num, .int .i64 b.den]] w fun e w' => e = .returned (makeV r) ∧ Below w.heap.size w w' := by
  have eg : ∀ args w, (callFunc 172 args).run Tryz.prog w = .ok (.enter 172 args) w := enters_of Tryz.func172 (by kernel_rfl) rfl
  obtain ⟨⟨h1, h2⟩, ⟨h3, h4⟩, ⟨h5, h6⟩, ⟨h7, h8⟩⟩ := cross ha hb
  obtain ⟨X, hX, hbX, k1, k2, k3, k4, hsX⟩ := boxes4 w 51 51 51 33 #[.int .i64 a.num, .int .i64 a.den] #[.int .i64 b.num, .int .i64 b.den] #[.int .i64 0, .int .i64 0] #[.int .i64 0, .int .i64 0]
  have HC := Lib.hid (apply_any 172 eg a b (a.num * b.num) (a.den * b.den) r X ha hb (fun W => times1_any a b ha hb W) (by omega) (by omega) h5 (by omega) hr)
  have HX := Lib.hid hX
  have HK := Lib.hid (And.intro hbX (And.intro k3 (And.intro k4 hsX)))
  clear hX hbX k1 k2 k3 k4 hsX hr ha hb eg h1 h2 h3 h4 h5 h6 h7 h8
  go_enter Tryz.func152, Tryz.ntmps152
  go_wp2_with fail
  rw [HX.out]
  refine HC.out.mono ?_
  rintro e w3 ⟨rfl, hb3⟩
  obtain ⟨hbX, k3, k4, hsX⟩ := HK.out
  have m3 := k3.below hb3 (by omega)
  have m4 := k4.below hb3 (by omega)
  have hbw := hbX.trans (hb3.mono (by omega))
  have hz : w.heap.size + 3 < w3.heap.size := m4.lt
  have HF := Lib.hid (fun a b c d => four_ok hbw m3 m4 (by omega) (by omega) (by omega) a b c d)
  have c0 : w3.cell? ⟨w.heap.size + 2, 0, none⟩ = some (.int .i64 0) := m3.cell 0
  have c1 : w3.cell? ⟨w.heap.size + 2, 1, none⟩ = some (.int .i64 0) := m3.cell 1
  have v0 : w3.frozen? ⟨w.heap.size + 2, 0, none⟩ = false := m3.frozen 0
  have v1 : w3.frozen? ⟨w.heap.size + 2, 1, none⟩ = false := m3.frozen 1
  have c2 : w3.cell? ⟨w.heap.size + 3, 0, none⟩ = some (.int .i64 0) := m4.cell 0
  have c3 : w3.cell? ⟨w.heap.size + 3, 1, none⟩ = some (.int .i64 0) := m4.cell 1
  have v2 : w3.frozen? ⟨w.heap.size + 3, 0, none⟩ = false := m4.frozen 0
  have v3 : w3.frozen? ⟨w.heap.size + 3, 1, none⟩ = false := m4.frozen 1
  clear hb3 m3 m4 hbw hbX k3 k4 hsX
  cases r with
  | none =>
    unfold makeV
    go_wp2_with fail
    clear c0 c1 c2 c3 v0 v1 v2 v3
    have hF := HF.out (.int .i64 0) (.int .i64 0) (.int .i64 10) (.int .i64 0)
    have e4 : (((w3.setCell ⟨w.heap.size + 1 + 1, 0, none⟩ (.int .i64 0)).setCell ⟨w.heap.size + 1 + 1, 1, none⟩ (.int .i64 0)).setCell ⟨w.heap.size + 1 + 1 + 1, 0, none⟩ (.int .i64 10)).setCell ⟨w.heap.size + 1 + 1 + 1, 1, none⟩ (.int .i64 0) = four w3 (w.heap.size + 2) (w.heap.size + 3) (.int .i64 0) (.int .i64 0) (.int .i64 10) (.int .i64 0) := rfl
    rw [e4]
    clear e4
    generalize four w3 (w.heap.size + 2) (w.heap.size + 3) (.int .i64 0) (.int .i64 0) (.int .i64 10) (.int .i64 0) = Z at hF ⊢
    have d0 := hF.2.1.cell 0
    have d1 := hF.2.1.cell 1
    have d2 := hF.2.2.cell 0
    have d3 := hF.2.2.cell 1
    simp only [List.getElem?_toArray, List.getElem?_cons_zero, List.getElem?_cons_succ] at d0 d1 d2 d3
    exact bodyPost_ret (v := .tuple #[.agg #[.int .i64 0, .int .i64 0], .agg #[.int .i64 10, .int .i64 0]]) (by simp [results, Tryz.results152, go_sem, d0, d1, d2, d3]) rfl ⟨rfl, hF.1⟩
  | some q =>
    unfold makeV
    go_wp2_with fail
    clear c0 c1 c2 c3 v0 v1 v2 v3
    have hF := HF.out (.int .i64 q.num) (.int .i64 q.den) (.int .i64 0) (.int .i64 0)
    have e4 : (((w3.setCell ⟨w.heap.size + 1 + 1, 0, none⟩ (.int .i64 q.num)).setCell ⟨w.heap.size + 1 + 1, 1, none⟩ (.int .i64 q.den)).setCell ⟨w.heap.size + 1 + 1 + 1, 0, none⟩ (.int .i64 0)).setCell ⟨w.heap.size + 1 + 1 + 1, 1, none⟩ (.int .i64 0) = four w3 (w.heap.size + 2) (w.heap.size + 3) (.int .i64 q.num) (.int .i64 q.den) (.int .i64 0) (.int .i64 0) := rfl
    rw [e4]
    clear e4
    generalize four w3 (w.heap.size + 2) (w.heap.size + 3) (.int .i64 q.num) (.int .i64 q.den) (.int .i64 0) (.int .i64 0) = Z at hF ⊢
    have d0 := hF.2.1.cell 0
    have d1 := hF.2.1.cell 1
    have d2 := hF.2.2.cell 0
    have d3 := hF.2.2.cell 1
    simp only [List.getElem?_toArray, List.getElem?_cons_zero, List.getElem?_cons_succ] at d0 d1 d2 d3
    exact bodyPost_ret (v := .tuple #[.agg #[.int .i64 q.num, .int .i64 q.den], .agg #[.int .i64 0, .int .i64 0]]) (by simp [results, Tryz.results152, go_sem, d0, d1, d2, d3]) rfl ⟨rfl, hF.1⟩
end Go.Proofs.YtfogiljgecmakaaGreat
namespace Go.Proofs.YtfogiljgecmakaaGreat
open Go.RowKit

theorem gcd_pos {n d : Int} (hd : 0 < d) : 0 < Int.gcd n d := Int.gcd_pos_of_ne_zero_right _ (by omega)
theorem lowF_spec {n d : Int} {q : FracD} (hd : 0 < d) (h : lowF n d = some q) : fracGood q.num q.den = true ∧ (d = 1 → q.den = 1) := by
  unfold lowF at h
  split at h
  · cases h
  · rename_i hc
    injection h with h
    subst h
    have hg := gcd_pos (n := n) hd
    obtain ⟨a, ha⟩ := Int.gcd_dvd_left n d
    obtain ⟨b, hb⟩ := Int.gcd_dvd_right n d
    have hg0 : ((Int.gcd n d : Nat) : Int) ≠ 0 := by omega
    have e1 : n.tdiv (Int.gcd n d : Nat) = a := Int.tdiv_eq_of_eq_mul_right hg0 ha
    have e2 : d.tdiv (Int.gcd n d : Nat) = b := Int.tdiv_eq_of_eq_mul_right hg0 hb
    rw [e1, e2] at hc ⊢
    have hbp : 0 < b := by
      rcases Int.lt_trichotomy b 0 with h | h | h
      · have : (Int.gcd n d : Int) * b ≤ 0 := Int.mul_nonpos_of_nonneg_of_nonpos (by omega) (by omega)
        omega
      · rw [h] at hb; omega
      · exact h
    have hco : Int.gcd a b = 1 := by
      have h1 : Int.gcd ((Int.gcd n d : Nat) * a) ((Int.gcd n d : Nat) * b) = Int.gcd n d * Int.gcd a b := by rw [Int.gcd_mul_left]; simp
      rw [← ha, ← hb] at h1
      have h2 : Int.gcd n d * Int.gcd a b = Int.gcd n d * 1 := by omega
      exact Nat.eq_of_mul_eq_mul_left hg h2
    refine ⟨?_, ?_⟩
    · simp only [fracGood, decide_eq_true_eq]
      exact ⟨by omega, by omega, by omega, by omega, hco⟩
    · intro h1
      show b = 1
      rw [h1] at hb
      have : b ∣ 1 := ⟨(Int.gcd n d : Nat), by rw [Int.mul_comm]; exact (by rw [h1]; exact hb)⟩
      exact Int.eq_one_of_dvd_one (by omega) this

theorem qgood {q : FracD} (h : fracGood q.num q.den = true) : 1 ≤ q.den ∧ q.den ≤ 1073741824 ∧ -1073741824 ≤ q.num ∧ q.num ≤ 1073741824 := by
  simp only [fracGood, decide_eq_true_eq] at h
  exact ⟨h.1, h.2.1, h.2.2.1, h.2.2.2.1⟩
theorem addQ_good {a b q : FracD} (ha : fracGood a.num a.den = true) (hb : fracGood b.num b.den = true) (h : addQ a b = some q) : fracGood q.num q.den = true ∧ (a.den = 1 → b.den = 1 → q.den = 1) := by
  have h1 := qgood ha
  have h2 := qgood hb
  obtain ⟨h3, h4⟩ := lowF_spec (Int.mul_pos (by omega) (by omega)) h
  exact ⟨h3, fun e1 e2 => h4 (by rw [e1, e2]; rfl)⟩
theorem timesQ_good {a b q : FracD} (ha : fracGood a.num a.den = true) (hb : fracGood b.num b.den = true) (h : timesQ a b = some q) : fracGood q.num q.den = true ∧ (a.den = 1 → b.den = 1 → q.den = 1) := by
  have h1 := qgood ha
  have h2 := qgood hb
  obtain ⟨h3, h4⟩ := lowF_spec (Int.mul_pos (by omega) (by omega)) h
  exact ⟨h3, fun e1 e2 => h4 (by rw [e1, e2]; rfl)⟩
end Go.Proofs.YtfogiljgecmakaaGreat
namespace Go.Proofs.YtfogiljgecmakaaGreat
open Go.RowKit

theorem heap_set (w : World) (p : Addr) (v : Value) (k : Nat) (hk : k = p.block) : ∀ w2 : World, w2.heap[k]? = w.heap[k]? → (w2.setCell p v).heap[k]? = (w.setCell p v).heap[k]? := fun w2 h => by
  subst hk
  simp [World.setCell, Array.getElem?_modify, h]
theorem below_put {B : Nat} {w w' : World} (h : Below B w w') (p : Addr) (v : Value) : Below B (w.setCell p v) (w'.setCell p v) :=
  ⟨h.os, h.tape, h.output, by simpa [World.setCell] using h.size, fun i hi => by
    by_cases e : i = p.block
    · exact heap_set w p v i e w' (h.block i hi)
    · exact (Below.heap_setCell w' p v i e).trans ((h.block i hi).trans (Below.heap_setCell w p v i e).symm)⟩
/-- a fraction of two cells is written anew -/
def putQ (w : World) (b o : Nat) (q : FracD) : World := (w.setCell ⟨b, o, none⟩ (.int .i64 q.num)).setCell ⟨b, o + 1, none⟩ (.int .i64 q.den)
theorem below_putQ {B : Nat} {w w' : World} (h : Below B w w') (b o : Nat) (q : FracD) : Below B (putQ w b o q) (putQ w' b o q) := below_put (below_put h _ _) _ _
theorem only_putQ (w : World) (b o : Nat) (q : FracD) : w.grownBy (putQ w b o q) (some b) := one_only (one_only (only_refl _ _) _ _) _ _

def JAddP (a : FracD) (x : Int) (m : FracD) (b o : Nat) (w : World) (e : Ending) (w' : World) : Prop :=
  (∀ q, addC a x m = some q → e = .returned (.bool true) ∧ Below w.heap.size (putQ w b o q) w') ∧ (addC a x m = none → e = .returned (.bool false) ∧ w.grownBy w' (some b))
theorem good_whole {x : Int} (h0 : -1073741824 ≤ x) (h1 : x ≤ 1073741824) : fracGood x 1 = true := by simp [fracGood, h0, h1]
theorem addC_good {a m q : FracD} {x : Int} (ha : fracGood a.num a.den = true) (hm : fracGood m.num m.den = true) (h0 : -1073741824 ≤ x) (h1 : x ≤ 1073741824) (h : addC a x m = some q) : fracGood q.num q.den = true := by
  unfold addC at h
  cases ht : timesQ ⟨x, 1⟩ m with
  | none => rw [ht] at h; cases h
  | some p =>
    rw [ht] at h
    exact (addQ_good ha (timesQ_good (a := ⟨x, 1⟩) (good_whole h0 h1) hm ht).1 h).1

set_option maxRecDepth 100000 in
set_option maxHeartbeats 4000000 in
theorem jadd_any (a : FracD) (x : Int) (m : FracD) (b o : Nat) (w : World) (ha : fracGood a.num a.den = true) (hm : fracGood m.num m.den = true) (h0 : -1073741824 ≤ x) (h1 : x ≤ 1073741824)
    (hb : b < w.heap.size) (hc0 : w.cell? ⟨b, o, none⟩ = some (.int .i64 a.num)) (hc1 : w.cell? ⟨b, o + 1, none⟩ = some (.int .i64 a.den)) (hf0 : w.frozen? ⟨b, o, none⟩ = false) (hf1 : w.frozen? ⟨b, o + 1, none⟩ = false) :
    Calls Tryz.prog 136 #[.pointer (some ⟨b, o, none⟩), .int .i64 x, .agg #[.int .i64 m.num, .int .i64 m.den]] w (JAddP a x m b o w) := by
  have hbel0 : Below w.heap.size w (w.alloc (.cells #[.int .i64 m.num, .int .i64 m.den] 51)) := (Below.refl _ _).alloc (Nat.le_refl _) _
  cases ht : timesQ ⟨x, 1⟩ m with
  | none =>
    have HT := Lib.hid (fracTimes_any ⟨x, 1⟩ m none (w.alloc (.cells #[.int .i64 m.num, .int .i64 m.den] 51)) (good_whole h0 h1) hm ht)
    have HN : Hid (addC a x m = none) := by show _ = _; unfold addC; rw [ht]; rfl
    clear ht
    go_enter Tryz.func136, Tryz.ntmps136
    go_wp2_with fail
    refine HT.out.mono ?_
    rintro e w9 ⟨rfl, hb9⟩
    have HB := Lib.hid (hbel0.trans (hb9.mono hbel0.size))
    have hz9 := hb9.size
    rw [World.size_alloc] at hz9
    unfold makeV
    clear hb9
    go_wp2_with fail
    go_ret
    refine ⟨fun q hq => (by rw [HN.out] at hq; cases hq), fun _ => ⟨rfl, ?_⟩⟩
    exact only_of_below ((HB.out.alloc (by omega) _).alloc (by simp; omega) _) _
  | some p =>
    have hp := (timesQ_good (a := ⟨x, 1⟩) (good_whole h0 h1) hm ht).1
    have HT := Lib.hid (fracTimes_any ⟨x, 1⟩ m (some p) (w.alloc (.cells #[.int .i64 m.num, .int .i64 m.den] 51)) (good_whole h0 h1) hm ht)
    have HAC : Hid (addC a x m = addQ a p) := by show _ = _; unfold addC; rw [ht]; rfl
    have HP := Lib.hid (And.intro ha hp)
    clear ht
    go_enter Tryz.func136, Tryz.ntmps136
    go_wp2_with fail
    refine HT.out.mono ?_
    rintro e w9 ⟨rfl, hb9⟩
    have hbw9 : Below w.heap.size w w9 := hbel0.trans (hb9.mono hbel0.size)
    have hz9 := hbw9.size
    have hbX : Below w.heap.size w ((w9.alloc (.cells #[.int .i64 p.num, .int .i64 p.den] 51)).alloc (.cells #[.int .i64 0, .int .i64 0] 33)) := (hbw9.alloc hz9 _).alloc (by simp; omega) _
    have hkp := (Blk.new w9 51 #[.int .i64 p.num, .int .i64 p.den]).alloc (.cells #[.int .i64 0, .int .i64 0] 33)
    have hkf := Blk.new (w9.alloc (.cells #[.int .i64 p.num, .int .i64 p.den] 51)) 33 #[.int .i64 0, .int .i64 0]
    rw [World.size_alloc] at hkf
    unfold makeV
    obtain ⟨X, hX⟩ : ∃ X, (w9.alloc (.cells #[.int .i64 p.num, .int .i64 p.den] 51)).alloc (.cells #[.int .i64 0, .int .i64 0] 33) = X := ⟨_, rfl⟩
    rw [hX] at hbX hkp hkf
    have HX := Lib.hid hX
    clear hX
    have hbo : b < X.heap.size := Nat.lt_of_lt_of_le hb hbX.size
    have y0 : X.cell? ⟨b, o, none⟩ = some (.int .i64 a.num) := (hbX.cell (p := ⟨b, o, none⟩) hb).trans hc0
    have y1 : X.cell? ⟨b, o + 1, none⟩ = some (.int .i64 a.den) := (hbX.cell (p := ⟨b, o + 1, none⟩) hb).trans hc1
    have y2 : X.cell? ⟨w9.heap.size, 0, none⟩ = some (.int .i64 p.num) := hkp.cell 0
    have y3 : X.cell? ⟨w9.heap.size, 1, none⟩ = some (.int .i64 p.den) := hkp.cell 1
    have y4 : X.cell? ⟨w9.heap.size + 1, 0, none⟩ = some (.int .i64 0) := hkf.cell 0
    have HBX := Lib.hid (And.intro hbX (And.intro hkp hkf))
    clear hb9 hbw9 hbX hkp hkf hbel0 hc0 hc1
    obtain ⟨r, hr⟩ : ∃ r, addQ a p = r := ⟨_, rfl⟩
    have HR : Hid (addC a x m = r) := by show _ = _; rw [HAC.out, hr]
    have HADD := Lib.hid (fun W => fracAdd_any a p r W HP.out.1 HP.out.2 hr)
    clear hr HAC
    go_upto_region 4 with fail
    rw [HX.out]
    have yf0 : X.frozen? ⟨b, o, none⟩ = false := (HBX.out.1.frozen (p := ⟨b, o, none⟩) hb).trans hf0
    have yf1 : X.frozen? ⟨b, o + 1, none⟩ = false := (HBX.out.1.frozen (p := ⟨b, o + 1, none⟩) hb).trans hf1
    have hnb : ¬ b = w9.heap.size + 1 := by omega
    have hnb' : ¬ w9.heap.size + 1 = b := by omega
    clear hf0 hf1 HX
    cases r with
    | none =>
      go_region_law (first
      | (go_simp
         go_at_call 153
         with_reducible refine (HADD.out X.drew).mono ?_
         rintro e w8 ⟨rfl, hb8⟩
         unfold makeV
         have hbX8 : Below X.heap.size X w8 := below_of_drew hb8
         have g0 : w8.cell? ⟨b, o, none⟩ = some (.int .i64 a.num) := (hbX8.cell (p := ⟨b, o, none⟩) hbo).trans y0
         have g1 : w8.cell? ⟨b, o + 1, none⟩ = some (.int .i64 a.den) := (hbX8.cell (p := ⟨b, o + 1, none⟩) hbo).trans y1
         have g2 : w8.frozen? ⟨b, o, none⟩ = false := (hbX8.frozen (p := ⟨b, o, none⟩) hbo).trans yf0
         have g3 : w8.frozen? ⟨b, o + 1, none⟩ = false := (hbX8.frozen (p := ⟨b, o + 1, none⟩) hbo).trans yf1
         have hkf8 := HBX.out.2.2.below hbX8 HBX.out.2.2.lt
         have g4 : w8.cell? ⟨w9.heap.size + 1, 0, none⟩ = some (.int .i64 0) := hkf8.cell 0
         have g5 : w8.cell? ⟨w9.heap.size + 1, 1, none⟩ = some (.int .i64 0) := hkf8.cell 1
         have g6 : w8.frozen? ⟨w9.heap.size + 1, 0, none⟩ = false := hkf8.frozen 0
         have g7 : w8.frozen? ⟨w9.heap.size + 1, 1, none⟩ = false := hkf8.frozen 1
         have gz : b < w8.heap.size := Nat.lt_of_lt_of_le hbo hbX8.size
         have HB8 : Hid (Below w.heap.size w w8 ∧ w9.heap.size + 1 < w8.heap.size) := ⟨HBX.out.1.trans (hbX8.mono HBX.out.1.size), hkf8.lt⟩
         clear hb8 hbX8 hkf8)
      | fail)
      all_goals
        go_wp2_with fail
        go_ret
        refine ⟨fun q hq => (by rw [HR.out] at hq; cases hq), fun _ => ⟨rfl, ?_⟩⟩
        have h9 := only_of_below HB8.out.1 (some b)
        have hZ : w.heap.size ≤ w9.heap.size + 1 := by omega
        first
          | exact only_setCell (p := ⟨w9.heap.size + 1, 1, none⟩) (only_setCell (p := ⟨w9.heap.size + 1, 0, none⟩) (only_setCell (p := ⟨b, o + 1, none⟩) (only_setCell (p := ⟨b, o, none⟩) h9 (.inl rfl) _) (.inl rfl) _) (.inr hZ) _) (.inr hZ) _
          | exact only_setCell (p := ⟨b, o + 1, none⟩) (only_setCell (p := ⟨b, o, none⟩) (only_setCell (p := ⟨w9.heap.size + 1, 1, none⟩) (only_setCell (p := ⟨w9.heap.size + 1, 0, none⟩) h9 (.inr hZ) _) (.inr hZ) _) (.inl rfl) _) (.inl rfl) _
    | some q =>
      go_region_law (first
      | (go_simp
         go_at_call 153
         with_reducible refine (HADD.out X.drew).mono ?_
         rintro e w8 ⟨rfl, hb8⟩
         unfold makeV
         have hbX8 : Below X.heap.size X w8 := below_of_drew hb8
         have g0 : w8.cell? ⟨b, o, none⟩ = some (.int .i64 a.num) := (hbX8.cell (p := ⟨b, o, none⟩) hbo).trans y0
         have g1 : w8.cell? ⟨b, o + 1, none⟩ = some (.int .i64 a.den) := (hbX8.cell (p := ⟨b, o + 1, none⟩) hbo).trans y1
         have g2 : w8.frozen? ⟨b, o, none⟩ = false := (hbX8.frozen (p := ⟨b, o, none⟩) hbo).trans yf0
         have g3 : w8.frozen? ⟨b, o + 1, none⟩ = false := (hbX8.frozen (p := ⟨b, o + 1, none⟩) hbo).trans yf1
         have hkf8 := HBX.out.2.2.below hbX8 HBX.out.2.2.lt
         have g4 : w8.cell? ⟨w9.heap.size + 1, 0, none⟩ = some (.int .i64 0) := hkf8.cell 0
         have g5 : w8.cell? ⟨w9.heap.size + 1, 1, none⟩ = some (.int .i64 0) := hkf8.cell 1
         have g6 : w8.frozen? ⟨w9.heap.size + 1, 0, none⟩ = false := hkf8.frozen 0
         have g7 : w8.frozen? ⟨w9.heap.size + 1, 1, none⟩ = false := hkf8.frozen 1
         have gz : b < w8.heap.size := Nat.lt_of_lt_of_le hbo hbX8.size
         have HB8 : Hid (Below w.heap.size w w8 ∧ w9.heap.size + 1 < w8.heap.size) := ⟨HBX.out.1.trans (hbX8.mono HBX.out.1.size), hkf8.lt⟩
         clear hb8 hbX8 hkf8)
      | fail)
      all_goals
        go_wp2_with fail
        go_ret
        refine ⟨fun q' hq => ?_, fun h => (by rw [HR.out] at h; cases h)⟩
        rw [HR.out] at hq
        injection hq with hq
        subst hq
        have hZ : w.heap.size ≤ w9.heap.size + 1 := by omega
        refine ⟨rfl, ?_⟩
        first
          | exact ((below_putQ HB8.out.1 b o q).setCell (p := ⟨w9.heap.size + 1, 0, none⟩) hZ _).setCell (p := ⟨w9.heap.size + 1, 1, none⟩) hZ _
          | exact below_putQ ((HB8.out.1.setCell (p := ⟨w9.heap.size + 1, 0, none⟩) hZ _).setCell (p := ⟨w9.heap.size + 1, 1, none⟩) hZ _) b o q
end Go.Proofs.YtfogiljgecmakaaGreat
