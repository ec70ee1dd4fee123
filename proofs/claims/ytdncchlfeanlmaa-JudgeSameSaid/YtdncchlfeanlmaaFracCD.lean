/- Walks: a fraction in lowest terms: the program. · Walks: fractions added, multiplied, compared: the program. -/
import Derived.Test.YtdncchlfeanlmaaFracPW
import Derived.Test.YtdncchlfeanlmaaCore
import Derived.Deep.LoopGhost
import Derived.RegionTactic
namespace Go.Proofs.Ytdncchlfeanlmaa
open Go.RowKit

def makeV : Option FracD → Value
  | some q => .tuple #[.agg #[.int .i64 q.num, .int .i64 q.den], .agg #[.int .i64 0, .int .i64 0]]
  | none => .tuple #[.agg #[.int .i64 0, .int .i64 0], .agg #[.int .i64 10, .int .i64 0]]
theorem tdiv_nat (n : Int) (g : Nat) : n.tdiv (g : Int) = if n < 0 then -((n.natAbs / g : Nat) : Int) else ((n.natAbs / g : Nat) : Int) := by
  obtain ⟨a, rfl | rfl⟩ := Int.eq_nat_or_neg n
  · rw [if_neg (by omega), Int.natAbs_natCast]; rfl
  · rw [Int.neg_tdiv, Int.natAbs_neg, Int.natAbs_natCast]
    have e : (a : Int).tdiv (g : Int) = ((a / g : Nat) : Int) := rfl
    rw [e]
    by_cases h : a = 0
    · subst h; simp
    · rw [if_pos (by omega)]
theorem lowF_nat {n d : Int} (hd : 0 < d) : lowF n d = if 1073741824 < n.natAbs / Int.gcd n d ∨ 1073741824 < d.natAbs / Int.gcd n d then none else some ⟨if n < 0 then -((n.natAbs / Int.gcd n d : Nat) : Int) else ((n.natAbs / Int.gcd n d : Nat) : Int), ((d.natAbs / Int.gcd n d : Nat) : Int)⟩ := by
  unfold lowF
  rw [tdiv_nat, tdiv_nat, if_neg (show ¬ d < 0 by omega)]
  generalize n.natAbs / Int.gcd n d = A
  generalize d.natAbs / Int.gcd n d = B
  by_cases h : n < 0
  · rw [if_pos h]
    by_cases h2 : 1073741824 < A ∨ 1073741824 < B
    · rw [if_pos h2, if_pos (by omega)]
    · rw [if_neg h2, if_neg (by omega)]
  · rw [if_neg h]
    by_cases h2 : 1073741824 < A ∨ 1073741824 < B
    · rw [if_pos h2, if_pos (by omega)]
    · rw [if_neg h2, if_neg (by omega)]

set_option maxRecDepth 100000 in
set_option maxHeartbeats 600000 in
theorem make_any (num den : Int) (r : Option FracD) (w : World) (h0 : -4611686018427387904 ≤ num) (h1 : num ≤ 4611686018427387904) (h2 : 1 ≤ den) (h3 : den ≤ 4611686018427387904) (hr : lowF num den = r) :
    Calls Try.prog 95 #[.int .i64 num, .int .i64 den] w fun e w' => e = .returned (makeV r) ∧ Below w.heap.size w w' := by
  have hb : Below w.heap.size w ((w.alloc (.cells #[.int .i64 0, .int .i64 0] 88)).alloc (.cells #[.int .i64 0, .int .i64 0] 29)) := ((Below.refl _ _).alloc (Nat.le_refl _) _).alloc (by simp) _
  have HB := Lib.hid hb
  clear hb
  rw [lowF_nat (by omega)] at hr
  obtain ⟨g, hg⟩ : ∃ g, Int.gcd num den = g := ⟨_, rfl⟩
  obtain ⟨a, ha⟩ : ∃ a, num.natAbs = a := ⟨_, rfl⟩
  obtain ⟨b, hb⟩ : ∃ b, den.natAbs = b := ⟨_, rfl⟩
  have hgp : 0 < g := by rw [← hg]; exact Int.gcd_pos_of_ne_zero_right _ (by omega)
  have hgd : Nat.gcd a b = g := by rw [← ha, ← hb]; exact hg
  rw [ha, hb, hg] at hr
  have HG := Lib.hid (fun W => gcdU_any a b W (by omega) (by omega))
  rw [hgd] at HG
  have hs1 := fun W => size_any num W h0 h1
  have hs2 := fun W => size_any den W (by omega) h3
  rw [ha] at hs1
  rw [hb] at hs2
  have HS1 := Lib.hid hs1
  have HS2 := Lib.hid hs2
  have hle1 : a / g ≤ a := Nat.div_le_self _ _
  have hle2 : b / g ≤ b := Nat.div_le_self _ _
  have hq1 : (a : Int).tdiv (g : Int) = ((a / g : Nat) : Int) := rfl
  have hq2 : (b : Int).tdiv (g : Int) = ((b / g : Nat) : Int) := rfl
  have hz : ((g : Int) == 0) = false := by rw [beq_eq_false_iff_ne]; omega
  have hz2 : (den == 0) = false := by rw [beq_eq_false_iff_ne]; omega
  generalize a / g = A at hle1 hq1 hr
  generalize b / g = B at hle2 hq2 hr
  have hla : a ≤ 4611686018427387904 := by omega
  have hlb : b ≤ 4611686018427387904 := by omega
  clear hgd hs1 hs2 hg ha hb
  by_cases hA : 1073741824 < A
  · rw [if_pos (.inl hA)] at hr
    subst hr
    have hAI : (A : Int) > 1073741824 := by omega
    go_enter Try.func95, Try.ntmps95
    go_wp2_with (first | (go_at_call 65; first | (with_reducible (refine (HS1.out _).mono ?_); rintro e w' ⟨rfl, rfl⟩) | (with_reducible (refine (HS2.out _).mono ?_); rintro e w' ⟨rfl, rfl⟩)) | fail)
    refine (HG.out _).mono ?_
    rintro e w' ⟨rfl, m, rfl⟩
    go_wp2_with fail
    go_quiet (fail)
    go_wp2_with fail
    refine bodyPost_ret (v := .tuple #[.agg #[.int .i64 0, .int .i64 0], .agg #[.int .i64 10, .int .i64 0]]) (by simp [results, Try.results95, go_sem]) rfl ⟨rfl, ?_⟩
    exact ((((below_drewN HB.out _).setCell (p := ⟨w.heap.size, 0, none⟩) (Nat.le_refl _) _).setCell (p := ⟨w.heap.size, 1, none⟩) (Nat.le_refl _) _).setCell (p := ⟨w.heap.size + 1, 0, none⟩) (Nat.le_succ _) _).setCell (p := ⟨w.heap.size + 1, 1, none⟩) (Nat.le_succ _) _
  · have hAI : ¬ ((A : Int) > 1073741824) := by omega
    by_cases hB : 1073741824 < B
    · rw [if_pos (.inr hB)] at hr
      subst hr
      have hBI : (B : Int) > 1073741824 := by omega
      go_enter Try.func95, Try.ntmps95
      go_wp2_with (first | (go_at_call 65; first | (with_reducible (refine (HS1.out _).mono ?_); rintro e w' ⟨rfl, rfl⟩) | (with_reducible (refine (HS2.out _).mono ?_); rintro e w' ⟨rfl, rfl⟩)) | fail)
      refine (HG.out _).mono ?_
      rintro e w' ⟨rfl, m, rfl⟩
      go_wp2_with fail
      go_quiet (fail)
      go_wp2_with fail
      refine bodyPost_ret (v := .tuple #[.agg #[.int .i64 0, .int .i64 0], .agg #[.int .i64 10, .int .i64 0]]) (by simp [results, Try.results95, go_sem]) rfl ⟨rfl, ?_⟩
      exact ((((below_drewN HB.out _).setCell (p := ⟨w.heap.size, 0, none⟩) (Nat.le_refl _) _).setCell (p := ⟨w.heap.size, 1, none⟩) (Nat.le_refl _) _).setCell (p := ⟨w.heap.size + 1, 0, none⟩) (Nat.le_succ _) _).setCell (p := ⟨w.heap.size + 1, 1, none⟩) (Nat.le_succ _) _
    · rw [if_neg (by omega)] at hr
      have hBI : ¬ ((B : Int) > 1073741824) := by omega
      have hdn : decide (den < 0) = false := by rw [decide_eq_false_iff_not]; omega
      by_cases hneg : num < 0
      · rw [if_pos hneg] at hr
        subst hr
        have hnn : decide (num < 0) = true := by rw [decide_eq_true_eq]; exact hneg
        go_enter Try.func95, Try.ntmps95
        go_wp2_with (first | (go_at_call 65; first | (with_reducible (refine (HS1.out _).mono ?_); rintro e w' ⟨rfl, rfl⟩) | (with_reducible (refine (HS2.out _).mono ?_); rintro e w' ⟨rfl, rfl⟩)) | fail)
        refine (HG.out _).mono ?_
        rintro e w' ⟨rfl, m, rfl⟩
        go_wp2_with fail
        go_quiet (fail)
        go_wp2_with fail
        refine bodyPost_ret (v := .tuple #[.agg #[.int .i64 (-(A : Int)), .int .i64 B], .agg #[.int .i64 0, .int .i64 0]]) (by simp [results, Try.results95, go_sem]) rfl ⟨rfl, ?_⟩
        exact (((((below_drewN HB.out _).setCell (p := ⟨w.heap.size, 0, none⟩) (Nat.le_refl _) _).setCell (p := ⟨w.heap.size, 1, none⟩) (Nat.le_refl _) _).setCell (p := ⟨w.heap.size + 1, 0, none⟩) (Nat.le_succ _) _).setCell (p := ⟨w.heap.size + 1, 1, none⟩) (Nat.le_succ _) _).alloc (by simp; omega) _
      · rw [if_neg hneg] at hr
        subst hr
        have hnn : decide (num < 0) = false := by rw [decide_eq_false_iff_not]; exact hneg
        go_enter Try.func95, Try.ntmps95
        go_wp2_with (first | (go_at_call 65; first | (with_reducible (refine (HS1.out _).mono ?_); rintro e w' ⟨rfl, rfl⟩) | (with_reducible (refine (HS2.out _).mono ?_); rintro e w' ⟨rfl, rfl⟩)) | fail)
        refine (HG.out _).mono ?_
        rintro e w' ⟨rfl, m, rfl⟩
        go_wp2_with fail
        go_quiet (fail)
        go_wp2_with fail
        refine bodyPost_ret (v := .tuple #[.agg #[.int .i64 A, .int .i64 B], .agg #[.int .i64 0, .int .i64 0]]) (by simp [results, Try.results95, go_sem]) rfl ⟨rfl, ?_⟩
        exact (((((below_drewN HB.out _).setCell (p := ⟨w.heap.size, 0, none⟩) (Nat.le_refl _) _).setCell (p := ⟨w.heap.size, 1, none⟩) (Nat.le_refl _) _).setCell (p := ⟨w.heap.size + 1, 0, none⟩) (Nat.le_succ _) _).setCell (p := ⟨w.heap.size + 1, 1, none⟩) (Nat.le_succ _) _).alloc (by simp; omega) _
end Go.Proofs.Ytdncchlfeanlmaa
namespace Go.Proofs.Ytdncchlfeanlmaa
open Go.RowKit

theorem field_codeF (a b : Int) (w : World) : (Instr.field 29 (.agg #[.int .i64 a, .int .i64 b]) 0).run Try.prog w = .ok (.int .i64 a) w := by kernel_rfl
theorem fracCheck_yes (num den : Int) (h : fracGood num den = true) (w : World) :
    Calls Try.prog 48 #[.agg #[.int .i64 num, .int .i64 den]] w fun e w' => e = .returned (.agg #[.int .i64 0, .int .i64 0]) ∧ Below w.heap.size w w' :=
  (fracCheck_any num den w).mono fun e w' ⟨he, hb⟩ => ⟨by rw [he, h]; rfl, hb⟩

set_option maxRecDepth 100000 in
set_option maxHeartbeats 2000000 in
theorem checked_any (A : Option Addr) (n c : Nat) (xs : List FracD) (w : World) (hxs : ArrB AtFrac 2 w w.heap.size A n xs) (hn : n ≤ 9223372036854775807) (hg : ∀ x ∈ xs, fracGood x.num x.den = true) :
    Calls Try.prog 94 #[.slice A n c] w fun e w' => e = .returned (.agg #[.int .i64 0, .int .i64 0]) ∧ Below w.heap.size w w' := by
  have HXS := Lib.hid hxs
  have HG := Lib.hid hg
  clear hxs hg
  have hfd := fun a W => field_codeF a 0 W
  go_enter Try.func94, Try.ntmps94
  go_wp2_with fail
  go_loopw [7] (fun s wr => ∃ k : Nat, k ≤ n ∧ s = .int .i64 k ∧ Below w.heap.size w wr ∧ Blk wr w.heap.size 29 #[.int .i64 0, .int .i64 0]) (fun s _ => n - (intOf s).toNat)
  case atStart => exact ⟨0, Nat.zero_le _, rfl, (Below.refl _ _).alloc (Nat.le_refl _) _, Blk.new _ _ _⟩
  case round =>
    obtain ⟨k, hk, rfl, hbel, hbf⟩ := hrel
    have hz : w.heap.size < wr.heap.size := hbf.lt
    by_cases hlt : k < n
    · obtain ⟨b, off, hx, rfl, hb, hc0, hc1⟩ := Arr.get (HXS.out.below stays_frac hbel (Nat.le_refl _)) hlt
      have hgx := HG.out _ (List.getElem_mem hx)
      generalize xs[k] = x at hgx hc0 hc1
      obtain ⟨xn, xd⟩ := x
      have h0 : wr.cell? ⟨b, off + k * 2, none⟩ = some (.int .i64 xn) := hc0.1
      have h1 : wr.cell? ⟨b, off + k * 2 + 1, none⟩ = some (.int .i64 xd) := hc1.1
      have HC := Lib.hid (fun W => fracCheck_yes xn xd hgx W)
      have hb1 : Below w.heap.size w (wr.alloc (.cells #[.int .i64 xn, .int .i64 xd] 88)) := hbel.alloc (Nat.le_of_lt hz) _
      have hf1 := hbf.alloc (.cells #[.int .i64 xn, .int .i64 xd] 88)
      have hs1 : (wr.alloc (.cells #[.int .i64 xn, .int .i64 xd] 88)).heap.size = wr.heap.size + 1 := by simp
      have HX := Lib.hid (And.intro hb1 (And.intro hf1 hs1))
      clear hx hgx hc0 hc1 hb1 hf1 hs1 hbel hbf
      go_wp2_with fail
      refine (HC.out _).mono ?_
      rintro e w1 ⟨rfl, hb2⟩
      obtain ⟨hb1, hf1, hs1⟩ := HX.out
      have HY := Lib.hid (And.intro (hb1.trans (hb2.mono (by omega))) (hf1.below hb2 (by omega)))
      clear hb1 hf1 hs1 hb2 HX
      go_wp2_with fail
      go_roundw
      case rel => exact ⟨k + 1, by omega, by go_num, HY.out.1, HY.out.2⟩
      case measure => simp [intOf]; omega
    · obtain rfl : k = n := by omega
      have HB := Lib.hid (And.intro hbel hbf)
      have z0 : wr.cell? ⟨w.heap.size, 0, none⟩ = some (.int .i64 0) := hbf.cell 0
      have z1 : wr.cell? ⟨w.heap.size, 1, none⟩ = some (.int .i64 0) := hbf.cell 1
      have v0 : wr.frozen? ⟨w.heap.size, 0, none⟩ = false := hbf.frozen 0
      have v1 : wr.frozen? ⟨w.heap.size, 1, none⟩ = false := hbf.frozen 1
      clear hbel hbf
      go_wp2_with fail
      clear z0 z1 v0 v1
      have hz1 := two_blk HB.out.2 (.int .i64 0) (.int .i64 0)
      have hz2 : Below w.heap.size w (two wr w.heap.size (.int .i64 0) (.int .i64 0)) := two_below HB.out.1 (Nat.le_refl _) (.int .i64 0) (.int .i64 0)
      have e4 : (wr.setCell ⟨w.heap.size, 0, none⟩ (.int .i64 0)).setCell ⟨w.heap.size, 1, none⟩ (.int .i64 0) = two wr w.heap.size (.int .i64 0) (.int .i64 0) := rfl
      rw [e4]
      clear e4
      generalize two wr w.heap.size (.int .i64 0) (.int .i64 0) = Z at hz1 hz2 ⊢
      have d0 := hz1.cell 0
      have d1 := hz1.cell 1
      simp only [List.getElem?_toArray, List.getElem?_cons_zero, List.getElem?_cons_succ] at d0 d1
      exact bodyPost_ret (v := .agg #[.int .i64 0, .int .i64 0]) (by simp [results, Try.results94, go_sem, d0, d1]) rfl ⟨rfl, hz2⟩

theorem mul_le_mul' {a b x y : Int} (h1 : -a ≤ x) (h2 : x ≤ a) (h3 : -b ≤ y) (h4 : y ≤ b) : -(a * b) ≤ x * y ∧ x * y ≤ a * b := by
  have ha : x.natAbs ≤ a.natAbs := by omega
  have hb : y.natAbs ≤ b.natAbs := by omega
  have h := Nat.mul_le_mul ha hb
  rw [← Int.natAbs_mul, ← Int.natAbs_mul] at h
  have hab : 0 ≤ a * b := Int.mul_nonneg (by omega) (by omega)
  omega
theorem mul30 {x y : Int} (h1 : -1073741824 ≤ x) (h2 : x ≤ 1073741824) (h3 : -1073741824 ≤ y) (h4 : y ≤ 1073741824) : -1152921504606846976 ≤ x * y ∧ x * y ≤ 1152921504606846976 := by
  have := mul_le_mul' (a := 1073741824) (b := 1073741824) h1 h2 h3 h4
  omega
/-- the terms of two good fractions, multiplied crosswise -/
theorem cross {a b : FracD} (ha : fracGood a.num a.den = true) (hb : fracGood b.num b.den = true) : (-1152921504606846976 ≤ a.num * b.den ∧ a.num * b.den ≤ 1152921504606846976) ∧ (-1152921504606846976 ≤ b.num * a.den ∧ b.num * a.den ≤ 1152921504606846976) ∧
    (1 ≤ a.den * b.den ∧ a.den * b.den ≤ 1152921504606846976) ∧ (-1152921504606846976 ≤ a.num * b.num ∧ a.num * b.num ≤ 1152921504606846976) := by
  simp only [fracGood, decide_eq_true_eq] at ha hb
  have h1 : 0 < a.den * b.den := Int.mul_pos (by omega) (by omega)
  have h2 := mul30 (x := a.den) (y := b.den) (by omega) (by omega) (by omega) (by omega)
  exact ⟨mul30 (by omega) (by omega) (by omega) (by omega), mul30 (by omega) (by omega) (by omega) (by omega), ⟨by omega, h2.2⟩, mul30 (by omega) (by omega) (by omega) (by omega)⟩

set_option maxRecDepth 100000 in
set_option maxHeartbeats 2000000 in
theorem add1_any (a b : FracD) (ha : fracGood a.num a.den = true) (hb : fracGood b.num b.den = true) (w : World) :
    Calls Try.prog 88 #[.agg #[.int .i64 a.num, .int .i64 a.den], .agg #[.int .i64 b.num, .int .i64 b.den]] w fun e w' => e = .returned (.tuple #[.int .i64 (a.num * b.den + b.num * a.den), .int .i64 (a.den * b.den)]) ∧ Below w.heap.size w w' := by
  obtain ⟨⟨h1, h2⟩, ⟨h3, h4⟩, ⟨h5, h6⟩, -⟩ := cross ha hb
  obtain ⟨an, ad⟩ := a
  obtain ⟨bn, bd⟩ := b
  dsimp only at *
  have HB : Hid (Below w.heap.size w ((w.alloc (.cells #[.int .i64 an, .int .i64 ad] 88)).alloc (.cells #[.int .i64 bn, .int .i64 bd] 88))) := ((Below.refl _ _).alloc (Nat.le_refl _) _).alloc (by simp) _
  clear ha hb
  go_enter Try.func88, Try.ntmps88
  go_wp2_with fail
  go_quiet (fail)
  go_wp2_with fail
  exact bodyPost_ret (v := .tuple #[.int .i64 (an * bd + bn * ad), .int .i64 (ad * bd)]) (by simp [results, Try.results88, go_sem]) rfl ⟨rfl, below_drewN HB.out _⟩

set_option maxRecDepth 100000 in
set_option maxHeartbeats 2000000 in
theorem times1_any (a b : FracD) (ha : fracGood a.num a.den = true) (hb : fracGood b.num b.den = true) (w : World) :
    Calls Try.prog 87 #[.agg #[.int .i64 a.num, .int .i64 a.den], .agg #[.int .i64 b.num, .int .i64 b.den]] w fun e w' => e = .returned (.tuple #[.int .i64 (a.num * b.num), .int .i64 (a.den * b.den)]) ∧ Below w.heap.size w w' := by
  obtain ⟨-, -, ⟨h5, h6⟩, ⟨h1, h2⟩⟩ := cross ha hb
  obtain ⟨an, ad⟩ := a
  obtain ⟨bn, bd⟩ := b
  dsimp only at *
  have HB : Hid (Below w.heap.size w ((w.alloc (.cells #[.int .i64 an, .int .i64 ad] 88)).alloc (.cells #[.int .i64 bn, .int .i64 bd] 88))) := ((Below.refl _ _).alloc (Nat.le_refl _) _).alloc (by simp) _
  clear ha hb
  go_enter Try.func87, Try.ntmps87
  go_wp2_with fail
  go_quiet (fail)
  go_wp2_with fail
  exact bodyPost_ret (v := .tuple #[.int .i64 (an * bn), .int .i64 (ad * bd)]) (by simp [results, Try.results87, go_sem]) rfl ⟨rfl, below_drewN HB.out _⟩
end Go.Proofs.Ytdncchlfeanlmaa
