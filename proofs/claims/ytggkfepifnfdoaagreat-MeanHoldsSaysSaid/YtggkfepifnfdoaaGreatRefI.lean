/- Walk: the value of a node without a fault: the reference. -/
import Derived.Test.YtggkfepifnfdoaaGreatRefE
import Derived.Test.YtggkfepifnfdoaaGreatRefF
import Derived.Test.YtggkfepifnfdoaaGreatRefG
import Derived.Test.YtggkfepifnfdoaaGreatRefH
namespace Go.Proofs.YtggkfepifnfdoaaGreat
open Go.RowKit

theorem word_frac {b : Int} {u : ValueD} (h1 : 1 ≤ b) (h8 : b ≤ 8) (h : WordV b u) : fracGood u.num u.den = true ∧ u.den = 1 := by
  have hp := pow_bits h1 h8
  have h2 := h.lo
  have h3 := h.hi
  have hd : u.den = 1 := by rw [h.is]; rfl
  refine ⟨?_, hd⟩
  rw [hd]
  simp only [fracGood, decide_eq_true_eq]
  refine ⟨by omega, by omega, by omega, by omega, Int.gcd_one_right _⟩

set_option maxRecDepth 100000 in
set_option maxHeartbeats 2000000 in
theorem refValue_any {ds : List DeclD} {ms : List MeaningD} {i : Nat} {ss : List Int} (x : NodeD) (s : Int) (vs : List ValueD) (A1 A2 A3 : Option Addr) (n1 c1 n2 c2 n3 c3 : Nat) (AM : Option Addr) (nm cm : Nat) (K : Option Addr) (kn kc : Nat) (AK : Option Addr) (nk ck : Nat) (S0 : Nat → Prop) (Bm : Nat) (w : World)
    (hds : ArrB AtDecl 3 w w.heap.size A1 n1 ds) (hn1 : n1 ≤ 9223372036854775807) (hms : ArrB AtMeaning 5 w Bm AM nm ms) (hBm : ∀ b, b < Bm → S0 b) (hBw : Bm ≤ w.heap.size) (hmo : MeansOk ds ms) (hx : NodeOk ds i ss x s) (hg : GoodL (kidSorts ss x) vs) (hvs : Arr AtValue 4 w S0 AK nk vs) (hS0 : ∀ b, S0 b → b < w.heap.size) :
    Calls Tryz.prog 17 #[.agg #[.slice A1 n1 c1, .slice A2 n2 c2, .slice A3 n3 c3], .agg #[.slice AM nm cm], .agg #[.int .i64 x.op, .slice K kn kc, .int .i64 x.n, .int .i64 x.d, .string x.name], .int .i64 s, .slice AK nk ck] w
      (ValueP S0 w (valF ds ms x (bitsF s (kidSorts ss x)) vs)) := by
  have hr := hx.ready (ms := ms) hg
  have hl := hvs.len
  have h8 : nk ≤ 8 := by have := hx.kids.2; have := hg.len; have := kidSorts_len ss x; omega
  have h9 : x.op = 9 → ∃ k : Nat, idx (nameIs x.name) ds 0 = k ∧ ms[k]? = some (meanAt ms ds x.name) ∧ (meanAt ms ds x.name).rows.length ≤ 1000 ∧ (∀ e ∈ (meanAt ms ds x.name).rows, e.args.length = vs.length) := fun e9 => by
    obtain ⟨k, hk, hm, hme⟩ := meanAt_ok hmo (hx.nam e9)
    obtain ⟨m1, m2, m3⟩ := meaningF_ok hme
    have ha := (hx.args e9).1
    have hgl := hg.len
    have hkl := kidSorts_len ss x
    exact ⟨k, hk, hm, m1, fun e he => by have := (m2 e he).1; omega⟩
  generalize htold : toldF vs (meanAt ms ds x.name).rest (meanAt ms ds x.name).rows = told at hr
  generalize valF ds ms x (bitsF s (kidSorts ss x)) vs = r at hr ⊢
  generalize bitsF s (kidSorts ss x) = b at hr ⊢
  generalize x.op = op at hr h9 ⊢
  clear hg hx hmo
  cases hr with
  | yes =>
    obtain rfl : nk = 0 := by simpa using hl.symm
    exact ref_1 A1 A2 A3 n1 c1 n2 c2 n3 c3 AM nm cm s K kn kc x.n x.d x.name AK ck S0 w hvs hS0
  | no =>
    obtain rfl : nk = 0 := by simpa using hl.symm
    exact ref_2 A1 A2 A3 n1 c1 n2 c2 n3 c3 AM nm cm s K kn kc x.n x.d x.name AK ck S0 w hvs hS0
  | not_ u hu =>
    obtain rfl : nk = 1 := by simpa using hl.symm
    exact ref_3 A1 A2 A3 n1 c1 n2 c2 n3 c3 AM nm cm s K kn kc x.n x.d x.name AK ck u S0 w hvs hS0
  | and_ _ hv => exact ref_4 A1 A2 A3 n1 c1 n2 c2 n3 c3 AM nm cm s K kn kc x.n x.d x.name AK ck nk vs S0 w hvs hS0 (by omega) hv
  | or_ _ hv => exact ref_5 A1 A2 A3 n1 c1 n2 c2 n3 c3 AM nm cm s K kn kc x.n x.d x.name AK ck nk vs S0 w hvs hS0 (by omega)
  | iff_ u v hu hv =>
    obtain rfl : nk = 2 := by simpa using hl.symm
    have hden : (u.den == v.den) = true := by rcases hu with e | e <;> rcases hv with e2 | e2 <;> rw [e, e2] <;> rfl
    cases hq1 : (u.num == v.num) with
    | false =>
      have : (isOne u == isOne v) = false := by
        rcases hu with e | e <;> rcases hv with e2 | e2 <;> subst e e2 <;> first | rfl | (exact absurd hq1 (by decide))
      rw [this]
      exact ref_6a A1 A2 A3 n1 c1 n2 c2 n3 c3 AM nm cm s K kn kc x.n x.d x.name AK ck u v S0 w hvs hS0 hq1
    | true =>
      have : (isOne u == isOne v) = true := by
        rcases hu with e | e <;> rcases hv with e2 | e2 <;> subst e e2 <;> first | rfl | (exact absurd hq1 (by decide))
      rw [this]
      exact ref_6c A1 A2 A3 n1 c1 n2 c2 n3 c3 AM nm cm s K kn kc x.n x.d x.name AK ck u v S0 w hvs hS0 hq1 hden
  | pick u v y =>
    obtain rfl : nk = 3 := by simpa using hl.symm
    cases hq : isOne u with
    | true => exact ref_7a A1 A2 A3 n1 c1 n2 c2 n3 c3 AM nm cm s K kn kc x.n x.d x.name AK ck u v y S0 w hvs hS0 hq
    | false => exact ref_7b A1 A2 A3 n1 c1 n2 c2 n3 c3 AM nm cm s K kn kc x.n x.d x.name AK ck u v y S0 w hvs hS0 hq
  | same u v =>
    obtain rfl : nk = 2 := by simpa using hl.symm
    cases hq1 : (u.num == v.num) with
    | false => exact ref_8a A1 A2 A3 n1 c1 n2 c2 n3 c3 AM nm cm s K kn kc x.n x.d x.name AK ck u v S0 w hvs hS0 hq1
    | true =>
      cases hq2 : (u.den == v.den) with
      | false => exact ref_8b A1 A2 A3 n1 c1 n2 c2 n3 c3 AM nm cm s K kn kc x.n x.d x.name AK ck u v S0 w hvs hS0 hq1 hq2
      | true => exact ref_8c A1 A2 A3 n1 c1 n2 c2 n3 c3 AM nm cm s K kn kc x.n x.d x.name AK ck u v S0 w hvs hS0 hq1 hq2
  | name_ _ =>
    obtain ⟨k, hk, hm, m1, m2⟩ := h9 rfl
    rw [← htold]
    exact ref_9 A1 A2 A3 n1 c1 n2 c2 n3 c3 AM nm cm s K kn kc x.n x.d x.name AK ck nk vs ds ms k _ Bm S0 w hvs hS0 (by omega) hds hn1 hk hms hBm hBw hm m1 m2
  | num_ =>
    obtain rfl : nk = 0 := by simpa using hl.symm
    exact ref_10 A1 A2 A3 n1 c1 n2 c2 n3 c3 AM nm cm s K kn kc x.n x.d x.name AK ck S0 w hvs hS0
  | add_ _ hv => exact ref_11 A1 A2 A3 n1 c1 n2 c2 n3 c3 AM nm cm s K kn kc x.n x.d x.name AK ck nk vs _ S0 w hvs hS0 (by omega) hv rfl
  | times u hu hn =>
    obtain rfl : nk = 1 := by simpa using hl.symm
    exact ref_12 A1 A2 A3 n1 c1 n2 c2 n3 c3 AM nm cm s K kn kc x.n x.d x.name AK ck u _ S0 w hvs hS0 hu hn rfl
  | less u v hu hv =>
    obtain rfl : nk = 2 := by simpa using hl.symm
    exact ref_13 A1 A2 A3 n1 c1 n2 c2 n3 c3 AM nm cm s K kn kc x.n x.d x.name AK ck u v S0 w hvs hS0 hu hv
  | most u v hu hv =>
    obtain rfl : nk = 2 := by simpa using hl.symm
    exact ref_14 A1 A2 A3 n1 c1 n2 c2 n3 c3 AM nm cm s K kn kc x.n x.d x.name AK ck u v S0 w hvs hS0 hu hv
  | word h1 h8' hn0 hn =>
    obtain rfl : nk = 0 := by simpa using hl.symm
    exact ref_15 A1 A2 A3 n1 c1 n2 c2 n3 c3 AM nm cm s K kn kc x.n x.d x.name AK ck S0 w hvs hS0
  | wnot u h1 h8' hs hn hu =>
    obtain rfl : nk = 1 := by simpa using hl.symm
    rw [hn]
    exact ref_word1 A1 A2 A3 n1 c1 n2 c2 n3 c3 AM nm cm s K kn kc 0 x.d x.name AK ck u 16 b S0 w hvs hS0 h1 h8' hs (by omega) _ fun W => wordOp_16 b u.num 0 0 _ W h1 h8' hu.lo hu.hi rfl
  | word2 _ u v hop h1 h8' hs hn hu hv =>
    obtain rfl : nk = 2 := by simpa using hl.symm
    rw [hn]
    refine ref_word2 A1 A2 A3 n1 c1 n2 c2 n3 c3 AM nm cm s K kn kc 0 x.d x.name AK ck u v op b S0 w hvs hS0 h1 h8' hs (by rcases hop with h | h | h | h | h <;> rw [h] <;> decide) _ fun W => ?_
    rcases hop with rfl | rfl | rfl | rfl | rfl
    · exact wordOp_17 b u.num v.num 0 _ W h1 h8' hu.lo hu.hi hv.lo hv.hi rfl
    · exact wordOp_18 b u.num v.num 0 _ W h1 h8' hu.lo hu.hi hv.lo hv.hi rfl
    · exact wordOp_19 b u.num v.num 0 _ W h1 h8' hu.lo hu.hi hv.lo hv.hi rfl
    · exact wordOp_20 b u.num v.num 0 _ W h1 h8' hu.lo hu.hi hv.lo hv.hi rfl
    · exact wordOp_21 b u.num v.num 0 _ W h1 h8' hu.lo hu.hi hv.lo hv.hi rfl
  | wless u v h1 h8' hn hu hv =>
    obtain rfl : nk = 2 := by simpa using hl.symm
    obtain ⟨g1, d1⟩ := word_frac h1 h8' hu
    obtain ⟨g2, d2⟩ := word_frac h1 h8' hv
    have e : numV (wordF 22 b u.num v.num 0) = bitV (lessQ (qOf u) (qOf v)) := by
      rw [lessQ, qOf, qOf]
      dsimp only
      rw [d1, d2, Int.mul_one, Int.mul_one]
      simp [wordF, bitV]
    rw [e]
    exact ref_22 A1 A2 A3 n1 c1 n2 c2 n3 c3 AM nm cm s K kn kc x.n x.d x.name AK ck u v S0 w hvs hS0 g1 g2
  | wleft u h1 h8' hs hn0 hn hu =>
    obtain rfl : nk = 1 := by simpa using hl.symm
    exact ref_word1 A1 A2 A3 n1 c1 n2 c2 n3 c3 AM nm cm s K kn kc x.n x.d x.name AK ck u 23 b S0 w hvs hS0 h1 h8' hs (by omega) _ fun W => wordOp_23 b u.num 0 x.n _ W h1 h8' hu.lo hu.hi hn0 hn rfl
  | get_ u v hu hv =>
    obtain rfl : nk = 2 := by simpa using hl.symm
    exact ref_24 A1 A2 A3 n1 c1 n2 c2 n3 c3 AM nm cm s K kn kc x.n x.d x.name AK ck u v S0 w hvs hS0 (by have := goodV_cells hu; omega)
  | put_ u v y hu hv hy =>
    obtain rfl : nk = 3 := by simpa using hl.symm
    rw [← (put_good hv hy hu).2]
    exact ref_25 A1 A2 A3 n1 c1 n2 c2 n3 c3 AM nm cm s K kn kc x.n x.d x.name AK ck u v y S0 w hvs hS0 (by have := goodV_cells hu; omega)
end Go.Proofs.YtggkfepifnfdoaaGreat
