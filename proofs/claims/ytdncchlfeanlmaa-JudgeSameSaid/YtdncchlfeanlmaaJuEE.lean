/- judge.step at any step: what stepJ says. No walk. -/
import Derived.Test.YtdncchlfeanlmaaJuEX
import Derived.Test.YtdncchlfeanlmaaJuEY
import Derived.Test.YtdncchlfeanlmaaJuF5
import Derived.Test.YtdncchlfeanlmaaJuEP
import Derived.Test.YtdncchlfeanlmaaJuCS
import Derived.Test.YtdncchlfeanlmaaJuEF
import Derived.Test.YtdncchlfeanlmaaJuKL
namespace Go.Proofs.Ytdncchlfeanlmaa
open Go.RowKit

/-- a step in memory: its nine values, all that they lead to below B -/
structure StepIn (w : World) (B : Nat) (v : Value) (x : StepD) : Prop where
  vals : ∃ (L : Option Addr) (nl cl : Nat) (M : Option Addr) (nm cm : Nat) (O : Option Addr) (no co : Nat),
    v = .agg #[.int .i64 x.kind, .slice L nl cl, .slice M nm cm, .int .i64 x.atom.kind, .int .i64 x.atom.a, .int .i64 x.atom.b, .slice O no co, .int .i64 x.atom.row.kind, .int .i64 x.atom.row.to_] ∧
    IntsB w B L nl x.lits ∧ nl ≤ cl ∧ cl ≤ maxLen ∧ ArrB AtFrac 2 w B M nm x.nums ∧ IntsB w B O no x.atom.row.of_ ∧ no ≤ co ∧ co ≤ maxLen
  i64 : I64 x.atom.kind ∧ I64 x.atom.a ∧ I64 x.atom.b ∧ I64 x.atom.row.kind ∧ I64 x.atom.row.to_
theorem StepIn.below {w w' : World} {B : Nat} {v : Value} {x : StepD} (h : StepIn w B v x) (hb : Below B w w') : StepIn w' B v x := by
  obtain ⟨⟨L, nl, cl, M, nm, cm, O, no, co, e, h1, h2, h3, h4, h5, h6, h7⟩, hi⟩ := h
  exact ⟨⟨L, nl, cl, M, nm, cm, O, no, co, e, h1.below stays_int hb (Nat.le_refl _), h2, h3, h4.below stays_frac hb (Nat.le_refl _), h5.below stays_int hb (Nat.le_refl _), h6, h7⟩, hi⟩

theorem StepIn.mono {w : World} {B B' : Nat} {v : Value} {x : StepD} (h : StepIn w B v x) (hB : B ≤ B') : StepIn w B' v x := by
  obtain ⟨⟨L, nl, cl, M, nm, cm, O, no, co, e, h1, h2, h3, h4, h5, h6, h7⟩, hi⟩ := h
  have hk : ∀ b, b < B → b < B' := fun b hb => Nat.lt_of_lt_of_le hb hB
  exact ⟨⟨L, nl, cl, M, nm, cm, O, no, co, e, h1.keep stays_int hk (fun _ _ _ => rfl), h2, h3, h4.keep stays_frac hk (fun _ _ _ => rfl), h5.keep stays_int hk (fun _ _ _ => rfl), h6, h7⟩, hi⟩
/-- what a step comes to -/
def StepP (B G : Nat) (A1 : Option Addr) (c1 : Nat) (A2 : Option Addr) (c2 : Nat) (vF : Value) (ts : List TermD) (ints : List Bool) (s : JSt) (x : StepD) (w : World) (e : Ending) (w' : World) : Prop :=
  Below B w w' ∧ ((stepJ ts ints s x = none ∧ e = .returned (.bool false)) ∨ ∃ s' vA' vC', stepJ ts ints s x = some s' ∧ e = .returned (.bool true) ∧ JudgeM w' B G A1 c1 A2 c2 vF vA' vC' ts ints s')
theorem stepP_of {B G : Nat} {A1 : Option Addr} {c1 : Nat} {A2 : Option Addr} {c2 : Nat} {vF : Value} {ts : List TermD} {ints : List Bool} {s s' : JSt} {x : StepD} {w : World} {R : Bool} (hs : stepJ ts ints s x = if R = true then some s' else none) {e : Ending} {w' : World}
    (h : e = .returned (.bool R) ∧ Below B w w' ∧ (R = true → ∃ vA' vC', JudgeM w' B G A1 c1 A2 c2 vF vA' vC' ts ints s')) : StepP B G A1 c1 A2 c2 vF ts ints s x w e w' := by
  obtain ⟨he, hb, hk⟩ := h
  refine ⟨hb, ?_⟩
  cases R with
  | false => exact .inl ⟨by rw [hs]; rfl, he⟩
  | true =>
    obtain ⟨vA', vC', hj⟩ := hk rfl
    exact .inr ⟨s', vA', vC', by rw [hs]; rfl, he, hj⟩

theorem step_any (B G : Nat) (A1 : Option Addr) (c1 : Nat) (A2 : Option Addr) (c2 : Nat) (vF vA vC : Value) (ts : List TermD) (ints : List Bool) (s : JSt) (m : Nat) (v : Value) (x : StepD) (w : World)
    (h : JudgeM w B G A1 c1 A2 c2 vF vA vC ts ints s) (hi : JInv ts ints s m) (hm : m ≤ 4000) (hx : StepIn w B v x) (hVF : ∃ A5 n5 c5, vF = .slice A5 n5 c5) :
    Calls Try.prog 18 #[.pointer (some ⟨G, 0, none⟩), v] w (StepP B G A1 c1 A2 c2 vF ts ints s x w) := by
  obtain ⟨kd, lits, nums, ⟨ak, aa, ab, ⟨of_, rk, rt⟩⟩⟩ := x
  obtain ⟨⟨L, nl, cl, M, nm, cm, O, no, co, rfl, h1, h2, h3, h4, h5, h6, h7⟩, hI⟩ := hx
  dsimp only at h1 h4 h5 hI ⊢
  have hBw := h.hBw
  have hnl := h1.len
  have hnm := h4.len
  have hno := h5.len
  have hmax : nl ≤ 9223372036854775807 := by unfold maxLen at h3; omega
  have hcn : s.cls.length ≤ 100000 := Nat.le_trans hi.lc (by omega)
  by_cases hf : formedF s.atoms.length ⟨kd, lits, nums, ⟨ak, aa, ab, ⟨of_, rk, rt⟩⟩⟩ = false
  · refine (stepU_any B G A1 c1 A2 c2 vF vA vC ts ints s kd L nl cl lits M nm cm nums ak aa ab O no co of_ rk rt w h h1 hmax h2 h3 hnm hno hcn hf).mono ?_
    rintro e w' ⟨rfl, hb⟩
    exact ⟨hb.mono hBw, .inl ⟨stepJ_not hf, rfl⟩⟩
  · have hf : formedF s.atoms.length ⟨kd, lits, nums, ⟨ak, aa, ab, ⟨of_, rk, rt⟩⟩⟩ = true := by simpa using hf
    have hg := formed_good hf
    have hlen := hg.len
    dsimp only at hg hlen
    have hla := hi.la
    have hn1 : nl ≤ 1000 := by omega
    have hk : 1 ≤ kd ∧ kd ≤ 6 := by
      have := hf
      unfold formedF at this
      simp only [Bool.and_eq_true, decide_eq_true_eq] at this
      omega
    rcases (by omega : kd = 1 ∨ kd = 2 ∨ kd = 3 ∨ kd = 4 ∨ kd = 5 ∨ kd = 6) with rfl | rfl | rfl | rfl | rfl | rfl
    · refine (stepK1_any B G A1 c1 A2 c2 vF vA vC ts ints s L nl cl lits M nm cm nums ak aa ab O no co of_ rk rt w h h1 hn1 h2 h3 hnm hno hcn hf (clashB s.cls (lits.map fun l => -l)) (fun W A3 c3 hC hL => falls_any A3 s.cls.length c3 s.cls L nl cl lits W hC (by omega) hi.clean hi.tame (hi.flat hm) hL hn1 (fun x hx => by obtain ⟨_, _, _⟩ := hg.1 x hx; omega))).mono ?_
      rintro e w' ⟨rfl, hb, hk⟩
      exact stepP_of (stepJ_test hf (by simp) (by simp) (if_pos rfl)) ⟨rfl, hb, fun e => by obtain ⟨vC', hj⟩ := hk e; exact ⟨_, _, hj⟩⟩
    · refine (stepK2_any B G A1 c1 A2 c2 vF vA vC ts ints s L nl cl lits M nm cm nums ak aa ab O no co of_ rk rt w h h1 hn1 h2 h3 hnm hno hcn hf (fun c hc => by have := (hi.gc c hc).len; omega)).mono ?_
      rintro e w' ⟨rfl, hb, hk⟩
      exact stepP_of (stepJ_drop hf rfl) ⟨rfl, hb, fun e => by obtain ⟨vC', hj⟩ := hk e; exact ⟨_, _, hj⟩⟩
    · refine (stepK3_any B G A1 c1 A2 c2 vF vA vC ts ints s L nl cl lits M nm cm nums ak aa ab O no co of_ rk rt w h h1 hn1 h2 h3 hnm hno hcn hf (sameF ts s.atoms lits) (fun W A3 c3 hS hL => jsame_any W.heap.size G A1 A2 A3 c1 c2 c3 ts ints s.atoms L nl cl lits W hS hL hg.1 hn1 hi.gt hi.gs (by have := hi.lt; omega))).mono ?_
      rintro e w' ⟨rfl, hb, hk⟩
      exact stepP_of (stepJ_test hf (by simp) (by simp) (by rw [if_neg (by simp), if_pos rfl])) ⟨rfl, hb, fun e => by obtain ⟨vC', hj⟩ := hk e; exact ⟨_, _, hj⟩⟩
    · refine (stepK4_any B G A1 c1 A2 c2 vF vA vC ts ints s L nl cl lits M nm cm nums ak aa ab O no co of_ rk rt w h h1 h4 hn1 h2 h3 hnm hno hcn hf (rowsF ints.length s.atoms lits nums) (fun W A3 c3 hS hL hN => jrows_any W.heap.size G A1 A2 A3 c1 c2 c3 ts ints s.atoms 4 L nl cl lits M nm cm nums ak aa ab O no co rk rt W hS hL hg.1 hn1 hN hi.gr (by have := hi.li; omega))).mono ?_
      rintro e w' ⟨rfl, hb, hk⟩
      exact stepP_of (stepJ_test hf (by simp) (by simp) (by rw [if_neg (by simp), if_neg (by simp), if_pos rfl])) ⟨rfl, hb, fun e => by obtain ⟨vC', hj⟩ := hk e; exact ⟨_, _, hj⟩⟩
    · refine (stepK5_any B G A1 c1 A2 c2 vF vA vC ts ints s L nl cl lits M nm cm nums ak aa ab O no co of_ rk rt w h h1 hn1 h2 hnm h5 h6 h7 hVF hI hi.li hf _ rfl).mono ?_
      rintro e w' ⟨rfl, hb, hk⟩
      exact stepP_of (stepJ_atom hf rfl) ⟨rfl, hb, fun e => by obtain ⟨vA', hj⟩ := hk e; exact ⟨_, _, hj⟩⟩
    · refine (stepK6_any B G A1 c1 A2 c2 vF vA vC ts ints s L nl cl lits M nm cm nums ak aa ab O no co of_ rk rt w h h1 hn1 h2 h3 hnm hno hcn hf (gapF ints s.atoms lits) (fun W A3 c3 hS hL => jgap_any W.heap.size G A1 A2 A3 c1 c2 c3 ts ints s.atoms L nl cl lits W hS hL hg.1 hn1 hi.gr (by have := hi.li; omega))).mono ?_
      rintro e w' ⟨rfl, hb, hk⟩
      exact stepP_of (stepJ_test hf (by simp) (by simp) (by rw [if_neg (by simp), if_neg (by simp), if_neg (by simp)])) ⟨rfl, hb, fun e => by obtain ⟨vC', hj⟩ := hk e; exact ⟨_, _, hj⟩⟩
end Go.Proofs.Ytdncchlfeanlmaa
