/- Plain: what a form and a model without a fault are. No program is named here. · Walk: form.Holds. -/
import Derived.Test.YtkkpfdfoojcljaaGreatLhPQ
namespace Go.Proofs.YtkkpfdfoojcljaaGreat
open Go.RowKit

theorem firstBad_mem {α : Type} {f : α → Int → Int} : ∀ (l : List α) (i : Int), (firstBad f l i).1 = 0 → ∀ x ∈ l, ∃ j, i ≤ j ∧ j < i + l.length ∧ f x j = 0
  | [], _, _, x, hx => by simp at hx
  | y :: r, i, h, x, hx => by
    have h3 : f y i = 0 := by
      rw [firstBad] at h
      by_cases hy : f y i = 0
      · exact hy
      · rw [if_neg hy] at h; exact h
    rcases List.mem_cons.1 hx with rfl | hx
    · exact ⟨i, Int.le_refl _, by simp only [List.length_cons]; omega, h3⟩
    · rw [firstBad, if_pos h3] at h
      obtain ⟨j, h4, h5, h6⟩ := firstBad_mem r (i + 1) h x hx
      exact ⟨j, by omega, by simp only [List.length_cons]; omega, h6⟩
theorem badL_lits {v : Int} : ∀ (l pre : List Int) (i : Int), (badL v pre l i).2 = 0 → ∀ x ∈ l, ¬ x = 0 ∧ -v ≤ x ∧ x ≤ v
  | [], _, _, _, x, hx => by simp at hx
  | y :: r, pre, i, h, x, hx => by
    rw [badL] at h
    split at h
    · simp at h
    rename_i hy
    split at h
    · simp at h
    rcases List.mem_cons.1 hx with rfl | hx
    · simp only [litBad, decide_eq_true_eq] at hy; omega
    · exact badL_lits r _ _ h x hx
theorem rowCode_zero {r : RowD} {m : Int} (h : rowCode r m = 0) : rowF r m = (0, 0) := by
  have key : ∀ (l : List Int) (i : Int), (firstBad (fun x _ => wholeC x) l i).1 = 0 → firstBad (fun x _ => wholeC x) l i = (0, 0) := by
    intro l
    induction l with
    | nil => intro i _; rfl
    | cons y r ih =>
      intro i h
      rw [firstBad] at h ⊢
      by_cases hy : wholeC y = 0
      · rw [if_pos hy] at h ⊢; exact ih _ h
      · rw [if_neg hy] at h; exact absurd h hy
  unfold rowCode at h
  unfold rowF at h ⊢
  split at h
  · simp at h
  rename_i h1
  rw [if_neg h1]
  split at h
  · simp at h
  rename_i h2
  rw [if_neg h2]
  exact key _ _ h
/-- a form and a model that fits it -/
structure FitOk (F : FormD) (M : ModelD) : Prop where
  nt : F.terms.length ≤ 60
  ni : F.ints.length ≤ 12
  na : F.atoms.length ≤ 120
  lh : M.holds.length = F.atoms.length
  lt : M.things.length = F.terms.length
  ln : M.nums.length = F.ints.length
  terms : ∀ t ∈ F.terms, t.kids.length ≤ 8 ∧ ∀ x ∈ t.kids, 0 ≤ x ∧ x < (F.terms.length : Int)
  atoms : ∀ x ∈ F.atoms, AtomOk F.terms.length F.ints.length x
  nums : ∀ y ∈ M.nums, fracGood y.num y.den = true
  nc : F.clauses.length ≤ 400
  cls : ∀ l ∈ F.clauses, l.length ≤ 24 ∧ ∀ x ∈ l, LitOk F.atoms.length x
theorem fits_ok {F : FormD} {M : ModelD} (h : fitsF F M = (0, 0)) : FitOk F M := by
  unfold fitsF at h
  split at h
  rotate_left
  · rename_i h1; rw [h] at h1; exact absurd rfl h1
  rename_i hform
  obtain ⟨nt, ni, na⟩ := formF_small hform
  unfold fitsOnly at h
  split at h
  · simp at h
  rename_i lh
  split at h
  · simp at h
  rename_i lt
  split at h
  · simp at h
  rename_i ln
  split at h
  · simp at h
  split at h
  · simp at h
  rename_i hnum
  have hany := idx_any fracBad M.nums 0 (by omega)
  rw [decide_eq_false hnum] at hany
  unfold formF at hform
  split at hform
  rotate_left
  · rename_i h1; exact absurd hform h1
  rename_i hterms
  split at hform
  · simp at hform
  split at hform
  rotate_left
  · rename_i h1; exact absurd hform h1
  rename_i hatoms
  unfold cnfF at hform
  split at hform
  · simp at hform
  rename_i hnc
  unfold termsF at hterms
  rw [if_neg (by omega)] at hterms
  refine ⟨nt, ni, na, by omega, by omega, by omega, fun t ht => ?_, fun x hx => ?_, fun y hy => ?_, by omega, fun l hl => ?_⟩
  · obtain ⟨j, h1, h2, h3⟩ := firstBad_mem _ _ hterms t ht
    unfold termCode at h3
    split at h3
    · simp at h3
    split at h3
    · simp at h3
    rename_i h4
    split at h3
    · simp at h3
    rename_i h5
    refine ⟨by omega, fun x hx => ?_⟩
    have h6 : ¬ kidBad j x = true := fun e => h5 (List.any_eq_true.2 ⟨x, hx, e⟩)
    simp only [kidBad, decide_eq_true_eq] at h6
    omega
  · obtain ⟨j, -, -, h3⟩ := firstBad_mem _ _ hatoms x hx
    unfold atomCode at h3
    split at h3
    · simp at h3
    split at h3
    · simp at h3
    split at h3
    · simp at h3
    rename_i h4
    refine ⟨fun e => ?_, fun e => ?_⟩
    · have : ¬ (x.a < 0 ∨ x.b ≤ x.a ∨ (F.terms.length : Int) ≤ x.b) := fun h5 => h4 ⟨e, h5⟩
      omega
    · rw [if_pos e] at h3
      exact rowCode_zero h3
  · have h5 : ¬ fracBad y = true := fun e => by
      have := List.any_eq_true.2 ⟨y, hy, e⟩
      rw [← hany] at this
      exact absurd this (by simp)
    simpa [fracBad] using h5
  · obtain ⟨j, -, -, h3⟩ := firstBad_mem _ _ hform l hl
    unfold clauseCode at h3
    split at h3
    · simp at h3
    rename_i h4
    exact ⟨by omega, badL_lits _ _ _ h3⟩
end Go.Proofs.YtkkpfdfoojcljaaGreat
namespace Go.Proofs.YtkkpfdfoojcljaaGreat
open Go.RowKit

theorem fits_code {F : FormD} {M : ModelD} (h : (fitsF F M).1 = 0) : fitsF F M = (0, 0) := by
  unfold fitsF at h ⊢
  split at h
  · rename_i h1
    rw [if_pos h1]
    unfold fitsOnly at h ⊢
    repeat' split at h
    all_goals first | (simp at h; done) | skip
    rename_i a b c d e
    rw [if_neg a, if_neg b, if_neg c, if_neg d, if_neg e]
  · rename_i h1; exact absurd h h1
/-- whether a model is one of a form, or the fault -/
def holdsF (F : FormD) (M : ModelD) : Bool × Int × Int := if (fitsF F M).1 = 0 then (formH F M, 0, 0) else (false, (fitsF F M).1, (fitsF F M).2)
theorem holds_any (A1 A2 A3 A4 : Option Addr) (n1 c1 n2 c2 n3 c3 n4 c4 : Nat) (B1 B2 B3 : Option Addr) (k1 e1 k2 e2 k3 e3 : Nat) (F : FormD) (M : ModelD) (w : World) (hF : FormB w w.heap.size A1 A2 A3 A4 n1 n2 n3 n4 F) (hM : ModelB w w.heap.size B1 B2 B3 k1 k2 k3 M) (hnc1 : n1 ≤ c1) :
    Calls Tryz.prog 4 #[.agg #[.slice A1 n1 c1, .slice A2 n2 c2, .slice A3 n3 c3, .slice A4 n4 c4], .agg #[.slice B1 k1 e1, .slice B2 k2 e2, .slice B3 k3 e3]] w fun e w' => e = .returned (.tuple #[.bool (holdsF F M).1, .agg #[.int .i64 (holdsF F M).2.1, .int .i64 (holdsF F M).2.2]]) ∧ Below w.heap.size w w' := by
  unfold holdsF
  by_cases hz : (fitsF F M).1 = 0
  · rw [if_pos hz]
    have hfit := fits_code hz
    obtain ⟨nt, ni, na, lh, lt, ln, terms, atoms, nums, nc, cls⟩ := fits_ok hfit
    have l1 := hF.terms.len
    have l2 := hF.ints.len
    have l3 := hF.atoms.len
    have l4 := hF.clauses.len
    have m1 := hM.holds.len
    have m2 := hM.things.len
    have m3 := hM.nums.len
    have e2 : k2 = F.terms.length := by omega
    have e3 : k3 = F.ints.length := by omega
    have e1 : k1 = F.atoms.length := by omega
    exact holdsOk_any A1 A2 A3 A4 n1 c1 n2 c2 n3 c3 n4 c4 B1 B2 B3 k1 _ k2 _ k3 _ F M w hF hM hfit (by omega) (by omega) (by omega) (by omega) (by omega) (by omega) (by omega) hnc1
      (fun t ht => ⟨by have := (terms t ht).1; omega, by rw [e2]; exact (terms t ht).2⟩) (by rw [e2, e3]; exact atoms) nums (fun l hl => ⟨by have := (cls l hl).1; omega, by rw [e1]; exact (cls l hl).2⟩)
  · rw [if_neg hz]
    exact holdsBad_any A1 A2 A3 A4 n1 c1 n2 c2 n3 c3 n4 c4 B1 B2 B3 k1 _ k2 _ k3 _ F M _ _ w hF hM rfl hz
end Go.Proofs.YtkkpfdfoojcljaaGreat
