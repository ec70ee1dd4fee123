/- Plain: what a form without a fault is like; what commands keep. No program is named here. -/
import Derived.Test.YthjfiomcpihlaaaFr
import Derived.Test.YthjfiomcpihlaaaRow2
namespace Go.Proofs.Ythjfiomcpihlaaa
open Go.RowKit

theorem firstBad_zero {α : Type} {f : α → Int → Int} : ∀ {l : List α} {i : Int}, (firstBad f l i).1 = 0 ↔ ∀ (k : Nat) (x : α), l[k]? = some x → f x (i + k) = 0
  | [], i => by simp [firstBad]
  | y :: r, i => by
    rw [firstBad]
    constructor
    · intro h k x hx
      split at h
      · rename_i h0
        rcases k with _ | k
        · simp only [List.getElem?_cons_zero, Option.some.injEq] at hx
          subst hx
          simpa using h0
        · have := (firstBad_zero (l := r) (i := i + 1)).1 h k x (by simpa using hx)
          rw [show i + ((k + 1 : Nat) : Int) = i + 1 + (k : Int) from by omega]
          exact this
      · rename_i h0
        exact absurd h h0
    · intro h
      have h0 := h 0 y rfl
      rw [show i + ((0 : Nat) : Int) = i from by omega] at h0
      rw [if_pos h0]
      refine (firstBad_zero (l := r) (i := i + 1)).2 (fun k x hx => ?_)
      have := h (k + 1) x (by simpa using hx)
      rwa [show i + ((k + 1 : Nat) : Int) = i + 1 + (k : Int) from by omega] at this
theorem cnfF_zero {v : Int} {l : List (List Int)} : (cnfF v l).1 = 0 ↔ l.length ≤ 400 ∧ ∀ c ∈ l, clauseCode v c = 0 := by
  rw [cnfF]
  by_cases h : 400 < l.length
  · rw [if_pos h]; simp; omega
  · rw [if_neg h, firstBad_zero]
    constructor
    · exact fun hk => ⟨by omega, fun c hc => by obtain ⟨k, hk', rfl⟩ := List.mem_iff_getElem.1 hc; exact hk k _ (List.getElem?_eq_getElem hk')⟩
    · exact fun hk k x hx => hk.2 x (List.mem_of_getElem? hx)
theorem clauseCode_wide {v : Int} {c : List Int} (h : clauseCode v c = 0) : c.length ≤ 24 := by
  rw [clauseCode] at h
  split at h
  · simp at h
  · omega
theorem termsF_kids {ts : List TermD} (h : (termsF ts).1 = 0) : ∀ t ∈ ts, t.kids.length ≤ 8 := by
  intro t ht
  rw [termsF] at h
  split at h
  · simp at h
  · obtain ⟨k, hk, rfl⟩ := List.mem_iff_getElem.1 ht
    have := firstBad_zero.1 h k _ (List.getElem?_eq_getElem hk)
    rw [termCode] at this
    split at this
    · simp at this
    · split at this
      · simp at this
      · omega
theorem atomCode_of {x : AtomD} {nt ni : Int} (h0 : 0 ≤ ni) (h : atomCode x nt ni = 0) : (x.row.of_.length : Int) ≤ ni := by
  unfold atomCode at h
  by_cases c1 : x.kind < 1 ∨ 3 < x.kind
  · rw [if_pos c1] at h; simp at h
  rw [if_neg c1] at h
  by_cases c2 : (¬ x.kind = 2 ∧ (¬ x.a = 0 ∨ ¬ x.b = 0)) ∨ (¬ x.kind = 3 ∧ (0 < x.row.of_.length ∨ ¬ x.row.kind = 0 ∨ ¬ x.row.to_ = 0))
  · rw [if_pos c2] at h; simp at h
  rw [if_neg c2] at h
  by_cases c3 : x.kind = 2 ∧ (x.a < 0 ∨ x.b ≤ x.a ∨ nt ≤ x.b)
  · rw [if_pos c3] at h; simp at h
  rw [if_neg c3] at h
  by_cases c4 : x.kind = 3
  · rw [if_pos c4] at h
    rw [rowCode, rowF] at h
    split at h
    · simp at h
    · split at h
      · simp at h
      · omega
  · have : ¬ 0 < x.row.of_.length := fun e => c2 (.inr ⟨c4, .inl e⟩)
    omega

/-- a form without a fault -/
structure Fine (F : FormD) : Prop where
  terms : F.terms.length ≤ 60
  kids : ∀ t ∈ F.terms, t.kids.length ≤ 8
  ints : F.ints.length ≤ 12
  atoms : F.atoms.length ≤ 120
  rows : ∀ x ∈ F.atoms, x.row.of_.length ≤ 12
  cnf : (cnfF F.atoms.length F.clauses).1 = 0
theorem fine_of {F : FormD} (h : (formF F).1 = 0) : Fine F := by
  obtain ⟨ts, is_, as_, cc⟩ := F
  simp only [formF] at h
  by_cases h1 : (termsF ts).1 = 0
  · rw [if_pos h1] at h
    by_cases h2 : 12 < is_.length ∨ 120 < as_.length
    · rw [if_pos h2] at h; simp at h
    · rw [if_neg h2] at h
      by_cases h3 : (atomsF ⟨ts, is_, as_, cc⟩).1 = 0
      · rw [if_pos h3] at h
        have ht : ts.length ≤ 60 := by
          rw [termsF] at h1
          split at h1
          · simp at h1
          · omega
        refine ⟨ht, termsF_kids h1, by simp; omega, by simp; omega, fun x hx => ?_, h⟩
        obtain ⟨k, hk, rfl⟩ := List.mem_iff_getElem.1 hx
        have := firstBad_zero.1 h3 k _ (List.getElem?_eq_getElem hk)
        have h5 : (as_[k].row.of_.length : Int) ≤ is_.length := atomCode_of (by omega) this
        show as_[k].row.of_.length ≤ 12
        omega
      · rw [if_neg h3] at h; exact absurd h h3
  · rw [if_neg h1] at h; exact absurd h h1

/-- what every good command keeps: the clauses are good -/
def Held (F : FormD) (r : List Cl) (last : Cl) : Prop := (cnfF F.atoms.length (F.clauses ++ clOf r last)).1 = 0
theorem stepF_held {F : FormD} {d : TermD} {r : List Cl} {last : Cl} (h : Held F r last) (h0 : (stepF F d r last).1 = 0) : Held F (stepF F d r last).2.1 (stepF F d r last).2.2 := by
  unfold stepF at h0 ⊢
  by_cases c1 : d.head < 1 ∨ 4 < d.head
  · rw [if_pos c1] at h0; simp at h0
  rw [if_neg c1] at h0 ⊢
  by_cases c2 : 0 < d.kids.length ∧ ¬ d.head = 3
  · rw [if_pos c2] at h0; simp at h0
  rw [if_neg c2] at h0 ⊢
  by_cases c3 : d.head = 1
  · rw [if_pos c3] at h0 ⊢
    by_cases c4 : r.length = 20
    · rw [if_pos c4] at h0; simp at h0
    · rw [if_neg c4]
      simp only [Held]
      rw [clOf_push]
      exact h
  rw [if_neg c3] at h0 ⊢
  by_cases c4 : d.head = 2
  · rw [if_pos c4] at h0 ⊢
    cases r with
    | nil => simp at h0
    | cons x r' =>
      simp only [Held]
      rw [Held, cnfF_zero] at h
      rw [cnfF_zero]
      have e := clOf_pop x r' last
      have hl : (clOf r' x).length ≤ (clOf (x :: r') last).length := by rw [← e]; simp; omega
      refine ⟨by have := h.1; simp at this ⊢; omega, fun c hc => h.2 c ?_⟩
      rcases List.mem_append.1 hc with hc | hc
      · exact List.mem_append_left _ hc
      · rw [← e] at hc
        exact List.mem_append_right _ (List.mem_of_mem_take hc)
  rw [if_neg c4] at h0 ⊢
  by_cases c5 : d.head = 3
  · rw [if_pos c5] at h0 ⊢
    exact h0
  · rw [if_neg c5]
    exact h
theorem playF_held {F : FormD} : ∀ (l : List TermD) (i : Int) (r : List Cl) (last : Cl), Held F r last → (playF F l i r last).1.1 = 0 → Held F (playF F l i r last).2.1 (playF F l i r last).2.2
  | [], _, _, _, h, _ => h
  | d :: l, i, r, last, h, h0 => by
    rw [playF] at h0 ⊢
    by_cases hc : (stepF F d r last).1 = 0
    · rw [if_pos hc] at h0 ⊢
      exact playF_held l _ _ _ (stepF_held h hc) h0
    · rw [if_neg hc] at h0
      exact absurd h0 hc
def playRes (F : FormD) (l : List TermD) : (Int × Int) × List Cl × Cl :=
  if ¬ (formF F).1 = 0 then (formF F, [], []) else if 40 < l.length then ((2, -1), [], []) else playF F l 0 [] []
theorem playRes_fine {F : FormD} {l : List TermD} (h : (playRes F l).1.1 = 0) : Fine F ∧ Held F (playRes F l).2.1 (playRes F l).2.2 := by
  unfold playRes at h ⊢
  by_cases h1 : (formF F).1 = 0
  · rw [if_neg (by simpa using h1)] at h ⊢
    by_cases h2 : 40 < l.length
    · rw [if_pos h2] at h; simp at h
    · rw [if_neg h2] at h ⊢
      have hf := fine_of h1
      exact ⟨hf, playF_held l 0 [] [] (by rw [Held]; simpa [clOf] using hf.cnf) h⟩
  · rw [if_pos h1] at h; exact absurd h h1
end Go.Proofs.Ythjfiomcpihlaaa
