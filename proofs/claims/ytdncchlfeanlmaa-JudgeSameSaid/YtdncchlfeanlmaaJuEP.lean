/- Plain: what holds of the judge's state from step to step: its atoms and clauses are good. No walk. -/
import Derived.Test.YtdncchlfeanlmaaJuCD
import Derived.Test.YtdncchlfeanlmaaJuXY
import Derived.Test.YtdncchlfeanlmaaJuW
import Derived.Test.YtdncchlfeanlmaaJuIJ
import Derived.Test.YtdncchlfeanlmaaCnfL
import Derived.Test.YtdncchlfeanlmaaJuCS
namespace Go.Proofs.Ytdncchlfeanlmaa
open Go.RowKit

theorem first0_iff {α : Type} {f : α → Int → Int} : ∀ {l : List α} {i : Int}, (firstBad f l i).1 = 0 ↔ ∀ (k : Nat) (x : α), l[k]? = some x → f x (i + k) = 0
  | [], i => by simp [firstBad]
  | y :: r, i => by
    rw [firstBad]
    by_cases h : f y i = 0
    · rw [if_pos h, first0_iff]
      refine ⟨fun hk k x hx => ?_, fun hk k x hx => ?_⟩
      · rcases k with _ | k
        · simp only [List.getElem?_cons_zero, Option.some.injEq] at hx
          subst hx
          simpa using h
        · have := hk k x (by simpa using hx)
          rwa [show i + 1 + (k : Int) = i + ((k + 1 : Nat) : Int) by omega] at this
      · have := hk (k + 1) x (by simpa using hx)
        rwa [show i + ((k + 1 : Nat) : Int) = i + 1 + (k : Int) by omega] at this
    · rw [if_neg h]
      refine ⟨fun h0 => absurd h0 h, fun hk => absurd (by simpa using hk 0 y rfl) h⟩
/-- a clause over so many atoms -/
def GoodC (na : Nat) (c : List Int) : Prop := (∀ l ∈ c, LitIn na l) ∧ c.Pairwise (fun a b => ¬ a.natAbs = b.natAbs)
theorem badL_good {na : Nat} : ∀ (c pre : List Int) (i : Int), (badL na pre c i).2 = 0 → pre.Pairwise (fun a b => ¬ a.natAbs = b.natAbs) → (∀ l ∈ c, LitIn na l) ∧ (pre ++ c).Pairwise (fun a b => ¬ a.natAbs = b.natAbs)
  | [], pre, _, _, hp => ⟨fun l hl => (List.not_mem_nil hl).elim, by rwa [List.append_nil]⟩
  | x :: r, pre, i, h, hp => by
    rw [badL] at h
    by_cases hb : litBad na x = true
    · rw [if_pos hb] at h; cases h
    · rw [if_neg hb] at h
      by_cases ha : pre.any (sameVar x) = true
      · rw [if_pos ha] at h; cases h
      · rw [if_neg ha] at h
        have hx : LitIn na x := by
          simp only [litBad, decide_eq_true_eq] at hb
          refine ⟨fun e => hb (.inl e), by omega, by omega⟩
        have hp' : (pre ++ [x]).Pairwise (fun a b => ¬ a.natAbs = b.natAbs) := by
          rw [List.pairwise_append]
          refine ⟨hp, List.pairwise_singleton _ _, fun a ha' b hb' e => ?_⟩
          rw [List.mem_singleton] at hb'
          subst hb'
          refine ha (List.any_eq_true.2 ⟨a, ha', ?_⟩)
          simp only [sameVar, decide_eq_true_eq]
          omega
        obtain ⟨h1, h2⟩ := badL_good r (pre ++ [x]) (i + 1) h hp'
        refine ⟨fun l hl => ?_, by simpa using h2⟩
        rcases List.mem_cons.1 hl with rfl | hl
        · exact hx
        · exact h1 l hl
theorem goodC_of {na : Nat} {c : List Int} (h : (badL na [] c 0).2 = 0) : GoodC na c := by
  have := badL_good c [] 0 h List.Pairwise.nil
  exact ⟨this.1, by simpa using this.2⟩
theorem GoodC.len {na : Nat} {c : List Int} (h : GoodC na c) : c.length ≤ na := by
  have := vars_few na (c.map Int.natAbs) (fun x hx => by
    obtain ⟨l, hl, rfl⟩ := List.mem_map.1 hx
    obtain ⟨h0, h1, h2⟩ := h.1 l hl
    omega) (by rw [List.Nodup, List.pairwise_map]; exact h.2)
  simpa using this
theorem GoodC.more {na nb : Nat} {c : List Int} (h : GoodC na c) (hn : na ≤ nb) : GoodC nb c := ⟨fun l hl => by obtain ⟨h0, h1, h2⟩ := h.1 l hl; exact ⟨h0, by omega, by omega⟩, h.2⟩
theorem GoodC.clean {na : Nat} {c : List Int} (h : GoodC na c) : CleanC c := ⟨fun h0 => (h.1 0 h0).1 rfl, h.2.imp fun hab e => hab (by rw [e])⟩

/-- what holds of the judge's state; m: at most so many clauses -/
structure JInv (ts : List TermD) (ints : List Bool) (s : JSt) (m : Nat) : Prop where
  gt : GoodTs ts
  lt : ts.length ≤ 60
  li : ints.length ≤ 12
  gs : GoodSame ts.length s.atoms
  gr : GoodRows ints.length s.atoms
  la : s.atoms.length ≤ 120
  gc : ∀ c ∈ s.cls, GoodC s.atoms.length c
  lc : s.cls.length ≤ m
theorem flat_len : ∀ (C : List (List Int)) (k : Nat), (∀ c ∈ C, c.length ≤ k) → C.flatten.length ≤ C.length * k
  | [], _, _ => by simp
  | c :: r, k, h => by
    have h1 := flat_len r k (fun c hc => h c (List.mem_cons_of_mem _ hc))
    have h2 := h c (List.mem_cons_self ..)
    simp only [List.flatten_cons, List.length_append, List.length_cons, Nat.add_mul, Nat.one_mul]
    omega
section
variable {ts : List TermD} {ints : List Bool} {s s' : JSt} {m : Nat} {x : StepD}
theorem JInv.flat (h : JInv ts ints s m) (hm : m ≤ 4000) : s.cls.flatten.length ≤ 1000000 := by
  have h1 := flat_len s.cls 120 (fun c hc => Nat.le_trans (h.gc c hc).len h.la)
  have h2 := h.lc
  have h3 : s.cls.length * 120 ≤ 4000 * 120 := Nat.mul_le_mul_right _ (by omega)
  omega
theorem JInv.tame (h : JInv ts ints s m) : Tame s.cls := fun c hc => ⟨by have := (h.gc c hc).len; have := h.la; omega, fun x hx => by obtain ⟨h0, h1, h2⟩ := (h.gc c hc).1 x hx; have := h.la; omega⟩
theorem JInv.clean (h : JInv ts ints s m) : ∀ c ∈ s.cls, CleanC c := fun c hc => (h.gc c hc).clean
theorem formed_good {na : Nat} (h : formedF na x = true) : GoodC na x.lits := by
  unfold formedF at h
  simp only [Bool.and_eq_true, decide_eq_true_eq] at h
  exact goodC_of h.2
theorem rowOk_of {n : Nat} {r : RowD} (h : rowCode r n = 0) : RowOk n r := by
  unfold rowCode rowF at h
  split at h
  · cases h
  · split at h
    · cases h
    · rename_i h1 h2
      rw [first0_iff] at h
      have hall : ∀ c ∈ r.of_ ++ [r.to_], -1000000 ≤ c ∧ c ≤ 1000000 := fun c hc => by
        obtain ⟨k, hk⟩ := List.getElem?_of_mem hc
        have := h k c hk
        unfold wholeC at this
        split at this
        · rename_i hw
          simpa [wholeB] using hw
        · cases this
      exact ⟨by omega, fun c hc => hall c (List.mem_append_left _ hc), hall _ (List.mem_append_right _ (List.mem_singleton_self _))⟩
theorem atom_same_of {a : AtomD} {nt ni : Int} (h : atomCode a nt ni = 0) (hk : a.kind = 2) : 0 ≤ a.a ∧ a.a < a.b ∧ a.b < nt := by
  unfold atomCode at h
  repeat (split at h; cases h)
  all_goals omega
theorem atom_row_of {a : AtomD} {nt : Int} {ni : Nat} (h : atomCode a nt ni = 0) (hk : a.kind = 3) : RowOk ni a.row := by
  unfold atomCode at h
  rw [if_neg (by omega)] at h
  split at h
  · cases h
  · first
    | exact rowOk_of h
    | (rw [if_neg (by omega), if_pos hk] at h; exact rowOk_of h)
    | (rw [if_neg (by omega)] at h; exact rowOk_of h)
theorem JInv.of_form {F : FormD} (h : (formF F).1 = 0) : JInv F.terms F.ints ⟨F.atoms, F.clauses⟩ 400 := by
  unfold formF at h
  by_cases ht : (termsF F.terms).1 = 0
  · rw [if_pos ht] at h
    by_cases hm : 12 < F.ints.length ∨ 120 < F.atoms.length
    · rw [if_pos hm] at h; cases h
    · rw [if_neg hm] at h
      by_cases ha : (atomsF F).1 = 0
      · rw [if_pos ha] at h
        unfold termsF at ht
        split at ht
        · cases ht
        · rename_i h60
          rw [first0_iff] at ht
          unfold atomsF at ha
          rw [first0_iff] at ha
          unfold cnfF at h
          split at h
          · cases h
          · rename_i h400
            rw [first0_iff] at h
            have hat : ∀ a ∈ F.atoms, atomCode a F.terms.length F.ints.length = 0 := fun a hm' => by
              obtain ⟨k, hk⟩ := List.getElem?_of_mem hm'
              exact ha k a hk
            refine ⟨fun i t hi => ?_, by omega, by omega, fun a hm' hk => ?_, fun a hm' hk => atom_row_of (hat a hm') hk, by simpa using (by omega : F.atoms.length ≤ 120), fun c hc => ?_, by simpa using (by omega : F.clauses.length ≤ 400)⟩
            · have := ht i t hi
              unfold termCode at this
              split at this
              · cases this
              · split at this
                · cases this
                · split at this
                  · cases this
                  · rename_i h1 h2 h3
                    refine ⟨by omega, fun k hk => ?_⟩
                    have h4 : ¬ kidBad (0 + i) k = true := fun e => h3 (List.any_eq_true.2 ⟨k, hk, e⟩)
                    simp only [kidBad, decide_eq_true_eq] at h4
                    omega
            · have := atom_same_of (hat a hm') hk
              exact this
            · obtain ⟨k, hk⟩ := List.getElem?_of_mem hc
              have := h k c hk
              unfold clauseCode at this
              split at this
              · cases this
              · exact goodC_of this
      · rw [if_neg ha] at h; exact absurd h ha
  · rw [if_neg ht] at h; exact absurd h ht
theorem JInv.step (h : JInv ts ints s m) (hs : stepJ ts ints s x = some s') : JInv ts ints s' (m + 1) := by
  by_cases hf : formedF s.atoms.length x = false
  · rw [stepJ_not hf] at hs; cases hs
  · have hf' : formedF s.atoms.length x = true := by simpa using hf
    by_cases h2 : x.kind = 2
    · rw [stepJ_drop hf' h2] at hs
      by_cases ha : s.cls.any (fun c => permB c x.lits) = true
      · rw [if_pos ha] at hs
        injection hs with hs
        subst hs
        refine ⟨h.gt, h.lt, h.li, h.gs, h.gr, h.la, fun c hc => h.gc c (List.mem_of_mem_eraseIdx hc), ?_⟩
        have h1 : (s.cls.eraseIdx (idx (fun c => permB c x.lits) s.cls 0).toNat).length ≤ s.cls.length := by apply List.length_eraseIdx_le
        have h3 := h.lc
        dsimp only
        omega
      · rw [if_neg ha] at hs; cases hs
    · by_cases h5 : x.kind = 5
      · rw [stepJ_atom hf' h5] at hs
        by_cases hb : ¬ x.atom.kind = 3 ∨ ¬ atomCode x.atom ts.length ints.length = 0 ∨ 120 ≤ s.atoms.length
        · rw [decide_eq_true hb, if_neg (by simp)] at hs; cases hs
        · rw [decide_eq_false hb, if_pos (by rfl)] at hs
          injection hs with hs
          subst hs
          simp only [not_or, Decidable.not_not] at hb
          have hla : (s.atoms ++ [x.atom]).length = s.atoms.length + 1 := by simp
          refine ⟨h.gt, h.lt, h.li, fun a ha hk => ?_, fun a ha hk => ?_, by rw [hla]; omega, fun c hc => by rw [hla]; exact (h.gc c hc).more (by omega), Nat.le_succ_of_le h.lc⟩
          · rcases List.mem_append.1 ha with ha | ha
            · exact h.gs a ha hk
            · rw [List.mem_singleton] at ha; subst ha; exact absurd hb.1 (by omega)
          · rcases List.mem_append.1 ha with ha | ha
            · exact h.gr a ha hk
            · rw [List.mem_singleton] at ha; subst ha; exact atom_row_of hb.2.1 hk
      · obtain rfl := stepJ_test_some hf' h2 h5 hs
        refine ⟨h.gt, h.lt, h.li, h.gs, h.gr, h.la, fun c hc => ?_, by simp only [List.length_append, List.length_singleton]; exact Nat.succ_le_succ h.lc⟩
        rcases List.mem_append.1 hc with hc | hc
        · exact h.gc c hc
        · rw [List.mem_singleton] at hc; subst hc; exact formed_good hf'
end
end Go.Proofs.Ytdncchlfeanlmaa
