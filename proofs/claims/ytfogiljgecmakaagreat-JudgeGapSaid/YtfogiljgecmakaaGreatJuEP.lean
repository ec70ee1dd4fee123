/- Plain: what holds of the judge's state from step to step: its atoms and clauses are good. No walk. · Plain: the laws on the judge's run: a beginning of the steps, a clause more, what is learnt holds in each model. No walk. -/
import Derived.Test.YtfogiljgecmakaaGreatJuCF
import Derived.Test.YtfogiljgecmakaaGreatJuXY
import Derived.Test.YtfogiljgecmakaaGreatJuW
import Derived.Test.YtfogiljgecmakaaGreatJuIJ
import Derived.Test.YtfogiljgecmakaaGreatTC
import Derived.Test.YtfogiljgecmakaaGreatNOPT
namespace Go.Proofs.YtfogiljgecmakaaGreat
open Go.RowKit

theorem first0_iff {α : Type} {f : α → Int → Int} : ∀ {l : List α} {i : Int}, (firstBad f l i).1 = 0 ↔ ∀ (k : Nat) (x : α), l[k]? = some x → f x (i + k) = 0
  | [], i => by simp [firstBad]
  | y :: r, i => by
    rw [firstBad]
    by_cases h : f y i = 0
    · rw [if_pos h, first0_iff]
      refine ⟨fun hk k x hx => ?_, fun hk k x hx => ?_⟩
      · rcases k with _ | k
        · simp only [List.getElem?_cons_zero, Option.some.injEq] at hx
          subst hx
          simpa using h
        · have := hk k x (by simpa using hx)
          rwa [show i + 1 + (k : Int) = i + ((k + 1 : Nat) : Int) by omega] at this
      · have := hk (k + 1) x (by simpa using hx)
        rwa [show i + ((k + 1 : Nat) : Int) = i + 1 + (k : Int) by omega] at this
    · rw [if_neg h]
      refine ⟨fun h0 => absurd h0 h, fun hk => absurd (by simpa using hk 0 y rfl) h⟩
/-- a clause over so many atoms -/
def GoodC (na : Nat) (c : List Int) : Prop := (∀ l ∈ c, LitIn na l) ∧ c.Pairwise (fun a b => ¬ a.natAbs = b.natAbs)
theorem badL_good {na : Nat} : ∀ (c pre : List Int) (i : Int), (badL na pre c i).2 = 0 → pre.Pairwise (fun a b => ¬ a.natAbs = b.natAbs) → (∀ l ∈ c, LitIn na l) ∧ (pre ++ c).Pairwise (fun a b => ¬ a.natAbs = b.natAbs)
  | [], pre, _, _, hp => ⟨fun l hl => (List.not_mem_nil hl).elim, by rwa [List.append_nil]⟩
  | x :: r, pre, i, h, hp => by
    rw [badL] at h
    by_cases hb : litBad na x = true
    · rw [if_pos hb] at h; cases h
    · rw [if_neg hb] at h
      by_cases ha : pre.any (sameVar x) = true
      · rw [if_pos ha] at h; cases h
      · rw [if_neg ha] at h
        have hx : LitIn na x := by
          simp only [litBad, decide_eq_true_eq] at hb
          refine ⟨fun e => hb (.inl e), by omega, by omega⟩
        have hp' : (pre ++ [x]).Pairwise (fun a b => ¬ a.natAbs = b.natAbs) := by
          rw [List.pairwise_append]
          refine ⟨hp, List.pairwise_singleton _ _, fun a ha' b hb' e => ?_⟩
          rw [List.mem_singleton] at hb'
          subst hb'
          refine ha (List.any_eq_true.2 ⟨a, ha', ?_⟩)
          simp only [sameVar, decide_eq_true_eq]
          omega
        obtain ⟨h1, h2⟩ := badL_good r (pre ++ [x]) (i + 1) h hp'
        refine ⟨fun l hl => ?_, by simpa using h2⟩
        rcases List.mem_cons.1 hl with rfl | hl
        · exact hx
        · exact h1 l hl
theorem goodC_of {na : Nat} {c : List Int} (h : (badL na [] c 0).2 = 0) : GoodC na c := by
  have := badL_good c [] 0 h List.Pairwise.nil
  exact ⟨this.1, by simpa using this.2⟩
theorem GoodC.len {na : Nat} {c : List Int} (h : GoodC na c) : c.length ≤ na := by
  have := vars_few na (c.map Int.natAbs) (fun x hx => by
    obtain ⟨l, hl, rfl⟩ := List.mem_map.1 hx
    obtain ⟨h0, h1, h2⟩ := h.1 l hl
    omega) (by rw [List.Nodup, List.pairwise_map]; exact h.2)
  simpa using this
theorem GoodC.more {na nb : Nat} {c : List Int} (h : GoodC na c) (hn : na ≤ nb) : GoodC nb c := ⟨fun l hl => by obtain ⟨h0, h1, h2⟩ := h.1 l hl; exact ⟨h0, by omega, by omega⟩, h.2⟩
theorem GoodC.clean {na : Nat} {c : List Int} (h : GoodC na c) : CleanC c := ⟨fun h0 => (h.1 0 h0).1 rfl, h.2.imp fun hab e => hab (by rw [e])⟩

/-- what holds of the judge's state; m: at most so many clauses -/
structure JInv (ts : List TermD) (ints : List Bool) (s : JSt) (m : Nat) : Prop where
  gt : GoodTs ts
  lt : ts.length ≤ 60
  li : ints.length ≤ 12
  gs : GoodSame ts.length s.atoms
  gr : GoodRows ints.length s.atoms
  la : s.atoms.length ≤ 120
  gc : ∀ c ∈ s.cls, GoodC s.atoms.length c
  lc : s.cls.length ≤ m
theorem flat_len : ∀ (C : List (List Int)) (k : Nat), (∀ c ∈ C, c.length ≤ k) → C.flatten.length ≤ C.length * k
  | [], _, _ => by simp
  | c :: r, k, h => by
    have h1 := flat_len r k (fun c hc => h c (List.mem_cons_of_mem _ hc))
    have h2 := h c (List.mem_cons_self ..)
    simp only [List.flatten_cons, List.length_append, List.length_cons, Nat.add_mul, Nat.one_mul]
    omega
section
variable {ts : List TermD} {ints : List Bool} {s s' : JSt} {m : Nat} {x : StepD}
theorem JInv.flat (h : JInv ts ints s m) (hm : m ≤ 4000) : s.cls.flatten.length ≤ 1000000 := by
  have h1 := flat_len s.cls 120 (fun c hc => Nat.le_trans (h.gc c hc).len h.la)
  have h2 := h.lc
  have h3 : s.cls.length * 120 ≤ 4000 * 120 := Nat.mul_le_mul_right _ (by omega)
  omega
theorem JInv.tame (h : JInv ts ints s m) : Tame s.cls := fun c hc => ⟨by have := (h.gc c hc).len; have := h.la; omega, fun x hx => by obtain ⟨h0, h1, h2⟩ := (h.gc c hc).1 x hx; have := h.la; omega⟩
theorem JInv.clean (h : JInv ts ints s m) : ∀ c ∈ s.cls, CleanC c := fun c hc => (h.gc c hc).clean
theorem formed_good {na : Nat} (h : formedF na x = true) : GoodC na x.lits := by
  unfold formedF at h
  simp only [Bool.and_eq_true, decide_eq_true_eq] at h
  exact goodC_of h.2
theorem rowOk_of {n : Nat} {r : RowD} (h : rowCode r n = 0) : RowOk n r := by
  unfold rowCode rowF at h
  split at h
  · cases h
  · split at h
    · cases h
    · rename_i h1 h2
      rw [first0_iff] at h
      have hall : ∀ c ∈ r.of_ ++ [r.to_], -1000000 ≤ c ∧ c ≤ 1000000 := fun c hc => by
        obtain ⟨k, hk⟩ := List.getElem?_of_mem hc
        have := h k c hk
        unfold wholeC at this
        split at this
        · rename_i hw
          simpa [wholeB] using hw
        · cases this
      exact ⟨by omega, fun c hc => hall c (List.mem_append_left _ hc), hall _ (List.mem_append_right _ (List.mem_singleton_self _))⟩
theorem atom_same_of {a : AtomD} {nt ni : Int} (h : atomCode a nt ni = 0) (hk : a.kind = 2) : 0 ≤ a.a ∧ a.a < a.b ∧ a.b < nt := by
  unfold atomCode at h
  repeat (split at h; cases h)
  all_goals omega
theorem atom_row_of {a : AtomD} {nt : Int} {ni : Nat} (h : atomCode a nt ni = 0) (hk : a.kind = 3) : RowOk ni a.row := by
  unfold atomCode at h
  rw [if_neg (by omega)] at h
  split at h
  · cases h
  · first
    | exact rowOk_of h
    | (rw [if_neg (by omega), if_pos hk] at h; exact rowOk_of h)
    | (rw [if_neg (by omega)] at h; exact rowOk_of h)
theorem JInv.of_form {F : FormD} (h : (formF F).1 = 0) : JInv F.terms F.ints ⟨F.atoms, F.clauses⟩ 400 := by
  unfold formF at h
  by_cases ht : (termsF F.terms).1 = 0
  · rw [if_pos ht] at h
    by_cases hm : 12 < F.ints.length ∨ 120 < F.atoms.length
    · rw [if_pos hm] at h; cases h
    · rw [if_neg hm] at h
      by_cases ha : (atomsF F).1 = 0
      · rw [if_pos ha] at h
        unfold termsF at ht
        split at ht
        · cases ht
        · rename_i h60
          rw [first0_iff] at ht
          unfold atomsF at ha
          rw [first0_iff] at ha
          unfold cnfF at h
          split at h
          · cases h
          · rename_i h400
            rw [first0_iff] at h
            have hat : ∀ a ∈ F.atoms, atomCode a F.terms.length F.ints.length = 0 := fun a hm' => by
              obtain ⟨k, hk⟩ := List.getElem?_of_mem hm'
              exact ha k a hk
            refine ⟨fun i t hi => ?_, by omega, by omega, fun a hm' hk => ?_, fun a hm' hk => atom_row_of (hat a hm') hk, by simpa using (by omega : F.atoms.length ≤ 120), fun c hc => ?_, by simpa using (by omega : F.clauses.length ≤ 400)⟩
            · have := ht i t hi
              unfold termCode at this
              split at this
              · cases this
              · split at this
                · cases this
                · split at this
                  · cases this
                  · rename_i h1 h2 h3
                    refine ⟨by omega, fun k hk => ?_⟩
                    have h4 : ¬ kidBad (0 + i) k = true := fun e => h3 (List.any_eq_true.2 ⟨k, hk, e⟩)
                    simp only [kidBad, decide_eq_true_eq] at h4
                    omega
            · have := atom_same_of (hat a hm') hk
              exact this
            · obtain ⟨k, hk⟩ := List.getElem?_of_mem hc
              have := h k c hk
              unfold clauseCode at this
              split at this
              · cases this
              · exact goodC_of this
      · rw [if_neg ha] at h; exact absurd h ha
  · rw [if_neg ht] at h; exact absurd h ht
theorem JInv.step (h : JInv ts ints s m) (hs : stepJ ts ints s x = some s') : JInv ts ints s' (m + 1) := by
  by_cases hf : formedF s.atoms.length x = false
  · rw [stepJ_not hf] at hs; cases hs
  · have hf' : formedF s.atoms.length x = true := by simpa using hf
    by_cases h2 : x.kind = 2
    · rw [stepJ_drop hf' h2] at hs
      by_cases ha : s.cls.any (fun c => permB c x.lits) = true
      · rw [if_pos ha] at hs
        injection hs with hs
        subst hs
        refine ⟨h.gt, h.lt, h.li, h.gs, h.gr, h.la, fun c hc => h.gc c (List.mem_of_mem_eraseIdx hc), ?_⟩
        have h1 : (s.cls.eraseIdx (idx (fun c => permB c x.lits) s.cls 0).toNat).length ≤ s.cls.length := by apply List.length_eraseIdx_le
        have h3 := h.lc
        dsimp only
        omega
      · rw [if_neg ha] at hs; cases hs
    · by_cases h5 : x.kind = 5
      · rw [stepJ_atom hf' h5] at hs
        by_cases hb : ¬ x.atom.kind = 3 ∨ ¬ atomCode x.atom ts.length ints.length = 0 ∨ 120 ≤ s.atoms.length
        · rw [decide_eq_true hb, if_neg (by simp)] at hs; cases hs
        · rw [decide_eq_false hb, if_pos (by rfl)] at hs
          injection hs with hs
          subst hs
          simp only [not_or, Decidable.not_not] at hb
          have hla : (s.atoms ++ [x.atom]).length = s.atoms.length + 1 := by simp
          refine ⟨h.gt, h.lt, h.li, fun a ha hk => ?_, fun a ha hk => ?_, by rw [hla]; omega, fun c hc => by rw [hla]; exact (h.gc c hc).more (by omega), Nat.le_succ_of_le h.lc⟩
          · rcases List.mem_append.1 ha with ha | ha
            · exact h.gs a ha hk
            · rw [List.mem_singleton] at ha; subst ha; exact absurd hb.1 (by omega)
          · rcases List.mem_append.1 ha with ha | ha
            · exact h.gr a ha hk
            · rw [List.mem_singleton] at ha; subst ha; exact atom_row_of hb.2.1 hk
      · obtain rfl := stepJ_test_some hf' h2 h5 hs
        refine ⟨h.gt, h.lt, h.li, h.gs, h.gr, h.la, fun c hc => ?_, by simp only [List.length_append, List.length_singleton]; exact Nat.succ_le_succ h.lc⟩
        rcases List.mem_append.1 hc with hc | hc
        · exact h.gc c hc
        · rw [List.mem_singleton] at hc; subst hc; exact formed_good hf'
end
end Go.Proofs.YtfogiljgecmakaaGreat
namespace Go.Proofs.YtfogiljgecmakaaGreat
open Go.RowKit

section
variable {ts : List TermD} {ints : List Bool}
theorem runJ_range : ∀ (l : List StepD) (s : JSt) (i : Int), runJ ts ints s l i = -1 ∨ (i ≤ runJ ts ints s l i ∧ runJ ts ints s l i ≤ i + l.length)
  | [], s, i => by
    rw [runJ]
    split
    · exact .inl rfl
    · exact .inr ⟨Int.le_refl _, by simp⟩
  | x :: r, s, i => by
    rw [runJ]
    cases hs : stepJ ts ints s x with
    | none => exact .inr ⟨Int.le_refl _, by simp only [List.length_cons]; omega⟩
    | some s' =>
      rcases runJ_range r s' (i + 1) with h | ⟨h, h2⟩
      · exact .inl h
      · refine .inr ⟨by dsimp only; omega, by simp only [List.length_cons]; omega⟩
theorem runJ_take : ∀ (l : List StepD) (s : JSt) (i : Int) (k : Nat), 0 ≤ i → k ≤ l.length →
    (∃ n : Int, i ≤ n ∧ n < i + k ∧ runJ ts ints s l i = n ∧ runJ ts ints s (l.take k) i = n) ∨
    ((runJ ts ints s l i = -1 ∨ i + k ≤ runJ ts ints s l i) ∧ (runJ ts ints s (l.take k) i = -1 ∨ runJ ts ints s (l.take k) i = i + k))
  | l, s, i, 0, h0, _ => by
    refine .inr ⟨?_, ?_⟩
    · rcases runJ_range l s i with h | ⟨h, _⟩
      · exact .inl h
      · exact .inr (by simpa using h)
    · simp only [List.take_zero, runJ]
      split
      · exact .inl rfl
      · exact .inr (by simp)
  | [], s, i, k + 1, h0, hk => by simp at hk
  | x :: r, s, i, k + 1, h0, hk => by
    simp only [List.take_succ_cons, runJ]
    cases hs : stepJ ts ints s x with
    | none => exact .inl ⟨i, Int.le_refl _, by omega, rfl, rfl⟩
    | some s' =>
      rcases runJ_take r s' (i + 1) k (by omega) (by simpa using hk) with ⟨n, h1, h2, h3, h4⟩ | ⟨h1, h2⟩
      · exact .inl ⟨n, by omega, by omega, h3, h4⟩
      · refine .inr ⟨?_, ?_⟩
        · rcases h1 with h | h
          · exact .inl h
          · exact .inr (by dsimp only; omega)
        · rcases h2 with h | h
          · exact .inl h
          · exact .inr (by dsimp only; omega)

/-- a clause more, wherever it stands -/
def MoreJ (s t : JSt) : Prop := s.atoms = t.atoms ∧ ∃ c, (t.cls.map srtI).Perm (c :: s.cls.map srtI)
theorem srtI_mem (l : List Int) (x : Int) : x ∈ srtI l ↔ x ∈ l := (srtI_perm l).mem_iff
theorem Drv.alike {C D : List (List Int)} {T : List Int} (hC : ∀ c ∈ C, ∃ d ∈ D, ∀ x, x ∈ d ↔ x ∈ c) {l : Int} (h : Drv C T l) : Drv D T l := by
  induction h with
  | base h => exact .base h
  | unit hc hl _ ih =>
    obtain ⟨d, hd, hx⟩ := hC _ hc
    exact .unit hd ((hx _).2 hl) fun k hk hne => ih k ((hx _).1 hk) hne
theorem Clash.alike {C D : List (List Int)} {T : List Int} (hC : ∀ c ∈ C, ∃ d ∈ D, ∀ x, x ∈ d ↔ x ∈ c) (h : Clash C T) : Clash D T := by
  obtain ⟨c, hc, hk⟩ := h
  obtain ⟨d, hd, hx⟩ := hC c hc
  exact ⟨d, hd, fun k h => (hk k ((hx k).1 h)).alike hC⟩
theorem MoreJ.mem {s t : JSt} (h : MoreJ s t) : ∀ c ∈ s.cls, ∃ d ∈ t.cls, srtI d = srtI c := fun c hc => by
  obtain ⟨_, e, hp⟩ := h
  have : srtI c ∈ t.cls.map srtI := hp.mem_iff.2 (List.mem_cons_of_mem _ (List.mem_map_of_mem hc))
  obtain ⟨d, hd, he⟩ := List.mem_map.1 this
  exact ⟨d, hd, he⟩
theorem erase_idx {α : Type} [BEq α] [LawfulBEq α] {β : Type} (p : β → Bool) (f : β → α) (b : α) (hp : ∀ y, p y = true ↔ f y = b) : ∀ (l : List β) (k : Int), 0 ≤ k → l.any p = true → k ≤ idx p l k ∧ (l.eraseIdx (idx p l k - k).toNat).map f = (l.map f).erase b
  | [], _, _, h => by simp at h
  | y :: r, k, hk, h => by
    rw [idx]
    by_cases hy : p y = true
    · rw [if_pos hy]
      have e := (hp y).1 hy
      refine ⟨Int.le_refl _, ?_⟩
      rw [Int.sub_self, Int.toNat_zero, List.eraseIdx_cons_zero, List.map_cons, e, List.erase_cons_head]
    · rw [if_neg hy]
      obtain ⟨h1, h2⟩ := erase_idx p f b hp r (k + 1) (by omega) (by simpa [hy] using h)
      refine ⟨by omega, ?_⟩
      rw [show (idx p r (k + 1) - k).toNat = (idx p r (k + 1) - (k + 1)).toNat + 1 by omega, List.eraseIdx_cons_succ, List.map_cons, List.map_cons, h2, List.erase_cons_tail]
      intro e
      exact hy ((hp y).2 (eq_of_beq e))
theorem stepJ_more {s t s' : JSt} {x : StepD} (h : MoreJ s t) (hs : stepJ ts ints s x = some s') : ∃ t', stepJ ts ints t x = some t' ∧ MoreJ s' t' := by
  have hm := h.mem
  obtain ⟨ha, c, hp⟩ := h
  unfold stepJ at hs ⊢
  rw [← ha]
  split at hs
  · cases hs
  · rename_i hf
    rw [if_neg hf]
    split at hs
    · rename_i h2
      rw [if_pos h2]
      split at hs
      · rename_i hany
        injection hs with hs
        have hpp : ∀ y, (fun c => permB c x.lits) y = true ↔ srtI y = srtI x.lits := fun y => by simp [permB_srt]
        have hany2 : t.cls.any (fun c => permB c x.lits) = true := by
          obtain ⟨d, hd, he⟩ := List.any_eq_true.1 hany
          obtain ⟨d', hd', he'⟩ := hm d hd
          exact List.any_eq_true.2 ⟨d', hd', (hpp d').2 (he'.trans ((hpp d).1 he))⟩
        rw [if_pos hany2]
        refine ⟨_, rfl, ?_⟩
        have e1 := (erase_idx _ srtI (srtI x.lits) hpp s.cls 0 (by omega) hany).2
        have e2 := (erase_idx _ srtI (srtI x.lits) hpp t.cls 0 (by omega) hany2).2
        rw [Int.sub_zero] at e1 e2
        subst hs
        have hb : srtI x.lits ∈ s.cls.map srtI := by
          obtain ⟨d, hd, he⟩ := List.any_eq_true.1 hany
          exact List.mem_map.2 ⟨d, hd, (hpp d).1 he⟩
        have hpe := hp.erase (srtI x.lits)
        by_cases hc : c = srtI x.lits
        · refine ⟨rfl, srtI x.lits, ?_⟩
          dsimp only
          rw [e1, e2]
          rw [hc, List.erase_cons_head] at hpe
          exact hpe.trans (List.perm_cons_erase hb)
        · refine ⟨rfl, c, ?_⟩
          dsimp only
          rw [e1, e2]
          rwa [List.erase_cons_tail (by simpa using hc)] at hpe
      · cases hs
    · rename_i h2
      rw [if_neg h2]
      split at hs
      · rename_i h5
        rw [if_pos h5]
        split at hs
        · cases hs
        · rename_i hb
          injection hs with hs
          subst hs
          rw [if_neg hb]
          exact ⟨_, rfl, rfl, c, hp⟩
      · rename_i h5
        rw [if_neg h5]
        have fin : ∀ u : JSt, some (⟨s.atoms, s.cls ++ [x.lits]⟩ : JSt) = some u → MoreJ u ⟨s.atoms, t.cls ++ [x.lits]⟩ := fun u hu => by
          injection hu with hu
          subst hu
          refine ⟨rfl, c, ?_⟩
          simp only [List.map_append, List.map_cons, List.map_nil]
          exact hp.append_right _
        by_cases h1 : x.kind = 1
        · rw [if_pos h1] at hs ⊢
          split at hs
          · rename_i hcl
            have hcl' := @of_decide_eq_true _ (Classical.propDecidable _) hcl
            rw [if_pos (@decide_eq_true _ (Classical.propDecidable _) (hcl'.alike fun d hd => by
              obtain ⟨d', hd', he⟩ := hm d hd
              exact ⟨d', hd', fun y => by rw [← srtI_mem d', he, srtI_mem]⟩))]
            exact ⟨_, rfl, fin _ hs⟩
          · cases hs
        · rw [if_neg h1] at hs ⊢
          have key : ∀ R : Bool, (if R = true then some (⟨s.atoms, s.cls ++ [x.lits]⟩ : JSt) else none) = some s' → ∃ t', (if R = true then some (⟨s.atoms, t.cls ++ [x.lits]⟩ : JSt) else none) = some t' ∧ MoreJ s' t' := fun R hR => by
            cases R with
            | false => cases hR
            | true => exact ⟨_, rfl, fin _ hR⟩
          exact key _ hs
theorem runJ_more : ∀ (l : List StepD) (s t : JSt) (i : Int), 0 ≤ i → MoreJ s t → runJ ts ints s l i = -1 → runJ ts ints t l i = -1
  | [], s, t, i, hi, h, hr => by
    rw [runJ] at hr ⊢
    split at hr
    · rename_i ha
      obtain ⟨c, hc, he⟩ := List.any_eq_true.1 ha
      obtain ⟨d, hd, he'⟩ := h.mem c hc
      rw [if_pos (List.any_eq_true.2 ⟨d, hd, ?_⟩)]
      simp only [decide_eq_true_eq] at he ⊢
      have := congrArg List.length he'
      rw [srtI_len, srtI_len] at this
      omega
    · omega
  | x :: r, s, t, i, hi, h, hr => by
    rw [runJ] at hr ⊢
    cases hs : stepJ ts ints s x with
    | none => rw [hs] at hr; dsimp only at hr; omega
    | some s' =>
      obtain ⟨t', ht', hm⟩ := stepJ_more h hs
      rw [hs] at hr
      rw [ht']
      exact runJ_more r s' t' (i + 1) (by omega) hm hr

/-- a literal's truth in an assignment -/
def litT (h : List Bool) (l : Int) : Bool := if l < 0 then !(h.getD (l.natAbs - 1) false) else h.getD (l.natAbs - 1) false
theorem litT_neg {h : List Bool} {l : Int} (h0 : ¬ l = 0) : litT h (-l) = !litT h l := by
  unfold litT
  rw [Int.natAbs_neg]
  by_cases hl : l < 0
  · rw [if_neg (by omega), if_pos hl]; simp
  · rw [if_pos (by omega), if_neg hl]
def satC (h : List Bool) (c : List Int) : Bool := c.any (litT h)
theorem drv_true {h : List Bool} {C : List (List Int)} {T : List Int} (hC : ∀ c ∈ C, (∀ x ∈ c, ¬ x = 0) ∧ satC h c = true) (hT : ∀ l ∈ T, litT h l = true) {l : Int} (hd : Drv C T l) : litT h l = true := by
  induction hd with
  | base h => exact hT _ h
  | @unit c l hc hl hk ih =>
    obtain ⟨h0, hs⟩ := hC c hc
    obtain ⟨y, hy, ht⟩ := List.any_eq_true.1 hs
    by_cases e : y = l
    · subst e; exact ht
    · have := ih y hy e
      rw [litT_neg (h0 y hy), ht] at this
      cases this
theorem clash_sound {h : List Bool} {C : List (List Int)} {lits : List Int} (hC : ∀ c ∈ C, (∀ x ∈ c, ¬ x = 0) ∧ satC h c = true) (hl : ∀ x ∈ lits, ¬ x = 0) (hc : Clash C (lits.map fun l => -l)) : satC h lits = true := by
  cases hs : satC h lits with
  | true => rfl
  | false =>
    exfalso
    have hT : ∀ l ∈ lits.map (fun l => -l), litT h l = true := fun l hm => by
      obtain ⟨y, hy, rfl⟩ := List.mem_map.1 hm
      rw [litT_neg (hl y hy)]
      cases hy' : litT h y with
      | false => rfl
      | true => rw [show satC h lits = true from List.any_eq_true.2 ⟨y, hy, hy'⟩] at hs; cases hs
    obtain ⟨c, hc, hk⟩ := hc
    obtain ⟨h0, hs'⟩ := hC c hc
    obtain ⟨y, hy, ht⟩ := List.any_eq_true.1 hs'
    have := drv_true hC hT (hk y hy)
    rw [litT_neg (h0 y hy), ht] at this
    cases this
theorem runJ_models {h : List Bool} : ∀ (l : List StepD) (s : JSt) (i : Int), 0 ≤ i → (∀ x ∈ l, x.kind = 1) → (∀ c ∈ s.cls, (∀ x ∈ c, ¬ x = 0) ∧ satC h c = true) →
    ∀ (k : Nat) (x : StepD), l[k]? = some x → (runJ ts ints s l i = -1 ∨ i + k < runJ ts ints s l i) → satC h x.lits = true
  | [], _, _, _, _, _, _, _, hk, _ => by simp at hk
  | y :: r, s, i, hi, h1, hC, k, x, hk, hr => by
    rw [runJ] at hr
    cases hs : stepJ ts ints s y with
    | none => rw [hs] at hr; dsimp only at hr; omega
    | some s' =>
      rw [hs] at hr
      dsimp only at hr
      have hy := h1 y (List.mem_cons_self ..)
      have hkey : satC h y.lits = true ∧ (∀ x ∈ y.lits, ¬ x = 0) ∧ s' = ⟨s.atoms, s.cls ++ [y.lits]⟩ := by
        by_cases hf : formedF s.atoms.length y = false
        · rw [stepJ_not hf] at hs; cases hs
        · have hf' : formedF s.atoms.length y = true := by simpa using hf
          have hg := formed_good hf'
          have h0 : ∀ x ∈ y.lits, ¬ x = 0 := fun x hx => (hg.1 x hx).1
          have e := stepJ_test_some hf' (by omega) (by omega) hs
          rw [stepJ_test hf' (by omega) (by omega) (if_pos hy)] at hs
          split at hs
          · rename_i hcl
            exact ⟨clash_sound hC h0 (@of_decide_eq_true _ (Classical.propDecidable _) hcl), h0, e⟩
          · cases hs
      rcases k with _ | k
      · simp only [List.getElem?_cons_zero, Option.some.injEq] at hk
        subst hk
        exact hkey.1
      · refine runJ_models r s' (i + 1) (by omega) (fun x hx => h1 x (List.mem_cons_of_mem _ hx)) (fun c hc => ?_) k x (by simpa using hk) (hr.imp_right fun h => by omega)
        rw [hkey.2.2] at hc
        rcases List.mem_append.1 hc with hc | hc
        · exact hC c hc
        · rw [List.mem_singleton] at hc
          subst hc
          exact ⟨hkey.2.1, hkey.1⟩
end
end Go.Proofs.YtfogiljgecmakaaGreat
