/- Plain: the ways of a step of the judge. No walk. -/
import Derived.Test.YtdncchlfeanlmaaJuCD
namespace Go.Proofs.Ytdncchlfeanlmaa
open Go.RowKit

section
variable {ts : List TermD} {ints : List Bool} {s : JSt} {x : StepD}
theorem stepJ_not (h : formedF s.atoms.length x = false) : stepJ ts ints s x = none := by unfold stepJ; rw [if_pos h]
theorem stepJ_test (h : formedF s.atoms.length x = true) (h2 : ¬ x.kind = 2) (h5 : ¬ x.kind = 5) {R : Bool}
    (hR : (if x.kind = 1 then @decide (Clash s.cls (x.lits.map fun l => -l)) (Classical.propDecidable _) else if x.kind = 3 then sameF ts s.atoms x.lits else if x.kind = 4 then rowsF ints.length s.atoms x.lits x.nums else gapF ints s.atoms x.lits) = R) :
    stepJ ts ints s x = if R = true then some ⟨s.atoms, s.cls ++ [x.lits]⟩ else none := by
  unfold stepJ
  rw [if_neg (by rw [h]; simp), if_neg h2, if_neg h5, hR]
theorem stepJ_drop (h : formedF s.atoms.length x = true) (h2 : x.kind = 2) : stepJ ts ints s x = if s.cls.any (fun c => permB c x.lits) = true then some ⟨s.atoms, s.cls.eraseIdx (idx (fun c => permB c x.lits) s.cls 0).toNat⟩ else none := by
  unfold stepJ
  rw [if_neg (by rw [h]; simp), if_pos h2]
theorem stepJ_atom (h : formedF s.atoms.length x = true) (h5 : x.kind = 5) : stepJ ts ints s x = if (!decide (¬ x.atom.kind = 3 ∨ ¬ atomCode x.atom ts.length ints.length = 0 ∨ 120 ≤ s.atoms.length)) = true then some ⟨s.atoms ++ [x.atom], s.cls⟩ else none := by
  unfold stepJ
  rw [if_neg (by rw [h]; simp), if_neg (by omega), if_pos h5]
  by_cases hb : ¬ x.atom.kind = 3 ∨ ¬ atomCode x.atom ts.length ints.length = 0 ∨ 120 ≤ s.atoms.length
  · rw [if_pos hb, if_neg (by rw [decide_eq_true hb]; simp)]
  · rw [if_neg hb, if_pos (by rw [decide_eq_false hb]; rfl)]
theorem stepJ_test_some {s' : JSt} (h : formedF s.atoms.length x = true) (h2 : ¬ x.kind = 2) (h5 : ¬ x.kind = 5) (hs : stepJ ts ints s x = some s') : s' = ⟨s.atoms, s.cls ++ [x.lits]⟩ := by
  rw [stepJ_test h h2 h5 rfl] at hs
  have key : ∀ R : Bool, (if R = true then some (⟨s.atoms, s.cls ++ [x.lits]⟩ : JSt) else none) = some s' → s' = ⟨s.atoms, s.cls ++ [x.lits]⟩ := fun R hR => by
    cases R with
    | false => cases hR
    | true => injection hR with hR; exact hR.symm
  exact key _ hs
end
end Go.Proofs.Ytdncchlfeanlmaa
