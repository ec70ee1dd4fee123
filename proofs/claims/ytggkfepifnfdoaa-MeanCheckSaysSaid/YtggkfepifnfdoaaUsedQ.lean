/- Plain: what an ask without a fault is; marks as cells. No program is named here. -/
import Derived.Test.YtggkfepifnfdoaaUsedP
import Derived.Laws.MakeOwn
namespace Go.Proofs.Ytggkfepifnfdoaa
open Go.RowKit

theorem nodeF_low {ds : List DeclD} {i : Nat} {ss : List Int} {x : NodeD} (h : (nodeF ds i ss x).2 = 0) : x.kids.any (outside i) = false := by
  unfold nodeF at h
  split at h
  · simp at h
  split at h
  · simp at h
  split at h
  · simp at h
  split at h
  · simp at h
  · rename_i hh
    simpa using hh
theorem nodesF_ok {ds : List DeclD} : ∀ (l : List NodeD) (i : Nat) (ss : List Int), (nodesF ds l i ss).2.1 = 0 → (nodesF ds l i ss).1.length = ss.length + l.length ∧ ∀ (j : Nat) (x : NodeD), l[j]? = some x → ∀ k ∈ x.kids, 0 ≤ k ∧ k < ((i + j : Nat) : Int)
  | [], i, ss, _ => ⟨rfl, fun j x hx => by simp at hx⟩
  | y :: r, i, ss, h => by
    rw [nodesF] at h ⊢
    by_cases hc : (nodeF ds i ss y).2 = 0
    · rw [if_pos hc] at h ⊢
      obtain ⟨h1, h2⟩ := nodesF_ok r (i + 1) _ h
      refine ⟨by rw [h1]; simp only [List.length_append, List.length_cons, List.length_nil]; omega, fun j x hx k hk => ?_⟩
      rcases j with _ | j
      · simp only [List.getElem?_cons_zero, Option.some.injEq] at hx
        subst hx
        have := List.any_eq_false.1 (nodeF_low hc) k hk
        simp only [outside, decide_eq_true_eq] at this
        omega
      · have := h2 j x (by simpa using hx) k hk
        omega
    · rw [if_neg hc] at h
      exact absurd h hc
/-- what an ask is that has no fault -/
theorem sortsF_ok {a : AskD} (h : (sortsF a).2.1 = 0) : (sortsF a).2 = (0, 0) ∧ (sortsF a).1.length = a.nodes.length ∧ KidsLow a.nodes ∧ (∀ k ∈ a.hold, 0 ≤ k ∧ k < (a.nodes.length : Int)) ∧ a.nodes.length ≤ 200 ∧ a.hold.length ≤ 200 ∧ DeclsOk a.decls := by
  unfold sortsF at h ⊢
  by_cases h1 : (declsF a.decls).1 = 0
  · rw [if_neg (by simpa using h1)] at h ⊢
    by_cases h2 : 200 < a.nodes.length
    · rw [if_pos h2] at h; simp at h
    rw [if_neg h2] at h ⊢
    by_cases h3 : (nodesF a.decls a.nodes 0 []).2.1 = 0
    · rw [if_neg (by simpa using h3)] at h ⊢
      obtain ⟨h5, h6⟩ := nodesF_ok a.nodes 0 [] h3
      by_cases h4 : (holdF (nodesF a.decls a.nodes 0 []).1 a.hold).1 = 0
      · rw [if_neg (by simpa using h4)]
        simp only [List.length_nil, Nat.zero_add] at h5
        refine ⟨rfl, h5, fun i x hx k hk => by simpa using h6 i x hx k hk, fun k hk => ?_, by omega, ?_, declsF_ok h1⟩
        · unfold holdF at h4
          split at h4
          · simp at h4
          · obtain ⟨-, hr⟩ := firstBad_zero (f := holdCode (nodesF a.decls a.nodes 0 []).1) (l := a.hold) (i := 0) (a := (firstBad (holdCode (nodesF a.decls a.nodes 0 []).1) a.hold 0).2) (Prod.ext h4 rfl)
            obtain ⟨j, hj, hjx⟩ := List.getElem_of_mem hk
            have hc := hr j k (by rw [List.getElem?_eq_getElem hj, hjx])
            unfold holdCode at hc
            rw [h5] at hc
            split at hc
            · simp at hc
            · omega
        · unfold holdF at h4
          split at h4
          · simp at h4
          · omega
      · rw [if_pos (by simpa using h4)] at h
        exact absurd h h4
    · rw [if_pos (by simpa using h3)] at h
      exact absurd h h3
  · rw [if_pos (by simpa using h1)] at h
    exact absurd h h1

/-- marks as cells -/
def boolsC (ms : List Bool) : Array Value := (ms.map Value.bool).toArray
theorem boolsC_set (ms : List Bool) (i : Nat) : (boolsC ms).setIfInBounds i (.bool true) = boolsC (ms.set i true) := by
  simp [boolsC, List.map_set]
theorem boolsC_get {ms : List Bool} {i : Nat} (h : i < ms.length) : (boolsC ms)[i]? = some (.bool (ms.getD i false)) := by
  simp [boolsC, List.getElem?_eq_getElem h]
theorem made_bools (n : Nat) : madeCells (Value.bool false).cells (n * 1) = boolsC (List.replicate n false) := by
  refine Array.ext (by simp [size_madeCells, boolsC]) (fun i h1 h2 => ?_)
  simp [madeCells, boolsC, Value.cells, Nat.mod_one]
theorem marks_set {w : World} {g i : Nat} {t : TypeId} {ms : List Bool} (h : Blk w g t (boolsC ms)) : Blk (w.setCell ⟨g, i, none⟩ (.bool true)) g t (boolsC (ms.set i true)) := by
  rw [← boolsC_set]; exact h.set_ i (.bool true)
theorem marks_cell {w : World} {g i : Nat} {t : TypeId} {ms : List Bool} (h : Blk w g t (boolsC ms)) (hi : i < ms.length) : w.cell? ⟨g, i, none⟩ = some (.bool (ms.getD i false)) := (h.cell i).trans (boolsC_get hi)
/-- marks in memory read as a list -/
theorem marks_arr {w : World} {g : Nat} {t : TypeId} {ms : List Bool} {S : Nat → Prop} (h : Blk w g t (boolsC ms)) (hS : S g) : Arr AtBool 1 w S (some ⟨g, 0, none⟩) ms.length ms :=
  ⟨rfl, fun i x hx => ⟨g, 0, rfl, hS, by
    have hi := (List.getElem?_eq_some_iff.1 hx).1
    have hc := marks_cell h hi
    rw [List.getD_eq_getElem?_getD, hx] at hc
    rw [Nat.zero_add, Nat.mul_one]
    exact hc⟩⟩
end Go.Proofs.Ytggkfepifnfdoaa
