/- Rows of the call's own whose things are written anew, one by one. No program is named here. -/
import Derived.Test.YtdncchlfeanlmaaCore
namespace Go.Proofs.Ytdncchlfeanlmaa
open Go.RowKit

section
variable {α : Type} {V : Val α} {sz : Nat} {w : World} {S : Nat → Prop} {e base : Nat} {v : Value} {xs : List α}
/-- one thing of one cell is written anew -/
theorem Cels.set (hV : Tells V 1) {x : α} {u : Value} (hx : V w S [u] x) : ∀ (xs : List α) (cs : List Value) (i : Nat), Cels V w S xs cs → Cels V w S (xs.set i x) (cs.set i u)
  | [], _, _, h => by obtain rfl : _ = [] := h; simp [Cels]
  | y :: r, _, 0, h => by
    obtain ⟨c0, c1, rfl, h0, h1⟩ := h
    have hl := hV.len _ _ _ _ h0
    match c0, hl with
    | [z], _ => exact ⟨[u], c1, rfl, hx, h1⟩
  | y :: r, _, i + 1, h => by
    obtain ⟨c0, c1, rfl, h0, h1⟩ := h
    have hl := hV.len _ _ _ _ h0
    match c0, hl with
    | [z], _ => exact ⟨[z], c1.set i u, rfl, h0, Cels.set hV hx r c1 i h1⟩
theorem OwnV.form (h : OwnV V e sz w base S v xs) (hpos : 0 < xs.length) : ∃ g c, v = .slice (some ⟨g, 0, none⟩) xs.length c ∧ base ≤ g ∧ g < w.heap.size ∧ xs.length ≤ c ∧ c ≤ maxLen := by
  obtain ⟨cells, hown, _⟩ := h
  rcases hown.2 with ⟨rfl, h0⟩ | ⟨g, cap, cur, rfl, hb, hh, hn, hcap, _⟩
  · omega
  · exact ⟨g, cap, rfl, hb, (Array.getElem?_eq_some_iff.1 hh).1, hn, hcap⟩
theorem Cels.get1 (hV : Tells V 1) : ∀ (xs : List α) (cs : List Value) (i : Nat) (y : α), Cels V w S xs cs → xs[i]? = some y → ∃ u, cs[i]? = some u ∧ V w S [u] y
  | [], _, _, _, _, h => by simp at h
  | x :: r, _, i, y, h, hy => by
    obtain ⟨c0, c1, rfl, h0, h1⟩ := h
    have hl := hV.len _ _ _ _ h0
    match c0, hl with
    | [z], _ =>
      rcases i with _ | i
      · simp only [List.getElem?_cons_zero, Option.some.injEq] at hy
        subst hy
        exact ⟨z, rfl, h0⟩
      · obtain ⟨u, hu, hv⟩ := Cels.get1 hV r c1 i y h1 (by simpa using hy)
        exact ⟨u, by simpa using hu, hv⟩
theorem OwnV.elem (hV : Tells V 1) {g n c : Nat} (h : OwnV V e 1 w base S (.slice (some ⟨g, 0, none⟩) n c) xs) {i : Nat} {y : α} (hy : xs[i]? = some y) : ∃ u, w.cell? ⟨g, i, none⟩ = some u ∧ V w S [u] y := by
  obtain ⟨cells, hown, hels⟩ := h
  obtain ⟨u, hu, hv⟩ := Cels.get1 hV xs cells i y hels hy
  have := hown.cells (g := g) rfl i u hu
  rw [Go.WideShapes.add_plain, Nat.zero_add] at this
  exact ⟨u, this, hv⟩
theorem OwnV.unfrozen {g n c : Nat} (h : OwnV V e sz w base S (.slice (some ⟨g, 0, none⟩) n c) xs) (i : Nat) : w.frozen? ⟨g, i, none⟩ = false := by
  obtain ⟨cells, hown, hels⟩ := h
  rcases hown.2 with ⟨he, _⟩ | ⟨g', cap, cur, he, hb, hh, _⟩
  · simp at he
  · simp only [Value.slice.injEq, Option.some.injEq, Addr.mk.injEq, and_true] at he
    obtain ⟨rfl, -, -⟩ := he
    simp [World.frozen?, hh]
theorem OwnV.set (hV : Tells V 1) {g n c : Nat} (h : OwnV V e 1 w base S (.slice (some ⟨g, 0, none⟩) n c) xs) (hn : n = xs.length) {i : Nat} {u : Value} {y : α} (hu : V w S [u] y) (hS : ∀ b, S b → b ≠ g) : OwnV V e 1 (w.setCell ⟨g, i, none⟩ u) base S (.slice (some ⟨g, 0, none⟩) n c) (xs.set i y) := by
  obtain ⟨cells, hown, hels⟩ := h
  subst hn
  obtain ⟨h1, h2⟩ := hown.stored i u
  refine ⟨cells.set i u, by rw [List.length_set]; exact h1, Cels.keep hV (fun b hb => hb) (fun b o hb => World.cell?_of_block (Below.heap_setCell w ⟨g, i, none⟩ u b (hS b hb))) _ _ (Cels.set hV hu xs cells i hels)⟩
end
end Go.Proofs.Ytdncchlfeanlmaa
