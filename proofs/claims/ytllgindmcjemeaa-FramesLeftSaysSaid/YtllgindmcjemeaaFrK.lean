/- The reference's frames: each with its own clauses: plain, and in memory. -/
import Derived.Test.YtllgindmcjemeaaFrI
import Derived.Test.YtllgindmcjemeaaFrJ
namespace Go.Proofs.Ytllgindmcjemeaa
open Go.RowKit

def addF (cs : Cl) : List Cl → List Cl
  | [] => []
  | x :: r => (cs ++ x) :: r
def ownOf (F : FormD) (r : List Cl) (last : Cl) : List Cl := addF F.clauses (r.reverse ++ [last])
theorem addF_len (cs : Cl) : ∀ l : List Cl, (addF cs l).length = l.length
  | [] => rfl
  | _ :: _ => rfl
theorem addF_app {cs : Cl} {l : List Cl} (h : l ≠ []) (m : List Cl) : addF cs (l ++ m) = addF cs l ++ m := by
  cases l with
  | nil => exact absurd rfl h
  | cons x r => rfl
theorem addF_flat {cs : Cl} {l : List Cl} (h : l ≠ []) : (addF cs l).flatten = cs ++ l.flatten := by
  cases l with
  | nil => exact absurd rfl h
  | cons x r => simp [addF]
theorem ownOf_len (F : FormD) (r : List Cl) (last : Cl) : (ownOf F r last).length = r.length + 1 := by simp [ownOf, addF_len]
theorem ownOf_push (F : FormD) (r : List Cl) (last : Cl) : ownOf F (last :: r) [] = ownOf F r last ++ [[]] := by
  simp only [ownOf, List.reverse_cons]
  exact addF_app (by simp) [[]]
theorem ownOf_pop (F : FormD) (x : Cl) (r : List Cl) (last : Cl) : (ownOf F (x :: r) last).take (r.length + 1) = ownOf F r x := by
  simp only [ownOf, List.reverse_cons]
  rw [addF_app (by simp) [last], List.take_left' (by simp [addF_len])]
theorem ownOf_flat (F : FormD) (r : List Cl) (last : Cl) : (ownOf F r last).flatten = F.clauses ++ clOf r last := by
  rw [ownOf, addF_flat (by simp)]
  simp [clOf]
theorem ownOf_hold (F : FormD) (r : List Cl) (last : Cl) (c : List Int) : ∃ y, (ownOf F r last)[r.length]? = some y ∧ ownOf F r (last ++ [c]) = (ownOf F r last).set r.length (y ++ [c]) := by
  cases r with
  | nil => exact ⟨F.clauses ++ last, rfl, by simp [ownOf, addF]⟩
  | cons x r =>
    refine ⟨last, ?_, ?_⟩
    · simp only [ownOf, List.reverse_cons]
      rw [addF_app (by simp) [last], List.getElem?_append_right (by simp [addF_len])]
      simp [addF_len]
    · simp only [ownOf, List.reverse_cons]
      rw [addF_app (by simp) [last], addF_app (by simp) [last ++ [c]], List.set_append_right _ _ (by simp [addF_len])]
      simp [addF_len]
theorem ownOf_elem_len {F : FormD} {r : List Cl} {last : Cl} (h : F.clauses.length + (clOf r last).length ≤ 400) {y : Cl} {i : Nat} (hy : (ownOf F r last)[i]? = some y) : y.length ≤ 400 := by
  have h1 : y.length ≤ (ownOf F r last).flatten.length := by
    obtain ⟨hi, rfl⟩ := List.getElem?_eq_some_iff.1 hy
    exact (List.sublist_flatten_of_mem (List.getElem_mem hi)).length_le
  rw [ownOf_flat, List.length_append] at h1
  omega

theorem own_sum {F : FormD} {r : List Cl} {last : Cl} (c : List Int) (h : F.clauses.length + (clOf r last).length ≤ 400) : sumLen (ownOf F r (last ++ [c])) ≤ 100000 ∧ (F.clauses ++ clOf r (last ++ [c])).length ≤ 401 := by
  rw [sumLen_flat, ownOf_flat, clOf_hold]
  simp only [List.length_append, List.length_cons, List.length_nil]
  omega
theorem own_sum0 {F : FormD} {r : List Cl} {last : Cl} (h : F.clauses.length + (clOf r last).length ≤ 400) : sumLen (ownOf F r last) ≤ 100000 ∧ (F.clauses ++ clOf r last).length ≤ 401 := by
  rw [sumLen_flat, ownOf_flat]
  simp only [List.length_append]
  omega

abbrev VRows : Val Cl := VArr (AtArr AtInt 1) 1
theorem tells_rows' : Tells VRows 1 := tells_arr (stays_arr stays_int)
theorem infoRows : (Try.prog.info? 36).map (fun i => (i.zero, i.size, i.bytes)) = some (some (.slice none 0 0), 1, 24) := by kernel_rfl
theorem rowRowss : RowT Try.prog 128 36 1 24 := rowT_of Try.underlying128 infoRows rfl (by omega)

section
variable {α : Type} {V : Val α} {sz : Nat} {w wr w3 : World} {S : Nat → Prop} {e base : Nat} {v : Value} {xs : List α}
theorem OwnV.form (h : OwnV V e sz w base S v xs) (hpos : 0 < xs.length) : ∃ g c, v = .slice (some ⟨g, 0, none⟩) xs.length c ∧ base ≤ g ∧ g < w.heap.size ∧ xs.length ≤ c ∧ c ≤ maxLen := by
  obtain ⟨cells, hown, _⟩ := h
  rcases hown.2 with ⟨rfl, h0⟩ | ⟨g, cap, cur, rfl, hb, hh, hn, hcap, _⟩
  · omega
  · exact ⟨g, cap, rfl, hb, (Array.getElem?_eq_some_iff.1 hh).1, hn, hcap⟩
theorem Cels.get1 (hV : Tells V 1) : ∀ (xs : List α) (cs : List Value) (i : Nat) (y : α), Cels V w S xs cs → xs[i]? = some y → ∃ u, cs[i]? = some u ∧ V w S [u] y
  | [], _, _, _, _, h => by simp at h
  | x :: r, _, i, y, h, hy => by
    obtain ⟨c0, c1, rfl, h0, h1⟩ := h
    have hl := hV.len _ _ _ _ h0
    match c0, hl with
    | [z], _ =>
      rcases i with _ | i
      · simp only [List.getElem?_cons_zero, Option.some.injEq] at hy
        subst hy
        exact ⟨z, rfl, h0⟩
      · obtain ⟨u, hu, hv⟩ := Cels.get1 hV r c1 i y h1 (by simpa using hy)
        exact ⟨u, by simpa using hu, hv⟩
theorem OwnV.elem (hV : Tells V 1) {g n c : Nat} (h : OwnV V e 1 w base S (.slice (some ⟨g, 0, none⟩) n c) xs) {i : Nat} {y : α} (hy : xs[i]? = some y) : ∃ u, w.cell? ⟨g, i, none⟩ = some u ∧ V w S [u] y := by
  obtain ⟨cells, hown, hels⟩ := h
  obtain ⟨u, hu, hv⟩ := Cels.get1 hV xs cells i y hels hy
  have := hown.cells (g := g) rfl i u hu
  rw [Go.WideShapes.add_plain, Nat.zero_add] at this
  exact ⟨u, this, hv⟩
theorem OwnV.unfrozen {g n c : Nat} (h : OwnV V e sz w base S (.slice (some ⟨g, 0, none⟩) n c) xs) (i : Nat) : w.frozen? ⟨g, i, none⟩ = false := by
  obtain ⟨cells, hown, hels⟩ := h
  rcases hown.2 with ⟨he, _⟩ | ⟨g', cap, cur, he, hb, hh, _⟩
  · simp at he
  · simp only [Value.slice.injEq, Option.some.injEq, Addr.mk.injEq, and_true] at he
    obtain ⟨rfl, -, -⟩ := he
    simp [World.frozen?, hh]
theorem OwnV.set (hV : Tells V 1) {g n c : Nat} (h : OwnV V e 1 w base S (.slice (some ⟨g, 0, none⟩) n c) xs) (hn : n = xs.length) {i : Nat} {u : Value} {y : α} (hu : V w S [u] y) (hS : ∀ b, S b → b ≠ g) : OwnV V e 1 (w.setCell ⟨g, i, none⟩ u) base S (.slice (some ⟨g, 0, none⟩) n c) (xs.set i y) := by
  obtain ⟨cells, hown, hels⟩ := h
  subst hn
  obtain ⟨h1, h2⟩ := hown.stored i u
  refine ⟨cells.set i u, by rw [List.length_set]; exact h1, Cels.keep hV (fun b hb => hb) (fun b o hb => World.cell?_of_block (Below.heap_setCell w ⟨g, i, none⟩ u b (hS b hb))) _ _ (Cels.set hV hu xs cells i hels)⟩
end

/-- blocks below H (what came in) or from B on (what the call makes in its loop), but block g -/
def SR (H B : Nat) (w : World) (g : Nat) : Nat → Prop := fun b => (b < H ∨ B ≤ b) ∧ b < w.heap.size ∧ b ≠ g
abbrev OwnFr (H B : Nat) (w : World) (g n c : Nat) (xs : List Cl) : Prop := OwnV VRows 36 1 w B (SR H B w g) (.slice (some ⟨g, 0, none⟩) n c) xs

section
variable {H B : Nat} {w w' wX w3 : World} {g n c : Nat} {xs : List Cl}
theorem OwnFr.step (h : OwnFr H B w g n c xs) (hg : w.grownBy w' none) : OwnFr H B w' g n c xs :=
  h.kept tells_rows' hg (.inr (by simp [Value.ownBlock])) (fun b hb => ⟨⟨hb.1, Nat.lt_of_lt_of_le hb.2.1 hg.size, hb.2.2⟩, hb.2.1, by simp⟩)
theorem OwnFr.push (h : OwnFr H B w g n c xs) {g' n' c' : Nat} {y : Cl} (hown : OwnV VRows 36 1 w3 B (SR H B w g) (.slice (some ⟨g', 0, none⟩) n' c') (xs ++ [y])) (hg : w.grownBy w3 (some g)) (hat : g' = g ∨ g' = w.heap.size) : OwnFr H B w3 g' n' c' (xs ++ [y]) :=
  hown.kept tells_rows' (only_refl w3 none) (.inr (by simp [Value.ownBlock])) (fun b hb => ⟨⟨hb.1, Nat.lt_of_lt_of_le hb.2.1 hg.size, by rcases hat with rfl | rfl; exact hb.2.2; exact Nat.ne_of_lt hb.2.1⟩, Nat.lt_of_lt_of_le hb.2.1 hg.size, by simp⟩)
end
end Go.Proofs.Ytllgindmcjemeaa
