/- Rows that are shrunk and appended to again; an append as a step of a region that draws its order. No program is named here. -/
import Derived.Test.YtdncchlfeanlmaaCore
import Derived.Deep.RegionLaw
namespace Go.Proofs.Ytdncchlfeanlmaa
open Go.RowKit

/-- the slice value v is full (its capacity is its length): an append makes a new row -/
def FullV {α : Type} (V : Val α) (w : World) (base : Nat) (S : Nat → Prop) (v : Value) (xs : List α) : Prop :=
  ∃ g cells, v = .slice (some ⟨g, 0, none⟩) xs.length xs.length ∧ base ≤ g ∧ g < w.heap.size ∧ Cels V w S xs cells ∧ ∀ j u, cells[j]? = some u → w.cell? ⟨g, j, none⟩ = some u
def GrowV {α : Type} (V : Val α) (e sz : Nat) (w : World) (base : Nat) (S : Nat → Prop) (v : Value) (xs : List α) : Prop := OwnV V e sz w base S v xs ∨ FullV V w base S v xs

section
variable {α : Type} {V : Val α} {E : Ent α} {sz : Nat} {w w' : World} {S S' : Nat → Prop} {e base : Nat} {v : Value} {xs : List α}
theorem GrowV.lt (h : GrowV V e sz w base S v xs) : ∀ g, v.ownBlock = some g → base ≤ g ∧ g < w.heap.size := by
  rcases h with h | ⟨g, cells, rfl, h1, h2, _⟩
  · exact h.lt
  · intro g' hg
    injection hg with hg
    subst hg
    exact ⟨h1, h2⟩
theorem GrowV.kept (hV : Tells V sz) {row : Option Nat} (h : GrowV V e sz w base S v xs) (hg : w.grownBy w' row) (hne : v.ownBlock = none ∨ v.ownBlock ≠ row) (hS : ∀ b, S b → S' b ∧ b < w.heap.size ∧ row ≠ some b) : GrowV V e sz w' base S' v xs := by
  rcases h with h | ⟨g, cells, rfl, h1, h2, h3, h4⟩
  · exact .inl (h.kept hV hg hne hS)
  · have hn : row ≠ some g := fun e => by
      rcases hne with h | h
      · cases h
      · exact h e.symm
    exact .inr ⟨g, cells, rfl, h1, Nat.lt_of_lt_of_le h2 hg.size, Cels.keep hV (fun b hb => (hS b hb).1) (fun b o hb => only_cell hg (hS b hb).2.1 (hS b hb).2.2) _ _ h3, fun j u hu => (only_cell hg h2 hn).trans (h4 j u hu)⟩
theorem GrowV.len (h : GrowV V e sz w base S v xs) (hx : xs.length ≤ maxLen) : ∃ A c, v = .slice A xs.length c ∧ xs.length ≤ c ∧ c ≤ maxLen := by
  rcases h with h | ⟨g, cells, rfl, _⟩
  · exact h.len
  · exact ⟨_, _, rfl, Nat.le_refl _, hx⟩
theorem GrowV.form (h : GrowV V e sz w base S v xs) (hx : xs.length ≤ maxLen) : (v = .slice none 0 0 ∧ xs = []) ∨ ∃ g c, v = .slice (some ⟨g, 0, none⟩) xs.length c ∧ xs.length ≤ c ∧ c ≤ maxLen := by
  rcases h with ⟨cells, hown, _⟩ | ⟨g, cells, rfl, _⟩
  · rcases hown.2 with ⟨rfl, h0⟩ | ⟨g, cap, cur, rfl, _, _, hn, hcap, _⟩
    · exact .inl ⟨rfl, List.eq_nil_of_length_eq_zero h0⟩
    · exact .inr ⟨g, cap, rfl, hn, hcap⟩
  · exact .inr ⟨g, _, rfl, Nat.le_refl _, hx⟩
theorem GrowV.reads (hV : Tells V sz) (hE : ∀ w S b o x, AtV V w S b o x → E w S b o x) (h : GrowV V e sz w base S v xs) (hS : ∀ b, S b → S' b) (hg : ∀ g, v.ownBlock = some g → S' g) (hx : xs.length ≤ maxLen) :
    ∃ A c, v = .slice A xs.length c ∧ xs.length ≤ c ∧ c ≤ maxLen ∧ Arr E sz w S' A xs.length xs := by
  rcases h with h | ⟨g, cells, rfl, h1, h2, h3, h4⟩
  · exact h.reads hV hE hS hg
  · refine ⟨_, _, rfl, Nat.le_refl _, hx, rfl, fun i x hx => ⟨g, 0, rfl, hg g rfl, ?_⟩⟩
    have h3' : Cels V w S' xs cells := Cels.keep hV hS (fun _ _ _ => rfl) _ _ h3
    have := Cels.at_ hV (w := w) (S := S') (g := g) (cells := cells) h4 xs 0 cells h3' (fun j => by rw [Nat.zero_mul, Nat.zero_add]) i x hx
    rw [Nat.zero_add] at this
    rw [Nat.zero_add]
    exact hE _ _ _ _ _ this
/-- the cells of a row, as they lie -/
theorem GrowV.cells (h : GrowV V e sz w base S v xs) : ∃ cells, Cels V w S xs cells ∧ ∀ g, v.ownBlock = some g → ∀ j u, cells[j]? = some u → w.cell? ⟨g, j, none⟩ = some u := by
  rcases h with ⟨cells, hown, hels⟩ | ⟨g, cells, rfl, h1, h2, h3, h4⟩
  · refine ⟨cells, hels, fun g hg j u hu => ?_⟩
    have := hown.cells hg j u hu
    rwa [Go.WideShapes.add_plain, Nat.zero_add] at this
  · refine ⟨cells, h3, fun g' hg j u hu => ?_⟩
    injection hg with hg
    subst hg
    exact h4 j u hu
/-- shrunk, the capacity kept -/
theorem OwnV.shrink (hV : Tells V sz) {A : Option Addr} {n c k : Nat} (h : OwnV V e sz w base S (.slice A n c) xs) (hk : k ≤ xs.length) : OwnV V e sz w base S (.slice A k c) (xs.take k) := by
  obtain ⟨cells, hown, hels⟩ := h
  have hlen : (xs.take k).length = k := by simp; omega
  refine ⟨cells.take (k * sz), ?_, Cels.take hV _ _ k hk hels⟩
  rw [hlen]
  refine ⟨by rw [List.length_take, hown.1]; have := Nat.mul_le_mul_right sz hk; omega, ?_⟩
  rcases hown.2 with ⟨he, h0⟩ | ⟨g, cap, cur, he, hb, hh, hn, hcap, hcs, htake⟩
  · simp only [Value.slice.injEq] at he
    obtain ⟨rfl, rfl, rfl⟩ := he
    have : k = 0 := by omega
    subst this
    exact .inl ⟨rfl, rfl⟩
  · simp only [Value.slice.injEq] at he
    obtain ⟨rfl, rfl, rfl⟩ := he
    refine .inr ⟨g, c, cur, rfl, hb, hh, by omega, hcap, hcs, ?_⟩
    rw [← htake, List.take_take, Nat.min_eq_left (Nat.mul_le_mul_right sz hk)]
/-- shrunk, and its capacity with it -/
theorem GrowV.cut (hV : Tells V sz) {g n c k : Nat} (h : GrowV V e sz w base S (.slice (some ⟨g, 0, none⟩) n c) xs) (hk : k ≤ xs.length) : FullV V w base S (.slice (some ⟨g, 0, none⟩) k k) (xs.take k) := by
  have hlt := h.lt g rfl
  obtain ⟨cells, h1, h2⟩ := h.cells
  have hlen : (xs.take k).length = k := by simp; omega
  refine ⟨g, cells.take (k * sz), by rw [hlen], hlt.1, hlt.2, Cels.take hV _ _ k hk h1, fun j u hu => ?_⟩
  rw [List.getElem?_take] at hu
  split at hu
  · exact h2 g rfl j u hu
  · cases hu

theorem run_append_grow_item {P : Program} {t ty : TypeId} {bytes : Nat} (T : RowT P t e sz bytes) (hV : Tells V sz) (hown : GrowV V e sz w base S v xs)
    {g : Nat} {cs : Array Value} {t' : TypeId} {c : Nat} (hblk : Blk w g t' cs) {x : α} (hx : V w S cs.toList x) (hS : ∀ b, S b → b < w.heap.size ∧ v.ownBlock ≠ some b)
    (h63 : xs.length + 1 ≤ maxLen) (hbytes : (xs.length + 1) * bytes ≤ 140737488355328) (hbase : base ≤ w.heap.size) :
    ∃ g' cap w', (Builtin.append_ #[t, t] ty #[v, .slice (some ⟨g, 0, none⟩) 1 c]).run P w = .ok (.slice (some ⟨g', 0, none⟩) (xs.length + 1) cap) w' ∧ OwnV V e sz w' base S (.slice (some ⟨g', 0, none⟩) (xs.length + 1) cap) (xs ++ [x]) ∧
      w.grownBy w' v.ownBlock ∧ (v.ownBlock = some g' ∨ g' = w.heap.size) ∧ g' < w'.heap.size := by
  obtain ⟨ht, ⟨i, z, hi, hz, hsize, hby, hzs⟩, hpos⟩ := T
  have hl := hV.len _ _ _ _ hx
  have hnews : ∀ j u, cs.toList[j]? = some u → w.cell? ((⟨g, 0, none⟩ : Addr).add j) = some u := fun j u hj => by
    rw [Go.WideShapes.add_plain, Nat.zero_add, hblk.cell]
    simpa using hj
  rcases hown with ⟨cells, hrow, hels⟩ | ⟨g0, cells, rfl, h1, h2, h3, h4⟩
  · obtain ⟨g', cap, w', hr, h2, h3, h4, h5⟩ := run_append_lies (P := P) w t ty base e i z sz bytes ht hi hz hsize hby hzs hpos v xs.length cells hrow ⟨g, 0, none⟩ 1 c cs.toList (by omega) hnews (hV.one _ _ _ _ hx) (by omega) h63 hbytes hbase _ rfl
    exact ⟨g', cap, w', hr, OwnV.push hV hels hx h2 h3 (fun b hb => ⟨hb, hS b hb⟩), h3, h4, h5⟩
  · subst hsize
    subst hby
    have hcl := h3.len hV
    have hr := run_append_grow (P := P) w t ty e i z ht hi hz ⟨g0, 0, none⟩ xs.length xs.length cells hcl (fun j u hu => by rw [Go.WideShapes.add_plain, Nat.zero_add]; exact h4 j u hu) ⟨g, 0, none⟩ 1 c cs.toList (by omega) hnews (by omega) (by unfold maxLen at h63; omega) (growslice_fits (by omega) hbytes)
    have hge := grownCap_ge w (xs.length + 1) xs.length e
    have hcm2 : grownCap w (xs.length + 1) xs.length e ≤ maxLen := grownCap_le_maxLen w (xs.length + 1) xs.length e h63
    refine ⟨w.heap.size, _, _, hr, ?_, ⟨rfl, rfl, rfl, by simp, fun k hk _ => (Below.heap_alloc w.drew _ k hk)⟩, .inr rfl, by simp⟩
    refine OwnV.push (w := w) hV h3 hx (v := .slice (some ⟨g0, 0, none⟩) xs.length xs.length) ⟨by rw [List.length_append, hcl, hl, Nat.add_mul, Nat.one_mul], .inr ⟨w.heap.size, _, _, rfl, hbase, heap_alloc_new w.drew _, hge, hcm2, ?_, ?_⟩⟩ ⟨rfl, rfl, rfl, by simp, fun k hk _ => (Below.heap_alloc w.drew _ k hk)⟩ (fun b hb => ⟨hb, hS b hb⟩)
    · simp only [Array.size_append, List.size_toArray, size_zeroCells, hzs, hcl, hl]
      have : (xs.length + 1) * i.size ≤ grownCap w (xs.length + 1) xs.length e * i.size := Nat.mul_le_mul_right _ hge
      rw [Nat.sub_mul]
      rw [Nat.add_mul, Nat.one_mul] at this ⊢
      omega
    · simp only [Array.toList_append, List.append_assoc]
      rw [← List.append_assoc, show (xs.length + 1) * i.size = (cells ++ cs.toList).length from by rw [List.length_append, hcl, hl, Nat.add_mul, Nat.one_mul]]
      exact List.take_left

theorem step_append_item {P : Program} {ops : Array Oper} {o : Oper} {a : Act} {K : Act → World → Prop} {Q : Exit → Act → World → Prop} {E0 : Prop} (hgd : o.guard = none) (s x : Operand) (t : TypeId)
    (ho : o.op = .call { callee := .builtin .append, args := #[s, x], argTypes := #[t, t] }) {bytes : Nat} (T : RowT P t e sz bytes) (hV : Tells V sz)
    (hs : a.eval s = v) (hown : GrowV V e sz w base S v xs) {g : Nat} {cs : Array Value} {t' : TypeId} {c : Nat} (hxe : a.eval x = .slice (some ⟨g, 0, none⟩) 1 c) (hblk : Blk w g t' cs) {y : α} (hx : V w S cs.toList y)
    (hS : ∀ b, S b → b < w.heap.size ∧ v.ownBlock ≠ some b) (h63 : xs.length + 1 ≤ maxLen) (hbytes : (xs.length + 1) * bytes ≤ 140737488355328) (hbase : base ≤ w.heap.size)
    (h : ∀ g' cap w', OwnV V e sz w' base S (.slice (some ⟨g', 0, none⟩) (xs.length + 1) cap) (xs ++ [y]) → w.grownBy w' v.ownBlock → (v.ownBlock = some g' ∨ g' = w.heap.size) → g' < w'.heap.size → K (a.put o.dst (.slice (some ⟨g', 0, none⟩) (xs.length + 1) cap)) w') :
    if Region.wanted o (yielded ops a.tmps) = true then Oper.wp P o a w K Q else E0 := by
  have hw : Region.wanted o (yielded ops a.tmps) = true := by simp [Region.wanted, hgd]
  rw [if_pos hw]
  obtain ⟨g', cap, w', hr, h2, h3, h4, h5⟩ := run_append_grow_item (P := P) (ty := o.type) (c := c) T hV hown hblk hx hS h63 hbytes hbase
  unfold Oper.wp execOp
  simp only [ho, resolve, invoke, builtin, Sem.run_bind, Sem.run_pure, Result.andThen_ok, List.map_toArray, List.map_cons, List.map_nil, hs, hxe, hr]
  exact h g' cap w' h2 h3 h4 h5
end
end Go.Proofs.Ytdncchlfeanlmaa
