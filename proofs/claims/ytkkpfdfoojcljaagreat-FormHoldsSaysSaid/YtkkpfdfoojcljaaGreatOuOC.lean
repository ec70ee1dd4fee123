/- Rows of the call's own whose things are written anew, one by one. No program is named here. · Rows that are shrunk and appended to again; an append as a step of a region that draws its order. No program is named here. · Forms in memory: their atoms, the whole form. No program is named here. · Rows that a call builds one by one and keeps in a struct of its own; terms and atoms told by their cells. · A block that is known whole, as a list of things. No program is named here. -/
import Derived.Test.YtkkpfdfoojcljaaGreatCore
import Derived.Deep.RegionLaw
import Derived.Test.YtkkpfdfoojcljaaGreatCnFr
namespace Go.Proofs.YtkkpfdfoojcljaaGreat
open Go.RowKit

section
variable {α : Type} {V : Val α} {sz : Nat} {w : World} {S : Nat → Prop} {e base : Nat} {v : Value} {xs : List α}
/-- one thing of one cell is written anew -/
theorem Cels.set (hV : Tells V 1) {x : α} {u : Value} (hx : V w S [u] x) : ∀ (xs : List α) (cs : List Value) (i : Nat), Cels V w S xs cs → Cels V w S (xs.set i x) (cs.set i u)
  | [], _, _, h => by obtain rfl : _ = [] := h; simp [Cels]
  | y :: r, _, 0, h => by
    obtain ⟨c0, c1, rfl, h0, h1⟩ := h
    have hl := hV.len _ _ _ _ h0
    match c0, hl with
    | [z], _ => exact ⟨[u], c1, rfl, hx, h1⟩
  | y :: r, _, i + 1, h => by
    obtain ⟨c0, c1, rfl, h0, h1⟩ := h
    have hl := hV.len _ _ _ _ h0
    match c0, hl with
    | [z], _ => exact ⟨[z], c1.set i u, rfl, h0, Cels.set hV hx r c1 i h1⟩
theorem OwnV.form (h : OwnV V e sz w base S v xs) (hpos : 0 < xs.length) : ∃ g c, v = .slice (some ⟨g, 0, none⟩) xs.length c ∧ base ≤ g ∧ g < w.heap.size ∧ xs.length ≤ c ∧ c ≤ maxLen := by
  obtain ⟨cells, hown, _⟩ := h
  rcases hown.2 with ⟨rfl, h0⟩ | ⟨g, cap, cur, rfl, hb, hh, hn, hcap, _⟩
  · omega
  · exact ⟨g, cap, rfl, hb, (Array.getElem?_eq_some_iff.1 hh).1, hn, hcap⟩
theorem Cels.get1 (hV : Tells V 1) : ∀ (xs : List α) (cs : List Value) (i : Nat) (y : α), Cels V w S xs cs → xs[i]? = some y → ∃ u, cs[i]? = some u ∧ V w S [u] y
  | [], _, _, _, _, h => by simp at h
  | x :: r, _, i, y, h, hy => by
    obtain ⟨c0, c1, rfl, h0, h1⟩ := h
    have hl := hV.len _ _ _ _ h0
    match c0, hl with
    | [z], _ =>
      rcases i with _ | i
      · simp only [List.getElem?_cons_zero, Option.some.injEq] at hy
        subst hy
        exact ⟨z, rfl, h0⟩
      · obtain ⟨u, hu, hv⟩ := Cels.get1 hV r c1 i y h1 (by simpa using hy)
        exact ⟨u, by simpa using hu, hv⟩
theorem OwnV.elem (hV : Tells V 1) {g n c : Nat} (h : OwnV V e 1 w base S (.slice (some ⟨g, 0, none⟩) n c) xs) {i : Nat} {y : α} (hy : xs[i]? = some y) : ∃ u, w.cell? ⟨g, i, none⟩ = some u ∧ V w S [u] y := by
  obtain ⟨cells, hown, hels⟩ := h
  obtain ⟨u, hu, hv⟩ := Cels.get1 hV xs cells i y hels hy
  have := hown.cells (g := g) rfl i u hu
  rw [Go.WideShapes.add_plain, Nat.zero_add] at this
  exact ⟨u, this, hv⟩
theorem OwnV.unfrozen {g n c : Nat} (h : OwnV V e sz w base S (.slice (some ⟨g, 0, none⟩) n c) xs) (i : Nat) : w.frozen? ⟨g, i, none⟩ = false := by
  obtain ⟨cells, hown, hels⟩ := h
  rcases hown.2 with ⟨he, _⟩ | ⟨g', cap, cur, he, hb, hh, _⟩
  · simp at he
  · simp only [Value.slice.injEq, Option.some.injEq, Addr.mk.injEq, and_true] at he
    obtain ⟨rfl, -, -⟩ := he
    simp [World.frozen?, hh]
theorem OwnV.set (hV : Tells V 1) {g n c : Nat} (h : OwnV V e 1 w base S (.slice (some ⟨g, 0, none⟩) n c) xs) (hn : n = xs.length) {i : Nat} {u : Value} {y : α} (hu : V w S [u] y) (hS : ∀ b, S b → b ≠ g) : OwnV V e 1 (w.setCell ⟨g, i, none⟩ u) base S (.slice (some ⟨g, 0, none⟩) n c) (xs.set i y) := by
  obtain ⟨cells, hown, hels⟩ := h
  subst hn
  obtain ⟨h1, h2⟩ := hown.stored i u
  refine ⟨cells.set i u, by rw [List.length_set]; exact h1, Cels.keep hV (fun b hb => hb) (fun b o hb => World.cell?_of_block (Below.heap_setCell w ⟨g, i, none⟩ u b (hS b hb))) _ _ (Cels.set hV hu xs cells i hels)⟩
end
end Go.Proofs.YtkkpfdfoojcljaaGreat
namespace Go.Proofs.YtkkpfdfoojcljaaGreat
open Go.RowKit

/-- the slice value v is full (its capacity is its length): an append makes a new row -/
def FullV {α : Type} (V : Val α) (w : World) (base : Nat) (S : Nat → Prop) (v : Value) (xs : List α) : Prop :=
  ∃ g cells, v = .slice (some ⟨g, 0, none⟩) xs.length xs.length ∧ base ≤ g ∧ g < w.heap.size ∧ Cels V w S xs cells ∧ ∀ j u, cells[j]? = some u → w.cell? ⟨g, j, none⟩ = some u
def GrowV {α : Type} (V : Val α) (e sz : Nat) (w : World) (base : Nat) (S : Nat → Prop) (v : Value) (xs : List α) : Prop := OwnV V e sz w base S v xs ∨ FullV V w base S v xs

section
variable {α : Type} {V : Val α} {E : Ent α} {sz : Nat} {w w' : World} {S S' : Nat → Prop} {e base : Nat} {v : Value} {xs : List α}
theorem GrowV.lt (h : GrowV V e sz w base S v xs) : ∀ g, v.ownBlock = some g → base ≤ g ∧ g < w.heap.size := by
  rcases h with h | ⟨g, cells, rfl, h1, h2, _⟩
  · exact h.lt
  · intro g' hg
    injection hg with hg
    subst hg
    exact ⟨h1, h2⟩
theorem GrowV.kept (hV : Tells V sz) {row : Option Nat} (h : GrowV V e sz w base S v xs) (hg : w.grownBy w' row) (hne : v.ownBlock = none ∨ v.ownBlock ≠ row) (hS : ∀ b, S b → S' b ∧ b < w.heap.size ∧ row ≠ some b) : GrowV V e sz w' base S' v xs := by
  rcases h with h | ⟨g, cells, rfl, h1, h2, h3, h4⟩
  · exact .inl (h.kept hV hg hne hS)
  · have hn : row ≠ some g := fun e => by
      rcases hne with h | h
      · cases h
      · exact h e.symm
    exact .inr ⟨g, cells, rfl, h1, Nat.lt_of_lt_of_le h2 hg.size, Cels.keep hV (fun b hb => (hS b hb).1) (fun b o hb => only_cell hg (hS b hb).2.1 (hS b hb).2.2) _ _ h3, fun j u hu => (only_cell hg h2 hn).trans (h4 j u hu)⟩
theorem GrowV.len (h : GrowV V e sz w base S v xs) (hx : xs.length ≤ maxLen) : ∃ A c, v = .slice A xs.length c ∧ xs.length ≤ c ∧ c ≤ maxLen := by
  rcases h with h | ⟨g, cells, rfl, _⟩
  · exact h.len
  · exact ⟨_, _, rfl, Nat.le_refl _, hx⟩
theorem GrowV.form (h : GrowV V e sz w base S v xs) (hx : xs.length ≤ maxLen) : (v = .slice none 0 0 ∧ xs = []) ∨ ∃ g c, v = .slice (some ⟨g, 0, none⟩) xs.length c ∧ xs.length ≤ c ∧ c ≤ maxLen := by
  rcases h with ⟨cells, hown, _⟩ | ⟨g, cells, rfl, _⟩
  · rcases hown.2 with ⟨rfl, h0⟩ | ⟨g, cap, cur, rfl, _, _, hn, hcap, _⟩
    · exact .inl ⟨rfl, List.eq_nil_of_length_eq_zero h0⟩
    · exact .inr ⟨g, cap, rfl, hn, hcap⟩
  · exact .inr ⟨g, _, rfl, Nat.le_refl _, hx⟩
theorem GrowV.reads (hV : Tells V sz) (hE : ∀ w S b o x, AtV V w S b o x → E w S b o x) (h : GrowV V e sz w base S v xs) (hS : ∀ b, S b → S' b) (hg : ∀ g, v.ownBlock = some g → S' g) (hx : xs.length ≤ maxLen) :
    ∃ A c, v = .slice A xs.length c ∧ xs.length ≤ c ∧ c ≤ maxLen ∧ Arr E sz w S' A xs.length xs := by
  rcases h with h | ⟨g, cells, rfl, h1, h2, h3, h4⟩
  · exact h.reads hV hE hS hg
  · refine ⟨_, _, rfl, Nat.le_refl _, hx, rfl, fun i x hx => ⟨g, 0, rfl, hg g rfl, ?_⟩⟩
    have h3' : Cels V w S' xs cells := Cels.keep hV hS (fun _ _ _ => rfl) _ _ h3
    have := Cels.at_ hV (w := w) (S := S') (g := g) (cells := cells) h4 xs 0 cells h3' (fun j => by rw [Nat.zero_mul, Nat.zero_add]) i x hx
    rw [Nat.zero_add] at this
    rw [Nat.zero_add]
    exact hE _ _ _ _ _ this
/-- the cells of a row, as they lie -/
theorem GrowV.cells (h : GrowV V e sz w base S v xs) : ∃ cells, Cels V w S xs cells ∧ ∀ g, v.ownBlock = some g → ∀ j u, cells[j]? = some u → w.cell? ⟨g, j, none⟩ = some u := by
  rcases h with ⟨cells, hown, hels⟩ | ⟨g, cells, rfl, h1, h2, h3, h4⟩
  · refine ⟨cells, hels, fun g hg j u hu => ?_⟩
    have := hown.cells hg j u hu
    rwa [Go.WideShapes.add_plain, Nat.zero_add] at this
  · refine ⟨cells, h3, fun g' hg j u hu => ?_⟩
    injection hg with hg
    subst hg
    exact h4 j u hu
/-- shrunk, the capacity kept -/
theorem OwnV.shrink (hV : Tells V sz) {A : Option Addr} {n c k : Nat} (h : OwnV V e sz w base S (.slice A n c) xs) (hk : k ≤ xs.length) : OwnV V e sz w base S (.slice A k c) (xs.take k) := by
  obtain ⟨cells, hown, hels⟩ := h
  have hlen : (xs.take k).length = k := by simp; omega
  refine ⟨cells.take (k * sz), ?_, Cels.take hV _ _ k hk hels⟩
  rw [hlen]
  refine ⟨by rw [List.length_take, hown.1]; have := Nat.mul_le_mul_right sz hk; omega, ?_⟩
  rcases hown.2 with ⟨he, h0⟩ | ⟨g, cap, cur, he, hb, hh, hn, hcap, hcs, htake⟩
  · simp only [Value.slice.injEq] at he
    obtain ⟨rfl, rfl, rfl⟩ := he
    have : k = 0 := by omega
    subst this
    exact .inl ⟨rfl, rfl⟩
  · simp only [Value.slice.injEq] at he
    obtain ⟨rfl, rfl, rfl⟩ := he
    refine .inr ⟨g, c, cur, rfl, hb, hh, by omega, hcap, hcs, ?_⟩
    rw [← htake, List.take_take, Nat.min_eq_left (Nat.mul_le_mul_right sz hk)]
/-- shrunk, and its capacity with it -/
theorem GrowV.cut (hV : Tells V sz) {g n c k : Nat} (h : GrowV V e sz w base S (.slice (some ⟨g, 0, none⟩) n c) xs) (hk : k ≤ xs.length) : FullV V w base S (.slice (some ⟨g, 0, none⟩) k k) (xs.take k) := by
  have hlt := h.lt g rfl
  obtain ⟨cells, h1, h2⟩ := h.cells
  have hlen : (xs.take k).length = k := by simp; omega
  refine ⟨g, cells.take (k * sz), by rw [hlen], hlt.1, hlt.2, Cels.take hV _ _ k hk h1, fun j u hu => ?_⟩
  rw [List.getElem?_take] at hu
  split at hu
  · exact h2 g rfl j u hu
  · cases hu

theorem run_append_grow_item {P : Program} {t ty : TypeId} {bytes : Nat} (T : RowT P t e sz bytes) (hV : Tells V sz) (hown : GrowV V e sz w base S v xs)
    {g : Nat} {cs : Array Value} {t' : TypeId} {c : Nat} (hblk : Blk w g t' cs) {x : α} (hx : V w S cs.toList x) (hS : ∀ b, S b → b < w.heap.size ∧ v.ownBlock ≠ some b)
    (h63 : xs.length + 1 ≤ maxLen) (hbytes : (xs.length + 1) * bytes ≤ 140737488355328) (hbase : base ≤ w.heap.size) :
    ∃ g' cap w', (Builtin.append_ #[t, t] ty #[v, .slice (some ⟨g, 0, none⟩) 1 c]).run P w = .ok (.slice (some ⟨g', 0, none⟩) (xs.length + 1) cap) w' ∧ OwnV V e sz w' base S (.slice (some ⟨g', 0, none⟩) (xs.length + 1) cap) (xs ++ [x]) ∧
      w.grownBy w' v.ownBlock ∧ (v.ownBlock = some g' ∨ g' = w.heap.size) ∧ g' < w'.heap.size := by
  obtain ⟨ht, ⟨i, z, hi, hz, hsize, hby, hzs⟩, hpos⟩ := T
  have hl := hV.len _ _ _ _ hx
  have hnews : ∀ j u, cs.toList[j]? = some u → w.cell? ((⟨g, 0, none⟩ : Addr).add j) = some u := fun j u hj => by
    rw [Go.WideShapes.add_plain, Nat.zero_add, hblk.cell]
    simpa using hj
  rcases hown with ⟨cells, hrow, hels⟩ | ⟨g0, cells, rfl, h1, h2, h3, h4⟩
  · obtain ⟨g', cap, w', hr, h2, h3, h4, h5⟩ := run_append_lies (P := P) w t ty base e i z sz bytes ht hi hz hsize hby hzs hpos v xs.length cells hrow ⟨g, 0, none⟩ 1 c cs.toList (by omega) hnews (hV.one _ _ _ _ hx) (by omega) h63 hbytes hbase _ rfl
    exact ⟨g', cap, w', hr, OwnV.push hV hels hx h2 h3 (fun b hb => ⟨hb, hS b hb⟩), h3, h4, h5⟩
  · subst hsize
    subst hby
    have hcl := h3.len hV
    have hr := run_append_grow (P := P) w t ty e i z ht hi hz ⟨g0, 0, none⟩ xs.length xs.length cells hcl (fun j u hu => by rw [Go.WideShapes.add_plain, Nat.zero_add]; exact h4 j u hu) ⟨g, 0, none⟩ 1 c cs.toList (by omega) hnews (by omega) (by unfold maxLen at h63; omega) (growslice_fits (by omega) hbytes)
    have hge := grownCap_ge w (xs.length + 1) xs.length e
    have hcm2 : grownCap w (xs.length + 1) xs.length e ≤ maxLen := grownCap_le_maxLen w (xs.length + 1) xs.length e h63
    refine ⟨w.heap.size, _, _, hr, ?_, ⟨rfl, rfl, rfl, by simp, fun k hk _ => (Below.heap_alloc w.drew _ k hk)⟩, .inr rfl, by simp⟩
    refine OwnV.push (w := w) hV h3 hx (v := .slice (some ⟨g0, 0, none⟩) xs.length xs.length) ⟨by rw [List.length_append, hcl, hl, Nat.add_mul, Nat.one_mul], .inr ⟨w.heap.size, _, _, rfl, hbase, heap_alloc_new w.drew _, hge, hcm2, ?_, ?_⟩⟩ ⟨rfl, rfl, rfl, by simp, fun k hk _ => (Below.heap_alloc w.drew _ k hk)⟩ (fun b hb => ⟨hb, hS b hb⟩)
    · simp only [Array.size_append, List.size_toArray, size_zeroCells, hzs, hcl, hl]
      have : (xs.length + 1) * i.size ≤ grownCap w (xs.length + 1) xs.length e * i.size := Nat.mul_le_mul_right _ hge
      rw [Nat.sub_mul]
      rw [Nat.add_mul, Nat.one_mul] at this ⊢
      omega
    · simp only [Array.toList_append, List.append_assoc]
      rw [← List.append_assoc, show (xs.length + 1) * i.size = (cells ++ cs.toList).length from by rw [List.length_append, hcl, hl, Nat.add_mul, Nat.one_mul]]
      exact List.take_left

theorem step_append_item {P : Program} {ops : Array Oper} {o : Oper} {a : Act} {K : Act → World → Prop} {Q : Exit → Act → World → Prop} {E0 : Prop} (hgd : o.guard = none) (s x : Operand) (t : TypeId)
    (ho : o.op = .call { callee := .builtin .append, args := #[s, x], argTypes := #[t, t] }) {bytes : Nat} (T : RowT P t e sz bytes) (hV : Tells V sz)
    (hs : a.eval s = v) (hown : GrowV V e sz w base S v xs) {g : Nat} {cs : Array Value} {t' : TypeId} {c : Nat} (hxe : a.eval x = .slice (some ⟨g, 0, none⟩) 1 c) (hblk : Blk w g t' cs) {y : α} (hx : V w S cs.toList y)
    (hS : ∀ b, S b → b < w.heap.size ∧ v.ownBlock ≠ some b) (h63 : xs.length + 1 ≤ maxLen) (hbytes : (xs.length + 1) * bytes ≤ 140737488355328) (hbase : base ≤ w.heap.size)
    (h : ∀ g' cap w', OwnV V e sz w' base S (.slice (some ⟨g', 0, none⟩) (xs.length + 1) cap) (xs ++ [y]) → w.grownBy w' v.ownBlock → (v.ownBlock = some g' ∨ g' = w.heap.size) → g' < w'.heap.size → K (a.put o.dst (.slice (some ⟨g', 0, none⟩) (xs.length + 1) cap)) w') :
    if Region.wanted o (yielded ops a.tmps) = true then Oper.wp P o a w K Q else E0 := by
  have hw : Region.wanted o (yielded ops a.tmps) = true := by simp [Region.wanted, hgd]
  rw [if_pos hw]
  obtain ⟨g', cap, w', hr, h2, h3, h4, h5⟩ := run_append_grow_item (P := P) (ty := o.type) (c := c) T hV hown hblk hx hS h63 hbytes hbase
  unfold Oper.wp execOp
  simp only [ho, resolve, invoke, builtin, Sem.run_bind, Sem.run_pure, Result.andThen_ok, List.map_toArray, List.map_cons, List.map_nil, hs, hxe, hr]
  exact h g' cap w' h2 h3 h4 h5
end
end Go.Proofs.YtkkpfdfoojcljaaGreat
namespace Go.Proofs.YtkkpfdfoojcljaaGreat
open Go.RowKit

theorem atoms_get {w : World} {B : Nat} {A : Option Addr} {n : Nat} {xs : List AtomD} (h : ArrB AtAtom 6 w B A n xs) {i : Nat} (hi : i < n) :
    ∃ (b off : Nat) (hx : i < xs.length) (A' : Option Addr) (n' c' : Nat), A = some ⟨b, off, none⟩ ∧ b < B ∧ w.cell? ⟨b, off + i * 6, none⟩ = some (.int .i64 xs[i].kind) ∧ w.cell? ⟨b, off + i * 6 + 1, none⟩ = some (.int .i64 xs[i].a) ∧
      w.cell? ⟨b, off + i * 6 + 2, none⟩ = some (.int .i64 xs[i].b) ∧ w.cell? ⟨b, off + i * 6 + 3, none⟩ = some (.slice A' n' c') ∧ w.cell? ⟨b, off + i * 6 + 4, none⟩ = some (.int .i64 xs[i].row.kind) ∧
      w.cell? ⟨b, off + i * 6 + 5, none⟩ = some (.int .i64 xs[i].row.to_) ∧ n' ≤ c' ∧ c' ≤ maxLen ∧ IntsB w B A' n' xs[i].row.of_ ∧ I64 xs[i].row.to_ := by
  obtain ⟨b, off, hx, e, hb, ⟨h0, _⟩, ⟨h1, _⟩, ⟨h2, _⟩, ⟨A', n', c', hc, h3, h4, h5⟩, ⟨h6, _⟩, ⟨h7, h8⟩⟩ := Arr.get h hi
  exact ⟨b, off, hx, A', n', c', e, hb, h0, h1, h2, hc, h6, h7, h3, h4, h5, h8⟩

/-- a form whose four slices are as told, in blocks below B -/
structure FormB (w : World) (B : Nat) (A1 A2 A3 A4 : Option Addr) (n1 n2 n3 n4 : Nat) (F : FormD) : Prop where
  terms : ArrB AtTerm 2 w B A1 n1 F.terms
  ints : ArrB AtBool 1 w B A2 n2 F.ints
  atoms : ArrB AtAtom 6 w B A3 n3 F.atoms
  clauses : ArrB (AtArr AtInt 1) 1 w B A4 n4 F.clauses
  m1 : n1 ≤ 9223372036854775807
  m2 : n2 ≤ 9223372036854775807
  m3 : n3 ≤ 9223372036854775807
  m4 : n4 ≤ 9223372036854775807
theorem FormB.below {w w' : World} {B B' : Nat} {A1 A2 A3 A4 : Option Addr} {n1 n2 n3 n4 : Nat} {F : FormD} (h : FormB w B A1 A2 A3 A4 n1 n2 n3 n4 F) (hb : Below B w w') (hB : B ≤ B') : FormB w' B' A1 A2 A3 A4 n1 n2 n3 n4 F :=
  ⟨h.terms.below stays_term hb hB, h.ints.below stays_bool hb hB, h.atoms.below stays_atom hb hB, h.clauses.below (stays_arr stays_int) hb hB, h.m1, h.m2, h.m3, h.m4⟩
end Go.Proofs.YtkkpfdfoojcljaaGreat
namespace Go.Proofs.YtkkpfdfoojcljaaGreat
open Go.RowKit

def SO (H : Nat) (w : World) (v : Value) : Nat → Prop := fun b => H ≤ b ∧ b < w.heap.size ∧ v.ownBlock ≠ some b
/-- since the world W0 only block G, the row v and new blocks have changed; the row v holds xs -/
structure Out {α : Type} (V : Val α) (e sz : Nat) (W0 wr : World) (G : Nat) (v : Value) (xs : List α) : Prop where
  only : W0.grownBy wr (some G)
  lt : G < W0.heap.size
  own : OwnV V e sz wr W0.heap.size (SO W0.heap.size wr v) v xs

section
variable {α : Type} {V : Val α} {E : Ent α} {sz e : Nat} {W0 wr wX w3 : World} {G : Nat} {v v' : Value} {xs : List α}
theorem Out.start (V : Val α) (e sz : Nat) (W0 : World) {G : Nat} (h : G < W0.heap.size) : Out V e sz W0 W0 G (.slice none 0 0) [] := ⟨only_refl _ _, h, OwnV.none_ _ _ _ _ _ _⟩
theorem Out.step (hV : Tells V sz) (h : Out V e sz W0 wr G v xs) (hb : Below wr.heap.size wr wX) : Out V e sz W0 wX G v xs :=
  ⟨only_then h.only (only_of_below hb none) (fun x hx => by cases hx), h.lt, h.own.kept hV (only_of_below hb none) (by cases hv : v.ownBlock <;> simp) (fun b hS => ⟨⟨hS.1, Nat.lt_of_lt_of_le hS.2.1 hb.size, hS.2.2⟩, hS.2.1, by simp⟩)⟩
theorem Out.push (hV : Tells V sz) {x : α} (h : Out V e sz W0 wX G v xs) (hown : OwnV V e sz w3 W0.heap.size (SO W0.heap.size wX v) v' (xs ++ [x])) (hg : wX.grownBy w3 v.ownBlock) (hat : v'.ownBlock = v.ownBlock ∨ v'.ownBlock = some wX.heap.size) (i : Nat) (u : Value) :
    Out V e sz W0 (w3.setCell ⟨G, i, none⟩ u) G v' (xs ++ [x]) := by
  have hlt := h.own.lt
  have hz := h.only.size
  have hGlt := h.lt
  refine ⟨one_only (only_then h.only hg (fun y hy => .inl (hlt y hy).1)) i u, h.lt, ?_⟩
  refine hown.kept hV (one_only (only_refl w3 (some G)) i u) ?_ (fun b hS => ⟨⟨hS.1, ?_, ?_⟩, Nat.lt_of_lt_of_le hS.2.1 hg.size, fun e => by injection e with e; have := hS.1; omega⟩)
  · right
    intro e
    rcases hat with h1 | h1
    · have := (hlt G (by rw [← h1]; exact e)).1; omega
    · rw [h1] at e; injection e with e; omega
  · have := hS.2.1; have := hg.size; simp; omega
  · intro e
    rcases hat with h1 | h1
    · exact hS.2.2 (by rw [← h1]; exact e)
    · rw [h1] at e; injection e with e; have := hS.2.1; omega
theorem Out.done (hV : Tells V sz) (hE : ∀ w S b o x, AtV V w S b o x → E w S b o x) (h : Out V e sz W0 wr G v xs) :
    ∃ A c, v = .slice A xs.length c ∧ xs.length ≤ c ∧ c ≤ maxLen ∧ Arr E sz wr (fun b => W0.heap.size ≤ b ∧ b < wr.heap.size) A xs.length xs := by
  have hlt := h.own.lt
  exact h.own.reads hV hE (fun b hS => ⟨hS.1, hS.2.1⟩) (fun b hb => hlt b hb)
end

def VTerm : Val TermD := fun w S cs x => ∃ (A : Option Addr) (n c : Nat), cs = [.int .i64 x.head, .slice A n c] ∧ I64 x.head ∧ n ≤ c ∧ c ≤ maxLen ∧ Arr AtInt 1 w S A n x.kids
def VAtom : Val AtomD := fun w S cs x => ∃ (A : Option Addr) (n c : Nat), cs = [.int .i64 x.kind, .int .i64 x.a, .int .i64 x.b, .slice A n c, .int .i64 x.row.kind, .int .i64 x.row.to_] ∧ (I64 x.kind ∧ I64 x.a ∧ I64 x.b ∧ I64 x.row.kind ∧ I64 x.row.to_) ∧ n ≤ c ∧ c ≤ maxLen ∧ Arr AtInt 1 w S A n x.row.of_
theorem tells_term : Tells VTerm 2 := ⟨fun _ _ _ _ _ _ hS hk h => by
    obtain ⟨A, n, c, h0, h1, h2, h3, h4⟩ := h
    exact ⟨A, n, c, h0, h1, h2, h3, h4.keep stays_int hS hk⟩,
  fun _ _ _ _ h => by obtain ⟨A, n, c, h0, _⟩ := h; rw [h0]; rfl,
  fun _ _ _ _ h u hu => by obtain ⟨A, n, c, h0, _⟩ := h; rw [h0] at hu; simp only [List.mem_cons, List.not_mem_nil, or_false] at hu; rcases hu with rfl | rfl <;> rfl⟩
theorem tells_atom : Tells VAtom 6 := ⟨fun _ _ _ _ _ _ hS hk h => by
    obtain ⟨A, n, c, h0, h1, h2, h3, h4⟩ := h
    exact ⟨A, n, c, h0, h1, h2, h3, h4.keep stays_int hS hk⟩,
  fun _ _ _ _ h => by obtain ⟨A, n, c, h0, _⟩ := h; rw [h0]; rfl,
  fun _ _ _ _ h u hu => by obtain ⟨A, n, c, h0, _⟩ := h; rw [h0] at hu; simp only [List.mem_cons, List.not_mem_nil, or_false] at hu; rcases hu with rfl | rfl | rfl | rfl | rfl | rfl <;> rfl⟩
theorem atV_term {w : World} {S : Nat → Prop} {b o : Nat} {x : TermD} (h : AtV VTerm w S b o x) : AtTerm w S b o x := by
  obtain ⟨cs, ⟨A, n, c, rfl, h1, h2, h3, h4⟩, hc⟩ := h
  exact ⟨⟨hc 0 _ rfl, h1⟩, A, n, c, hc 1 _ rfl, h2, h3, h4⟩
theorem atV_atom {w : World} {S : Nat → Prop} {b o : Nat} {x : AtomD} (h : AtV VAtom w S b o x) : AtAtom w S b o x := by
  obtain ⟨cs, ⟨A, n, c, rfl, ⟨i1, i2, i3, i4, i5⟩, h2, h3, h4⟩, hc⟩ := h
  exact ⟨⟨hc 0 _ rfl, i1⟩, ⟨hc 1 _ rfl, i2⟩, ⟨hc 2 _ rfl, i3⟩, ⟨A, n, c, hc 3 _ rfl, h2, h3, h4⟩, ⟨hc 4 _ rfl, i4⟩, ⟨hc 5 _ rfl, i5⟩⟩

theorem infoBool : (Tryz.prog.info? 4).map (fun i => (i.zero, i.size, i.bytes)) = some (some (.bool false), 1, 1) := by kernel_rfl
theorem rowBools : RowT Tryz.prog 23 4 1 1 := rowT_of Tryz.underlying23 infoBool rfl (by omega)
theorem infoTerm : (Tryz.prog.info? 56).map (fun i => (i.zero, i.size, i.bytes)) = some (some (.agg #[.int .i64 0, .slice none 0 0]), 2, 32) := by kernel_rfl
theorem rowTerms : RowT Tryz.prog 22 56 2 32 := rowT_of Tryz.underlying22 infoTerm rfl (by omega)
theorem infoAtom : (Tryz.prog.info? 47).map (fun i => (i.zero, i.size, i.bytes)) = some (some (.agg #[.int .i64 0, .int .i64 0, .int .i64 0, .slice none 0 0, .int .i64 0, .int .i64 0]), 6, 64) := by kernel_rfl
theorem rowAtoms : RowT Tryz.prog 24 47 6 64 := rowT_of Tryz.underlying24 infoAtom rfl (by omega)

end Go.Proofs.YtkkpfdfoojcljaaGreat
namespace Go.Proofs.YtkkpfdfoojcljaaGreat
open Go.RowKit

section
variable {α : Type} {V : Val α} {E : Ent α} {sz : Nat} {w : World} {S : Nat → Prop} {g : Nat} {t : TypeId} {cs : Array Value} {xs : List α}
theorem row_of_blk (hV : Tells V sz) (hE : ∀ w S b o x, AtV V w S b o x → E w S b o x) (h : Blk w g t cs) (hc : Cels V w S xs cs.toList) (hg : S g) : Arr E sz w S (some ⟨g, 0, none⟩) xs.length xs :=
  ⟨rfl, fun i x hx => ⟨g, 0, rfl, hg, by
    have := Cels.at_ hV (w := w) (S := S) (g := g) (cells := cs.toList) (fun j u hu => by rw [h.cell]; simpa using hu) xs 0 cs.toList hc (fun j => by rw [Nat.zero_mul, Nat.zero_add]) i x hx
    rw [Nat.zero_add] at this
    rw [Nat.zero_add]
    exact hE _ _ _ _ _ this⟩⟩
theorem cels_of_ints : ∀ xs : List Int, (∀ x ∈ xs, I64 x) → Cels VInt w S xs (xs.map (Value.int .i64))
  | [], _ => rfl
  | x :: r, h => ⟨[.int .i64 x], _, rfl, ⟨rfl, h x (List.mem_cons_self ..)⟩, cels_of_ints r fun y hy => h y (List.mem_cons_of_mem _ hy)⟩
theorem row_ints {xs : List Int} (h : Blk w g t cs) (hc : cs.toList = xs.map (Value.int .i64)) (hi : ∀ x ∈ xs, I64 x) (hg : S g) : Arr AtInt 1 w S (some ⟨g, 0, none⟩) xs.length xs :=
  row_of_blk tells_int (fun _ _ _ _ _ h => atV_int.1 h) h (by rw [hc]; exact cels_of_ints xs hi) hg
/-- a row of one thing, of two -/
theorem row_one (hV : Tells V sz) (hE : ∀ w S b o x, AtV V w S b o x → E w S b o x) {x : α} (h : Blk w g t cs) (hc : V w S cs.toList x) (hg : S g) : Arr E sz w S (some ⟨g, 0, none⟩) 1 [x] :=
  row_of_blk hV hE h (Cels.single hc) hg
theorem row_two (hV : Tells V sz) (hE : ∀ w S b o x, AtV V w S b o x → E w S b o x) {x y : α} {c0 c1 : List Value} (h : Blk w g t cs) (hcs : cs.toList = c0 ++ c1) (h0 : V w S c0 x) (h1 : V w S c1 y) (hg : S g) : Arr E sz w S (some ⟨g, 0, none⟩) 2 [x, y] :=
  row_of_blk (xs := [x, y]) hV hE h (by rw [hcs]; exact ⟨c0, c1, rfl, h0, Cels.single h1⟩) hg
theorem varr_of {E' : Ent α} {sz' n c : Nat} {A : Option Addr} (h : Arr E' sz' w S A n xs) (hn : n ≤ c) (hc : c ≤ maxLen) : VArr E' sz' w S [.slice A n c] xs := ⟨A, n, c, rfl, hn, hc, h⟩
end
theorem i64_small {x : Int} (h : -1000000 ≤ x ∧ x ≤ 1000000) : I64 x := by unfold I64; omega
theorem atArr_of {α : Type} {E : Ent α} {sz : Nat} : ∀ (w : World) (S : Nat → Prop) (b o : Nat) (x : List α), AtV (VArr E sz) w S b o x → AtArr E sz w S b o x := fun _ _ _ _ _ h => atV_arr.1 h
/-- blocks made one behind the other -/
def lay : World → List (TypeId × Array Value) → World
  | W, [] => W
  | W, c :: r => lay (W.alloc (.cells c.2 c.1)) r
theorem lay_size : ∀ (l : List (TypeId × Array Value)) (W : World), (lay W l).heap.size = W.heap.size + l.length
  | [], _ => rfl
  | c :: r, W => by rw [lay, lay_size r]; simp; omega
theorem lay_below : ∀ (l : List (TypeId × Array Value)) (W : World), Below W.heap.size W (lay W l)
  | [], W => Below.refl _ _
  | c :: r, W => by
    have h1 : Below W.heap.size W (W.alloc (.cells c.2 c.1)) := (Below.refl _ _).alloc (Nat.le_refl _) _
    exact h1.trans ((lay_below r (W.alloc (.cells c.2 c.1))).mono h1.size)
theorem lay_blk : ∀ (l : List (TypeId × Array Value)) (W : World) (i : Nat) (t : TypeId) (c : Array Value), l[i]? = some (t, c) → Blk (lay W l) (W.heap.size + i) t c
  | [], _, i, _, _, h => by simp at h
  | x :: r, W, 0, t, c, h => by
    simp only [List.getElem?_cons_zero, Option.some.injEq] at h
    subst h
    have hk := Blk.new W t c
    exact hk.below (lay_below r _) hk.lt
  | x :: r, W, i + 1, t, c, h => by
    have := lay_blk r (W.alloc (.cells x.2 x.1)) i t c (by simpa using h)
    rw [World.size_alloc] at this
    rwa [show W.heap.size + (i + 1) = W.heap.size + 1 + i from by omega]
end Go.Proofs.YtkkpfdfoojcljaaGreat
