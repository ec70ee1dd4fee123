/- Laws for the walk: an append to a row of the call's own: of a whole slice, of one thing. No program is named here. -/
import Derived.Test.YtggkfepifnfdoaaOwn
namespace Go.Proofs.Ytggkfepifnfdoaa
open Go.RowKit

/-- what the table of types says of a slice type t with elements of type e -/
structure RowT (P : Program) (t e : TypeId) (sz bytes : Nat) : Prop where
  ht : P.underlying t = some (.slice e)
  info : ∃ i z, P.info? e = some i ∧ i.zero = some z ∧ i.size = sz ∧ i.bytes = bytes ∧ z.cells.size = sz
  pos : 0 < sz
theorem rowT_of {P : Program} {t e : TypeId} {z : Value} {sz bytes : Nat} (ht : P.underlying t = some (.slice e)) (hi : (P.info? e).map (fun i => (i.zero, i.size, i.bytes)) = some (some z, sz, bytes)) (hz : z.cells.size = sz) (pos : 0 < sz) : RowT P t e sz bytes := by
  obtain ⟨i0, h0, h1, h2, h3⟩ := info_parts hi
  exact ⟨ht, ⟨i0, z, h0, h1, h2, h3, hz⟩, pos⟩

theorem run_append_own_nothing {P : Program} {w : World} (base : Nat) (t ty e : TypeId) (i : TypeInfo) (size c : Nat) (ht : P.underlying t = some (.slice e)) (hi : P.info? e = some i)
    (v : Value) (n : Nat) (xs : List Value) (hown : w.ownsRow base e size v n xs) : (Builtin.append_ #[t, t] ty #[v, .slice none 0 c]).run P w = .ok v w := by
  rcases hown.2 with ⟨rfl, rfl⟩ | ⟨g, cap, cur, rfl, _, _, hnc, _⟩
  · simp [Builtin.append_, run_underlying ht, sizeOf, typeInfo, hi, Builtin.lenOf, Builtin.firstCells]
  · simp [Builtin.append_, run_underlying ht, sizeOf, typeInfo, hi, Builtin.lenOf, Builtin.firstCells, hnc, storeCells]

theorem run_append_many {P : Program} {w : World} {t ty e : TypeId} {sz bytes : Nat} (T : RowT P t e sz bytes) {α : Type} {V : Val α} (hV : Tells V sz) {base : Nat} {S : Nat → Prop} {v : Value} {xs : List α} (hown : OwnV V e sz w base S v xs)
    {E : Ent α} (hE : ∀ w S b o x, E w S b o x → AtV V w S b o x) {A : Option Addr} {m c : Nat} {ys : List α} (hys : Arr E sz w S A m ys) (hS : ∀ b, S b → b < w.heap.size ∧ v.ownBlock ≠ some b)
    (h63 : xs.length + m ≤ maxLen) (hbytes : (xs.length + m) * bytes ≤ 140737488355328) (hbase : base ≤ w.heap.size) :
    ∃ v' w', (Builtin.append_ #[t, t] ty #[v, .slice A m c]).run P w = .ok v' w' ∧ OwnV V e sz w' base S v' (xs ++ ys) ∧ w.grownBy w' v.ownBlock ∧ (v'.ownBlock = v.ownBlock ∨ v'.ownBlock = some w.heap.size) := by
  obtain ⟨ht, ⟨i, z, hi, hz, hsize, hby, hzs⟩, hpos⟩ := T
  obtain ⟨cells, hrow, hels⟩ := hown
  rcases A with _ | ad
  · have h0 : ys = [] := by
      cases ys with
      | nil => rfl
      | cons x r => obtain ⟨b, off, e, _⟩ := hys.at_ 0 x rfl; cases e
    subst h0
    have hm : m = 0 := by have := hys.len; simpa using this.symm
    subst hm
    exact ⟨v, w, run_append_own_nothing base t ty e i sz c ht hi v _ cells hrow, ⟨cells, by simpa using hrow, by simpa using hels⟩, only_refl _ _, .inl rfl⟩
  · obtain ⟨ds, hds, hdl, hd1, hdc⟩ := hys.news hV hE
    obtain ⟨v', w', hr, h2, h3, _, h5⟩ := run_append_own_at (P := P) w base t ty e i z sz bytes ht hi hz hsize hby hzs hpos v xs.length cells hrow ad m c ds hdl hdc hd1 h63 hbytes hbase
    have hl := hys.len
    subst hl
    exact ⟨v', w', hr, OwnV.more hV hels hds h2 h3 (fun b hb => ⟨hb, hS b hb⟩), h3, h5⟩

theorem wpList_append_many {P : Program} {w : World} {ops : Array Oper} {rest : List Oper} {o : Oper} {a : Act} {Q : Exit → Act → World → Prop} (hgd : o.guard = none) (s x : Operand) (t : TypeId)
    (ho : o.op = .call { callee := .builtin .append, args := #[s, x], argTypes := #[t, t] }) {e : TypeId} {sz bytes : Nat} (T : RowT P t e sz bytes) {α : Type} {V : Val α} (hV : Tells V sz) {base : Nat} {S : Nat → Prop} {v : Value} {xs : List α}
    (hs : a.eval s = v) (hown : OwnV V e sz w base S v xs) {E : Ent α} (hE : ∀ w S b o x, E w S b o x → AtV V w S b o x) {A : Option Addr} {m c : Nat} {ys : List α} (hx : a.eval x = .slice A m c) (hys : Arr E sz w S A m ys)
    (hS : ∀ b, S b → b < w.heap.size ∧ v.ownBlock ≠ some b) (h63 : xs.length + m ≤ maxLen) (hbytes : (xs.length + m) * bytes ≤ 140737488355328) (hbase : base ≤ w.heap.size)
    (h : ∀ v' w', OwnV V e sz w' base S v' (xs ++ ys) → w.grownBy w' v.ownBlock → (v'.ownBlock = v.ownBlock ∨ v'.ownBlock = some w.heap.size) → wpList P ops Q rest (a.put o.dst v') w') : wpList P ops Q (o :: rest) a w := by
  refine wpList_plain hgd fun K hK => ?_
  obtain ⟨v', w', hr, h2, h3, h5⟩ := run_append_many (P := P) (ty := o.type) (c := c) T hV hown hE hys hS h63 hbytes hbase
  unfold Oper.wp execOp
  simp only [ho, resolve, invoke, builtin, Sem.run_bind, Sem.run_pure, Result.andThen_ok, List.map_toArray, List.map_cons, List.map_nil, hs, hx, hr]
  exact hK _ _ (h v' w' h2 h3 h5)

theorem run_append_item {P : Program} {w : World} {t ty e : TypeId} {sz bytes : Nat} (T : RowT P t e sz bytes) {α : Type} {V : Val α} (hV : Tells V sz) {base : Nat} {S : Nat → Prop} {v : Value} {xs : List α} (hown : OwnV V e sz w base S v xs)
    {g : Nat} {cs : Array Value} {t' : TypeId} {c : Nat} (hblk : Blk w g t' cs) {x : α} (hx : V w S cs.toList x) (hS : ∀ b, S b → b < w.heap.size ∧ v.ownBlock ≠ some b)
    (h63 : xs.length + 1 ≤ maxLen) (hbytes : (xs.length + 1) * bytes ≤ 140737488355328) (hbase : base ≤ w.heap.size) :
    ∃ v' w', (Builtin.append_ #[t, t] ty #[v, .slice (some ⟨g, 0, none⟩) 1 c]).run P w = .ok v' w' ∧ OwnV V e sz w' base S v' (xs ++ [x]) ∧ w.grownBy w' v.ownBlock ∧ (v'.ownBlock = v.ownBlock ∨ v'.ownBlock = some w.heap.size) := by
  obtain ⟨ht, ⟨i, z, hi, hz, hsize, hby, hzs⟩, hpos⟩ := T
  obtain ⟨cells, hrow, hels⟩ := hown
  have hl := hV.len _ _ _ _ hx
  obtain ⟨v', w', hr, h2, h3, _, h5⟩ := run_append_own_at (P := P) w base t ty e i z sz bytes ht hi hz hsize hby hzs hpos v xs.length cells hrow ⟨g, 0, none⟩ 1 c cs.toList (by omega) (fun j u hj => by
    rw [Go.WideShapes.add_plain, Nat.zero_add, hblk.cell]
    simpa using hj) (hV.one _ _ _ _ hx) h63 hbytes hbase
  exact ⟨v', w', hr, OwnV.push hV hels hx h2 h3 (fun b hb => ⟨hb, hS b hb⟩), h3, h5⟩

theorem wpList_append_item {P : Program} {w : World} {ops : Array Oper} {rest : List Oper} {o : Oper} {a : Act} {Q : Exit → Act → World → Prop} (hgd : o.guard = none) (s x : Operand) (t : TypeId)
    (ho : o.op = .call { callee := .builtin .append, args := #[s, x], argTypes := #[t, t] }) {e : TypeId} {sz bytes : Nat} (T : RowT P t e sz bytes) {α : Type} {V : Val α} (hV : Tells V sz) {base : Nat} {S : Nat → Prop} {v : Value} {xs : List α}
    (hs : a.eval s = v) (hown : OwnV V e sz w base S v xs) {g : Nat} {cs : Array Value} {t' : TypeId} {c : Nat} (hxe : a.eval x = .slice (some ⟨g, 0, none⟩) 1 c) (hblk : Blk w g t' cs) {y : α} (hx : V w S cs.toList y)
    (hS : ∀ b, S b → b < w.heap.size ∧ v.ownBlock ≠ some b) (h63 : xs.length + 1 ≤ maxLen) (hbytes : (xs.length + 1) * bytes ≤ 140737488355328) (hbase : base ≤ w.heap.size)
    (h : ∀ v' w', OwnV V e sz w' base S v' (xs ++ [y]) → w.grownBy w' v.ownBlock → (v'.ownBlock = v.ownBlock ∨ v'.ownBlock = some w.heap.size) → wpList P ops Q rest (a.put o.dst v') w') : wpList P ops Q (o :: rest) a w := by
  refine wpList_plain hgd fun K hK => ?_
  obtain ⟨v', w', hr, h2, h3, h5⟩ := run_append_item (P := P) (ty := o.type) (c := c) T hV hown hblk hx hS h63 hbytes hbase
  unfold Oper.wp execOp
  simp only [ho, resolve, invoke, builtin, Sem.run_bind, Sem.run_pure, Result.andThen_ok, List.map_toArray, List.map_cons, List.map_nil, hs, hxe, hr]
  exact hK _ _ (h v' w' h2 h3 h5)
end Go.Proofs.Ytggkfepifnfdoaa
