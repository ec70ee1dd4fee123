/- Clones that are put into structs and rows of the call's own; slices.Clone over Bools. · Walk: the reference's joining of lists of clauses; further laws for appends as steps. -/
import Derived.Test.YtfkciiiopbanaaaOuOC
import Derived.Test.YtfkciiiopbanaaaClone
import Derived.Test.YtfkciiiopbanaaaFuFr
import Derived.Test.YtfkciiiopbanaaaCore
namespace Go.Proofs.Ytfkciiiopbanaaa
open Go.RowKit

section
variable {α : Type} {V : Val α} {sz e : Nat} {W0 wr w3 : World} {G : Nat} {v v1 : Value} {xs : List α} {ks : List Int}
/-- a clone, put into a struct that was made just ahead of it -/
theorem clone_round (hV : Tells V sz) (hout : Out V e sz W0 wr G v1 xs) (o : Obj) (hb1 : Below (wr.alloc o).heap.size (wr.alloc o) w3) (hown : OwnInts w3 (wr.alloc o).heap.size v ks) (j : Nat) :
    ∃ A3 c3, v = .slice A3 ks.length c3 ∧ ks.length ≤ c3 ∧ c3 ≤ maxLen ∧ ∀ (o2 : Obj), Out V e sz W0 ((w3.setCell ⟨wr.heap.size, j, none⟩ (.slice A3 ks.length c3)).alloc o2) G v1 xs ∧
      Below wr.heap.size wr ((w3.setCell ⟨wr.heap.size, j, none⟩ (.slice A3 ks.length c3)).alloc o2) ∧
      Arr AtInt 1 ((w3.setCell ⟨wr.heap.size, j, none⟩ (.slice A3 ks.length c3)).alloc o2) (SO W0.heap.size ((w3.setCell ⟨wr.heap.size, j, none⟩ (.slice A3 ks.length c3)).alloc o2) v1) A3 ks.length ks := by
  obtain ⟨A3, c3, rfl, h1, h2, h3⟩ := hown.reads
  refine ⟨A3, c3, rfl, h1, h2, fun o2 => ?_⟩
  have hlt := hout.own.lt
  have hz := hout.only.size
  have hsz : (wr.alloc o).heap.size = wr.heap.size + 1 := by simp
  rw [hsz] at hb1 h3
  have hz1 := hb1.size
  rw [hsz] at hz1
  have hb : Below wr.heap.size wr ((w3.setCell ⟨wr.heap.size, j, none⟩ (.slice A3 ks.length c3)).alloc o2) := ((((Below.refl _ _).alloc (Nat.le_refl _) o).trans (hb1.mono (by omega))).setCell (p := ⟨wr.heap.size, j, none⟩) (Nat.le_refl _) _).alloc (by simp; omega) o2
  refine ⟨hout.step hV hb, hb, h3.keep stays_int (fun b hb' => ⟨by omega, by simp; omega, fun e => by have := (hlt b e).2; omega⟩) (fun b o' hb' => ?_)⟩
  exact (only_cell (b := b) (o := o') (grown_of (w3.setCell ⟨wr.heap.size, j, none⟩ (.slice A3 ks.length c3)) none o2) (by simpa using hb'.2.1) (by simp)).trans (only_cell (row := some wr.heap.size) (one_only (only_refl w3 _) j _) hb'.2.1 (fun e => by injection e with e; have := hb'.1; omega))
/-- a clone, put into a row -/
theorem clone_item (hV : Tells V sz) (hout : Out V e sz W0 wr G v1 xs) (hb1 : Below wr.heap.size wr w3) (hown : OwnInts w3 wr.heap.size v ks) :
    ∃ A3 c3, v = .slice A3 ks.length c3 ∧ ks.length ≤ c3 ∧ c3 ≤ maxLen ∧ ∀ (o2 : Obj), Out V e sz W0 (w3.alloc o2) G v1 xs ∧ Below wr.heap.size wr (w3.alloc o2) ∧ Arr AtInt 1 (w3.alloc o2) (SO W0.heap.size (w3.alloc o2) v1) A3 ks.length ks := by
  obtain ⟨A3, c3, rfl, h1, h2, h3⟩ := hown.reads
  refine ⟨A3, c3, rfl, h1, h2, fun o2 => ?_⟩
  have hlt := hout.own.lt
  have hz := hout.only.size
  have hz1 := hb1.size
  have hb : Below wr.heap.size wr (w3.alloc o2) := hb1.alloc (by omega) o2
  exact ⟨hout.step hV hb, hb, h3.keep stays_int (fun b hb' => ⟨by omega, by simp; omega, fun e => by have := (hlt b e).2; omega⟩) (fun b o' hb' => only_cell (grown_of w3 none o2) hb'.2.1 (by simp))⟩
end
end Go.Proofs.Ytfkciiiopbanaaa
namespace Go.Proofs.Ytfkciiiopbanaaa
open Go.RowKit



theorem infoInts : (Try.prog.info? 31).map (fun i => (i.zero, i.size, i.bytes)) = some (some (.slice none 0 0), 1, 24) := by kernel_rfl
theorem rowRows : RowT Try.prog 25 31 1 24 := rowT_of Try.underlying25 infoInts rfl (by omega)

abbrev VRow : Val (List Int) := VArr AtInt 1
theorem tells_row' : Tells VRow 1 := tells_arr stays_int
/-- the slice value v is the call's own row of clauses -/
abbrev OwnRows (w : World) (base : Nat) (S : Nat → Prop) (v : Value) (xs : List (List Int)) : Prop := OwnV VRow 31 1 w base S v xs

section
variable {α : Type} {V : Val α} {sz : Nat} {w : World} {S : Nat → Prop} {e base : Nat} {v : Value} {xs : List α}
theorem step_append_many {P : Program} {ops : Array Oper} {o : Oper} {a : Act} {K : Act → World → Prop} {Q : Exit → Act → World → Prop} {E0 : Prop} (hgd : o.guard = none) (s x : Operand) (t : TypeId)
    (ho : o.op = .call { callee := .builtin .append, args := #[s, x], argTypes := #[t, t] }) {bytes : Nat} (T : RowT P t e sz bytes) (hV : Tells V sz)
    (hs : a.eval s = v) (hown : OwnV V e sz w base S v xs) {E : Ent α} (hE : ∀ w S b o x, E w S b o x → AtV V w S b o x) {A : Option Addr} {m c : Nat} {ys : List α} (hx : a.eval x = .slice A m c) (hys : Arr E sz w S A m ys)
    (hS : ∀ b, S b → b < w.heap.size ∧ v.ownBlock ≠ some b) (h63 : xs.length + m ≤ maxLen) (hbytes : (xs.length + m) * bytes ≤ 140737488355328) (hbase : base ≤ w.heap.size)
    (h : ∀ v' w', OwnV V e sz w' base S v' (xs ++ ys) → w.grownBy w' v.ownBlock → (v'.ownBlock = v.ownBlock ∨ v'.ownBlock = some w.heap.size) → K (a.put o.dst v') w') :
    if Region.wanted o (yielded ops a.tmps) = true then Oper.wp P o a w K Q else E0 := by
  have hw : Region.wanted o (yielded ops a.tmps) = true := by simp [Region.wanted, hgd]
  rw [if_pos hw]
  obtain ⟨v', w', hr, h2, h3, h5⟩ := run_append_many (P := P) (ty := o.type) (c := c) T hV hown hE hys hS h63 hbytes hbase
  unfold Oper.wp execOp
  simp only [ho, resolve, invoke, builtin, Sem.run_bind, Sem.run_pure, Result.andThen_ok, List.map_toArray, List.map_cons, List.map_nil, hs, hx, hr]
  exact h v' w' h2 h3 h5

end
end Go.Proofs.Ytfkciiiopbanaaa
