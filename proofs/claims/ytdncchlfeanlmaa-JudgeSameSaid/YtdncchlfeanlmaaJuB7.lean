/- JudgeSame: what its walk takes (printed by genJuB8.py). -/
import Derived.Test.YtdncchlfeanlmaaJuSv
import Derived.Test.YtdncchlfeanlmaaJuPB
import Derived.Test.YtdncchlfeanlmaaKitPk
import Derived.Test.YtdncchlfeanlmaaJuEX
import Derived.Deep.RegionLaw
import Derived.Deep.DeepCutAuto
namespace Go.Proofs.Ytdncchlfeanlmaa
open Go.RowKit

section
variable {α : Type} {V : Val α} {sz e : Nat} {W0 wr wX w3 : World} {G : Nat} {v v' : Value} {xs zs : List α}
/-- as Out.push, whatever the row has become -/
theorem Out.put (hV : Tells V sz) (h : Out V e sz W0 wX G v xs) (hown : OwnV V e sz w3 W0.heap.size (SO W0.heap.size wX v) v' zs) (hg : wX.grownBy w3 v.ownBlock) (hat : v'.ownBlock = v.ownBlock ∨ v'.ownBlock = some wX.heap.size) (i : Nat) (u : Value) :
    Out V e sz W0 (w3.setCell ⟨G, i, none⟩ u) G v' zs := by
  have hlt := h.own.lt
  have hz := h.only.size
  have hGlt := h.lt
  refine ⟨one_only (only_then h.only hg (fun y hy => .inl (hlt y hy).1)) i u, h.lt, ?_⟩
  refine hown.kept hV (one_only (only_refl w3 (some G)) i u) ?_ (fun b hS => ⟨⟨hS.1, ?_, ?_⟩, Nat.lt_of_lt_of_le hS.2.1 hg.size, fun e => by injection e with e; have := hS.1; omega⟩)
  · right
    intro e
    rcases hat with h1 | h1
    · have := (hlt G (by rw [← h1]; exact e)).1; omega
    · rw [h1] at e; injection e with e; omega
  · have := hS.2.1; have := hg.size; simp; omega
  · intro e
    rcases hat with h1 | h1
    · exact hS.2.2 (by rw [← h1]; exact e)
    · rw [h1] at e; injection e with e; have := hS.2.1; omega
end
def SC (H : Nat) (w : World) (vA vC : Value) : Nat → Prop := fun b => H ≤ b ∧ b < w.heap.size ∧ vA.ownBlock ≠ some b ∧ vC.ownBlock ≠ some b
/-- the atoms and the clauses of a form that is built, each in a row of the call's own -/
structure Pair2 (Z wr : World) (G : Nat) (vA vC : Value) (atl : List AtomD) (cs : List (List Int)) : Prop where
  only : Z.grownBy wr (some G)
  lt : G < Z.heap.size
  a : OwnV VAtom 35 6 wr Z.heap.size (fun _ => False) vA atl
  c : OwnV (VArr AtInt 1) 31 1 wr Z.heap.size (SC Z.heap.size wr vA vC) vC cs
  ne : vA.ownBlock = none ∨ vA.ownBlock ≠ vC.ownBlock
section
variable {Z wr wX w3 : World} {G : Nat} {vA vC vA' vC' : Value} {atl atl' : List AtomD} {cs cs' : List (List Int)}
theorem Pair2.start (Z : World) {G : Nat} (h : G < Z.heap.size) : Pair2 Z Z G (.slice none 0 0) (.slice none 0 0) [] [] := ⟨only_refl _ _, h, OwnV.none_ _ _ _ _ _ _, OwnV.none_ _ _ _ _ _ _, .inl rfl⟩
theorem Pair2.step (h : Pair2 Z wr G vA vC atl cs) (hb : Below wr.heap.size wr wX) : Pair2 Z wX G vA vC atl cs := by
  have hg : wr.grownBy wX none := only_of_below hb none
  refine ⟨only_then h.only hg (fun x hx => by cases hx), h.lt, h.a.kept tells_atom hg (by cases vA.ownBlock <;> simp) (fun b hb => False.elim hb), h.c.kept (tells_arr stays_int) hg (by cases vC.ownBlock <;> simp) (fun b hS => ⟨⟨hS.1, Nat.lt_of_lt_of_le hS.2.1 hb.size, hS.2.2⟩, hS.2.1, by simp⟩), h.ne⟩
theorem Pair2.atoms (h : Pair2 Z wX G vA vC atl cs) (hown : OwnV VAtom 35 6 w3 Z.heap.size (fun _ => False) vA' atl') (hg : wX.grownBy w3 vA.ownBlock) (hat : vA'.ownBlock = vA.ownBlock ∨ vA'.ownBlock = some wX.heap.size) (i : Nat) (u : Value) :
    Pair2 Z (w3.setCell ⟨G, i, none⟩ u) G vA' vC atl' cs := by
  have hla := h.a.lt
  have hlc := h.c.lt
  have hz := h.only.size
  have hGz := h.lt
  have hset : w3.grownBy (w3.setCell ⟨G, i, none⟩ u) (some G) := set_grown w3 G i u
  have hne : vA'.ownBlock = none ∨ vA'.ownBlock ≠ vC.ownBlock := by
    rcases hat with e | e
    · rw [e]; exact h.ne
    · rw [e]; exact .inr (fun e2 => by have := (hlc _ e2.symm).2; omega)
  have hnG : vA'.ownBlock ≠ some G := fun e2 => by
    rcases hat with e | e
    · rw [e] at e2; have := (hla _ e2).1; omega
    · rw [e] at e2; injection e2 with e2; omega
  have hcA : vC.ownBlock = none ∨ vC.ownBlock ≠ vA.ownBlock := by
    rcases h.ne with e | e
    · cases hv : vC.ownBlock with
      | none => exact .inl rfl
      | some x => rw [e]; exact .inr (by simp)
    · exact .inr (Ne.symm e)
  refine ⟨only_trans (only_then h.only hg (fun y hy => .inl (hla y hy).1)) (by exact ⟨hset.os, hset.tape, hset.output, hset.size, hset.block⟩), h.lt, hown.kept tells_atom hset (.inr hnG) (fun b hb => False.elim hb), ?_, hne⟩
  have hc1 := h.c.kept (tells_arr stays_int) (S' := fun b => Z.heap.size ≤ b ∧ b < wX.heap.size ∧ vA.ownBlock ≠ some b ∧ vC.ownBlock ≠ some b) hg hcA (fun b hS => ⟨hS, hS.2.1, hS.2.2.1⟩)
  refine hc1.kept (tells_arr stays_int) hset (.inr (fun e => by have := (hlc _ e).1; omega)) (fun b hS => ⟨⟨hS.1, ?_, ?_, hS.2.2.2⟩, ?_, ?_⟩)
  · have := hS.2.1; have := hg.size; simp; omega
  · rcases hat with e | e
    · rw [e]; exact hS.2.2.1
    · rw [e]; intro e2; injection e2 with e2; have := hS.2.1; omega
  · exact Nat.lt_of_lt_of_le hS.2.1 hg.size
  · intro e2; injection e2 with e2; have := hS.1; omega
theorem Pair2.cls (h : Pair2 Z wX G vA vC atl cs) (hown : OwnV (VArr AtInt 1) 31 1 w3 Z.heap.size (SC Z.heap.size wX vA vC) vC' cs') (hg : wX.grownBy w3 vC.ownBlock) (hat : vC'.ownBlock = vC.ownBlock ∨ vC'.ownBlock = some wX.heap.size) (i : Nat) (u : Value) :
    Pair2 Z (w3.setCell ⟨G, i, none⟩ u) G vA vC' atl cs' := by
  have hla := h.a.lt
  have hlc := h.c.lt
  have hz := h.only.size
  have hGz := h.lt
  have hset : w3.grownBy (w3.setCell ⟨G, i, none⟩ u) (some G) := set_grown w3 G i u
  have hnG : vC'.ownBlock ≠ some G := fun e2 => by
    rcases hat with e | e
    · rw [e] at e2; have := (hlc _ e2).1; omega
    · rw [e] at e2; injection e2 with e2; omega
  have hAC : vA.ownBlock = none ∨ vA.ownBlock ≠ vC.ownBlock := h.ne
  refine ⟨only_trans (only_then h.only hg (fun y hy => .inl (hlc y hy).1)) hset, h.lt, (h.a.kept tells_atom hg hAC (fun b hb => False.elim hb)).kept tells_atom hset (.inr (fun e => by have := (hla _ e).1; omega)) (fun b hb => False.elim hb), ?_, ?_⟩
  · refine hown.kept (tells_arr stays_int) hset (.inr hnG) (fun b hS => ⟨⟨hS.1, ?_, hS.2.2.1, ?_⟩, ?_, ?_⟩)
    · have := hS.2.1; have := hg.size; simp; omega
    · rcases hat with e | e
      · rw [e]; exact hS.2.2.2
      · rw [e]; intro e2; injection e2 with e2; have := hS.2.1; omega
    · exact Nat.lt_of_lt_of_le hS.2.1 hg.size
    · intro e2; injection e2 with e2; have := hS.1; omega
  · rcases hat with e | e
    · rw [e]; exact h.ne
    · cases hv : vA.ownBlock with
      | none => exact .inl rfl
      | some x => rw [e]; exact .inr (fun e2 => by injection e2 with e2; have := (hla _ hv).2; omega)
end
theorem term_toldS {w : World} {S : Nat → Prop} {b o : Nat} {x : TermD} (h : AtTerm w S b o x) : AtV VTerm w S b o x := by
  obtain ⟨⟨h1, i1⟩, A, n, c, h2, h3, h4, h5⟩ := h
  refine ⟨[.int .i64 x.head, .slice A n c], ⟨A, n, c, rfl, i1, h3, h4, h5⟩, fun j u hj => ?_⟩
  rcases j with _ | _ | j
  · simp only [List.getElem?_cons_zero, Option.some.injEq] at hj; rw [← hj]; exact h1
  · simp only [List.getElem?_cons_succ, List.getElem?_cons_zero, Option.some.injEq] at hj; rw [← hj]; exact h2
  · simp at hj
theorem Arr.dropS {α : Type} {E : Ent α} {w : World} {S : Nat → Prop} {g n : Nat} {xs : List α} (h : Arr E 1 w S (some ⟨g, 0, none⟩) n xs) {k : Nat} (hk : k ≤ n) : Arr E 1 w S (some ⟨g, k, none⟩) (n - k) (xs.drop k) := by
  refine ⟨by have := h.len; simp; omega, fun i x hx => ?_⟩
  rw [List.getElem?_drop] at hx
  obtain ⟨b, off, e, hb, he⟩ := h.at_ (k + i) x hx
  injection e with e
  injection e with e1 e2
  subst e1 e2
  refine ⟨g, k, rfl, hb, ?_⟩
  rwa [Nat.zero_add, Nat.mul_one, ← Nat.mul_one i] at he
theorem cels_intS {w w' : World} {S S' : Nat → Prop} : ∀ (xs : List Int) (cs : List Value), Cels VInt w S xs cs → Cels VInt w' S' xs cs
  | [], _, h => h
  | _ :: r, _, h => by
    obtain ⟨c0, c1, rfl, h0, h1⟩ := h
    exact ⟨c0, c1, rfl, h0, cels_intS r c1 h1⟩
theorem own_intS {w : World} {S S' : Nat → Prop} {e base base' : Nat} {v : Value} {xs : List Int} (h : OwnV VInt e 1 w base S v xs) (hb : base' ≤ base) : OwnV VInt e 1 w base' S' v xs := by
  obtain ⟨cells, h1, h2⟩ := h
  exact ⟨cells, owns_base h1 hb, cels_intS xs cells h2⟩
theorem sameSteps_laid {w : World} {B gs : Nat} {t : TypeId} {A : Option Addr} {m c : Nat} {l : List Int} (hk : Blk w gs t #[.int .i64 3, .slice A m c, .slice none 0 0, .int .i64 0, .int .i64 0, .int .i64 0, .slice none 0 0, .int .i64 0, .int .i64 0, .int .i64 1, .slice none 0 0, .slice none 0 0, .int .i64 0, .int .i64 0, .int .i64 0, .slice none 0 0, .int .i64 0, .int .i64 0])
    (hl : IntsB w B A m l) (hmc : m ≤ c) (hcm : c ≤ maxLen) (hB : gs < B) : ArrB AtStep 9 w B (some ⟨gs, 0, none⟩) 2 (sameSteps l) :=
  row_two tells_step (fun _ _ _ _ _ h => atV_step h) hk (c0 := [.int .i64 3, .slice A m c, .slice none 0 0, .int .i64 0, .int .i64 0, .int .i64 0, .slice none 0 0, .int .i64 0, .int .i64 0]) (c1 := [.int .i64 1, .slice none 0 0, .slice none 0 0, .int .i64 0, .int .i64 0, .int .i64 0, .slice none 0 0, .int .i64 0, .int .i64 0]) rfl
    (vstep_plain (i64_small (by omega)) hmc hcm (Nat.le_refl _) (Nat.zero_le _) hl Arr.nil_) (vstep_plain i64_1 (Nat.le_refl _) (Nat.zero_le _) (Nat.le_refl _) (Nat.zero_le _) Arr.nil_ Arr.nil_) hB
theorem blk_second {w : World} {o : Obj} {t : TypeId} {cs : Array Value} : Blk ((w.alloc o).alloc (.cells cs t)) (w.heap.size + 1) t cs := by
  have := Blk.new (w.alloc o) t cs
  rwa [World.size_alloc] at this
theorem grown_set_new {a b : World} {row : Option Nat} {e i : Nat} {u : Value} (h : a.grownBy b row) (he : a.heap.size ≤ e) : a.grownBy (b.setCell ⟨e, i, none⟩ u) row :=
  ⟨h.os, h.tape, h.output, by have := h.size; simpa using this, fun k hk hne => by rw [Below.heap_setCell b ⟨e, i, none⟩ u k (by show k ≠ e; omega)]; exact h.block k hk hne⟩
theorem grown_some {a b : World} {row : Option Nat} (h : a.grownBy b none) : a.grownBy b row := ⟨h.os, h.tape, h.output, h.size, fun k hk _ => h.block k hk (by simp)⟩
theorem same_fin {Z w7 wx : World} {r e13 : Nat} {v : Value} {xs : List Int} {e : Nat} (hb7 : Below Z.heap.size Z w7) (hF : OwnV VInt e 1 w7 Z.heap.size (fun _ => False) v xs) (hne : v.ownBlock ≠ some r) (hr : Z.heap.size ≤ r) (hg : w7.grownBy wx (some r)) (he : w7.heap.size ≤ e13) :
    Below Z.heap.size Z wx ∧ OwnV VInt e 1 wx Z.heap.size (fun _ => False) v xs ∧ v.ownBlock ≠ some e13 :=
  ⟨below_then hb7 hg hb7.size (fun x hx => by injection hx with hx; omega), hF.kept tells_int hg (.inr hne) (fun b hb => False.elim hb), fun e2 => by have := (hF.lt _ e2).2; omega⟩
theorem same_fin2 {Z wb wx : World} {e13 e15 : Nat} {row : Option Nat} (hb : Below Z.heap.size Z wb) (hc : wb.cell? ⟨e13, 0, none⟩ = some (.int .i64 0)) (he : e13 < wb.heap.size) (hr : ∀ x, row = some x → Z.heap.size ≤ x) (hne : row ≠ some e13) (hg : wb.grownBy wx row) (_ : wb.heap.size ≤ e15) :
    wx.cell? ⟨e13, 0, none⟩ = some (.int .i64 0) ∧ e13 < wx.heap.size ∧ Below Z.heap.size Z wx :=
  ⟨(only_cell hg he hne).trans hc, Nat.lt_of_lt_of_le he hg.size, below_then hb hg hb.size hr⟩
def termsK (i : Nat) : List TermD := (List.range i).map fun j : Nat => ⟨(j : Int), []⟩
def atomsK (i : Nat) : List AtomD := (List.range i).map fun j : Nat => ⟨2, (j : Int), (j : Int) + 1, ⟨[], 0, 0⟩⟩
def clsK (i : Nat) : List (List Int) := (List.range i).map fun j : Nat => [(j : Int) + 1]
def litsK (i : Nat) : List Int := (List.range i).map fun j : Nat => -((j : Int) + 1)
theorem termsK_next (i : Nat) : termsK (i + 1) = termsK i ++ [⟨(i : Int), []⟩] := by unfold termsK; rw [List.range_succ, List.map_append]; rfl
theorem atomsK_next (i : Nat) : atomsK (i + 1) = atomsK i ++ [⟨2, (i : Int), (i : Int) + 1, ⟨[], 0, 0⟩⟩] := by unfold atomsK; rw [List.range_succ, List.map_append]; rfl
theorem clsK_next (i : Nat) : clsK (i + 1) = clsK i ++ [[(i : Int) + 1]] := by unfold clsK; rw [List.range_succ, List.map_append]; rfl
theorem litsK_next (i : Nat) : litsK (i + 1) = litsK i ++ [-((i : Int) + 1)] := by unfold litsK; rw [List.range_succ, List.map_append]; rfl
theorem termsK_len (i : Nat) : (termsK i).length = i := by simp [termsK]
theorem atomsK_len (i : Nat) : (atomsK i).length = i := by simp [atomsK]
theorem clsK_len (i : Nat) : (clsK i).length = i := by simp [clsK]
theorem litsK_len (i : Nat) : (litsK i).length = i := by simp [litsK]
/-- a region of a function's text, by its number -/
def regOf (n : Nat) : Code → Option Code
  | .region k ops b => if k = n then some (.region k ops b) else none
  | .loop c => regOf n c
  | .seq a b => (regOf n a).orElse fun _ => regOf n b
  | .block _ c => regOf n c
  | .scope c => regOf n c
  | .cond _ a b => (regOf n a).orElse fun _ => regOf n b
  | _ => none
noncomputable def code21 : Code := ((Try.f4.body.bind (regOf 21)).getD .skip)
noncomputable def code22 : Code := ((Try.f4.body.bind (regOf 22)).getD .skip)
end Go.Proofs.Ytdncchlfeanlmaa
