/- Walks: one command on a stack of frames. -/
import Derived.Test.YtpceiifacendfaaFrA
import Derived.Test.YtpceiifacendfaaCore
import Derived.Test.YtpceiifacendfaaClone
import Derived.BigRegion
namespace Go.Proofs.Ytpceiifacendfaa
open Go.RowKit

theorem rowInts : RowT Try.prog 31 3 1 8 := rowT_of Try.underlying31 infoInt rfl (by omega)

def StkS (w : World) (g : Nat) (vc vf : Value) : Nat → Prop := fun b => b < w.heap.size ∧ g < b ∧ vc.ownBlock ≠ some b ∧ vf.ownBlock ≠ some b
/-- the stack in block g: the form's four slices, the clauses held, how many there were when each frame was pushed -/
structure Stk (w : World) (g : Nat) (s1 s2 s3 s4 : Value) (r : List Cl) (last : Cl) (vc vf : Value) : Prop where
  blk : Blk w g 95 #[s1, s2, s3, s4, vc, vf]
  cl : GrowV VRow 31 1 w (g + 1) (StkS w g vc vf) vc (clOf r last)
  fr : OwnV VInt 3 1 w (g + 1) (fun _ => False) vf (frR r)
  ne : ∀ x, vc.ownBlock = some x → vf.ownBlock ≠ some x

section
variable {w w' wx w1 : World} {g : Nat} {s1 s2 s3 s4 : Value} {r : List Cl} {last : Cl} {vc vf : Value}
theorem Stk.keep (h : Stk w g s1 s2 s3 s4 r last vc vf) (hb : w.grownBy w' none) : Stk w' g s1 s2 s3 s4 r last vc vf :=
  ⟨h.blk.grown hb (by simp), h.cl.kept tells_row' hb (by cases hv : vc.ownBlock <;> simp) (fun b hS => ⟨⟨Nat.lt_of_lt_of_le hS.1 hb.size, hS.2⟩, hS.1, by simp⟩), h.fr.kept tells_int hb (by cases hv : vf.ownBlock <;> simp) (fun b hS => hS.elim), h.ne⟩
theorem Stk.push (h : Stk w g s1 s2 s3 s4 r last vc vf) {g' n' c' : Nat} (hown : OwnV VInt 3 1 w1 (g + 1) (fun _ => False) (.slice (some ⟨g', 0, none⟩) n' c') (frR r ++ [((clOf r last).length : Int)]))
    (hg : w.grownBy w1 vf.ownBlock) (hat : vf.ownBlock = some g' ∨ g' = w.heap.size) : Stk (w1.setCell ⟨g, 5, none⟩ (.slice (some ⟨g', 0, none⟩) n' c')) g s1 s2 s3 s4 (last :: r) [] vc (.slice (some ⟨g', 0, none⟩) n' c') := by
  have hgl := h.blk.lt
  have hfl := h.fr.lt
  have hcl := h.cl.lt
  have hnf : vf.ownBlock ≠ some g := fun e => by have := (hfl g e).1; omega
  have hk : w1.grownBy (w1.setCell ⟨g, 5, none⟩ (.slice (some ⟨g', 0, none⟩) n' c')) (some g) := one_only (only_refl _ _) 5 _
  have hne' : ∀ x, vc.ownBlock = some x → x ≠ g' := fun x hx e => by
    subst e
    rcases hat with h1 | h1
    · exact h.ne x hx h1
    · have := (hcl x hx).2; omega
  refine ⟨(h.blk.grown hg (fun e => hnf e.symm)).set_ 5 _, ?_, ?_, fun x hx e => hne' x hx (by simpa [Value.ownBlock] using e.symm)⟩
  · rw [clOf_push]
    refine GrowV.kept tells_row' (S := fun b => b < w.heap.size ∧ g < b ∧ vc.ownBlock ≠ some b ∧ vf.ownBlock ≠ some b ∧ b ≠ g') (h.cl.kept tells_row' hg ?_ (fun b hS => ⟨⟨hS.1, hS.2.1, hS.2.2.1, hS.2.2.2, ?_⟩, hS.1, hS.2.2.2⟩)) hk ?_ (fun b hS => ⟨⟨?_, hS.2.1, hS.2.2.1, ?_⟩, Nat.lt_of_lt_of_le hS.1 hg.size, fun e => absurd hS.2.1 (by injection e with e; omega)⟩)
    · cases hv : vc.ownBlock with
      | none => exact .inl rfl
      | some x => exact .inr (fun e => h.ne x hv e.symm)
    · rintro rfl
      rcases hat with h1 | h1
      · exact hS.2.2.2 h1
      · have := hS.1; omega
    · cases hv : vc.ownBlock with
      | none => exact .inl rfl
      | some x => exact .inr (fun e => by injection e with e; have := (hcl x hv).1; omega)
    · have := hS.1; have := hg.size; simp; omega
    · intro e; exact hS.2.2.2.2 (by simpa [Value.ownBlock] using e.symm)
  · rw [frR_push]
    refine hown.kept tells_int hk (.inr ?_) (fun b hS => hS.elim)
    intro e
    have : g' = g := by simpa [Value.ownBlock] using e
    rcases hat with h1 | h1
    · exact hnf (this ▸ h1)
    · omega
theorem Stk.pop {x : Cl} (h : Stk w g s1 s2 s3 s4 (x :: r) last vc vf) {vc' vf' : Value} (hc : vc'.ownBlock = vc.ownBlock) (hf : vf'.ownBlock = vf.ownBlock) (hcl : GrowV VRow 31 1 w (g + 1) (StkS w g vc vf) vc' (clOf r x))
    (hfr : OwnV VInt 3 1 w (g + 1) (fun _ => False) vf' (frR r)) (hg : w.grownBy w' (some g)) (hb : Blk w' g 95 #[s1, s2, s3, s4, vc', vf']) : Stk w' g s1 s2 s3 s4 r x vc' vf' := by
  have hfl := h.fr.lt
  have hcl' := h.cl.lt
  refine ⟨hb, hcl.kept tells_row' hg ?_ (fun b hS => ⟨⟨Nat.lt_of_lt_of_le hS.1 hg.size, hS.2.1, by rw [hc]; exact hS.2.2.1, by rw [hf]; exact hS.2.2.2⟩, hS.1, fun e => absurd hS.2.1 (by injection e with e; omega)⟩), hfr.kept tells_int hg ?_ (fun b hS => hS.elim), fun y hy => by rw [hf]; exact h.ne y (by rw [← hc]; exact hy)⟩
  · cases hv : vc'.ownBlock with
    | none => exact .inl rfl
    | some y => exact .inr (fun e => by injection e with e; have := (hcl' y (by rw [← hc]; exact hv)).1; omega)
  · cases hv : vf'.ownBlock with
    | none => exact .inl rfl
    | some y => exact .inr (fun e => by injection e with e; have := (hfl y (by rw [← hf]; exact hv)).1; omega)
theorem Stk.hold (h : Stk w g s1 s2 s3 s4 r last vc vf) {g' n' c' : Nat} {c : List Int} (hown : OwnV VRow 31 1 w1 (g + 1) (StkS w g vc vf) (.slice (some ⟨g', 0, none⟩) n' c') (clOf r last ++ [c]))
    (hg : w.grownBy w1 vc.ownBlock) (hat : vc.ownBlock = some g' ∨ g' = w.heap.size) : Stk (w1.setCell ⟨g, 4, none⟩ (.slice (some ⟨g', 0, none⟩) n' c')) g s1 s2 s3 s4 r (last ++ [c]) (.slice (some ⟨g', 0, none⟩) n' c') vf := by
  have hgl := h.blk.lt
  have hfl := h.fr.lt
  have hcl := h.cl.lt
  have hnf : vc.ownBlock ≠ some g := fun e => by have := (hcl g e).1; omega
  have hk : w1.grownBy (w1.setCell ⟨g, 4, none⟩ (.slice (some ⟨g', 0, none⟩) n' c')) (some g) := one_only (only_refl _ _) 4 _
  have hne' : ∀ x, vf.ownBlock = some x → x ≠ g' := fun x hx e => by
    subst e
    rcases hat with h1 | h1
    · exact h.ne x h1 hx
    · have := (hfl x hx).2; omega
  refine ⟨(h.blk.grown hg (fun e => hnf e.symm)).set_ 4 _, ?_, ?_, fun x hx e => hne' x e (by simpa [Value.ownBlock] using hx.symm)⟩
  · rw [clOf_hold]
    refine .inl (OwnV.kept tells_row' (w := w1) (hown.kept (w' := w1) (S' := fun b => b < w.heap.size ∧ g < b ∧ b ≠ g' ∧ vf.ownBlock ≠ some b) tells_row' (only_refl w1 none) ?_ (fun b hS => ⟨⟨hS.1, hS.2.1, ?_, hS.2.2.2⟩, Nat.lt_of_lt_of_le hS.1 hg.size, by simp⟩)) hk (.inr ?_) (fun b hS => ⟨⟨?_, hS.2.1, ?_, hS.2.2.2⟩, Nat.lt_of_lt_of_le hS.1 hg.size, fun e => absurd hS.2.1 (by injection e with e; omega)⟩))
    · exact .inr (by simp [Value.ownBlock])
    · rintro rfl
      rcases hat with h1 | h1
      · exact hS.2.2.1 h1
      · have := hS.1; omega
    · intro e
      have : g' = g := by simpa [Value.ownBlock] using e
      rcases hat with h1 | h1
      · exact hnf (this ▸ h1)
      · omega
    · have := hS.1; have := hg.size; simp; omega
    · intro e; exact hS.2.2.1 (by simpa [Value.ownBlock] using e.symm)
  · refine OwnV.kept (S := fun _ => False) tells_int (h.fr.kept tells_int hg ?_ (fun b hS => False.elim hS)) hk ?_ (fun b hS => False.elim hS)
    · cases hv : vf.ownBlock with
      | none => exact .inl rfl
      | some x => exact .inr (fun e => h.ne x e.symm hv)
    · cases hv : vf.ownBlock with
      | none => exact .inl rfl
      | some x => exact .inr (fun e => by injection e with e; have := (hfl x hv).1; omega)
end
end Go.Proofs.Ytpceiifacendfaa
