/- What the judge's state is in memory, from step to step. · The judge's state behind a learned clause, a dropped one, a new atom. No walk. -/
import Derived.Test.YtdncchlfeanlmaaJuZA
namespace Go.Proofs.Ytdncchlfeanlmaa
open Go.RowKit

/-- the judge's state: its block G of five cells; the atoms are given (below B) or in a row of the call's own; the clauses are in a row of the call's own -/
structure JudgeM (w : World) (B G : Nat) (A1 : Option Addr) (c1 : Nat) (A2 : Option Addr) (c2 : Nat) (vF vA vC : Value) (ts : List TermD) (ints : List Bool) (s : JSt) : Prop where
  blk : Blk w G 60 #[.slice A1 ts.length c1, .slice A2 ints.length c2, vA, vF, vC]
  t : ArrB AtTerm 2 w B A1 ts.length ts
  i : ArrB AtBool 1 w B A2 ints.length ints
  l1 : ts.length ≤ c1
  hB : B ≤ G
  a : (∃ A3 c3, vA = .slice A3 s.atoms.length c3 ∧ s.atoms.length ≤ c3 ∧ c3 ≤ maxLen ∧ ArrB AtAtom 6 w B A3 s.atoms.length s.atoms) ∨
    (OwnV VAtom 35 6 w B (fun b => b < B) vA s.atoms ∧ vA.ownBlock ≠ some G ∧ (vC.ownBlock = none ∨ vA.ownBlock ≠ vC.ownBlock))
  l3 : s.atoms.length ≤ 120
  c : OwnV (VArr AtInt 1) 31 1 w B (fun b => b < B) vC s.cls
  n2 : vC.ownBlock ≠ some G

section
variable {w w' : World} {B G : Nat} {A1 : Option Addr} {c1 : Nat} {A2 : Option Addr} {c2 : Nat} {vF vA vC : Value} {ts : List TermD} {ints : List Bool} {s : JSt}
theorem JudgeM.hBw (h : JudgeM w B G A1 c1 A2 c2 vF vA vC ts ints s) : B ≤ w.heap.size := Nat.le_trans h.hB (Nat.le_of_lt h.blk.lt)
theorem JudgeM.later (h : JudgeM w B G A1 c1 A2 c2 vF vA vC ts ints s) (hb : Below w.heap.size w w') : JudgeM w' B G A1 c1 A2 c2 vF vA vC ts ints s := by
  have hBw := h.hBw
  have hg : w.grownBy w' none := only_of_below hb none
  have hS : ∀ b, b < B → b < B ∧ b < w.heap.size ∧ (none : Option Nat) ≠ some b := fun b hb' => ⟨hb', by omega, by simp⟩
  refine ⟨(hb.block G h.blk.lt).trans h.blk, h.t.below stays_term (hb.mono hBw) (Nat.le_refl _), h.i.below stays_bool (hb.mono hBw) (Nat.le_refl _), h.l1, h.hB, ?_, h.l3, h.c.kept (tells_arr stays_int) hg (by cases vC.ownBlock <;> simp) hS, h.n2⟩
  rcases h.a with ⟨A3, c3, h1, h2, h3, h4⟩ | ⟨h1, h2, h3⟩
  · exact .inl ⟨A3, c3, h1, h2, h3, h4.below stays_atom (hb.mono hBw) (Nat.le_refl _)⟩
  · exact .inr ⟨h1.kept tells_atom hg (by cases vA.ownBlock <;> simp) hS, h2, h3⟩
/-- .. as the judge's tests read it -/
theorem JudgeM.reads (h : JudgeM w B G A1 c1 A2 c2 vF vA vC ts ints s) : ∃ A3 c3, vA = .slice A3 s.atoms.length c3 ∧ s.atoms.length ≤ c3 ∧ c3 ≤ maxLen ∧ StR w w.heap.size G A1 c1 A2 c2 A3 c3 ts ints s.atoms := by
  have hBw := h.hBw
  have k : ∃ A3 c3, vA = .slice A3 s.atoms.length c3 ∧ s.atoms.length ≤ c3 ∧ c3 ≤ maxLen ∧ ArrB AtAtom 6 w w.heap.size A3 s.atoms.length s.atoms := by
    rcases h.a with ⟨A3, c3, h1, h2, h3, h4⟩ | ⟨h1, h2, h3⟩
    · exact ⟨A3, c3, h1, h2, h3, h4.keep stays_atom (fun b hb => Nat.lt_of_lt_of_le hb hBw) (fun _ _ _ => rfl)⟩
    · obtain ⟨A3, c3, k1, k2, k3, k4⟩ := h1.reads tells_atom (E := AtAtom) (S' := fun b => b < w.heap.size) (fun _ _ _ _ _ h => atV_atom h) (fun b hb => Nat.lt_of_lt_of_le hb hBw) (fun g hg => (h1.lt g hg).2)
      exact ⟨A3, c3, k1, k2, k3, k4⟩
  obtain ⟨A3, c3, k1, k2, k3, k4⟩ := k
  refine ⟨A3, c3, k1, k2, k3, h.blk.cell 0, h.blk.cell 1, (h.blk.cell 2).trans (by rw [k1]; rfl), h.blk.lt, h.t.keep stays_term (fun b hb => Nat.lt_of_lt_of_le hb hBw) (fun _ _ _ => rfl), h.i.keep stays_bool (fun b hb => Nat.lt_of_lt_of_le hb hBw) (fun _ _ _ => rfl), k4, h.l1, h.l3, Nat.le_refl _⟩
/-- .. and its clauses -/
theorem JudgeM.clauses (h : JudgeM w B G A1 c1 A2 c2 vF vA vC ts ints s) : ∃ A4 c4, vC = .slice A4 s.cls.length c4 ∧ s.cls.length ≤ c4 ∧ c4 ≤ maxLen ∧ ArrB (AtArr AtInt 1) 1 w w.heap.size A4 s.cls.length s.cls := by
  have hBw := h.hBw
  obtain ⟨A4, c4, k1, k2, k3, k4⟩ := h.c.reads (tells_arr stays_int) (E := AtArr AtInt 1) (S' := fun b => b < w.heap.size) (fun _ _ _ _ _ h => atV_arr.1 h) (fun b hb => Nat.lt_of_lt_of_le hb hBw) (fun g hg => (h.c.lt g hg).2)
  exact ⟨A4, c4, k1, k2, k3, k4⟩
end
end Go.Proofs.Ytdncchlfeanlmaa
namespace Go.Proofs.Ytdncchlfeanlmaa
open Go.RowKit

section
variable {w w3 : World} {B G : Nat} {A1 : Option Addr} {c1 : Nat} {A2 : Option Addr} {c2 : Nat} {vF vA vC : Value} {ts : List TermD} {ints : List Bool} {s : JSt}
theorem set_grown (w : World) (G o : Nat) (u : Value) : w.grownBy (w.setCell ⟨G, o, none⟩ u) (some G) :=
  ⟨rfl, rfl, rfl, by simp [World.setCell], fun k hk hne => Below.heap_setCell _ _ _ _ (fun e => hne (by rw [e]))⟩
/-- the clauses' row has turned (appended to, or shortened in place), and is stored -/
theorem JudgeM.clausesTo (h : JudgeM w B G A1 c1 A2 c2 vF vA vC ts ints s) (hgw : w.grownBy w3 vC.ownBlock) {g n c : Nat} {cls : List (List Int)} (hown : OwnV (VArr AtInt 1) 31 1 w3 B (fun b => b < B) (.slice (some ⟨g, 0, none⟩) n c) cls)
    (hat : vC.ownBlock = some g ∨ w.heap.size ≤ g) :
    JudgeM (w3.setCell ⟨G, 4, none⟩ (.slice (some ⟨g, 0, none⟩) n c)) B G A1 c1 A2 c2 vF vA (.slice (some ⟨g, 0, none⟩) n c) ts ints ⟨s.atoms, cls⟩ ∧ Below B w (w3.setCell ⟨G, 4, none⟩ (.slice (some ⟨g, 0, none⟩) n c)) := by
  have hBw := h.hBw
  have hGw := h.blk.lt
  have hgG : g ≠ G := by
    rcases hat with e | e
    · intro e2; subst e2; exact h.n2 e
    · omega
  have hC : ∀ b, b < B → vC.ownBlock ≠ some b := fun b hb e => by have := (h.c.lt b e).1; omega
  have hset := set_grown w3 G 4 (.slice (some ⟨g, 0, none⟩) n c)
  have hz := hgw.size
  have hcell : ∀ b o, b < B → (w3.setCell ⟨G, 4, none⟩ (.slice (some ⟨g, 0, none⟩) n c)).cell? ⟨b, o, none⟩ = w.cell? ⟨b, o, none⟩ := fun b o hb =>
    (only_cell hset (Nat.lt_of_lt_of_le hb (Nat.le_trans hBw hz)) (by intro e; injection e with e; have := h.hB; omega)).trans (only_cell hgw (by omega) (hC b hb))
  have hS1 : ∀ b, b < B → b < B ∧ b < w.heap.size ∧ vC.ownBlock ≠ some b := fun b hb => ⟨hb, by omega, hC b hb⟩
  have hS2 : ∀ b, b < B → b < B ∧ b < w3.heap.size ∧ (some G : Option Nat) ≠ some b := fun b hb => ⟨hb, by omega, by intro e; injection e with e; have := h.hB; omega⟩
  refine ⟨⟨(Blk.grown h.blk hgw (Ne.symm h.n2)).set_ 4 _, h.t.keep stays_term (fun _ h => h) (fun b o hb => hcell b o hb), h.i.keep stays_bool (fun _ h => h) (fun b o hb => hcell b o hb), h.l1, h.hB, ?_, h.l3, hown.kept (tells_arr stays_int) hset (.inr (by intro e; injection e with e; exact hgG e)) hS2, by intro e; injection e with e; exact hgG e⟩, ?_⟩
  · rcases h.a with ⟨A3, c3, h1, h2, h3, h4⟩ | ⟨h1, h2, h3⟩
    · exact .inl ⟨A3, c3, h1, h2, h3, h4.keep stays_atom (fun _ h => h) (fun b o hb => hcell b o hb)⟩
    · have hne : vA.ownBlock = none ∨ vA.ownBlock ≠ vC.ownBlock := by
        rcases h3 with e | e
        · cases hv : vA.ownBlock with
          | none => exact .inl rfl
          | some x => rw [e]; exact .inr (by simp)
        · exact .inr e
      refine .inr ⟨(h1.kept tells_atom hgw hne hS1).kept tells_atom hset (.inr h2) hS2, h2, .inr ?_⟩
      intro e
      have e' : vA.ownBlock = some g := e
      have hlt := (h1.lt g e').2
      rcases hat with e2 | e2
      · rcases h3 with e3 | e3
        · rw [e3] at e2; cases e2
        · exact e3 (e'.trans e2.symm)
      · omega
  · exact ((Below.refl B w).grown hgw hBw (fun k hk => (h.c.lt k hk).1)).grown hset (Nat.le_trans hBw hz) (fun k hk => by injection hk with hk; have := h.hB; omega)
end
end Go.Proofs.Ytdncchlfeanlmaa
