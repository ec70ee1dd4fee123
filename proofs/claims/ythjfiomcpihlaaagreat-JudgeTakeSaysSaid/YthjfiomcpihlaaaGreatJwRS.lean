/- A law for the walk: an append of a whole slice, as a step of a region that draws its order. No program is named here. · The reference's state in memory, what a step of it changes (JudgeWhySays; printed by genJwR.py). No walk. · Plain: the ways of a step as the reference takes it (JudgeWhySays; printed by genJwS.py). No walk. -/
import Derived.Test.YthjfiomcpihlaaaGreatCore
import Derived.Test.YthjfiomcpihlaaaGreatOuOC
import Derived.Deep.RegionLaw
import Derived.Test.YthjfiomcpihlaaaGreatJwOP
import Derived.Test.YthjfiomcpihlaaaGreatJwABC
import Derived.Test.YthjfiomcpihlaaaGreatCSEP
namespace Go.Proofs.YthjfiomcpihlaaaGreat
open Go.RowKit

section
variable {α : Type} {V : Val α} {e sz base : Nat} {w : World} {S : Nat → Prop} {v : Value} {xs : List α}
theorem step_append_manyJ {P : Program} {ops : Array Oper} {o : Oper} {a : Act} {K : Act → World → Prop} {Q : Exit → Act → World → Prop} {E0 : Prop} (hgd : o.guard = none) (s x : Operand) (t : TypeId)
    (ho : o.op = .call { callee := .builtin .append, args := #[s, x], argTypes := #[t, t] }) {bytes : Nat} (T : RowT P t e sz bytes) (hV : Tells V sz)
    (hs : a.eval s = v) (hown : OwnV V e sz w base S v xs) {E : Ent α} (hE : ∀ w S b o x, E w S b o x → AtV V w S b o x) {A : Option Addr} {m c : Nat} {ys : List α} (hx : a.eval x = .slice A m c) (hys : Arr E sz w S A m ys)
    (hS : ∀ b, S b → b < w.heap.size ∧ v.ownBlock ≠ some b) (h63 : xs.length + m ≤ maxLen) (hbytes : (xs.length + m) * bytes ≤ 140737488355328) (hbase : base ≤ w.heap.size)
    (h : ∀ v' w', OwnV V e sz w' base S v' (xs ++ ys) → w.grownBy w' v.ownBlock → (v'.ownBlock = v.ownBlock ∨ v'.ownBlock = some w.heap.size) → K (a.put o.dst v') w') :
    if Region.wanted o (yielded ops a.tmps) = true then Oper.wp P o a w K Q else E0 := by
  have hw : Region.wanted o (yielded ops a.tmps) = true := by simp [Region.wanted, hgd]
  rw [if_pos hw]
  obtain ⟨v', w', hr, h2, h3, h5⟩ := run_append_many (P := P) (ty := o.type) (c := c) T hV hown hE hys hS h63 hbytes hbase
  unfold Oper.wp execOp
  simp only [ho, resolve, invoke, builtin, Sem.run_bind, Sem.run_pure, Result.andThen_ok, List.map_toArray, List.map_cons, List.map_nil, hs, hx, hr]
  exact h v' w' h2 h3 h5
end
end Go.Proofs.YthjfiomcpihlaaaGreat
namespace Go.Proofs.YthjfiomcpihlaaaGreat
open Go.RowKit

/-- the reference's state in memory: its struct in block G; all else in other blocks -/
structure RefM (w : World) (G : Nat) (A1 : Option Addr) (c1 : Nat) (A2 : Option Addr) (c2 : Nat) (v2 v3 : Value) (A4 : Option Addr) (c4 : Nat) (A5 : Option Addr) (c5 : Nat) (ts : List TermD) (ints : List Bool) (s : JSt) : Prop where
  blk : Blk w G 55 #[.slice A1 ts.length c1, .slice A2 ints.length c2, v2, v3, .slice A4 s.atoms.length c4, .slice A5 s.cls.length c5]
  t : Arr AtTerm 2 w (fun b => b < w.heap.size ∧ b ≠ G) A1 ts.length ts
  i : Arr AtBool 1 w (fun b => b < w.heap.size ∧ b ≠ G) A2 ints.length ints
  a : Arr AtAtom 6 w (fun b => b < w.heap.size ∧ b ≠ G) A4 s.atoms.length s.atoms
  c : Arr (AtArr AtInt 1) 1 w (fun b => b < w.heap.size ∧ b ≠ G) A5 s.cls.length s.cls
  l1 : ts.length ≤ c1
  l4 : s.atoms.length ≤ c4 ∧ c4 ≤ maxLen
  l5 : s.cls.length ≤ c5 ∧ c5 ≤ maxLen
  la : s.atoms.length ≤ 120
section
variable {w w' : World} {G : Nat} {A1 A2 A4 A5 : Option Addr} {c1 c2 c4 c5 : Nat} {v2 v3 : Value} {ts : List TermD} {ints : List Bool} {s : JSt}
theorem arr_later {α : Type} {E : Ent α} {sz n : Nat} {A : Option Addr} {xs : List α} (hE : Stays E) (h : Arr E sz w (fun b => b < w.heap.size ∧ b ≠ G) A n xs) (hb : w.grownBy w' (some G)) : Arr E sz w' (fun b => b < w'.heap.size ∧ b ≠ G) A n xs :=
  h.keep hE (fun b hb' => ⟨Nat.lt_of_lt_of_le hb'.1 hb.size, hb'.2⟩) (fun b o hb' => only_cell hb hb'.1 (fun e => hb'.2 (by injection e with e; exact e.symm)))
theorem RefM.later (h : RefM w G A1 c1 A2 c2 v2 v3 A4 c4 A5 c5 ts ints s) (hb : Below w.heap.size w w') : RefM w' G A1 c1 A2 c2 v2 v3 A4 c4 A5 c5 ts ints s :=
  have hg := only_of_below hb (some G)
  ⟨h.blk.below hb h.blk.lt, arr_later stays_term h.t hg, arr_later stays_bool h.i hg, arr_later stays_atom h.a hg, arr_later (stays_arr stays_int) h.c hg, h.l1, h.l4, h.l5, h.la⟩
theorem RefM.reads (h : RefM w G A1 c1 A2 c2 v2 v3 A4 c4 A5 c5 ts ints s) : RfR w w.heap.size G A1 c1 A2 c2 A4 c4 ts ints s.atoms :=
  ⟨h.blk.cell 0, h.blk.cell 1, h.blk.cell 4, h.blk.lt, h.t.keep stays_term (fun _ hb => hb.1) (fun _ _ _ => rfl), h.i.keep stays_bool (fun _ hb => hb.1) (fun _ _ _ => rfl), h.a.keep stays_atom (fun _ hb => hb.1) (fun _ _ _ => rfl), h.l1, h.la, Nat.le_refl _⟩
theorem RefM.cls_ (h : RefM w G A1 c1 A2 c2 v2 v3 A4 c4 A5 c5 ts ints s) : ArrB (AtArr AtInt 1) 1 w w.heap.size A5 s.cls.length s.cls := h.c.keep (stays_arr stays_int) (fun _ hb => hb.1) (fun _ _ _ => rfl)
/-- the clauses are other ones -/
theorem RefM.toCls (h : RefM w G A1 c1 A2 c2 v2 v3 A4 c4 A5 c5 ts ints s) (hb : w.grownBy w' (some G)) {A : Option Addr} {m c : Nat} {cls : List (List Int)}
    (hk : Blk w' G 55 #[.slice A1 ts.length c1, .slice A2 ints.length c2, v2, v3, .slice A4 s.atoms.length c4, .slice A m c]) (hc : Arr (AtArr AtInt 1) 1 w' (fun b => b < w'.heap.size ∧ b ≠ G) A m cls) (hmc : m ≤ c) (hcm : c ≤ maxLen) :
    RefM w' G A1 c1 A2 c2 v2 v3 A4 c4 A c ts ints ⟨s.atoms, cls⟩ := by
  have hm := hc.len
  subst hm
  exact ⟨hk, arr_later stays_term h.t hb, arr_later stays_bool h.i hb, arr_later stays_atom h.a hb, hc, h.l1, h.l4, ⟨hmc, hcm⟩, h.la⟩
/-- the atoms are other ones -/
theorem RefM.toAtoms (h : RefM w G A1 c1 A2 c2 v2 v3 A4 c4 A5 c5 ts ints s) (hb : w.grownBy w' (some G)) {A : Option Addr} {m c : Nat} {ats : List AtomD}
    (hk : Blk w' G 55 #[.slice A1 ts.length c1, .slice A2 ints.length c2, v2, v3, .slice A m c, .slice A5 s.cls.length c5]) (hc : Arr AtAtom 6 w' (fun b => b < w'.heap.size ∧ b ≠ G) A m ats) (hmc : m ≤ c) (hcm : c ≤ maxLen) (hl : ats.length ≤ 120) :
    RefM w' G A1 c1 A2 c2 v2 v3 A c A5 c5 ts ints ⟨ats, s.cls⟩ := by
  have hm := hc.len
  subst hm
  exact ⟨hk, arr_later stays_term h.t hb, arr_later stays_bool h.i hb, hc, arr_later (stays_arr stays_int) h.c hb, h.l1, ⟨hmc, hcm⟩, h.l5, hl⟩
end
/-- what a step says: whether it is taken, and the state behind it -/
def StepQ (G : Nat) (A1 : Option Addr) (c1 : Nat) (A2 : Option Addr) (c2 : Nat) (v2 v3 : Value) (ts : List TermD) (ints : List Bool) (r : Option JSt) (w : World) (e : Ending) (w' : World) : Prop :=
  w.grownBy w' (some G) ∧ (r = none → e = .returned (.bool false)) ∧ (∀ s', r = some s' → e = .returned (.bool true) ∧ ∃ A4 c4 A5 c5, RefM w' G A1 c1 A2 c2 v2 v3 A4 c4 A5 c5 ts ints s')
/-- the step that is handed over, its two boxes, and the state, in a later world -/
structure StepI (w W : World) (G : Nat) (A1 : Option Addr) (c1 : Nat) (A2 : Option Addr) (c2 : Nat) (v2 v3 : Value) (A4 : Option Addr) (c4 : Nat) (A5 : Option Addr) (c5 : Nat) (ts : List TermD) (ints : List Bool) (s : JSt) (L : Option Addr) (nl cl : Nat) (M : Option Addr) (nm cm : Nat) (O : Option Addr) (no co : Nat) (x : StepD) : Prop where
  m : RefM W G A1 c1 A2 c2 v2 v3 A4 c4 A5 c5 ts ints s
  k0 : Blk W w.heap.size 49 #[.int .i64 x.kind, .slice L nl cl, .slice M nm cm, .int .i64 x.atom.kind, .int .i64 x.atom.a, .int .i64 x.atom.b, .slice O no co, .int .i64 x.atom.row.kind, .int .i64 x.atom.row.to_]
  k1 : Blk W (w.heap.size + 1) 47 #[.int .i64 x.atom.kind, .int .i64 x.atom.a, .int .i64 x.atom.b, .slice O no co, .int .i64 x.atom.row.kind, .int .i64 x.atom.row.to_]
  lits : Arr AtInt 1 W (fun b => b < W.heap.size ∧ b ≠ G) L nl x.lits
  nums : Arr AtFrac 2 W (fun b => b < W.heap.size ∧ b ≠ G) M nm x.nums
  of_ : Arr AtInt 1 W (fun b => b < W.heap.size ∧ b ≠ G) O no x.atom.row.of_
  bel : Below w.heap.size w W
section
variable {w W W' : World} {G : Nat} {A1 A2 A4 A5 L M O : Option Addr} {c1 c2 c4 c5 nl cl nm cm no co : Nat} {v2 v3 : Value} {ts : List TermD} {ints : List Bool} {s : JSt} {x : StepD}
theorem StepI.later (h : StepI w W G A1 c1 A2 c2 v2 v3 A4 c4 A5 c5 ts ints s L nl cl M nm cm O no co x) (hb : Below W.heap.size W W') : StepI w W' G A1 c1 A2 c2 v2 v3 A4 c4 A5 c5 ts ints s L nl cl M nm cm O no co x :=
  have hg := only_of_below hb (some G)
  ⟨h.m.later hb, h.k0.below hb h.k0.lt, h.k1.below hb h.k1.lt, arr_later stays_int h.lits hg, arr_later stays_frac h.nums hg, arr_later stays_int h.of_ hg, h.bel.trans (hb.mono h.bel.size)⟩
theorem StepI.litsB (h : StepI w W G A1 c1 A2 c2 v2 v3 A4 c4 A5 c5 ts ints s L nl cl M nm cm O no co x) : IntsB W W.heap.size L nl x.lits := h.lits.keep stays_int (fun _ hb => hb.1) (fun _ _ _ => rfl)
theorem StepI.numsB (h : StepI w W G A1 c1 A2 c2 v2 v3 A4 c4 A5 c5 ts ints s L nl cl M nm cm O no co x) : ArrB AtFrac 2 W W.heap.size M nm x.nums := h.nums.keep stays_frac (fun _ hb => hb.1) (fun _ _ _ => rfl)
theorem StepI.ofB (h : StepI w W G A1 c1 A2 c2 v2 v3 A4 c4 A5 c5 ts ints s L nl cl M nm cm O no co x) : IntsB W W.heap.size O no x.atom.row.of_ := h.of_.keep stays_int (fun _ hb => hb.1) (fun _ _ _ => rfl)
end
end Go.Proofs.YthjfiomcpihlaaaGreat
namespace Go.Proofs.YthjfiomcpihlaaaGreat
open Go.RowKit

section
variable {ts : List TermD} {ints : List Bool} {s : JSt} {x : StepD}
theorem stepR_bad (h : ¬ (badL s.atoms.length [] x.lits 0).2 = 0) : stepR ts ints s x = none := by unfold stepR; rw [if_pos h]
theorem stepR_5 (h : (badL s.atoms.length [] x.lits 0).2 = 0) (h5 : x.kind = 5) : stepR ts ints s x = (if 0 < x.lits.length ∨ 0 < x.nums.length ∨ ¬ x.atom.kind = 3 ∨ ¬ x.atom.a = 0 ∨ ¬ x.atom.b = 0 ∨ 120 ≤ s.atoms.length ∨ ¬ rowCode x.atom.row ints.length = 0 then none else some ⟨s.atoms ++ [x.atom], s.cls⟩) := by
  unfold stepR; rw [if_neg (fun e => e h), if_pos h5]
theorem stepR_form (h : (badL s.atoms.length [] x.lits 0).2 = 0) (h5 : ¬ x.kind = 5) (hf : zeroA x.atom = false ∨ (¬ x.kind = 4 ∧ 0 < x.nums.length) ∨ (x.kind = 4 ∧ ¬ x.nums.length = x.lits.length)) : stepR ts ints s x = none := by
  unfold stepR; rw [if_neg (fun e => e h), if_neg h5, if_pos hf]
theorem stepR_rest (h : (badL s.atoms.length [] x.lits 0).2 = 0) (h5 : ¬ x.kind = 5) (hf : ¬ (zeroA x.atom = false ∨ (¬ x.kind = 4 ∧ 0 < x.nums.length) ∨ (x.kind = 4 ∧ ¬ x.nums.length = x.lits.length))) : stepR ts ints s x =
    (if x.kind = 2 then (if s.cls.any (fun c => permB c x.lits) = true then some ⟨s.atoms, s.cls.eraseIdx (idx (fun c => permB c x.lits) s.cls 0).toNat⟩ else none)
    else if (if x.kind = 1 then @decide (Clash s.cls (x.lits.map fun l => -l)) (Classical.propDecidable _) else if x.kind = 3 then sameF ts s.atoms x.lits else if x.kind = 4 then rowsF ints.length s.atoms x.lits x.nums else if x.kind = 6 then gapF ints s.atoms x.lits else false) = true
      then some ⟨s.atoms, s.cls ++ [x.lits]⟩ else none) := by
  unfold stepR; rw [if_neg (fun e => e h), if_neg h5, if_neg hf]
theorem stepR_test (h : (badL s.atoms.length [] x.lits 0).2 = 0) (h5 : ¬ x.kind = 5) (h2 : ¬ x.kind = 2) (hf : ¬ (zeroA x.atom = false ∨ (¬ x.kind = 4 ∧ 0 < x.nums.length) ∨ (x.kind = 4 ∧ ¬ x.nums.length = x.lits.length))) {b : Bool}
    (hb : (if x.kind = 1 then @decide (Clash s.cls (x.lits.map fun l => -l)) (Classical.propDecidable _) else if x.kind = 3 then sameF ts s.atoms x.lits else if x.kind = 4 then rowsF ints.length s.atoms x.lits x.nums else if x.kind = 6 then gapF ints s.atoms x.lits else false) = b) :
    stepR ts ints s x = if b = true then some ⟨s.atoms, s.cls ++ [x.lits]⟩ else none := by
  rw [stepR_rest h h5 hf, if_neg h2, hb]
end
theorem stepQ_no {G : Nat} {A1 : Option Addr} {c1 : Nat} {A2 : Option Addr} {c2 : Nat} {v2 v3 : Value} {ts : List TermD} {ints : List Bool} {r : Option JSt} {w w' : World} {e : Ending} (hg : w.grownBy w' (some G)) (hr : r = none) (he : e = .returned (.bool false)) : StepQ G A1 c1 A2 c2 v2 v3 ts ints r w e w' :=
  ⟨hg, fun _ => he, fun s' h => by rw [hr] at h; cases h⟩
theorem stepQ_yes {G : Nat} {A1 : Option Addr} {c1 : Nat} {A2 : Option Addr} {c2 : Nat} {v2 v3 : Value} {ts : List TermD} {ints : List Bool} {r : Option JSt} {w w' : World} {e : Ending} {s' : JSt} {A4 : Option Addr} {c4 : Nat} {A5 : Option Addr} {c5 : Nat} (hg : w.grownBy w' (some G)) (hr : r = some s') (he : e = .returned (.bool true))
    (hm : RefM w' G A1 c1 A2 c2 v2 v3 A4 c4 A5 c5 ts ints s') : StepQ G A1 c1 A2 c2 v2 v3 ts ints r w e w' :=
  ⟨hg, (fun h => by rw [hr] at h; cases h), fun s'' h => by rw [hr] at h; injection h with h; subst h; exact ⟨he, A4, c4, A5, c5, hm⟩⟩
theorem step_start (w : World) {G : Nat} {A1 : Option Addr} {c1 : Nat} {A2 : Option Addr} {c2 : Nat} {v2 v3 : Value} {A4 : Option Addr} {c4 : Nat} {A5 : Option Addr} {c5 : Nat} {ts : List TermD} {ints : List Bool} {s : JSt} {L : Option Addr} {nl cl : Nat} {M : Option Addr} {nm cm : Nat} {O : Option Addr} {no co : Nat} {x : StepD}
    (h : RefM w G A1 c1 A2 c2 v2 v3 A4 c4 A5 c5 ts ints s) (hlits : Arr AtInt 1 w (fun b => b < w.heap.size ∧ b ≠ G) L nl x.lits) (hnums : Arr AtFrac 2 w (fun b => b < w.heap.size ∧ b ≠ G) M nm x.nums) (hof : Arr AtInt 1 w (fun b => b < w.heap.size ∧ b ≠ G) O no x.atom.row.of_) :
    StepI w ((w.alloc (.cells #[.int .i64 x.kind, .slice L nl cl, .slice M nm cm, .int .i64 x.atom.kind, .int .i64 x.atom.a, .int .i64 x.atom.b, .slice O no co, .int .i64 x.atom.row.kind, .int .i64 x.atom.row.to_] 49)).alloc (.cells #[.int .i64 x.atom.kind, .int .i64 x.atom.a, .int .i64 x.atom.b, .slice O no co, .int .i64 x.atom.row.kind, .int .i64 x.atom.row.to_] 47)) G A1 c1 A2 c2 v2 v3 A4 c4 A5 c5 ts ints s L nl cl M nm cm O no co x := by
  obtain ⟨hbX, k0, k1, -⟩ := two_boxes w 49 47 #[.int .i64 x.kind, .slice L nl cl, .slice M nm cm, .int .i64 x.atom.kind, .int .i64 x.atom.a, .int .i64 x.atom.b, .slice O no co, .int .i64 x.atom.row.kind, .int .i64 x.atom.row.to_] #[.int .i64 x.atom.kind, .int .i64 x.atom.a, .int .i64 x.atom.b, .slice O no co, .int .i64 x.atom.row.kind, .int .i64 x.atom.row.to_]
  have hg := only_of_below hbX (some G)
  exact ⟨h.later hbX, k0, k1, arr_later stays_int hlits hg, arr_later stays_frac hnums hg, arr_later stays_int hof hg, hbX⟩
/-- a clause more: what the two appends leave -/
theorem cls_pushed {w0 W w5 : World} {G : Nat} {A1 : Option Addr} {c1 : Nat} {A2 : Option Addr} {c2 : Nat} {v2 v3 : Value} {A4 : Option Addr} {c4 : Nat} {A5 : Option Addr} {c5 : Nat} {ts : List TermD} {ints : List Bool} {s : JSt} {lits : List Int} {g c : Nat}
    (h : RefM W G A1 c1 A2 c2 v2 v3 A4 c4 A5 c5 ts ints s) (h0 : w0.grownBy W (some G)) (hb : Below W.heap.size W w5) (hown : OwnV (VArr AtInt 1) 40 1 w5 W.heap.size (fun b => b < W.heap.size ∧ b ≠ G) (.slice (some ⟨g, 0, none⟩) (s.cls.length + 1) c) (s.cls ++ [lits])) :
    w0.grownBy (w5.setCell ⟨G, 5, none⟩ (.slice (some ⟨g, 0, none⟩) (s.cls.length + 1) c)) (some G) ∧ RefM (w5.setCell ⟨G, 5, none⟩ (.slice (some ⟨g, 0, none⟩) (s.cls.length + 1) c)) G A1 c1 A2 c2 v2 v3 A4 c4 (some ⟨g, 0, none⟩) c ts ints ⟨s.atoms, s.cls ++ [lits]⟩ := by
  have hs := one_only (only_refl w5 (some G)) 5 (.slice (some ⟨g, 0, none⟩) (s.cls.length + 1) c)
  have hg5 : W.grownBy (w5.setCell ⟨G, 5, none⟩ (.slice (some ⟨g, 0, none⟩) (s.cls.length + 1) c)) (some G) := only_trans (only_of_below hb _) hs
  have hl := hown.lt g rfl
  have hG := h.blk.lt
  refine ⟨only_trans h0 hg5, h.toCls hg5 ((h.blk.below hb hG).set_ 5 _) ?_ ?_ ?_⟩
  · obtain ⟨A, c', e, -, -, har⟩ := hown.reads (tells_arr stays_int) (E := AtArr AtInt 1) (S' := fun b => b < w5.heap.size ∧ b ≠ G) (fun _ _ _ _ _ h => atV_arr.1 h) (fun b hb' => ⟨by have := hb.size; omega, hb'.2⟩) (fun g' hg' => by
      have e : some g = some g' := hg'
      injection e with e
      subst e
      exact ⟨hl.2, by omega⟩)
    rw [List.length_append, List.length_singleton] at e har
    injection e with e1 e2 e3
    subst e1
    exact arr_later (stays_arr stays_int) har hs
  · obtain ⟨A, c', e, h1, -⟩ := hown.len
    rw [List.length_append, List.length_singleton] at e h1
    injection e with e1 e2 e3
    omega
  · obtain ⟨A, c', e, -, h1⟩ := hown.len
    injection e with e1 e2 e3
    omega
theorem atoms_pushed {w0 W w5 : World} {G : Nat} {A1 : Option Addr} {c1 : Nat} {A2 : Option Addr} {c2 : Nat} {v2 v3 : Value} {A4 : Option Addr} {c4 : Nat} {A5 : Option Addr} {c5 : Nat} {ts : List TermD} {ints : List Bool} {s : JSt} {a : AtomD} {g c : Nat}
    (h : RefM W G A1 c1 A2 c2 v2 v3 A4 c4 A5 c5 ts ints s) (h0 : w0.grownBy W (some G)) (hb : Below W.heap.size W w5) (hl : s.atoms.length < 120) (hown : OwnV VAtom 47 6 w5 W.heap.size (fun b => b < W.heap.size ∧ b ≠ G) (.slice (some ⟨g, 0, none⟩) (s.atoms.length + 1) c) (s.atoms ++ [a])) :
    w0.grownBy (w5.setCell ⟨G, 4, none⟩ (.slice (some ⟨g, 0, none⟩) (s.atoms.length + 1) c)) (some G) ∧ RefM (w5.setCell ⟨G, 4, none⟩ (.slice (some ⟨g, 0, none⟩) (s.atoms.length + 1) c)) G A1 c1 A2 c2 v2 v3 (some ⟨g, 0, none⟩) c A5 c5 ts ints ⟨s.atoms ++ [a], s.cls⟩ := by
  have hs := one_only (only_refl w5 (some G)) 4 (.slice (some ⟨g, 0, none⟩) (s.atoms.length + 1) c)
  have hg5 : W.grownBy (w5.setCell ⟨G, 4, none⟩ (.slice (some ⟨g, 0, none⟩) (s.atoms.length + 1) c)) (some G) := only_trans (only_of_below hb _) hs
  have hl' := hown.lt g rfl
  have hG := h.blk.lt
  refine ⟨only_trans h0 hg5, h.toAtoms hg5 ((h.blk.below hb hG).set_ 4 _) ?_ ?_ ?_ (by rw [List.length_append, List.length_singleton]; omega)⟩
  · obtain ⟨A, c', e, -, -, har⟩ := hown.reads tells_atom (E := AtAtom) (S' := fun b => b < w5.heap.size ∧ b ≠ G) (fun _ _ _ _ _ h => atV_atom h) (fun b hb' => ⟨by have := hb.size; omega, hb'.2⟩) (fun g' hg' => by
      have e : some g = some g' := hg'
      injection e with e
      subst e
      exact ⟨hl'.2, by omega⟩)
    rw [List.length_append, List.length_singleton] at e har
    injection e with e1 e2 e3
    subst e1
    exact arr_later stays_atom har hs
  · obtain ⟨A, c', e, h1, -⟩ := hown.len
    rw [List.length_append, List.length_singleton] at e h1
    injection e with e1 e2 e3
    omega
  · obtain ⟨A, c', e, -, h1⟩ := hown.len
    injection e with e1 e2 e3
    omega
end Go.Proofs.YthjfiomcpihlaaaGreat
