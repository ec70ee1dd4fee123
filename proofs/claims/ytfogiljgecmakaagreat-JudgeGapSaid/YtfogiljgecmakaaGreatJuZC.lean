/- Walk: slices.Clip over atoms; what the judge's state is in memory. · Walk: slices.Delete over clauses, in a row of the call's own. · Walk: slices.Clone over clauses: a row of the call's own. · What the judge's state is in memory, from step to step. · The judge's state behind a learned clause, a dropped one, a new atom. No walk. -/
import Derived.Test.YtfogiljgecmakaaGreatJuCF
import Derived.Test.YtfogiljgecmakaaGreatOuO
import Derived.Test.YtfogiljgecmakaaGreatCore
import Derived.Test.YtfogiljgecmakaaGreatFuFr
import Derived.Shelf.SlicesE.Delete
import Derived.Lib.OwnBridge
import Derived.Ground.SlgnProg
import Derived.Shelf.SlicesE.Clone
namespace Go.Proofs.YtfogiljgecmakaaGreat
open Go.RowKit

set_option maxHeartbeats 1000000 in
theorem clipAtoms_any (A : Option Addr) (n c : Nat) (w : World) (hn : n ≤ c) (hA : A = none → n = 0 ∧ c = 0) :
    Calls Tryz.prog 77 #[.slice A n c] w fun e w' => e = .returned (.slice A n n) ∧ w' = w := by
  rcases A with _ | ⟨b, off, th⟩
  · obtain ⟨rfl, rfl⟩ := hA rfl
    go_enter Tryz.func77, Tryz.ntmps77
    go_wp2
    go_ret
    exact ⟨rfl, rfl⟩
  · clear hA
    have hnI : ((n : Int)) ≤ (c : Int) := by omega
    go_enter Tryz.func77, Tryz.ntmps77
    go_wp2
    go_ret
    exact ⟨rfl, rfl⟩
end Go.Proofs.YtfogiljgecmakaaGreat
namespace Go.Proofs.YtfogiljgecmakaaGreat
open Go.RowKit

def Tryz.delC_ren : Go.Shelf.Ren := ⟨fun | 45 => 76 | n => n, fun | 22 => 25 | 23 => 28 | 3 => 3 | 4 => 4 | 0 => 0 | n => n, fun | n => n⟩
theorem Tryz.delC : Go.Proofs.SlLaysE.n45 Tryz.prog Tryz.delC_ren := {
  mixed := by kernel_rfl
  f45 := ⟨Tryz.f76.name, by decide, Tryz.func76.trans (congrArg some (by kernel_rfl))⟩
  t0 := Tryz.underlying0
  a0 := Tryz.isAgg0
  z0 := Tryz.sizeOf0
  v0 := Tryz.zeroValue0
  t3 := Tryz.underlying3
  a3 := Tryz.isAgg3
  z3 := Tryz.sizeOf3
  v3 := Tryz.zeroValue3
  t4 := Tryz.underlying4
  a4 := Tryz.isAgg4
  z4 := Tryz.sizeOf4
  v4 := Tryz.zeroValue4
  t22 := Tryz.underlying25
  a22 := Tryz.isAgg25
  z22 := Tryz.sizeOf25
  v22 := Tryz.zeroValue25
  a23 := Tryz.isAgg28
  z23 := Tryz.sizeOf28 }

/-- a slice of numbers, as its cell has it -/
def encS (x : Option Addr × Nat × Nat) : Value := .slice x.1 x.2.1 x.2.2
theorem cels_slices {w : World} {S : Nat → Prop} : ∀ (xs : List (List Int)) (cs : List Value), Cels (VArr AtInt 1) w S xs cs → ∃ ds : List (Option Addr × Nat × Nat), cs = ds.map encS ∧ ds.length = xs.length
  | [], _, h => ⟨[], h, rfl⟩
  | _ :: r, _, h => by
    obtain ⟨c0, c1, rfl, ⟨A, n, c, rfl, _⟩, h1⟩ := h
    obtain ⟨ds, rfl, hl⟩ := cels_slices r c1 h1
    exact ⟨(A, n, c) :: ds, rfl, by simp [hl]⟩
theorem cels_erase {α : Type} {V : Val α} {w : World} {S : Nat → Prop} (hV : Tells V 1) : ∀ (xs : List α) (cs : List Value) (i : Nat), Cels V w S xs cs → Cels V w S (xs.eraseIdx i) (cs.eraseIdx i)
  | [], _, i, h => by
    obtain rfl : _ = [] := h
    rfl
  | x :: r, _, i, h => by
    obtain ⟨c0, c1, rfl, h0, h1⟩ := h
    obtain ⟨u, rfl⟩ : ∃ u, c0 = [u] := List.length_eq_one_iff.1 (hV.len _ _ _ _ h0)
    rcases i with _ | i
    · exact h1
    · exact ⟨[u], c1.eraseIdx i, rfl, h0, cels_erase hV r c1 i h1⟩
theorem infoInts : (Tryz.prog.info? 28).map (fun i => (i.zero, i.size, i.bytes)) = some (some (.slice none 0 0), 1, 24) := by kernel_rfl
theorem grown_putRow {α : Type} [Inhabited α] {enc : α → Value} {w : World} {g q : Nat} (d : Array α) : w.grownBy (Sort.putRow enc (Sort.ahead w q) g 0 d) (some g) := by
  refine ⟨rfl, rfl, rfl, by simp [Sort.putRow, Sort.mapBlock, Sort.ahead], fun k hk hne => ?_⟩
  have : g ≠ k := fun e => hne (by rw [e])
  simp [Sort.putRow, Sort.mapBlock, Sort.ahead, Array.getElem?_modify, this]
theorem deleteCls_any (base : Nat) (S : Nat → Prop) (v : Value) (xs : List (List Int)) (i : Nat) (w : World) (hown : OwnV (VArr AtInt 1) 28 1 w base S v xs) (hi : i < xs.length) (hS : ∀ b, S b → b < w.heap.size ∧ v.ownBlock ≠ some b) :
    ∃ (g c : Nat), v = .slice (some ⟨g, 0, none⟩) xs.length c ∧ Calls Tryz.prog 76 #[v, .int .i64 i, .int .i64 ((i + 1 : Nat) : Int)] w fun e w' => e = .returned (.slice (some ⟨g, 0, none⟩) (xs.length - 1) c) ∧ OwnV (VArr AtInt 1) 28 1 w' base S (.slice (some ⟨g, 0, none⟩) (xs.length - 1) c) (xs.eraseIdx i) ∧ w.grownBy w' (some g) := by
  obtain ⟨cells, hrow, hels⟩ := hown
  obtain ⟨ds, rfl, hdl⟩ := cels_slices xs cells hels
  rcases hrow.2 with ⟨_, h0⟩ | ⟨g, cap, cur, rfl, hbase, hheap, hnc, hcap, hcs, htake⟩
  · omega
  · refine ⟨g, cap, rfl, ?_⟩
    obtain ⟨i0, hi0, hz0, hz1, hz2⟩ := info_parts infoInts
    have hH : Sort.Holds encS w g 0 ds.toArray := by
      obtain ⟨g', cap', he, _, _, _, _, _, hH⟩ := Lib.holds_of_ownsRow hrow (by intro e; cases e)
      injection he with he
      injection he with he
      injection he with he
      subst he
      exact hH
    have hcon := AnyE.slices_Delete Tryz.delC encS (fun _ => rfl) (none, 0, 0) Tryz.zeroValue28 i0 hi0 hz1 g 0 cap i (i + 1) ds.toArray w hH (by simp; omega) (by unfold maxLen at hcap; omega) (by omega) (by simp; omega)
    change Calls Tryz.prog 76 _ _ _ at hcon
    simp only [List.size_toArray, hdl, show i + 1 - i = 1 by omega] at hcon
    refine hcon.mono fun _ _ ⟨he, q, hw⟩ => ⟨he, ?_, by rw [hw]; exact grown_putRow _⟩
    subst hw
    have hg := grown_putRow (enc := encS) (w := w) (g := g) (q := q) (ds.take i ++ ds.drop (i + 1) ++ List.replicate 1 (none, 0, 0)).toArray
    have hl' : (xs.eraseIdx i).length = xs.length - 1 := by rw [List.length_eraseIdx]; simp [hi]
    have hy : (ds.take i ++ ds.drop (i + 1) ++ List.replicate 1 ((none : Option Addr), 0, 0)).length = xs.length := by simp; omega
    have hrow2 := Lib.ownsRow_putRow (q := q) (k := xs.length - 1) hrow hy (by omega)
    refine ⟨(ds.map encS).eraseIdx i, ?_, Cels.keep (tells_arr stays_int) (fun _ h => h) (fun b o hb => only_cell hg (hS b hb).1 (fun e => (hS b hb).2 e)) _ _ (cels_erase (tells_arr stays_int) xs _ i hels)⟩
    rw [hl']
    have e1 : (ds.take i ++ ds.drop (i + 1) ++ List.replicate 1 ((none : Option Addr), 0, 0)).take (xs.length - 1) = ds.eraseIdx i := by
      rw [List.eraseIdx_eq_take_drop_succ, List.take_left' (by simp; omega)]
    rw [e1] at hrow2
    have e2 : (ds.eraseIdx i).map encS = (ds.map encS).eraseIdx i := by rw [List.eraseIdx_eq_take_drop_succ, List.eraseIdx_eq_take_drop_succ, List.map_append, List.map_take, List.map_drop]
    rw [e2] at hrow2
    exact hrow2
end Go.Proofs.YtfogiljgecmakaaGreat
namespace Go.Proofs.YtfogiljgecmakaaGreat
open Go.RowKit

def Tryz.cloneC_ren : Go.Shelf.Ren := ⟨fun | 41 => 44 | n => n, fun | 22 => 25 | 23 => 28 | 4 => 4 | n => n, fun | n => n⟩
theorem Tryz.cloneC : Go.Proofs.SlLaysE0.n41 Tryz.prog Tryz.cloneC_ren := {
  mixed := by kernel_rfl
  f41 := ⟨Tryz.f44.name, by decide, Tryz.func44.trans (congrArg some (by kernel_rfl))⟩
  t4 := Tryz.underlying4
  a4 := Tryz.isAgg4
  z4 := Tryz.sizeOf4
  v4 := Tryz.zeroValue4
  t22 := Tryz.underlying25
  a22 := Tryz.isAgg25
  z22 := Tryz.sizeOf25
  v22 := Tryz.zeroValue25 }

theorem arr_slices {w : World} {S : Nat → Prop} {b : Nat} : ∀ (xs : List (List Int)) (off : Nat), (∀ i x, xs[i]? = some x → AtArr AtInt 1 w S b (off + i) x) →
    ∃ ds : List (Option Addr × Nat × Nat), Cels (VArr AtInt 1) w S xs (ds.map encS) ∧ ds.length = xs.length ∧ ∀ j u, (ds.map encS)[j]? = some u → w.cell? ⟨b, off + j, none⟩ = some u
  | [], off, _ => ⟨[], rfl, rfl, fun j u hu => by simp at hu⟩
  | x :: r, off, h => by
    obtain ⟨A, n, c, h0, h1, h2, h3⟩ := h 0 x rfl
    obtain ⟨ds, k1, k2, k3⟩ := arr_slices r (off + 1) (fun i y hy => by have := h (i + 1) y hy; rwa [show off + (i + 1) = off + 1 + i by omega] at this)
    refine ⟨(A, n, c) :: ds, ⟨[encS (A, n, c)], ds.map encS, rfl, ⟨A, n, c, rfl, h1, h2, h3⟩, k1⟩, by simp [k2], fun j u hu => ?_⟩
    rcases j with _ | j
    · simp only [List.map_cons, List.getElem?_cons_zero, Option.some.injEq] at hu
      rw [← hu]
      exact h0
    · have := k3 j u (by simpa using hu)
      rwa [show off + 1 + j = off + (j + 1) by omega] at this
set_option maxRecDepth 100000 in
set_option maxHeartbeats 1000000 in
theorem cloneCls_any (A : Option Addr) (n c : Nat) (xs : List (List Int)) (w : World) (hxs : ArrB (AtArr AtInt 1) 1 w w.heap.size A n xs) (hn : n ≤ 1000000) :
    Calls Tryz.prog 44 #[.slice A n c] w fun e w' => ∃ v, e = .returned v ∧ OwnV (VArr AtInt 1) 28 1 w' w.heap.size (fun b => b < w.heap.size) v xs ∧ Below w.heap.size w w' := by
  have hl := hxs.len
  rcases A with _ | ad
  · have h0 : xs = [] := by
      cases xs with
      | nil => rfl
      | cons x r => obtain ⟨b, off, _, e, _⟩ := Arr.get hxs (show 0 < n by rw [← hl]; simp); cases e
    subst h0
    have hcon := AnyE.slices_Clone_nil Tryz.cloneC n c w
    change Calls Tryz.prog 44 _ _ _ at hcon
    exact hcon.mono fun _ _ ⟨he, hw⟩ => ⟨_, he, OwnV.none_ _ _ _ _ _ _, by rw [hw]; exact Below.refl _ _⟩
  · obtain ⟨i0, hi0, hz0, hz1, hz2⟩ := info_parts infoInts
    by_cases hne : n = 0
    · obtain rfl : xs = [] := List.eq_nil_of_length_eq_zero (by omega)
      subst hne
      have q40 : ∀ (w : World) (a : Option Addr) (n c n' c' : Nat), (binOp .eql 25 (.slice a n c) (.slice none n' c')).run Tryz.prog w = .ok (.bool a.isNone) w := fun w a n c n' c' => Lib.run_eql_slice_nil w _ _ a n c n' c' Tryz.underlying25
      have HI := Lib.hid (And.intro hi0 (And.intro hz0 (And.intro hz1 hz2)))
      clear hi0 hz0 hz1 hz2 hxs hl
      go_enter Tryz.func44, Tryz.ntmps44
      go_wp2_with (at_builtin; go_loud (refine wpList_append_own_at _ rfl (.tmp 5) (.tmp 6) 25 rfl w.heap.size 28 i0 _ 1 24 Tryz.underlying25 HI.out.1 HI.out.2.1 HI.out.2.2.1 HI.out.2.2.2 rfl (by omega) (.slice (some ⟨w.heap.size, 0, none⟩) 0 0) 0 [] rfl ⟨rfl, .inr ⟨_, 0, #[], rfl, Nat.le_refl _, heap_alloc_new w _, by omega, by omega, rfl, rfl⟩⟩ ad 0 c [] rfl (by simp) (by simp) (by simp) (by unfold maxLen; omega) (by omega) (by simp) ?_); intro v' w1 hown hgrow _ hat)
      go_ret
      refine ⟨v', rfl, ⟨[], by simpa using hown, rfl⟩, ?_⟩
      exact below_then ((Below.refl _ _).alloc (Nat.le_refl _) _) hgrow (by simp) (fun x hx => by simp [Value.ownBlock] at hx; omega)
    · obtain ⟨b, off, _, hA, _, _⟩ := Arr.get hxs (show 0 < n by omega)
      injection hA with hA
      subst hA
      obtain ⟨ds, k1, k2, k3⟩ := arr_slices (w := w) (S := fun b => b < w.heap.size) (b := b) xs off (fun i x hx => by
        obtain ⟨b', off', he, hb', hat⟩ := hxs.at_ i x hx
        injection he with he
        injection he with h1 h2
        subst h1 h2
        rwa [Nat.mul_one] at hat)
      have hcon := AnyE.slices_Clone Tryz.cloneC i0 (.slice none 0 0) 1 24 hi0 hz0 hz1 hz2 rfl (by omega) Tryz.sizeOf28 b off n c (ds.map encS) w (by simp; omega) (by unfold maxLen; omega) (by omega) k3 (fun u hu => by obtain ⟨d, _, rfl⟩ := List.mem_map.1 hu; rfl)
      change Calls Tryz.prog 44 _ _ _ at hcon
      refine hcon.mono fun _ _ ⟨v, he, hown, _, hb⟩ => ⟨v, he, ⟨ds.map encS, ?_, Cels.keep (tells_arr stays_int) (fun _ h => h) (fun b o hb' => hb.cell (p := ⟨b, o, none⟩) hb') _ _ k1⟩, hb⟩
      rw [hl]
      exact hown
end Go.Proofs.YtfogiljgecmakaaGreat
namespace Go.Proofs.YtfogiljgecmakaaGreat
open Go.RowKit

/-- the judge's state: its block G of five cells; the atoms are given (below B) or in a row of the call's own; the clauses are in a row of the call's own -/
structure JudgeM (w : World) (B G : Nat) (A1 : Option Addr) (c1 : Nat) (A2 : Option Addr) (c2 : Nat) (vF vA vC : Value) (ts : List TermD) (ints : List Bool) (s : JSt) : Prop where
  blk : Blk w G 89 #[.slice A1 ts.length c1, .slice A2 ints.length c2, vA, vF, vC]
  t : ArrB AtTerm 2 w B A1 ts.length ts
  i : ArrB AtBool 1 w B A2 ints.length ints
  l1 : ts.length ≤ c1
  hB : B ≤ G
  a : (∃ A3 c3, vA = .slice A3 s.atoms.length c3 ∧ s.atoms.length ≤ c3 ∧ c3 ≤ maxLen ∧ ArrB AtAtom 6 w B A3 s.atoms.length s.atoms) ∨
    (OwnV VAtom 47 6 w B (fun b => b < B) vA s.atoms ∧ vA.ownBlock ≠ some G ∧ (vC.ownBlock = none ∨ vA.ownBlock ≠ vC.ownBlock))
  l3 : s.atoms.length ≤ 120
  c : OwnV (VArr AtInt 1) 28 1 w B (fun b => b < B) vC s.cls
  n2 : vC.ownBlock ≠ some G

section
variable {w w' : World} {B G : Nat} {A1 : Option Addr} {c1 : Nat} {A2 : Option Addr} {c2 : Nat} {vF vA vC : Value} {ts : List TermD} {ints : List Bool} {s : JSt}
theorem JudgeM.hBw (h : JudgeM w B G A1 c1 A2 c2 vF vA vC ts ints s) : B ≤ w.heap.size := Nat.le_trans h.hB (Nat.le_of_lt h.blk.lt)
theorem JudgeM.later (h : JudgeM w B G A1 c1 A2 c2 vF vA vC ts ints s) (hb : Below w.heap.size w w') : JudgeM w' B G A1 c1 A2 c2 vF vA vC ts ints s := by
  have hBw := h.hBw
  have hg : w.grownBy w' none := only_of_below hb none
  have hS : ∀ b, b < B → b < B ∧ b < w.heap.size ∧ (none : Option Nat) ≠ some b := fun b hb' => ⟨hb', by omega, by simp⟩
  refine ⟨(hb.block G h.blk.lt).trans h.blk, h.t.below stays_term (hb.mono hBw) (Nat.le_refl _), h.i.below stays_bool (hb.mono hBw) (Nat.le_refl _), h.l1, h.hB, ?_, h.l3, h.c.kept (tells_arr stays_int) hg (by cases vC.ownBlock <;> simp) hS, h.n2⟩
  rcases h.a with ⟨A3, c3, h1, h2, h3, h4⟩ | ⟨h1, h2, h3⟩
  · exact .inl ⟨A3, c3, h1, h2, h3, h4.below stays_atom (hb.mono hBw) (Nat.le_refl _)⟩
  · exact .inr ⟨h1.kept tells_atom hg (by cases vA.ownBlock <;> simp) hS, h2, h3⟩
/-- .. as the judge's tests read it -/
theorem JudgeM.reads (h : JudgeM w B G A1 c1 A2 c2 vF vA vC ts ints s) : ∃ A3 c3, vA = .slice A3 s.atoms.length c3 ∧ s.atoms.length ≤ c3 ∧ c3 ≤ maxLen ∧ StR w w.heap.size G A1 c1 A2 c2 A3 c3 ts ints s.atoms := by
  have hBw := h.hBw
  have k : ∃ A3 c3, vA = .slice A3 s.atoms.length c3 ∧ s.atoms.length ≤ c3 ∧ c3 ≤ maxLen ∧ ArrB AtAtom 6 w w.heap.size A3 s.atoms.length s.atoms := by
    rcases h.a with ⟨A3, c3, h1, h2, h3, h4⟩ | ⟨h1, h2, h3⟩
    · exact ⟨A3, c3, h1, h2, h3, h4.keep stays_atom (fun b hb => Nat.lt_of_lt_of_le hb hBw) (fun _ _ _ => rfl)⟩
    · obtain ⟨A3, c3, k1, k2, k3, k4⟩ := h1.reads tells_atom (E := AtAtom) (S' := fun b => b < w.heap.size) (fun _ _ _ _ _ h => atV_atom h) (fun b hb => Nat.lt_of_lt_of_le hb hBw) (fun g hg => (h1.lt g hg).2)
      exact ⟨A3, c3, k1, k2, k3, k4⟩
  obtain ⟨A3, c3, k1, k2, k3, k4⟩ := k
  refine ⟨A3, c3, k1, k2, k3, h.blk.cell 0, h.blk.cell 1, (h.blk.cell 2).trans (by rw [k1]; rfl), h.blk.lt, h.t.keep stays_term (fun b hb => Nat.lt_of_lt_of_le hb hBw) (fun _ _ _ => rfl), h.i.keep stays_bool (fun b hb => Nat.lt_of_lt_of_le hb hBw) (fun _ _ _ => rfl), k4, h.l1, h.l3, Nat.le_refl _⟩
/-- .. and its clauses -/
theorem JudgeM.clauses (h : JudgeM w B G A1 c1 A2 c2 vF vA vC ts ints s) : ∃ A4 c4, vC = .slice A4 s.cls.length c4 ∧ s.cls.length ≤ c4 ∧ c4 ≤ maxLen ∧ ArrB (AtArr AtInt 1) 1 w w.heap.size A4 s.cls.length s.cls := by
  have hBw := h.hBw
  obtain ⟨A4, c4, k1, k2, k3, k4⟩ := h.c.reads (tells_arr stays_int) (E := AtArr AtInt 1) (S' := fun b => b < w.heap.size) (fun _ _ _ _ _ h => atV_arr.1 h) (fun b hb => Nat.lt_of_lt_of_le hb hBw) (fun g hg => (h.c.lt g hg).2)
  exact ⟨A4, c4, k1, k2, k3, k4⟩
end
end Go.Proofs.YtfogiljgecmakaaGreat
namespace Go.Proofs.YtfogiljgecmakaaGreat
open Go.RowKit

section
variable {w w3 : World} {B G : Nat} {A1 : Option Addr} {c1 : Nat} {A2 : Option Addr} {c2 : Nat} {vF vA vC : Value} {ts : List TermD} {ints : List Bool} {s : JSt}
theorem set_grown (w : World) (G o : Nat) (u : Value) : w.grownBy (w.setCell ⟨G, o, none⟩ u) (some G) :=
  ⟨rfl, rfl, rfl, by simp [World.setCell], fun k hk hne => Below.heap_setCell _ _ _ _ (fun e => hne (by rw [e]))⟩
/-- the clauses' row has turned (appended to, or shortened in place), and is stored -/
theorem JudgeM.clausesTo (h : JudgeM w B G A1 c1 A2 c2 vF vA vC ts ints s) (hgw : w.grownBy w3 vC.ownBlock) {g n c : Nat} {cls : List (List Int)} (hown : OwnV (VArr AtInt 1) 28 1 w3 B (fun b => b < B) (.slice (some ⟨g, 0, none⟩) n c) cls)
    (hat : vC.ownBlock = some g ∨ w.heap.size ≤ g) :
    JudgeM (w3.setCell ⟨G, 4, none⟩ (.slice (some ⟨g, 0, none⟩) n c)) B G A1 c1 A2 c2 vF vA (.slice (some ⟨g, 0, none⟩) n c) ts ints ⟨s.atoms, cls⟩ ∧ Below B w (w3.setCell ⟨G, 4, none⟩ (.slice (some ⟨g, 0, none⟩) n c)) := by
  have hBw := h.hBw
  have hGw := h.blk.lt
  have hgG : g ≠ G := by
    rcases hat with e | e
    · intro e2; subst e2; exact h.n2 e
    · omega
  have hC : ∀ b, b < B → vC.ownBlock ≠ some b := fun b hb e => by have := (h.c.lt b e).1; omega
  have hset := set_grown w3 G 4 (.slice (some ⟨g, 0, none⟩) n c)
  have hz := hgw.size
  have hcell : ∀ b o, b < B → (w3.setCell ⟨G, 4, none⟩ (.slice (some ⟨g, 0, none⟩) n c)).cell? ⟨b, o, none⟩ = w.cell? ⟨b, o, none⟩ := fun b o hb =>
    (only_cell hset (Nat.lt_of_lt_of_le hb (Nat.le_trans hBw hz)) (by intro e; injection e with e; have := h.hB; omega)).trans (only_cell hgw (by omega) (hC b hb))
  have hS1 : ∀ b, b < B → b < B ∧ b < w.heap.size ∧ vC.ownBlock ≠ some b := fun b hb => ⟨hb, by omega, hC b hb⟩
  have hS2 : ∀ b, b < B → b < B ∧ b < w3.heap.size ∧ (some G : Option Nat) ≠ some b := fun b hb => ⟨hb, by omega, by intro e; injection e with e; have := h.hB; omega⟩
  refine ⟨⟨(Blk.grown h.blk hgw (Ne.symm h.n2)).set_ 4 _, h.t.keep stays_term (fun _ h => h) (fun b o hb => hcell b o hb), h.i.keep stays_bool (fun _ h => h) (fun b o hb => hcell b o hb), h.l1, h.hB, ?_, h.l3, hown.kept (tells_arr stays_int) hset (.inr (by intro e; injection e with e; exact hgG e)) hS2, by intro e; injection e with e; exact hgG e⟩, ?_⟩
  · rcases h.a with ⟨A3, c3, h1, h2, h3, h4⟩ | ⟨h1, h2, h3⟩
    · exact .inl ⟨A3, c3, h1, h2, h3, h4.keep stays_atom (fun _ h => h) (fun b o hb => hcell b o hb)⟩
    · have hne : vA.ownBlock = none ∨ vA.ownBlock ≠ vC.ownBlock := by
        rcases h3 with e | e
        · cases hv : vA.ownBlock with
          | none => exact .inl rfl
          | some x => rw [e]; exact .inr (by simp)
        · exact .inr e
      refine .inr ⟨(h1.kept tells_atom hgw hne hS1).kept tells_atom hset (.inr h2) hS2, h2, .inr ?_⟩
      intro e
      have e' : vA.ownBlock = some g := e
      have hlt := (h1.lt g e').2
      rcases hat with e2 | e2
      · rcases h3 with e3 | e3
        · rw [e3] at e2; cases e2
        · exact e3 (e'.trans e2.symm)
      · omega
  · exact ((Below.refl B w).grown hgw hBw (fun k hk => (h.c.lt k hk).1)).grown hset (Nat.le_trans hBw hz) (fun k hk => by injection hk with hk; have := h.hB; omega)
end
end Go.Proofs.YtfogiljgecmakaaGreat
