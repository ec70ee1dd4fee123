/- The maker of asks in memory: its two rows; what of the memory a call of its methods may turn. · Walks: the maker's method put. -/
import Derived.Test.YthooecojopfjbaaMkPQ
import Derived.Test.YthooecojopfjbaaCore
import Derived.BigRegion
import Derived.Deep.RegionLaw
namespace Go.Proofs.Ythooecojopfjbaa
open Go.RowKit

theorem infoNodeM : (Try.prog.info? 59).map (fun i => (i.zero, i.size, i.bytes)) = some (some (.agg #[.int .i64 0, .slice none 0 0, .int .i64 0, .int .i64 0, .string .empty]), 5, 64) := by kernel_rfl
theorem rowNodes : RowT Try.prog 24 59 5 64 := rowT_of Try.underlying24 infoNodeM rfl (by omega)
theorem infoIntM : (Try.prog.info? 3).map (fun i => (i.zero, i.size, i.bytes)) = some (some (.int .i64 0), 1, 8) := by kernel_rfl
theorem rowIntsM : RowT Try.prog 22 3 1 8 := rowT_of Try.underlying22 infoIntM rfl (by omega)

def MkS (w : World) (q : Nat) (vn vs : Value) (av : Nat → Prop) : Nat → Prop := fun b => b < w.heap.size ∧ q < b ∧ vn.ownBlock ≠ some b ∧ vs.ownBlock ≠ some b ∧ ¬ av b
/-- the maker lies in block q: its nodes and their sorts; the blocks that av holds of are another's -/
structure MkIn (w : World) (q : Nat) (vn vs : Value) (av : Nat → Prop) (ns : List NodeD) (ss : List Int) : Prop where
  blk : Blk w q 76 #[vn, vs]
  nodes : OwnV VNode 59 5 w (q + 1) (MkS w q vn vs av) vn ns
  sorts : OwnV VInt 3 1 w (q + 1) (fun _ => False) vs ss
  ne : ∀ x, vn.ownBlock = some x → vs.ownBlock ≠ some x
  away : ∀ x, av x → x < w.heap.size ∧ vn.ownBlock ≠ some x ∧ vs.ownBlock ≠ some x ∧ x ≠ q
/-- from w to w' only the maker's own blocks have changed -/
structure MkTo (w : World) (q : Nat) (vn vs : Value) (w' : World) (vn' vs' : Value) : Prop where
  os : w'.os = w.os
  tape : w'.tape = w.tape
  output : w'.output = w.output
  size : w.heap.size ≤ w'.heap.size
  block : ∀ b, b < w.heap.size → b ≠ q → vn.ownBlock ≠ some b → vs.ownBlock ≠ some b → w'.heap[b]? = w.heap[b]?
  n : ∀ g, vn'.ownBlock = some g → vn.ownBlock = some g ∨ w.heap.size ≤ g
  s : ∀ g, vs'.ownBlock = some g → vs.ownBlock = some g ∨ w.heap.size ≤ g

section
variable {w w1 w2 w' : World} {q : Nat} {vn vs vn' vs' vn2 vs2 : Value} {av av' : Nat → Prop} {ns : List NodeD} {ss : List Int}
theorem MkTo.refl (w : World) (q : Nat) (vn vs : Value) : MkTo w q vn vs w vn vs := ⟨rfl, rfl, rfl, Nat.le_refl _, fun _ _ _ _ _ => rfl, fun _ h => .inl h, fun _ h => .inl h⟩
theorem MkTo.of_below (hb : Below w.heap.size w w') : MkTo w q vn vs w' vn vs := ⟨hb.os, hb.tape, hb.output, hb.size, fun b h _ _ _ => hb.block b h, fun _ h => .inl h, fun _ h => .inl h⟩
theorem MkTo.trans (h : MkTo w q vn vs w1 vn' vs') (k : MkTo w1 q vn' vs' w2 vn2 vs2) : MkTo w q vn vs w2 vn2 vs2 :=
  ⟨k.os.trans h.os, k.tape.trans h.tape, k.output.trans h.output, Nat.le_trans h.size k.size,
    fun b hb hq h1 h2 => (k.block b (Nat.lt_of_lt_of_le hb h.size) hq
      (fun e => by rcases h.n b e with h3 | h3
                   · exact h1 h3
                   · omega)
      (fun e => by rcases h.s b e with h3 | h3
                   · exact h2 h3
                   · omega)).trans (h.block b hb hq h1 h2),
    fun g hg => by
      rcases k.n g hg with h3 | h3
      · exact h.n g h3
      · have := h.size; exact .inr (by omega),
    fun g hg => by
      rcases k.s g hg with h3 | h3
      · exact h.s g h3
      · have := h.size; exact .inr (by omega)⟩
theorem MkTo.below (h : MkTo w q vn vs w' vn' vs') {B : Nat} (hq : B ≤ q) (hs : B ≤ w.heap.size) (hn : ∀ g, vn.ownBlock = some g → B ≤ g) (hv : ∀ g, vs.ownBlock = some g → B ≤ g) : Below B w w' :=
  ⟨h.os, h.tape, h.output, h.size, fun b hb => h.block b (by omega) (by omega) (fun e => by have := hn b e; omega) (fun e => by have := hv b e; omega)⟩
theorem MkIn.lt (h : MkIn w q vn vs av ns ss) : q < w.heap.size := h.blk.lt
theorem MkIn.below (h : MkIn w q vn vs av ns ss) (hb : Below w.heap.size w w') : MkIn w' q vn vs av ns ss :=
  ⟨h.blk.below hb h.blk.lt, h.nodes.kept tells_node (only_of_below hb none) (by cases hv : vn.ownBlock <;> simp) (fun b hS => ⟨⟨Nat.lt_of_lt_of_le hS.1 hb.size, hS.2⟩, hS.1, by simp⟩),
    h.sorts.kept tells_int (only_of_below hb none) (by cases hv : vs.ownBlock <;> simp) (fun b hS => hS.elim), h.ne, fun x hx => ⟨Nat.lt_of_lt_of_le (h.away x hx).1 hb.size, (h.away x hx).2⟩⟩
/-- a block that is not the maker's stays what it was -/
theorem MkTo.blk (h : MkTo w q vn vs w' vn' vs') {g : Nat} {t : TypeId} {cs : Array Value} (hk : Blk w g t cs) (hq : g ≠ q) (hn : vn.ownBlock ≠ some g) (hs : vs.ownBlock ≠ some g) : Blk w' g t cs := (h.block g hk.lt hq hn hs).trans hk
theorem MkIn.node {x : NodeD} (h : MkIn w q vn vs av ns ss) {g' n' c' : Nat} (hown : OwnV VNode 59 5 w1 (q + 1) (MkS w q vn vs av) (.slice (some ⟨g', 0, none⟩) n' c') (ns ++ [x]))
    (hg : w.grownBy w1 vn.ownBlock) (hat : vn.ownBlock = some g' ∨ g' = w.heap.size) :
    MkIn (w1.setCell ⟨q, 0, none⟩ (.slice (some ⟨g', 0, none⟩) n' c')) q (.slice (some ⟨g', 0, none⟩) n' c') vs av (ns ++ [x]) ss ∧ MkTo w q vn vs (w1.setCell ⟨q, 0, none⟩ (.slice (some ⟨g', 0, none⟩) n' c')) (.slice (some ⟨g', 0, none⟩) n' c') vs := by
  have hql := h.blk.lt
  have hnl := h.nodes.lt
  have hsl := h.sorts.lt
  have hk : w1.grownBy (w1.setCell ⟨q, 0, none⟩ (.slice (some ⟨g', 0, none⟩) n' c')) (some q) := one_only (only_refl _ _) 0 _
  have hz := hg.size
  have hz2 := hk.size
  have hgq : g' ≠ q := fun e => by
    rcases hat with h1 | h1
    · have := (hnl g' h1).1; omega
    · omega
  have own : ∀ x, (Value.slice (some ⟨g', 0, none⟩) n' c').ownBlock = some x ↔ x = g' := fun x => by simp [Value.ownBlock]; exact eq_comm
  refine ⟨⟨(h.blk.grown hg (fun e => by have := (hnl q e.symm).1; omega)).set_ 0 _, ?_, ?_, fun x hx e => ?_, fun x hx => ?_⟩, ⟨hk.os.trans hg.os, hk.tape.trans hg.tape, hk.output.trans hg.output, by omega, fun b hb hbq h1 h2 => ?_, fun y hy => ?_, fun y hy => .inl hy⟩⟩
  · refine hown.kept tells_node hk (.inr (fun e => hgq ((own q).1 e).symm)) (fun b hS => ⟨⟨by have := hS.1; omega, hS.2.1, fun e => ?_, hS.2.2.2⟩, by have := hS.1; omega, fun e => by injection e with e; have := hS.2.1; omega⟩)
    have e := (own b).1 e
    rcases hat with h1 | h1
    · exact hS.2.2.1 (by rw [e]; exact h1)
    · have := hS.1; omega
  · refine OwnV.kept (S := fun _ => False) tells_int (h.sorts.kept tells_int hg ?_ (fun b hS => False.elim hS)) hk ?_ (fun b hS => False.elim hS)
    · cases hv : vs.ownBlock with
      | none => exact .inl rfl
      | some x => exact .inr (fun e => h.ne x e.symm hv)
    · cases hv : vs.ownBlock with
      | none => exact .inl rfl
      | some x => exact .inr (fun e => by injection e with e; have := (hsl x hv).1; omega)
  · obtain rfl := (own x).1 hx
    rcases hat with h1 | h1
    · exact h.ne x h1 e
    · have := (hsl x e).2; omega
  · obtain ⟨a1, a2, a3, a4⟩ := h.away x hx
    refine ⟨by omega, fun e => ?_, a3, a4⟩
    obtain rfl := (own x).1 e
    rcases hat with h1 | h1
    · exact a2 h1
    · omega
  · rw [hk.block b (by omega) (fun e => by injection e with e; exact hbq e), hg.block b hb (fun e => h1 e.symm)]
  · obtain rfl := (own y).1 hy
    rcases hat with h1 | h1
    · exact .inl h1
    · exact .inr (by omega)
theorem MkIn.sort {s : Int} (h : MkIn w q vn vs av ns ss) (hown : OwnV VInt 3 1 w1 (q + 1) (fun _ => False) vs' (ss ++ [s]))
    (hg : w.grownBy w1 vs.ownBlock) (hat : vs'.ownBlock = vs.ownBlock ∨ vs'.ownBlock = some w.heap.size) :
    MkIn (w1.setCell ⟨q, 1, none⟩ vs') q vn vs' av ns (ss ++ [s]) ∧ MkTo w q vn vs (w1.setCell ⟨q, 1, none⟩ vs') vn vs' := by
  have hql := h.blk.lt
  have hnl := h.nodes.lt
  have hsl := h.sorts.lt
  have hk : w1.grownBy (w1.setCell ⟨q, 1, none⟩ vs') (some q) := one_only (only_refl _ _) 1 _
  have hz := hg.size
  have hz2 := hk.size
  refine ⟨⟨(h.blk.grown hg (fun e => by have := (hsl q e.symm).1; omega)).set_ 1 _, ?_, ?_, fun x hx e => ?_, fun x hx => ?_⟩, ⟨hk.os.trans hg.os, hk.tape.trans hg.tape, hk.output.trans hg.output, by omega, fun b hb hbq h1 h2 => ?_, fun y hy => .inl hy, fun y hy => ?_⟩⟩
  · refine OwnV.kept tells_node (S := fun b => b < w.heap.size ∧ q < b ∧ vn.ownBlock ≠ some b ∧ vs'.ownBlock ≠ some b ∧ ¬ av b) (h.nodes.kept tells_node hg ?_ (fun b hS => ⟨⟨hS.1, hS.2.1, hS.2.2.1, fun e => ?_, hS.2.2.2.2⟩, hS.1, hS.2.2.2.1⟩)) hk ?_ (fun b hS => ⟨⟨by have := hS.1; omega, hS.2⟩, by have := hS.1; omega, fun e => by injection e with e; have := hS.2.1; omega⟩)
    · cases hv : vn.ownBlock with
      | none => exact .inl rfl
      | some x => exact .inr (fun e => h.ne x hv e.symm)
    · rcases hat with h1 | h1
      · exact hS.2.2.2.1 (h1 ▸ e)
      · rw [h1] at e; injection e with e; have := hS.1; omega
    · cases hv : vn.ownBlock with
      | none => exact .inl rfl
      | some x => exact .inr (fun e => by injection e with e; have := (hnl x hv).1; omega)
  · refine hown.kept tells_int hk ?_ (fun b hS => False.elim hS)
    cases hv : vs'.ownBlock with
    | none => exact .inl rfl
    | some x =>
      refine .inr (fun e => ?_)
      injection e with e
      rcases hat with h1 | h1
      · have := (hsl x (by rw [← h1]; exact hv)).1; omega
      · rw [h1] at hv; injection hv with hv; omega
  · rcases hat with h1 | h1
    · exact h.ne x hx (h1 ▸ e)
    · rw [h1] at e; injection e with e; have := (hnl x hx).2; omega
  · obtain ⟨a1, a2, a3, a4⟩ := h.away x hx
    refine ⟨by omega, a2, fun e => ?_, a4⟩
    rcases hat with h1 | h1
    · exact a3 (h1 ▸ e)
    · rw [h1] at e; injection e with e; omega
  · rw [hk.block b (by omega) (fun e => by injection e with e; exact hbq e), hg.block b hb (fun e => h2 e.symm)]
  · rcases hat with h1 | h1
    · exact .inl (h1 ▸ hy)
    · rw [h1] at hy; injection hy with hy; exact .inr (by omega)
end
end Go.Proofs.Ythooecojopfjbaa
namespace Go.Proofs.Ythooecojopfjbaa
open Go.RowKit

def PutP (w : World) (q : Nat) (vn vs : Value) (av : Nat → Prop) (ns : List NodeD) (ss : List Int) (x : NodeD) (s : Int) (e : Ending) (w' : World) : Prop :=
  e = .returned (.int .i64 ns.length) ∧ ∃ vn' vs', MkIn w' q vn' vs' av (ns ++ [x]) (ss ++ [s]) ∧ MkTo w q vn vs w' vn' vs'

set_option maxRecDepth 100000 in
set_option maxHeartbeats 4000000 in
theorem mkPut_any (q : Nat) (vn vs : Value) (av : Nat → Prop) (ns : List NodeD) (ss : List Int) (op n d : Int) (nm : ByteArray) (kids : List Int) (A : Option Addr) (kn kc : Nat) (s : Int) (w : World) (hI : MkIn w q vn vs av ns ss)
    (hx : VNode w (MkS w q vn vs av) [.int .i64 op, .slice A kn kc, .int .i64 n, .int .i64 d, .string nm] ⟨op, kids, n, d, nm⟩) (hs : I64 s) (hn : ns.length ≤ 1000) (hss : ss.length = ns.length) :
    Calls Try.prog 54 #[.pointer (some ⟨q, 0, none⟩), .agg #[.int .i64 op, .slice A kn kc, .int .i64 n, .int .i64 d, .string nm], .int .i64 s] w (PutP w q vn vs av ns ss ⟨op, kids, n, d, nm⟩ s) := by
  have hql := hI.lt
  obtain ⟨An, cn, hvn, hcn, hcnm⟩ := hI.nodes.len
  obtain ⟨As, cs, hvs, hcs, hcsm⟩ := hI.sorts.len
  subst hvn
  subst hvs
  rw [hss] at hcs
  obtain ⟨X, hX⟩ : ∃ X, w.alloc (.cells #[.int .i64 op, .slice A kn kc, .int .i64 n, .int .i64 d, .string nm] 59) = X := ⟨_, rfl⟩
  have hb1 : Below w.heap.size w X := by rw [← hX]; exact (Below.refl _ _).alloc (Nat.le_refl _) _
  have hk1 : Blk X w.heap.size 59 #[.int .i64 op, .slice A kn kc, .int .i64 n, .int .i64 d, .string nm] := by rw [← hX]; exact Blk.new w _ _
  have hI1 := hI.below hb1
  have x0 : X.cell? ⟨q, 0, none⟩ = some (.slice An ns.length cn) := hI1.blk.cell 0
  have b0 : X.cell? ⟨w.heap.size, 0, none⟩ = some (.int .i64 op) := hk1.cell 0
  have b1 : X.cell? ⟨w.heap.size, 1, none⟩ = some (.slice A kn kc) := hk1.cell 1
  have b2 : X.cell? ⟨w.heap.size, 2, none⟩ = some (.int .i64 n) := hk1.cell 2
  have b3 : X.cell? ⟨w.heap.size, 3, none⟩ = some (.int .i64 d) := hk1.cell 3
  have b4 : X.cell? ⟨w.heap.size, 4, none⟩ = some (.string nm) := hk1.cell 4
  have z0 : X.frozen? ⟨q, 0, none⟩ = false := hI1.blk.frozen 0
  have hzX : w.heap.size < X.heap.size := hk1.lt
  have hqX : q < X.heap.size := hI1.lt
  -- behind the row of one node
  have hb2 : Below X.heap.size X ((X.alloc (.cells #[.int .i64 op, .slice A kn kc, .int .i64 n, .int .i64 d, .string nm] 59)).drew) := ((Below.refl _ _).alloc (Nat.le_refl _) _).drew
  have hk2 : Blk ((X.alloc (.cells #[.int .i64 op, .slice A kn kc, .int .i64 n, .int .i64 d, .string nm] 59)).drew) X.heap.size 59 #[.int .i64 op, .slice A kn kc, .int .i64 n, .int .i64 d, .string nm] := Blk.drew (Blk.new X _ _)
  have hI2 := hI1.below hb2
  have hx2 : VNode ((X.alloc (.cells #[.int .i64 op, .slice A kn kc, .int .i64 n, .int .i64 d, .string nm] 59)).drew) (MkS ((X.alloc (.cells #[.int .i64 op, .slice A kn kc, .int .i64 n, .int .i64 d, .string nm] 59)).drew) q (.slice An ns.length cn) (.slice As ss.length cs) av) [.int .i64 op, .slice A kn kc, .int .i64 n, .int .i64 d, .string nm] ⟨op, kids, n, d, nm⟩ := by
    refine tells_node.keep _ _ _ _ _ _ (fun b hS => ⟨Nat.lt_of_lt_of_le hS.1 (Nat.le_trans hb1.size hb2.size), hS.2⟩) (fun b o hS => ?_) hx
    exact (hb2.cell (p := ⟨b, o, none⟩) (Nat.lt_of_lt_of_le hS.1 hb1.size)).trans (hb1.cell (p := ⟨b, o, none⟩) hS.1)
  have HN := Lib.hid (And.intro hI2 (And.intro hk2 (And.intro hx2 (And.intro hb1 hb2))))
  have HX := Lib.hid hX
  have HS := Lib.hid (And.intro hs hss)
  have hfit : (ns.length + 1) * 64 ≤ 140737488355328 := by omega
  have hmax : ns.length + 1 ≤ maxLen := by unfold maxLen; omega
  have hbase : q + 1 ≤ ((X.alloc (.cells #[.int .i64 op, .slice A kn kc, .int .i64 n, .int .i64 d, .string nm] 59)).drew).heap.size := by simp; omega
  have HH := Lib.hid (And.intro hfit (And.intro hmax hbase))
  clear hX hb1 hk1 hI1 hb2 hk2 hI2 hx2 hI hx hs hss hfit hmax hbase
  go_enter Try.func54, Try.ntmps54
  go_wp2_with fail
  rw [HX.out]
  go_region_law (first
    | (refine step_append_item (by rfl) _ _ _ (by rfl) rowNodes tells_node (v := .slice An ns.length cn) (xs := ns) (base := q + 1) (S := MkS ((X.alloc (.cells #[.int .i64 op, .slice A kn kc, .int .i64 n, .int .i64 d, .string nm] 59)).drew) q (.slice An ns.length cn) (.slice As ss.length cs) av) (by rfl) (.inl HN.out.1.nodes) (g := X.heap.size) (cs := #[.int .i64 op, .slice A kn kc, .int .i64 n, .int .i64 d, .string nm]) (by rfl) HN.out.2.1 (y := ⟨op, kids, n, d, nm⟩) HN.out.2.2.1 (fun b hS => ⟨hS.1, hS.2.2.1⟩) HH.out.2.1 HH.out.1 HH.out.2.2 ?_
       intro g' cap w3 hown3 hgrow hat hlt3
       have HN3 := Lib.hid (And.intro hown3 (And.intro hgrow (And.intro hat hlt3)))
       have hbk3 := HN.out.1.blk.grown hgrow (fun e => by have := (HN.out.1.nodes.lt q e.symm).1; omega)
       have y0 : w3.cell? ⟨q, 0, none⟩ = some (.slice An ns.length cn) := hbk3.cell 0
       have f0 : w3.frozen? ⟨q, 0, none⟩ = false := hbk3.frozen 0
       clear hown3 hgrow hat hlt3 hbk3)
    | fail)
  all_goals
    obtain ⟨hown3, hgrow, hat, hlt3⟩ := HN3.out
    obtain ⟨hI4, hT4⟩ := HN.out.1.node hown3 hgrow (by simpa [Value.ownBlock] using hat)
    obtain ⟨Y, hY⟩ : ∃ Y, w3.setCell ⟨q, 0, none⟩ (.slice (some ⟨g', 0, none⟩) (ns.length + 1) cap) = Y := ⟨_, rfl⟩
    rw [hY] at hI4 hT4 ⊢
    have hI5 := hI4.below ((Below.refl _ _).alloc (Nat.le_refl _) (.cells #[.int .i64 s] 3))
    have hk5 := Blk.new Y 3 #[.int .i64 s]
    have hq5 := hI5.lt
    have v0 : Y.cell? ⟨q, 0, none⟩ = some (.slice (some ⟨g', 0, none⟩) (ns.length + 1) cap) := hI4.blk.cell 0
    have v1 : Y.cell? ⟨q, 1, none⟩ = some (.slice As ss.length cs) := hI4.blk.cell 1
    have hT6 := (MkTo.of_below HN.out.2.2.2.1).trans ((MkTo.of_below HN.out.2.2.2.2).trans (hT4.trans (MkTo.of_below ((Below.refl _ _).alloc (Nat.le_refl _) (.cells #[.int .i64 s] 3)))))
    have HY := Lib.hid (And.intro hI5 (And.intro hk5 hT6))
    have HYe := Lib.hid hY
    have hfs : (ss.length + 1) * 8 ≤ 140737488355328 := by rw [HS.out.2]; omega
    have hms : ss.length + 1 ≤ maxLen := by rw [HS.out.2]; unfold maxLen; omega
    have hbs : q + 1 ≤ (Y.alloc (.cells #[.int .i64 s] 3)).heap.size := hq5
    have HH2 := Lib.hid (And.intro hfs (And.intro hms hbs))
    clear HN3 hown3 hgrow hat hlt3 hI4 hT4 hY hI5 hk5 hT6 y0 f0 hfs hms hbs
    go_wp2_with (at_builtin; refine wpList_append_item (by rfl) _ _ _ (by rfl) rowIntsM tells_int (v := .slice As ss.length cs) (xs := ss) (base := q + 1) (S := fun _ => False) (by rfl) HY.out.1.sorts (g := Y.heap.size) (cs := #[.int .i64 s]) (by rfl) HY.out.2.1 (y := s) ⟨rfl, HS.out.1⟩ (fun b hS => False.elim hS) HH2.out.2.1 HH2.out.1 HH2.out.2.2 ?_; intro v6 w6 hown6 hgrow6 hat6; obtain ⟨A6, c6, hv6, hc6, hcm6⟩ := hown6.len; rw [show (ss ++ [s]).length = ss.length + 1 from by simp] at hv6; subst hv6; clear hc6 hcm6; have HN6 := Lib.hid (And.intro hown6 (And.intro hgrow6 hat6)); have hbk6 := HY.out.1.blk.grown hgrow6 (fun e => by have := (HY.out.1.sorts.lt q e.symm).1; omega); have y1 : w6.cell? ⟨q, 1, none⟩ = some (.slice As ss.length cs) := hbk6.cell 1; have y0 : w6.cell? ⟨q, 0, none⟩ = some (.slice (some ⟨g', 0, none⟩) (ns.length + 1) cap) := hbk6.cell 0; have f1 : w6.frozen? ⟨q, 1, none⟩ = false := hbk6.frozen 1; clear hown6 hgrow6 hat6 hbk6)
    go_ret
    obtain ⟨hown6, hgrow6, hat6⟩ := HN6.out
    obtain ⟨hI7, hT7⟩ := HY.out.1.sort hown6 hgrow6 hat6
    exact ⟨ret_int (by simp), _, _, hI7, HY.out.2.2.trans hT7⟩
end Go.Proofs.Ythooecojopfjbaa
