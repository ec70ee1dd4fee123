/- Arguments opened: asks. -/
import Derived.Test.YtggkfepifnfdoaaArrO
import Derived.Test.YtggkfepifnfdoaaAskB
namespace Go.Proofs.Ytggkfepifnfdoaa
open Go.ChangeShapes Go.WideShapes Go.ChangeAt Go.RowKit Go.Deep Go.Joins

/-- an ask whose three slices are as told, in blocks below B -/
structure AskIn (w : World) (B : Nat) (A1 A2 A3 : Option Addr) (n1 n2 n3 : Nat) (a : AskD) : Prop where
  decls : ArrB AtDecl 3 w B A1 n1 a.decls
  nodes : ArrB AtNode 5 w B A2 n2 a.nodes
  hold : IntsB w B A3 n3 a.hold
  m1 : n1 ≤ 9223372036854775807
  m2 : n2 ≤ 9223372036854775807
  m3 : n3 ≤ 9223372036854775807
theorem AskIn.below {w w' : World} {B B' : Nat} {A1 A2 A3 : Option Addr} {n1 n2 n3 : Nat} {a : AskD} (h : AskIn w B A1 A2 A3 n1 n2 n3 a) (hb : Below B w w') (hB : B ≤ B') : AskIn w' B' A1 A2 A3 n1 n2 n3 a :=
  ⟨h.decls.below stays_decl hb hB, h.nodes.below stays_node hb hB, h.hold.below stays_int hb hB, h.m1, h.m2, h.m3⟩

section
variable {H : Type} {enc : TypeId × Value → H} {w : World} {base : Nat} {spare : Nat → Bool} {held : Bool}

theorem cellsDecl : Try.prog.cellsOf 83 = 3 := by kernel_rfl
theorem cellsNode : Try.prog.cellsOf 65 = 5 := by kernel_rfl

set_option maxRecDepth 100000 in
theorem opens_decl : Opens H enc w base spare held AtDecl 83 3 := fun fuel b o cs x hc hl h => by
  obtain ⟨ys, n, _, _, _, hyl, hf⟩ := DataW.trod_struct Try.underlying83 h
  match cs, hl with
  | [v0, v1, v2], _ =>
    match ys, hyl with
    | [y0, y1, y2], _ =>
      have f0 : DataW.trod enc Try.prog w base spare held n 9 (([v0, v1, v2].drop 0).take (Try.prog.cellsOf 9)) = some y0 := hf 0 _ rfl
      have f1 : DataW.trod enc Try.prog w base spare held n 22 (([v0, v1, v2].drop 1).take (Try.prog.cellsOf 22)) = some y1 := hf 1 _ rfl
      have f2 : DataW.trod enc Try.prog w base spare held n 3 (([v0, v1, v2].drop 2).take (Try.prog.cellsOf 3)) = some y2 := hf 2 _ rfl
      rw [cellsStr] at f0
      rw [cellsInts] at f1
      rw [cellsInt] at f2
      obtain ⟨a0, ha0⟩ := opens_str n b o [v0] y0 (one_cell (hc 0 (by omega))) rfl f0
      obtain ⟨a1, ha1⟩ := opens_ints n b (o + 1) [v1] y1 (one_cell (hc 1 (by omega))) rfl f1
      obtain ⟨a2, ha2⟩ := opens_int n b (o + 2) [v2] y2 (one_cell (hc 2 (by omega))) rfl f2
      exact ⟨⟨a0, a1, a2⟩, ha0, ha1, ha2⟩

set_option maxRecDepth 100000 in
theorem opens_node : Opens H enc w base spare held AtNode 65 5 := fun fuel b o cs x hc hl h => by
  obtain ⟨ys, n, _, _, _, hyl, hf⟩ := DataW.trod_struct Try.underlying65 h
  match cs, hl with
  | [v0, v1, v2, v3, v4], _ =>
    match ys, hyl with
    | [y0, y1, y2, y3, y4], _ =>
      have f0 : DataW.trod enc Try.prog w base spare held n 3 (([v0, v1, v2, v3, v4].drop 0).take (Try.prog.cellsOf 3)) = some y0 := hf 0 _ rfl
      have f1 : DataW.trod enc Try.prog w base spare held n 22 (([v0, v1, v2, v3, v4].drop 1).take (Try.prog.cellsOf 22)) = some y1 := hf 1 _ rfl
      have f2 : DataW.trod enc Try.prog w base spare held n 3 (([v0, v1, v2, v3, v4].drop 2).take (Try.prog.cellsOf 3)) = some y2 := hf 2 _ rfl
      have f3 : DataW.trod enc Try.prog w base spare held n 3 (([v0, v1, v2, v3, v4].drop 3).take (Try.prog.cellsOf 3)) = some y3 := hf 3 _ rfl
      have f4 : DataW.trod enc Try.prog w base spare held n 9 (([v0, v1, v2, v3, v4].drop 4).take (Try.prog.cellsOf 9)) = some y4 := hf 4 _ rfl
      rw [cellsInt] at f0
      rw [cellsInts] at f1
      rw [cellsInt] at f2
      rw [cellsInt] at f3
      rw [cellsStr] at f4
      obtain ⟨a0, ha0⟩ := opens_int n b o [v0] y0 (one_cell (hc 0 (by omega))) rfl f0
      obtain ⟨a1, ha1⟩ := opens_ints n b (o + 1) [v1] y1 (one_cell (hc 1 (by omega))) rfl f1
      obtain ⟨a2, ha2⟩ := opens_int n b (o + 2) [v2] y2 (one_cell (hc 2 (by omega))) rfl f2
      obtain ⟨a3, ha3⟩ := opens_int n b (o + 3) [v3] y3 (one_cell (hc 3 (by omega))) rfl f3
      obtain ⟨a4, ha4⟩ := opens_str n b (o + 4) [v4] y4 (one_cell (hc 4 (by omega))) rfl f4
      exact ⟨⟨a0, a1, a2, a3, a4⟩, ha0, ha1, ha2, ha3, ha4⟩

set_option maxRecDepth 100000 in
theorem open_ask {r : Reach} {b0 : Nat} {v : Value} {d : DataW H} {p : List MemPlace} (hv : Value.okWide Try.prog w r b0 26 v) (h : DataW.Trod enc Try.prog w base spare held 26 v d p) :
    ∃ (A1 A2 A3 : Option Addr) (n1 c1 n2 c2 n3 c3 : Nat) (a : AskD), v = .agg #[.slice A1 n1 c1, .slice A2 n2 c2, .slice A3 n3 c3] ∧ AskIn w w.heap.size A1 A2 A3 n1 n2 n3 a ∧ n1 ≤ c1 ∧ n2 ≤ c2 ∧ n3 ≤ c3 := by
  obtain ⟨v0, v1, v2, y0, y1, y2, n, rfl, _, _, h0, h1, h2⟩ := open_agg3 Try.underlying26 (by kernel_rfl) (by kernel_rfl) hv h
  obtain ⟨A1, n1, c1, xs1, rfl, a1, b1, e1⟩ := open_arr Try.underlying23 cellsDecl (by omega) opens_decl h0
  obtain ⟨A2, n2, c2, xs2, rfl, a2, b2, e2⟩ := open_arr Try.underlying24 cellsNode (by omega) opens_node h1
  obtain ⟨A3, n3, c3, xs3, rfl, a3, b3, e3⟩ := open_arr Try.underlying22 cellsInt (by omega) opens_int h2
  unfold maxLen at b1 b2 b3
  exact ⟨A1, A2, A3, n1, c1, n2, c2, n3, c3, ⟨xs1, xs2, xs3⟩, rfl, ⟨e1, e2, e3, by omega, by omega, by omega⟩, a1, a2, a3⟩
end
end Go.Proofs.Ytggkfepifnfdoaa
