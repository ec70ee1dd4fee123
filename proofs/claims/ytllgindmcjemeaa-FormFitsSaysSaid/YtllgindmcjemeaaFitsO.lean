/- Arguments opened: models. -/
import Derived.Test.YtllgindmcjemeaaFormO
import Derived.Test.YtllgindmcjemeaaFits
namespace Go.Proofs.Ytllgindmcjemeaa
open Go.ChangeShapes Go.WideShapes Go.ChangeAt Go.RowKit Go.Deep Go.Joins

section
variable {H : Type} {enc : TypeId × Value → H} {w : World} {base : Nat} {spare : Nat → Bool} {held : Bool}

theorem cellsFrac : Try.prog.cellsOf 109 = 2 := by kernel_rfl

set_option maxRecDepth 100000 in
theorem opens_frac : Opens H enc w base spare held AtFrac 109 2 := fun fuel b o cs x hc hl h => by
  obtain ⟨ys, n, _, _, _, hyl, hf⟩ := DataW.trod_struct Try.underlying109 h
  match cs, hl with
  | [v0, v1], _ =>
    match ys, hyl with
    | [y0, y1], _ =>
      have f0 : DataW.trod enc Try.prog w base spare held n 3 (([v0, v1].drop 0).take (Try.prog.cellsOf 3)) = some y0 := hf 0 _ rfl
      have f1 : DataW.trod enc Try.prog w base spare held n 3 (([v0, v1].drop 1).take (Try.prog.cellsOf 3)) = some y1 := hf 1 _ rfl
      rw [cellsInt] at f0 f1
      obtain ⟨a, ha⟩ := opens_int n b o [v0] y0 (one_cell (hc 0 (by omega))) rfl f0
      obtain ⟨d, hd⟩ := opens_int n b (o + 1) [v1] y1 (one_cell (hc 1 (by omega))) rfl f1
      exact ⟨⟨a, d⟩, ha, hd⟩

set_option maxRecDepth 100000 in
theorem open_model {r : Reach} {b0 : Nat} {v : Value} {d : DataW H} {p : List MemPlace} (hv : Value.okWide Try.prog w r b0 48 v) (h : DataW.Trod enc Try.prog w base spare held 48 v d p) :
    ∃ (B1 B2 B3 : Option Addr) (k1 e1 k2 e2 k3 e3 : Nat) (M : ModelD), v = .agg #[.slice B1 k1 e1, .slice B2 k2 e2, .slice B3 k3 e3] ∧ ModelB w w.heap.size B1 B2 B3 k1 k2 k3 M := by
  obtain ⟨v0, v1, v2, y0, y1, y2, n, rfl, _, _, h0, h1, h2⟩ := open_agg3 Try.underlying48 (by kernel_rfl) (by kernel_rfl) hv h
  obtain ⟨A1, n1, c1, xs1, rfl, a1, b1, e1⟩ := open_arr Try.underlying34 cellsBool (by omega) opens_bool h0
  obtain ⟨A2, n2, c2, xs2, rfl, a2, b2, e2⟩ := open_arr Try.underlying40 cellsInt (by omega) opens_int h1
  obtain ⟨A3, n3, c3, xs3, rfl, a3, b3, e3⟩ := open_arr Try.underlying46 cellsFrac (by omega) opens_frac h2
  unfold maxLen at b1 b2 b3
  exact ⟨A1, A2, A3, n1, c1, n2, c2, n3, c3, ⟨xs1, xs2, xs3⟩, rfl, e1, e2, e3, by omega, by omega, by omega⟩
end
end Go.Proofs.Ytllgindmcjemeaa
