/- Arguments opened: worlds. -/
import Derived.Test.YtggkfepifnfdoaaGreatAskOU
import Derived.Test.YtggkfepifnfdoaaGreatAskLM
import Derived.Deep.Fields
namespace Go.Proofs.YtggkfepifnfdoaaGreat
open Go.ChangeShapes Go.WideShapes Go.ChangeAt Go.RowKit Go.Deep Go.Joins

section
variable {H : Type} {enc : TypeId × Value → H} {w : World} {base : Nat} {spare : Nat → Bool} {held : Bool}

theorem cellsFrac : Tryz.prog.cellsOf 45 = 2 := by kernel_rfl
theorem cellsCell : Tryz.prog.cellsOf 68 = 2 := by kernel_rfl
theorem cellsCells : Tryz.prog.cellsOf 46 = 1 := by kernel_rfl
theorem cellsValue : Tryz.prog.cellsOf 48 = 4 := by kernel_rfl
theorem cellsEntry : Tryz.prog.cellsOf 87 = 5 := by kernel_rfl
theorem cellsEntries : Tryz.prog.cellsOf 60 = 1 := by kernel_rfl
theorem cellsMeaning : Tryz.prog.cellsOf 62 = 5 := by kernel_rfl

set_option maxRecDepth 100000 in
theorem opens_frac : Opens H enc w base spare held AtFrac 45 2 := fun fuel b o cs x hc hl h => by
  obtain ⟨ys, n, _, _, _, hyl, hf⟩ := DataW.trod_struct Tryz.underlying45 h
  match cs, hl with
  | [v0, v1], _ =>
    match ys, hyl with
    | [y0, y1], _ =>
      have f0 : DataW.trod enc Tryz.prog w base spare held n 3 (([v0, v1].drop 0).take (Tryz.prog.cellsOf 3)) = some y0 := hf 0 _ rfl
      have f1 : DataW.trod enc Tryz.prog w base spare held n 3 (([v0, v1].drop 1).take (Tryz.prog.cellsOf 3)) = some y1 := hf 1 _ rfl
      rw [cellsInt] at f0 f1
      obtain ⟨a, ha⟩ := opens_int n b o [v0] y0 (one_cell (hc 0 (by omega))) rfl f0
      obtain ⟨d, hd⟩ := opens_int n b (o + 1) [v1] y1 (one_cell (hc 1 (by omega))) rfl f1
      exact ⟨⟨a, d⟩, ha, hd⟩
set_option maxRecDepth 100000 in
theorem opens_cell : Opens H enc w base spare held AtCell 68 2 := fun fuel b o cs x hc hl h => by
  obtain ⟨ys, n, _, _, _, hyl, hf⟩ := DataW.trod_struct Tryz.underlying68 h
  match cs, hl with
  | [v0, v1], _ =>
    match ys, hyl with
    | [y0, y1], _ =>
      have f0 : DataW.trod enc Tryz.prog w base spare held n 3 (([v0, v1].drop 0).take (Tryz.prog.cellsOf 3)) = some y0 := hf 0 _ rfl
      have f1 : DataW.trod enc Tryz.prog w base spare held n 3 (([v0, v1].drop 1).take (Tryz.prog.cellsOf 3)) = some y1 := hf 1 _ rfl
      rw [cellsInt] at f0 f1
      obtain ⟨a, ha⟩ := opens_int n b o [v0] y0 (one_cell (hc 0 (by omega))) rfl f0
      obtain ⟨d, hd⟩ := opens_int n b (o + 1) [v1] y1 (one_cell (hc 1 (by omega))) rfl f1
      exact ⟨⟨a, d⟩, ha, hd⟩
theorem opens_cells : Opens H enc w base spare held (AtArr AtCell 2) 46 1 := opens_arr Tryz.underlying46 cellsCell (by omega) opens_cell
set_option maxRecDepth 100000 in
theorem opens_value : Opens H enc w base spare held AtValue 48 4 := fun fuel b o cs x hc hl h => by
  obtain ⟨ys, n, _, _, _, hyl, hf⟩ := DataW.trod_struct Tryz.underlying48 h
  match cs, hl with
  | [v0, v1, v2, v3], _ =>
    match ys, hyl with
    | [y0, y1, y2], _ =>
      have f0 : DataW.trod enc Tryz.prog w base spare held n 45 (([v0, v1, v2, v3].drop 0).take (Tryz.prog.cellsOf 45)) = some y0 := hf 0 _ rfl
      have f1 : DataW.trod enc Tryz.prog w base spare held n 46 (([v0, v1, v2, v3].drop 2).take (Tryz.prog.cellsOf 46)) = some y1 := hf 1 _ rfl
      have f2 : DataW.trod enc Tryz.prog w base spare held n 3 (([v0, v1, v2, v3].drop 3).take (Tryz.prog.cellsOf 3)) = some y2 := hf 2 _ rfl
      rw [cellsFrac] at f0
      rw [cellsCells] at f1
      rw [cellsInt] at f2
      obtain ⟨q, hq⟩ := opens_frac n b o [v0, v1] y0 (fun j hj => by
        have := hc j (by omega)
        rw [this]
        match j, hj with
        | 0, _ => rfl
        | 1, _ => rfl) rfl f0
      obtain ⟨l, hl2⟩ := opens_cells n b (o + 2) [v2] y1 (one_cell (hc 2 (by omega))) rfl f1
      obtain ⟨r, hr⟩ := opens_int n b (o + 3) [v3] y2 (one_cell (hc 3 (by omega))) rfl f2
      exact ⟨⟨q.num, q.den, l, r⟩, hq.1, hq.2, hl2, hr⟩
set_option maxRecDepth 100000 in
theorem opens_entry : Opens H enc w base spare held AtEntry 87 5 := fun fuel b o cs x hc hl h => by
  obtain ⟨ys, n, _, _, _, hyl, hf⟩ := DataW.trod_struct Tryz.underlying87 h
  match cs, hl with
  | [v0, v1, v2, v3, v4], _ =>
    match ys, hyl with
    | [y0, y1], _ =>
      have f0 : DataW.trod enc Tryz.prog w base spare held n 24 (([v0, v1, v2, v3, v4].drop 0).take (Tryz.prog.cellsOf 24)) = some y0 := hf 0 _ rfl
      have f1 : DataW.trod enc Tryz.prog w base spare held n 48 (([v0, v1, v2, v3, v4].drop 1).take (Tryz.prog.cellsOf 48)) = some y1 := hf 1 _ rfl
      rw [cellsInts] at f0
      rw [cellsValue] at f1
      obtain ⟨l, hl2⟩ := opens_ints n b o [v0] y0 (one_cell (hc 0 (by omega))) rfl f0
      obtain ⟨q, hq⟩ := opens_value n b (o + 1) [v1, v2, v3, v4] y1 (fun j hj => by
        have := hc (1 + j) (by omega)
        rw [← Nat.add_assoc] at this
        rw [this]
        match j, hj with
        | 0, _ => rfl
        | 1, _ => rfl
        | 2, _ => rfl
        | 3, _ => rfl) rfl f1
      exact ⟨⟨l, q⟩, hl2, hq⟩
theorem opens_entries : Opens H enc w base spare held (AtArr AtEntry 5) 60 1 := opens_arr Tryz.underlying60 cellsEntry (by omega) opens_entry
set_option maxRecDepth 100000 in
theorem opens_meaning : Opens H enc w base spare held AtMeaning 62 5 := fun fuel b o cs x hc hl h => by
  obtain ⟨ys, n, _, _, _, hyl, hf⟩ := DataW.trod_struct Tryz.underlying62 h
  match cs, hl with
  | [v0, v1, v2, v3, v4], _ =>
    match ys, hyl with
    | [y0, y1], _ =>
      have f0 : DataW.trod enc Tryz.prog w base spare held n 60 (([v0, v1, v2, v3, v4].drop 0).take (Tryz.prog.cellsOf 60)) = some y0 := hf 0 _ rfl
      have f1 : DataW.trod enc Tryz.prog w base spare held n 48 (([v0, v1, v2, v3, v4].drop 1).take (Tryz.prog.cellsOf 48)) = some y1 := hf 1 _ rfl
      rw [cellsEntries] at f0
      rw [cellsValue] at f1
      obtain ⟨l, hl2⟩ := opens_entries n b o [v0] y0 (one_cell (hc 0 (by omega))) rfl f0
      obtain ⟨q, hq⟩ := opens_value n b (o + 1) [v1, v2, v3, v4] y1 (fun j hj => by
        have := hc (1 + j) (by omega)
        rw [← Nat.add_assoc] at this
        rw [this]
        match j, hj with
        | 0, _ => rfl
        | 1, _ => rfl
        | 2, _ => rfl
        | 3, _ => rfl) rfl f1
      exact ⟨⟨l, q⟩, hl2, hq⟩
end

section
variable {H : Type} {enc : TypeId × Value → H} {w : World} {base : Nat} {spare : Nat → Bool} {held : Bool}
theorem cellsMeanings : Tryz.prog.cellsOf 27 = 1 := by kernel_rfl
theorem cellsWorld : Tryz.prog.cellsOf 29 = 1 := by kernel_rfl
set_option maxRecDepth 100000 in
theorem open_world {r : Reach} {b0 : Nat} {v : Value} {d : DataW H} {p : List MemPlace} (hv : Value.okWide Tryz.prog w r b0 29 v) (h : DataW.Trod enc Tryz.prog w base spare held 29 v d p) :
    ∃ (A : Option Addr) (n c : Nat) (ms : List MeaningD), v = .agg #[.slice A n c] ∧ ArrB AtMeaning 5 w w.heap.size A n ms ∧ n ≤ c := by
  obtain ⟨cs, rfl, hsz⟩ := okWide_struct Tryz.underlying29 hv
  rw [cellsWorld] at hsz
  obtain ⟨c0, rfl⟩ : ∃ c0, cs = #[c0] := by
    obtain ⟨l⟩ := cs
    match l, hsz with
    | [c0], _ => exact ⟨c0, rfl⟩
  obtain ⟨fuel, hf⟩ := h
  obtain ⟨ys, n, _, hx, _, hyl, hg⟩ := DataW.trod_struct Tryz.underlying29 hf
  match ys, hyl with
  | [y0], _ =>
    have f0 : DataW.trod enc Tryz.prog w base spare held n 27 (((Value.agg #[c0]).cells.toList.drop 0).take (Tryz.prog.cellsOf 27)) = some y0 := hg 0 _ rfl
    rw [cellsMeanings] at f0
    simp only [Value.cells, List.drop_zero, List.take_succ_cons, List.take_zero] at f0
    obtain ⟨A, n', c', xs, rfl, a1, b1, e1⟩ := open_arr Tryz.underlying27 cellsMeaning (by omega) opens_meaning f0
    exact ⟨A, n', c', xs, rfl, e1, a1⟩
end
end Go.Proofs.YtggkfepifnfdoaaGreat
