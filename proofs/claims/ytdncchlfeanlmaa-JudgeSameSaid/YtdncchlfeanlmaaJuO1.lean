/- Arguments opened: forms with their capacities, steps; what the reach tells of a slice's length. -/
import Derived.Test.YtdncchlfeanlmaaFormO
import Derived.Test.YtdncchlfeanlmaaJuWh
import Derived.SizedLaws
namespace Go.Proofs.Ytdncchlfeanlmaa
open Go.ChangeShapes Go.WideShapes Go.ChangeAt Go.RowKit Go.Deep Go.Joins

section
variable {H : Type} {enc : TypeId × Value → H} {w : World} {base : Nat} {spare : Nat → Bool} {held : Bool}
set_option maxRecDepth 100000 in
theorem cellsFracJ : Try.prog.cellsOf 88 = 2 := by kernel_rfl
set_option maxRecDepth 100000 in
theorem cellsFracsJ : Try.prog.cellsOf 42 = 1 := by kernel_rfl
set_option maxRecDepth 100000 in
theorem cellsStepJ : Try.prog.cellsOf 44 = 9 := by kernel_rfl
set_option maxRecDepth 100000 in
theorem bytesStepJ : Try.prog.bytesOf 44 = 120 := by kernel_rfl
set_option maxRecDepth 100000 in
theorem opens_fracJ : Opens H enc w base spare held AtFrac 88 2 := fun fuel b o cs x hc hl h => by
  obtain ⟨ys, n, _, _, _, hyl, hf⟩ := DataW.trod_struct Try.underlying88 h
  match cs, hl with
  | [v0, v1], _ =>
    match ys, hyl with
    | [y0, y1], _ =>
      have f0 : DataW.trod enc Try.prog w base spare held n 3 (([v0, v1].drop 0).take (Try.prog.cellsOf 3)) = some y0 := hf 0 _ rfl
      have f1 : DataW.trod enc Try.prog w base spare held n 3 (([v0, v1].drop 1).take (Try.prog.cellsOf 3)) = some y1 := hf 1 _ rfl
      rw [cellsInt] at f0 f1
      obtain ⟨a, ha⟩ := opens_int n b o [v0] y0 (one_cell (hc 0 (by omega))) rfl f0
      obtain ⟨d, hd⟩ := opens_int n b (o + 1) [v1] y1 (one_cell (hc 1 (by omega))) rfl f1
      exact ⟨⟨a, d⟩, ha, hd⟩
set_option maxRecDepth 100000 in
theorem opens_step : Opens H enc w base spare held AtStep 44 9 := fun fuel b o cs x hc hl h => by
  obtain ⟨ys, n, _, _, _, hyl, hf⟩ := DataW.trod_struct Try.underlying44 h
  match cs, hl with
  | [v0, v1, v2, v3, v4, v5, v6, v7, v8], _ =>
    match ys, hyl with
    | [y0, y1, y2, y3], _ =>
      have f0 : DataW.trod enc Try.prog w base spare held n 3 (([v0, v1, v2, v3, v4, v5, v6, v7, v8].drop 0).take (Try.prog.cellsOf 3)) = some y0 := hf 0 _ rfl
      have f1 : DataW.trod enc Try.prog w base spare held n 31 (([v0, v1, v2, v3, v4, v5, v6, v7, v8].drop 1).take (Try.prog.cellsOf 31)) = some y1 := hf 1 _ rfl
      have f2 : DataW.trod enc Try.prog w base spare held n 42 (([v0, v1, v2, v3, v4, v5, v6, v7, v8].drop 2).take (Try.prog.cellsOf 42)) = some y2 := hf 2 _ rfl
      have f3 : DataW.trod enc Try.prog w base spare held n 35 (([v0, v1, v2, v3, v4, v5, v6, v7, v8].drop 3).take (Try.prog.cellsOf 35)) = some y3 := hf 3 _ rfl
      rw [cellsInt] at f0
      rw [cellsInts] at f1
      rw [cellsFracsJ] at f2
      rw [cellsAtom] at f3
      obtain ⟨k, hk⟩ := opens_int n b o [v0] y0 (one_cell (hc 0 (by omega))) rfl f0
      obtain ⟨l, hl⟩ := opens_ints n b (o + 1) [v1] y1 (one_cell (hc 1 (by omega))) rfl f1
      obtain ⟨m, hm⟩ := opens_arr Try.underlying42 cellsFracJ (by omega) opens_fracJ n b (o + 2) [v2] y2 (one_cell (hc 2 (by omega))) rfl f2
      obtain ⟨a, ha⟩ := opens_atom n b (o + 3) [v3, v4, v5, v6, v7, v8] y3 (fun j hj => by
        have := hc (3 + j) (by omega)
        rw [← Nat.add_assoc] at this
        rw [this]
        match j, hj with
        | 0, _ => rfl
        | 1, _ => rfl
        | 2, _ => rfl
        | 3, _ => rfl
        | 4, _ => rfl
        | 5, _ => rfl) rfl f3
      exact ⟨⟨k, l, m, a⟩, hk, hl, hm, ha⟩
set_option maxRecDepth 100000 in
/-- the bytes of a slice that came in are within the reach -/
theorem slice_bytes {t e : TypeId} (ht : Try.prog.underlying t = some (.slice e)) {fuel : Nat} {A : Option Addr} {n c : Nat} {x : DataW H × List MemPlace} (h : DataW.trod enc Try.prog w base spare held fuel t [.slice A n c] = some x) (hr : ∀ k ∈ x.1.weights Try.prog t, k ≤ reachBytes) :
    n * Try.prog.bytesOf e ≤ reachBytes := by
  rcases open_slice ht h with ⟨hcs, rfl⟩ | ⟨a, len, cap, m, fl, D, Pl, hcs, hb, hl, hm, hmm, hx, hi⟩
  · simp only [List.cons.injEq, and_true] at hcs
    injection hcs with _ h2 _
    subst h2
    simp
  · simp only [List.cons.injEq, and_true] at hcs
    injection hcs with _ h2 _
    subst h2
    rw [hx] at hr
    have := hr ((((List.range n).map D).length + ((List.range (m - n)).map fun j => D (n + j)).length) * Try.prog.bytesOf e) (by
      simp only [DataW.weights, ht]
      exact List.mem_cons_self ..)
    simp only [List.length_map, List.length_range] at this
    exact Nat.le_trans (Nat.mul_le_mul_right _ (by omega)) this
set_option maxRecDepth 100000 in
/-- a form, and its capacities -/
theorem open_formC {r : Reach} {b0 : Nat} {v : Value} {d : DataW H} {p : List MemPlace} (hv : Value.okWide Try.prog w r b0 27 v) (h : DataW.Trod enc Try.prog w base spare held 27 v d p) :
    ∃ (A1 A2 A3 A4 : Option Addr) (n1 c1 n2 c2 n3 c3 n4 c4 : Nat) (F : FormD), v = .agg #[.slice A1 n1 c1, .slice A2 n2 c2, .slice A3 n3 c3, .slice A4 n4 c4] ∧ FormB w w.heap.size A1 A2 A3 A4 n1 n2 n3 n4 F ∧ n1 ≤ c1 ∧ n3 ≤ c3 ∧ c3 ≤ maxLen ∧ n4 ≤ c4 ∧ c4 ≤ maxLen := by
  obtain ⟨v0, v1, v2, v3, y0, y1, y2, y3, n, rfl, _, _, h0, h1, h2, h3⟩ := open_agg4 Try.underlying27 (by kernel_rfl) (by kernel_rfl) hv h
  obtain ⟨A1, n1, c1, xs1, rfl, a1, b1, e1⟩ := open_arr Try.underlying22 cellsTerm (by omega) opens_term h0
  obtain ⟨A2, n2, c2, xs2, rfl, a2, b2, e2⟩ := open_arr Try.underlying23 cellsBool (by omega) opens_bool h1
  obtain ⟨A3, n3, c3, xs3, rfl, a3, b3, e3⟩ := open_arr Try.underlying24 cellsAtom (by omega) opens_atom h2
  obtain ⟨A4, n4, c4, xs4, rfl, a4, b4, e4⟩ := open_arr Try.underlying25 cellsInts (by omega) opens_ints h3
  have hb3 := b3
  have hb4 := b4
  unfold maxLen at b1 b2 b3 b4
  exact ⟨A1, A2, A3, A4, n1, c1, n2, c2, n3, c3, n4, c4, ⟨xs1, xs2, xs3, xs4⟩, rfl, ⟨e1, e2, e3, e4, by omega, by omega, by omega, by omega⟩, a1, a3, hb3, a4, hb4⟩
end
end Go.Proofs.Ytdncchlfeanlmaa
