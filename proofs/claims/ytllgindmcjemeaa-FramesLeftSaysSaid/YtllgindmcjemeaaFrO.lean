/- Arguments opened: lists of things of which the reach tells a bound; commands. -/
import Derived.Test.YtllgindmcjemeaaFormO
import Derived.Test.YtllgindmcjemeaaFr
import Derived.SizedLaws
namespace Go.Proofs.Ytllgindmcjemeaa
open Go.ChangeShapes Go.WideShapes Go.ChangeAt Go.RowKit Go.Deep Go.Joins

section
variable {H : Type} {enc : TypeId × Value → H} {w : World} {base : Nat} {spare : Nat → Bool} {held : Bool}

theorem mem_weightsAll {P : Program} {e : TypeId} : ∀ {l : List (DataW H)} {d : DataW H}, d ∈ l → ∀ n ∈ d.weights P e, n ∈ DataW.weightsAll P e l
  | y :: r, d, h, n, hn => by
    rw [DataW.weightsAll]
    rcases List.mem_cons.1 h with rfl | h
    · exact List.mem_append_left _ hn
    · exact List.mem_append_right _ (mem_weightsAll h n hn)

/-- as Opens, and what the reach tells of the thing -/
def OpensR (H : Type) (enc : TypeId × Value → H) (w : World) (base : Nat) (spare : Nat → Bool) (held : Bool) {α : Type} (E : Ent α) (Pr : α → Prop) (e : TypeId) (sz : Nat) : Prop :=
  ∀ (fuel b o : Nat) (cs : List Value) (x : DataW H × List MemPlace), (∀ j, j < sz → w.cell? ⟨b, o + j, none⟩ = cs[j]?) → cs.length = sz → DataW.trod enc Try.prog w base spare held fuel e cs = some x →
    (∀ n ∈ x.1.weights Try.prog e, n ≤ reachBytes) → ∃ y, E w (fun b => b < w.heap.size) b o y ∧ Pr y

set_option maxRecDepth 100000 in
theorem open_arrR {α : Type} {E : Ent α} {Pr : α → Prop} {t e : TypeId} {sz : Nat} (ht : Try.prog.underlying t = some (.slice e)) (hC : Try.prog.cellsOf e = sz) (hsz : 0 < sz) (hE : OpensR H enc w base spare held E Pr e sz)
    {fuel : Nat} {v : Value} {x : DataW H × List MemPlace} (h : DataW.trod enc Try.prog w base spare held fuel t [v] = some x) (hr : ∀ n ∈ x.1.weights Try.prog t, n ≤ reachBytes) :
    ∃ (A : Option Addr) (n c : Nat) (xs : List α), v = .slice A n c ∧ n ≤ c ∧ c ≤ maxLen ∧ ArrB E sz w w.heap.size A n xs ∧ (∀ y ∈ xs, Pr y) ∧ n * Try.prog.bytesOf e ≤ reachBytes := by
  rcases open_slice ht h with ⟨hcs, rfl⟩ | ⟨a, len, cap, m, fl, D, Pl, hcs, hb, hl, hm, hmm, hx, hi⟩
  · simp only [List.cons.injEq, and_true] at hcs
    exact ⟨none, 0, 0, [], hcs, Nat.le_refl _, Nat.zero_le _, Arr.nil_, fun y hy => by simp at hy, by simp⟩
  · simp only [List.cons.injEq, and_true] at hcs
    subst hcs
    rw [hx] at hr
    have hw : ∀ n, (n = (((List.range len).map D).length + ((List.range (m - len)).map fun j => D (len + j)).length) * Try.prog.bytesOf e ∨ n ∈ DataW.weightsAll Try.prog e ((List.range len).map D)) → n ≤ reachBytes := fun n hn => by
      refine hr n ?_
      simp only [DataW.weights, ht]
      rcases hn with rfl | hn
      · exact List.mem_cons_self ..
      · exact List.mem_cons_of_mem _ (List.mem_append_left _ hn)
    have hbytes : len * Try.prog.bytesOf e ≤ reachBytes := by
      have := hw _ (.inl rfl)
      simp only [List.length_map, List.length_range] at this
      exact Nat.le_trans (Nat.mul_le_mul_right _ (by omega)) this
    have hDi : ∀ i, i < len → ∀ n ∈ (D i).weights Try.prog e, n ≤ reachBytes := fun i hil n hn => hw n (.inr (mem_weightsAll (List.mem_map.2 ⟨i, List.mem_range.2 hil, rfl⟩) n hn))
    have hlm : len ≤ m := by rw [hmm]; split <;> omega
    rcases Nat.eq_zero_or_pos len with rfl | hpos
    · exact ⟨some a, 0, cap, [], rfl, hl, hm, Arr.nil_, fun y hy => by simp at hy, by simp⟩
    · obtain ⟨b, off, spot⟩ := a
      have hspot : spot = none := by
        obtain ⟨cs', hc, ht'⟩ := hi 0 (by omega)
        rw [hC] at hc
        obtain ⟨_, hcl, hat⟩ := World.cells?_some hc
        have h0 := hat 0 hsz
        rw [List.getElem?_eq_getElem (by omega)] at h0
        simpa [Addr.add] using World.cell?_spot h0
      subst hspot
      have hel : ∀ i, i < len → ∃ y, b < w.heap.size ∧ E w (fun b => b < w.heap.size) b (off + i * sz) y ∧ Pr y := fun i hil => by
        obtain ⟨cs', hc, ht'⟩ := hi i (by omega)
        rw [hC] at hc
        obtain ⟨_, hcl, hat⟩ := World.cells?_some hc
        have hcell : ∀ j, j < sz → w.cell? ⟨b, off + i * sz + j, none⟩ = cs'[j]? := fun j hj => by
          have := hat j hj
          rwa [Go.Deep.add_add, add_plain, ← Nat.add_assoc] at this
        obtain ⟨y, hy, hy2⟩ := hE fl b (off + i * sz) cs' _ hcell hcl ht' (hDi i hil)
        have h0 := hcell 0 hsz
        rw [List.getElem?_eq_getElem (by omega)] at h0
        exact ⟨y, cell_lt h0, hy, hy2⟩
      have hall : ∀ k, k ≤ len → ∃ xs : List α, xs.length = k ∧ ∀ i x, xs[i]? = some x → b < w.heap.size ∧ E w (fun b => b < w.heap.size) b (off + i * sz) x ∧ Pr x := by
        intro k
        induction k with
        | zero => exact fun _ => ⟨[], rfl, fun i x h => by simp at h⟩
        | succ k ih =>
          intro hk
          obtain ⟨xs, hxl, hxs⟩ := ih (by omega)
          obtain ⟨y, hy⟩ := hel k (by omega)
          refine ⟨xs ++ [y], by simp [hxl], fun i x hx => ?_⟩
          rcases Nat.lt_or_ge i xs.length with hlt | hge
          · rw [List.getElem?_append_left hlt] at hx
            exact hxs i x hx
          · rw [List.getElem?_append_right hge] at hx
            have hi0 : i - xs.length = 0 := by
              rcases Nat.eq_zero_or_pos (i - xs.length) with h0 | h0
              · exact h0
              · rw [List.getElem?_eq_none (by simp; omega)] at hx; cases hx
            rw [hi0] at hx
            obtain rfl : y = x := by simpa using hx
            have : i = k := by omega
            subst this
            exact hy
      obtain ⟨xs, hxl, hxs⟩ := hall len (Nat.le_refl _)
      refine ⟨some ⟨b, off, none⟩, len, cap, xs, rfl, hl, hm, ⟨hxl, fun i x hx => ⟨b, off, rfl, (hxs i x hx).1, (hxs i x hx).2.1⟩⟩, fun y hy => ?_, hbytes⟩
      obtain ⟨i, hi', rfl⟩ := List.mem_iff_getElem.1 hy
      exact (hxs i _ (List.getElem?_eq_getElem hi')).2.2

theorem opensR_int : OpensR H enc w base spare held AtInt (fun _ => True) 3 1 := fun fuel b o cs x hc hl h _ => by
  obtain ⟨y, hy⟩ := opens_int fuel b o cs x hc hl h
  exact ⟨y, hy, trivial⟩
theorem bytesInt : Try.prog.bytesOf 3 = 8 := by kernel_rfl
/-- a list of numbers: its bytes are within the reach -/
theorem opensR_ints : OpensR H enc w base spare held (AtArr AtInt 1) (fun xs => xs.length * 8 ≤ reachBytes) 40 1 := fun fuel b o cs x hc hl h hr => by
  match cs, hl with
  | [v], _ =>
    obtain ⟨A, n, c, xs, rfl, h1, h2, h3, _, h4⟩ := open_arrR Try.underlying40 cellsInt (by omega) opensR_int h hr
    rw [bytesInt] at h4
    exact ⟨xs, ⟨A, n, c, hc 0 (by omega), h1, h2, h3⟩, by show xs.length * 8 ≤ reachBytes; rw [h3.len]; exact h4⟩

theorem cellsDeed : Try.prog.cellsOf 63 = 2 := by kernel_rfl
set_option maxRecDepth 100000 in
theorem opensR_deed : OpensR H enc w base spare held AtTerm (fun d => d.kids.length * 8 ≤ reachBytes) 63 2 := fun fuel b o cs x hc hl h hr => by
  obtain ⟨ys, n, _, hx, _, hyl, hf⟩ := DataW.trod_struct Try.underlying63 h
  match cs, hl with
  | [v0, v1], _ =>
    match ys, hyl with
    | [y0, y1], _ =>
      have f0 : DataW.trod enc Try.prog w base spare held n 3 (([v0, v1].drop 0).take (Try.prog.cellsOf 3)) = some y0 := hf 0 _ rfl
      have f1 : DataW.trod enc Try.prog w base spare held n 40 (([v0, v1].drop 1).take (Try.prog.cellsOf 40)) = some y1 := hf 1 _ rfl
      rw [cellsInt] at f0
      rw [cellsInts] at f1
      obtain ⟨a, ha⟩ := opens_int n b o [v0] y0 (one_cell (hc 0 (by omega))) rfl f0
      obtain ⟨l, hl, hl2⟩ := opensR_ints n b (o + 1) [v1] y1 (one_cell (hc 1 (by omega))) rfl f1 (fun m hm => hr m (by
        rw [hx]
        simp only [DataW.weights, Try.underlying63, List.map_cons, List.map_nil, DataW.weightsEach, List.mem_append]
        exact .inr (.inl hm)))
      exact ⟨⟨a, l⟩, ⟨ha, hl⟩, hl2⟩
theorem open_deeds {v : Value} {d : DataW H} {p : List MemPlace} {fuel : Nat} (h : DataW.trod enc Try.prog w base spare held fuel 60 [v] = some (d, p)) (hr : ∀ n ∈ d.weights Try.prog 60, n ≤ reachBytes) :
    ∃ (A : Option Addr) (n c : Nat) (xs : List TermD), v = .slice A n c ∧ ArrB AtTerm 2 w w.heap.size A n xs ∧ n ≤ 9223372036854775807 ∧ ∀ y ∈ xs, y.kids.length * 8 ≤ reachBytes := by
  obtain ⟨A, n, c, xs, rfl, h1, h2, h3, h4, _⟩ := open_arrR Try.underlying60 cellsDeed (by omega) opensR_deed h hr
  unfold maxLen at h2
  exact ⟨A, n, c, xs, rfl, h3, by omega, h4⟩

set_option maxRecDepth 100000 in
theorem open_form4 {r : Reach} {b0 : Nat} {v : Value} {d : DataW H} {p : List MemPlace} (hv : Value.okWide Try.prog w r b0 38 v) (h : DataW.Trod enc Try.prog w base spare held 38 v d p) :
    ∃ (A1 A2 A3 A4 : Option Addr) (n1 c1 n2 c2 n3 c3 n4 c4 : Nat) (F : FormD), v = .agg #[.slice A1 n1 c1, .slice A2 n2 c2, .slice A3 n3 c3, .slice A4 n4 c4] ∧ FormB w w.heap.size A1 A2 A3 A4 n1 n2 n3 n4 F ∧ n4 ≤ c4 ∧ c4 ≤ maxLen := by
  obtain ⟨v0, v1, v2, v3, y0, y1, y2, y3, n, rfl, _, _, h0, h1, h2, h3⟩ := open_agg4 Try.underlying38 (by kernel_rfl) (by kernel_rfl) hv h
  obtain ⟨A1, n1, c1, xs1, rfl, a1, b1, e1⟩ := open_arr Try.underlying33 cellsTerm (by omega) opens_term h0
  obtain ⟨A2, n2, c2, xs2, rfl, a2, b2, e2⟩ := open_arr Try.underlying34 cellsBool (by omega) opens_bool h1
  obtain ⟨A3, n3, c3, xs3, rfl, a3, b3, e3⟩ := open_arr Try.underlying35 cellsAtom (by omega) opens_atom h2
  obtain ⟨A4, n4, c4, xs4, rfl, a4, b4, e4⟩ := open_arr Try.underlying36 cellsInts (by omega) opens_ints h3
  have hb4 := b4
  unfold maxLen at b1 b2 b3 b4
  exact ⟨A1, A2, A3, A4, n1, c1, n2, c2, n3, c3, n4, c4, ⟨xs1, xs2, xs3, xs4⟩, rfl, ⟨e1, e2, e3, e4, by omega, by omega, by omega, by omega⟩, a4, hb4⟩
end
end Go.Proofs.Ytllgindmcjemeaa
