/- Arguments opened: slices of whatever things, forms. -/
import Derived.Test.YtdncchlfeanlmaaLawA
import Derived.Test.YtdncchlfeanlmaaDataB
import Derived.Lib.SmallJoins
namespace Go.Proofs.Ytdncchlfeanlmaa
open Go.ChangeShapes Go.WideShapes Go.ChangeAt Go.RowKit Go.Deep Go.Joins

theorem one_cell {w : World} {b o : Nat} {v : Value} (h : w.cell? ⟨b, o, none⟩ = some v) : ∀ j, j < 1 → w.cell? ⟨b, o + j, none⟩ = [v][j]? := fun j hj => by
  have h0 : j = 0 := by omega
  subst h0
  exact h

section
variable {H : Type} {enc : TypeId × Value → H} {w : World} {base : Nat} {spare : Nat → Bool} {held : Bool}

/-- a thing of type e (sz cells) that can be read lies as E tells -/
def Opens (H : Type) (enc : TypeId × Value → H) (w : World) (base : Nat) (spare : Nat → Bool) (held : Bool) {α : Type} (E : Ent α) (e : TypeId) (sz : Nat) : Prop :=
  ∀ (fuel b o : Nat) (cs : List Value) (x : DataW H × List MemPlace), (∀ j, j < sz → w.cell? ⟨b, o + j, none⟩ = cs[j]?) → cs.length = sz → DataW.trod enc Try.prog w base spare held fuel e cs = some x →
    ∃ y, E w (fun b => b < w.heap.size) b o y

theorem open_arr {α : Type} {E : Ent α} {t e : TypeId} {sz : Nat} (ht : Try.prog.underlying t = some (.slice e)) (hC : Try.prog.cellsOf e = sz) (hsz : 0 < sz) (hE : Opens H enc w base spare held E e sz)
    {fuel : Nat} {v : Value} {x : DataW H × List MemPlace} (h : DataW.trod enc Try.prog w base spare held fuel t [v] = some x) :
    ∃ (A : Option Addr) (n c : Nat) (xs : List α), v = .slice A n c ∧ n ≤ c ∧ c ≤ maxLen ∧ ArrB E sz w w.heap.size A n xs := by
  rcases open_slice ht h with ⟨hcs, rfl⟩ | ⟨a, len, cap, m, fl, D, Pl, hcs, hb, hl, hm, hmm, hx, hi⟩
  · simp only [List.cons.injEq, and_true] at hcs
    exact ⟨none, 0, 0, [], hcs, Nat.le_refl _, Nat.zero_le _, Arr.nil_⟩
  · simp only [List.cons.injEq, and_true] at hcs
    subst hcs
    have hlm : len ≤ m := by rw [hmm]; split <;> omega
    rcases Nat.eq_zero_or_pos len with rfl | hpos
    · exact ⟨some a, 0, cap, [], rfl, hl, hm, Arr.nil_⟩
    · obtain ⟨b, off, spot⟩ := a
      have hspot : spot = none := by
        obtain ⟨cs', hc, ht'⟩ := hi 0 (by omega)
        rw [hC] at hc
        obtain ⟨_, hcl, hat⟩ := World.cells?_some hc
        have h0 := hat 0 hsz
        rw [List.getElem?_eq_getElem (by omega)] at h0
        simpa [Addr.add] using World.cell?_spot h0
      subst hspot
      have hel : ∀ i, i < len → ∃ y, b < w.heap.size ∧ E w (fun b => b < w.heap.size) b (off + i * sz) y := fun i hil => by
        obtain ⟨cs', hc, ht'⟩ := hi i (by omega)
        rw [hC] at hc
        obtain ⟨_, hcl, hat⟩ := World.cells?_some hc
        have hcell : ∀ j, j < sz → w.cell? ⟨b, off + i * sz + j, none⟩ = cs'[j]? := fun j hj => by
          have := hat j hj
          rwa [Go.Deep.add_add, add_plain, ← Nat.add_assoc] at this
        obtain ⟨y, hy⟩ := hE fl b (off + i * sz) cs' _ hcell hcl ht'
        have h0 := hcell 0 hsz
        rw [List.getElem?_eq_getElem (by omega)] at h0
        exact ⟨y, cell_lt h0, hy⟩
      have hall : ∀ k, k ≤ len → ∃ xs : List α, xs.length = k ∧ ∀ i x, xs[i]? = some x → b < w.heap.size ∧ E w (fun b => b < w.heap.size) b (off + i * sz) x := by
        intro k
        induction k with
        | zero => exact fun _ => ⟨[], rfl, fun i x h => by simp at h⟩
        | succ k ih =>
          intro hk
          obtain ⟨xs, hxl, hxs⟩ := ih (by omega)
          obtain ⟨y, hy⟩ := hel k (by omega)
          refine ⟨xs ++ [y], by simp [hxl], fun i x hx => ?_⟩
          rcases Nat.lt_or_ge i xs.length with hlt | hge
          · rw [List.getElem?_append_left hlt] at hx
            exact hxs i x hx
          · rw [List.getElem?_append_right hge] at hx
            have hi0 : i - xs.length = 0 := by
              rcases Nat.eq_zero_or_pos (i - xs.length) with h0 | h0
              · exact h0
              · rw [List.getElem?_eq_none (by simp; omega)] at hx; cases hx
            rw [hi0] at hx
            obtain rfl : y = x := by simpa using hx
            have : i = k := by omega
            subst this
            exact hy
      obtain ⟨xs, hxl, hxs⟩ := hall len (Nat.le_refl _)
      exact ⟨some ⟨b, off, none⟩, len, cap, xs, rfl, hl, hm, hxl, fun i x hx => ⟨b, off, rfl, (hxs i x hx).1, (hxs i x hx).2⟩⟩

theorem opens_int : Opens H enc w base spare held AtInt 3 1 := fun fuel b o cs x hc hl h => by
  obtain ⟨y, e0, _, wf⟩ := DataW.trod_int Try.underlying3 h
  subst e0
  exact ⟨y, hc 0 (by omega), bounds_i64 wf⟩
theorem opens_bool : Opens H enc w base spare held AtBool 4 1 := fun fuel b o cs x hc hl h => by
  obtain ⟨y, e0, _⟩ := DataW.trod_bool Try.underlying4 h
  subst e0
  exact ⟨y, hc 0 (by omega)⟩
theorem opens_str : Opens H enc w base spare held AtStr 9 1 := fun fuel b o cs x hc hl h => by
  obtain ⟨y, e0, _, hs⟩ := DataW.trod_string Try.underlying9 h
  subst e0
  exact ⟨y, hc 0 (by omega), hs⟩
theorem opens_arr {α : Type} {E : Ent α} {t e : TypeId} {sz : Nat} (ht : Try.prog.underlying t = some (.slice e)) (hC : Try.prog.cellsOf e = sz) (hsz : 0 < sz) (hE : Opens H enc w base spare held E e sz) :
    Opens H enc w base spare held (AtArr E sz) t 1 := fun fuel b o cs x hc hl h => by
  match cs, hl with
  | [v], _ =>
    obtain ⟨A, n, c, xs, rfl, h1, h2, h3⟩ := open_arr ht hC hsz hE h
    exact ⟨xs, A, n, c, hc 0 (by omega), h1, h2, h3⟩

set_option maxRecDepth 100000 in
theorem cellsInt : Try.prog.cellsOf 3 = 1 := by kernel_rfl
set_option maxRecDepth 100000 in
theorem cellsBool : Try.prog.cellsOf 4 = 1 := by kernel_rfl
theorem cellsInts : Try.prog.cellsOf 31 = 1 := by kernel_rfl
theorem cellsTerm : Try.prog.cellsOf 39 = 2 := by kernel_rfl
theorem cellsRow : Try.prog.cellsOf 33 = 3 := by kernel_rfl
theorem cellsAtom : Try.prog.cellsOf 35 = 6 := by kernel_rfl

theorem opens_ints : Opens H enc w base spare held (AtArr AtInt 1) 31 1 := opens_arr Try.underlying31 cellsInt (by omega) opens_int

set_option maxRecDepth 100000 in
theorem opens_term : Opens H enc w base spare held AtTerm 39 2 := fun fuel b o cs x hc hl h => by
  obtain ⟨ys, n, _, _, _, hyl, hf⟩ := DataW.trod_struct Try.underlying39 h
  match cs, hl with
  | [v0, v1], _ =>
    match ys, hyl with
    | [y0, y1], _ =>
      have f0 : DataW.trod enc Try.prog w base spare held n 3 (([v0, v1].drop 0).take (Try.prog.cellsOf 3)) = some y0 := hf 0 _ rfl
      have f1 : DataW.trod enc Try.prog w base spare held n 31 (([v0, v1].drop 1).take (Try.prog.cellsOf 31)) = some y1 := hf 1 _ rfl
      rw [cellsInt] at f0
      rw [cellsInts] at f1
      obtain ⟨a, ha⟩ := opens_int n b o [v0] y0 (one_cell (hc 0 (by omega))) rfl f0
      obtain ⟨l, hl⟩ := opens_ints n b (o + 1) [v1] y1 (one_cell (hc 1 (by omega))) rfl f1
      exact ⟨⟨a, l⟩, ha, hl⟩

set_option maxRecDepth 100000 in
theorem opens_row : Opens H enc w base spare held AtRow 33 3 := fun fuel b o cs x hc hl h => by
  obtain ⟨ys, n, _, _, _, hyl, hf⟩ := DataW.trod_struct Try.underlying33 h
  match cs, hl with
  | [v0, v1, v2], _ =>
    match ys, hyl with
    | [y0, y1, y2], _ =>
      have f0 : DataW.trod enc Try.prog w base spare held n 31 (([v0, v1, v2].drop 0).take (Try.prog.cellsOf 31)) = some y0 := hf 0 _ rfl
      have f1 : DataW.trod enc Try.prog w base spare held n 3 (([v0, v1, v2].drop 1).take (Try.prog.cellsOf 3)) = some y1 := hf 1 _ rfl
      have f2 : DataW.trod enc Try.prog w base spare held n 3 (([v0, v1, v2].drop 2).take (Try.prog.cellsOf 3)) = some y2 := hf 2 _ rfl
      rw [cellsInts] at f0
      rw [cellsInt] at f1 f2
      obtain ⟨l, hl⟩ := opens_ints n b o [v0] y0 (one_cell (hc 0 (by omega))) rfl f0
      obtain ⟨a, ha⟩ := opens_int n b (o + 1) [v1] y1 (one_cell (hc 1 (by omega))) rfl f1
      obtain ⟨c, hc'⟩ := opens_int n b (o + 2) [v2] y2 (one_cell (hc 2 (by omega))) rfl f2
      exact ⟨⟨l, a, c⟩, hl, ha, hc'⟩

set_option maxRecDepth 100000 in
theorem opens_atom : Opens H enc w base spare held AtAtom 35 6 := fun fuel b o cs x hc hl h => by
  obtain ⟨ys, n, _, _, _, hyl, hf⟩ := DataW.trod_struct Try.underlying35 h
  match cs, hl with
  | [v0, v1, v2, v3, v4, v5], _ =>
    match ys, hyl with
    | [y0, y1, y2, y3], _ =>
      have f0 : DataW.trod enc Try.prog w base spare held n 3 (([v0, v1, v2, v3, v4, v5].drop 0).take (Try.prog.cellsOf 3)) = some y0 := hf 0 _ rfl
      have f1 : DataW.trod enc Try.prog w base spare held n 3 (([v0, v1, v2, v3, v4, v5].drop 1).take (Try.prog.cellsOf 3)) = some y1 := hf 1 _ rfl
      have f2 : DataW.trod enc Try.prog w base spare held n 3 (([v0, v1, v2, v3, v4, v5].drop 2).take (Try.prog.cellsOf 3)) = some y2 := hf 2 _ rfl
      have f3 : DataW.trod enc Try.prog w base spare held n 33 (([v0, v1, v2, v3, v4, v5].drop 3).take (Try.prog.cellsOf 33)) = some y3 := hf 3 _ rfl
      rw [cellsInt] at f0 f1 f2
      rw [cellsRow] at f3
      obtain ⟨k, hk⟩ := opens_int n b o [v0] y0 (one_cell (hc 0 (by omega))) rfl f0
      obtain ⟨a, ha⟩ := opens_int n b (o + 1) [v1] y1 (one_cell (hc 1 (by omega))) rfl f1
      obtain ⟨c, hc'⟩ := opens_int n b (o + 2) [v2] y2 (one_cell (hc 2 (by omega))) rfl f2
      obtain ⟨r, hr⟩ := opens_row n b (o + 3) [v3, v4, v5] y3 (fun j hj => by
        have := hc (3 + j) (by omega)
        rw [← Nat.add_assoc] at this
        rw [this]
        match j, hj with
        | 0, _ => rfl
        | 1, _ => rfl
        | 2, _ => rfl) rfl f3
      exact ⟨⟨k, a, c, r⟩, hk, ha, hc', hr⟩

set_option maxRecDepth 100000 in
theorem open_form {r : Reach} {b0 : Nat} {v : Value} {d : DataW H} {p : List MemPlace} (hv : Value.okWide Try.prog w r b0 27 v) (h : DataW.Trod enc Try.prog w base spare held 27 v d p) :
    ∃ (A1 A2 A3 A4 : Option Addr) (n1 c1 n2 c2 n3 c3 n4 c4 : Nat) (F : FormD), v = .agg #[.slice A1 n1 c1, .slice A2 n2 c2, .slice A3 n3 c3, .slice A4 n4 c4] ∧ FormB w w.heap.size A1 A2 A3 A4 n1 n2 n3 n4 F := by
  obtain ⟨v0, v1, v2, v3, y0, y1, y2, y3, n, rfl, _, _, h0, h1, h2, h3⟩ := open_agg4 Try.underlying27 (by kernel_rfl) (by kernel_rfl) hv h
  obtain ⟨A1, n1, c1, xs1, rfl, a1, b1, e1⟩ := open_arr Try.underlying22 cellsTerm (by omega) opens_term h0
  obtain ⟨A2, n2, c2, xs2, rfl, a2, b2, e2⟩ := open_arr Try.underlying23 cellsBool (by omega) opens_bool h1
  obtain ⟨A3, n3, c3, xs3, rfl, a3, b3, e3⟩ := open_arr Try.underlying24 cellsAtom (by omega) opens_atom h2
  obtain ⟨A4, n4, c4, xs4, rfl, a4, b4, e4⟩ := open_arr Try.underlying25 cellsInts (by omega) opens_ints h3
  unfold maxLen at b1 b2 b3 b4
  exact ⟨A1, A2, A3, A4, n1, c1, n2, c2, n3, c3, n4, c4, ⟨xs1, xs2, xs3, xs4⟩, rfl, e1, e2, e3, e4, by omega, by omega, by omega, by omega⟩
end
end Go.Proofs.Ytdncchlfeanlmaa
