/- What every law's row asks beside its walk: the arguments read again behind a call that changed nothing which was there; bulk. · Arguments opened: slices of whatever things. -/
import Derived.Test.YthooecojopfjbaaRows
import Derived.Test.YthooecojopfjbaaCore
import Derived.ProofKit
import Derived.OpenShut
import Derived.JoinedCond
import Derived.ChangeSame
import Derived.Deep.Slices
import Derived.Deep.Fields
import Derived.Lib.SmallJoins
namespace Go.Proofs.Ythooecojopfjbaa
open Go.ChangeShapes Go.WideShapes Go.ChangeAt Go.RowKit Go.Deep

theorem own : ownKnob Try.prog.godebug = none := by kernel_rfl
theorem laidOut : laidOutB Try.prog = true := by kernel_rfl

section
variable {H : Type} {enc : TypeId × Value → H} {P : Program}
theorem trodAll_stays (hl : laidOutB P = true) {W W' : World} {sp : Nat → Bool} (hb : Below W.heap.size W W') : ∀ (ts : List TypeId) (vs : List Value) (ds : List (DataW H)) (ps : List MemPlace),
    (∀ t ∈ ts, P.readableRec t = true ∧ t < P.types.size) → DataW.TrodAll enc P W 0 (fun _ => true) true ts vs ds ps → (∀ x ∈ ps, x.block < W.heap.size) → (∀ x ∈ ps, sp x.block = true) → DataW.TrodAll enc P W' 0 sp true ts vs ds ps
  | [], [], [], _, _, h, _, _ => h
  | t :: ts, v :: vs, d :: ds, ps, hts, h, hlt, hsp => by
    obtain ⟨p, q, h0, h1, rfl⟩ := h
    have ht := hts t (by simp)
    exact ⟨p, q, WideElems.Trod_stays hl ht.1 ht.2 h0 (fun x hx => hb.same (hlt x (List.mem_append_left _ hx))) (fun x hx => hsp x (List.mem_append_left _ hx)),
      trodAll_stays hl hb ts vs ds q (fun t h => hts t (by simp [h])) h1 (fun x hx => hlt x (List.mem_append_right _ hx)) (fun x hx => hsp x (List.mem_append_right _ hx)), rfl⟩
  | [], [], _ :: _, _, _, h, _, _ => h.elim
  | [], _ :: _, _, _, _, h, _, _ => h.elim
  | _ :: _, [], _, _, _, h, _, _ => h.elim
  | _ :: _, _ :: _, [], _, _, h, _, _ => h.elim

theorem law_post {f : Func} {s : ChangeSpec} {W W' : World} {args : Array Value} {ds gs : List (DataW H)} {before : List MemPlace}
    (hW : DataW.Whole enc P f.params.toList s.vars false W args.toList ds gs before) (hl : laidOutB P = true) (hts : ∀ t ∈ f.params.toList, P.readableRec t = true ∧ t < P.types.size)
    (hv : s.vars = []) {tb : TypeId} (hres : f.resultTypes = #[tb]) (hbool : P.underlying tb = some .bool) (hfn : s.fn H (ds ++ []) = { results := [.lit (.bool true)], args := ds }) (hb : Below W.heap.size W W') :
    s.post enc P f false true false false W args (.bool true) W' := by
  have hlt : ∀ x ∈ before, x.block < W.heap.size := fun p hp => hW.lt p hp
  have hW' := hW
  obtain ⟨p, q, hA, hV, rfl, _, _⟩ := hW
  rw [hv] at hV
  obtain ⟨rfl, rfl⟩ := trodVars_none hV
  simp only [List.append_nil] at hW' hlt
  refine ⟨ds, [], p, [], p, [], hW', ?_, ?_, ?_, World.keptBut_mono (fun x hx => ⟨hx, Or.inr (by simpa using hx)⟩) (hb.frame (· ∈ p)), fun h => by cases h⟩
  · rw [hfn, hres]
    exact trodAll_cons_mk (shut_bool hbool _) trodAll_mk0
  · rw [hfn]
    exact trodAll_stays hl hb _ _ _ _ hts hA hlt (fun x hx => by simpa using hlt x hx)
  · rw [hv, hfn]
    rfl
end

/-- what the bound gives -/
theorem bulk_of {H : Type} {l : List (DataW H)} (hk : Rows.uptoSmall H l = true) : Rows.uptoBulkAll l ≤ 1048576 := of_decide_eq_true hk

theorem bulk_one_le {H : Type} (d : DataW H) : 1 ≤ Rows.uptoBulk d := by
  cases d with
  | lit l => cases l <;> simp [Rows.uptoBulk]
  | nil => simp [Rows.uptoBulk]
  | ptr d => simp [Rows.uptoBulk]
  | slice elems spare => simp [Rows.uptoBulk]
  | agg parts => simp [Rows.uptoBulk]
  | iface t d => simp [Rows.uptoBulk]
  | map entries => simp [Rows.uptoBulk]
  | held h => simp [Rows.uptoBulk]

theorem cell_lt {w : World} {p : Addr} {v : Value} (h : w.cell? p = some v) : p.block < w.heap.size := by
  rcases Nat.lt_or_ge p.block w.heap.size with hlt | hge
  · exact hlt
  · simp [World.cell?, Array.getElem?_eq_none hge] at h
end Go.Proofs.Ythooecojopfjbaa
namespace Go.Proofs.Ythooecojopfjbaa
open Go.ChangeShapes Go.WideShapes Go.ChangeAt Go.RowKit Go.Deep Go.Joins

theorem one_cell {w : World} {b o : Nat} {v : Value} (h : w.cell? ⟨b, o, none⟩ = some v) : ∀ j, j < 1 → w.cell? ⟨b, o + j, none⟩ = [v][j]? := fun j hj => by
  have h0 : j = 0 := by omega
  subst h0
  exact h

section
variable {H : Type} {enc : TypeId × Value → H} {w : World} {base : Nat} {spare : Nat → Bool} {held : Bool}

/-- a thing of type e (sz cells) that can be read lies as E tells -/
def Opens (H : Type) (enc : TypeId × Value → H) (w : World) (base : Nat) (spare : Nat → Bool) (held : Bool) {α : Type} (E : Ent α) (e : TypeId) (sz : Nat) : Prop :=
  ∀ (fuel b o : Nat) (cs : List Value) (x : DataW H × List MemPlace), (∀ j, j < sz → w.cell? ⟨b, o + j, none⟩ = cs[j]?) → cs.length = sz → DataW.trod enc Try.prog w base spare held fuel e cs = some x →
    ∃ y, E w (fun b => b < w.heap.size) b o y

theorem open_arr {α : Type} {E : Ent α} {t e : TypeId} {sz : Nat} (ht : Try.prog.underlying t = some (.slice e)) (hC : Try.prog.cellsOf e = sz) (hsz : 0 < sz) (hE : Opens H enc w base spare held E e sz)
    {fuel : Nat} {v : Value} {x : DataW H × List MemPlace} (h : DataW.trod enc Try.prog w base spare held fuel t [v] = some x) :
    ∃ (A : Option Addr) (n c : Nat) (xs : List α), v = .slice A n c ∧ n ≤ c ∧ c ≤ maxLen ∧ ArrB E sz w w.heap.size A n xs := by
  rcases open_slice ht h with ⟨hcs, rfl⟩ | ⟨a, len, cap, m, fl, D, Pl, hcs, hb, hl, hm, hmm, hx, hi⟩
  · simp only [List.cons.injEq, and_true] at hcs
    exact ⟨none, 0, 0, [], hcs, Nat.le_refl _, Nat.zero_le _, Arr.nil_⟩
  · simp only [List.cons.injEq, and_true] at hcs
    subst hcs
    have hlm : len ≤ m := by rw [hmm]; split <;> omega
    rcases Nat.eq_zero_or_pos len with rfl | hpos
    · exact ⟨some a, 0, cap, [], rfl, hl, hm, Arr.nil_⟩
    · obtain ⟨b, off, spot⟩ := a
      have hspot : spot = none := by
        obtain ⟨cs', hc, ht'⟩ := hi 0 (by omega)
        rw [hC] at hc
        obtain ⟨_, hcl, hat⟩ := World.cells?_some hc
        have h0 := hat 0 hsz
        rw [List.getElem?_eq_getElem (by omega)] at h0
        simpa [Addr.add] using World.cell?_spot h0
      subst hspot
      have hel : ∀ i, i < len → ∃ y, b < w.heap.size ∧ E w (fun b => b < w.heap.size) b (off + i * sz) y := fun i hil => by
        obtain ⟨cs', hc, ht'⟩ := hi i (by omega)
        rw [hC] at hc
        obtain ⟨_, hcl, hat⟩ := World.cells?_some hc
        have hcell : ∀ j, j < sz → w.cell? ⟨b, off + i * sz + j, none⟩ = cs'[j]? := fun j hj => by
          have := hat j hj
          rwa [Go.Deep.add_add, add_plain, ← Nat.add_assoc] at this
        obtain ⟨y, hy⟩ := hE fl b (off + i * sz) cs' _ hcell hcl ht'
        have h0 := hcell 0 hsz
        rw [List.getElem?_eq_getElem (by omega)] at h0
        exact ⟨y, cell_lt h0, hy⟩
      have hall : ∀ k, k ≤ len → ∃ xs : List α, xs.length = k ∧ ∀ i x, xs[i]? = some x → b < w.heap.size ∧ E w (fun b => b < w.heap.size) b (off + i * sz) x := by
        intro k
        induction k with
        | zero => exact fun _ => ⟨[], rfl, fun i x h => by simp at h⟩
        | succ k ih =>
          intro hk
          obtain ⟨xs, hxl, hxs⟩ := ih (by omega)
          obtain ⟨y, hy⟩ := hel k (by omega)
          refine ⟨xs ++ [y], by simp [hxl], fun i x hx => ?_⟩
          rcases Nat.lt_or_ge i xs.length with hlt | hge
          · rw [List.getElem?_append_left hlt] at hx
            exact hxs i x hx
          · rw [List.getElem?_append_right hge] at hx
            have hi0 : i - xs.length = 0 := by
              rcases Nat.eq_zero_or_pos (i - xs.length) with h0 | h0
              · exact h0
              · rw [List.getElem?_eq_none (by simp; omega)] at hx; cases hx
            rw [hi0] at hx
            obtain rfl : y = x := by simpa using hx
            have : i = k := by omega
            subst this
            exact hy
      obtain ⟨xs, hxl, hxs⟩ := hall len (Nat.le_refl _)
      exact ⟨some ⟨b, off, none⟩, len, cap, xs, rfl, hl, hm, hxl, fun i x hx => ⟨b, off, rfl, (hxs i x hx).1, (hxs i x hx).2⟩⟩

theorem opens_int : Opens H enc w base spare held AtInt 3 1 := fun fuel b o cs x hc hl h => by
  obtain ⟨y, e0, _, wf⟩ := DataW.trod_int Try.underlying3 h
  subst e0
  exact ⟨y, hc 0 (by omega), bounds_i64 wf⟩
theorem opens_bool : Opens H enc w base spare held AtBool 4 1 := fun fuel b o cs x hc hl h => by
  obtain ⟨y, e0, _⟩ := DataW.trod_bool Try.underlying4 h
  subst e0
  exact ⟨y, hc 0 (by omega)⟩
theorem opens_str : Opens H enc w base spare held AtStr 9 1 := fun fuel b o cs x hc hl h => by
  obtain ⟨y, e0, _, hs⟩ := DataW.trod_string Try.underlying9 h
  subst e0
  exact ⟨y, hc 0 (by omega), hs⟩
theorem opens_arr {α : Type} {E : Ent α} {t e : TypeId} {sz : Nat} (ht : Try.prog.underlying t = some (.slice e)) (hC : Try.prog.cellsOf e = sz) (hsz : 0 < sz) (hE : Opens H enc w base spare held E e sz) :
    Opens H enc w base spare held (AtArr E sz) t 1 := fun fuel b o cs x hc hl h => by
  match cs, hl with
  | [v], _ =>
    obtain ⟨A, n, c, xs, rfl, h1, h2, h3⟩ := open_arr ht hC hsz hE h
    exact ⟨xs, A, n, c, hc 0 (by omega), h1, h2, h3⟩

set_option maxRecDepth 100000 in
theorem cellsInt : Try.prog.cellsOf 3 = 1 := by kernel_rfl
set_option maxRecDepth 100000 in
theorem cellsBool : Try.prog.cellsOf 4 = 1 := by kernel_rfl
set_option maxRecDepth 100000 in
theorem cellsStr : Try.prog.cellsOf 9 = 1 := by kernel_rfl
theorem cellsInts : Try.prog.cellsOf 22 = 1 := by kernel_rfl
theorem opens_ints : Opens H enc w base spare held (AtArr AtInt 1) 22 1 := opens_arr Try.underlying22 cellsInt (by omega) opens_int
end
end Go.Proofs.Ythooecojopfjbaa
