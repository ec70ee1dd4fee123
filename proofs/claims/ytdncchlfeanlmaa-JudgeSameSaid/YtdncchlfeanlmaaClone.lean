/- Walks: slices.Clone over numbers; a row of numbers of the call's own. -/
import Derived.Test.YtdncchlfeanlmaaCore
import Derived.Test.YtdncchlfeanlmaaFuncs
import Derived.Deep.AppendLies
import Derived.Lib.SliceRun
namespace Go.Proofs.Ytdncchlfeanlmaa
open Go.RowKit

theorem infoInt : (Try.prog.info? 3).map (fun i => (i.zero, i.size, i.bytes)) = some (some (.int .i64 0), 1, 8) := by kernel_rfl

/-- the slice value v is a row of the call's own (in a block from base on) and holds the numbers xs -/
def OwnInts (w : World) (base : Nat) (v : Value) (xs : List Int) : Prop := w.ownsRow base 3 1 v xs.length (xs.map (.int .i64)) ∧ ∀ x ∈ xs, I64 x

theorem ints_news {w : World} {S : Nat → Prop} {ad : Addr} {n : Nat} {xs : List Int} (h : Arr AtInt 1 w S (some ad) n xs) : ∀ j u, (xs.map (Value.int .i64))[j]? = some u → w.cell? (ad.add j) = some u := fun j u hu => by
  rw [List.getElem?_map] at hu
  cases hx : xs[j]? with
  | none => rw [hx] at hu; simp at hu
  | some x =>
    rw [hx] at hu
    obtain ⟨b, off, e, hb, hc, _⟩ := h.at_ j x hx
    injection e with e
    subst e
    rw [Go.WideShapes.add_plain, ← Nat.mul_one j, hc]
    simpa using hu
theorem ints_i64 {w : World} {S : Nat → Prop} {A : Option Addr} {n : Nat} {xs : List Int} (h : Arr AtInt 1 w S A n xs) : ∀ x ∈ xs, I64 x := fun x hx => by
  obtain ⟨i, hi, rfl⟩ := List.mem_iff_getElem.1 hx
  obtain ⟨b, off, e, hb, hc, hI⟩ := h.at_ i _ (List.getElem?_eq_getElem hi)
  exact hI
theorem ints_one (xs : List Int) : ∀ u ∈ xs.map (Value.int .i64), u.oneCell' = true := fun u hu => by
  obtain ⟨x, _, rfl⟩ := List.mem_map.1 hu
  rfl
theorem OwnInts.reads {w : World} {base : Nat} {v : Value} {xs : List Int} (h : OwnInts w base v xs) : ∃ A c, v = .slice A xs.length c ∧ xs.length ≤ c ∧ c ≤ maxLen ∧ Arr AtInt 1 w (fun b => base ≤ b ∧ b < w.heap.size ∧ v.ownBlock = some b) A xs.length xs := by
  rcases h.1.2 with ⟨rfl, h0⟩ | ⟨g, cap, cur, rfl, hb, hh, hn, hcap, hcs, htake⟩
  · rw [h0, List.eq_nil_of_length_eq_zero h0]
    exact ⟨none, 0, rfl, Nat.le_refl _, by simp [maxLen], Arr.nil_⟩
  · refine ⟨_, _, rfl, hn, hcap, rfl, fun i x hx => ⟨g, 0, rfl, ⟨hb, (Array.getElem?_eq_some_iff.1 hh).1, rfl⟩, ?_, h.2 x (List.mem_of_getElem? hx)⟩⟩
    have := h.1.cells (g := g) rfl i (.int .i64 x) (by rw [List.getElem?_map, hx]; rfl)
    rwa [Go.WideShapes.add_plain, ← Nat.mul_one i] at this

def CloneP (base : Nat) (xs : List Int) (w : World) (e : Ending) (w' : World) : Prop := ∃ v, e = .returned v ∧ OwnInts w' base v xs ∧ Below w.heap.size w w'

set_option maxRecDepth 100000 in
set_option maxHeartbeats 1000000 in
theorem cloneInts_any (A : Option Addr) (n c : Nat) (xs : List Int) (w : World) (hxs : IntsB w w.heap.size A n xs) (hn : n * 8 ≤ 140737488355328) :
    Calls Try.prog 37 #[.slice A n c] w (CloneP w.heap.size xs w) := by
  have q40 : ∀ (w : World) (a : Option Addr) (n c n' c' : Nat), (binOp .eql 31 (.slice a n c) (.slice none n' c')).run Try.prog w = .ok (.bool a.isNone) w := fun w a n c n' c' => Lib.run_eql_slice_nil w _ _ a n c n' c' Try.underlying31
  have hl := hxs.len
  subst hl
  rcases A with _ | ad
  · have h0 : xs = [] := by
      cases xs with
      | nil => rfl
      | cons x r => obtain ⟨b, off, _, e, _⟩ := ints_get hxs (show 0 < (x :: r).length by simp); cases e
    subst h0
    go_enter Try.func37, Try.ntmps37
    go_wp2
    go_ret
    exact ⟨_, rfl, ⟨⟨rfl, .inl ⟨rfl, rfl⟩⟩, fun x hx => by simp at hx⟩, Below.refl _ _⟩
  · obtain ⟨i0, hi0, hz0, hz1, hz2⟩ := info_parts infoInt
    have HI := Lib.hid (And.intro hi0 (And.intro hz0 (And.intro hz1 hz2)))
    have hx2 : IntsB (w.alloc (.cells #[] 3)) w.heap.size (some ad) xs.length xs := hxs.alloc stays_int (Nat.le_refl _) _
    have HX := Lib.hid (And.intro hx2 (ints_i64 hxs))
    clear hi0 hz0 hz1 hz2 hxs hx2
    go_enter Try.func37, Try.ntmps37
    go_wp2_with (at_builtin; go_loud (refine wpList_append_own_at _ rfl (.tmp 5) (.tmp 6) 31 rfl w.heap.size 3 i0 _ 1 8 Try.underlying31 HI.out.1 HI.out.2.1 HI.out.2.2.1 HI.out.2.2.2 rfl (by omega) (.slice (some ⟨w.heap.size, 0, none⟩) 0 0) 0 [] rfl ⟨rfl, .inr ⟨_, 0, #[], rfl, Nat.le_refl _, heap_alloc_new w _, by omega, by omega, rfl, rfl⟩⟩ ad xs.length c (xs.map (.int .i64)) rfl (by simp) (ints_news HX.out.1) (ints_one xs) (by unfold maxLen; omega) (by omega) (by simp) ?_); intro v' w1 hown hgrow _ hat)
    go_ret
    refine ⟨v', rfl, ⟨by simpa using hown, HX.out.2⟩, ?_⟩
    exact below_then ((Below.refl _ _).alloc (Nat.le_refl _) _) hgrow (by simp) (fun x hx => by simp [Value.ownBlock] at hx; omega)
theorem rowInts : RowT Try.prog 31 3 1 8 := rowT_of Try.underlying31 infoInt rfl (by omega)
end Go.Proofs.Ytdncchlfeanlmaa
