/- Walk: slices.Clip over atoms; what the judge's state is in memory. · Walk: slices.Delete over clauses, in a row of the call's own. · Walk: slices.Clone over clauses: a row of the call's own. -/
import Derived.Test.YtdncchlfeanlmaaJuCD
import Derived.Test.YtdncchlfeanlmaaOutP
import Derived.Test.YtdncchlfeanlmaaOwnC
import Derived.Test.YtdncchlfeanlmaaCore
import Derived.Test.YtdncchlfeanlmaaClone
import Derived.Shelf.SlicesE.Delete
import Derived.Lib.OwnBridge
import Derived.Ground.SlgnProg
import Derived.Shelf.SlicesE.Clone
namespace Go.Proofs.Ytdncchlfeanlmaa
open Go.RowKit

set_option maxHeartbeats 1000000 in
theorem clipAtoms_any (A : Option Addr) (n c : Nat) (w : World) (hn : n ≤ c) (hA : A = none → n = 0 ∧ c = 0) :
    Calls Try.prog 35 #[.slice A n c] w fun e w' => e = .returned (.slice A n n) ∧ w' = w := by
  rcases A with _ | ⟨b, off, th⟩
  · obtain ⟨rfl, rfl⟩ := hA rfl
    go_enter Try.func35, Try.ntmps35
    go_wp2
    go_ret
    exact ⟨rfl, rfl⟩
  · clear hA
    have hnI : ((n : Int)) ≤ (c : Int) := by omega
    go_enter Try.func35, Try.ntmps35
    go_wp2
    go_ret
    exact ⟨rfl, rfl⟩
end Go.Proofs.Ytdncchlfeanlmaa
namespace Go.Proofs.Ytdncchlfeanlmaa
open Go.RowKit

def Try.delC_ren : Go.Shelf.Ren := ⟨fun | 45 => 34 | n => n, fun | 22 => 25 | 23 => 31 | 3 => 3 | 4 => 4 | 0 => 0 | n => n, fun | n => n⟩
theorem Try.delC : Go.Proofs.SlLaysE.n45 Try.prog Try.delC_ren := {
  mixed := by kernel_rfl
  f45 := ⟨Try.f34.name, by decide, Try.func34.trans (congrArg some (by kernel_rfl))⟩
  t0 := Try.underlying0
  a0 := Try.isAgg0
  z0 := Try.sizeOf0
  v0 := Try.zeroValue0
  t3 := Try.underlying3
  a3 := Try.isAgg3
  z3 := Try.sizeOf3
  v3 := Try.zeroValue3
  t4 := Try.underlying4
  a4 := Try.isAgg4
  z4 := Try.sizeOf4
  v4 := Try.zeroValue4
  t22 := Try.underlying25
  a22 := Try.isAgg25
  z22 := Try.sizeOf25
  v22 := Try.zeroValue25
  a23 := Try.isAgg31
  z23 := Try.sizeOf31 }

/-- a slice of numbers, as its cell has it -/
def encS (x : Option Addr × Nat × Nat) : Value := .slice x.1 x.2.1 x.2.2
theorem cels_slices {w : World} {S : Nat → Prop} : ∀ (xs : List (List Int)) (cs : List Value), Cels (VArr AtInt 1) w S xs cs → ∃ ds : List (Option Addr × Nat × Nat), cs = ds.map encS ∧ ds.length = xs.length
  | [], _, h => ⟨[], h, rfl⟩
  | _ :: r, _, h => by
    obtain ⟨c0, c1, rfl, ⟨A, n, c, rfl, _⟩, h1⟩ := h
    obtain ⟨ds, rfl, hl⟩ := cels_slices r c1 h1
    exact ⟨(A, n, c) :: ds, rfl, by simp [hl]⟩
theorem cels_erase {α : Type} {V : Val α} {w : World} {S : Nat → Prop} (hV : Tells V 1) : ∀ (xs : List α) (cs : List Value) (i : Nat), Cels V w S xs cs → Cels V w S (xs.eraseIdx i) (cs.eraseIdx i)
  | [], _, i, h => by
    obtain rfl : _ = [] := h
    rfl
  | x :: r, _, i, h => by
    obtain ⟨c0, c1, rfl, h0, h1⟩ := h
    obtain ⟨u, rfl⟩ : ∃ u, c0 = [u] := List.length_eq_one_iff.1 (hV.len _ _ _ _ h0)
    rcases i with _ | i
    · exact h1
    · exact ⟨[u], c1.eraseIdx i, rfl, h0, cels_erase hV r c1 i h1⟩
theorem infoInts : (Try.prog.info? 31).map (fun i => (i.zero, i.size, i.bytes)) = some (some (.slice none 0 0), 1, 24) := by kernel_rfl
theorem grown_putRow {α : Type} [Inhabited α] {enc : α → Value} {w : World} {g q : Nat} (d : Array α) : w.grownBy (Sort.putRow enc (Sort.ahead w q) g 0 d) (some g) := by
  refine ⟨rfl, rfl, rfl, by simp [Sort.putRow, Sort.mapBlock, Sort.ahead], fun k hk hne => ?_⟩
  have : g ≠ k := fun e => hne (by rw [e])
  simp [Sort.putRow, Sort.mapBlock, Sort.ahead, Array.getElem?_modify, this]
theorem deleteCls_any (base : Nat) (S : Nat → Prop) (v : Value) (xs : List (List Int)) (i : Nat) (w : World) (hown : OwnV (VArr AtInt 1) 31 1 w base S v xs) (hi : i < xs.length) (hS : ∀ b, S b → b < w.heap.size ∧ v.ownBlock ≠ some b) :
    ∃ (g c : Nat), v = .slice (some ⟨g, 0, none⟩) xs.length c ∧ Calls Try.prog 34 #[v, .int .i64 i, .int .i64 ((i + 1 : Nat) : Int)] w fun e w' => e = .returned (.slice (some ⟨g, 0, none⟩) (xs.length - 1) c) ∧ OwnV (VArr AtInt 1) 31 1 w' base S (.slice (some ⟨g, 0, none⟩) (xs.length - 1) c) (xs.eraseIdx i) ∧ w.grownBy w' (some g) := by
  obtain ⟨cells, hrow, hels⟩ := hown
  obtain ⟨ds, rfl, hdl⟩ := cels_slices xs cells hels
  rcases hrow.2 with ⟨_, h0⟩ | ⟨g, cap, cur, rfl, hbase, hheap, hnc, hcap, hcs, htake⟩
  · omega
  · refine ⟨g, cap, rfl, ?_⟩
    obtain ⟨i0, hi0, hz0, hz1, hz2⟩ := info_parts infoInts
    have hH : Sort.Holds encS w g 0 ds.toArray := by
      obtain ⟨g', cap', he, _, _, _, _, _, hH⟩ := Lib.holds_of_ownsRow hrow (by intro e; cases e)
      injection he with he
      injection he with he
      injection he with he
      subst he
      exact hH
    have hcon := AnyE.slices_Delete Try.delC encS (fun _ => rfl) (none, 0, 0) Try.zeroValue31 i0 hi0 hz1 g 0 cap i (i + 1) ds.toArray w hH (by simp; omega) (by unfold maxLen at hcap; omega) (by omega) (by simp; omega)
    change Calls Try.prog 34 _ _ _ at hcon
    simp only [List.size_toArray, hdl, show i + 1 - i = 1 by omega] at hcon
    refine hcon.mono fun _ _ ⟨he, q, hw⟩ => ⟨he, ?_, by rw [hw]; exact grown_putRow _⟩
    subst hw
    have hg := grown_putRow (enc := encS) (w := w) (g := g) (q := q) (ds.take i ++ ds.drop (i + 1) ++ List.replicate 1 (none, 0, 0)).toArray
    have hl' : (xs.eraseIdx i).length = xs.length - 1 := by rw [List.length_eraseIdx]; simp [hi]
    have hy : (ds.take i ++ ds.drop (i + 1) ++ List.replicate 1 ((none : Option Addr), 0, 0)).length = xs.length := by simp; omega
    have hrow2 := Lib.ownsRow_putRow (q := q) (k := xs.length - 1) hrow hy (by omega)
    refine ⟨(ds.map encS).eraseIdx i, ?_, Cels.keep (tells_arr stays_int) (fun _ h => h) (fun b o hb => only_cell hg (hS b hb).1 (fun e => (hS b hb).2 e)) _ _ (cels_erase (tells_arr stays_int) xs _ i hels)⟩
    rw [hl']
    have e1 : (ds.take i ++ ds.drop (i + 1) ++ List.replicate 1 ((none : Option Addr), 0, 0)).take (xs.length - 1) = ds.eraseIdx i := by
      rw [List.eraseIdx_eq_take_drop_succ, List.take_left' (by simp; omega)]
    rw [e1] at hrow2
    have e2 : (ds.eraseIdx i).map encS = (ds.map encS).eraseIdx i := by rw [List.eraseIdx_eq_take_drop_succ, List.eraseIdx_eq_take_drop_succ, List.map_append, List.map_take, List.map_drop]
    rw [e2] at hrow2
    exact hrow2
end Go.Proofs.Ytdncchlfeanlmaa
namespace Go.Proofs.Ytdncchlfeanlmaa
open Go.RowKit

def Try.cloneC_ren : Go.Shelf.Ren := ⟨fun | 41 => 17 | n => n, fun | 22 => 25 | 23 => 31 | 4 => 4 | n => n, fun | n => n⟩
theorem Try.cloneC : Go.Proofs.SlLaysE0.n41 Try.prog Try.cloneC_ren := {
  mixed := by kernel_rfl
  f41 := ⟨Try.f17.name, by decide, Try.func17.trans (congrArg some (by kernel_rfl))⟩
  t4 := Try.underlying4
  a4 := Try.isAgg4
  z4 := Try.sizeOf4
  v4 := Try.zeroValue4
  t22 := Try.underlying25
  a22 := Try.isAgg25
  z22 := Try.sizeOf25
  v22 := Try.zeroValue25 }

theorem arr_slices {w : World} {S : Nat → Prop} {b : Nat} : ∀ (xs : List (List Int)) (off : Nat), (∀ i x, xs[i]? = some x → AtArr AtInt 1 w S b (off + i) x) →
    ∃ ds : List (Option Addr × Nat × Nat), Cels (VArr AtInt 1) w S xs (ds.map encS) ∧ ds.length = xs.length ∧ ∀ j u, (ds.map encS)[j]? = some u → w.cell? ⟨b, off + j, none⟩ = some u
  | [], off, _ => ⟨[], rfl, rfl, fun j u hu => by simp at hu⟩
  | x :: r, off, h => by
    obtain ⟨A, n, c, h0, h1, h2, h3⟩ := h 0 x rfl
    obtain ⟨ds, k1, k2, k3⟩ := arr_slices r (off + 1) (fun i y hy => by have := h (i + 1) y hy; rwa [show off + (i + 1) = off + 1 + i by omega] at this)
    refine ⟨(A, n, c) :: ds, ⟨[encS (A, n, c)], ds.map encS, rfl, ⟨A, n, c, rfl, h1, h2, h3⟩, k1⟩, by simp [k2], fun j u hu => ?_⟩
    rcases j with _ | j
    · simp only [List.map_cons, List.getElem?_cons_zero, Option.some.injEq] at hu
      rw [← hu]
      exact h0
    · have := k3 j u (by simpa using hu)
      rwa [show off + 1 + j = off + (j + 1) by omega] at this
set_option maxRecDepth 100000 in
set_option maxHeartbeats 1000000 in
theorem cloneCls_any (A : Option Addr) (n c : Nat) (xs : List (List Int)) (w : World) (hxs : ArrB (AtArr AtInt 1) 1 w w.heap.size A n xs) (hn : n ≤ 1000000) :
    Calls Try.prog 17 #[.slice A n c] w fun e w' => ∃ v, e = .returned v ∧ OwnV (VArr AtInt 1) 31 1 w' w.heap.size (fun b => b < w.heap.size) v xs ∧ Below w.heap.size w w' := by
  have hl := hxs.len
  rcases A with _ | ad
  · have h0 : xs = [] := by
      cases xs with
      | nil => rfl
      | cons x r => obtain ⟨b, off, _, e, _⟩ := Arr.get hxs (show 0 < n by rw [← hl]; simp); cases e
    subst h0
    have hcon := AnyE.slices_Clone_nil Try.cloneC n c w
    change Calls Try.prog 17 _ _ _ at hcon
    exact hcon.mono fun _ _ ⟨he, hw⟩ => ⟨_, he, OwnV.none_ _ _ _ _ _ _, by rw [hw]; exact Below.refl _ _⟩
  · obtain ⟨i0, hi0, hz0, hz1, hz2⟩ := info_parts infoInts
    by_cases hne : n = 0
    · obtain rfl : xs = [] := List.eq_nil_of_length_eq_zero (by omega)
      subst hne
      have q40 : ∀ (w : World) (a : Option Addr) (n c n' c' : Nat), (binOp .eql 25 (.slice a n c) (.slice none n' c')).run Try.prog w = .ok (.bool a.isNone) w := fun w a n c n' c' => Lib.run_eql_slice_nil w _ _ a n c n' c' Try.underlying25
      have HI := Lib.hid (And.intro hi0 (And.intro hz0 (And.intro hz1 hz2)))
      clear hi0 hz0 hz1 hz2 hxs hl
      go_enter Try.func17, Try.ntmps17
      go_wp2_with (at_builtin; go_loud (refine wpList_append_own_at _ rfl (.tmp 5) (.tmp 6) 25 rfl w.heap.size 31 i0 _ 1 24 Try.underlying25 HI.out.1 HI.out.2.1 HI.out.2.2.1 HI.out.2.2.2 rfl (by omega) (.slice (some ⟨w.heap.size, 0, none⟩) 0 0) 0 [] rfl ⟨rfl, .inr ⟨_, 0, #[], rfl, Nat.le_refl _, heap_alloc_new w _, by omega, by omega, rfl, rfl⟩⟩ ad 0 c [] rfl (by simp) (by simp) (by simp) (by unfold maxLen; omega) (by omega) (by simp) ?_); intro v' w1 hown hgrow _ hat)
      go_ret
      refine ⟨v', rfl, ⟨[], by simpa using hown, rfl⟩, ?_⟩
      exact below_then ((Below.refl _ _).alloc (Nat.le_refl _) _) hgrow (by simp) (fun x hx => by simp [Value.ownBlock] at hx; omega)
    · obtain ⟨b, off, _, hA, _, _⟩ := Arr.get hxs (show 0 < n by omega)
      injection hA with hA
      subst hA
      obtain ⟨ds, k1, k2, k3⟩ := arr_slices (w := w) (S := fun b => b < w.heap.size) (b := b) xs off (fun i x hx => by
        obtain ⟨b', off', he, hb', hat⟩ := hxs.at_ i x hx
        injection he with he
        injection he with h1 h2
        subst h1 h2
        rwa [Nat.mul_one] at hat)
      have hcon := AnyE.slices_Clone Try.cloneC i0 (.slice none 0 0) 1 24 hi0 hz0 hz1 hz2 rfl (by omega) Try.sizeOf31 b off n c (ds.map encS) w (by simp; omega) (by unfold maxLen; omega) (by omega) k3 (fun u hu => by obtain ⟨d, _, rfl⟩ := List.mem_map.1 hu; rfl)
      change Calls Try.prog 17 _ _ _ at hcon
      refine hcon.mono fun _ _ ⟨v, he, hown, _, hb⟩ => ⟨v, he, ⟨ds.map encS, ?_, Cels.keep (tells_arr stays_int) (fun _ h => h) (fun b o hb' => hb.cell (p := ⟨b, o, none⟩) hb') _ _ k1⟩, hb⟩
      rw [hl]
      exact hown
end Go.Proofs.Ytdncchlfeanlmaa
