/- Walks: the comparisons of lists, at two slices that read as the same list. · Plain: what an ask that has been made answers; walks: umpiragelaw1.askSure. -/
import Derived.Test.YthooecojopfjbaaProg
import Derived.Test.YthooecojopfjbaaCore
import Derived.Deep.QuietTactic
import Derived.BigQuiet
import Derived.Deep.LoopGhost
import Derived.Deep.Cut
import Derived.Deep.CutRange
import Derived.Test.YthooecojopfjbaaMkPQ
import Derived.Test.YthooecojopfjbaaKitFH
import Derived.Test.YthooecojopfjbaaAskOU
namespace Go.Proofs.Ythooecojopfjbaa
open Go.RowKit

def YesQ (w : World) (e : Ending) (w' : World) : Prop := e = .returned (.bool true) ∧ ∃ m, w' = w.drewN m

theorem bools_get {w : World} {S : Nat → Prop} {A : Option Addr} {n : Nat} {xs : List Bool} (h : Arr AtBool 1 w S A n xs) {i : Nat} (hi : i < n) :
    ∃ (b off : Nat) (hx : i < xs.length), A = some ⟨b, off, none⟩ ∧ S b ∧ w.cell? ⟨b, off + i * 1, none⟩ = some (.bool xs[i]) := Arr.get h hi

set_option maxHeartbeats 1000000 in
theorem sameInts_any (A A' : Option Addr) (n c c' : Nat) (xs : List Int) (S S' : Nat → Prop) (w : World) (h : Arr AtInt 1 w S A n xs) (h' : Arr AtInt 1 w S' A' n xs) (hn : n ≤ 9223372036854775807) :
    Calls Try.prog 15 #[.slice A n c, .slice A' n c'] w (YesQ w) := by
  have hnn : ((n : Int) != (n : Int)) = false := by simp
  go_enter Try.func15, Try.ntmps15
  go_wp2_with fail
  go_loopw [5] (fun s wr => ∃ k : Nat, k ≤ n ∧ s = .int .i64 k ∧ Arr AtInt 1 wr S A n xs ∧ Arr AtInt 1 wr S' A' n xs ∧ Hid (∃ m, wr = w.drewN m)) (fun s _ => n - (intOf s).toNat)
  case atStart => exact ⟨0, Nat.zero_le _, rfl, h, h', 0, rfl⟩
  case round =>
    obtain ⟨k, hk, rfl, hl, hl', HM⟩ := hrel
    clear h h'
    by_cases hlt : k < n
    · have HL := Lib.hid (And.intro hl hl')
      obtain ⟨b, off, hx, rfl, hb, hc, -⟩ := Arr.get hl hlt
      obtain ⟨b', off', hx', rfl, hb', hc', -⟩ := Arr.get hl' hlt
      rw [Nat.mul_one] at hc hc'
      generalize xs[k] = y at hc hc'
      have hq : (y != y) = false := by simp
      have hij : (k : Int) < n := by omega
      clear hl hl' hx hx' hb hb'
      go_wp2_with fail
      go_quiet (fail)
      go_wp2_with fail
      go_roundw
      case rel => exact ⟨k + 1, by omega, by go_num, HL.out.1.drewN stays_int _, HL.out.2.drewN stays_int _, by obtain ⟨m, e⟩ := HM.out; exact ⟨m + nq, by rw [e, World.drewN_drewN]⟩⟩
      case measure => simp [intOf]; omega
    · obtain rfl : k = n := by omega
      go_wp2_with fail
      go_ret
      exact ⟨rfl, HM.out⟩

set_option maxHeartbeats 1000000 in
theorem sameBools_any (A A' : Option Addr) (n c c' : Nat) (xs : List Bool) (S S' : Nat → Prop) (w : World) (h : Arr AtBool 1 w S A n xs) (h' : Arr AtBool 1 w S' A' n xs) (hn : n ≤ 9223372036854775807) :
    Calls Try.prog 18 #[.slice A n c, .slice A' n c'] w (YesQ w) := by
  have hnn : ((n : Int) != (n : Int)) = false := by simp
  go_enter Try.func18, Try.ntmps18
  go_wp2_with fail
  go_loopw [5] (fun s wr => ∃ k : Nat, k ≤ n ∧ s = .int .i64 k ∧ Arr AtBool 1 wr S A n xs ∧ Arr AtBool 1 wr S' A' n xs ∧ Hid (∃ m, wr = w.drewN m)) (fun s _ => n - (intOf s).toNat)
  case atStart => exact ⟨0, Nat.zero_le _, rfl, h, h', 0, rfl⟩
  case round =>
    obtain ⟨k, hk, rfl, hl, hl', HM⟩ := hrel
    clear h h'
    by_cases hlt : k < n
    · have HL := Lib.hid (And.intro hl hl')
      obtain ⟨b, off, hx, rfl, hb, hc⟩ := bools_get hl hlt
      obtain ⟨b', off', hx', rfl, hb', hc'⟩ := bools_get hl' hlt
      rw [Nat.mul_one] at hc hc'
      generalize xs[k] = y at hc hc'
      have hq : (y != y) = false := by simp
      have hij : (k : Int) < n := by omega
      clear hl hl' hx hx' hb hb'
      go_wp2_with fail
      go_quiet (fail)
      go_wp2_with fail
      go_roundw
      case rel => exact ⟨k + 1, by omega, by go_num, HL.out.1.drewN stays_bool _, HL.out.2.drewN stays_bool _, by obtain ⟨m, e⟩ := HM.out; exact ⟨m + nq, by rw [e, World.drewN_drewN]⟩⟩
      case measure => simp [intOf]; omega
    · obtain rfl : k = n := by omega
      go_wp2_with fail
      go_ret
      exact ⟨rfl, HM.out⟩
end Go.Proofs.Ythooecojopfjbaa
namespace Go.Proofs.Ythooecojopfjbaa
open Go.RowKit

theorem declsK_ok : declsF declsK = (0, 0) := by kernel_rfl
theorem mk_sorts {ns : List NodeD} {ss H : List Int} (hM : Mk ns ss) (hn : ns.length ≤ 200) (hh : H.length ≤ 200) (hH : ∀ k ∈ H, 0 ≤ k ∧ ss[k.toNat]? = some 1) : sortsF ⟨declsK, ns, H⟩ = (ss, 0, 0) := by
  have h0 : holdF ss H = (0, 0) := by
    rw [holdF, if_neg (by omega)]
    refine firstBad_all fun j k hk => ?_
    obtain ⟨h1, h2⟩ := hH k (List.mem_of_getElem? hk)
    have h3 : k.toNat < ss.length := (List.getElem?_eq_some_iff.1 h2).1
    rw [holdCode, if_neg (by omega), if_pos (by rw [List.getD_eq_getElem?_getD, h2]; rfl)]
  unfold Mk at hM
  rw [sortsF, if_neg (by rw [declsK_ok]; simp), if_neg (by show ¬ 200 < ns.length; omega), if_neg (by rw [hM]; simp), hM, if_neg (by rw [h0]; simp)]

theorem sure_sorts : sortsF ⟨[], [⟨1, [], 0, 0, .empty⟩, ⟨10, [], 1, 2, .empty⟩], []⟩ = ([1, 3], 0, 0) := by kernel_rfl

set_option maxRecDepth 100000 in
set_option maxHeartbeats 4000000 in
theorem askSure_any (w : World) : Calls Try.prog 14 #[] w fun e w' => e = .returned (.bool true) ∧ Below w.heap.size w w' := by
  have hb0 : Below w.heap.size w (w.alloc (.cells #[.int .i64 1, .slice none 0 0, .int .i64 0, .int .i64 0, .string { data := #[] }, .int .i64 10, .slice none 0 0, .int .i64 1, .int .i64 2, .string { data := #[] }] 59)) := (Below.refl _ _).alloc (Nat.le_refl _) _
  have hk := Blk.new w 59 #[.int .i64 1, .slice none 0 0, .int .i64 0, .int .i64 0, .string { data := #[] }, .int .i64 10, .slice none 0 0, .int .i64 1, .int .i64 2, .string { data := #[] }]
  obtain ⟨X, hX⟩ : ∃ X, w.alloc (.cells #[.int .i64 1, .slice none 0 0, .int .i64 0, .int .i64 0, .string { data := #[] }, .int .i64 10, .slice none 0 0, .int .i64 1, .int .i64 2, .string { data := #[] }] 59) = X := ⟨_, rfl⟩
  rw [hX] at hb0 hk
  have hi : ∀ n : Int, 0 ≤ n → n ≤ 100 → I64 n := fun n h1 h2 => by unfold I64; omega
  have hN : Arr AtNode 5 X (fun b => b < X.heap.size) (some ⟨w.heap.size, 0, none⟩) 2 [⟨1, [], 0, 0, .empty⟩, ⟨10, [], 1, 2, .empty⟩] := by
    refine arr_of_blk (S := fun b => b < X.heap.size) (xs := [⟨1, [], 0, 0, .empty⟩, ⟨10, [], 1, 2, .empty⟩]) tells_node (fun _ _ _ _ _ h => atV_node h) hk ?_ hk.lt
    exact ⟨_, _, rfl, vnode_plain 1 0 0 (hi _ (by decide) (by decide)) (hi _ (by decide) (by decide)) (hi _ (by decide) (by decide)), _, _, rfl, vnode_plain 10 1 2 (hi _ (by decide) (by decide)) (hi _ (by decide) (by decide)) (hi _ (by decide) (by decide)), rfl⟩
  have hA : AskIn X X.heap.size none (some ⟨w.heap.size, 0, none⟩) none 0 2 0 ⟨[], [⟨1, [], 0, 0, .empty⟩, ⟨10, [], 1, 2, .empty⟩], []⟩ := ⟨Arr.nil_, hN, Arr.nil_, by omega, by omega, by omega⟩
  have HS := Lib.hid (sorts_any none (some ⟨w.heap.size, 0, none⟩) none 0 0 2 2 0 0 ⟨[], [⟨1, [], 0, 0, .empty⟩, ⟨10, [], 1, 2, .empty⟩], []⟩ X hA (Nat.le_refl _))
  have HX := Lib.hid (And.intro hX hb0)
  clear hX hb0 hk hN hi hA
  go_enter Try.func14, Try.ntmps14
  go_wp2_with fail
  rw [HX.out.1]
  refine HS.out.mono ?_
  rw [sure_sorts]
  rintro e w2 ⟨A, c, rfl, hb, hc, hcm, harr⟩
  dsimp only at hc harr ⊢
  have hbf : Below w.heap.size w (w2.alloc (.cells #[.int .i64 0, .int .i64 0] 29)) := (HX.out.2.trans (hb.mono HX.out.2.size)).alloc (Nat.le_trans HX.out.2.size hb.size) _
  have h1 := Arr.keep stays_int (S' := fun b => b < w2.heap.size) harr (fun b hb => hb.2) (fun _ _ _ => rfl)
  have hbq : Below w2.heap.size w2 ((w2.alloc (.cells #[.int .i64 0, .int .i64 0] 29)).alloc (.cells #[.int .i64 1, .int .i64 3] 3)) := ((Below.refl _ _).alloc (Nat.le_refl _) _).alloc (by simp) _
  have h2 := ArrB.below h1 stays_int hbq (Nat.le_refl _)
  have hkn := Blk.new (w2.alloc (.cells #[.int .i64 0, .int .i64 0] 29)) 3 #[.int .i64 1, .int .i64 3]
  have h3 := arr_ints (S := fun b => b < ((w2.alloc (.cells #[.int .i64 0, .int .i64 0] 29)).alloc (.cells #[.int .i64 1, .int .i64 3] 3)).heap.size) (xs := [1, 3]) hkn rfl (fun x hx => by simp at hx; unfold I64; omega) hkn.lt
  rw [show (w2.alloc (.cells #[.int .i64 0, .int .i64 0] 29)).heap.size = w2.heap.size + 1 from by simp] at h3
  have HE := Lib.hid (And.intro (sameInts_any A (some ⟨w2.heap.size + 1, 0, none⟩) 2 c 2 [1, 3] _ _ _ h2 h3 (by omega)) (hbf.alloc hbf.size (.cells #[.int .i64 1, .int .i64 3] 3)))
  clear hb hc hcm harr hbf h1 hbq h2 hkn h3
  go_wp2_with fail
  refine HE.out.1.mono ?_
  rintro e w7 ⟨rfl, m, rfl⟩
  go_wp2_with fail
  go_ret
  exact ⟨rfl, below_drewN HE.out.2 _⟩
end Go.Proofs.Ythooecojopfjbaa
