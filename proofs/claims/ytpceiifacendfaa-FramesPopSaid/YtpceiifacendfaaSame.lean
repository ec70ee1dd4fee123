/- Walks: the comparisons of lists, at two slices that read as the same list. -/
import Derived.Test.YtpceiifacendfaaProg
import Derived.Test.YtpceiifacendfaaDataB
import Derived.Deep.QuietTactic
import Derived.BigQuiet
import Derived.Deep.LoopGhost
import Derived.Deep.Cut
import Derived.Deep.CutRange
namespace Go.Proofs.Ytpceiifacendfaa
open Go.RowKit

def YesQ (w : World) (e : Ending) (w' : World) : Prop := e = .returned (.bool true) ∧ ∃ m, w' = w.drewN m

theorem bools_get {w : World} {S : Nat → Prop} {A : Option Addr} {n : Nat} {xs : List Bool} (h : Arr AtBool 1 w S A n xs) {i : Nat} (hi : i < n) :
    ∃ (b off : Nat) (hx : i < xs.length), A = some ⟨b, off, none⟩ ∧ S b ∧ w.cell? ⟨b, off + i * 1, none⟩ = some (.bool xs[i]) := Arr.get h hi

set_option maxHeartbeats 1000000 in
theorem sameInts_any (A A' : Option Addr) (n c c' : Nat) (xs : List Int) (S S' : Nat → Prop) (w : World) (h : Arr AtInt 1 w S A n xs) (h' : Arr AtInt 1 w S' A' n xs) (hn : n ≤ 9223372036854775807) :
    Calls Try.prog 42 #[.slice A n c, .slice A' n c'] w (YesQ w) := by
  have hnn : ((n : Int) != (n : Int)) = false := by simp
  go_enter Try.func42, Try.ntmps42
  go_wp2_with fail
  go_loopw [5] (fun s wr => ∃ k : Nat, k ≤ n ∧ s = .int .i64 k ∧ Arr AtInt 1 wr S A n xs ∧ Arr AtInt 1 wr S' A' n xs ∧ Hid (∃ m, wr = w.drewN m)) (fun s _ => n - (intOf s).toNat)
  case atStart => exact ⟨0, Nat.zero_le _, rfl, h, h', 0, rfl⟩
  case round =>
    obtain ⟨k, hk, rfl, hl, hl', HM⟩ := hrel
    clear h h'
    by_cases hlt : k < n
    · have HL := Lib.hid (And.intro hl hl')
      obtain ⟨b, off, hx, rfl, hb, hc, -⟩ := Arr.get hl hlt
      obtain ⟨b', off', hx', rfl, hb', hc', -⟩ := Arr.get hl' hlt
      rw [Nat.mul_one] at hc hc'
      generalize xs[k] = y at hc hc'
      have hq : (y != y) = false := by simp
      have hij : (k : Int) < n := by omega
      clear hl hl' hx hx' hb hb'
      go_wp2_with fail
      go_quiet (fail)
      go_wp2_with fail
      go_roundw
      case rel => exact ⟨k + 1, by omega, by go_num, HL.out.1.drewN stays_int _, HL.out.2.drewN stays_int _, by obtain ⟨m, e⟩ := HM.out; exact ⟨m + nq, by rw [e, World.drewN_drewN]⟩⟩
      case measure => simp [intOf]; omega
    · obtain rfl : k = n := by omega
      go_wp2_with fail
      go_ret
      exact ⟨rfl, HM.out⟩

set_option maxHeartbeats 1000000 in
theorem sameBools_any (A A' : Option Addr) (n c c' : Nat) (xs : List Bool) (S S' : Nat → Prop) (w : World) (h : Arr AtBool 1 w S A n xs) (h' : Arr AtBool 1 w S' A' n xs) (hn : n ≤ 9223372036854775807) :
    Calls Try.prog 40 #[.slice A n c, .slice A' n c'] w (YesQ w) := by
  have hnn : ((n : Int) != (n : Int)) = false := by simp
  go_enter Try.func40, Try.ntmps40
  go_wp2_with fail
  go_loopw [5] (fun s wr => ∃ k : Nat, k ≤ n ∧ s = .int .i64 k ∧ Arr AtBool 1 wr S A n xs ∧ Arr AtBool 1 wr S' A' n xs ∧ Hid (∃ m, wr = w.drewN m)) (fun s _ => n - (intOf s).toNat)
  case atStart => exact ⟨0, Nat.zero_le _, rfl, h, h', 0, rfl⟩
  case round =>
    obtain ⟨k, hk, rfl, hl, hl', HM⟩ := hrel
    clear h h'
    by_cases hlt : k < n
    · have HL := Lib.hid (And.intro hl hl')
      obtain ⟨b, off, hx, rfl, hb, hc⟩ := bools_get hl hlt
      obtain ⟨b', off', hx', rfl, hb', hc'⟩ := bools_get hl' hlt
      rw [Nat.mul_one] at hc hc'
      generalize xs[k] = y at hc hc'
      have hq : (y != y) = false := by simp
      have hij : (k : Int) < n := by omega
      clear hl hl' hx hx' hb hb'
      go_wp2_with fail
      go_quiet (fail)
      go_wp2_with fail
      go_roundw
      case rel => exact ⟨k + 1, by omega, by go_num, HL.out.1.drewN stays_bool _, HL.out.2.drewN stays_bool _, by obtain ⟨m, e⟩ := HM.out; exact ⟨m + nq, by rw [e, World.drewN_drewN]⟩⟩
      case measure => simp [intOf]; omega
    · obtain rfl : k = n := by omega
      go_wp2_with fail
      go_ret
      exact ⟨rfl, HM.out⟩

set_option maxHeartbeats 1000000 in
theorem sameRows_any (A A' : Option Addr) (n c c' : Nat) (xs : List (List Int)) (S S' : Nat → Prop) (w : World) (h : Arr (AtArr AtInt 1) 1 w S A n xs) (h' : Arr (AtArr AtInt 1) 1 w S' A' n xs) (hn : n ≤ 9223372036854775807) :
    Calls Try.prog 41 #[.slice A n c, .slice A' n c'] w (YesQ w) := by
  have hnn : ((n : Int) != (n : Int)) = false := by simp
  go_enter Try.func41, Try.ntmps41
  go_wp2_with fail
  go_loopw [5] (fun s wr => ∃ k : Nat, k ≤ n ∧ s = .int .i64 k ∧ Arr (AtArr AtInt 1) 1 wr S A n xs ∧ Arr (AtArr AtInt 1) 1 wr S' A' n xs ∧ Hid (∃ m, wr = w.drewN m)) (fun s _ => n - (intOf s).toNat)
  case atStart => exact ⟨0, Nat.zero_le _, rfl, h, h', 0, rfl⟩
  case round =>
    obtain ⟨k, hk, rfl, hl, hl', HM⟩ := hrel
    clear h h'
    by_cases hlt : k < n
    · have HL := Lib.hid (And.intro hl hl')
      obtain ⟨b, off, hx, rfl, hb, B1, m1, d1, hc, e1, e2, har⟩ := Arr.get hl hlt
      obtain ⟨b', off', hx', rfl, hb', B2, m2, d2, hc', e1', e2', har'⟩ := Arr.get hl' hlt
      rw [Nat.mul_one] at hc hc'
      have hlen := har.len
      have hlen' := har'.len
      obtain rfl : m1 = m2 := by omega
      have HC := Lib.hid (fun x => sameInts_any B1 B2 m1 d1 d2 xs[k] S S' (wr.drewN x) (har.drewN stays_int x) (har'.drewN stays_int x) (by unfold maxLen at e2; omega))
      have hij : (k : Int) < n := by omega
      clear hl hl' hb hb' hlen hlen' har har' e1 e2 e1' e2'
      go_wp2_with fail
      go_quiet ((go_at_call 42; exact Calls.quiet_of (HC.out _)))
      go_wp2_with fail
      go_roundw
      case rel => exact ⟨k + 1, by omega, by go_num, HL.out.1.drewN (stays_arr stays_int) _, HL.out.2.drewN (stays_arr stays_int) _, by obtain ⟨m, e⟩ := HM.out; exact ⟨m + nq, by rw [e, World.drewN_drewN]⟩⟩
      case measure => simp [intOf]; omega
    · obtain rfl : k = n := by omega
      go_wp2_with fail
      go_ret
      exact ⟨rfl, HM.out⟩

def YesB (w : World) (e : Ending) (w' : World) : Prop := e = .returned (.bool true) ∧ Below w.heap.size w w'

set_option maxHeartbeats 1000000 in
theorem sameRow_any (A A' : Option Addr) (n c c' : Nat) (xs : List Int) (k t : Int) (S S' : Nat → Prop) (w : World) (hS : ∀ b, S b → b < w.heap.size) (hS' : ∀ b, S' b → b < w.heap.size) (h : Arr AtInt 1 w S A n xs) (h' : Arr AtInt 1 w S' A' n xs) (hn : n ≤ 9223372036854775807) :
    Calls Try.prog 54 #[.agg #[.slice A n c, .int .i64 k, .int .i64 t], .agg #[.slice A' n c', .int .i64 k, .int .i64 t]] w (YesB w) := by
  obtain ⟨hb0, hbk0, hbm0, hs0⟩ := two_boxes w 33 33 #[.slice A n c, .int .i64 k, .int .i64 t] #[.slice A' n c', .int .i64 k, .int .i64 t]
  have HC := Lib.hid (sameInts_any A A' n c c' xs S S' ((w.alloc (.cells #[.slice A n c, .int .i64 k, .int .i64 t] 33)).alloc (.cells #[.slice A' n c', .int .i64 k, .int .i64 t] 33))
    (h.keep stays_int (fun _ h => h) (fun b o hb => hb0.cell (p := ⟨b, o, none⟩) (hS b hb))) (h'.keep stays_int (fun _ h => h) (fun b o hb => hb0.cell (p := ⟨b, o, none⟩) (hS' b hb))) hn)
  have HB := Lib.hid hb0
  have hk1 : (k == k) = true := by simp
  have ht1 : (t == t) = true := by simp
  clear h h' hb0 hbk0 hbm0 hs0 hS hS'
  go_enter Try.func54, Try.ntmps54
  go_wp2_with fail
  refine HC.out.mono ?_
  rintro e w' ⟨rfl, m, rfl⟩
  go_wp2_with fail
  go_ret
  exact ⟨rfl, below_drewN HB.out _⟩

set_option maxHeartbeats 1000000 in
theorem sameAtom_any (A A' : Option Addr) (n c c' : Nat) (xs : List Int) (ak a b k t : Int) (S S' : Nat → Prop) (w : World) (hS : ∀ b, S b → b < w.heap.size) (hS' : ∀ b, S' b → b < w.heap.size) (h : Arr AtInt 1 w S A n xs) (h' : Arr AtInt 1 w S' A' n xs) (hn : n ≤ 9223372036854775807) :
    Calls Try.prog 43 #[.agg #[.int .i64 ak, .int .i64 a, .int .i64 b, .slice A n c, .int .i64 k, .int .i64 t], .agg #[.int .i64 ak, .int .i64 a, .int .i64 b, .slice A' n c', .int .i64 k, .int .i64 t]] w (YesB w) := by
  obtain ⟨hb0, hbk0, hbm0, hs0⟩ := two_boxes w 35 35 #[.int .i64 ak, .int .i64 a, .int .i64 b, .slice A n c, .int .i64 k, .int .i64 t] #[.int .i64 ak, .int .i64 a, .int .i64 b, .slice A' n c', .int .i64 k, .int .i64 t]
  have HC := Lib.hid (sameRow_any A A' n c c' xs k t S S' ((w.alloc (.cells #[.int .i64 ak, .int .i64 a, .int .i64 b, .slice A n c, .int .i64 k, .int .i64 t] 35)).alloc (.cells #[.int .i64 ak, .int .i64 a, .int .i64 b, .slice A' n c', .int .i64 k, .int .i64 t] 35))
    (fun b hb => Nat.lt_of_lt_of_le (hS b hb) hb0.size) (fun b hb => Nat.lt_of_lt_of_le (hS' b hb) hb0.size)
    (h.keep stays_int (fun _ h => h) (fun b o hb => hb0.cell (p := ⟨b, o, none⟩) (hS b hb))) (h'.keep stays_int (fun _ h => h) (fun b o hb => hb0.cell (p := ⟨b, o, none⟩) (hS' b hb))) hn)
  have HB := Lib.hid hb0
  have hk1 : (ak == ak) = true := by simp
  have ht1 : (a == a) = true := by simp
  have ht2 : (b == b) = true := by simp
  have i0 := hbk0.cell 0
  have i1 := hbk0.cell 1
  have i2 := hbk0.cell 2
  have i3 := hbk0.cell 3
  have i4 := hbk0.cell 4
  have i5 := hbk0.cell 5
  have j0 := hbm0.cell 0
  have j1 := hbm0.cell 1
  have j2 := hbm0.cell 2
  have j3 := hbm0.cell 3
  have j4 := hbm0.cell 4
  have j5 := hbm0.cell 5
  simp only [List.getElem?_toArray, List.getElem?_cons_zero, List.getElem?_cons_succ] at i0 i1 i2 i3 i4 i5 j0 j1 j2 j3 j4 j5
  clear h h' hb0 hbk0 hbm0 hs0 hS hS'
  go_enter Try.func43, Try.ntmps43
  go_upto_region 1 with fail
  generalize (w.alloc (.cells #[.int .i64 ak, .int .i64 a, .int .i64 b, .slice A n c, .int .i64 k, .int .i64 t] 35)).alloc (.cells #[.int .i64 ak, .int .i64 a, .int .i64 b, .slice A' n c', .int .i64 k, .int .i64 t] 35) = X at *
  go_wp2_with fail
  refine HC.out.mono ?_
  rintro e w' ⟨rfl, hb⟩
  go_wp2_with fail
  go_ret
  exact ⟨rfl, HB.out.trans (hb.mono HB.out.size)⟩
end Go.Proofs.Ytpceiifacendfaa
