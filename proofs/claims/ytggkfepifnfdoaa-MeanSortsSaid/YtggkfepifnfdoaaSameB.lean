/- Walks: the comparisons of lists, at two slices that read as the same list. -/
import Derived.Test.YtggkfepifnfdoaaProg
import Derived.Test.YtggkfepifnfdoaaCore
import Derived.Deep.QuietTactic
import Derived.BigQuiet
import Derived.Deep.LoopGhost
import Derived.Deep.Cut
import Derived.Deep.CutRange
namespace Go.Proofs.Ytggkfepifnfdoaa
open Go.RowKit

def YesQ (w : World) (e : Ending) (w' : World) : Prop := e = .returned (.bool true) ∧ ∃ m, w' = w.drewN m

theorem bools_get {w : World} {S : Nat → Prop} {A : Option Addr} {n : Nat} {xs : List Bool} (h : Arr AtBool 1 w S A n xs) {i : Nat} (hi : i < n) :
    ∃ (b off : Nat) (hx : i < xs.length), A = some ⟨b, off, none⟩ ∧ S b ∧ w.cell? ⟨b, off + i * 1, none⟩ = some (.bool xs[i]) := Arr.get h hi

set_option maxHeartbeats 1000000 in
theorem sameInts_any (A A' : Option Addr) (n c c' : Nat) (xs : List Int) (S S' : Nat → Prop) (w : World) (h : Arr AtInt 1 w S A n xs) (h' : Arr AtInt 1 w S' A' n xs) (hn : n ≤ 9223372036854775807) :
    Calls Try.prog 17 #[.slice A n c, .slice A' n c'] w (YesQ w) := by
  have hnn : ((n : Int) != (n : Int)) = false := by simp
  go_enter Try.func17, Try.ntmps17
  go_wp2_with fail
  go_loopw [5] (fun s wr => ∃ k : Nat, k ≤ n ∧ s = .int .i64 k ∧ Arr AtInt 1 wr S A n xs ∧ Arr AtInt 1 wr S' A' n xs ∧ Hid (∃ m, wr = w.drewN m)) (fun s _ => n - (intOf s).toNat)
  case atStart => exact ⟨0, Nat.zero_le _, rfl, h, h', 0, rfl⟩
  case round =>
    obtain ⟨k, hk, rfl, hl, hl', HM⟩ := hrel
    clear h h'
    by_cases hlt : k < n
    · have HL := Lib.hid (And.intro hl hl')
      obtain ⟨b, off, hx, rfl, hb, hc, -⟩ := Arr.get hl hlt
      obtain ⟨b', off', hx', rfl, hb', hc', -⟩ := Arr.get hl' hlt
      rw [Nat.mul_one] at hc hc'
      generalize xs[k] = y at hc hc'
      have hq : (y != y) = false := by simp
      have hij : (k : Int) < n := by omega
      clear hl hl' hx hx' hb hb'
      go_wp2_with fail
      go_quiet (fail)
      go_wp2_with fail
      go_roundw
      case rel => exact ⟨k + 1, by omega, by go_num, HL.out.1.drewN stays_int _, HL.out.2.drewN stays_int _, by obtain ⟨m, e⟩ := HM.out; exact ⟨m + nq, by rw [e, World.drewN_drewN]⟩⟩
      case measure => simp [intOf]; omega
    · obtain rfl : k = n := by omega
      go_wp2_with fail
      go_ret
      exact ⟨rfl, HM.out⟩

set_option maxHeartbeats 1000000 in
theorem sameBools_any (A A' : Option Addr) (n c c' : Nat) (xs : List Bool) (S S' : Nat → Prop) (w : World) (h : Arr AtBool 1 w S A n xs) (h' : Arr AtBool 1 w S' A' n xs) (hn : n ≤ 9223372036854775807) :
    Calls Try.prog 21 #[.slice A n c, .slice A' n c'] w (YesQ w) := by
  have hnn : ((n : Int) != (n : Int)) = false := by simp
  go_enter Try.func21, Try.ntmps21
  go_wp2_with fail
  go_loopw [5] (fun s wr => ∃ k : Nat, k ≤ n ∧ s = .int .i64 k ∧ Arr AtBool 1 wr S A n xs ∧ Arr AtBool 1 wr S' A' n xs ∧ Hid (∃ m, wr = w.drewN m)) (fun s _ => n - (intOf s).toNat)
  case atStart => exact ⟨0, Nat.zero_le _, rfl, h, h', 0, rfl⟩
  case round =>
    obtain ⟨k, hk, rfl, hl, hl', HM⟩ := hrel
    clear h h'
    by_cases hlt : k < n
    · have HL := Lib.hid (And.intro hl hl')
      obtain ⟨b, off, hx, rfl, hb, hc⟩ := bools_get hl hlt
      obtain ⟨b', off', hx', rfl, hb', hc'⟩ := bools_get hl' hlt
      rw [Nat.mul_one] at hc hc'
      generalize xs[k] = y at hc hc'
      have hq : (y != y) = false := by simp
      have hij : (k : Int) < n := by omega
      clear hl hl' hx hx' hb hb'
      go_wp2_with fail
      go_quiet (fail)
      go_wp2_with fail
      go_roundw
      case rel => exact ⟨k + 1, by omega, by go_num, HL.out.1.drewN stays_bool _, HL.out.2.drewN stays_bool _, by obtain ⟨m, e⟩ := HM.out; exact ⟨m + nq, by rw [e, World.drewN_drewN]⟩⟩
      case measure => simp [intOf]; omega
    · obtain rfl : k = n := by omega
      go_wp2_with fail
      go_ret
      exact ⟨rfl, HM.out⟩
end Go.Proofs.Ytggkfepifnfdoaa
