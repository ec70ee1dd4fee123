/- Walks: slices.Equal over numbers; the test of all; the tests that are handed to it. -/
import Derived.Test.YtggkfepifnfdoaaAskM
import Derived.Deep.QuietTactic
import Derived.BigQuiet
namespace Go.Proofs.Ytggkfepifnfdoaa
open Go.RowKit

set_option maxHeartbeats 1000000 in
theorem equalInts_any (A A' : Option Addr) (n c n' c' : Nat) (xs ys : List Int) (R : Bool) (S S' : Nat → Prop) (w : World) (h : Arr AtInt 1 w S A n xs) (h' : Arr AtInt 1 w S' A' n' ys) (hn : n ≤ 9223372036854775807) (hn' : n' ≤ 9223372036854775807) (hR : decide (xs = ys) = R) :
    Calls Try.prog 74 #[.slice A n c, .slice A' n' c'] w (DrewP (.bool R) w) := by
  by_cases hnn : n = n'
  · subst hnn
    have hq0 : ((n : Int) != (n : Int)) = false := by simp
    have HR := Lib.hid hR
    clear hR
    go_enter Try.func74, Try.ntmps74
    go_wp2_with fail
    go_loopw [13] (fun s wr => ∃ k : Nat, k ≤ n ∧ s = .int .i64 k ∧ Arr AtInt 1 wr S A n xs ∧ Arr AtInt 1 wr S' A' n ys ∧ Hid (decide (xs.drop k = ys.drop k) = R) ∧ Hid (∃ m, wr = w.drewN m)) (fun s _ => n - (intOf s).toNat)
    case atStart => exact ⟨0, Nat.zero_le _, rfl, h, h', HR, 0, rfl⟩
    case round =>
      obtain ⟨k, hk, rfl, hl, hl', HK, HM⟩ := hrel
      clear h h'
      by_cases hlt : k < n
      · have HL := Lib.hid (And.intro hl hl')
        obtain ⟨b, off, hx, rfl, hb, hc, -⟩ := Arr.get hl hlt
        obtain ⟨b', off', hx', rfl, hb', hc', -⟩ := Arr.get hl' hlt
        rw [Nat.mul_one] at hc hc'
        have e1 := HK.out
        rw [drop_cons hx, drop_cons hx'] at e1
        simp only [List.cons.injEq] at e1
        generalize xs[k] = y at hc e1
        generalize ys[k] = z at hc' e1
        have hij : (k : Int) < n := by omega
        clear hl hl' hx hx' hb hb' HK
        by_cases hyz : y = z
        · subst hyz
          simp only [true_and] at e1
          have H1 := Lib.hid e1
          have hq : (y != y) = false := by simp
          clear e1
          go_wp2_with fail
          go_quiet (fail)
          go_wp2_with fail
          go_roundw
          case rel => exact ⟨k + 1, by omega, by go_num, HL.out.1.drewN stays_int _, HL.out.2.drewN stays_int _, H1, by obtain ⟨m, e⟩ := HM.out; exact ⟨m + nq, by rw [e, World.drewN_drewN]⟩⟩
          case measure => simp [intOf]; omega
        · simp only [hyz, false_and, decide_false] at e1
          have H1 := Lib.hid e1
          have hq : (y != z) = true := by simp [hyz]
          clear e1 hyz
          go_wp2_with fail
          go_quiet (fail)
          go_wp2_with fail
          go_ret
          exact ⟨ret_bool H1.out, by obtain ⟨m, e⟩ := HM.out; exact ⟨m + nq, by rw [e, World.drewN_drewN]⟩⟩
      · obtain rfl : n = k := by omega
        have e1 := HK.out
        rw [List.drop_of_length_le (by have := hl.len; omega), List.drop_of_length_le (by have := hl'.len; omega)] at e1
        simp only [decide_true] at e1
        have H1 := Lib.hid e1
        clear e1 HK
        go_wp2_with fail
        go_ret
        exact ⟨ret_bool H1.out, HM.out⟩
  · have hne : R = false := by
      rw [← hR, decide_eq_false_iff_not]
      intro e
      have h1 := h.len
      have h2 := h'.len
      rw [e] at h1
      omega
    subst hne
    have hq0 : ((n : Int) != (n' : Int)) = true := by rw [bne_iff_ne]; omega
    clear hR h h' hnn
    go_enter Try.func74, Try.ntmps74
    go_wp2_with fail
    go_ret
    exact ⟨rfl, 0, rfl⟩

set_option maxHeartbeats 1000000 in
theorem isSame_any (A A' : Option Addr) (n c n' c' : Nat) (xs ys : List Int) (R : Bool) (S S' : Nat → Prop) (B : Nat) (w : World) (hB : w.cell? ⟨B, 0, none⟩ = some (.slice A n c)) (h : Arr AtInt 1 w S A n xs) (h' : Arr AtInt 1 w S' A' n' ys) (hn : n ≤ 9223372036854775807) (hn' : n' ≤ 9223372036854775807) (hR : decide (xs = ys) = R) :
    Calls Try.prog 86 #[.slice A' n' c', .pointer (some ⟨B, 0, none⟩)] w (DrewP (.bool R) w) := by
  have HE := Lib.hid (fun c c' => equalInts_any A A' n c n' c' xs ys R S S' w h h' hn hn' hR)
  clear hR h h'
  go_enter Try.func86, Try.ntmps86
  go_wp2_with fail
  refine (HE.out _ _).mono ?_
  rintro e w' ⟨rfl, m, rfl⟩
  go_wp2_with fail
  go_ret
  exact ⟨rfl, m, rfl⟩

/-- the function g tells p of every number and changes nothing -/
def PlainPred (P : Program) (g : Nat) (p : Int → Bool) : Prop := ∀ (W : World) (x : Int), Calls P g #[.int .i64 x] W fun e w' => e = .returned (.bool (p x)) ∧ W = w'

set_option maxHeartbeats 400000 in
theorem all1_any (g : Nat) (eg : ∀ args w, (callFunc g args).run Try.prog w = .ok (.enter g args) w) (p : Int → Bool) (y : Int) (B : Nat) (w : World) (hB : w.cell? ⟨B, 0, none⟩ = some (.func (.func g) #[] #[])) (hp : PlainPred Try.prog g p) :
    Calls Try.prog 108 #[.int .i64 y, .pointer (some ⟨B, 0, none⟩)] w fun e w' => e = .returned (.bool (!(p y))) ∧ w = w' := by
  have HP := Lib.hid hp
  clear hp
  go_enter Try.func108, Try.ntmps108
  go_wp2_with (go_at_fn g; refine (HP.out _ _).mono ?_; rintro e w' ⟨rfl, rfl⟩)
  go_ret
  exact ⟨rfl, rfl⟩

set_option maxHeartbeats 1000000 in
theorem all_any (g : Nat) (eg : ∀ args w, (callFunc g args).run Try.prog w = .ok (.enter g args) w) (p : Int → Bool) (A : Option Addr) (n c : Nat) (xs : List Int) (R : Bool) (w : World)
    (hxs : IntsB w w.heap.size A n xs) (hn : n ≤ 1000000) (hp : PlainPred Try.prog g p) (hR : allB p xs = R) :
    Calls Try.prog 87 #[.slice A n c, .func (.func g) #[] #[]] w fun e w' => e = .returned (.bool R) ∧ Below w.heap.size w w' := by
  have eg1 : ∀ args w, (callFunc 108 args).run Try.prog w = .ok (.enter 108 args) w := enters_of Try.func108 (by kernel_rfl) rfl
  have hb0 : Below w.heap.size w (w.alloc (.cells #[.func (.func g) #[] #[]] 94)) := (Below.refl _ _).alloc (Nat.le_refl _) _
  have hbn := Blk.new w 94 #[.func (.func g) #[] #[]]
  have hs : (w.alloc (.cells #[.func (.func g) #[] #[]] 94)).heap.size = w.heap.size + 1 := by simp
  have hpred : PredOn Try.prog 108 #[.pointer (some ⟨w.heap.size, 0, none⟩)] (fun s => !(p s)) xs (w.alloc (.cells #[.func (.func g) #[] #[]] 94)) := fun W y hy hb => by
    have hc2 : W.cell? ⟨w.heap.size, 0, none⟩ = some (.func (.func g) #[] #[]) := (hb.cell (p := ⟨w.heap.size, 0, none⟩) (by show w.heap.size < _; omega)).trans (hbn.cell 0)
    exact (all1_any g eg p y w.heap.size W hc2 hp).mono fun e w' ⟨he, hw⟩ => ⟨he, hw ▸ hb⟩
  have hR2 : (xs.any fun s => !(p s)) = !R := by rw [← hR, allB, Bool.not_not]
  have HC := Lib.hid (containsInts_any 108 _ eg1 (fun s => !(p s)) A n c xs (!R) _ (hxs.below stays_int hb0 hb0.size) hn hpred hR2)
  have HB := Lib.hid (And.intro hb0 hs)
  clear hb0 hbn hs hpred hR2 hR hxs hp
  go_enter Try.func87, Try.ntmps87
  go_wp2_with fail
  refine HC.out.mono ?_
  rintro e w' ⟨rfl, hb⟩
  go_wp2_with fail
  go_ret
  exact ⟨ret_bool (by simp), HB.out.1.trans (hb.mono (by rw [HB.out.2]; omega))⟩

theorem isBool_pred : PlainPred Try.prog 88 isBoolS := fun W x => by
  go_enter Try.func88, Try.ntmps88
  go_wp2_with fail
  go_ret
  exact ⟨rfl, rfl⟩
theorem isInt_pred : PlainPred Try.prog 91 isIntS := fun W x => by
  go_enter Try.func91, Try.ntmps91
  go_wp2_with fail
  go_ret
  exact ⟨rfl, rfl⟩
theorem numeric_pred : PlainPred Try.prog 89 numS := fun W x => numeric_any x W
end Go.Proofs.Ytggkfepifnfdoaa
