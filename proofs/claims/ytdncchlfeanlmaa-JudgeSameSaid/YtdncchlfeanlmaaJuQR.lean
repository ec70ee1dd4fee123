/- Walks: whether a step is formed. · Walks: slices.IndexFunc, slices.ContainsFunc over clauses. -/
import Derived.Test.YtdncchlfeanlmaaJuIJ
import Derived.Test.YtdncchlfeanlmaaCnf2
import Derived.Test.YtdncchlfeanlmaaFuncs
namespace Go.Proofs.Ytdncchlfeanlmaa
open Go.RowKit

set_option maxHeartbeats 1000000 in
theorem zero_any (k a b : Int) (O : Option Addr) (no co : Nat) (rk rt : Int) (w : World) :
    Calls Try.prog 41 #[.agg #[.int .i64 k, .int .i64 a, .int .i64 b, .slice O no co, .int .i64 rk, .int .i64 rt]] w fun e w' => e = .returned (.bool (decide (k = 0 ∧ a = 0 ∧ b = 0 ∧ no = 0 ∧ rk = 0 ∧ rt = 0))) ∧ Below w.heap.size w w' := by
  have hb0 : Below w.heap.size w (w.alloc (.cells #[.int .i64 k, .int .i64 a, .int .i64 b, .slice O no co, .int .i64 rk, .int .i64 rt] 35)) := (Below.refl _ _).alloc (Nat.le_refl _) _
  have HB := Lib.hid hb0
  clear hb0
  obtain ⟨R, hR⟩ : ∃ R, decide (k = 0 ∧ a = 0 ∧ b = 0 ∧ no = 0 ∧ rk = 0 ∧ rt = 0) = R := ⟨_, rfl⟩
  rw [hR]
  by_cases h1 : k = 0
  · have h1b : (k == 0) = true := by simpa using h1
    by_cases h2 : a = 0
    · have h2b : (a == 0) = true := by simpa using h2
      by_cases h3 : b = 0
      · have h3b : (b == 0) = true := by simpa using h3
        by_cases h4 : no = 0
        · have h4b : ((no : Int) == 0) = true := by simpa using h4
          by_cases h5 : rk = 0
          · have h5b : (rk == 0) = true := by simpa using h5
            obtain ⟨bb, h6b⟩ : ∃ bb, (rt == 0) = bb := ⟨_, rfl⟩
            have HR : Hid (bb = R) := by
              show _ = _
              rw [← hR, ← h6b]
              simp [h1, h2, h3, h4, h5]
              rfl
            clear h1 h2 h3 h4 h5 hR
            go_enter Try.func41, Try.ntmps41
            go_wp2_with fail
            go_ret
            exact ⟨ret_bool HR.out, HB.out⟩
          · have h5b : (rk == 0) = false := by simpa using h5
            have HR : Hid (false = R) := by
              show _ = _
              rw [← hR]
              simp [h5]
            clear h1 h2 h3 h4 h5 hR
            go_enter Try.func41, Try.ntmps41
            go_wp2_with fail
            go_ret
            exact ⟨ret_bool HR.out, HB.out⟩
        · have h4b : ((no : Int) == 0) = false := by simpa using h4
          have HR : Hid (false = R) := by
            show _ = _
            rw [← hR]
            simp [h4]
          clear h1 h2 h3 h4 hR
          go_enter Try.func41, Try.ntmps41
          go_wp2_with fail
          go_ret
          exact ⟨ret_bool HR.out, HB.out⟩
      · have h3b : (b == 0) = false := by simpa using h3
        have HR : Hid (false = R) := by
          show _ = _
          rw [← hR]
          simp [h3]
        clear h1 h2 h3 hR
        go_enter Try.func41, Try.ntmps41
        go_wp2_with fail
        go_ret
        exact ⟨ret_bool HR.out, HB.out⟩
    · have h2b : (a == 0) = false := by simpa using h2
      have HR : Hid (false = R) := by
        show _ = _
        rw [← hR]
        simp [h2]
      clear h1 h2 hR
      go_enter Try.func41, Try.ntmps41
      go_wp2_with fail
      go_ret
      exact ⟨ret_bool HR.out, HB.out⟩
  · have h1b : (k == 0) = false := by simpa using h1
    have HR : Hid (false = R) := by
      show _ = _
      rw [← hR]
      simp [h1]
    clear h1 hR
    go_enter Try.func41, Try.ntmps41
    go_wp2_with fail
    go_ret
    exact ⟨ret_bool HR.out, HB.out⟩
end Go.Proofs.Ytdncchlfeanlmaa
namespace Go.Proofs.Ytdncchlfeanlmaa
open Go.RowKit

def PredCls (P : Program) (g : Nat) (lb : Array Value) (p : List Int → Bool) (xs : List (List Int)) (w : World) : Prop :=
  ∀ (W : World) (A : Option Addr) (n c : Nat) (x : List Int), x ∈ xs → Below w.heap.size w W → IntsB W W.heap.size A n x → n ≤ c → Calls P g (#[.slice A n c] ++ lb) W fun e w' => e = .returned (.bool (p x)) ∧ Below w.heap.size w w'

set_option maxHeartbeats 1000000 in
theorem indexCls_any (g : Nat) (lb : Array Value) (eg : ∀ args w, (callFunc g args).run Try.prog w = .ok (.enter g args) w) (p : List Int → Bool) (A : Option Addr) (n c : Nat) (xs : List (List Int)) (R : Int) (w : World)
    (hxs : ArrB (AtArr AtInt 1) 1 w w.heap.size A n xs) (hn : n ≤ 1000000) (hp : PredCls Try.prog g lb p xs w) (hR : idx p xs 0 = R) :
    Calls Try.prog 31 #[.slice A n c, .func (.func g) #[] lb] w fun e w' => e = .returned (.int .i64 R) ∧ Below w.heap.size w w' := by
  have HP := Lib.hid hp
  have HR := Lib.hid hR
  clear hp hR
  go_enter Try.func31, Try.ntmps31
  go_wp2_with fail
  go_loopw [8] (fun s wr => ∃ k : Nat, k ≤ n ∧ s = .int .i64 k ∧ Hid (idx p (xs.drop k) k = R) ∧ Below w.heap.size w wr) (fun s _ => n - (intOf s).toNat)
  case atStart => exact ⟨0, Nat.zero_le _, rfl, HR, Below.refl _ _⟩
  case round =>
    obtain ⟨k, hk, rfl, HK, hbel⟩ := hrel
    by_cases hlt : k < n
    · obtain ⟨b, off, hx, A', n', c', rfl, hb, hcell, hnc, hcm, har⟩ := arrs_get (hxs.below (stays_arr stays_int) hbel (Nat.le_refl _)) hlt
      have hcall := HP.out wr A' n' c' xs[k] (List.getElem_mem hx) hbel (har.keep stays_int (fun b hb => Nat.lt_of_lt_of_le hb hbel.size) (fun _ _ _ => rfl)) hnc
      have e1 := HK.out
      rw [drop_cons hx, idx] at e1
      have HX := Lib.hid hx
      generalize xs[k] = y at hcall e1
      clear HK hx hxs har
      cases hq : p y with
      | true =>
        rw [hq] at hcall e1
        have e2 : (k : Int) = R := e1
        have HC := Lib.hid hcall
        have H2 := Lib.hid e2
        clear hcall e1 hq e2
        go_wp2_with (go_at_fn g; refine HC.out.mono ?_; rintro e w' ⟨rfl, hb'⟩)
        go_ret
        exact ⟨ret_int H2.out, hb'⟩
      | false =>
        rw [hq] at hcall e1
        have e2 : idx p (xs.drop (k + 1)) ((k : Int) + 1) = R := e1
        have HC := Lib.hid hcall
        have H2 := Lib.hid e2
        clear hcall e1 hq e2
        go_wp2_with (go_at_fn g; refine HC.out.mono ?_; rintro e w' ⟨rfl, hb'⟩)
        go_roundw
        case rel => exact ⟨k + 1, by omega, by go_num, by show _ = _; rw [Int.natCast_add]; exact H2.out, hb'⟩
        case measure => simp [intOf]; omega
    · obtain rfl : k = n := by omega
      have e1 := HK.out
      rw [List.drop_of_length_le (by have := hxs.len; omega), idx] at e1
      have H1 := Lib.hid e1
      clear e1 HK
      go_wp2_with fail
      go_ret
      exact ⟨ret_int H1.out, hbel⟩

set_option maxHeartbeats 1000000 in
theorem containsCls_any (g : Nat) (lb : Array Value) (eg : ∀ args w, (callFunc g args).run Try.prog w = .ok (.enter g args) w) (p : List Int → Bool) (A : Option Addr) (n c : Nat) (xs : List (List Int)) (R : Bool) (w : World)
    (hxs : ArrB (AtArr AtInt 1) 1 w w.heap.size A n xs) (hn : n ≤ 1000000) (hp : PredCls Try.prog g lb p xs w) (hR : xs.any p = R) :
    Calls Try.prog 19 #[.slice A n c, .func (.func g) #[] lb] w fun e w' => e = .returned (.bool R) ∧ Below w.heap.size w w' := by
  have HH := Lib.hid (indexCls_any g lb eg p A n c xs _ w hxs hn hp rfl)
  have h0 := idx_any p xs 0 (by omega)
  rw [hR] at h0
  generalize idx p xs 0 = r at HH h0
  have H0 := Lib.hid h0
  clear h0 hR hp hxs
  go_enter Try.func19, Try.ntmps19
  go_wp2_with fail
  refine HH.out.mono ?_
  rintro e w' ⟨rfl, hb⟩
  go_wp2_with fail
  go_ret
  exact ⟨ret_bool H0.out, hb⟩
end Go.Proofs.Ytdncchlfeanlmaa
