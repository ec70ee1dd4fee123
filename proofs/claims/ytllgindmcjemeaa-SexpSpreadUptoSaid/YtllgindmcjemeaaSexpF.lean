/- Walk: the reference's comparison of expressions, at two forests that are the same. -/
import Derived.Test.YtllgindmcjemeaaSexpA
import Derived.Test.YtllgindmcjemeaaBaseB
import Derived.Deep.QuietTactic
import Derived.BigQuiet
namespace Go.Proofs.Ytllgindmcjemeaa
open Go.RowKit

set_option maxHeartbeats 1000000 in
theorem sameSexps_any (k : Nat) : ∀ (f : Fo) (A B : Option Addr) (n c d : Nat) (S : Nat → Prop) (w : World), f.cnt < k → Lies w S f A 0 n → Lies w S f B 0 n → n ≤ 4000000 → f.cnt ≤ 4000000 →
    Calls Try.prog 17 #[.slice A n c, .slice B n d] w fun e w' => e = .returned (.bool true) ∧ ∃ m, w' = w.drewN m := by
  induction k with
  | zero => intro f A B n c d S w hk; omega
  | succ k ih =>
    intro f A B n c d S w hk hA hB hn hm
    have IH := Lib.hid ih
    have hnn : ((n : Int) != (n : Int)) = false := by simp
    clear ih
    go_enter Try.func17, Try.ntmps17
    go_wp2_with fail
    go_loopw [5] (fun i wr => ∃ (f' : Fo) (j : Nat), i = .int .i64 j ∧ f'.cnt ≤ f.cnt ∧ Lies wr S f' A j n ∧ Lies wr S f' B j n ∧ Hid (∃ m, wr = w.drewN m)) (fun i _ => n - (intOf i).toNat)
    case atStart => exact ⟨f, 0, rfl, Nat.le_refl _, hA, hB, 0, rfl⟩
    case round =>
      obtain ⟨f', j, rfl, hc, hl, hl', HM⟩ := hrel
      cases f' with
      | nil =>
        obtain rfl : j = n := hl
        go_wp2_with fail
        go_ret
        exact ⟨rfl, HM.out⟩
      | cons wd ls ks nx =>
        obtain ⟨hi, b, off, A', n', c', rfl, hb, h0, h1, h2, hsz, hks, hnx⟩ := hl
        obtain ⟨_, b', off', B', n2, d', rfl, hb', h0', h1', h2', _, hks', hnx'⟩ := hl'
        have hlen := Lies.len _ _ _ _ hks
        have hlen' := Lies.len _ _ _ _ hks'
        obtain rfl : n' = n2 := by omega
        have hcnt : (Fo.cons wd ls ks nx).cnt = 1 + ks.cnt + nx.cnt := rfl
        have e3 : ks.cnt < k := by omega
        have e6 : nx.cnt ≤ f.cnt := by omega
        have hle := Fo.len_le ks
        have e4 : n' ≤ 4000000 := by omega
        have hij : (j : Int) < n := by omega
        have HC := Lib.hid (fun x => IH.out ks A' B' n' c' d' S (wr.drewN x) e3 (hks.drewN x) (hks'.drewN x) e4 (by omega))
        clear hlen hlen' hcnt hle IH hA hB
        go_wp2_with fail
        go_quiet ((go_at_call 17; exact Calls.quiet_of (HC.out _)))
        go_wp2_with fail
        go_roundw
        case rel => exact ⟨nx, j + 1, by go_num, e6, hnx.drewN _, hnx'.drewN _, by obtain ⟨m, e⟩ := HM.out; exact ⟨m + nq, by rw [e, World.drewN_drewN]⟩⟩
        case measure => simp [intOf]; omega
end Go.Proofs.Ytllgindmcjemeaa
