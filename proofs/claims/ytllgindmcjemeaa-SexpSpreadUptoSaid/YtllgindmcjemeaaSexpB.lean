/- Walk: the program's bounded counting of expressions. -/
import Derived.Test.YtllgindmcjemeaaSexpA
namespace Go.Proofs.Ytllgindmcjemeaa
open Go.RowKit

def CountRes (f : Fo) (most r : Int) : Prop := 0 ≤ r ∧ r ≤ f.cnt ∧ ((f.cnt : Int) ≤ most → r = f.cnt) ∧ (most < f.cnt → most < r)
def CountPost (f : Fo) (most : Int) (w : World) (e : Ending) (w' : World) : Prop := ∃ r : Int, e = .returned (.int .i64 r) ∧ CountRes f most r ∧ Below w.heap.size w w'
def CountRel (f f' : Fo) (most a : Int) : Prop := 0 ≤ a ∧ a + f'.cnt ≤ f.cnt ∧ (a ≤ most → (f.cnt : Int) = a + f'.cnt) ∧ (most < a → most < f.cnt)

set_option maxHeartbeats 1000000 in
theorem count_any (k : Nat) : ∀ (f : Fo) (A : Option Addr) (n c : Nat) (most : Int) (w : World), f.cnt < k → LiesB w w.heap.size f A 0 n → f.cnt ≤ 4000000 → n ≤ 4000000 → 0 ≤ most → most ≤ 4000000 →
    Calls Try.prog 34 #[.slice A n c, .int .i64 most] w (CountPost f most w) := by
  induction k with
  | zero => intro f A n c most w hk; omega
  | succ k ih =>
    intro f A n c most w hk hf hm hn hm0 hm1
    have IH := Lib.hid ih
    clear ih
    go_enter Try.func34, Try.ntmps34
    go_wp2_with fail
    go_loopw [5, 10] (fun t i wr => ∃ (f' : Fo) (j : Nat) (a : Int), t = .int .i64 a ∧ Hid (CountRel f f' most a) ∧ i = .int .i64 j ∧ LiesB wr w.heap.size f' A j n ∧ Below w.heap.size w wr) (fun _ i _ => n - (intOf i).toNat)
    case atStart => exact ⟨f, 0, 0, rfl, ⟨by omega, by omega, by omega, by omega⟩, rfl, hf, Below.refl _ _⟩
    case round =>
      obtain ⟨f', j, a, rfl, hc, rfl, hl, hbel⟩ := hrel
      cases f' with
      | nil =>
        obtain rfl : j = n := hl
        go_wp2_with fail
        go_ret
        obtain ⟨g0, g1, g2, g3⟩ := hc.out
        simp only [Fo.cnt] at g1 g2
        exact ⟨a, rfl, ⟨g0, by omega, by omega, by omega⟩, hbel⟩
      | cons wd ls ks nx =>
        obtain ⟨hi, b, off, A', n', c', rfl, hb, h0, h1, h2, hsz, hks, hnx⟩ := hl
        have hlen := Lies.len _ _ _ _ hks
        have hle := Fo.len_le ks
        have hz := hbel.size
        have g0 := hc.out.1
        have g1 := hc.out.2.1
        simp only [Fo.cnt] at g1
        by_cases hmost : most < a + 1
        · go_wp2_with fail
          go_ret
          obtain ⟨_, _, g2, g3⟩ := hc.out
          simp only [Fo.cnt] at g2
          exact ⟨a + 1, rfl, ⟨by omega, by omega, by omega, by omega⟩, hbel.alloc hz _⟩
        · have e3 : ks.cnt < k := by omega
          have e4 : n' ≤ 4000000 := by omega
          have hnew : Below w.heap.size w (wr.alloc (.cells #[.string wd, .bool ls, .slice A' n' c'] 86)) := hbel.alloc hz _
          have hks' : LiesB (wr.alloc (.cells #[.string wd, .bool ls, .slice A' n' c'] 86)) (wr.heap.size + 1) ks A' 0 n' := LiesB.below hks ((Below.refl _ _).alloc hz _) (by omega)
          have hnx' : LiesB (wr.alloc (.cells #[.string wd, .bool ls, .slice A' n' c'] 86)) w.heap.size nx (some ⟨b, off, none⟩) (j + 1) n := LiesB.alloc hnx hz _
          clear hlen hle hks hnx hf
          go_wp2_with fail
          refine (IH.out ks A' n' c' (most - (a + 1)) _ e3 (by simpa using hks') (by omega) e4 (by omega) (by omega)).mono ?_
          rintro e w1 ⟨r, rfl, hr, hb1⟩
          have hr0 := hr.1
          have hr1 := hr.2.1
          have hb2 : Below w.heap.size w w1 := hnew.trans (hb1.mono (by simp; omega))
          have hnx2 : LiesB w1 w.heap.size nx (some ⟨b, off, none⟩) (j + 1) n := hnx'.below (hb1.mono (by simp; omega)) (Nat.le_refl _)
          have HR := Lib.hid hr
          clear hr hb1 hnx' hks' hnew
          go_wp2_with fail
          go_roundw
          case rel =>
            refine ⟨nx, j + 1, a + 1 + r, rfl, ?_, by go_num, hnx2, hb2⟩
            obtain ⟨_, _, r2, r3⟩ := HR.out
            obtain ⟨_, _, g2, g3⟩ := hc.out
            simp only [Fo.cnt] at g2
            exact ⟨by omega, by omega, by omega, by omega⟩
          case measure => simp [intOf]; omega
end Go.Proofs.Ytllgindmcjemeaa
