/- Walks: the letters and words of expressions, and the counting of expressions, in the program and in the reference. -/
import Derived.Test.YtllgindmcjemeaaProg
import Derived.Test.YtllgindmcjemeaaBase
namespace Go.Proofs.Ytllgindmcjemeaa
open Go.RowKit

def letterB (c : Int) : Bool := decide (33 ≤ c ∧ c ≤ 126 ∧ c ≠ 40 ∧ c ≠ 41 ∧ c ≠ 59)

set_option maxHeartbeats 400000 in
theorem byteOfWord_any (c : Int) (w : World) :
    Calls Try.prog 75 #[.int .u8 c] w fun e w' => e = .returned (.bool (letterB c)) ∧ w = w' := by
  go_enter Try.func75, Try.ntmps75
  go_wp2
  all_goals go_ret
  all_goals refine ⟨ret_bool ?_, rfl⟩
  all_goals (rw [Bool.eq_iff_iff]; simp [letterB]; try omega)

set_option maxHeartbeats 400000 in
theorem letter_any (c : Int) (w : World) :
    Calls Try.prog 76 #[.int .u8 c] w fun e w' => e = .returned (.bool (letterB c)) ∧ w = w' := by
  go_enter Try.func76, Try.ntmps76
  go_wp2
  all_goals go_ret
  all_goals refine ⟨ret_bool ?_, rfl⟩
  all_goals (rw [Bool.eq_iff_iff]; simp [letterB]; try omega)

def lettersB (l : List UInt8) : Bool := l.all fun c => letterB (c.toNat : Int)
def wordB (s : ByteArray) : Bool := decide (1 ≤ s.size) && decide (s.size ≤ 24) && lettersB s.data.toList

theorem take_snoc (s : ByteArray) (k : Nat) (h : k < s.size) : s.data.toList.take (k + 1) = s.data.toList.take k ++ [s[k]] := by
  rw [List.take_succ_eq_append_getElem (by simpa using h)]; rfl
theorem letters_snoc (s : ByteArray) (k : Nat) (h : k < s.size) : lettersB (s.data.toList.take (k + 1)) = (lettersB (s.data.toList.take k) && letterB (s[k].toNat : Int)) := by
  rw [take_snoc s k h]; simp [lettersB]
theorem letters_not (s : ByteArray) (k : Nat) (h : k < s.size) (hb : letterB (s[k].toNat : Int) = false) : lettersB s.data.toList = false := by
  have h1 := letters_snoc s k h
  rw [hb, Bool.and_false] at h1
  have h2 : lettersB (s.data.toList.take (k + 1) ++ s.data.toList.drop (k + 1)) = (lettersB (s.data.toList.take (k + 1)) && lettersB (s.data.toList.drop (k + 1))) := List.all_append
  rw [List.take_append_drop, h1, Bool.false_and] at h2
  exact h2

set_option maxHeartbeats 400000 in
theorem isWord_any (s : ByteArray) (w : World) (hs : s.size ≤ maxLen) :
    Calls Try.prog 71 #[.string s] w fun e w' => e = .returned (.bool (wordB s)) ∧ w = w' := by
  unfold maxLen at hs
  go_enter Try.func71, Try.ntmps71
  go_wp2_with fail
  go_loop [6] (fun i => ∃ k : Nat, k ≤ s.size ∧ i = .int .i64 k ∧ Hid (lettersB (s.data.toList.take k) = true)) (fun i => s.size - (intOf i).toNat)
  case atStart => exact ⟨0, Nat.zero_le _, rfl, rfl⟩
  case round =>
    obtain ⟨k, hk, rfl, hall⟩ := hrel
    by_cases hlt : k < s.size
    · cases hb : letterB (s[k].toNat : Int) with
      | true =>
        have HB := Lib.hid hb
        clear hb
        go_wp2_with fail
        refine (byteOfWord_any _ _).mono ?_
        rintro e w' ⟨rfl, rfl⟩
        rw [HB.out]
        go_wp2_with fail
        go_round
        case rel => exact ⟨k + 1, by omega, by go_num, by show _ = true; rw [letters_snoc s k hlt, hall.out, HB.out]; rfl⟩
        case measure => simp [intOf]; omega
      | false =>
        have HB := Lib.hid hb
        clear hb
        go_wp2_with fail
        refine (byteOfWord_any _ _).mono ?_
        rintro e w' ⟨rfl, rfl⟩
        rw [HB.out]
        go_wp2_with fail
        go_ret
        exact ⟨ret_bool (by simp [wordB, letters_not s k hlt HB.out]), rfl⟩
    · have hl : lettersB s.data.toList = true := by
        have := hall.out
        rwa [List.take_of_length_le (by simp; omega)] at this
      have HL := Lib.hid hl
      clear hl hall
      go_wp2_with fail
      all_goals go_ret
      all_goals exact ⟨ret_bool (by rw [Bool.eq_iff_iff]; simp [wordB, HL.out]; try omega), rfl⟩

set_option maxHeartbeats 400000 in
theorem goodWord_any (s : ByteArray) (w : World) (hs : s.size ≤ maxLen) :
    Calls Try.prog 72 #[.string s] w fun e w' => e = .returned (.bool (wordB s)) ∧ w = w' := by
  unfold maxLen at hs
  by_cases h0 : s.size < 1
  · go_enter Try.func72, Try.ntmps72
    go_wp2_with fail
    go_ret
    exact ⟨ret_bool (by simp [wordB]; omega), rfl⟩
  by_cases h1 : 24 < s.size
  · go_enter Try.func72, Try.ntmps72
    go_wp2_with fail
    go_ret
    exact ⟨ret_bool (by simp [wordB]; omega), rfl⟩
  go_enter Try.func72, Try.ntmps72
  go_wp2_with fail
  go_loop [3] (fun i => ∃ k : Nat, k ≤ s.size ∧ i = .int .i64 k ∧ Hid (lettersB (s.data.toList.take k) = true)) (fun i => s.size - (intOf i).toNat)
  case atStart => exact ⟨0, Nat.zero_le _, rfl, rfl⟩
  case round =>
    obtain ⟨k, hk, rfl, hall⟩ := hrel
    by_cases hlt : k < s.size
    · cases hb : letterB (s[k].toNat : Int) with
      | true =>
        have HB := Lib.hid hb
        clear hb
        go_wp2_with fail
        refine (letter_any _ _).mono ?_
        rintro e w' ⟨rfl, rfl⟩
        rw [HB.out]
        go_wp2_with fail
        go_round
        case rel => exact ⟨k + 1, by omega, by go_num, by show _ = true; rw [letters_snoc s k hlt, hall.out, HB.out]; rfl⟩
        case measure => simp [intOf]; omega
      | false =>
        have HB := Lib.hid hb
        clear hb
        go_wp2_with fail
        refine (letter_any _ _).mono ?_
        rintro e w' ⟨rfl, rfl⟩
        rw [HB.out]
        go_wp2_with fail
        go_ret
        exact ⟨ret_bool (by simp [wordB, letters_not s k hlt HB.out]), rfl⟩
    · have hl : lettersB s.data.toList = true := by
        have := hall.out
        rwa [List.take_of_length_le (by simp; omega)] at this
      have HL := Lib.hid hl
      clear hl hall
      go_wp2_with fail
      go_ret
      exact ⟨ret_bool (by rw [Bool.eq_iff_iff]; simp [wordB, HL.out]; omega), rfl⟩

set_option maxHeartbeats 400000 in
theorem sexpCount_any (k : Nat) : ∀ (f : Fo) (A : Option Addr) (n c : Nat) (w : World), f.cnt < k → LiesB w w.heap.size f A 0 n → f.cnt ≤ 4000000 → n ≤ 4000000 →
    Calls Try.prog 36 #[.slice A n c] w fun e w' => e = .returned (.int .i64 f.cnt) ∧ w = w' := by
  induction k with
  | zero => intro f A n c w hk; omega
  | succ k ih =>
    intro f A n c w hk hf hm hn
    have IH := Lib.hid ih
    clear ih
    go_enter Try.func36, Try.ntmps36
    go_wp2_with fail
    go_loop [3, 4] (fun t i => ∃ (f' : Fo) (j a : Nat), t = .int .i64 a ∧ a ≤ 4000000 ∧ Hid (f.cnt = a + f'.cnt) ∧ i = .int .i64 j ∧ LiesB w w.heap.size f' A j n) (fun _ i => n - (intOf i).toNat)
    case atStart => exact ⟨f, 0, 0, rfl, by omega, by show _ = _; omega, rfl, hf⟩
    case round =>
      obtain ⟨f', j, a, rfl, ha, hc, rfl, hl⟩ := hrel
      cases f' with
      | nil =>
        obtain rfl : j = n := hl
        go_wp2_with fail
        go_ret
        exact ⟨ret_int (by have := hc.out; simp [Fo.cnt] at this; omega), rfl⟩
      | cons wd ls ks nx =>
        obtain ⟨hi, b, off, A', n', c', rfl, hb, h0, h1, h2, hsz, hks, hnx⟩ := hl
        have hc' := hc.out
        simp only [Fo.cnt] at hc'
        have hlen := Lies.len _ _ _ _ hks
        have hle := Fo.len_le ks
        have e1 : a + (1 + ks.cnt) ≤ 4000000 := by omega
        have e2 : Hid (f.cnt = a + (1 + ks.cnt) + nx.cnt) := by show _ = _; omega
        have e3 : ks.cnt < k := by omega
        have e4 : n' ≤ 4000000 := by omega
        clear hc' hlen hle hc
        go_wp2_with fail
        refine (IH.out ks A' n' c' w e3 hks (by omega) e4).mono ?_
        rintro e w' ⟨rfl, rfl⟩
        go_wp2_with fail
        go_round
        case rel => exact ⟨nx, j + 1, a + (1 + ks.cnt), by go_num, e1, e2, by go_num, hnx⟩
        case measure => simp [intOf]; omega
end Go.Proofs.Ytllgindmcjemeaa
