/- Walks: names: the program's test and the reference's. -/
import Derived.Test.YtggkfepifnfdoaaProg
import Derived.Test.YtggkfepifnfdoaaBase
import Derived.Deep.LoopGhost
namespace Go.Proofs.Ytggkfepifnfdoaa
open Go.RowKit

def letB (c : Int) : Bool := decide (c = 95 ∨ (97 ≤ c ∧ c ≤ 122) ∨ (65 ≤ c ∧ c ≤ 90))
def digB (c : Int) : Bool := decide (48 ≤ c ∧ c ≤ 57)
/-- may the byte c stand at place i of a name? -/
def okAt (c : Int) (i : Nat) : Bool := letB c || (digB c && decide (0 < i))
def okFrom : List UInt8 → Nat → Bool
  | [], _ => true
  | c :: r, i => okAt (c.toNat : Int) i && okFrom r (i + 1)
def nameB (s : ByteArray) : Bool := okFrom s.data.toList 0 && decide (1 ≤ s.size ∧ s.size ≤ 12)

theorem data_drop {s : ByteArray} {k : Nat} (h : k < s.size) : s.data.toList.drop k = s[k] :: s.data.toList.drop (k + 1) := List.drop_eq_getElem_cons (by simpa using h)
theorem data_end {s : ByteArray} {k : Nat} (h : s.size ≤ k) : s.data.toList.drop k = [] := List.drop_of_length_le (by simpa using h)

/-- the nine kinds of bytes -/
theorem byte_kinds (c : Int) (h0 : 0 ≤ c) (h1 : c ≤ 255) : (c ≤ 47 ∧ letB c = false ∧ digB c = false) ∨ ((48 ≤ c ∧ c ≤ 57) ∧ letB c = false ∧ digB c = true) ∨ ((58 ≤ c ∧ c ≤ 64) ∧ letB c = false ∧ digB c = false) ∨
    ((65 ≤ c ∧ c ≤ 90) ∧ letB c = true) ∨ ((91 ≤ c ∧ c ≤ 94) ∧ letB c = false ∧ digB c = false) ∨ (c = 95 ∧ letB c = true) ∨ (c = 96 ∧ letB c = false ∧ digB c = false) ∨ ((97 ≤ c ∧ c ≤ 122) ∧ letB c = true) ∨ (123 ≤ c ∧ letB c = false ∧ digB c = false) := by
  simp only [letB, digB, decide_eq_true_eq, decide_eq_false_iff_not]
  omega
theorem ok_let {c : Int} {i : Nat} (h : letB c = true) : okAt c i = true := by simp [okAt, h]
theorem ok_dig {c : Int} {i : Nat} (h : letB c = false) (h2 : digB c = true) : okAt c i = decide (0 < i) := by simp [okAt, h, h2]
theorem ok_no {c : Int} {i : Nat} (h : letB c = false) (h2 : digB c = false) : okAt c i = false := by simp [okAt, h, h2]

set_option maxHeartbeats 2000000 in
theorem isName_any (s : ByteArray) (w : World) (hs : s.size ≤ 9223372036854775807) : Calls Try.prog 52 #[.string s] w fun e w' => e = .returned (.bool (nameB s)) ∧ w = w' := by
  go_enter Try.func52, Try.ntmps52
  go_wp2_with fail
  go_loop [8] (fun i => ∃ k : Nat, k ≤ s.size ∧ i = .int .i64 k ∧ Hid (okFrom (s.data.toList.drop k) k = okFrom s.data.toList 0)) (fun i => s.size - (intOf i).toNat)
  case atStart => exact ⟨0, Nat.zero_le _, rfl, rfl⟩
  case round =>
    obtain ⟨k, hk, rfl, HK⟩ := hrel
    by_cases hlt : k < s.size
    · have e1 := HK.out
      rw [data_drop hlt, okFrom] at e1
      have hb : s[k].toNat < 256 := s[k].toNat_lt
      rcases byte_kinds (s[k].toNat : Int) (by omega) (by omega) with ⟨k1, k2, k3⟩ | ⟨k1, k2, k3⟩ | ⟨k1, k2, k3⟩ | ⟨k1, k2⟩ | ⟨k1, k2, k3⟩ | ⟨k1, k2⟩ | ⟨k1, k2, k3⟩ | ⟨k1, k2⟩ | ⟨k1, k2, k3⟩
      · have q95 : ((s[k].toNat : Int) == 95) = false := by rw [beq_eq_false_iff_ne]; omega
        have dd0 : decide (97 ≤ (s[k].toNat : Int)) = false := decide_eq_false (by omega)
        have dd1 : decide ((s[k].toNat : Int) ≤ 122) = true := decide_eq_true (by omega)
        have dd2 : decide (65 ≤ (s[k].toNat : Int)) = false := decide_eq_false (by omega)
        have dd3 : decide ((s[k].toNat : Int) ≤ 90) = true := decide_eq_true (by omega)
        have dd4 : decide ((s[k].toNat : Int) < 48) = true := decide_eq_true (by omega)
        have dd5 : decide (57 < (s[k].toNat : Int)) = false := decide_eq_false (by omega)
        rw [ok_no k2 k3, Bool.false_and] at e1
        have HB : Hid (nameB s = false) := by show _ = _; rw [nameB, ← e1, Bool.false_and]
        clear e1 k2 k3 HK
        rcases Nat.eq_zero_or_pos k with hk0 | hk0
        · subst hk0
          go_wp2_with fail
          go_ret
          exact ⟨ret_bool (by rw [HB.out]), rfl⟩
        · have hkn : ((k : Int) == 0) = false := by rw [beq_eq_false_iff_ne]; omega
          go_wp2_with fail
          go_ret
          exact ⟨ret_bool (by rw [HB.out]), rfl⟩
      · have q95 : ((s[k].toNat : Int) == 95) = false := by rw [beq_eq_false_iff_ne]; omega
        obtain ⟨k1a, k1b⟩ := k1
        have dd0 : decide (97 ≤ (s[k].toNat : Int)) = false := decide_eq_false (by omega)
        have dd1 : decide ((s[k].toNat : Int) ≤ 122) = true := decide_eq_true (by omega)
        have dd2 : decide (65 ≤ (s[k].toNat : Int)) = false := decide_eq_false (by omega)
        have dd3 : decide ((s[k].toNat : Int) ≤ 90) = true := decide_eq_true (by omega)
        have dd4 : decide ((s[k].toNat : Int) < 48) = false := decide_eq_false (by omega)
        have dd5 : decide (57 < (s[k].toNat : Int)) = false := decide_eq_false (by omega)
        rw [ok_dig k2 k3] at e1
        rcases Nat.eq_zero_or_pos k with hk0 | hk0
        · subst hk0
          rw [decide_eq_false (by omega), Bool.false_and] at e1
          have HB : Hid (nameB s = false) := by show _ = _; rw [nameB, ← e1, Bool.false_and]
          clear e1 k2 k3 HK
          go_wp2_with fail
          go_ret
          exact ⟨ret_bool (by rw [HB.out]), rfl⟩
        · rw [decide_eq_true hk0, Bool.true_and] at e1
          have HG := Lib.hid e1
          have hkn : ((k : Int) == 0) = false := by rw [beq_eq_false_iff_ne]; omega
          clear e1 k2 k3 HK
          go_wp2_with fail
          go_round
          case rel => exact ⟨k + 1, by omega, by go_num, HG⟩
          case measure => simp [intOf]; omega
      · have q95 : ((s[k].toNat : Int) == 95) = false := by rw [beq_eq_false_iff_ne]; omega
        obtain ⟨k1a, k1b⟩ := k1
        have dd0 : decide (97 ≤ (s[k].toNat : Int)) = false := decide_eq_false (by omega)
        have dd1 : decide ((s[k].toNat : Int) ≤ 122) = true := decide_eq_true (by omega)
        have dd2 : decide (65 ≤ (s[k].toNat : Int)) = false := decide_eq_false (by omega)
        have dd3 : decide ((s[k].toNat : Int) ≤ 90) = true := decide_eq_true (by omega)
        have dd4 : decide ((s[k].toNat : Int) < 48) = false := decide_eq_false (by omega)
        have dd5 : decide (57 < (s[k].toNat : Int)) = true := decide_eq_true (by omega)
        rw [ok_no k2 k3, Bool.false_and] at e1
        have HB : Hid (nameB s = false) := by show _ = _; rw [nameB, ← e1, Bool.false_and]
        clear e1 k2 k3 HK
        rcases Nat.eq_zero_or_pos k with hk0 | hk0
        · subst hk0
          go_wp2_with fail
          go_ret
          exact ⟨ret_bool (by rw [HB.out]), rfl⟩
        · have hkn : ((k : Int) == 0) = false := by rw [beq_eq_false_iff_ne]; omega
          go_wp2_with fail
          go_ret
          exact ⟨ret_bool (by rw [HB.out]), rfl⟩
      · have q95 : ((s[k].toNat : Int) == 95) = false := by rw [beq_eq_false_iff_ne]; omega
        obtain ⟨k1a, k1b⟩ := k1
        have dd0 : decide (97 ≤ (s[k].toNat : Int)) = false := decide_eq_false (by omega)
        have dd1 : decide ((s[k].toNat : Int) ≤ 122) = true := decide_eq_true (by omega)
        have dd2 : decide (65 ≤ (s[k].toNat : Int)) = true := decide_eq_true (by omega)
        have dd3 : decide ((s[k].toNat : Int) ≤ 90) = true := decide_eq_true (by omega)
        have dd4 : decide ((s[k].toNat : Int) < 48) = false := decide_eq_false (by omega)
        have dd5 : decide (57 < (s[k].toNat : Int)) = true := decide_eq_true (by omega)
        rw [ok_let k2, Bool.true_and] at e1
        have HG := Lib.hid e1
        clear e1 k2 HK
        go_wp2_with fail
        go_round
        case rel => exact ⟨k + 1, by omega, by go_num, HG⟩
        case measure => simp [intOf]; omega
      · have q95 : ((s[k].toNat : Int) == 95) = false := by rw [beq_eq_false_iff_ne]; omega
        obtain ⟨k1a, k1b⟩ := k1
        have dd0 : decide (97 ≤ (s[k].toNat : Int)) = false := decide_eq_false (by omega)
        have dd1 : decide ((s[k].toNat : Int) ≤ 122) = true := decide_eq_true (by omega)
        have dd2 : decide (65 ≤ (s[k].toNat : Int)) = true := decide_eq_true (by omega)
        have dd3 : decide ((s[k].toNat : Int) ≤ 90) = false := decide_eq_false (by omega)
        have dd4 : decide ((s[k].toNat : Int) < 48) = false := decide_eq_false (by omega)
        have dd5 : decide (57 < (s[k].toNat : Int)) = true := decide_eq_true (by omega)
        rw [ok_no k2 k3, Bool.false_and] at e1
        have HB : Hid (nameB s = false) := by show _ = _; rw [nameB, ← e1, Bool.false_and]
        clear e1 k2 k3 HK
        rcases Nat.eq_zero_or_pos k with hk0 | hk0
        · subst hk0
          go_wp2_with fail
          go_ret
          exact ⟨ret_bool (by rw [HB.out]), rfl⟩
        · have hkn : ((k : Int) == 0) = false := by rw [beq_eq_false_iff_ne]; omega
          go_wp2_with fail
          go_ret
          exact ⟨ret_bool (by rw [HB.out]), rfl⟩
      · have q95 : ((s[k].toNat : Int) == 95) = true := by rw [beq_iff_eq]; omega
        have k1a : 95 ≤ (s[k].toNat : Int) := by omega
        have k1b : (s[k].toNat : Int) ≤ 95 := by omega
        clear k1
        have dd0 : decide (97 ≤ (s[k].toNat : Int)) = false := decide_eq_false (by omega)
        have dd1 : decide ((s[k].toNat : Int) ≤ 122) = true := decide_eq_true (by omega)
        have dd2 : decide (65 ≤ (s[k].toNat : Int)) = true := decide_eq_true (by omega)
        have dd3 : decide ((s[k].toNat : Int) ≤ 90) = false := decide_eq_false (by omega)
        have dd4 : decide ((s[k].toNat : Int) < 48) = false := decide_eq_false (by omega)
        have dd5 : decide (57 < (s[k].toNat : Int)) = true := decide_eq_true (by omega)
        rw [ok_let k2, Bool.true_and] at e1
        have HG := Lib.hid e1
        clear e1 k2 HK
        go_wp2_with fail
        go_round
        case rel => exact ⟨k + 1, by omega, by go_num, HG⟩
        case measure => simp [intOf]; omega
      · have q95 : ((s[k].toNat : Int) == 95) = false := by rw [beq_eq_false_iff_ne]; omega
        have k1a : 96 ≤ (s[k].toNat : Int) := by omega
        have k1b : (s[k].toNat : Int) ≤ 96 := by omega
        clear k1
        have dd0 : decide (97 ≤ (s[k].toNat : Int)) = false := decide_eq_false (by omega)
        have dd1 : decide ((s[k].toNat : Int) ≤ 122) = true := decide_eq_true (by omega)
        have dd2 : decide (65 ≤ (s[k].toNat : Int)) = true := decide_eq_true (by omega)
        have dd3 : decide ((s[k].toNat : Int) ≤ 90) = false := decide_eq_false (by omega)
        have dd4 : decide ((s[k].toNat : Int) < 48) = false := decide_eq_false (by omega)
        have dd5 : decide (57 < (s[k].toNat : Int)) = true := decide_eq_true (by omega)
        rw [ok_no k2 k3, Bool.false_and] at e1
        have HB : Hid (nameB s = false) := by show _ = _; rw [nameB, ← e1, Bool.false_and]
        clear e1 k2 k3 HK
        rcases Nat.eq_zero_or_pos k with hk0 | hk0
        · subst hk0
          go_wp2_with fail
          go_ret
          exact ⟨ret_bool (by rw [HB.out]), rfl⟩
        · have hkn : ((k : Int) == 0) = false := by rw [beq_eq_false_iff_ne]; omega
          go_wp2_with fail
          go_ret
          exact ⟨ret_bool (by rw [HB.out]), rfl⟩
      · have q95 : ((s[k].toNat : Int) == 95) = false := by rw [beq_eq_false_iff_ne]; omega
        obtain ⟨k1a, k1b⟩ := k1
        have dd0 : decide (97 ≤ (s[k].toNat : Int)) = true := decide_eq_true (by omega)
        have dd1 : decide ((s[k].toNat : Int) ≤ 122) = true := decide_eq_true (by omega)
        have dd2 : decide (65 ≤ (s[k].toNat : Int)) = true := decide_eq_true (by omega)
        have dd3 : decide ((s[k].toNat : Int) ≤ 90) = false := decide_eq_false (by omega)
        have dd4 : decide ((s[k].toNat : Int) < 48) = false := decide_eq_false (by omega)
        have dd5 : decide (57 < (s[k].toNat : Int)) = true := decide_eq_true (by omega)
        rw [ok_let k2, Bool.true_and] at e1
        have HG := Lib.hid e1
        clear e1 k2 HK
        go_wp2_with fail
        go_round
        case rel => exact ⟨k + 1, by omega, by go_num, HG⟩
        case measure => simp [intOf]; omega
      · have q95 : ((s[k].toNat : Int) == 95) = false := by rw [beq_eq_false_iff_ne]; omega
        have dd0 : decide (97 ≤ (s[k].toNat : Int)) = true := decide_eq_true (by omega)
        have dd1 : decide ((s[k].toNat : Int) ≤ 122) = false := decide_eq_false (by omega)
        have dd2 : decide (65 ≤ (s[k].toNat : Int)) = true := decide_eq_true (by omega)
        have dd3 : decide ((s[k].toNat : Int) ≤ 90) = false := decide_eq_false (by omega)
        have dd4 : decide ((s[k].toNat : Int) < 48) = false := decide_eq_false (by omega)
        have dd5 : decide (57 < (s[k].toNat : Int)) = true := decide_eq_true (by omega)
        rw [ok_no k2 k3, Bool.false_and] at e1
        have HB : Hid (nameB s = false) := by show _ = _; rw [nameB, ← e1, Bool.false_and]
        clear e1 k2 k3 HK
        rcases Nat.eq_zero_or_pos k with hk0 | hk0
        · subst hk0
          go_wp2_with fail
          go_ret
          exact ⟨ret_bool (by rw [HB.out]), rfl⟩
        · have hkn : ((k : Int) == 0) = false := by rw [beq_eq_false_iff_ne]; omega
          go_wp2_with fail
          go_ret
          exact ⟨ret_bool (by rw [HB.out]), rfl⟩
    · obtain rfl : k = s.size := by omega
      have e1 := HK.out
      rw [data_end (Nat.le_refl _), okFrom] at e1
      have HE : Hid (nameB s = decide (1 ≤ s.size ∧ s.size ≤ 12)) := by show _ = _; rw [nameB, ← e1, Bool.true_and]
      clear e1 HK
      go_wp2_with fail
      all_goals
        go_ret
        refine ⟨ret_bool ?_, rfl⟩
        rw [HE.out]
        first | rfl | (rw [Bool.eq_iff_iff]; simp; omega)
set_option maxHeartbeats 2000000 in
theorem goodName_any (s : ByteArray) (w : World) (hs : s.size ≤ 9223372036854775807) : Calls Try.prog 63 #[.string s] w fun e w' => e = .returned (.bool (nameB s)) ∧ w = w' := by
  by_cases hsz : ¬ (1 ≤ s.size ∧ s.size ≤ 12)
  · have HB : Hid (nameB s = false) := by show _ = _; rw [nameB, decide_eq_false hsz, Bool.and_false]
    go_enter Try.func63, Try.ntmps63
    have hc : (s.size : Int) < 1 ∨ (12 < (s.size : Int) ∧ ¬ (s.size : Int) < 1) := by omega
    rcases hc with hc | ⟨hc, hc2⟩
    all_goals
      go_wp2_with fail
      go_ret
      exact ⟨ret_bool (by rw [HB.out]), rfl⟩
  have hsz1 : 1 ≤ s.size ∧ s.size ≤ 12 := Decidable.not_not.1 hsz
  obtain ⟨hsa, hsb⟩ := hsz1
  clear hsz
  go_enter Try.func63, Try.ntmps63
  go_wp2_with fail
  go_loop [3] (fun i => ∃ k : Nat, k ≤ s.size ∧ i = .int .i64 k ∧ Hid (okFrom (s.data.toList.drop k) k = okFrom s.data.toList 0)) (fun i => s.size - (intOf i).toNat)
  case atStart => exact ⟨0, Nat.zero_le _, rfl, rfl⟩
  case round =>
    obtain ⟨k, hk, rfl, HK⟩ := hrel
    by_cases hlt : k < s.size
    · have e1 := HK.out
      rw [data_drop hlt, okFrom] at e1
      have hb : s[k].toNat < 256 := s[k].toNat_lt
      rcases byte_kinds (s[k].toNat : Int) (by omega) (by omega) with ⟨k1, k2, k3⟩ | ⟨k1, k2, k3⟩ | ⟨k1, k2, k3⟩ | ⟨k1, k2⟩ | ⟨k1, k2, k3⟩ | ⟨k1, k2⟩ | ⟨k1, k2, k3⟩ | ⟨k1, k2⟩ | ⟨k1, k2, k3⟩
      · have q95 : ((s[k].toNat : Int) == 95) = false := by rw [beq_eq_false_iff_ne]; omega
        have dd0 : decide (97 ≤ (s[k].toNat : Int)) = false := decide_eq_false (by omega)
        have dd1 : decide ((s[k].toNat : Int) ≤ 122) = true := decide_eq_true (by omega)
        have dd2 : decide (65 ≤ (s[k].toNat : Int)) = false := decide_eq_false (by omega)
        have dd3 : decide ((s[k].toNat : Int) ≤ 90) = true := decide_eq_true (by omega)
        have dd4 : decide ((s[k].toNat : Int) < 48) = true := decide_eq_true (by omega)
        have dd5 : decide (57 < (s[k].toNat : Int)) = false := decide_eq_false (by omega)
        rw [ok_no k2 k3, Bool.false_and] at e1
        have HB : Hid (nameB s = false) := by show _ = _; rw [nameB, ← e1, Bool.false_and]
        clear e1 k2 k3 HK
        rcases Nat.eq_zero_or_pos k with hk0 | hk0
        · subst hk0
          go_wp2_with fail
          go_ret
          exact ⟨ret_bool (by rw [HB.out]), rfl⟩
        · have hkn : ((k : Int) == 0) = false := by rw [beq_eq_false_iff_ne]; omega
          go_wp2_with fail
          go_ret
          exact ⟨ret_bool (by rw [HB.out]), rfl⟩
      · have q95 : ((s[k].toNat : Int) == 95) = false := by rw [beq_eq_false_iff_ne]; omega
        obtain ⟨k1a, k1b⟩ := k1
        have dd0 : decide (97 ≤ (s[k].toNat : Int)) = false := decide_eq_false (by omega)
        have dd1 : decide ((s[k].toNat : Int) ≤ 122) = true := decide_eq_true (by omega)
        have dd2 : decide (65 ≤ (s[k].toNat : Int)) = false := decide_eq_false (by omega)
        have dd3 : decide ((s[k].toNat : Int) ≤ 90) = true := decide_eq_true (by omega)
        have dd4 : decide ((s[k].toNat : Int) < 48) = false := decide_eq_false (by omega)
        have dd5 : decide (57 < (s[k].toNat : Int)) = false := decide_eq_false (by omega)
        rw [ok_dig k2 k3] at e1
        rcases Nat.eq_zero_or_pos k with hk0 | hk0
        · subst hk0
          rw [decide_eq_false (by omega), Bool.false_and] at e1
          have HB : Hid (nameB s = false) := by show _ = _; rw [nameB, ← e1, Bool.false_and]
          clear e1 k2 k3 HK
          go_wp2_with fail
          go_ret
          exact ⟨ret_bool (by rw [HB.out]), rfl⟩
        · rw [decide_eq_true hk0, Bool.true_and] at e1
          have HG := Lib.hid e1
          have hkn : ((k : Int) == 0) = false := by rw [beq_eq_false_iff_ne]; omega
          clear e1 k2 k3 HK
          go_wp2_with fail
          go_round
          case rel => exact ⟨k + 1, by omega, by go_num, HG⟩
          case measure => simp [intOf]; omega
      · have q95 : ((s[k].toNat : Int) == 95) = false := by rw [beq_eq_false_iff_ne]; omega
        obtain ⟨k1a, k1b⟩ := k1
        have dd0 : decide (97 ≤ (s[k].toNat : Int)) = false := decide_eq_false (by omega)
        have dd1 : decide ((s[k].toNat : Int) ≤ 122) = true := decide_eq_true (by omega)
        have dd2 : decide (65 ≤ (s[k].toNat : Int)) = false := decide_eq_false (by omega)
        have dd3 : decide ((s[k].toNat : Int) ≤ 90) = true := decide_eq_true (by omega)
        have dd4 : decide ((s[k].toNat : Int) < 48) = false := decide_eq_false (by omega)
        have dd5 : decide (57 < (s[k].toNat : Int)) = true := decide_eq_true (by omega)
        rw [ok_no k2 k3, Bool.false_and] at e1
        have HB : Hid (nameB s = false) := by show _ = _; rw [nameB, ← e1, Bool.false_and]
        clear e1 k2 k3 HK
        rcases Nat.eq_zero_or_pos k with hk0 | hk0
        · subst hk0
          go_wp2_with fail
          go_ret
          exact ⟨ret_bool (by rw [HB.out]), rfl⟩
        · have hkn : ((k : Int) == 0) = false := by rw [beq_eq_false_iff_ne]; omega
          go_wp2_with fail
          go_ret
          exact ⟨ret_bool (by rw [HB.out]), rfl⟩
      · have q95 : ((s[k].toNat : Int) == 95) = false := by rw [beq_eq_false_iff_ne]; omega
        obtain ⟨k1a, k1b⟩ := k1
        have dd0 : decide (97 ≤ (s[k].toNat : Int)) = false := decide_eq_false (by omega)
        have dd1 : decide ((s[k].toNat : Int) ≤ 122) = true := decide_eq_true (by omega)
        have dd2 : decide (65 ≤ (s[k].toNat : Int)) = true := decide_eq_true (by omega)
        have dd3 : decide ((s[k].toNat : Int) ≤ 90) = true := decide_eq_true (by omega)
        have dd4 : decide ((s[k].toNat : Int) < 48) = false := decide_eq_false (by omega)
        have dd5 : decide (57 < (s[k].toNat : Int)) = true := decide_eq_true (by omega)
        rw [ok_let k2, Bool.true_and] at e1
        have HG := Lib.hid e1
        clear e1 k2 HK
        go_wp2_with fail
        go_round
        case rel => exact ⟨k + 1, by omega, by go_num, HG⟩
        case measure => simp [intOf]; omega
      · have q95 : ((s[k].toNat : Int) == 95) = false := by rw [beq_eq_false_iff_ne]; omega
        obtain ⟨k1a, k1b⟩ := k1
        have dd0 : decide (97 ≤ (s[k].toNat : Int)) = false := decide_eq_false (by omega)
        have dd1 : decide ((s[k].toNat : Int) ≤ 122) = true := decide_eq_true (by omega)
        have dd2 : decide (65 ≤ (s[k].toNat : Int)) = true := decide_eq_true (by omega)
        have dd3 : decide ((s[k].toNat : Int) ≤ 90) = false := decide_eq_false (by omega)
        have dd4 : decide ((s[k].toNat : Int) < 48) = false := decide_eq_false (by omega)
        have dd5 : decide (57 < (s[k].toNat : Int)) = true := decide_eq_true (by omega)
        rw [ok_no k2 k3, Bool.false_and] at e1
        have HB : Hid (nameB s = false) := by show _ = _; rw [nameB, ← e1, Bool.false_and]
        clear e1 k2 k3 HK
        rcases Nat.eq_zero_or_pos k with hk0 | hk0
        · subst hk0
          go_wp2_with fail
          go_ret
          exact ⟨ret_bool (by rw [HB.out]), rfl⟩
        · have hkn : ((k : Int) == 0) = false := by rw [beq_eq_false_iff_ne]; omega
          go_wp2_with fail
          go_ret
          exact ⟨ret_bool (by rw [HB.out]), rfl⟩
      · have q95 : ((s[k].toNat : Int) == 95) = true := by rw [beq_iff_eq]; omega
        have k1a : 95 ≤ (s[k].toNat : Int) := by omega
        have k1b : (s[k].toNat : Int) ≤ 95 := by omega
        clear k1
        have dd0 : decide (97 ≤ (s[k].toNat : Int)) = false := decide_eq_false (by omega)
        have dd1 : decide ((s[k].toNat : Int) ≤ 122) = true := decide_eq_true (by omega)
        have dd2 : decide (65 ≤ (s[k].toNat : Int)) = true := decide_eq_true (by omega)
        have dd3 : decide ((s[k].toNat : Int) ≤ 90) = false := decide_eq_false (by omega)
        have dd4 : decide ((s[k].toNat : Int) < 48) = false := decide_eq_false (by omega)
        have dd5 : decide (57 < (s[k].toNat : Int)) = true := decide_eq_true (by omega)
        rw [ok_let k2, Bool.true_and] at e1
        have HG := Lib.hid e1
        clear e1 k2 HK
        go_wp2_with fail
        go_round
        case rel => exact ⟨k + 1, by omega, by go_num, HG⟩
        case measure => simp [intOf]; omega
      · have q95 : ((s[k].toNat : Int) == 95) = false := by rw [beq_eq_false_iff_ne]; omega
        have k1a : 96 ≤ (s[k].toNat : Int) := by omega
        have k1b : (s[k].toNat : Int) ≤ 96 := by omega
        clear k1
        have dd0 : decide (97 ≤ (s[k].toNat : Int)) = false := decide_eq_false (by omega)
        have dd1 : decide ((s[k].toNat : Int) ≤ 122) = true := decide_eq_true (by omega)
        have dd2 : decide (65 ≤ (s[k].toNat : Int)) = true := decide_eq_true (by omega)
        have dd3 : decide ((s[k].toNat : Int) ≤ 90) = false := decide_eq_false (by omega)
        have dd4 : decide ((s[k].toNat : Int) < 48) = false := decide_eq_false (by omega)
        have dd5 : decide (57 < (s[k].toNat : Int)) = true := decide_eq_true (by omega)
        rw [ok_no k2 k3, Bool.false_and] at e1
        have HB : Hid (nameB s = false) := by show _ = _; rw [nameB, ← e1, Bool.false_and]
        clear e1 k2 k3 HK
        rcases Nat.eq_zero_or_pos k with hk0 | hk0
        · subst hk0
          go_wp2_with fail
          go_ret
          exact ⟨ret_bool (by rw [HB.out]), rfl⟩
        · have hkn : ((k : Int) == 0) = false := by rw [beq_eq_false_iff_ne]; omega
          go_wp2_with fail
          go_ret
          exact ⟨ret_bool (by rw [HB.out]), rfl⟩
      · have q95 : ((s[k].toNat : Int) == 95) = false := by rw [beq_eq_false_iff_ne]; omega
        obtain ⟨k1a, k1b⟩ := k1
        have dd0 : decide (97 ≤ (s[k].toNat : Int)) = true := decide_eq_true (by omega)
        have dd1 : decide ((s[k].toNat : Int) ≤ 122) = true := decide_eq_true (by omega)
        have dd2 : decide (65 ≤ (s[k].toNat : Int)) = true := decide_eq_true (by omega)
        have dd3 : decide ((s[k].toNat : Int) ≤ 90) = false := decide_eq_false (by omega)
        have dd4 : decide ((s[k].toNat : Int) < 48) = false := decide_eq_false (by omega)
        have dd5 : decide (57 < (s[k].toNat : Int)) = true := decide_eq_true (by omega)
        rw [ok_let k2, Bool.true_and] at e1
        have HG := Lib.hid e1
        clear e1 k2 HK
        go_wp2_with fail
        go_round
        case rel => exact ⟨k + 1, by omega, by go_num, HG⟩
        case measure => simp [intOf]; omega
      · have q95 : ((s[k].toNat : Int) == 95) = false := by rw [beq_eq_false_iff_ne]; omega
        have dd0 : decide (97 ≤ (s[k].toNat : Int)) = true := decide_eq_true (by omega)
        have dd1 : decide ((s[k].toNat : Int) ≤ 122) = false := decide_eq_false (by omega)
        have dd2 : decide (65 ≤ (s[k].toNat : Int)) = true := decide_eq_true (by omega)
        have dd3 : decide ((s[k].toNat : Int) ≤ 90) = false := decide_eq_false (by omega)
        have dd4 : decide ((s[k].toNat : Int) < 48) = false := decide_eq_false (by omega)
        have dd5 : decide (57 < (s[k].toNat : Int)) = true := decide_eq_true (by omega)
        rw [ok_no k2 k3, Bool.false_and] at e1
        have HB : Hid (nameB s = false) := by show _ = _; rw [nameB, ← e1, Bool.false_and]
        clear e1 k2 k3 HK
        rcases Nat.eq_zero_or_pos k with hk0 | hk0
        · subst hk0
          go_wp2_with fail
          go_ret
          exact ⟨ret_bool (by rw [HB.out]), rfl⟩
        · have hkn : ((k : Int) == 0) = false := by rw [beq_eq_false_iff_ne]; omega
          go_wp2_with fail
          go_ret
          exact ⟨ret_bool (by rw [HB.out]), rfl⟩
    · obtain rfl : k = s.size := by omega
      have e1 := HK.out
      rw [data_end (Nat.le_refl _), okFrom] at e1
      have HE : Hid (nameB s = true) := by show _ = _; rw [nameB, ← e1, Bool.true_and, decide_eq_true ⟨hsa, hsb⟩]
      clear e1 HK
      go_wp2_with fail
      go_ret
      exact ⟨ret_bool (by rw [HE.out]), rfl⟩
end Go.Proofs.Ytggkfepifnfdoaa
