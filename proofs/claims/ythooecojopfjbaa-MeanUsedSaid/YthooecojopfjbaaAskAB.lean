/- Walks: names: the program's test and the reference's. · Walks: sorts; declarations in memory; which declaration has a name: the program and the reference. -/
import Derived.Test.YthooecojopfjbaaProg
import Derived.Test.YthooecojopfjbaaCore
import Derived.Deep.LoopGhost
import Derived.Test.YthooecojopfjbaaFuncs
namespace Go.Proofs.Ythooecojopfjbaa
open Go.RowKit

def letB (c : Int) : Bool := decide (c = 95 ∨ (97 ≤ c ∧ c ≤ 122) ∨ (65 ≤ c ∧ c ≤ 90))
def digB (c : Int) : Bool := decide (48 ≤ c ∧ c ≤ 57)
/-- may the byte c stand at place i of a name? -/
def okAt (c : Int) (i : Nat) : Bool := letB c || (digB c && decide (0 < i))
def okFrom : List UInt8 → Nat → Bool
  | [], _ => true
  | c :: r, i => okAt (c.toNat : Int) i && okFrom r (i + 1)
def nameB (s : ByteArray) : Bool := okFrom s.data.toList 0 && decide (1 ≤ s.size ∧ s.size ≤ 12)

theorem data_drop {s : ByteArray} {k : Nat} (h : k < s.size) : s.data.toList.drop k = s[k] :: s.data.toList.drop (k + 1) := List.drop_eq_getElem_cons (by simpa using h)
theorem data_end {s : ByteArray} {k : Nat} (h : s.size ≤ k) : s.data.toList.drop k = [] := List.drop_of_length_le (by simpa using h)

/-- the nine kinds of bytes -/
theorem byte_kinds (c : Int) (h0 : 0 ≤ c) (h1 : c ≤ 255) : (c ≤ 47 ∧ letB c = false ∧ digB c = false) ∨ ((48 ≤ c ∧ c ≤ 57) ∧ letB c = false ∧ digB c = true) ∨ ((58 ≤ c ∧ c ≤ 64) ∧ letB c = false ∧ digB c = false) ∨
    ((65 ≤ c ∧ c ≤ 90) ∧ letB c = true) ∨ ((91 ≤ c ∧ c ≤ 94) ∧ letB c = false ∧ digB c = false) ∨ (c = 95 ∧ letB c = true) ∨ (c = 96 ∧ letB c = false ∧ digB c = false) ∨ ((97 ≤ c ∧ c ≤ 122) ∧ letB c = true) ∨ (123 ≤ c ∧ letB c = false ∧ digB c = false) := by
  simp only [letB, digB, decide_eq_true_eq, decide_eq_false_iff_not]
  omega
theorem ok_let {c : Int} {i : Nat} (h : letB c = true) : okAt c i = true := by simp [okAt, h]
theorem ok_dig {c : Int} {i : Nat} (h : letB c = false) (h2 : digB c = true) : okAt c i = decide (0 < i) := by simp [okAt, h, h2]
theorem ok_no {c : Int} {i : Nat} (h : letB c = false) (h2 : digB c = false) : okAt c i = false := by simp [okAt, h, h2]

set_option maxHeartbeats 2000000 in
theorem isName_any (s : ByteArray) (w : World) (hs : s.size ≤ 9223372036854775807) : Calls Try.prog 57 #[.string s] w fun e w' => e = .returned (.bool (nameB s)) ∧ w = w' := by
  go_enter Try.func57, Try.ntmps57
  go_wp2_with fail
  go_loop [8] (fun i => ∃ k : Nat, k ≤ s.size ∧ i = .int .i64 k ∧ Hid (okFrom (s.data.toList.drop k) k = okFrom s.data.toList 0)) (fun i => s.size - (intOf i).toNat)
  case atStart => exact ⟨0, Nat.zero_le _, rfl, rfl⟩
  case round =>
    obtain ⟨k, hk, rfl, HK⟩ := hrel
    by_cases hlt : k < s.size
    · have e1 := HK.out
      rw [data_drop hlt, okFrom] at e1
      have hb : s[k].toNat < 256 := s[k].toNat_lt
      rcases byte_kinds (s[k].toNat : Int) (by omega) (by omega) with ⟨k1, k2, k3⟩ | ⟨k1, k2, k3⟩ | ⟨k1, k2, k3⟩ | ⟨k1, k2⟩ | ⟨k1, k2, k3⟩ | ⟨k1, k2⟩ | ⟨k1, k2, k3⟩ | ⟨k1, k2⟩ | ⟨k1, k2, k3⟩
      · have q95 : ((s[k].toNat : Int) == 95) = false := by rw [beq_eq_false_iff_ne]; omega
        have dd0 : decide (97 ≤ (s[k].toNat : Int)) = false := decide_eq_false (by omega)
        have dd1 : decide ((s[k].toNat : Int) ≤ 122) = true := decide_eq_true (by omega)
        have dd2 : decide (65 ≤ (s[k].toNat : Int)) = false := decide_eq_false (by omega)
        have dd3 : decide ((s[k].toNat : Int) ≤ 90) = true := decide_eq_true (by omega)
        have dd4 : decide ((s[k].toNat : Int) < 48) = true := decide_eq_true (by omega)
        have dd5 : decide (57 < (s[k].toNat : Int)) = false := decide_eq_false (by omega)
        rw [ok_no k2 k3, Bool.false_and] at e1
        have HB : Hid (nameB s = false) := by show _ = _; rw [nameB, ← e1, Bool.false_and]
        clear e1 k2 k3 HK
        rcases Nat.eq_zero_or_pos k with hk0 | hk0
        · subst hk0
          go_wp2_with fail
          go_ret
          exact ⟨ret_bool (by rw [HB.out]), rfl⟩
        · have hkn : ((k : Int) == 0) = false := by rw [beq_eq_false_iff_ne]; omega
          go_wp2_with fail
          go_ret
          exact ⟨ret_bool (by rw [HB.out]), rfl⟩
      · have q95 : ((s[k].toNat : Int) == 95) = false := by rw [beq_eq_false_iff_ne]; omega
        obtain ⟨k1a, k1b⟩ := k1
        have dd0 : decide (97 ≤ (s[k].toNat : Int)) = false := decide_eq_false (by omega)
        have dd1 : decide ((s[k].toNat : Int) ≤ 122) = true := decide_eq_true (by omega)
        have dd2 : decide (65 ≤ (s[k].toNat : Int)) = false := decide_eq_false (by omega)
        have dd3 : decide ((s[k].toNat : Int) ≤ 90) = true := decide_eq_true (by omega)
        have dd4 : decide ((s[k].toNat : Int) < 48) = false := decide_eq_false (by omega)
        have dd5 : decide (57 < (s[k].toNat : Int)) = false := decide_eq_false (by omega)
        rw [ok_dig k2 k3] at e1
        rcases Nat.eq_zero_or_pos k with hk0 | hk0
        · subst hk0
          rw [decide_eq_false (by omega), Bool.false_and] at e1
          have HB : Hid (nameB s = false) := by show _ = _; rw [nameB, ← e1, Bool.false_and]
          clear e1 k2 k3 HK
          go_wp2_with fail
          go_ret
          exact ⟨ret_bool (by rw [HB.out]), rfl⟩
        · rw [decide_eq_true hk0, Bool.true_and] at e1
          have HG := Lib.hid e1
          have hkn : ((k : Int) == 0) = false := by rw [beq_eq_false_iff_ne]; omega
          clear e1 k2 k3 HK
          go_wp2_with fail
          go_round
          case rel => exact ⟨k + 1, by omega, by go_num, HG⟩
          case measure => simp [intOf]; omega
      · have q95 : ((s[k].toNat : Int) == 95) = false := by rw [beq_eq_false_iff_ne]; omega
        obtain ⟨k1a, k1b⟩ := k1
        have dd0 : decide (97 ≤ (s[k].toNat : Int)) = false := decide_eq_false (by omega)
        have dd1 : decide ((s[k].toNat : Int) ≤ 122) = true := decide_eq_true (by omega)
        have dd2 : decide (65 ≤ (s[k].toNat : Int)) = false := decide_eq_false (by omega)
        have dd3 : decide ((s[k].toNat : Int) ≤ 90) = true := decide_eq_true (by omega)
        have dd4 : decide ((s[k].toNat : Int) < 48) = false := decide_eq_false (by omega)
        have dd5 : decide (57 < (s[k].toNat : Int)) = true := decide_eq_true (by omega)
        rw [ok_no k2 k3, Bool.false_and] at e1
        have HB : Hid (nameB s = false) := by show _ = _; rw [nameB, ← e1, Bool.false_and]
        clear e1 k2 k3 HK
        rcases Nat.eq_zero_or_pos k with hk0 | hk0
        · subst hk0
          go_wp2_with fail
          go_ret
          exact ⟨ret_bool (by rw [HB.out]), rfl⟩
        · have hkn : ((k : Int) == 0) = false := by rw [beq_eq_false_iff_ne]; omega
          go_wp2_with fail
          go_ret
          exact ⟨ret_bool (by rw [HB.out]), rfl⟩
      · have q95 : ((s[k].toNat : Int) == 95) = false := by rw [beq_eq_false_iff_ne]; omega
        obtain ⟨k1a, k1b⟩ := k1
        have dd0 : decide (97 ≤ (s[k].toNat : Int)) = false := decide_eq_false (by omega)
        have dd1 : decide ((s[k].toNat : Int) ≤ 122) = true := decide_eq_true (by omega)
        have dd2 : decide (65 ≤ (s[k].toNat : Int)) = true := decide_eq_true (by omega)
        have dd3 : decide ((s[k].toNat : Int) ≤ 90) = true := decide_eq_true (by omega)
        have dd4 : decide ((s[k].toNat : Int) < 48) = false := decide_eq_false (by omega)
        have dd5 : decide (57 < (s[k].toNat : Int)) = true := decide_eq_true (by omega)
        rw [ok_let k2, Bool.true_and] at e1
        have HG := Lib.hid e1
        clear e1 k2 HK
        go_wp2_with fail
        go_round
        case rel => exact ⟨k + 1, by omega, by go_num, HG⟩
        case measure => simp [intOf]; omega
      · have q95 : ((s[k].toNat : Int) == 95) = false := by rw [beq_eq_false_iff_ne]; omega
        obtain ⟨k1a, k1b⟩ := k1
        have dd0 : decide (97 ≤ (s[k].toNat : Int)) = false := decide_eq_false (by omega)
        have dd1 : decide ((s[k].toNat : Int) ≤ 122) = true := decide_eq_true (by omega)
        have dd2 : decide (65 ≤ (s[k].toNat : Int)) = true := decide_eq_true (by omega)
        have dd3 : decide ((s[k].toNat : Int) ≤ 90) = false := decide_eq_false (by omega)
        have dd4 : decide ((s[k].toNat : Int) < 48) = false := decide_eq_false (by omega)
        have dd5 : decide (57 < (s[k].toNat : Int)) = true := decide_eq_true (by omega)
        rw [ok_no k2 k3, Bool.false_and] at e1
        have HB : Hid (nameB s = false) := by show _ = _; rw [nameB, ← e1, Bool.false_and]
        clear e1 k2 k3 HK
        rcases Nat.eq_zero_or_pos k with hk0 | hk0
        · subst hk0
          go_wp2_with fail
          go_ret
          exact ⟨ret_bool (by rw [HB.out]), rfl⟩
        · have hkn : ((k : Int) == 0) = false := by rw [beq_eq_false_iff_ne]; omega
          go_wp2_with fail
          go_ret
          exact ⟨ret_bool (by rw [HB.out]), rfl⟩
      · have q95 : ((s[k].toNat : Int) == 95) = true := by rw [beq_iff_eq]; omega
        have k1a : 95 ≤ (s[k].toNat : Int) := by omega
        have k1b : (s[k].toNat : Int) ≤ 95 := by omega
        clear k1
        have dd0 : decide (97 ≤ (s[k].toNat : Int)) = false := decide_eq_false (by omega)
        have dd1 : decide ((s[k].toNat : Int) ≤ 122) = true := decide_eq_true (by omega)
        have dd2 : decide (65 ≤ (s[k].toNat : Int)) = true := decide_eq_true (by omega)
        have dd3 : decide ((s[k].toNat : Int) ≤ 90) = false := decide_eq_false (by omega)
        have dd4 : decide ((s[k].toNat : Int) < 48) = false := decide_eq_false (by omega)
        have dd5 : decide (57 < (s[k].toNat : Int)) = true := decide_eq_true (by omega)
        rw [ok_let k2, Bool.true_and] at e1
        have HG := Lib.hid e1
        clear e1 k2 HK
        go_wp2_with fail
        go_round
        case rel => exact ⟨k + 1, by omega, by go_num, HG⟩
        case measure => simp [intOf]; omega
      · have q95 : ((s[k].toNat : Int) == 95) = false := by rw [beq_eq_false_iff_ne]; omega
        have k1a : 96 ≤ (s[k].toNat : Int) := by omega
        have k1b : (s[k].toNat : Int) ≤ 96 := by omega
        clear k1
        have dd0 : decide (97 ≤ (s[k].toNat : Int)) = false := decide_eq_false (by omega)
        have dd1 : decide ((s[k].toNat : Int) ≤ 122) = true := decide_eq_true (by omega)
        have dd2 : decide (65 ≤ (s[k].toNat : Int)) = true := decide_eq_true (by omega)
        have dd3 : decide ((s[k].toNat : Int) ≤ 90) = false := decide_eq_false (by omega)
        have dd4 : decide ((s[k].toNat : Int) < 48) = false := decide_eq_false (by omega)
        have dd5 : decide (57 < (s[k].toNat : Int)) = true := decide_eq_true (by omega)
        rw [ok_no k2 k3, Bool.false_and] at e1
        have HB : Hid (nameB s = false) := by show _ = _; rw [nameB, ← e1, Bool.false_and]
        clear e1 k2 k3 HK
        rcases Nat.eq_zero_or_pos k with hk0 | hk0
        · subst hk0
          go_wp2_with fail
          go_ret
          exact ⟨ret_bool (by rw [HB.out]), rfl⟩
        · have hkn : ((k : Int) == 0) = false := by rw [beq_eq_false_iff_ne]; omega
          go_wp2_with fail
          go_ret
          exact ⟨ret_bool (by rw [HB.out]), rfl⟩
      · have q95 : ((s[k].toNat : Int) == 95) = false := by rw [beq_eq_false_iff_ne]; omega
        obtain ⟨k1a, k1b⟩ := k1
        have dd0 : decide (97 ≤ (s[k].toNat : Int)) = true := decide_eq_true (by omega)
        have dd1 : decide ((s[k].toNat : Int) ≤ 122) = true := decide_eq_true (by omega)
        have dd2 : decide (65 ≤ (s[k].toNat : Int)) = true := decide_eq_true (by omega)
        have dd3 : decide ((s[k].toNat : Int) ≤ 90) = false := decide_eq_false (by omega)
        have dd4 : decide ((s[k].toNat : Int) < 48) = false := decide_eq_false (by omega)
        have dd5 : decide (57 < (s[k].toNat : Int)) = true := decide_eq_true (by omega)
        rw [ok_let k2, Bool.true_and] at e1
        have HG := Lib.hid e1
        clear e1 k2 HK
        go_wp2_with fail
        go_round
        case rel => exact ⟨k + 1, by omega, by go_num, HG⟩
        case measure => simp [intOf]; omega
      · have q95 : ((s[k].toNat : Int) == 95) = false := by rw [beq_eq_false_iff_ne]; omega
        have dd0 : decide (97 ≤ (s[k].toNat : Int)) = true := decide_eq_true (by omega)
        have dd1 : decide ((s[k].toNat : Int) ≤ 122) = false := decide_eq_false (by omega)
        have dd2 : decide (65 ≤ (s[k].toNat : Int)) = true := decide_eq_true (by omega)
        have dd3 : decide ((s[k].toNat : Int) ≤ 90) = false := decide_eq_false (by omega)
        have dd4 : decide ((s[k].toNat : Int) < 48) = false := decide_eq_false (by omega)
        have dd5 : decide (57 < (s[k].toNat : Int)) = true := decide_eq_true (by omega)
        rw [ok_no k2 k3, Bool.false_and] at e1
        have HB : Hid (nameB s = false) := by show _ = _; rw [nameB, ← e1, Bool.false_and]
        clear e1 k2 k3 HK
        rcases Nat.eq_zero_or_pos k with hk0 | hk0
        · subst hk0
          go_wp2_with fail
          go_ret
          exact ⟨ret_bool (by rw [HB.out]), rfl⟩
        · have hkn : ((k : Int) == 0) = false := by rw [beq_eq_false_iff_ne]; omega
          go_wp2_with fail
          go_ret
          exact ⟨ret_bool (by rw [HB.out]), rfl⟩
    · obtain rfl : k = s.size := by omega
      have e1 := HK.out
      rw [data_end (Nat.le_refl _), okFrom] at e1
      have HE : Hid (nameB s = decide (1 ≤ s.size ∧ s.size ≤ 12)) := by show _ = _; rw [nameB, ← e1, Bool.true_and]
      clear e1 HK
      go_wp2_with fail
      all_goals
        go_ret
        refine ⟨ret_bool ?_, rfl⟩
        rw [HE.out]
        first | rfl | (rw [Bool.eq_iff_iff]; simp; omega)
set_option maxHeartbeats 2000000 in
theorem goodName_any (s : ByteArray) (w : World) (hs : s.size ≤ 9223372036854775807) : Calls Try.prog 67 #[.string s] w fun e w' => e = .returned (.bool (nameB s)) ∧ w = w' := by
  by_cases hsz : ¬ (1 ≤ s.size ∧ s.size ≤ 12)
  · have HB : Hid (nameB s = false) := by show _ = _; rw [nameB, decide_eq_false hsz, Bool.and_false]
    go_enter Try.func67, Try.ntmps67
    have hc : (s.size : Int) < 1 ∨ (12 < (s.size : Int) ∧ ¬ (s.size : Int) < 1) := by omega
    rcases hc with hc | ⟨hc, hc2⟩
    all_goals
      go_wp2_with fail
      go_ret
      exact ⟨ret_bool (by rw [HB.out]), rfl⟩
  have hsz1 : 1 ≤ s.size ∧ s.size ≤ 12 := Decidable.not_not.1 hsz
  obtain ⟨hsa, hsb⟩ := hsz1
  clear hsz
  go_enter Try.func67, Try.ntmps67
  go_wp2_with fail
  go_loop [3] (fun i => ∃ k : Nat, k ≤ s.size ∧ i = .int .i64 k ∧ Hid (okFrom (s.data.toList.drop k) k = okFrom s.data.toList 0)) (fun i => s.size - (intOf i).toNat)
  case atStart => exact ⟨0, Nat.zero_le _, rfl, rfl⟩
  case round =>
    obtain ⟨k, hk, rfl, HK⟩ := hrel
    by_cases hlt : k < s.size
    · have e1 := HK.out
      rw [data_drop hlt, okFrom] at e1
      have hb : s[k].toNat < 256 := s[k].toNat_lt
      rcases byte_kinds (s[k].toNat : Int) (by omega) (by omega) with ⟨k1, k2, k3⟩ | ⟨k1, k2, k3⟩ | ⟨k1, k2, k3⟩ | ⟨k1, k2⟩ | ⟨k1, k2, k3⟩ | ⟨k1, k2⟩ | ⟨k1, k2, k3⟩ | ⟨k1, k2⟩ | ⟨k1, k2, k3⟩
      · have q95 : ((s[k].toNat : Int) == 95) = false := by rw [beq_eq_false_iff_ne]; omega
        have dd0 : decide (97 ≤ (s[k].toNat : Int)) = false := decide_eq_false (by omega)
        have dd1 : decide ((s[k].toNat : Int) ≤ 122) = true := decide_eq_true (by omega)
        have dd2 : decide (65 ≤ (s[k].toNat : Int)) = false := decide_eq_false (by omega)
        have dd3 : decide ((s[k].toNat : Int) ≤ 90) = true := decide_eq_true (by omega)
        have dd4 : decide ((s[k].toNat : Int) < 48) = true := decide_eq_true (by omega)
        have dd5 : decide (57 < (s[k].toNat : Int)) = false := decide_eq_false (by omega)
        rw [ok_no k2 k3, Bool.false_and] at e1
        have HB : Hid (nameB s = false) := by show _ = _; rw [nameB, ← e1, Bool.false_and]
        clear e1 k2 k3 HK
        rcases Nat.eq_zero_or_pos k with hk0 | hk0
        · subst hk0
          go_wp2_with fail
          go_ret
          exact ⟨ret_bool (by rw [HB.out]), rfl⟩
        · have hkn : ((k : Int) == 0) = false := by rw [beq_eq_false_iff_ne]; omega
          go_wp2_with fail
          go_ret
          exact ⟨ret_bool (by rw [HB.out]), rfl⟩
      · have q95 : ((s[k].toNat : Int) == 95) = false := by rw [beq_eq_false_iff_ne]; omega
        obtain ⟨k1a, k1b⟩ := k1
        have dd0 : decide (97 ≤ (s[k].toNat : Int)) = false := decide_eq_false (by omega)
        have dd1 : decide ((s[k].toNat : Int) ≤ 122) = true := decide_eq_true (by omega)
        have dd2 : decide (65 ≤ (s[k].toNat : Int)) = false := decide_eq_false (by omega)
        have dd3 : decide ((s[k].toNat : Int) ≤ 90) = true := decide_eq_true (by omega)
        have dd4 : decide ((s[k].toNat : Int) < 48) = false := decide_eq_false (by omega)
        have dd5 : decide (57 < (s[k].toNat : Int)) = false := decide_eq_false (by omega)
        rw [ok_dig k2 k3] at e1
        rcases Nat.eq_zero_or_pos k with hk0 | hk0
        · subst hk0
          rw [decide_eq_false (by omega), Bool.false_and] at e1
          have HB : Hid (nameB s = false) := by show _ = _; rw [nameB, ← e1, Bool.false_and]
          clear e1 k2 k3 HK
          go_wp2_with fail
          go_ret
          exact ⟨ret_bool (by rw [HB.out]), rfl⟩
        · rw [decide_eq_true hk0, Bool.true_and] at e1
          have HG := Lib.hid e1
          have hkn : ((k : Int) == 0) = false := by rw [beq_eq_false_iff_ne]; omega
          clear e1 k2 k3 HK
          go_wp2_with fail
          go_round
          case rel => exact ⟨k + 1, by omega, by go_num, HG⟩
          case measure => simp [intOf]; omega
      · have q95 : ((s[k].toNat : Int) == 95) = false := by rw [beq_eq_false_iff_ne]; omega
        obtain ⟨k1a, k1b⟩ := k1
        have dd0 : decide (97 ≤ (s[k].toNat : Int)) = false := decide_eq_false (by omega)
        have dd1 : decide ((s[k].toNat : Int) ≤ 122) = true := decide_eq_true (by omega)
        have dd2 : decide (65 ≤ (s[k].toNat : Int)) = false := decide_eq_false (by omega)
        have dd3 : decide ((s[k].toNat : Int) ≤ 90) = true := decide_eq_true (by omega)
        have dd4 : decide ((s[k].toNat : Int) < 48) = false := decide_eq_false (by omega)
        have dd5 : decide (57 < (s[k].toNat : Int)) = true := decide_eq_true (by omega)
        rw [ok_no k2 k3, Bool.false_and] at e1
        have HB : Hid (nameB s = false) := by show _ = _; rw [nameB, ← e1, Bool.false_and]
        clear e1 k2 k3 HK
        rcases Nat.eq_zero_or_pos k with hk0 | hk0
        · subst hk0
          go_wp2_with fail
          go_ret
          exact ⟨ret_bool (by rw [HB.out]), rfl⟩
        · have hkn : ((k : Int) == 0) = false := by rw [beq_eq_false_iff_ne]; omega
          go_wp2_with fail
          go_ret
          exact ⟨ret_bool (by rw [HB.out]), rfl⟩
      · have q95 : ((s[k].toNat : Int) == 95) = false := by rw [beq_eq_false_iff_ne]; omega
        obtain ⟨k1a, k1b⟩ := k1
        have dd0 : decide (97 ≤ (s[k].toNat : Int)) = false := decide_eq_false (by omega)
        have dd1 : decide ((s[k].toNat : Int) ≤ 122) = true := decide_eq_true (by omega)
        have dd2 : decide (65 ≤ (s[k].toNat : Int)) = true := decide_eq_true (by omega)
        have dd3 : decide ((s[k].toNat : Int) ≤ 90) = true := decide_eq_true (by omega)
        have dd4 : decide ((s[k].toNat : Int) < 48) = false := decide_eq_false (by omega)
        have dd5 : decide (57 < (s[k].toNat : Int)) = true := decide_eq_true (by omega)
        rw [ok_let k2, Bool.true_and] at e1
        have HG := Lib.hid e1
        clear e1 k2 HK
        go_wp2_with fail
        go_round
        case rel => exact ⟨k + 1, by omega, by go_num, HG⟩
        case measure => simp [intOf]; omega
      · have q95 : ((s[k].toNat : Int) == 95) = false := by rw [beq_eq_false_iff_ne]; omega
        obtain ⟨k1a, k1b⟩ := k1
        have dd0 : decide (97 ≤ (s[k].toNat : Int)) = false := decide_eq_false (by omega)
        have dd1 : decide ((s[k].toNat : Int) ≤ 122) = true := decide_eq_true (by omega)
        have dd2 : decide (65 ≤ (s[k].toNat : Int)) = true := decide_eq_true (by omega)
        have dd3 : decide ((s[k].toNat : Int) ≤ 90) = false := decide_eq_false (by omega)
        have dd4 : decide ((s[k].toNat : Int) < 48) = false := decide_eq_false (by omega)
        have dd5 : decide (57 < (s[k].toNat : Int)) = true := decide_eq_true (by omega)
        rw [ok_no k2 k3, Bool.false_and] at e1
        have HB : Hid (nameB s = false) := by show _ = _; rw [nameB, ← e1, Bool.false_and]
        clear e1 k2 k3 HK
        rcases Nat.eq_zero_or_pos k with hk0 | hk0
        · subst hk0
          go_wp2_with fail
          go_ret
          exact ⟨ret_bool (by rw [HB.out]), rfl⟩
        · have hkn : ((k : Int) == 0) = false := by rw [beq_eq_false_iff_ne]; omega
          go_wp2_with fail
          go_ret
          exact ⟨ret_bool (by rw [HB.out]), rfl⟩
      · have q95 : ((s[k].toNat : Int) == 95) = true := by rw [beq_iff_eq]; omega
        have k1a : 95 ≤ (s[k].toNat : Int) := by omega
        have k1b : (s[k].toNat : Int) ≤ 95 := by omega
        clear k1
        have dd0 : decide (97 ≤ (s[k].toNat : Int)) = false := decide_eq_false (by omega)
        have dd1 : decide ((s[k].toNat : Int) ≤ 122) = true := decide_eq_true (by omega)
        have dd2 : decide (65 ≤ (s[k].toNat : Int)) = true := decide_eq_true (by omega)
        have dd3 : decide ((s[k].toNat : Int) ≤ 90) = false := decide_eq_false (by omega)
        have dd4 : decide ((s[k].toNat : Int) < 48) = false := decide_eq_false (by omega)
        have dd5 : decide (57 < (s[k].toNat : Int)) = true := decide_eq_true (by omega)
        rw [ok_let k2, Bool.true_and] at e1
        have HG := Lib.hid e1
        clear e1 k2 HK
        go_wp2_with fail
        go_round
        case rel => exact ⟨k + 1, by omega, by go_num, HG⟩
        case measure => simp [intOf]; omega
      · have q95 : ((s[k].toNat : Int) == 95) = false := by rw [beq_eq_false_iff_ne]; omega
        have k1a : 96 ≤ (s[k].toNat : Int) := by omega
        have k1b : (s[k].toNat : Int) ≤ 96 := by omega
        clear k1
        have dd0 : decide (97 ≤ (s[k].toNat : Int)) = false := decide_eq_false (by omega)
        have dd1 : decide ((s[k].toNat : Int) ≤ 122) = true := decide_eq_true (by omega)
        have dd2 : decide (65 ≤ (s[k].toNat : Int)) = true := decide_eq_true (by omega)
        have dd3 : decide ((s[k].toNat : Int) ≤ 90) = false := decide_eq_false (by omega)
        have dd4 : decide ((s[k].toNat : Int) < 48) = false := decide_eq_false (by omega)
        have dd5 : decide (57 < (s[k].toNat : Int)) = true := decide_eq_true (by omega)
        rw [ok_no k2 k3, Bool.false_and] at e1
        have HB : Hid (nameB s = false) := by show _ = _; rw [nameB, ← e1, Bool.false_and]
        clear e1 k2 k3 HK
        rcases Nat.eq_zero_or_pos k with hk0 | hk0
        · subst hk0
          go_wp2_with fail
          go_ret
          exact ⟨ret_bool (by rw [HB.out]), rfl⟩
        · have hkn : ((k : Int) == 0) = false := by rw [beq_eq_false_iff_ne]; omega
          go_wp2_with fail
          go_ret
          exact ⟨ret_bool (by rw [HB.out]), rfl⟩
      · have q95 : ((s[k].toNat : Int) == 95) = false := by rw [beq_eq_false_iff_ne]; omega
        obtain ⟨k1a, k1b⟩ := k1
        have dd0 : decide (97 ≤ (s[k].toNat : Int)) = true := decide_eq_true (by omega)
        have dd1 : decide ((s[k].toNat : Int) ≤ 122) = true := decide_eq_true (by omega)
        have dd2 : decide (65 ≤ (s[k].toNat : Int)) = true := decide_eq_true (by omega)
        have dd3 : decide ((s[k].toNat : Int) ≤ 90) = false := decide_eq_false (by omega)
        have dd4 : decide ((s[k].toNat : Int) < 48) = false := decide_eq_false (by omega)
        have dd5 : decide (57 < (s[k].toNat : Int)) = true := decide_eq_true (by omega)
        rw [ok_let k2, Bool.true_and] at e1
        have HG := Lib.hid e1
        clear e1 k2 HK
        go_wp2_with fail
        go_round
        case rel => exact ⟨k + 1, by omega, by go_num, HG⟩
        case measure => simp [intOf]; omega
      · have q95 : ((s[k].toNat : Int) == 95) = false := by rw [beq_eq_false_iff_ne]; omega
        have dd0 : decide (97 ≤ (s[k].toNat : Int)) = true := decide_eq_true (by omega)
        have dd1 : decide ((s[k].toNat : Int) ≤ 122) = false := decide_eq_false (by omega)
        have dd2 : decide (65 ≤ (s[k].toNat : Int)) = true := decide_eq_true (by omega)
        have dd3 : decide ((s[k].toNat : Int) ≤ 90) = false := decide_eq_false (by omega)
        have dd4 : decide ((s[k].toNat : Int) < 48) = false := decide_eq_false (by omega)
        have dd5 : decide (57 < (s[k].toNat : Int)) = true := decide_eq_true (by omega)
        rw [ok_no k2 k3, Bool.false_and] at e1
        have HB : Hid (nameB s = false) := by show _ = _; rw [nameB, ← e1, Bool.false_and]
        clear e1 k2 k3 HK
        rcases Nat.eq_zero_or_pos k with hk0 | hk0
        · subst hk0
          go_wp2_with fail
          go_ret
          exact ⟨ret_bool (by rw [HB.out]), rfl⟩
        · have hkn : ((k : Int) == 0) = false := by rw [beq_eq_false_iff_ne]; omega
          go_wp2_with fail
          go_ret
          exact ⟨ret_bool (by rw [HB.out]), rfl⟩
    · obtain rfl : k = s.size := by omega
      have e1 := HK.out
      rw [data_end (Nat.le_refl _), okFrom] at e1
      have HE : Hid (nameB s = true) := by show _ = _; rw [nameB, ← e1, Bool.true_and, decide_eq_true ⟨hsa, hsb⟩]
      clear e1 HK
      go_wp2_with fail
      go_ret
      exact ⟨ret_bool (by rw [HE.out]), rfl⟩
end Go.Proofs.Ythooecojopfjbaa
namespace Go.Proofs.Ythooecojopfjbaa
open Go.RowKit

structure DeclD where
  name : ByteArray
  args : List Int
  sort : Int
structure NodeD where
  op : Int
  kids : List Int
  n : Int
  d : Int
  name : ByteArray
structure AskD where
  decls : List DeclD
  nodes : List NodeD
  hold : List Int
def AtDecl : Ent DeclD := fun w S b o x => AtStr w S b o x.name ∧ AtArr AtInt 1 w S b (o + 1) x.args ∧ AtInt w S b (o + 2) x.sort
def AtNode : Ent NodeD := fun w S b o x => AtInt w S b o x.op ∧ AtArr AtInt 1 w S b (o + 1) x.kids ∧ AtInt w S b (o + 2) x.n ∧ AtInt w S b (o + 3) x.d ∧ AtStr w S b (o + 4) x.name
theorem stays_decl : Stays AtDecl := fun _ _ _ _ _ _ _ hS hk hb h => ⟨stays_str _ _ _ _ _ _ _ hS hk hb h.1, stays_arr stays_int _ _ _ _ _ _ _ hS hk hb h.2.1, stays_int _ _ _ _ _ _ _ hS hk hb h.2.2⟩
theorem stays_node : Stays AtNode := fun _ _ _ _ _ _ _ hS hk hb h => ⟨stays_int _ _ _ _ _ _ _ hS hk hb h.1, stays_arr stays_int _ _ _ _ _ _ _ hS hk hb h.2.1, stays_int _ _ _ _ _ _ _ hS hk hb h.2.2.1, stays_int _ _ _ _ _ _ _ hS hk hb h.2.2.2.1, stays_str _ _ _ _ _ _ _ hS hk hb h.2.2.2.2⟩
theorem decls_get {w : World} {B : Nat} {A : Option Addr} {n : Nat} {xs : List DeclD} (h : ArrB AtDecl 3 w B A n xs) {i : Nat} (hi : i < n) :
    ∃ (b off : Nat) (hx : i < xs.length) (A' : Option Addr) (n' c' : Nat), A = some ⟨b, off, none⟩ ∧ b < B ∧ w.cell? ⟨b, off + i * 3, none⟩ = some (.string xs[i].name) ∧ w.cell? ⟨b, off + i * 3 + 1, none⟩ = some (.slice A' n' c') ∧ w.cell? ⟨b, off + i * 3 + 2, none⟩ = some (.int .i64 xs[i].sort) ∧
      n' ≤ c' ∧ c' ≤ maxLen ∧ IntsB w B A' n' xs[i].args ∧ I64 xs[i].sort ∧ xs[i].name.size ≤ maxLen := by
  obtain ⟨b, off, hx, e, hb, ⟨h0, h1⟩, ⟨A', n', c', hc, h3, h4, h5⟩, h6, h7⟩ := Arr.get h hi
  exact ⟨b, off, hx, A', n', c', e, hb, h0, hc, h6, h3, h4, h5, h7, h1⟩

def wordB (s : Int) : Bool := decide (10 < s ∧ s ≤ 18)
def wbits (s : Int) : Int := if wordB s then s - 10 else 0
def sortB (s : Int) : Bool := decide ((1 ≤ s ∧ s ≤ 5) ∨ (10 < s ∧ s ≤ 18))
set_option maxHeartbeats 400000 in
theorem word_any (n : Int) (w : World) : Calls Try.prog 74 #[.int .i64 n] w fun e w' => e = .returned (.bool (wordB n)) ∧ w = w' := by
  go_enter Try.func74, Try.ntmps74
  go_wp2
  all_goals go_ret
  all_goals refine ⟨ret_bool ?_, rfl⟩
  all_goals (rw [Bool.eq_iff_iff]; simp [wordB]; try omega)
set_option maxHeartbeats 400000 in
theorem isSort_any (n : Int) (w : World) : Calls Try.prog 60 #[.int .i64 n] w fun e w' => e = .returned (.bool (sortB n)) ∧ w = w' := by
  by_cases h1 : 1 ≤ n ∧ n ≤ 5
  · obtain ⟨ha, hb⟩ := h1
    have hs : Hid (sortB n = true) := by show _ = _; simp [sortB, ha, hb]
    go_enter Try.func60, Try.ntmps60
    go_wp2_with fail
    go_ret
    exact ⟨ret_bool hs.out.symm, rfl⟩
  · have hs : Hid (sortB n = wordB n) := by show _ = _; rw [Bool.eq_iff_iff]; simp only [sortB, wordB, decide_eq_true_eq]; omega
    have hc : n < 1 ∨ (1 ≤ n ∧ 5 < n) := by omega
    clear h1
    rcases hc with hc | ⟨hc, hc2⟩
    all_goals
      go_enter Try.func60, Try.ntmps60
      go_wp2_with (go_at_call 74; refine (word_any _ _).mono ?_; rintro e w' ⟨rfl, rfl⟩)
      go_ret
      exact ⟨ret_bool (by simp [hs.out] <;> intro h <;> omega), rfl⟩
set_option maxHeartbeats 400000 in
theorem wordBits_any (n : Int) (w : World) : Calls Try.prog 27 #[.int .i64 n] w fun e w' => e = .returned (.int .i64 (wbits n)) ∧ w = w' := by
  have hc : n < 11 ∨ (11 ≤ n ∧ n ≤ 18) ∨ 18 < n := by omega
  rcases hc with hc | ⟨hc, hc2⟩ | hc
  · have hs : Hid (wordB n = false) := by show _ = _; simp [wordB]; omega
    go_enter Try.func27, Try.ntmps27
    go_wp2_with fail
    go_ret
    exact ⟨ret_int (by rw [wbits, hs.out]; rfl), rfl⟩
  · have hs : Hid (wordB n = true) := by show _ = _; simp [wordB]; omega
    go_enter Try.func27, Try.ntmps27
    go_wp2_with fail
    go_ret
    exact ⟨ret_int (by rw [wbits, hs.out]; rfl), rfl⟩
  · have hs : Hid (wordB n = false) := by show _ = _; simp [wordB]; omega
    have hc2 : 11 ≤ n := by omega
    go_enter Try.func27, Try.ntmps27
    go_wp2_with fail
    go_ret
    exact ⟨ret_int (by rw [wbits, hs.out]; rfl), rfl⟩

def nameIs (s : ByteArray) (x : DeclD) : Bool := x.name.toList == s.toList
/-- the function g (with what it captured) tells p of each declaration of xs, and makes new blocks at most -/
def PredDecl (P : Program) (g : Nat) (lb : Array Value) (p : DeclD → Bool) (xs : List DeclD) (w : World) : Prop :=
  ∀ (W : World) (x : DeclD) (A : Option Addr) (n c : Nat), x ∈ xs → Below w.heap.size w W → Calls P g (#[.agg #[.string x.name, .slice A n c, .int .i64 x.sort]] ++ lb) W fun e w' => e = .returned (.bool (p x)) ∧ Below w.heap.size w w'

set_option maxHeartbeats 1000000 in
theorem indexDecls_any (g : Nat) (lb : Array Value) (eg : ∀ args w, (callFunc g args).run Try.prog w = .ok (.enter g args) w) (p : DeclD → Bool) (A : Option Addr) (n c : Nat) (xs : List DeclD) (R : Int) (w : World)
    (hxs : ArrB AtDecl 3 w w.heap.size A n xs) (hn : n ≤ 9223372036854775807) (hp : PredDecl Try.prog g lb p xs w) (hR : idx p xs 0 = R) :
    Calls Try.prog 86 #[.slice A n c, .func (.func g) #[] lb] w fun e w' => e = .returned (.int .i64 R) ∧ Below w.heap.size w w' := by
  have HP := Lib.hid hp
  have HR := Lib.hid hR
  clear hp hR
  go_enter Try.func86, Try.ntmps86
  go_wp2_with fail
  go_loopw [8] (fun s wr => ∃ k : Nat, k ≤ n ∧ s = .int .i64 k ∧ Hid (idx p (xs.drop k) k = R) ∧ Below w.heap.size w wr) (fun s _ => n - (intOf s).toNat)
  case atStart => exact ⟨0, Nat.zero_le _, rfl, HR, Below.refl _ _⟩
  case round =>
    obtain ⟨k, hk, rfl, HK, hbel⟩ := hrel
    by_cases hlt : k < n
    · obtain ⟨b, off, hx, A', n', c', rfl, hb, hc0, hc1, hc2, -⟩ := decls_get (hxs.below stays_decl hbel (Nat.le_refl _)) hlt
      have hcall := HP.out wr xs[k] A' n' c' (List.getElem_mem hx) hbel
      have e1 := HK.out
      rw [drop_cons hx, idx] at e1
      have HX := Lib.hid hx
      generalize xs[k] = y at hcall e1 hc0 hc2
      clear HK hx hxs
      cases hq : p y with
      | true =>
        rw [hq] at hcall e1
        have e2 : (k : Int) = R := e1
        have HC := Lib.hid hcall
        have H2 := Lib.hid e2
        clear hcall e1 hq e2
        go_wp2_with (go_at_fn g; refine HC.out.mono ?_; rintro e w' ⟨rfl, hb'⟩)
        go_ret
        exact ⟨ret_int H2.out, hb'⟩
      | false =>
        rw [hq] at hcall e1
        have e2 : idx p (xs.drop (k + 1)) ((k : Int) + 1) = R := e1
        have HC := Lib.hid hcall
        have H2 := Lib.hid e2
        clear hcall e1 hq e2
        go_wp2_with (go_at_fn g; refine HC.out.mono ?_; rintro e w' ⟨rfl, hb'⟩)
        go_roundw
        case rel => exact ⟨k + 1, by omega, by go_num, by show _ = _; rw [Int.natCast_add]; exact H2.out, hb'⟩
        case measure => simp [intOf]; omega
    · obtain rfl : k = n := by omega
      have e1 := HK.out
      rw [List.drop_of_length_le (by have := hxs.len; omega), idx] at e1
      have H1 := Lib.hid e1
      clear e1 HK
      go_wp2_with fail
      go_ret
      exact ⟨ret_int H1.out, hbel⟩

set_option maxHeartbeats 1000000 in
theorem containsDecls_any (g : Nat) (lb : Array Value) (eg : ∀ args w, (callFunc g args).run Try.prog w = .ok (.enter g args) w) (p : DeclD → Bool) (A : Option Addr) (n c : Nat) (xs : List DeclD) (R : Bool) (w : World)
    (hxs : ArrB AtDecl 3 w w.heap.size A n xs) (hn : n ≤ 9223372036854775807) (hp : PredDecl Try.prog g lb p xs w) (hR : xs.any p = R) :
    Calls Try.prog 58 #[.slice A n c, .func (.func g) #[] lb] w fun e w' => e = .returned (.bool R) ∧ Below w.heap.size w w' := by
  have HH := Lib.hid (indexDecls_any g lb eg p A n c xs _ w hxs hn hp rfl)
  have h0 := idx_any p xs 0 (by omega)
  rw [hR] at h0
  generalize idx p xs 0 = r at HH h0
  have H0 := Lib.hid h0
  clear h0 hR hp hxs
  go_enter Try.func58, Try.ntmps58
  go_wp2_with fail
  refine HH.out.mono ?_
  rintro e w' ⟨rfl, hb⟩
  go_wp2_with fail
  go_ret
  exact ⟨ret_bool H0.out, hb⟩

set_option maxHeartbeats 1000000 in
theorem find1_any (x : DeclD) (A : Option Addr) (n c : Nat) (s : ByteArray) (B : Nat) (w : World) (hc : w.cell? ⟨B, 0, none⟩ = some (.string s)) (hB : B < w.heap.size) :
    Calls Try.prog 87 #[.agg #[.string x.name, .slice A n c, .int .i64 x.sort], .pointer (some ⟨B, 0, none⟩)] w fun e w' => e = .returned (.bool (nameIs s x)) ∧ Below w.heap.size w w' := by
  obtain ⟨nm, ar, so⟩ := x
  dsimp only
  go_enter Try.func87, Try.ntmps87
  go_wp2_with fail
  go_ret
  exact ⟨ret_bool rfl, (Below.refl _ _).alloc (Nat.le_refl _) _⟩
theorem find1_pred (s : ByteArray) (B : Nat) (xs : List DeclD) (w : World) (hB : B < w.heap.size) (hc : w.cell? ⟨B, 0, none⟩ = some (.string s)) : PredDecl Try.prog 87 #[.pointer (some ⟨B, 0, none⟩)] (nameIs s) xs w := fun W x A n c _ hb => by
  have hc2 : W.cell? ⟨B, 0, none⟩ = some (.string s) := (hb.cell (p := ⟨B, 0, none⟩) hB).trans hc
  exact (find1_any x A n c s B W hc2 (Nat.lt_of_lt_of_le hB hb.size)).mono fun e w' ⟨he, h2⟩ => ⟨he, hb.trans (h2.mono hb.size)⟩

set_option maxHeartbeats 1000000 in
theorem find_any (A1 A2 A3 : Option Addr) (n1 c1 n2 c2 n3 c3 : Nat) (s : ByteArray) (xs : List DeclD) (R : Int) (w : World) (hxs : ArrB AtDecl 3 w w.heap.size A1 n1 xs) (hn : n1 ≤ 9223372036854775807) (hR : idx (nameIs s) xs 0 = R) :
    Calls Try.prog 63 #[.agg #[.slice A1 n1 c1, .slice A2 n2 c2, .slice A3 n3 c3], .string s] w fun e w' => e = .returned (.int .i64 R) ∧ Below w.heap.size w w' := by
  have eg : ∀ args w, (callFunc 87 args).run Try.prog w = .ok (.enter 87 args) w := enters_of Try.func87 (by kernel_rfl) rfl
  obtain ⟨hb0, hbk0, hbm0, hs0⟩ := two_boxes w 26 9 #[.slice A1 n1 c1, .slice A2 n2 c2, .slice A3 n3 c3] #[.string s]
  have HI := Lib.hid (indexDecls_any 87 #[.pointer (some ⟨w.heap.size + 1, 0, none⟩)] eg (nameIs s) A1 n1 c1 xs R _ (hxs.below stays_decl hb0 hb0.size) hn (find1_pred s (w.heap.size + 1) xs _ (by omega) (hbm0.cell 0)) hR)
  have HB := Lib.hid hb0
  clear hb0 hbk0 hbm0 hs0 hxs hR
  go_enter Try.func63, Try.ntmps63
  go_wp2_with fail
  refine HI.out.mono ?_
  rintro e w' ⟨rfl, hb⟩
  go_wp2_with fail
  go_ret
  exact ⟨rfl, HB.out.trans (hb.mono HB.out.size)⟩

set_option maxHeartbeats 1000000 in
theorem declOf_any (A : Option Addr) (n c : Nat) (s : ByteArray) (xs : List DeclD) (R : Int) (w : World) (S : Nat → Prop) (hxs : Arr AtDecl 3 w S A n xs) (hn : n ≤ 9223372036854775807) (hR : idx (nameIs s) xs 0 = R) :
    Calls Try.prog 36 #[.slice A n c, .string s] w fun e w' => e = .returned (.int .i64 R) ∧ w = w' := by
  have HR := Lib.hid hR
  clear hR
  go_enter Try.func36, Try.ntmps36
  go_wp2_with fail
  go_loop [5] (fun i => ∃ k : Nat, k ≤ n ∧ i = .int .i64 k ∧ Hid (idx (nameIs s) (xs.drop k) k = R)) (fun i => n - (intOf i).toNat)
  case atStart => exact ⟨0, Nat.zero_le _, rfl, HR⟩
  case round =>
    obtain ⟨k, hk, rfl, HK⟩ := hrel
    by_cases hlt : k < n
    · obtain ⟨b, off, hx, rfl, hb, ⟨h0, -⟩, -⟩ := Arr.get hxs hlt
      have e1 := HK.out
      rw [drop_cons hx, idx] at e1
      generalize xs[k] = y at e1 h0
      have hij : (k : Int) < n := by omega
      clear HK hx hxs
      cases hq : nameIs s y with
      | true =>
        rw [hq] at e1
        have H2 := Lib.hid (show (k : Int) = R from e1)
        have hq2 : (y.name.toList == s.toList) = true := hq
        clear e1 hq
        go_wp2_with fail
        go_ret
        exact ⟨ret_int H2.out, rfl⟩
      | false =>
        rw [hq] at e1
        have H2 := Lib.hid (show idx (nameIs s) (xs.drop (k + 1)) ((k : Int) + 1) = R from e1)
        have hq2 : (y.name.toList == s.toList) = false := hq
        clear e1 hq
        go_wp2_with fail
        go_round
        case rel => exact ⟨k + 1, by omega, by go_num, by show _ = _; rw [Int.natCast_add]; exact H2.out⟩
        case measure => simp [intOf]; omega
    · obtain rfl : k = n := by omega
      have e1 := HK.out
      rw [List.drop_of_length_le (by have := hxs.len; omega), idx] at e1
      have H1 := Lib.hid e1
      clear e1 HK hxs
      go_wp2_with fail
      go_ret
      exact ⟨ret_int H1.out, rfl⟩
end Go.Proofs.Ythooecojopfjbaa
