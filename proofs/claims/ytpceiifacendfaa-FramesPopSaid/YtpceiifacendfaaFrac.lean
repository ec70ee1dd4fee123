/- Walks: fractions: their greatest common divisors, and which of them are good, in the program and in the reference. -/
import Derived.Test.YtpceiifacendfaaCnf
namespace Go.Proofs.Ytpceiifacendfaa
open Go.RowKit

structure FracD where
  num : Int
  den : Int
def AtFrac : Ent FracD := fun w S b o x => AtInt w S b o x.num ∧ AtInt w S b (o + 1) x.den
theorem stays_frac : Stays AtFrac := fun _ _ _ _ _ _ _ hS hk hb h => ⟨stays_int _ _ _ _ _ _ _ hS hk hb h.1, stays_int _ _ _ _ _ _ _ hS hk hb h.2⟩
def fracGood (num den : Int) : Bool := decide (1 ≤ den ∧ den ≤ 1073741824 ∧ -1073741824 ≤ num ∧ num ≤ 1073741824 ∧ Int.gcd num den = 1)

theorem gcd_tmod (x y : Int) : Int.gcd y (x.tmod y) = Int.gcd x y := by
  show y.natAbs.gcd (x.tmod y).natAbs = x.natAbs.gcd y.natAbs
  rw [Int.natAbs_tmod, Nat.gcd_comm, ← Nat.gcd_rec, Nat.gcd_comm]
theorem wrap_abs {x : Int} (h0 : -4611686018427387904 ≤ x) (h : x < 0) : IntKind.u64.wrap (-IntKind.u64.wrap x) = x.natAbs := by
  rw [IntKind.wrap_u64, IntKind.wrap_u64]; omega

def DrewP (v : Value) (w : World) (e : Ending) (w' : World) : Prop := e = .returned v ∧ ∃ n, w' = w.drewN n

set_option maxHeartbeats 400000 in
theorem size_any (x : Int) (w : World) (h0 : -4611686018427387904 ≤ x) (h1 : x ≤ 4611686018427387904) :
    Calls Try.prog 51 #[.int .i64 x] w fun e w' => e = .returned (.int .u64 (x.natAbs : Int)) ∧ w = w' := by
  go_enter Try.func51, Try.ntmps51
  go_wp2
  all_goals go_ret
  all_goals refine ⟨ret_int ?_, rfl⟩
  · exact wrap_abs h0 (by assumption)
  · omega

set_option maxHeartbeats 400000 in
theorem gcdU_any (x y : Nat) (w : World) (h0 : x ≤ 4611686018427387904) (h1 : y ≤ 4611686018427387904) :
    Calls Try.prog 50 #[.int .u64 x, .int .u64 y] w (DrewP (.int .u64 (Nat.gcd x y : Nat)) w) := by
  go_enter Try.func50, Try.ntmps50
  go_wp2_with fail
  go_loopw [0, 1] (fun s0 s1 wr => ∃ a b : Nat, s0 = .int .u64 a ∧ s1 = .int .u64 b ∧ a ≤ 4611686018427387904 ∧ b ≤ 4611686018427387904 ∧ Hid (Nat.gcd a b = Nat.gcd x y) ∧ Hid (∃ n, wr = w.drewN n)) (fun _ s1 _ => (intOf s1).toNat)
  case atStart => exact ⟨x, y, rfl, rfl, h0, h1, rfl, 0, rfl⟩
  case round =>
    obtain ⟨a, b, rfl, rfl, ha, hb, HG, HW⟩ := hrel
    by_cases hz : b = 0
    · subst hz
      have e1 : a = Nat.gcd x y := by rw [← HG.out, Nat.gcd_zero_right]
      go_wp2_with fail
      go_ret
      exact ⟨ret_int (by rw [e1]), HW.out⟩
    · have hq : ((b : Int) != 0) = true := by rw [bne_iff_ne]; omega
      have hq2 : ((b : Int) == 0) = false := by rw [beq_eq_false_iff_ne]; omega
      go_wp2_with fail
      go_quiet (fail)
      go_wp2_with fail
      go_roundw
      case rel =>
        refine ⟨b, a % b, rfl, by go_num, hb, Nat.le_trans (Nat.le_of_lt (Nat.mod_lt _ (by omega))) hb, ?_, ?_⟩
        · show _ = _
          rw [← HG.out, Nat.gcd_comm, ← Nat.gcd_rec, Nat.gcd_comm]
        · obtain ⟨n, hn⟩ := HW.out
          exact ⟨n + nq, by rw [hn, World.drewN_drewN]⟩
      case measure =>
        have h1 := Nat.mod_lt a (show 0 < b by omega)
        have h2 : ((a : Int) % (b : Int)) = ((a % b : Nat) : Int) := rfl
        show ((a : Int) % (b : Int)).toNat < (b : Int).toNat
        omega

set_option maxHeartbeats 400000 in
theorem gcdI_any (x y : Int) (w : World) (h0 : -4611686018427387904 ≤ x) (h1 : x ≤ 4611686018427387904) (h2 : -4611686018427387904 ≤ y) (h3 : y ≤ 4611686018427387904) :
    Calls Try.prog 49 #[.int .i64 x, .int .i64 y] w (DrewP (.int .i64 (Int.gcd x y : Nat)) w) := by
  go_enter Try.func49, Try.ntmps49
  go_wp2_with fail
  go_loopw [0, 1] (fun s0 s1 wr => ∃ a b : Int, s0 = .int .i64 a ∧ s1 = .int .i64 b ∧ -4611686018427387904 ≤ a ∧ a ≤ 4611686018427387904 ∧ -4611686018427387904 ≤ b ∧ b ≤ 4611686018427387904 ∧ Hid (Int.gcd a b = Int.gcd x y) ∧ Hid (∃ n, wr = w.drewN n)) (fun _ s1 _ => (intOf s1).natAbs)
  case atStart => exact ⟨x, y, rfl, rfl, h0, h1, h2, h3, rfl, 0, rfl⟩
  case round =>
    obtain ⟨a, b, rfl, rfl, ha, ha2, hb, hb2, HG, HW⟩ := hrel
    by_cases hz : b = 0
    · subst hz
      have e1 : (a.natAbs : Int) = (Int.gcd x y : Nat) := by rw [← HG.out, Int.gcd_zero_right]
      have HE := Lib.hid e1
      clear e1
      go_wp2_with fail
      all_goals go_ret
      all_goals exact ⟨ret_int (by rw [← HE.out]; omega), HW.out⟩
    · have hq : (b != 0) = true := by rw [bne_iff_ne]; omega
      have hq2 : (b == 0) = false := by rw [beq_eq_false_iff_ne]; omega
      go_wp2_with fail
      go_quiet (fail)
      go_wp2_with fail
      have h4 := Int.natAbs_tmod a b
      have h5 : (a.tmod b).natAbs < b.natAbs := by rw [h4]; exact Nat.mod_lt _ (by omega)
      go_roundw
      case rel =>
        refine ⟨b, a.tmod b, rfl, rfl, by omega, by omega, by omega, by omega, ?_, ?_⟩
        · show _ = _
          rw [gcd_tmod, HG.out]
        · obtain ⟨n, hn⟩ := HW.out
          exact ⟨n + nq, by rw [hn, World.drewN_drewN]⟩
      case measure => exact h5

theorem good_yes {num den : Int} (a : 1 ≤ den) (b : den ≤ 1073741824) (c : -1073741824 ≤ num) (d : num ≤ 1073741824) : fracGood num den = decide (Int.gcd num den = 1) := by
  rw [Bool.eq_iff_iff]; simp [fracGood, a, b, c, d]

set_option maxRecDepth 100000 in
set_option maxHeartbeats 1000000 in
theorem fracCheck_any (num den : Int) (w : World) :
    Calls Try.prog 31 #[.agg #[.int .i64 num, .int .i64 den]] w fun e w' => e = .returned (.agg #[.int .i64 (if fracGood num den then 0 else 3), .int .i64 0]) ∧ Below w.heap.size w w' := by
  have hb : ∀ (o1 o2 : Obj) (n : Nat), Below w.heap.size w (((w.alloc o1).alloc o2).drewN n) := fun o1 o2 n => below_drewN (((Below.refl _ _).alloc (Nat.le_refl _) _).alloc (by simp) _) n
  have HB := Lib.hid hb
  clear hb
  by_cases h1 : den < 1
  · have e1 : fracGood num den = false := by simp [fracGood]; omega
    rw [e1]
    clear e1
    have q1 : decide (den < 1) = true := by simpa using h1
    go_enter Try.func31, Try.ntmps31
    go_wp2_with fail
    go_quiet (fail)
    go_wp2_with fail
    refine bodyPost_ret (v := .agg #[.int .i64 3, .int .i64 0]) (by simp [results, Try.results31, go_sem]) rfl ⟨rfl, ?_⟩
    exact ((HB.out _ _ _).setCell (p := ⟨w.heap.size + 1, 0, none⟩) (by simp) _).setCell (p := ⟨w.heap.size + 1, 1, none⟩) (by simp) _
  have q1 : decide (den < 1) = false := by simpa using h1
  by_cases h2 : 1073741824 < den
  · have e1 : fracGood num den = false := by simp [fracGood]; omega
    rw [e1]
    clear e1
    have q2 : decide (1073741824 < den) = true := by simpa using h2
    go_enter Try.func31, Try.ntmps31
    go_wp2_with fail
    go_quiet (fail)
    go_wp2_with fail
    refine bodyPost_ret (v := .agg #[.int .i64 3, .int .i64 0]) (by simp [results, Try.results31, go_sem]) rfl ⟨rfl, ?_⟩
    exact ((HB.out _ _ _).setCell (p := ⟨w.heap.size + 1, 0, none⟩) (by simp) _).setCell (p := ⟨w.heap.size + 1, 1, none⟩) (by simp) _
  have q2 : decide (1073741824 < den) = false := by simpa using h2
  by_cases h3 : num < -1073741824
  · have e1 : fracGood num den = false := by simp [fracGood]; omega
    rw [e1]
    clear e1
    have q3 : decide (num < -1073741824) = true := by simpa using h3
    go_enter Try.func31, Try.ntmps31
    go_wp2_with fail
    go_quiet (fail)
    go_wp2_with fail
    refine bodyPost_ret (v := .agg #[.int .i64 3, .int .i64 0]) (by simp [results, Try.results31, go_sem]) rfl ⟨rfl, ?_⟩
    exact ((HB.out _ _ _).setCell (p := ⟨w.heap.size + 1, 0, none⟩) (by simp) _).setCell (p := ⟨w.heap.size + 1, 1, none⟩) (by simp) _
  have q3 : decide (num < -1073741824) = false := by simpa using h3
  by_cases h4 : 1073741824 < num
  · have e1 : fracGood num den = false := by simp [fracGood]; omega
    rw [e1]
    clear e1
    have q4 : decide (1073741824 < num) = true := by simpa using h4
    go_enter Try.func31, Try.ntmps31
    go_wp2_with fail
    go_quiet (fail)
    go_wp2_with fail
    refine bodyPost_ret (v := .agg #[.int .i64 3, .int .i64 0]) (by simp [results, Try.results31, go_sem]) rfl ⟨rfl, ?_⟩
    exact ((HB.out _ _ _).setCell (p := ⟨w.heap.size + 1, 0, none⟩) (by simp) _).setCell (p := ⟨w.heap.size + 1, 1, none⟩) (by simp) _
  have q4 : decide (1073741824 < num) = false := by simpa using h4
  rw [good_yes (by omega) (by omega) (by omega) (by omega)]
  have hgd : Nat.gcd num.natAbs den.natAbs = Int.gcd num den := rfl
  have HG := Lib.hid (fun W => gcdU_any num.natAbs den.natAbs W (by omega) (by omega))
  rw [hgd] at HG
  generalize Int.gcd num den = g at HG
  clear hgd
  by_cases h5 : g = 1
  · subst h5
    go_enter Try.func31, Try.ntmps31
    go_wp2_with fail
    go_quiet ((first | (go_at_call 51; exact quiet_eq (size_any _ _ (by omega) (by omega))) | (go_at_call 50; exact Calls.quiet_of (HG.out _))))
    go_wp2_with fail
    refine bodyPost_ret (v := .agg #[.int .i64 0, .int .i64 0]) (by simp [results, Try.results31, go_sem]) rfl ⟨rfl, ?_⟩
    exact ((HB.out _ _ _).setCell (p := ⟨w.heap.size + 1, 0, none⟩) (by simp) _).setCell (p := ⟨w.heap.size + 1, 1, none⟩) (by simp) _
  · have q5 : ((g : Int) != 1) = true := by rw [bne_iff_ne]; omega
    rw [show decide (g = 1) = false by simpa using h5]
    clear h5
    go_enter Try.func31, Try.ntmps31
    go_wp2_with fail
    go_quiet ((first | (go_at_call 51; exact quiet_eq (size_any _ _ (by omega) (by omega))) | (go_at_call 50; exact Calls.quiet_of (HG.out _))))
    go_wp2_with fail
    refine bodyPost_ret (v := .agg #[.int .i64 3, .int .i64 0]) (by simp [results, Try.results31, go_sem]) rfl ⟨rfl, ?_⟩
    exact ((HB.out _ _ _).setCell (p := ⟨w.heap.size + 1, 0, none⟩) (by simp) _).setCell (p := ⟨w.heap.size + 1, 1, none⟩) (by simp) _

set_option maxRecDepth 100000 in
set_option maxHeartbeats 1000000 in
theorem good_any (num den : Int) (w : World) :
    Calls Try.prog 26 #[.agg #[.int .i64 num, .int .i64 den]] w fun e w' => e = .returned (.bool (fracGood num den)) ∧ Below w.heap.size w w' := by
  by_cases hok : 1 ≤ den ∧ den ≤ 1073741824 ∧ -1073741824 ≤ num ∧ num ≤ 1073741824
  · obtain ⟨h1, h2, h3, h4⟩ := hok
    rw [good_yes h1 h2 h3 h4]
    have HG := Lib.hid (fun W => gcdI_any num den W (by omega) (by omega) (by omega) (by omega))
    generalize Int.gcd num den = g at HG
    go_enter Try.func26, Try.ntmps26
    go_wp2_with fail
    refine (HG.out _).mono ?_
    rintro e w' ⟨rfl, n, rfl⟩
    go_wp2_with fail
    go_ret
    refine ⟨ret_bool ?_, below_drewN ((Below.refl _ _).alloc (Nat.le_refl _) _) n⟩
    rw [Bool.eq_iff_iff]
    simp
    omega
  · have e1 : fracGood num den = false := by simp [fracGood]; omega
    rw [e1]
    clear e1
    go_enter Try.func26, Try.ntmps26
    go_wp2_with fail
    all_goals first | omega | skip
    all_goals go_ret
    all_goals exact ⟨rfl, (Below.refl _ _).alloc (Nat.le_refl _) _⟩
end Go.Proofs.Ytpceiifacendfaa
