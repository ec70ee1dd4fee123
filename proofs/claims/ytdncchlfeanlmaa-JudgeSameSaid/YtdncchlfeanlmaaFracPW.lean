/- Plain: fractions: which of them are good; the lowest terms, the sum, the product. No program is named here. · Walks: which fractions are good: the program. -/
import Derived.Test.YtdncchlfeanlmaaCore
import Derived.Test.YtdncchlfeanlmaaFuncs
import Derived.Deep.QuietTactic
import Derived.BigQuiet
namespace Go.Proofs.Ytdncchlfeanlmaa
open Go.RowKit

structure FracD where
  num : Int
  den : Int
def AtFrac : Ent FracD := fun w S b o x => AtInt w S b o x.num ∧ AtInt w S b (o + 1) x.den
theorem stays_frac : Stays AtFrac := fun _ _ _ _ _ _ _ hS hk hb h => ⟨stays_int _ _ _ _ _ _ _ hS hk hb h.1, stays_int _ _ _ _ _ _ _ hS hk hb h.2⟩
def fracGood (num den : Int) : Bool := decide (1 ≤ den ∧ den ≤ 1073741824 ∧ -1073741824 ≤ num ∧ num ≤ 1073741824 ∧ Int.gcd num den = 1)
/-- n / d in lowest terms (d above 0); none: it is beyond -/
def lowF (n d : Int) : Option FracD :=
  if 1073741824 < n.tdiv (Int.gcd n d : Nat) ∨ n.tdiv (Int.gcd n d : Nat) < -1073741824 ∨ 1073741824 < d.tdiv (Int.gcd n d : Nat) then none else some ⟨n.tdiv (Int.gcd n d : Nat), d.tdiv (Int.gcd n d : Nat)⟩
def addQ (a b : FracD) : Option FracD := lowF (a.num * b.den + b.num * a.den) (a.den * b.den)
def timesQ (a b : FracD) : Option FracD := lowF (a.num * b.num) (a.den * b.den)
end Go.Proofs.Ytdncchlfeanlmaa
namespace Go.Proofs.Ytdncchlfeanlmaa
open Go.RowKit

theorem wrap_abs {x : Int} (h0 : -4611686018427387904 ≤ x) (h : x < 0) : IntKind.u64.wrap (-IntKind.u64.wrap x) = x.natAbs := by
  rw [IntKind.wrap_u64, IntKind.wrap_u64]; omega


set_option maxHeartbeats 400000 in
theorem size_any (x : Int) (w : World) (h0 : -4611686018427387904 ≤ x) (h1 : x ≤ 4611686018427387904) :
    Calls Try.prog 65 #[.int .i64 x] w fun e w' => e = .returned (.int .u64 (x.natAbs : Int)) ∧ w = w' := by
  go_enter Try.func65, Try.ntmps65
  go_wp2
  all_goals go_ret
  all_goals refine ⟨ret_int ?_, rfl⟩
  · exact wrap_abs h0 (by assumption)
  · omega

set_option maxHeartbeats 400000 in
theorem gcdU_any (x y : Nat) (w : World) (h0 : x ≤ 4611686018427387904) (h1 : y ≤ 4611686018427387904) :
    Calls Try.prog 64 #[.int .u64 x, .int .u64 y] w (DrewP (.int .u64 (Nat.gcd x y : Nat)) w) := by
  go_enter Try.func64, Try.ntmps64
  go_wp2_with fail
  go_loopw [0, 1] (fun s0 s1 wr => ∃ a b : Nat, s0 = .int .u64 a ∧ s1 = .int .u64 b ∧ a ≤ 4611686018427387904 ∧ b ≤ 4611686018427387904 ∧ Hid (Nat.gcd a b = Nat.gcd x y) ∧ Hid (∃ n, wr = w.drewN n)) (fun _ s1 _ => (intOf s1).toNat)
  case atStart => exact ⟨x, y, rfl, rfl, h0, h1, rfl, 0, rfl⟩
  case round =>
    obtain ⟨a, b, rfl, rfl, ha, hb, HG, HW⟩ := hrel
    by_cases hz : b = 0
    · subst hz
      have e1 : a = Nat.gcd x y := by rw [← HG.out, Nat.gcd_zero_right]
      go_wp2_with fail
      go_ret
      exact ⟨ret_int (by rw [e1]), HW.out⟩
    · have hq : ((b : Int) != 0) = true := by rw [bne_iff_ne]; omega
      have hq2 : ((b : Int) == 0) = false := by rw [beq_eq_false_iff_ne]; omega
      go_wp2_with fail
      go_quiet (fail)
      go_wp2_with fail
      go_roundw
      case rel =>
        refine ⟨b, a % b, rfl, by go_num, hb, Nat.le_trans (Nat.le_of_lt (Nat.mod_lt _ (by omega))) hb, ?_, ?_⟩
        · show _ = _
          rw [← HG.out, Nat.gcd_comm, ← Nat.gcd_rec, Nat.gcd_comm]
        · obtain ⟨n, hn⟩ := HW.out
          exact ⟨n + nq, by rw [hn, World.drewN_drewN]⟩
      case measure =>
        have h1 := Nat.mod_lt a (show 0 < b by omega)
        have h2 : ((a : Int) % (b : Int)) = ((a % b : Nat) : Int) := rfl
        show ((a : Int) % (b : Int)).toNat < (b : Int).toNat
        omega


theorem good_yes {num den : Int} (a : 1 ≤ den) (b : den ≤ 1073741824) (c : -1073741824 ≤ num) (d : num ≤ 1073741824) : fracGood num den = decide (Int.gcd num den = 1) := by
  rw [Bool.eq_iff_iff]; simp [fracGood, a, b, c, d]

set_option maxRecDepth 100000 in
set_option maxHeartbeats 1000000 in
theorem fracCheck_any (num den : Int) (w : World) :
    Calls Try.prog 48 #[.agg #[.int .i64 num, .int .i64 den]] w fun e w' => e = .returned (.agg #[.int .i64 (if fracGood num den then 0 else 3), .int .i64 0]) ∧ Below w.heap.size w w' := by
  have hb : ∀ (o1 o2 : Obj) (n : Nat), Below w.heap.size w (((w.alloc o1).alloc o2).drewN n) := fun o1 o2 n => below_drewN (((Below.refl _ _).alloc (Nat.le_refl _) _).alloc (by simp) _) n
  have HB := Lib.hid hb
  clear hb
  by_cases h1 : den < 1
  · have e1 : fracGood num den = false := by simp [fracGood]; omega
    rw [e1]
    clear e1
    have q1 : decide (den < 1) = true := by simpa using h1
    go_enter Try.func48, Try.ntmps48
    go_wp2_with fail
    go_quiet (fail)
    go_wp2_with fail
    refine bodyPost_ret (v := .agg #[.int .i64 3, .int .i64 0]) (by simp [results, Try.results48, go_sem]) rfl ⟨rfl, ?_⟩
    exact ((HB.out _ _ _).setCell (p := ⟨w.heap.size + 1, 0, none⟩) (by simp) _).setCell (p := ⟨w.heap.size + 1, 1, none⟩) (by simp) _
  have q1 : decide (den < 1) = false := by simpa using h1
  by_cases h2 : 1073741824 < den
  · have e1 : fracGood num den = false := by simp [fracGood]; omega
    rw [e1]
    clear e1
    have q2 : decide (1073741824 < den) = true := by simpa using h2
    go_enter Try.func48, Try.ntmps48
    go_wp2_with fail
    go_quiet (fail)
    go_wp2_with fail
    refine bodyPost_ret (v := .agg #[.int .i64 3, .int .i64 0]) (by simp [results, Try.results48, go_sem]) rfl ⟨rfl, ?_⟩
    exact ((HB.out _ _ _).setCell (p := ⟨w.heap.size + 1, 0, none⟩) (by simp) _).setCell (p := ⟨w.heap.size + 1, 1, none⟩) (by simp) _
  have q2 : decide (1073741824 < den) = false := by simpa using h2
  by_cases h3 : num < -1073741824
  · have e1 : fracGood num den = false := by simp [fracGood]; omega
    rw [e1]
    clear e1
    have q3 : decide (num < -1073741824) = true := by simpa using h3
    go_enter Try.func48, Try.ntmps48
    go_wp2_with fail
    go_quiet (fail)
    go_wp2_with fail
    refine bodyPost_ret (v := .agg #[.int .i64 3, .int .i64 0]) (by simp [results, Try.results48, go_sem]) rfl ⟨rfl, ?_⟩
    exact ((HB.out _ _ _).setCell (p := ⟨w.heap.size + 1, 0, none⟩) (by simp) _).setCell (p := ⟨w.heap.size + 1, 1, none⟩) (by simp) _
  have q3 : decide (num < -1073741824) = false := by simpa using h3
  by_cases h4 : 1073741824 < num
  · have e1 : fracGood num den = false := by simp [fracGood]; omega
    rw [e1]
    clear e1
    have q4 : decide (1073741824 < num) = true := by simpa using h4
    go_enter Try.func48, Try.ntmps48
    go_wp2_with fail
    go_quiet (fail)
    go_wp2_with fail
    refine bodyPost_ret (v := .agg #[.int .i64 3, .int .i64 0]) (by simp [results, Try.results48, go_sem]) rfl ⟨rfl, ?_⟩
    exact ((HB.out _ _ _).setCell (p := ⟨w.heap.size + 1, 0, none⟩) (by simp) _).setCell (p := ⟨w.heap.size + 1, 1, none⟩) (by simp) _
  have q4 : decide (1073741824 < num) = false := by simpa using h4
  rw [good_yes (by omega) (by omega) (by omega) (by omega)]
  have hgd : Nat.gcd num.natAbs den.natAbs = Int.gcd num den := rfl
  have HG := Lib.hid (fun W => gcdU_any num.natAbs den.natAbs W (by omega) (by omega))
  rw [hgd] at HG
  generalize Int.gcd num den = g at HG
  clear hgd
  by_cases h5 : g = 1
  · subst h5
    go_enter Try.func48, Try.ntmps48
    go_wp2_with fail
    go_quiet ((first | (go_at_call 65; exact quiet_eq (size_any _ _ (by omega) (by omega))) | (go_at_call 64; exact Calls.quiet_of (HG.out _))))
    go_wp2_with fail
    refine bodyPost_ret (v := .agg #[.int .i64 0, .int .i64 0]) (by simp [results, Try.results48, go_sem]) rfl ⟨rfl, ?_⟩
    exact ((HB.out _ _ _).setCell (p := ⟨w.heap.size + 1, 0, none⟩) (by simp) _).setCell (p := ⟨w.heap.size + 1, 1, none⟩) (by simp) _
  · have q5 : ((g : Int) != 1) = true := by rw [bne_iff_ne]; omega
    rw [show decide (g = 1) = false by simpa using h5]
    clear h5
    go_enter Try.func48, Try.ntmps48
    go_wp2_with fail
    go_quiet ((first | (go_at_call 65; exact quiet_eq (size_any _ _ (by omega) (by omega))) | (go_at_call 64; exact Calls.quiet_of (HG.out _))))
    go_wp2_with fail
    refine bodyPost_ret (v := .agg #[.int .i64 3, .int .i64 0]) (by simp [results, Try.results48, go_sem]) rfl ⟨rfl, ?_⟩
    exact ((HB.out _ _ _).setCell (p := ⟨w.heap.size + 1, 0, none⟩) (by simp) _).setCell (p := ⟨w.heap.size + 1, 1, none⟩) (by simp) _
end Go.Proofs.Ytdncchlfeanlmaa
