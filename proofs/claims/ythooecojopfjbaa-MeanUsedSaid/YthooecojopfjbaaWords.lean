/- Walks: words: their bounds, what an operation wants: the program. · Walks: an operation on words: the program. -/
import Derived.Test.YthooecojopfjbaaAskEF
import Derived.Test.YthooecojopfjbaaPlainV
import Derived.Deep.LoopGhost
import Derived.Test.YthooecojopfjbaaCore
namespace Go.Proofs.Ythooecojopfjbaa
open Go.RowKit

set_option maxHeartbeats 400000 in
theorem width_yes (b : Int) (w : World) (h1 : 1 ≤ b) (h8 : b ≤ 8) : Calls Try.prog 132 #[.int .i64 b] w fun e w' => e = .returned (.bool true) ∧ w = w' := by
  go_enter Try.func132, Try.ntmps132
  go_wp2_with fail
  go_ret
  exact ⟨ret_bool (by simp), rfl⟩
theorem pow_bits {b : Int} (h1 : 1 ≤ b) (h8 : b ≤ 8) : 2 ≤ (2 : Int) ^ b.toNat ∧ (2 : Int) ^ b.toNat ≤ 256 := by
  have h : b = 1 ∨ b = 2 ∨ b = 3 ∨ b = 4 ∨ b = 5 ∨ b = 6 ∨ b = 7 ∨ b = 8 := by omega
  rcases h with rfl | rfl | rfl | rfl | rfl | rfl | rfl | rfl <;> decide
set_option maxHeartbeats 400000 in
theorem in_yes (x b : Int) (w : World) (h1 : 1 ≤ b) (h8 : b ≤ 8) (hx0 : 0 ≤ x) (hx : x < 2 ^ b.toNat) : Calls Try.prog 134 #[.int .i64 x, .int .i64 b] w fun e w' => e = .returned (.bool true) ∧ w = w' := by
  have hp := pow_bits h1 h8
  have hw : IntKind.i64.wrap (1 * 2 ^ b.toNat) = 2 ^ b.toNat := by rw [Int.one_mul]; generalize (2 : Int) ^ b.toNat = p at hp; rw [IntKind.wrap_i64]; omega
  go_enter Try.func134, Try.ntmps134
  go_wp2_with fail
  go_ret
  exact ⟨ret_bool (by simp), rfl⟩

theorem ofInt_nat {x : Int} (h0 : 0 ≤ x) (h1 : x < 9223372036854775808) : (BitVec.ofInt 64 x).toNat = x.toNat := by
  rw [BitVec.toNat_ofInt]; omega
theorem bits_and {x y : Int} (hx0 : 0 ≤ x) (hx : x < 4611686018427387904) (hy0 : 0 ≤ y) (hy : y < 4611686018427387904) : bits .and .i64 x y = landN x y := by
  have e : bits .and .i64 x y = IntKind.i64.wrap (((BitVec.ofInt 64 x &&& BitVec.ofInt 64 y).toNat : Nat) : Int) := rfl
  rw [e, BitVec.toNat_and, ofInt_nat hx0 (by omega), ofInt_nat hy0 (by omega), landN, IntKind.wrap_i64]
  have := Nat.and_le_left (n := x.toNat) (m := y.toNat)
  omega
theorem bits_or {x y : Int} (hx0 : 0 ≤ x) (hx : x < 256) (hy0 : 0 ≤ y) (hy : y < 256) : bits .or .i64 x y = lorN x y := by
  have e : bits .or .i64 x y = IntKind.i64.wrap (((BitVec.ofInt 64 x ||| BitVec.ofInt 64 y).toNat : Nat) : Int) := rfl
  rw [e, BitVec.toNat_or, ofInt_nat hx0 (by omega), ofInt_nat hy0 (by omega), lorN, IntKind.wrap_i64]
  have := Nat.or_lt_two_pow (n := 8) (x := x.toNat) (y := y.toNat) (by omega) (by omega)
  omega
theorem bits_xor {x y : Int} (hx0 : 0 ≤ x) (hx : x < 256) (hy0 : 0 ≤ y) (hy : y < 256) : bits .xor .i64 x y = lxorN x y := by
  have e : bits .xor .i64 x y = IntKind.i64.wrap (((BitVec.ofInt 64 x ^^^ BitVec.ofInt 64 y).toNat : Nat) : Int) := rfl
  rw [e, BitVec.toNat_xor, ofInt_nat hx0 (by omega), ofInt_nat hy0 (by omega), lxorN, IntKind.wrap_i64]
  have := Nat.xor_lt_two_pow (n := 8) (x := x.toNat) (y := y.toNat) (by omega) (by omega)
  omega
theorem bits_not {x : Int} (hx0 : 0 ≤ x) (hx : x < 256) : bits .xor .i64 (-1) x = -1 - x := by
  have e : bits .xor .i64 (-1) x = IntKind.i64.wrap (((BitVec.ofInt 64 (-1) ^^^ BitVec.ofInt 64 x).toNat : Nat) : Int) := rfl
  have h1 : BitVec.ofInt 64 (-1) = BitVec.allOnes 64 := by decide
  rw [e, h1, BitVec.allOnes_xor, BitVec.toNat_not, ofInt_nat hx0 (by omega), IntKind.wrap_i64]
  omega
theorem bits_mask {z b : Int} (h1 : 1 ≤ b) (h8 : b ≤ 8) : bits .and .i64 z (2 ^ b.toNat - 1) = z % 2 ^ b.toNat := by
  have e : bits .and .i64 z (2 ^ b.toNat - 1) = IntKind.i64.wrap (((BitVec.ofInt 64 z &&& BitVec.ofInt 64 (2 ^ b.toNat - 1)).toNat : Nat) : Int) := rfl
  have hp := pow_bits h1 h8
  have hc : ((2 ^ b.toNat : Nat) : Int) = 2 ^ b.toNat := by simp
  have h2 : (BitVec.ofInt 64 (2 ^ b.toNat - 1)).toNat = 2 ^ b.toNat - 1 := by rw [ofInt_nat (by omega) (by omega)]; omega
  rw [e, BitVec.toNat_and, h2, Nat.and_two_pow_sub_one_eq_mod, BitVec.toNat_ofInt, IntKind.wrap_i64]
  have h : b = 1 ∨ b = 2 ∨ b = 3 ∨ b = 4 ∨ b = 5 ∨ b = 6 ∨ b = 7 ∨ b = 8 := by omega
  clear e h2 hp hc
  rcases h with rfl | rfl | rfl | rfl | rfl | rfl | rfl | rfl <;> simp <;> omega
end Go.Proofs.Ythooecojopfjbaa
namespace Go.Proofs.Ythooecojopfjbaa
open Go.RowKit

set_option maxHeartbeats 400000 in
theorem operands_any (op k : Int) (w : World) (h : (op = 15 ∧ k = 0) ∨ ((op = 16 ∨ op = 23) ∧ k = 1) ∨ ((op = 17 ∨ op = 18 ∨ op = 19 ∨ op = 20 ∨ op = 21 ∨ op = 22) ∧ k = 2)) : Calls Try.prog 133 #[.int .i64 op] w fun e w' => e = .returned (.int .i64 k) ∧ w = w' := by
  rcases h with ⟨rfl, rfl⟩ | ⟨rfl | rfl, rfl⟩ | ⟨rfl | rfl | rfl | rfl | rfl | rfl, rfl⟩
  all_goals
    go_enter Try.func133, Try.ntmps133
    go_wp2_with fail
    go_ret
    exact ⟨rfl, rfl⟩
set_option maxHeartbeats 1000000 in
theorem fits_yes (op b n : Int) (w : World) (h1 : 1 ≤ b) (h8 : b ≤ 8) (h : (op = 15 ∧ 0 ≤ n ∧ n < 2 ^ b.toNat) ∨ (op = 23 ∧ 0 ≤ n ∧ n ≤ 8) ∨ ((op = 16 ∨ op = 17 ∨ op = 18 ∨ op = 19 ∨ op = 20 ∨ op = 21 ∨ op = 22) ∧ n = 0)) : Calls Try.prog 135 #[.int .i64 op, .int .i64 b, .int .i64 n] w fun e w' => e = .returned (.bool true) ∧ w = w' := by
  rcases h with ⟨rfl, h2, h3⟩ | ⟨rfl, h2, h3⟩ | ⟨rfl | rfl | rfl | rfl | rfl | rfl | rfl, rfl⟩
  · go_enter Try.func135, Try.ntmps135
    go_wp2_with (go_at_call 134; refine (in_yes n b _ h1 h8 h2 h3).mono ?_; rintro e w' ⟨rfl, rfl⟩)
    go_ret
    exact ⟨rfl, rfl⟩
  · go_enter Try.func135, Try.ntmps135
    go_wp2_with fail
    go_ret
    exact ⟨ret_bool (by simp), rfl⟩
  all_goals
    go_enter Try.func135, Try.ntmps135
    go_wp2_with fail
    go_ret
    exact ⟨ret_bool (by simp), rfl⟩

/-- a word's result, and no fault -/
def DoP (w : World) (R : Int) (e : Ending) (w' : World) : Prop := e = .returned (.tuple #[.int .i64 R, .agg #[.int .i64 0, .int .i64 0]]) ∧ Below w.heap.size w w'
theorem mul256 {x y : Int} (h1 : 0 ≤ x) (h2 : x ≤ 256) (h3 : 0 ≤ y) (h4 : y ≤ 256) : 0 ≤ x * y ∧ x * y ≤ 65536 := by
  have := Int.mul_le_mul h2 h4 h3 (by omega)
  exact ⟨Int.mul_nonneg h1 h3, by omega⟩
theorem pow_shift {n : Int} (h1 : 0 ≤ n) (h8 : n ≤ 8) : (1 : Int) ≤ 2 ^ n.toNat ∧ (2 : Int) ^ n.toNat ≤ 256 := by
  have h : n = 0 ∨ n = 1 ∨ n = 2 ∨ n = 3 ∨ n = 4 ∨ n = 5 ∨ n = 6 ∨ n = 7 ∨ n = 8 := by omega
  rcases h with rfl | rfl | rfl | rfl | rfl | rfl | rfl | rfl | rfl <;> decide

set_option maxRecDepth 100000 in
set_option maxHeartbeats 2000000 in
theorem do_15 (b : Int) (n : Int) (A : Option Addr) (c : Nat) (R : Int) (w : World) (h1 : 1 ≤ b) (h8 : b ≤ 8) (hn0 : 0 ≤ n) (hn : n < 2 ^ b.toNat) (hks : IntsB w w.heap.size A 0 []) (hR : wordF 15 b 0 0 n = R) :
    Calls Try.prog 109 #[.int .i64 15, .int .i64 b, .slice A 0 c, .int .i64 n] w (DoP w R) := by
  have hp := pow_bits h1 h8
  have hm : bits .and .i64 n (2 ^ b.toNat - 1) = R := by rw [bits_mask h1 h8, Int.emod_eq_of_lt hn0 hn, ← hR]; simp [wordF]
  have HW := Lib.hid (fun W => width_yes b W h1 h8)
  have HO := Lib.hid (fun W => operands_any 15 0 W (by omega))
  have HF := Lib.hid (fun W => fits_yes 15 b n W h1 h8 (.inl ⟨rfl, hn0, hn⟩))
  have hmem : ∀ z : Int, z ∈ ([] : List Int) → 0 ≤ z ∧ z < 2 ^ b.toNat := fun z hz => by simp at hz
  have HI := Lib.hid (fun (z : Int) (hz : z ∈ ([] : List Int)) W => in_yes z b W h1 h8 (hmem z hz).1 (hmem z hz).2)
  have HKS := Lib.hid hks
  clear hks hmem
  go_enter Try.func109, Try.ntmps109
  go_wp2_with (first | (go_at_call 132; refine (HW.out _).mono ?_; rintro e w' ⟨rfl, rfl⟩) | (go_at_call 133; refine (HO.out _).mono ?_; rintro e w' ⟨rfl, rfl⟩) | fail)
  go_loopw [35] (fun s wr => ∃ k : Nat, k ≤ 0 ∧ s = .int .i64 k ∧ Below w.heap.size w wr ∧ Blk wr w.heap.size 29 #[.int .i64 0, .int .i64 0]) (fun s _ => 0 - (intOf s).toNat)
  case atStart => exact ⟨0, Nat.zero_le _, rfl, (Below.refl _ _).alloc (Nat.le_refl _) _, Blk.new _ _ _⟩
  case round =>
    obtain ⟨k, hk, rfl, hbel, hbf⟩ := hrel
    have hz : w.heap.size < wr.heap.size := hbf.lt
    have hxs := HKS.out.below stays_int hbel (Nat.le_refl _)
    by_cases hlt : k < 0
    · omega
    · have HB := Lib.hid (And.intro hbel hbf)
      have hkI : ¬ ((k : Int) < 0) := by omega
      have z0 : wr.cell? ⟨w.heap.size, 0, none⟩ = some (.int .i64 0) := hbf.cell 0
      have z1 : wr.cell? ⟨w.heap.size, 1, none⟩ = some (.int .i64 0) := hbf.cell 1
      have v0 : wr.frozen? ⟨w.heap.size, 0, none⟩ = false := hbf.frozen 0
      have v1 : wr.frozen? ⟨w.heap.size, 1, none⟩ = false := hbf.frozen 1
      clear hbel hbf hxs
      go_wp2_with (go_at_call 135; refine (HF.out _).mono ?_; rintro e w' ⟨rfl, rfl⟩)
      clear z0 z1 v0 v1
      have hz1 := two_blk HB.out.2 (.int .i64 0) (.int .i64 0)
      have hz2 : Below w.heap.size w (two wr w.heap.size (.int .i64 0) (.int .i64 0)) := two_below HB.out.1 (Nat.le_refl _) (.int .i64 0) (.int .i64 0)
      have e4 : (wr.setCell ⟨w.heap.size, 0, none⟩ (.int .i64 0)).setCell ⟨w.heap.size, 1, none⟩ (.int .i64 0) = two wr w.heap.size (.int .i64 0) (.int .i64 0) := rfl
      rw [e4]
      clear e4
      generalize two wr w.heap.size (.int .i64 0) (.int .i64 0) = Z at hz1 hz2 ⊢
      have d0 := hz1.cell 0
      have d1 := hz1.cell 1
      simp only [List.getElem?_toArray, List.getElem?_cons_zero, List.getElem?_cons_succ] at d0 d1
      exact bodyPost_ret (v := .tuple #[.int .i64 R, .agg #[.int .i64 0, .int .i64 0]]) (by simp [results, Try.results109, go_sem, d0, d1]) rfl ⟨rfl, hz2⟩

set_option maxRecDepth 100000 in
set_option maxHeartbeats 2000000 in
theorem do_16 (b : Int) (x : Int) (A : Option Addr) (c : Nat) (R : Int) (w : World) (h1 : 1 ≤ b) (h8 : b ≤ 8) (hx0 : 0 ≤ x) (hx : x < 2 ^ b.toNat) (hks : IntsB w w.heap.size A 1 [x]) (hR : wordF 16 b x 0 0 = R) :
    Calls Try.prog 109 #[.int .i64 16, .int .i64 b, .slice A 1 c, .int .i64 0] w (DoP w R) := by
  have hp := pow_bits h1 h8
  have hnot := bits_not hx0 (by omega)
  have hm : bits .and .i64 (-1 - x) (2 ^ b.toNat - 1) = R := by
    rw [bits_mask h1 h8, ← hR, show wordF 16 b x 0 0 = 2 ^ b.toNat - 1 - x from by simp [wordF], show -1 - x = (2 ^ b.toNat - 1 - x) - 2 ^ b.toNat from by omega, Int.sub_emod_right, Int.emod_eq_of_lt (by omega) (by omega)]
  have HW := Lib.hid (fun W => width_yes b W h1 h8)
  have HO := Lib.hid (fun W => operands_any 16 1 W (by omega))
  have HF := Lib.hid (fun W => fits_yes 16 b 0 W h1 h8 (.inr (.inr ⟨by omega, rfl⟩)))
  have hmem : ∀ z : Int, z ∈ ([x] : List Int) → 0 ≤ z ∧ z < 2 ^ b.toNat := fun z hz => by simp only [List.mem_cons, List.not_mem_nil, or_false] at hz; rw [hz]; exact ⟨hx0, hx⟩
  have HI := Lib.hid (fun (z : Int) (hz : z ∈ ([x] : List Int)) W => in_yes z b W h1 h8 (hmem z hz).1 (hmem z hz).2)
  have HKS := Lib.hid hks
  clear hks hmem
  go_enter Try.func109, Try.ntmps109
  go_wp2_with (first | (go_at_call 132; refine (HW.out _).mono ?_; rintro e w' ⟨rfl, rfl⟩) | (go_at_call 133; refine (HO.out _).mono ?_; rintro e w' ⟨rfl, rfl⟩) | fail)
  go_loopw [35] (fun s wr => ∃ k : Nat, k ≤ 1 ∧ s = .int .i64 k ∧ Below w.heap.size w wr ∧ Blk wr w.heap.size 29 #[.int .i64 0, .int .i64 0]) (fun s _ => 1 - (intOf s).toNat)
  case atStart => exact ⟨0, Nat.zero_le _, rfl, (Below.refl _ _).alloc (Nat.le_refl _) _, Blk.new _ _ _⟩
  case round =>
    obtain ⟨k, hk, rfl, hbel, hbf⟩ := hrel
    have hz : w.heap.size < wr.heap.size := hbf.lt
    have hxs := HKS.out.below stays_int hbel (Nat.le_refl _)
    by_cases hlt : k < 1
    · obtain ⟨b0, off, hx1, rfl, hb, hc, -, -⟩ := ints_get hxs hlt
      have HC := Lib.hid (HI.out _ (List.getElem_mem hx1))
      generalize ([x] : List Int)[k] = z at HC hc
      have HB := Lib.hid (And.intro hbel hbf)
      clear hbel hbf hxs hx1
      go_wp2_with (go_at_call 134; refine (HC.out _).mono ?_; rintro e w' ⟨rfl, rfl⟩)
      go_roundw
      case rel => exact ⟨k + 1, by omega, by go_num, HB.out.1, HB.out.2⟩
      case measure => simp [intOf]; omega
    · have HB := Lib.hid (And.intro hbel hbf)
      have hkI : ¬ ((k : Int) < 1) := by omega
      obtain ⟨b0, off, hx1, hA, -, hc0, -, -⟩ := ints_get hxs (i := 0) (by omega)
      subst hA
      simp only [List.getElem_cons_zero, Nat.add_zero] at hc0
      have z0 : wr.cell? ⟨w.heap.size, 0, none⟩ = some (.int .i64 0) := hbf.cell 0
      have z1 : wr.cell? ⟨w.heap.size, 1, none⟩ = some (.int .i64 0) := hbf.cell 1
      have v0 : wr.frozen? ⟨w.heap.size, 0, none⟩ = false := hbf.frozen 0
      have v1 : wr.frozen? ⟨w.heap.size, 1, none⟩ = false := hbf.frozen 1
      clear hbel hbf hxs
      go_wp2_with (go_at_call 135; refine (HF.out _).mono ?_; rintro e w' ⟨rfl, rfl⟩)
      clear z0 z1 v0 v1
      have hz1 := two_blk HB.out.2 (.int .i64 0) (.int .i64 0)
      have hz2 : Below w.heap.size w (two wr w.heap.size (.int .i64 0) (.int .i64 0)) := two_below HB.out.1 (Nat.le_refl _) (.int .i64 0) (.int .i64 0)
      have e4 : (wr.setCell ⟨w.heap.size, 0, none⟩ (.int .i64 0)).setCell ⟨w.heap.size, 1, none⟩ (.int .i64 0) = two wr w.heap.size (.int .i64 0) (.int .i64 0) := rfl
      rw [e4]
      clear e4
      generalize two wr w.heap.size (.int .i64 0) (.int .i64 0) = Z at hz1 hz2 ⊢
      have d0 := hz1.cell 0
      have d1 := hz1.cell 1
      simp only [List.getElem?_toArray, List.getElem?_cons_zero, List.getElem?_cons_succ] at d0 d1
      exact bodyPost_ret (v := .tuple #[.int .i64 R, .agg #[.int .i64 0, .int .i64 0]]) (by simp [results, Try.results109, go_sem, d0, d1]) rfl ⟨rfl, hz2⟩

set_option maxRecDepth 100000 in
set_option maxHeartbeats 2000000 in
theorem do_17 (b : Int) (x y : Int) (A : Option Addr) (c : Nat) (R : Int) (w : World) (h1 : 1 ≤ b) (h8 : b ≤ 8) (hx0 : 0 ≤ x) (hx : x < 2 ^ b.toNat) (hy0 : 0 ≤ y) (hy : y < 2 ^ b.toNat) (hks : IntsB w w.heap.size A 2 [x, y]) (hR : wordF 17 b x y 0 = R) :
    Calls Try.prog 109 #[.int .i64 17, .int .i64 b, .slice A 2 c, .int .i64 0] w (DoP w R) := by
  have hp := pow_bits h1 h8
  have hop : bits .and .i64 x y = landN x y := bits_and hx0 (by omega) hy0 (by omega)
  have hwg := word_good (op := 17) (b := b) (x := x) (y := y) (n := 0) (by omega) hx0 hx (.inr (.inr hy0)) (.inr (.inr hy))
  rw [show wordF 17 b x y 0 = landN x y from by simp [wordF]] at hwg hR
  have hm : bits .and .i64 R (2 ^ b.toNat - 1) = R := by rw [← hR, bits_mask h1 h8, Int.emod_eq_of_lt hwg.1 hwg.2]
  rw [hR] at hop
  have HW := Lib.hid (fun W => width_yes b W h1 h8)
  have HO := Lib.hid (fun W => operands_any 17 2 W (by omega))
  have HF := Lib.hid (fun W => fits_yes 17 b 0 W h1 h8 (.inr (.inr ⟨by omega, rfl⟩)))
  have hmem : ∀ z : Int, z ∈ ([x, y] : List Int) → 0 ≤ z ∧ z < 2 ^ b.toNat := fun z hz => by simp only [List.mem_cons, List.not_mem_nil, or_false] at hz; rcases hz with e | e <;> rw [e] <;> exact ⟨by assumption, by assumption⟩
  have HI := Lib.hid (fun (z : Int) (hz : z ∈ ([x, y] : List Int)) W => in_yes z b W h1 h8 (hmem z hz).1 (hmem z hz).2)
  have HKS := Lib.hid hks
  clear hks hmem
  go_enter Try.func109, Try.ntmps109
  go_wp2_with (first | (go_at_call 132; refine (HW.out _).mono ?_; rintro e w' ⟨rfl, rfl⟩) | (go_at_call 133; refine (HO.out _).mono ?_; rintro e w' ⟨rfl, rfl⟩) | fail)
  go_loopw [35] (fun s wr => ∃ k : Nat, k ≤ 2 ∧ s = .int .i64 k ∧ Below w.heap.size w wr ∧ Blk wr w.heap.size 29 #[.int .i64 0, .int .i64 0]) (fun s _ => 2 - (intOf s).toNat)
  case atStart => exact ⟨0, Nat.zero_le _, rfl, (Below.refl _ _).alloc (Nat.le_refl _) _, Blk.new _ _ _⟩
  case round =>
    obtain ⟨k, hk, rfl, hbel, hbf⟩ := hrel
    have hz : w.heap.size < wr.heap.size := hbf.lt
    have hxs := HKS.out.below stays_int hbel (Nat.le_refl _)
    by_cases hlt : k < 2
    · obtain ⟨b0, off, hx1, rfl, hb, hc, -, -⟩ := ints_get hxs hlt
      have HC := Lib.hid (HI.out _ (List.getElem_mem hx1))
      generalize ([x, y] : List Int)[k] = z at HC hc
      have HB := Lib.hid (And.intro hbel hbf)
      clear hbel hbf hxs hx1
      go_wp2_with (go_at_call 134; refine (HC.out _).mono ?_; rintro e w' ⟨rfl, rfl⟩)
      go_roundw
      case rel => exact ⟨k + 1, by omega, by go_num, HB.out.1, HB.out.2⟩
      case measure => simp [intOf]; omega
    · have HB := Lib.hid (And.intro hbel hbf)
      have hkI : ¬ ((k : Int) < 2) := by omega
      obtain ⟨b0, off, hx1, hA, -, hc0, -, -⟩ := ints_get hxs (i := 0) (by omega)
      subst hA
      obtain ⟨b1, off1, hx2, hA1, -, hc1, -, -⟩ := ints_get hxs (i := 1) (by omega)
      injection hA1 with hA1
      injection hA1 with e1 e2
      subst e1 e2
      simp only [List.getElem_cons_zero, Nat.add_zero] at hc0
      simp only [List.getElem_cons_succ, List.getElem_cons_zero] at hc1
      have z0 : wr.cell? ⟨w.heap.size, 0, none⟩ = some (.int .i64 0) := hbf.cell 0
      have z1 : wr.cell? ⟨w.heap.size, 1, none⟩ = some (.int .i64 0) := hbf.cell 1
      have v0 : wr.frozen? ⟨w.heap.size, 0, none⟩ = false := hbf.frozen 0
      have v1 : wr.frozen? ⟨w.heap.size, 1, none⟩ = false := hbf.frozen 1
      clear hbel hbf hxs
      go_wp2_with (go_at_call 135; refine (HF.out _).mono ?_; rintro e w' ⟨rfl, rfl⟩)
      go_quiet (fail)
      go_wp2_with fail
      clear z0 z1 v0 v1
      have hz1 := two_blk (HB.out.2.drewN nq) (.int .i64 0) (.int .i64 0)
      have hz2 : Below w.heap.size w (two (wr.drewN nq) w.heap.size (.int .i64 0) (.int .i64 0)) := two_below (below_drewN HB.out.1 nq) (Nat.le_refl _) (.int .i64 0) (.int .i64 0)
      have e4 : ((wr.drewN nq).setCell ⟨w.heap.size, 0, none⟩ (.int .i64 0)).setCell ⟨w.heap.size, 1, none⟩ (.int .i64 0) = two (wr.drewN nq) w.heap.size (.int .i64 0) (.int .i64 0) := rfl
      rw [e4]
      clear e4
      generalize two (wr.drewN nq) w.heap.size (.int .i64 0) (.int .i64 0) = Z at hz1 hz2 ⊢
      have d0 := hz1.cell 0
      have d1 := hz1.cell 1
      simp only [List.getElem?_toArray, List.getElem?_cons_zero, List.getElem?_cons_succ] at d0 d1
      exact bodyPost_ret (v := .tuple #[.int .i64 R, .agg #[.int .i64 0, .int .i64 0]]) (by simp [results, Try.results109, go_sem, d0, d1]) rfl ⟨rfl, hz2⟩

set_option maxRecDepth 100000 in
set_option maxHeartbeats 2000000 in
theorem do_18 (b : Int) (x y : Int) (A : Option Addr) (c : Nat) (R : Int) (w : World) (h1 : 1 ≤ b) (h8 : b ≤ 8) (hx0 : 0 ≤ x) (hx : x < 2 ^ b.toNat) (hy0 : 0 ≤ y) (hy : y < 2 ^ b.toNat) (hks : IntsB w w.heap.size A 2 [x, y]) (hR : wordF 18 b x y 0 = R) :
    Calls Try.prog 109 #[.int .i64 18, .int .i64 b, .slice A 2 c, .int .i64 0] w (DoP w R) := by
  have hp := pow_bits h1 h8
  have hop : bits .or .i64 x y = lorN x y := bits_or hx0 (by omega) hy0 (by omega)
  have hwg := word_good (op := 18) (b := b) (x := x) (y := y) (n := 0) (by omega) hx0 hx (.inr (.inr hy0)) (.inr (.inr hy))
  rw [show wordF 18 b x y 0 = lorN x y from by simp [wordF]] at hwg hR
  have hm : bits .and .i64 R (2 ^ b.toNat - 1) = R := by rw [← hR, bits_mask h1 h8, Int.emod_eq_of_lt hwg.1 hwg.2]
  rw [hR] at hop
  have HW := Lib.hid (fun W => width_yes b W h1 h8)
  have HO := Lib.hid (fun W => operands_any 18 2 W (by omega))
  have HF := Lib.hid (fun W => fits_yes 18 b 0 W h1 h8 (.inr (.inr ⟨by omega, rfl⟩)))
  have hmem : ∀ z : Int, z ∈ ([x, y] : List Int) → 0 ≤ z ∧ z < 2 ^ b.toNat := fun z hz => by simp only [List.mem_cons, List.not_mem_nil, or_false] at hz; rcases hz with e | e <;> rw [e] <;> exact ⟨by assumption, by assumption⟩
  have HI := Lib.hid (fun (z : Int) (hz : z ∈ ([x, y] : List Int)) W => in_yes z b W h1 h8 (hmem z hz).1 (hmem z hz).2)
  have HKS := Lib.hid hks
  clear hks hmem
  go_enter Try.func109, Try.ntmps109
  go_wp2_with (first | (go_at_call 132; refine (HW.out _).mono ?_; rintro e w' ⟨rfl, rfl⟩) | (go_at_call 133; refine (HO.out _).mono ?_; rintro e w' ⟨rfl, rfl⟩) | fail)
  go_loopw [35] (fun s wr => ∃ k : Nat, k ≤ 2 ∧ s = .int .i64 k ∧ Below w.heap.size w wr ∧ Blk wr w.heap.size 29 #[.int .i64 0, .int .i64 0]) (fun s _ => 2 - (intOf s).toNat)
  case atStart => exact ⟨0, Nat.zero_le _, rfl, (Below.refl _ _).alloc (Nat.le_refl _) _, Blk.new _ _ _⟩
  case round =>
    obtain ⟨k, hk, rfl, hbel, hbf⟩ := hrel
    have hz : w.heap.size < wr.heap.size := hbf.lt
    have hxs := HKS.out.below stays_int hbel (Nat.le_refl _)
    by_cases hlt : k < 2
    · obtain ⟨b0, off, hx1, rfl, hb, hc, -, -⟩ := ints_get hxs hlt
      have HC := Lib.hid (HI.out _ (List.getElem_mem hx1))
      generalize ([x, y] : List Int)[k] = z at HC hc
      have HB := Lib.hid (And.intro hbel hbf)
      clear hbel hbf hxs hx1
      go_wp2_with (go_at_call 134; refine (HC.out _).mono ?_; rintro e w' ⟨rfl, rfl⟩)
      go_roundw
      case rel => exact ⟨k + 1, by omega, by go_num, HB.out.1, HB.out.2⟩
      case measure => simp [intOf]; omega
    · have HB := Lib.hid (And.intro hbel hbf)
      have hkI : ¬ ((k : Int) < 2) := by omega
      obtain ⟨b0, off, hx1, hA, -, hc0, -, -⟩ := ints_get hxs (i := 0) (by omega)
      subst hA
      obtain ⟨b1, off1, hx2, hA1, -, hc1, -, -⟩ := ints_get hxs (i := 1) (by omega)
      injection hA1 with hA1
      injection hA1 with e1 e2
      subst e1 e2
      simp only [List.getElem_cons_zero, Nat.add_zero] at hc0
      simp only [List.getElem_cons_succ, List.getElem_cons_zero] at hc1
      have z0 : wr.cell? ⟨w.heap.size, 0, none⟩ = some (.int .i64 0) := hbf.cell 0
      have z1 : wr.cell? ⟨w.heap.size, 1, none⟩ = some (.int .i64 0) := hbf.cell 1
      have v0 : wr.frozen? ⟨w.heap.size, 0, none⟩ = false := hbf.frozen 0
      have v1 : wr.frozen? ⟨w.heap.size, 1, none⟩ = false := hbf.frozen 1
      clear hbel hbf hxs
      go_wp2_with (go_at_call 135; refine (HF.out _).mono ?_; rintro e w' ⟨rfl, rfl⟩)
      go_quiet (fail)
      go_wp2_with fail
      clear z0 z1 v0 v1
      have hz1 := two_blk (HB.out.2.drewN nq) (.int .i64 0) (.int .i64 0)
      have hz2 : Below w.heap.size w (two (wr.drewN nq) w.heap.size (.int .i64 0) (.int .i64 0)) := two_below (below_drewN HB.out.1 nq) (Nat.le_refl _) (.int .i64 0) (.int .i64 0)
      have e4 : ((wr.drewN nq).setCell ⟨w.heap.size, 0, none⟩ (.int .i64 0)).setCell ⟨w.heap.size, 1, none⟩ (.int .i64 0) = two (wr.drewN nq) w.heap.size (.int .i64 0) (.int .i64 0) := rfl
      rw [e4]
      clear e4
      generalize two (wr.drewN nq) w.heap.size (.int .i64 0) (.int .i64 0) = Z at hz1 hz2 ⊢
      have d0 := hz1.cell 0
      have d1 := hz1.cell 1
      simp only [List.getElem?_toArray, List.getElem?_cons_zero, List.getElem?_cons_succ] at d0 d1
      exact bodyPost_ret (v := .tuple #[.int .i64 R, .agg #[.int .i64 0, .int .i64 0]]) (by simp [results, Try.results109, go_sem, d0, d1]) rfl ⟨rfl, hz2⟩

set_option maxRecDepth 100000 in
set_option maxHeartbeats 2000000 in
theorem do_19 (b : Int) (x y : Int) (A : Option Addr) (c : Nat) (R : Int) (w : World) (h1 : 1 ≤ b) (h8 : b ≤ 8) (hx0 : 0 ≤ x) (hx : x < 2 ^ b.toNat) (hy0 : 0 ≤ y) (hy : y < 2 ^ b.toNat) (hks : IntsB w w.heap.size A 2 [x, y]) (hR : wordF 19 b x y 0 = R) :
    Calls Try.prog 109 #[.int .i64 19, .int .i64 b, .slice A 2 c, .int .i64 0] w (DoP w R) := by
  have hp := pow_bits h1 h8
  have hop : bits .xor .i64 x y = lxorN x y := bits_xor hx0 (by omega) hy0 (by omega)
  have hwg := word_good (op := 19) (b := b) (x := x) (y := y) (n := 0) (by omega) hx0 hx (.inr (.inr hy0)) (.inr (.inr hy))
  rw [show wordF 19 b x y 0 = lxorN x y from by simp [wordF]] at hwg hR
  have hm : bits .and .i64 R (2 ^ b.toNat - 1) = R := by rw [← hR, bits_mask h1 h8, Int.emod_eq_of_lt hwg.1 hwg.2]
  rw [hR] at hop
  have HW := Lib.hid (fun W => width_yes b W h1 h8)
  have HO := Lib.hid (fun W => operands_any 19 2 W (by omega))
  have HF := Lib.hid (fun W => fits_yes 19 b 0 W h1 h8 (.inr (.inr ⟨by omega, rfl⟩)))
  have hmem : ∀ z : Int, z ∈ ([x, y] : List Int) → 0 ≤ z ∧ z < 2 ^ b.toNat := fun z hz => by simp only [List.mem_cons, List.not_mem_nil, or_false] at hz; rcases hz with e | e <;> rw [e] <;> exact ⟨by assumption, by assumption⟩
  have HI := Lib.hid (fun (z : Int) (hz : z ∈ ([x, y] : List Int)) W => in_yes z b W h1 h8 (hmem z hz).1 (hmem z hz).2)
  have HKS := Lib.hid hks
  clear hks hmem
  go_enter Try.func109, Try.ntmps109
  go_wp2_with (first | (go_at_call 132; refine (HW.out _).mono ?_; rintro e w' ⟨rfl, rfl⟩) | (go_at_call 133; refine (HO.out _).mono ?_; rintro e w' ⟨rfl, rfl⟩) | fail)
  go_loopw [35] (fun s wr => ∃ k : Nat, k ≤ 2 ∧ s = .int .i64 k ∧ Below w.heap.size w wr ∧ Blk wr w.heap.size 29 #[.int .i64 0, .int .i64 0]) (fun s _ => 2 - (intOf s).toNat)
  case atStart => exact ⟨0, Nat.zero_le _, rfl, (Below.refl _ _).alloc (Nat.le_refl _) _, Blk.new _ _ _⟩
  case round =>
    obtain ⟨k, hk, rfl, hbel, hbf⟩ := hrel
    have hz : w.heap.size < wr.heap.size := hbf.lt
    have hxs := HKS.out.below stays_int hbel (Nat.le_refl _)
    by_cases hlt : k < 2
    · obtain ⟨b0, off, hx1, rfl, hb, hc, -, -⟩ := ints_get hxs hlt
      have HC := Lib.hid (HI.out _ (List.getElem_mem hx1))
      generalize ([x, y] : List Int)[k] = z at HC hc
      have HB := Lib.hid (And.intro hbel hbf)
      clear hbel hbf hxs hx1
      go_wp2_with (go_at_call 134; refine (HC.out _).mono ?_; rintro e w' ⟨rfl, rfl⟩)
      go_roundw
      case rel => exact ⟨k + 1, by omega, by go_num, HB.out.1, HB.out.2⟩
      case measure => simp [intOf]; omega
    · have HB := Lib.hid (And.intro hbel hbf)
      have hkI : ¬ ((k : Int) < 2) := by omega
      obtain ⟨b0, off, hx1, hA, -, hc0, -, -⟩ := ints_get hxs (i := 0) (by omega)
      subst hA
      obtain ⟨b1, off1, hx2, hA1, -, hc1, -, -⟩ := ints_get hxs (i := 1) (by omega)
      injection hA1 with hA1
      injection hA1 with e1 e2
      subst e1 e2
      simp only [List.getElem_cons_zero, Nat.add_zero] at hc0
      simp only [List.getElem_cons_succ, List.getElem_cons_zero] at hc1
      have z0 : wr.cell? ⟨w.heap.size, 0, none⟩ = some (.int .i64 0) := hbf.cell 0
      have z1 : wr.cell? ⟨w.heap.size, 1, none⟩ = some (.int .i64 0) := hbf.cell 1
      have v0 : wr.frozen? ⟨w.heap.size, 0, none⟩ = false := hbf.frozen 0
      have v1 : wr.frozen? ⟨w.heap.size, 1, none⟩ = false := hbf.frozen 1
      clear hbel hbf hxs
      go_wp2_with (go_at_call 135; refine (HF.out _).mono ?_; rintro e w' ⟨rfl, rfl⟩)
      go_quiet (fail)
      go_wp2_with fail
      clear z0 z1 v0 v1
      have hz1 := two_blk (HB.out.2.drewN nq) (.int .i64 0) (.int .i64 0)
      have hz2 : Below w.heap.size w (two (wr.drewN nq) w.heap.size (.int .i64 0) (.int .i64 0)) := two_below (below_drewN HB.out.1 nq) (Nat.le_refl _) (.int .i64 0) (.int .i64 0)
      have e4 : ((wr.drewN nq).setCell ⟨w.heap.size, 0, none⟩ (.int .i64 0)).setCell ⟨w.heap.size, 1, none⟩ (.int .i64 0) = two (wr.drewN nq) w.heap.size (.int .i64 0) (.int .i64 0) := rfl
      rw [e4]
      clear e4
      generalize two (wr.drewN nq) w.heap.size (.int .i64 0) (.int .i64 0) = Z at hz1 hz2 ⊢
      have d0 := hz1.cell 0
      have d1 := hz1.cell 1
      simp only [List.getElem?_toArray, List.getElem?_cons_zero, List.getElem?_cons_succ] at d0 d1
      exact bodyPost_ret (v := .tuple #[.int .i64 R, .agg #[.int .i64 0, .int .i64 0]]) (by simp [results, Try.results109, go_sem, d0, d1]) rfl ⟨rfl, hz2⟩

set_option maxRecDepth 100000 in
set_option maxHeartbeats 2000000 in
theorem do_20 (b : Int) (x y : Int) (A : Option Addr) (c : Nat) (R : Int) (w : World) (h1 : 1 ≤ b) (h8 : b ≤ 8) (hx0 : 0 ≤ x) (hx : x < 2 ^ b.toNat) (hy0 : 0 ≤ y) (hy : y < 2 ^ b.toNat) (hks : IntsB w w.heap.size A 2 [x, y]) (hR : wordF 20 b x y 0 = R) :
    Calls Try.prog 109 #[.int .i64 20, .int .i64 b, .slice A 2 c, .int .i64 0] w (DoP w R) := by
  have hp := pow_bits h1 h8
  have hm : bits .and .i64 (x + y) (2 ^ b.toNat - 1) = R := by rw [bits_mask h1 h8, ← hR]; simp [wordF]
  have HW := Lib.hid (fun W => width_yes b W h1 h8)
  have HO := Lib.hid (fun W => operands_any 20 2 W (by omega))
  have HF := Lib.hid (fun W => fits_yes 20 b 0 W h1 h8 (.inr (.inr ⟨by omega, rfl⟩)))
  have hmem : ∀ z : Int, z ∈ ([x, y] : List Int) → 0 ≤ z ∧ z < 2 ^ b.toNat := fun z hz => by simp only [List.mem_cons, List.not_mem_nil, or_false] at hz; rcases hz with e | e <;> rw [e] <;> exact ⟨by assumption, by assumption⟩
  have HI := Lib.hid (fun (z : Int) (hz : z ∈ ([x, y] : List Int)) W => in_yes z b W h1 h8 (hmem z hz).1 (hmem z hz).2)
  have HKS := Lib.hid hks
  clear hks hmem
  go_enter Try.func109, Try.ntmps109
  go_wp2_with (first | (go_at_call 132; refine (HW.out _).mono ?_; rintro e w' ⟨rfl, rfl⟩) | (go_at_call 133; refine (HO.out _).mono ?_; rintro e w' ⟨rfl, rfl⟩) | fail)
  go_loopw [35] (fun s wr => ∃ k : Nat, k ≤ 2 ∧ s = .int .i64 k ∧ Below w.heap.size w wr ∧ Blk wr w.heap.size 29 #[.int .i64 0, .int .i64 0]) (fun s _ => 2 - (intOf s).toNat)
  case atStart => exact ⟨0, Nat.zero_le _, rfl, (Below.refl _ _).alloc (Nat.le_refl _) _, Blk.new _ _ _⟩
  case round =>
    obtain ⟨k, hk, rfl, hbel, hbf⟩ := hrel
    have hz : w.heap.size < wr.heap.size := hbf.lt
    have hxs := HKS.out.below stays_int hbel (Nat.le_refl _)
    by_cases hlt : k < 2
    · obtain ⟨b0, off, hx1, rfl, hb, hc, -, -⟩ := ints_get hxs hlt
      have HC := Lib.hid (HI.out _ (List.getElem_mem hx1))
      generalize ([x, y] : List Int)[k] = z at HC hc
      have HB := Lib.hid (And.intro hbel hbf)
      clear hbel hbf hxs hx1
      go_wp2_with (go_at_call 134; refine (HC.out _).mono ?_; rintro e w' ⟨rfl, rfl⟩)
      go_roundw
      case rel => exact ⟨k + 1, by omega, by go_num, HB.out.1, HB.out.2⟩
      case measure => simp [intOf]; omega
    · have HB := Lib.hid (And.intro hbel hbf)
      have hkI : ¬ ((k : Int) < 2) := by omega
      obtain ⟨b0, off, hx1, hA, -, hc0, -, -⟩ := ints_get hxs (i := 0) (by omega)
      subst hA
      obtain ⟨b1, off1, hx2, hA1, -, hc1, -, -⟩ := ints_get hxs (i := 1) (by omega)
      injection hA1 with hA1
      injection hA1 with e1 e2
      subst e1 e2
      simp only [List.getElem_cons_zero, Nat.add_zero] at hc0
      simp only [List.getElem_cons_succ, List.getElem_cons_zero] at hc1
      have z0 : wr.cell? ⟨w.heap.size, 0, none⟩ = some (.int .i64 0) := hbf.cell 0
      have z1 : wr.cell? ⟨w.heap.size, 1, none⟩ = some (.int .i64 0) := hbf.cell 1
      have v0 : wr.frozen? ⟨w.heap.size, 0, none⟩ = false := hbf.frozen 0
      have v1 : wr.frozen? ⟨w.heap.size, 1, none⟩ = false := hbf.frozen 1
      clear hbel hbf hxs
      go_wp2_with (go_at_call 135; refine (HF.out _).mono ?_; rintro e w' ⟨rfl, rfl⟩)
      go_quiet (fail)
      go_wp2_with fail
      clear z0 z1 v0 v1
      have hz1 := two_blk (HB.out.2.drewN nq) (.int .i64 0) (.int .i64 0)
      have hz2 : Below w.heap.size w (two (wr.drewN nq) w.heap.size (.int .i64 0) (.int .i64 0)) := two_below (below_drewN HB.out.1 nq) (Nat.le_refl _) (.int .i64 0) (.int .i64 0)
      have e4 : ((wr.drewN nq).setCell ⟨w.heap.size, 0, none⟩ (.int .i64 0)).setCell ⟨w.heap.size, 1, none⟩ (.int .i64 0) = two (wr.drewN nq) w.heap.size (.int .i64 0) (.int .i64 0) := rfl
      rw [e4]
      clear e4
      generalize two (wr.drewN nq) w.heap.size (.int .i64 0) (.int .i64 0) = Z at hz1 hz2 ⊢
      have d0 := hz1.cell 0
      have d1 := hz1.cell 1
      simp only [List.getElem?_toArray, List.getElem?_cons_zero, List.getElem?_cons_succ] at d0 d1
      exact bodyPost_ret (v := .tuple #[.int .i64 R, .agg #[.int .i64 0, .int .i64 0]]) (by simp [results, Try.results109, go_sem, d0, d1]) rfl ⟨rfl, hz2⟩

set_option maxRecDepth 100000 in
set_option maxHeartbeats 2000000 in
theorem do_21 (b : Int) (x y : Int) (A : Option Addr) (c : Nat) (R : Int) (w : World) (h1 : 1 ≤ b) (h8 : b ≤ 8) (hx0 : 0 ≤ x) (hx : x < 2 ^ b.toNat) (hy0 : 0 ≤ y) (hy : y < 2 ^ b.toNat) (hks : IntsB w w.heap.size A 2 [x, y]) (hR : wordF 21 b x y 0 = R) :
    Calls Try.prog 109 #[.int .i64 21, .int .i64 b, .slice A 2 c, .int .i64 0] w (DoP w R) := by
  have hp := pow_bits h1 h8
  have hmul := mul256 hx0 (show x ≤ 256 by omega) hy0 (show y ≤ 256 by omega)
  have hm : bits .and .i64 (x * y) (2 ^ b.toNat - 1) = R := by rw [bits_mask h1 h8, ← hR]; simp [wordF]
  have HW := Lib.hid (fun W => width_yes b W h1 h8)
  have HO := Lib.hid (fun W => operands_any 21 2 W (by omega))
  have HF := Lib.hid (fun W => fits_yes 21 b 0 W h1 h8 (.inr (.inr ⟨by omega, rfl⟩)))
  have hmem : ∀ z : Int, z ∈ ([x, y] : List Int) → 0 ≤ z ∧ z < 2 ^ b.toNat := fun z hz => by simp only [List.mem_cons, List.not_mem_nil, or_false] at hz; rcases hz with e | e <;> rw [e] <;> exact ⟨by assumption, by assumption⟩
  have HI := Lib.hid (fun (z : Int) (hz : z ∈ ([x, y] : List Int)) W => in_yes z b W h1 h8 (hmem z hz).1 (hmem z hz).2)
  have HKS := Lib.hid hks
  clear hks hmem
  go_enter Try.func109, Try.ntmps109
  go_wp2_with (first | (go_at_call 132; refine (HW.out _).mono ?_; rintro e w' ⟨rfl, rfl⟩) | (go_at_call 133; refine (HO.out _).mono ?_; rintro e w' ⟨rfl, rfl⟩) | fail)
  go_loopw [35] (fun s wr => ∃ k : Nat, k ≤ 2 ∧ s = .int .i64 k ∧ Below w.heap.size w wr ∧ Blk wr w.heap.size 29 #[.int .i64 0, .int .i64 0]) (fun s _ => 2 - (intOf s).toNat)
  case atStart => exact ⟨0, Nat.zero_le _, rfl, (Below.refl _ _).alloc (Nat.le_refl _) _, Blk.new _ _ _⟩
  case round =>
    obtain ⟨k, hk, rfl, hbel, hbf⟩ := hrel
    have hz : w.heap.size < wr.heap.size := hbf.lt
    have hxs := HKS.out.below stays_int hbel (Nat.le_refl _)
    by_cases hlt : k < 2
    · obtain ⟨b0, off, hx1, rfl, hb, hc, -, -⟩ := ints_get hxs hlt
      have HC := Lib.hid (HI.out _ (List.getElem_mem hx1))
      generalize ([x, y] : List Int)[k] = z at HC hc
      have HB := Lib.hid (And.intro hbel hbf)
      clear hbel hbf hxs hx1
      go_wp2_with (go_at_call 134; refine (HC.out _).mono ?_; rintro e w' ⟨rfl, rfl⟩)
      go_roundw
      case rel => exact ⟨k + 1, by omega, by go_num, HB.out.1, HB.out.2⟩
      case measure => simp [intOf]; omega
    · have HB := Lib.hid (And.intro hbel hbf)
      have hkI : ¬ ((k : Int) < 2) := by omega
      obtain ⟨b0, off, hx1, hA, -, hc0, -, -⟩ := ints_get hxs (i := 0) (by omega)
      subst hA
      obtain ⟨b1, off1, hx2, hA1, -, hc1, -, -⟩ := ints_get hxs (i := 1) (by omega)
      injection hA1 with hA1
      injection hA1 with e1 e2
      subst e1 e2
      simp only [List.getElem_cons_zero, Nat.add_zero] at hc0
      simp only [List.getElem_cons_succ, List.getElem_cons_zero] at hc1
      have z0 : wr.cell? ⟨w.heap.size, 0, none⟩ = some (.int .i64 0) := hbf.cell 0
      have z1 : wr.cell? ⟨w.heap.size, 1, none⟩ = some (.int .i64 0) := hbf.cell 1
      have v0 : wr.frozen? ⟨w.heap.size, 0, none⟩ = false := hbf.frozen 0
      have v1 : wr.frozen? ⟨w.heap.size, 1, none⟩ = false := hbf.frozen 1
      clear hbel hbf hxs
      go_wp2_with (go_at_call 135; refine (HF.out _).mono ?_; rintro e w' ⟨rfl, rfl⟩)
      go_quiet (fail)
      go_wp2_with fail
      clear z0 z1 v0 v1
      have hz1 := two_blk (HB.out.2.drewN nq) (.int .i64 0) (.int .i64 0)
      have hz2 : Below w.heap.size w (two (wr.drewN nq) w.heap.size (.int .i64 0) (.int .i64 0)) := two_below (below_drewN HB.out.1 nq) (Nat.le_refl _) (.int .i64 0) (.int .i64 0)
      have e4 : ((wr.drewN nq).setCell ⟨w.heap.size, 0, none⟩ (.int .i64 0)).setCell ⟨w.heap.size, 1, none⟩ (.int .i64 0) = two (wr.drewN nq) w.heap.size (.int .i64 0) (.int .i64 0) := rfl
      rw [e4]
      clear e4
      generalize two (wr.drewN nq) w.heap.size (.int .i64 0) (.int .i64 0) = Z at hz1 hz2 ⊢
      have d0 := hz1.cell 0
      have d1 := hz1.cell 1
      simp only [List.getElem?_toArray, List.getElem?_cons_zero, List.getElem?_cons_succ] at d0 d1
      exact bodyPost_ret (v := .tuple #[.int .i64 R, .agg #[.int .i64 0, .int .i64 0]]) (by simp [results, Try.results109, go_sem, d0, d1]) rfl ⟨rfl, hz2⟩

set_option maxRecDepth 100000 in
set_option maxHeartbeats 2000000 in
theorem do_22a (b : Int) (x y : Int) (A : Option Addr) (c : Nat) (R : Int) (w : World) (h1 : 1 ≤ b) (h8 : b ≤ 8) (hx0 : 0 ≤ x) (hx : x < 2 ^ b.toNat) (hy0 : 0 ≤ y) (hy : y < 2 ^ b.toNat) (hks : IntsB w w.heap.size A 2 [x, y])  (hxy : x < y) (hR : wordF 22 b x y 0 = R) :
    Calls Try.prog 109 #[.int .i64 22, .int .i64 b, .slice A 2 c, .int .i64 0] w (DoP w R) := by
  have hp := pow_bits h1 h8
  have hm : ∀ z : Int, 0 ≤ z → z ≤ 1 → bits .and .i64 z (2 ^ b.toNat - 1) = z := fun z z0 z1 => by rw [bits_mask h1 h8, Int.emod_eq_of_lt z0 (by omega)]
  have hm0 := hm 0 (by omega) (by omega)
  have hm1 := hm 1 (by omega) (by omega)
  clear hm
  rw [show wordF 22 b x y 0 = bitN (decide (x < y)) from by simp [wordF]] at hR
  rw [show decide (x < y) = true from by simpa using hxy] at hR
  have hR1 : (1 : Int) = R := hR
  have hmR := hm1.trans hR1
  clear hR hR1 hm0 hm1
  have HW := Lib.hid (fun W => width_yes b W h1 h8)
  have HO := Lib.hid (fun W => operands_any 22 2 W (by omega))
  have HF := Lib.hid (fun W => fits_yes 22 b 0 W h1 h8 (.inr (.inr ⟨by omega, rfl⟩)))
  have hmem : ∀ z : Int, z ∈ ([x, y] : List Int) → 0 ≤ z ∧ z < 2 ^ b.toNat := fun z hz => by simp only [List.mem_cons, List.not_mem_nil, or_false] at hz; rcases hz with e | e <;> rw [e] <;> exact ⟨by assumption, by assumption⟩
  have HI := Lib.hid (fun (z : Int) (hz : z ∈ ([x, y] : List Int)) W => in_yes z b W h1 h8 (hmem z hz).1 (hmem z hz).2)
  have HKS := Lib.hid hks
  clear hks hmem
  go_enter Try.func109, Try.ntmps109
  go_wp2_with (first | (go_at_call 132; refine (HW.out _).mono ?_; rintro e w' ⟨rfl, rfl⟩) | (go_at_call 133; refine (HO.out _).mono ?_; rintro e w' ⟨rfl, rfl⟩) | fail)
  go_loopw [35] (fun s wr => ∃ k : Nat, k ≤ 2 ∧ s = .int .i64 k ∧ Below w.heap.size w wr ∧ Blk wr w.heap.size 29 #[.int .i64 0, .int .i64 0]) (fun s _ => 2 - (intOf s).toNat)
  case atStart => exact ⟨0, Nat.zero_le _, rfl, (Below.refl _ _).alloc (Nat.le_refl _) _, Blk.new _ _ _⟩
  case round =>
    obtain ⟨k, hk, rfl, hbel, hbf⟩ := hrel
    have hz : w.heap.size < wr.heap.size := hbf.lt
    have hxs := HKS.out.below stays_int hbel (Nat.le_refl _)
    by_cases hlt : k < 2
    · obtain ⟨b0, off, hx1, rfl, hb, hc, -, -⟩ := ints_get hxs hlt
      have HC := Lib.hid (HI.out _ (List.getElem_mem hx1))
      generalize ([x, y] : List Int)[k] = z at HC hc
      have HB := Lib.hid (And.intro hbel hbf)
      clear hbel hbf hxs hx1
      go_wp2_with (go_at_call 134; refine (HC.out _).mono ?_; rintro e w' ⟨rfl, rfl⟩)
      go_roundw
      case rel => exact ⟨k + 1, by omega, by go_num, HB.out.1, HB.out.2⟩
      case measure => simp [intOf]; omega
    · have HB := Lib.hid (And.intro hbel hbf)
      have hkI : ¬ ((k : Int) < 2) := by omega
      obtain ⟨b0, off, hx1, hA, -, hc0, -, -⟩ := ints_get hxs (i := 0) (by omega)
      subst hA
      obtain ⟨b1, off1, hx2, hA1, -, hc1, -, -⟩ := ints_get hxs (i := 1) (by omega)
      injection hA1 with hA1
      injection hA1 with e1 e2
      subst e1 e2
      simp only [List.getElem_cons_zero, Nat.add_zero] at hc0
      simp only [List.getElem_cons_succ, List.getElem_cons_zero] at hc1
      have z0 : wr.cell? ⟨w.heap.size, 0, none⟩ = some (.int .i64 0) := hbf.cell 0
      have z1 : wr.cell? ⟨w.heap.size, 1, none⟩ = some (.int .i64 0) := hbf.cell 1
      have v0 : wr.frozen? ⟨w.heap.size, 0, none⟩ = false := hbf.frozen 0
      have v1 : wr.frozen? ⟨w.heap.size, 1, none⟩ = false := hbf.frozen 1
      clear hbel hbf hxs
      go_wp2_with (go_at_call 135; refine (HF.out _).mono ?_; rintro e w' ⟨rfl, rfl⟩)
      go_quiet (fail)
      go_wp2_with fail
      clear z0 z1 v0 v1
      have hz1 := two_blk (HB.out.2.drewN nq) (.int .i64 0) (.int .i64 0)
      have hz2 : Below w.heap.size w (two (wr.drewN nq) w.heap.size (.int .i64 0) (.int .i64 0)) := two_below (below_drewN HB.out.1 nq) (Nat.le_refl _) (.int .i64 0) (.int .i64 0)
      have e4 : ((wr.drewN nq).setCell ⟨w.heap.size, 0, none⟩ (.int .i64 0)).setCell ⟨w.heap.size, 1, none⟩ (.int .i64 0) = two (wr.drewN nq) w.heap.size (.int .i64 0) (.int .i64 0) := rfl
      rw [e4]
      clear e4
      generalize two (wr.drewN nq) w.heap.size (.int .i64 0) (.int .i64 0) = Z at hz1 hz2 ⊢
      have d0 := hz1.cell 0
      have d1 := hz1.cell 1
      simp only [List.getElem?_toArray, List.getElem?_cons_zero, List.getElem?_cons_succ] at d0 d1
      exact bodyPost_ret (v := .tuple #[.int .i64 R, .agg #[.int .i64 0, .int .i64 0]]) (by simp [results, Try.results109, go_sem, d0, d1]) rfl ⟨rfl, hz2⟩

set_option maxRecDepth 100000 in
set_option maxHeartbeats 2000000 in
theorem do_22b (b : Int) (x y : Int) (A : Option Addr) (c : Nat) (R : Int) (w : World) (h1 : 1 ≤ b) (h8 : b ≤ 8) (hx0 : 0 ≤ x) (hx : x < 2 ^ b.toNat) (hy0 : 0 ≤ y) (hy : y < 2 ^ b.toNat) (hks : IntsB w w.heap.size A 2 [x, y])  (hxy : ¬ x < y) (hR : wordF 22 b x y 0 = R) :
    Calls Try.prog 109 #[.int .i64 22, .int .i64 b, .slice A 2 c, .int .i64 0] w (DoP w R) := by
  have hp := pow_bits h1 h8
  have hm : ∀ z : Int, 0 ≤ z → z ≤ 1 → bits .and .i64 z (2 ^ b.toNat - 1) = z := fun z z0 z1 => by rw [bits_mask h1 h8, Int.emod_eq_of_lt z0 (by omega)]
  have hm0 := hm 0 (by omega) (by omega)
  have hm1 := hm 1 (by omega) (by omega)
  clear hm
  rw [show wordF 22 b x y 0 = bitN (decide (x < y)) from by simp [wordF]] at hR
  rw [show decide (x < y) = false from by simpa using hxy] at hR
  have hR1 : (0 : Int) = R := hR
  have hmR := hm0.trans hR1
  clear hR hR1 hm0 hm1
  have HW := Lib.hid (fun W => width_yes b W h1 h8)
  have HO := Lib.hid (fun W => operands_any 22 2 W (by omega))
  have HF := Lib.hid (fun W => fits_yes 22 b 0 W h1 h8 (.inr (.inr ⟨by omega, rfl⟩)))
  have hmem : ∀ z : Int, z ∈ ([x, y] : List Int) → 0 ≤ z ∧ z < 2 ^ b.toNat := fun z hz => by simp only [List.mem_cons, List.not_mem_nil, or_false] at hz; rcases hz with e | e <;> rw [e] <;> exact ⟨by assumption, by assumption⟩
  have HI := Lib.hid (fun (z : Int) (hz : z ∈ ([x, y] : List Int)) W => in_yes z b W h1 h8 (hmem z hz).1 (hmem z hz).2)
  have HKS := Lib.hid hks
  clear hks hmem
  go_enter Try.func109, Try.ntmps109
  go_wp2_with (first | (go_at_call 132; refine (HW.out _).mono ?_; rintro e w' ⟨rfl, rfl⟩) | (go_at_call 133; refine (HO.out _).mono ?_; rintro e w' ⟨rfl, rfl⟩) | fail)
  go_loopw [35] (fun s wr => ∃ k : Nat, k ≤ 2 ∧ s = .int .i64 k ∧ Below w.heap.size w wr ∧ Blk wr w.heap.size 29 #[.int .i64 0, .int .i64 0]) (fun s _ => 2 - (intOf s).toNat)
  case atStart => exact ⟨0, Nat.zero_le _, rfl, (Below.refl _ _).alloc (Nat.le_refl _) _, Blk.new _ _ _⟩
  case round =>
    obtain ⟨k, hk, rfl, hbel, hbf⟩ := hrel
    have hz : w.heap.size < wr.heap.size := hbf.lt
    have hxs := HKS.out.below stays_int hbel (Nat.le_refl _)
    by_cases hlt : k < 2
    · obtain ⟨b0, off, hx1, rfl, hb, hc, -, -⟩ := ints_get hxs hlt
      have HC := Lib.hid (HI.out _ (List.getElem_mem hx1))
      generalize ([x, y] : List Int)[k] = z at HC hc
      have HB := Lib.hid (And.intro hbel hbf)
      clear hbel hbf hxs hx1
      go_wp2_with (go_at_call 134; refine (HC.out _).mono ?_; rintro e w' ⟨rfl, rfl⟩)
      go_roundw
      case rel => exact ⟨k + 1, by omega, by go_num, HB.out.1, HB.out.2⟩
      case measure => simp [intOf]; omega
    · have HB := Lib.hid (And.intro hbel hbf)
      have hkI : ¬ ((k : Int) < 2) := by omega
      obtain ⟨b0, off, hx1, hA, -, hc0, -, -⟩ := ints_get hxs (i := 0) (by omega)
      subst hA
      obtain ⟨b1, off1, hx2, hA1, -, hc1, -, -⟩ := ints_get hxs (i := 1) (by omega)
      injection hA1 with hA1
      injection hA1 with e1 e2
      subst e1 e2
      simp only [List.getElem_cons_zero, Nat.add_zero] at hc0
      simp only [List.getElem_cons_succ, List.getElem_cons_zero] at hc1
      have z0 : wr.cell? ⟨w.heap.size, 0, none⟩ = some (.int .i64 0) := hbf.cell 0
      have z1 : wr.cell? ⟨w.heap.size, 1, none⟩ = some (.int .i64 0) := hbf.cell 1
      have v0 : wr.frozen? ⟨w.heap.size, 0, none⟩ = false := hbf.frozen 0
      have v1 : wr.frozen? ⟨w.heap.size, 1, none⟩ = false := hbf.frozen 1
      clear hbel hbf hxs
      go_wp2_with (go_at_call 135; refine (HF.out _).mono ?_; rintro e w' ⟨rfl, rfl⟩)
      go_quiet (fail)
      go_wp2_with fail
      clear z0 z1 v0 v1
      have hz1 := two_blk (HB.out.2.drewN nq) (.int .i64 0) (.int .i64 0)
      have hz2 : Below w.heap.size w (two (wr.drewN nq) w.heap.size (.int .i64 0) (.int .i64 0)) := two_below (below_drewN HB.out.1 nq) (Nat.le_refl _) (.int .i64 0) (.int .i64 0)
      have e4 : ((wr.drewN nq).setCell ⟨w.heap.size, 0, none⟩ (.int .i64 0)).setCell ⟨w.heap.size, 1, none⟩ (.int .i64 0) = two (wr.drewN nq) w.heap.size (.int .i64 0) (.int .i64 0) := rfl
      rw [e4]
      clear e4
      generalize two (wr.drewN nq) w.heap.size (.int .i64 0) (.int .i64 0) = Z at hz1 hz2 ⊢
      have d0 := hz1.cell 0
      have d1 := hz1.cell 1
      simp only [List.getElem?_toArray, List.getElem?_cons_zero, List.getElem?_cons_succ] at d0 d1
      exact bodyPost_ret (v := .tuple #[.int .i64 R, .agg #[.int .i64 0, .int .i64 0]]) (by simp [results, Try.results109, go_sem, d0, d1]) rfl ⟨rfl, hz2⟩

set_option maxRecDepth 100000 in
set_option maxHeartbeats 2000000 in
theorem do_23 (b : Int) (x : Int) (n : Int) (A : Option Addr) (c : Nat) (R : Int) (w : World) (h1 : 1 ≤ b) (h8 : b ≤ 8) (hx0 : 0 ≤ x) (hx : x < 2 ^ b.toNat) (hn0 : 0 ≤ n) (hn : n ≤ 8) (hks : IntsB w w.heap.size A 1 [x]) (hR : wordF 23 b x 0 n = R) :
    Calls Try.prog 109 #[.int .i64 23, .int .i64 b, .slice A 1 c, .int .i64 n] w (DoP w R) := by
  have hp := pow_bits h1 h8
  have hpn : (1 : Int) ≤ 2 ^ n.toNat ∧ (2 : Int) ^ n.toNat ≤ 256 := pow_shift hn0 hn
  have hmul := mul256 hx0 (show x ≤ 256 by omega) (show 0 ≤ (2 : Int) ^ n.toNat by omega) hpn.2
  have hm : bits .and .i64 (x * 2 ^ n.toNat) (2 ^ b.toNat - 1) = R := by rw [bits_mask h1 h8, ← hR]; simp [wordF]
  have HW := Lib.hid (fun W => width_yes b W h1 h8)
  have HO := Lib.hid (fun W => operands_any 23 1 W (by omega))
  have HF := Lib.hid (fun W => fits_yes 23 b n W h1 h8 (.inr (.inl ⟨rfl, hn0, hn⟩)))
  have hmem : ∀ z : Int, z ∈ ([x] : List Int) → 0 ≤ z ∧ z < 2 ^ b.toNat := fun z hz => by simp only [List.mem_cons, List.not_mem_nil, or_false] at hz; rw [hz]; exact ⟨hx0, hx⟩
  have HI := Lib.hid (fun (z : Int) (hz : z ∈ ([x] : List Int)) W => in_yes z b W h1 h8 (hmem z hz).1 (hmem z hz).2)
  have HKS := Lib.hid hks
  clear hks hmem
  go_enter Try.func109, Try.ntmps109
  go_wp2_with (first | (go_at_call 132; refine (HW.out _).mono ?_; rintro e w' ⟨rfl, rfl⟩) | (go_at_call 133; refine (HO.out _).mono ?_; rintro e w' ⟨rfl, rfl⟩) | fail)
  go_loopw [35] (fun s wr => ∃ k : Nat, k ≤ 1 ∧ s = .int .i64 k ∧ Below w.heap.size w wr ∧ Blk wr w.heap.size 29 #[.int .i64 0, .int .i64 0]) (fun s _ => 1 - (intOf s).toNat)
  case atStart => exact ⟨0, Nat.zero_le _, rfl, (Below.refl _ _).alloc (Nat.le_refl _) _, Blk.new _ _ _⟩
  case round =>
    obtain ⟨k, hk, rfl, hbel, hbf⟩ := hrel
    have hz : w.heap.size < wr.heap.size := hbf.lt
    have hxs := HKS.out.below stays_int hbel (Nat.le_refl _)
    by_cases hlt : k < 1
    · obtain ⟨b0, off, hx1, rfl, hb, hc, -, -⟩ := ints_get hxs hlt
      have HC := Lib.hid (HI.out _ (List.getElem_mem hx1))
      generalize ([x] : List Int)[k] = z at HC hc
      have HB := Lib.hid (And.intro hbel hbf)
      clear hbel hbf hxs hx1
      go_wp2_with (go_at_call 134; refine (HC.out _).mono ?_; rintro e w' ⟨rfl, rfl⟩)
      go_roundw
      case rel => exact ⟨k + 1, by omega, by go_num, HB.out.1, HB.out.2⟩
      case measure => simp [intOf]; omega
    · have HB := Lib.hid (And.intro hbel hbf)
      have hkI : ¬ ((k : Int) < 1) := by omega
      obtain ⟨b0, off, hx1, hA, -, hc0, -, -⟩ := ints_get hxs (i := 0) (by omega)
      subst hA
      simp only [List.getElem_cons_zero, Nat.add_zero] at hc0
      have z0 : wr.cell? ⟨w.heap.size, 0, none⟩ = some (.int .i64 0) := hbf.cell 0
      have z1 : wr.cell? ⟨w.heap.size, 1, none⟩ = some (.int .i64 0) := hbf.cell 1
      have v0 : wr.frozen? ⟨w.heap.size, 0, none⟩ = false := hbf.frozen 0
      have v1 : wr.frozen? ⟨w.heap.size, 1, none⟩ = false := hbf.frozen 1
      clear hbel hbf hxs
      go_wp2_with (go_at_call 135; refine (HF.out _).mono ?_; rintro e w' ⟨rfl, rfl⟩)
      clear z0 z1 v0 v1
      have hz1 := two_blk HB.out.2 (.int .i64 0) (.int .i64 0)
      have hz2 : Below w.heap.size w (two wr w.heap.size (.int .i64 0) (.int .i64 0)) := two_below HB.out.1 (Nat.le_refl _) (.int .i64 0) (.int .i64 0)
      have e4 : (wr.setCell ⟨w.heap.size, 0, none⟩ (.int .i64 0)).setCell ⟨w.heap.size, 1, none⟩ (.int .i64 0) = two wr w.heap.size (.int .i64 0) (.int .i64 0) := rfl
      rw [e4]
      clear e4
      generalize two wr w.heap.size (.int .i64 0) (.int .i64 0) = Z at hz1 hz2 ⊢
      have d0 := hz1.cell 0
      have d1 := hz1.cell 1
      simp only [List.getElem?_toArray, List.getElem?_cons_zero, List.getElem?_cons_succ] at d0 d1
      exact bodyPost_ret (v := .tuple #[.int .i64 R, .agg #[.int .i64 0, .int .i64 0]]) (by simp [results, Try.results109, go_sem, d0, d1]) rfl ⟨rfl, hz2⟩
end Go.Proofs.Ythooecojopfjbaa
