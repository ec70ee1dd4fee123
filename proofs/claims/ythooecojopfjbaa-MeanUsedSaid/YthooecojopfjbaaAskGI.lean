/- Walk: the numbers of a node. · Walks: small tests on sorts; what the reference wants of an operator's kids. · Walk: what the reference wants of an operator's kids. -/
import Derived.Test.YthooecojopfjbaaAskEF
namespace Go.Proofs.Ythooecojopfjbaa
open Go.RowKit

def numbersB (op n d : Int) : Bool :=
  if op = 10 ∨ op = 12 then decide (-1000000 ≤ n ∧ n ≤ 1000000 ∧ 1 ≤ d ∧ d ≤ 1000000 ∧ Int.gcd n d = 1)
  else if op = 15 then decide (1 ≤ d ∧ d ≤ 8 ∧ 0 ≤ n ∧ n < 2 ^ d.toNat) else if op = 23 then decide (0 ≤ n ∧ n ≤ 8) else true

set_option maxHeartbeats 4000000 in
theorem numbers_any (op n d : Int) (A : Option Addr) (m c : Nat) (nm : ByteArray) (w : World) :
    Calls Try.prog 65 #[.agg #[.int .i64 op, .slice A m c, .int .i64 n, .int .i64 d, .string nm]] w fun e w' => e = .returned (.bool (numbersB op n d)) ∧ Below w.heap.size w w' := by
  have HB : Hid (Below w.heap.size w (w.alloc (.cells #[.int .i64 op, .slice A m c, .int .i64 n, .int .i64 d, .string nm] 59))) := (Below.refl _ _).alloc (Nat.le_refl _) _
  have hcl : (op = 10 ∨ op = 12) ∨ op = 15 ∨ op = 23 ∨ ((op == 10) = false ∧ (op == 12) = false ∧ (op == 15) = false ∧ (op == 23) = false) := by
    simp only [beq_eq_false_iff_ne]; omega
  rcases hcl with hop | rfl | rfl | ⟨q1, q2, q3, q4⟩
  · have hc : n < -1000000 ∨ (-1000000 ≤ n ∧ 1000000 < n) ∨ ((-1000000 ≤ n ∧ n ≤ 1000000) ∧ d < 1) ∨ ((-1000000 ≤ n ∧ n ≤ 1000000) ∧ 1 ≤ d ∧ 1000000 < d) ∨ ((-1000000 ≤ n ∧ n ≤ 1000000) ∧ 1 ≤ d ∧ d ≤ 1000000) := by omega
    have hnb : numbersB op n d = decide (-1000000 ≤ n ∧ n ≤ 1000000 ∧ 1 ≤ d ∧ d ≤ 1000000 ∧ Int.gcd n d = 1) := by rw [numbersB, if_pos hop]
    rcases hc with h | ⟨h, h2⟩ | ⟨⟨h, h2⟩, h3⟩ | ⟨⟨h, h2⟩, h3, h4⟩ | ⟨⟨h, h2⟩, h3, h4⟩
    rotate_right
    · have HG := Lib.hid (gcdA_any n d (w.alloc (.cells #[.int .i64 op, .slice A m c, .int .i64 n, .int .i64 d, .string nm] 59)) (by omega) (by omega) (by omega) (by omega))
      have HR : Hid ((((Int.gcd n d : Nat) : Int) == 1) = numbersB op n d) := by
        show _ = _
        rw [hnb, Bool.eq_iff_iff]; simp only [beq_iff_eq, decide_eq_true_eq]; omega
      clear hnb
      rcases hop with rfl | rfl
      all_goals
        go_enter Try.func65, Try.ntmps65
        go_wp2_with fail
        refine HG.out.mono ?_
        rintro e w' ⟨rfl, nn, rfl⟩
        go_wp2_with fail
        go_ret
        exact ⟨ret_bool HR.out, below_drewN HB.out _⟩
    all_goals
      have HR : Hid (false = numbersB op n d) := by show _ = _; rw [hnb]; symm; rw [decide_eq_false_iff_not]; omega
      clear hnb
      rcases hop with rfl | rfl
      all_goals
        go_enter Try.func65, Try.ntmps65
        go_wp2_with fail
        go_ret
        exact ⟨ret_bool HR.out, HB.out⟩
  · have hnb : numbersB 15 n d = decide (1 ≤ d ∧ d ≤ 8 ∧ 0 ≤ n ∧ n < 2 ^ d.toNat) := by rw [numbersB, if_neg (by omega), if_pos rfl]
    have hc : decide (1 ≤ d) = false ∨ (1 ≤ d ∧ decide (d ≤ 8) = false) ∨ ((1 ≤ d ∧ d ≤ 8) ∧ decide (0 ≤ n) = false) ∨ ((1 ≤ d ∧ d ≤ 8) ∧ 0 ≤ n) := by
      simp only [decide_eq_false_iff_not]; omega
    rcases hc with h | ⟨h, h2⟩ | ⟨⟨h, h2⟩, h3⟩ | ⟨⟨h, h2⟩, h3⟩
    rotate_right
    · have hd : d = 1 ∨ d = 2 ∨ d = 3 ∨ d = 4 ∨ d = 5 ∨ d = 6 ∨ d = 7 ∨ d = 8 := by omega
      clear h h2
      rcases hd with rfl | rfl | rfl | rfl | rfl | rfl | rfl | rfl
      · have HR : Hid (decide (n < 2) = numbersB 15 n 1) := by
          show _ = _
          rw [hnb, Bool.eq_iff_iff]
          simp only [decide_eq_true_eq]
          have e : (2 : Int) ^ ((1 : Int).toNat) = 2 := by decide
          rw [e]
          omega
        clear hnb
        go_enter Try.func65, Try.ntmps65
        go_wp2_with fail
        go_quiet (fail)
        go_wp2_with fail
        go_ret
        exact ⟨ret_bool (by rw [← HR.out]), below_drewN HB.out _⟩
      · have HR : Hid (decide (n < 4) = numbersB 15 n 2) := by
          show _ = _
          rw [hnb, Bool.eq_iff_iff]
          simp only [decide_eq_true_eq]
          have e : (2 : Int) ^ ((2 : Int).toNat) = 4 := by decide
          rw [e]
          omega
        clear hnb
        go_enter Try.func65, Try.ntmps65
        go_wp2_with fail
        go_quiet (fail)
        go_wp2_with fail
        go_ret
        exact ⟨ret_bool (by rw [← HR.out]), below_drewN HB.out _⟩
      · have HR : Hid (decide (n < 8) = numbersB 15 n 3) := by
          show _ = _
          rw [hnb, Bool.eq_iff_iff]
          simp only [decide_eq_true_eq]
          have e : (2 : Int) ^ ((3 : Int).toNat) = 8 := by decide
          rw [e]
          omega
        clear hnb
        go_enter Try.func65, Try.ntmps65
        go_wp2_with fail
        go_quiet (fail)
        go_wp2_with fail
        go_ret
        exact ⟨ret_bool (by rw [← HR.out]), below_drewN HB.out _⟩
      · have HR : Hid (decide (n < 16) = numbersB 15 n 4) := by
          show _ = _
          rw [hnb, Bool.eq_iff_iff]
          simp only [decide_eq_true_eq]
          have e : (2 : Int) ^ ((4 : Int).toNat) = 16 := by decide
          rw [e]
          omega
        clear hnb
        go_enter Try.func65, Try.ntmps65
        go_wp2_with fail
        go_quiet (fail)
        go_wp2_with fail
        go_ret
        exact ⟨ret_bool (by rw [← HR.out]), below_drewN HB.out _⟩
      · have HR : Hid (decide (n < 32) = numbersB 15 n 5) := by
          show _ = _
          rw [hnb, Bool.eq_iff_iff]
          simp only [decide_eq_true_eq]
          have e : (2 : Int) ^ ((5 : Int).toNat) = 32 := by decide
          rw [e]
          omega
        clear hnb
        go_enter Try.func65, Try.ntmps65
        go_wp2_with fail
        go_quiet (fail)
        go_wp2_with fail
        go_ret
        exact ⟨ret_bool (by rw [← HR.out]), below_drewN HB.out _⟩
      · have HR : Hid (decide (n < 64) = numbersB 15 n 6) := by
          show _ = _
          rw [hnb, Bool.eq_iff_iff]
          simp only [decide_eq_true_eq]
          have e : (2 : Int) ^ ((6 : Int).toNat) = 64 := by decide
          rw [e]
          omega
        clear hnb
        go_enter Try.func65, Try.ntmps65
        go_wp2_with fail
        go_quiet (fail)
        go_wp2_with fail
        go_ret
        exact ⟨ret_bool (by rw [← HR.out]), below_drewN HB.out _⟩
      · have HR : Hid (decide (n < 128) = numbersB 15 n 7) := by
          show _ = _
          rw [hnb, Bool.eq_iff_iff]
          simp only [decide_eq_true_eq]
          have e : (2 : Int) ^ ((7 : Int).toNat) = 128 := by decide
          rw [e]
          omega
        clear hnb
        go_enter Try.func65, Try.ntmps65
        go_wp2_with fail
        go_quiet (fail)
        go_wp2_with fail
        go_ret
        exact ⟨ret_bool (by rw [← HR.out]), below_drewN HB.out _⟩
      · have HR : Hid (decide (n < 256) = numbersB 15 n 8) := by
          show _ = _
          rw [hnb, Bool.eq_iff_iff]
          simp only [decide_eq_true_eq]
          have e : (2 : Int) ^ ((8 : Int).toNat) = 256 := by decide
          rw [e]
          omega
        clear hnb
        go_enter Try.func65, Try.ntmps65
        go_wp2_with fail
        go_quiet (fail)
        go_wp2_with fail
        go_ret
        exact ⟨ret_bool (by rw [← HR.out]), below_drewN HB.out _⟩
    all_goals
      have HR : Hid (false = numbersB 15 n d) := by show _ = _; rw [hnb]; symm; rw [decide_eq_false_iff_not]; simp only [decide_eq_false_iff_not] at *; omega
      clear hnb
      go_enter Try.func65, Try.ntmps65
      go_wp2_with fail
      go_quiet (fail)
      go_wp2_with fail
      go_ret
      exact ⟨ret_bool HR.out, below_drewN HB.out _⟩
  · have hnb : numbersB 23 n d = decide (0 ≤ n ∧ n ≤ 8) := by rw [numbersB, if_neg (by omega), if_neg (by omega), if_pos rfl]
    have hc : n < 0 ∨ (0 ≤ n ∧ n ≤ 8) ∨ (0 ≤ n ∧ 8 < n) := by omega
    rcases hc with h | ⟨h, h2⟩ | ⟨h, h2⟩
    · have HR : Hid (false = numbersB 23 n d) := by show _ = _; rw [hnb]; symm; rw [decide_eq_false_iff_not]; omega
      clear hnb
      go_enter Try.func65, Try.ntmps65
      go_wp2_with fail
      go_ret
      exact ⟨ret_bool (by first | exact HR.out | (rw [← HR.out]; simp <;> omega)), HB.out⟩
    · have HR : Hid (true = numbersB 23 n d) := by show _ = _; rw [hnb]; symm; rw [decide_eq_true_eq]; omega
      clear hnb
      go_enter Try.func65, Try.ntmps65
      go_wp2_with fail
      go_ret
      exact ⟨ret_bool (by first | exact HR.out | (rw [← HR.out]; simp <;> omega)), HB.out⟩
    · have HR : Hid (false = numbersB 23 n d) := by show _ = _; rw [hnb]; symm; rw [decide_eq_false_iff_not]; omega
      clear hnb
      go_enter Try.func65, Try.ntmps65
      go_wp2_with fail
      go_ret
      exact ⟨ret_bool (by first | exact HR.out | (rw [← HR.out]; simp <;> omega)), HB.out⟩
  · have HR : Hid (true = numbersB op n d) := by
      show _ = _
      simp only [beq_eq_false_iff_ne] at q1 q2 q3 q4
      rw [numbersB, if_neg (by omega), if_neg (by omega), if_neg (by omega)]
    go_enter Try.func65, Try.ntmps65
    go_wp2_with fail
    go_ret
    exact ⟨ret_bool HR.out, HB.out⟩
end Go.Proofs.Ythooecojopfjbaa
namespace Go.Proofs.Ythooecojopfjbaa
open Go.RowKit

def numS (s : Int) : Bool := s == 2 || s == 3
set_option maxHeartbeats 400000 in
theorem numeric_any (n : Int) (w : World) : Calls Try.prog 93 #[.int .i64 n] w fun e w' => e = .returned (.bool (numS n)) ∧ w = w' := by
  go_enter Try.func93, Try.ntmps93
  go_wp2
  all_goals go_ret
  all_goals exact ⟨ret_bool (by simp_all [numS]), rfl⟩
set_option maxHeartbeats 400000 in
theorem isNumber_any (n : Int) (w : World) : Calls Try.prog 71 #[.int .i64 n] w fun e w' => e = .returned (.bool (numS n)) ∧ w = w' := by
  go_enter Try.func71, Try.ntmps71
  go_wp2
  all_goals go_ret
  all_goals exact ⟨ret_bool (by simp_all [numS]), rfl⟩
set_option maxHeartbeats 400000 in
theorem whole_any (b : Bool) (w : World) : Calls Try.prog 94 #[.bool b] w fun e w' => e = .returned (.int .i64 (if b then 2 else 3)) ∧ w = w' := by
  cases b
  all_goals
    go_enter Try.func94, Try.ntmps94
    go_wp2_with fail
    go_ret
    exact ⟨rfl, rfl⟩

end Go.Proofs.Ythooecojopfjbaa
namespace Go.Proofs.Ythooecojopfjbaa
open Go.RowKit

/-- what kids an operator wants, a letter each: b 98, n 110, t 116, a 97, w 119, x 120, y 121, ? 63, * 42 -/
def wantsF (op : Int) : ByteArray := if op = 3 then ⟨#[98]⟩ else if op = 4 ∨ op = 5 then ⟨#[98, 42]⟩ else if op = 6 then ⟨#[98, 98]⟩ else if op = 7 then ⟨#[98, 120, 121]⟩ else if op = 8 then ⟨#[63, 63]⟩ else if op = 11 then ⟨#[110, 42]⟩ else if op = 12 then ⟨#[110]⟩ else if op = 13 ∨ op = 14 then ⟨#[110, 110]⟩ else if op = 16 ∨ op = 23 then ⟨#[119]⟩ else if op = 17 ∨ op = 18 ∨ op = 19 ∨ op = 20 ∨ op = 21 ∨ op = 22 then ⟨#[119, 119]⟩ else if op = 24 then ⟨#[97, 116]⟩ else if op = 25 then ⟨#[97, 116, 116]⟩ else ⟨#[]⟩
set_option maxRecDepth 100000 in
set_option maxHeartbeats 8000000 in
theorem wants_0 (op : Int) (w : World) (h : op = 1 ∨ op = 2 ∨ op = 3 ∨ op = 4 ∨ op = 5 ∨ op = 6 ∨ op = 7 ∨ op = 8 ∨ op = 9) : Calls Try.prog 68 #[.int .i64 op] w fun e w' => e = .returned (.string (wantsF op)) ∧ Below w.heap.size w w' := by
  rcases h with rfl | rfl | rfl | rfl | rfl | rfl | rfl | rfl | rfl
  all_goals
    go_enter Try.func68, Try.ntmps68
    go_wp2_with fail
    go_ret
    exact ⟨ret_string (by simp [wantsF]), (Below.refl _ _).alloc (Nat.le_refl _) _⟩
set_option maxRecDepth 100000 in
set_option maxHeartbeats 8000000 in
theorem wants_1 (op : Int) (w : World) (h : op = 10 ∨ op = 11 ∨ op = 12 ∨ op = 13 ∨ op = 14 ∨ op = 15 ∨ op = 16 ∨ op = 17) : Calls Try.prog 68 #[.int .i64 op] w fun e w' => e = .returned (.string (wantsF op)) ∧ Below w.heap.size w w' := by
  rcases h with rfl | rfl | rfl | rfl | rfl | rfl | rfl | rfl
  all_goals
    go_enter Try.func68, Try.ntmps68
    go_wp2_with fail
    go_ret
    exact ⟨ret_string (by simp [wantsF]), (Below.refl _ _).alloc (Nat.le_refl _) _⟩
set_option maxRecDepth 100000 in
set_option maxHeartbeats 8000000 in
theorem wants_2 (op : Int) (w : World) (h : op = 18 ∨ op = 19 ∨ op = 20 ∨ op = 21 ∨ op = 22 ∨ op = 23 ∨ op = 24 ∨ op = 25) : Calls Try.prog 68 #[.int .i64 op] w fun e w' => e = .returned (.string (wantsF op)) ∧ Below w.heap.size w w' := by
  rcases h with rfl | rfl | rfl | rfl | rfl | rfl | rfl | rfl
  all_goals
    go_enter Try.func68, Try.ntmps68
    go_wp2_with fail
    go_ret
    exact ⟨ret_string (by simp [wantsF]), (Below.refl _ _).alloc (Nat.le_refl _) _⟩
theorem wants_any (op : Int) (w : World) (h0 : 1 ≤ op) (h1 : op ≤ 25) : Calls Try.prog 68 #[.int .i64 op] w fun e w' => e = .returned (.string (wantsF op)) ∧ Below w.heap.size w w' := by
  by_cases h9 : op ≤ 9
  · exact wants_0 op w (by omega)
  by_cases h17 : op ≤ 17
  · exact wants_1 op w (by omega)
  · exact wants_2 op w (by omega)
end Go.Proofs.Ythooecojopfjbaa
