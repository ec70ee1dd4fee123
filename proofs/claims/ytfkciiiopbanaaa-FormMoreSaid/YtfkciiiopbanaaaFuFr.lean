/- Walks: slices.IndexFunc and ContainsFunc over numbers, whatever function is handed over. · Plain: fractions: which of them are good; the lowest terms, the sum, the product. No program is named here. · Walks: which fractions are good: the program. -/
import Derived.Test.YtfkciiiopbanaaaProg
import Derived.Test.YtfkciiiopbanaaaCore
import Derived.Deep.LoopGhost
import Derived.Shelf.Abstract
import Derived.Deep.QuietTactic
import Derived.BigQuiet
namespace Go.Proofs.Ytfkciiiopbanaaa
open Go.RowKit

/-- the function g (with what it captured) tells p of each x of xs, and makes new blocks at most -/
def PredOn (P : Program) (g : Nat) (lb : Array Value) (p : Int → Bool) (xs : List Int) (w : World) : Prop :=
  ∀ (W : World) (x : Int), x ∈ xs → Below w.heap.size w W → Calls P g (#[.int .i64 x] ++ lb) W fun e w' => e = .returned (.bool (p x)) ∧ Below w.heap.size w w'

def idx {α : Type} (p : α → Bool) : List α → Int → Int
  | [], _ => -1
  | x :: r, i => if p x then i else idx p r (i + 1)
theorem idx_any {α : Type} (p : α → Bool) : ∀ (l : List α) (i : Int), 0 ≤ i → decide (0 ≤ idx p l i) = l.any p
  | [], i, _ => by simp [idx]
  | x :: r, i, h => by
    have := idx_any p r (i + 1) (by omega)
    cases hx : p x <;> simp [idx, hx] at this ⊢
    · exact this
    · exact h

set_option maxHeartbeats 1000000 in
theorem indexInts_any (g : Nat) (lb : Array Value) (eg : ∀ args w, (callFunc g args).run Try.prog w = .ok (.enter g args) w) (p : Int → Bool) (A : Option Addr) (n c : Nat) (xs : List Int) (R : Int) (w : World)
    (hxs : IntsB w w.heap.size A n xs) (hn : n ≤ 1000000) (hp : PredOn Try.prog g lb p xs w) (hR : idx p xs 0 = R) :
    Calls Try.prog 32 #[.slice A n c, .func (.func g) #[] lb] w fun e w' => e = .returned (.int .i64 R) ∧ Below w.heap.size w w' := by
  have HP := Lib.hid hp
  have HR := Lib.hid hR
  clear hp hR
  go_enter Try.func32, Try.ntmps32
  go_wp2_with fail
  go_loopw [8] (fun s wr => ∃ k : Nat, k ≤ n ∧ s = .int .i64 k ∧ Hid (idx p (xs.drop k) k = R) ∧ Below w.heap.size w wr) (fun s _ => n - (intOf s).toNat)
  case atStart => exact ⟨0, Nat.zero_le _, rfl, HR, Below.refl _ _⟩
  case round =>
    obtain ⟨k, hk, rfl, HK, hbel⟩ := hrel
    by_cases hlt : k < n
    · obtain ⟨b, off, hx, rfl, hb, hcell, hlo, hhi⟩ := ints_get (hxs.below stays_int hbel (Nat.le_refl _)) hlt
      have hcall := HP.out wr xs[k] (List.getElem_mem hx) hbel
      have e1 := HK.out
      rw [drop_cons hx, idx] at e1
      have HX := Lib.hid hx
      generalize xs[k] = y at hcall e1 hlo hhi hcell
      clear HK hx hxs
      cases hq : p y with
      | true =>
        rw [hq] at hcall e1
        have e2 : (k : Int) = R := e1
        have HC := Lib.hid hcall
        have H2 := Lib.hid e2
        clear hcall e1 hq e2
        go_wp2_with (go_at_fn g; refine HC.out.mono ?_; rintro e w' ⟨rfl, hb'⟩)
        go_ret
        exact ⟨ret_int H2.out, hb'⟩
      | false =>
        rw [hq] at hcall e1
        have e2 : idx p (xs.drop (k + 1)) ((k : Int) + 1) = R := e1
        have HC := Lib.hid hcall
        have H2 := Lib.hid e2
        clear hcall e1 hq e2
        go_wp2_with (go_at_fn g; refine HC.out.mono ?_; rintro e w' ⟨rfl, hb'⟩)
        go_roundw
        case rel => exact ⟨k + 1, by omega, by go_num, by show _ = _; rw [Int.natCast_add]; exact H2.out, hb'⟩
        case measure => simp [intOf]; omega
    · obtain rfl : k = n := by omega
      have e1 := HK.out
      rw [List.drop_of_length_le (by have := hxs.len; omega), idx] at e1
      have H1 := Lib.hid e1
      clear e1 HK
      go_wp2_with fail
      go_ret
      exact ⟨ret_int H1.out, hbel⟩

set_option maxHeartbeats 1000000 in
theorem containsInts_any (g : Nat) (lb : Array Value) (eg : ∀ args w, (callFunc g args).run Try.prog w = .ok (.enter g args) w) (p : Int → Bool) (A : Option Addr) (n c : Nat) (xs : List Int) (R : Bool) (w : World)
    (hxs : IntsB w w.heap.size A n xs) (hn : n ≤ 1000000) (hp : PredOn Try.prog g lb p xs w) (hR : xs.any p = R) :
    Calls Try.prog 28 #[.slice A n c, .func (.func g) #[] lb] w fun e w' => e = .returned (.bool R) ∧ Below w.heap.size w w' := by
  have HH := Lib.hid (indexInts_any g lb eg p A n c xs _ w hxs hn hp rfl)
  have h0 := idx_any p xs 0 (by omega)
  rw [hR] at h0
  generalize idx p xs 0 = r at HH h0
  have H0 := Lib.hid h0
  clear h0 hR hp hxs
  go_enter Try.func28, Try.ntmps28
  go_wp2_with fail
  refine HH.out.mono ?_
  rintro e w' ⟨rfl, hb⟩
  go_wp2_with fail
  go_ret
  exact ⟨ret_bool H0.out, hb⟩
end Go.Proofs.Ytfkciiiopbanaaa
namespace Go.Proofs.Ytfkciiiopbanaaa
open Go.RowKit

structure FracD where
  num : Int
  den : Int
def AtFrac : Ent FracD := fun w S b o x => AtInt w S b o x.num ∧ AtInt w S b (o + 1) x.den
theorem stays_frac : Stays AtFrac := fun _ _ _ _ _ _ _ hS hk hb h => ⟨stays_int _ _ _ _ _ _ _ hS hk hb h.1, stays_int _ _ _ _ _ _ _ hS hk hb h.2⟩
def fracGood (num den : Int) : Bool := decide (1 ≤ den ∧ den ≤ 1073741824 ∧ -1073741824 ≤ num ∧ num ≤ 1073741824 ∧ Int.gcd num den = 1)
/-- n / d in lowest terms (d above 0); none: it is beyond -/
def lowF (n d : Int) : Option FracD :=
  if 1073741824 < n.tdiv (Int.gcd n d : Nat) ∨ n.tdiv (Int.gcd n d : Nat) < -1073741824 ∨ 1073741824 < d.tdiv (Int.gcd n d : Nat) then none else some ⟨n.tdiv (Int.gcd n d : Nat), d.tdiv (Int.gcd n d : Nat)⟩
def addQ (a b : FracD) : Option FracD := lowF (a.num * b.den + b.num * a.den) (a.den * b.den)
def timesQ (a b : FracD) : Option FracD := lowF (a.num * b.num) (a.den * b.den)
end Go.Proofs.Ytfkciiiopbanaaa
namespace Go.Proofs.Ytfkciiiopbanaaa
open Go.RowKit

theorem wrap_abs {x : Int} (h0 : -4611686018427387904 ≤ x) (h : x < 0) : IntKind.u64.wrap (-IntKind.u64.wrap x) = x.natAbs := by
  rw [IntKind.wrap_u64, IntKind.wrap_u64]; omega


set_option maxHeartbeats 400000 in
theorem size_any (x : Int) (w : World) (h0 : -4611686018427387904 ≤ x) (h1 : x ≤ 4611686018427387904) :
    Calls Try.prog 48 #[.int .i64 x] w fun e w' => e = .returned (.int .u64 (x.natAbs : Int)) ∧ w = w' := by
  go_enter Try.func48, Try.ntmps48
  go_wp2
  all_goals go_ret
  all_goals refine ⟨ret_int ?_, rfl⟩
  · exact wrap_abs h0 (by assumption)
  · omega

set_option maxHeartbeats 400000 in
theorem gcdU_any (x y : Nat) (w : World) (h0 : x ≤ 4611686018427387904) (h1 : y ≤ 4611686018427387904) :
    Calls Try.prog 47 #[.int .u64 x, .int .u64 y] w (DrewP (.int .u64 (Nat.gcd x y : Nat)) w) := by
  go_enter Try.func47, Try.ntmps47
  go_wp2_with fail
  go_loopw [0, 1] (fun s0 s1 wr => ∃ a b : Nat, s0 = .int .u64 a ∧ s1 = .int .u64 b ∧ a ≤ 4611686018427387904 ∧ b ≤ 4611686018427387904 ∧ Hid (Nat.gcd a b = Nat.gcd x y) ∧ Hid (∃ n, wr = w.drewN n)) (fun _ s1 _ => (intOf s1).toNat)
  case atStart => exact ⟨x, y, rfl, rfl, h0, h1, rfl, 0, rfl⟩
  case round =>
    obtain ⟨a, b, rfl, rfl, ha, hb, HG, HW⟩ := hrel
    by_cases hz : b = 0
    · subst hz
      have e1 : a = Nat.gcd x y := by rw [← HG.out, Nat.gcd_zero_right]
      go_wp2_with fail
      go_ret
      exact ⟨ret_int (by rw [e1]), HW.out⟩
    · have hq : ((b : Int) != 0) = true := by rw [bne_iff_ne]; omega
      have hq2 : ((b : Int) == 0) = false := by rw [beq_eq_false_iff_ne]; omega
      go_wp2_with fail
      go_quiet (fail)
      go_wp2_with fail
      go_roundw
      case rel =>
        refine ⟨b, a % b, rfl, by go_num, hb, Nat.le_trans (Nat.le_of_lt (Nat.mod_lt _ (by omega))) hb, ?_, ?_⟩
        · show _ = _
          rw [← HG.out, Nat.gcd_comm, ← Nat.gcd_rec, Nat.gcd_comm]
        · obtain ⟨n, hn⟩ := HW.out
          exact ⟨n + nq, by rw [hn, World.drewN_drewN]⟩
      case measure =>
        have h1 := Nat.mod_lt a (show 0 < b by omega)
        have h2 : ((a : Int) % (b : Int)) = ((a % b : Nat) : Int) := rfl
        show ((a : Int) % (b : Int)).toNat < (b : Int).toNat
        omega


theorem good_yes {num den : Int} (a : 1 ≤ den) (b : den ≤ 1073741824) (c : -1073741824 ≤ num) (d : num ≤ 1073741824) : fracGood num den = decide (Int.gcd num den = 1) := by
  rw [Bool.eq_iff_iff]; simp [fracGood, a, b, c, d]

set_option maxRecDepth 100000 in
set_option maxHeartbeats 1000000 in
theorem fracCheck_any (num den : Int) (w : World) :
    Calls Try.prog 36 #[.agg #[.int .i64 num, .int .i64 den]] w fun e w' => e = .returned (.agg #[.int .i64 (if fracGood num den then 0 else 3), .int .i64 0]) ∧ Below w.heap.size w w' := by
  have hb : ∀ (o1 o2 : Obj) (n : Nat), Below w.heap.size w (((w.alloc o1).alloc o2).drewN n) := fun o1 o2 n => below_drewN (((Below.refl _ _).alloc (Nat.le_refl _) _).alloc (by simp) _) n
  have HB := Lib.hid hb
  clear hb
  by_cases h1 : den < 1
  · have e1 : fracGood num den = false := by simp [fracGood]; omega
    rw [e1]
    clear e1
    have q1 : decide (den < 1) = true := by simpa using h1
    go_enter Try.func36, Try.ntmps36
    go_wp2_with fail
    go_quiet (fail)
    go_wp2_with fail
    refine bodyPost_ret (v := .agg #[.int .i64 3, .int .i64 0]) (by simp [results, Try.results36, go_sem]) rfl ⟨rfl, ?_⟩
    exact ((HB.out _ _ _).setCell (p := ⟨w.heap.size + 1, 0, none⟩) (by simp) _).setCell (p := ⟨w.heap.size + 1, 1, none⟩) (by simp) _
  have q1 : decide (den < 1) = false := by simpa using h1
  by_cases h2 : 1073741824 < den
  · have e1 : fracGood num den = false := by simp [fracGood]; omega
    rw [e1]
    clear e1
    have q2 : decide (1073741824 < den) = true := by simpa using h2
    go_enter Try.func36, Try.ntmps36
    go_wp2_with fail
    go_quiet (fail)
    go_wp2_with fail
    refine bodyPost_ret (v := .agg #[.int .i64 3, .int .i64 0]) (by simp [results, Try.results36, go_sem]) rfl ⟨rfl, ?_⟩
    exact ((HB.out _ _ _).setCell (p := ⟨w.heap.size + 1, 0, none⟩) (by simp) _).setCell (p := ⟨w.heap.size + 1, 1, none⟩) (by simp) _
  have q2 : decide (1073741824 < den) = false := by simpa using h2
  by_cases h3 : num < -1073741824
  · have e1 : fracGood num den = false := by simp [fracGood]; omega
    rw [e1]
    clear e1
    have q3 : decide (num < -1073741824) = true := by simpa using h3
    go_enter Try.func36, Try.ntmps36
    go_wp2_with fail
    go_quiet (fail)
    go_wp2_with fail
    refine bodyPost_ret (v := .agg #[.int .i64 3, .int .i64 0]) (by simp [results, Try.results36, go_sem]) rfl ⟨rfl, ?_⟩
    exact ((HB.out _ _ _).setCell (p := ⟨w.heap.size + 1, 0, none⟩) (by simp) _).setCell (p := ⟨w.heap.size + 1, 1, none⟩) (by simp) _
  have q3 : decide (num < -1073741824) = false := by simpa using h3
  by_cases h4 : 1073741824 < num
  · have e1 : fracGood num den = false := by simp [fracGood]; omega
    rw [e1]
    clear e1
    have q4 : decide (1073741824 < num) = true := by simpa using h4
    go_enter Try.func36, Try.ntmps36
    go_wp2_with fail
    go_quiet (fail)
    go_wp2_with fail
    refine bodyPost_ret (v := .agg #[.int .i64 3, .int .i64 0]) (by simp [results, Try.results36, go_sem]) rfl ⟨rfl, ?_⟩
    exact ((HB.out _ _ _).setCell (p := ⟨w.heap.size + 1, 0, none⟩) (by simp) _).setCell (p := ⟨w.heap.size + 1, 1, none⟩) (by simp) _
  have q4 : decide (1073741824 < num) = false := by simpa using h4
  rw [good_yes (by omega) (by omega) (by omega) (by omega)]
  have hgd : Nat.gcd num.natAbs den.natAbs = Int.gcd num den := rfl
  have HG := Lib.hid (fun W => gcdU_any num.natAbs den.natAbs W (by omega) (by omega))
  rw [hgd] at HG
  generalize Int.gcd num den = g at HG
  clear hgd
  by_cases h5 : g = 1
  · subst h5
    go_enter Try.func36, Try.ntmps36
    go_wp2_with fail
    go_quiet ((first | (go_at_call 48; exact quiet_eq (size_any _ _ (by omega) (by omega))) | (go_at_call 47; exact Calls.quiet_of (HG.out _))))
    go_wp2_with fail
    refine bodyPost_ret (v := .agg #[.int .i64 0, .int .i64 0]) (by simp [results, Try.results36, go_sem]) rfl ⟨rfl, ?_⟩
    exact ((HB.out _ _ _).setCell (p := ⟨w.heap.size + 1, 0, none⟩) (by simp) _).setCell (p := ⟨w.heap.size + 1, 1, none⟩) (by simp) _
  · have q5 : ((g : Int) != 1) = true := by rw [bne_iff_ne]; omega
    rw [show decide (g = 1) = false by simpa using h5]
    clear h5
    go_enter Try.func36, Try.ntmps36
    go_wp2_with fail
    go_quiet ((first | (go_at_call 48; exact quiet_eq (size_any _ _ (by omega) (by omega))) | (go_at_call 47; exact Calls.quiet_of (HG.out _))))
    go_wp2_with fail
    refine bodyPost_ret (v := .agg #[.int .i64 3, .int .i64 0]) (by simp [results, Try.results36, go_sem]) rfl ⟨rfl, ?_⟩
    exact ((HB.out _ _ _).setCell (p := ⟨w.heap.size + 1, 0, none⟩) (by simp) _).setCell (p := ⟨w.heap.size + 1, 1, none⟩) (by simp) _
end Go.Proofs.Ytfkciiiopbanaaa
