/- Walks: slices.IndexFunc and ContainsFunc over numbers, whatever function is handed over. · Walks: what is wrong with clauses, in the program and in the reference. · Walks: fractions: their greatest common divisors, and which of them are good, in the program and in the reference. -/
import Derived.Test.YtkkpfdfoojcljaaGreatProg
import Derived.Test.YtkkpfdfoojcljaaGreatCore
import Derived.Deep.LoopGhost
import Derived.Shelf.Abstract
import Derived.Deep.QuietTactic
import Derived.BigQuiet
namespace Go.Proofs.YtkkpfdfoojcljaaGreat
open Go.RowKit

/-- the function g (with what it captured) tells p of each x of xs, and makes new blocks at most -/
def PredOn (P : Program) (g : Nat) (lb : Array Value) (p : Int → Bool) (xs : List Int) (w : World) : Prop :=
  ∀ (W : World) (x : Int), x ∈ xs → Below w.heap.size w W → Calls P g (#[.int .i64 x] ++ lb) W fun e w' => e = .returned (.bool (p x)) ∧ Below w.heap.size w w'

def idx {α : Type} (p : α → Bool) : List α → Int → Int
  | [], _ => -1
  | x :: r, i => if p x then i else idx p r (i + 1)
theorem idx_any {α : Type} (p : α → Bool) : ∀ (l : List α) (i : Int), 0 ≤ i → decide (0 ≤ idx p l i) = l.any p
  | [], i, _ => by simp [idx]
  | x :: r, i, h => by
    have := idx_any p r (i + 1) (by omega)
    cases hx : p x <;> simp [idx, hx] at this ⊢
    · exact this
    · exact h

set_option maxHeartbeats 1000000 in
theorem indexInts_any (g : Nat) (lb : Array Value) (eg : ∀ args w, (callFunc g args).run Tryz.prog w = .ok (.enter g args) w) (p : Int → Bool) (A : Option Addr) (n c : Nat) (xs : List Int) (R : Int) (w : World)
    (hxs : IntsB w w.heap.size A n xs) (hn : n ≤ 1000000) (hp : PredOn Tryz.prog g lb p xs w) (hR : idx p xs 0 = R) :
    Calls Tryz.prog 21 #[.slice A n c, .func (.func g) #[] lb] w fun e w' => e = .returned (.int .i64 R) ∧ Below w.heap.size w w' := by
  have HP := Lib.hid hp
  have HR := Lib.hid hR
  clear hp hR
  go_enter Tryz.func21, Tryz.ntmps21
  go_wp2_with fail
  go_loopw [8] (fun s wr => ∃ k : Nat, k ≤ n ∧ s = .int .i64 k ∧ Hid (idx p (xs.drop k) k = R) ∧ Below w.heap.size w wr) (fun s _ => n - (intOf s).toNat)
  case atStart => exact ⟨0, Nat.zero_le _, rfl, HR, Below.refl _ _⟩
  case round =>
    obtain ⟨k, hk, rfl, HK, hbel⟩ := hrel
    by_cases hlt : k < n
    · obtain ⟨b, off, hx, rfl, hb, hcell, hlo, hhi⟩ := ints_get (hxs.below stays_int hbel (Nat.le_refl _)) hlt
      have hcall := HP.out wr xs[k] (List.getElem_mem hx) hbel
      have e1 := HK.out
      rw [drop_cons hx, idx] at e1
      have HX := Lib.hid hx
      generalize xs[k] = y at hcall e1 hlo hhi hcell
      clear HK hx hxs
      cases hq : p y with
      | true =>
        rw [hq] at hcall e1
        have e2 : (k : Int) = R := e1
        have HC := Lib.hid hcall
        have H2 := Lib.hid e2
        clear hcall e1 hq e2
        go_wp2_with (go_at_fn g; refine HC.out.mono ?_; rintro e w' ⟨rfl, hb'⟩)
        go_ret
        exact ⟨ret_int H2.out, hb'⟩
      | false =>
        rw [hq] at hcall e1
        have e2 : idx p (xs.drop (k + 1)) ((k : Int) + 1) = R := e1
        have HC := Lib.hid hcall
        have H2 := Lib.hid e2
        clear hcall e1 hq e2
        go_wp2_with (go_at_fn g; refine HC.out.mono ?_; rintro e w' ⟨rfl, hb'⟩)
        go_roundw
        case rel => exact ⟨k + 1, by omega, by go_num, by show _ = _; rw [Int.natCast_add]; exact H2.out, hb'⟩
        case measure => simp [intOf]; omega
    · obtain rfl : k = n := by omega
      have e1 := HK.out
      rw [List.drop_of_length_le (by have := hxs.len; omega), idx] at e1
      have H1 := Lib.hid e1
      clear e1 HK
      go_wp2_with fail
      go_ret
      exact ⟨ret_int H1.out, hbel⟩

set_option maxHeartbeats 1000000 in
theorem containsInts_any (g : Nat) (lb : Array Value) (eg : ∀ args w, (callFunc g args).run Tryz.prog w = .ok (.enter g args) w) (p : Int → Bool) (A : Option Addr) (n c : Nat) (xs : List Int) (R : Bool) (w : World)
    (hxs : IntsB w w.heap.size A n xs) (hn : n ≤ 1000000) (hp : PredOn Tryz.prog g lb p xs w) (hR : xs.any p = R) :
    Calls Tryz.prog 44 #[.slice A n c, .func (.func g) #[] lb] w fun e w' => e = .returned (.bool R) ∧ Below w.heap.size w w' := by
  have HH := Lib.hid (indexInts_any g lb eg p A n c xs _ w hxs hn hp rfl)
  have h0 := idx_any p xs 0 (by omega)
  rw [hR] at h0
  generalize idx p xs 0 = r at HH h0
  have H0 := Lib.hid h0
  clear h0 hR hp hxs
  go_enter Tryz.func44, Tryz.ntmps44
  go_wp2_with fail
  refine HH.out.mono ?_
  rintro e w' ⟨rfl, hb⟩
  go_wp2_with fail
  go_ret
  exact ⟨ret_bool H0.out, hb⟩
end Go.Proofs.YtkkpfdfoojcljaaGreat
namespace Go.Proofs.YtkkpfdfoojcljaaGreat
open Go.RowKit

def absI (x : Int) : Int := if x < 0 then -x else x
def litBad (vars x : Int) : Bool := decide (x = 0 ∨ x < -vars ∨ vars < x)
def sameVar (x y : Int) : Bool := decide (y = x ∨ y = -x)
def badL (vars : Int) : List Int → List Int → Int → Int × Int
  | _, [], _ => (0, 0)
  | pre, x :: r, i => if litBad vars x then (i, 3) else if pre.any (sameVar x) then (i, 7) else badL vars (pre ++ [x]) r (i + 1)
def clauseCode (vars : Int) (l : List Int) : Int := if 24 < l.length then 2 else (badL vars [] l 0).2
def cnfF (vars : Int) (l : List (List Int)) : Int × Int := if 400 < l.length then (2, 0) else firstBad (fun x _ => clauseCode vars x) l 0

set_option maxHeartbeats 400000 in
theorem var_any (x : Int) (w : World) (h0 : -1000000 ≤ x) (h1 : x ≤ 1000000) :
    Calls Tryz.prog 62 #[.int .i64 x] w fun e w' => e = .returned (.int .i64 (absI x)) ∧ w = w' := by
  go_enter Tryz.func62, Tryz.ntmps62
  go_wp2
  all_goals go_ret
  all_goals exact ⟨ret_int (by unfold absI; split <;> omega), rfl⟩

set_option maxHeartbeats 400000 in
theorem bad1_any (y x : Int) (B : Nat) (w : World) (hc : w.cell? ⟨B, 0, none⟩ = some (.int .i64 x)) (h0 : -1000000 ≤ x) (h1 : x ≤ 1000000) (h2 : -1000000 ≤ y) (h3 : y ≤ 1000000) :
    Calls Tryz.prog 83 #[.int .i64 y, .pointer (some ⟨B, 0, none⟩)] w fun e w' => e = .returned (.bool (sameVar x y)) ∧ Below w.heap.size w w' := by
  go_enter Tryz.func83, Tryz.ntmps83
  go_wp2_with fail
  go_quiet ((go_at_call 62; exact quiet_eq (var_any _ _ (by omega) (by omega))))
  go_wp2
  go_ret
  refine ⟨ret_bool ?_, below_drewN (Below.refl _ _) _⟩
  rw [Bool.eq_iff_iff]
  simp [sameVar, absI]
  omega

theorem bad1_pred (x : Int) (B : Nat) (xs : List Int) (w : World) (hB : B < w.heap.size) (hc : w.cell? ⟨B, 0, none⟩ = some (.int .i64 x)) (h0 : -1000000 ≤ x) (h1 : x ≤ 1000000) (hx : ∀ y ∈ xs, -1000000 ≤ y ∧ y ≤ 1000000) :
    PredOn Tryz.prog 83 #[.pointer (some ⟨B, 0, none⟩)] (sameVar x) xs w := fun W y hy hb =>
  (bad1_any y x B W ((hb.cell (p := ⟨B, 0, none⟩) hB).trans hc) h0 h1 (hx y hy).1 (hx y hy).2).mono fun _ _ ⟨he, hb'⟩ => ⟨he, hb.trans (hb'.mono hb.size)⟩
set_option maxHeartbeats 1000000 in
theorem bad_any (vars : Int) (A : Option Addr) (n c : Nat) (xs : List Int) (ri rc : Int) (w : World) (hxs : IntsB w w.heap.size A n xs) (hnc : n ≤ c) (hn : n ≤ 1000) (h0 : 0 ≤ vars) (h1 : vars ≤ 120)
    (hR : badL vars [] xs 0 = (ri, rc)) :
    Calls Tryz.prog 61 #[.slice A n c, .int .i64 vars] w fun e w' => e = .returned (.tuple #[.int .i64 ri, .int .i64 rc]) ∧ Below w.heap.size w w' := by
  have HR := Lib.hid hR
  have EG := Lib.hid (show ∀ args w, (callFunc 83 args).run Tryz.prog w = .ok (.enter 83 args) w from enters_of Tryz.func83 (by kernel_rfl) rfl)
  clear hR
  go_enter Tryz.func61, Tryz.ntmps61
  go_wp2_with fail
  go_loopw [10] (fun s wr => ∃ k : Nat, k ≤ n ∧ s = .int .i64 k ∧ Hid (badL vars (xs.take k) (xs.drop k) k = (ri, rc)) ∧ Hid (∀ y ∈ xs.take k, -vars ≤ y ∧ y ≤ vars) ∧ Below w.heap.size w wr) (fun s _ => n - (intOf s).toNat)
  case atStart => exact ⟨0, Nat.zero_le _, rfl, HR, (fun y hy => by simp at hy), Below.refl _ _⟩
  case round =>
    obtain ⟨k, hk, rfl, HK, HA, hbel⟩ := hrel
    have hz := hbel.size
    by_cases hlt : k < n
    · obtain ⟨b, off, hx, rfl, hb, hcell, hlo, hhi⟩ := ints_get (hxs.below stays_int hbel (Nat.le_refl _)) hlt
      have e1 := HK.out
      have hts := take_snoc_l hx
      rw [drop_cons hx, badL] at e1
      generalize xs[k] = y at e1 hts hlo hhi hcell
      have HT := Lib.hid hts
      clear hts HK HR
      by_cases hbad : litBad vars y = true
      · rw [if_pos hbad] at e1
        simp only [Prod.mk.injEq] at e1
        obtain ⟨rfl, rfl⟩ := e1
        have hb3 : y = 0 ∨ y < -vars ∨ vars < y := by simpa [litBad] using hbad
        clear hbad
        rcases (by omega : y = 0 ∨ (¬ y = 0 ∧ y < -vars) ∨ (¬ y = 0 ∧ ¬ y < -vars ∧ vars < y)) with hy | ⟨hy, hy2⟩ | ⟨hy, hy2, hy3⟩
        · have hq : (y == 0) = true := by simpa using hy
          clear hy hb3
          go_wp2_with fail
          go_ret2
          exact ⟨rfl, hbel.alloc hz _⟩
        · have hq : (y == 0) = false := by simpa using hy
          clear hy hb3
          go_wp2_with fail
          go_ret2
          exact ⟨rfl, hbel.alloc hz _⟩
        · have hq : (y == 0) = false := by simpa using hy
          clear hy hb3
          go_wp2_with fail
          go_ret2
          exact ⟨rfl, hbel.alloc hz _⟩
      · rw [if_neg hbad] at e1
        have hy : ¬ (y = 0 ∨ y < -vars ∨ vars < y) := by simpa [litBad] using hbad
        have hq : (y == 0) = false := by rw [beq_eq_false_iff_ne]; omega
        have hy2 : ¬ y < -vars := by omega
        have hy3 : ¬ vars < y := by omega
        have har : IntsB (wr.alloc (.cells #[.int .i64 y] 3)) (wr.heap.size + 1) (some ⟨b, off, none⟩) k (xs.take k) := Arr.take (hxs.below stays_int (hbel.alloc hz _) (by omega)) (Nat.le_of_lt hlt)
        have hal : ∀ y ∈ xs.take (k + 1), -vars ≤ y ∧ y ≤ vars := by
          rw [HT.out]
          intro z hz
          rcases List.mem_append.1 hz with h | h
          · exact HA.out z h
          · obtain rfl : z = y := by simpa using h
            omega
        have HC := Lib.hid (fun R hR => containsInts_any 83 #[.pointer (some ⟨wr.heap.size, 0, none⟩)] EG.out (sameVar y) (some ⟨b, off, none⟩) k c (xs.take k) R (wr.alloc (.cells #[.int .i64 y] 3)) (by simpa using har) (by omega)
          (bad1_pred y wr.heap.size (xs.take k) _ (by simp) (by simp) (by omega) (by omega) (fun z hz => by have := HA.out z hz; omega)) hR)
        have HL := Lib.hid hal
        clear har hal hbad hy HA
        by_cases hany : (xs.take k).any (sameVar y) = true
        · rw [if_pos hany] at e1
          simp only [Prod.mk.injEq] at e1
          obtain ⟨rfl, rfl⟩ := e1
          have HN := Lib.hid hany
          clear hany
          go_wp2_with fail
          refine (HC.out true HN.out).mono ?_
          rintro e w' ⟨rfl, hb'⟩
          go_wp2_with fail
          go_ret2
          exact ⟨rfl, (hbel.alloc hz _).trans (hb'.mono (by simp; omega))⟩
        · rw [if_neg hany] at e1
          have HN := Lib.hid (show (xs.take k).any (sameVar y) = false by simpa using hany)
          have H1 := Lib.hid e1
          clear hany e1
          go_wp2_with fail
          refine (HC.out false HN.out).mono ?_
          rintro e w' ⟨rfl, hb'⟩
          go_wp2_with fail
          go_roundw
          case rel => exact ⟨k + 1, by omega, by go_num, by show _ = _; rw [HT.out, Int.natCast_add]; exact H1.out, HL, (hbel.alloc hz _).trans (hb'.mono (by simp; omega))⟩
          case measure => simp [intOf]; omega
    · obtain rfl : k = n := by omega
      have e1 := HK.out
      rw [List.drop_of_length_le (by have := hxs.len; omega), badL] at e1
      simp only [Prod.mk.injEq] at e1
      obtain ⟨rfl, rfl⟩ := e1
      clear HK HA HR
      go_wp2_with fail
      go_ret2
      exact ⟨rfl, hbel⟩
end Go.Proofs.YtkkpfdfoojcljaaGreat
namespace Go.Proofs.YtkkpfdfoojcljaaGreat
open Go.RowKit

structure FracD where
  num : Int
  den : Int
def AtFrac : Ent FracD := fun w S b o x => AtInt w S b o x.num ∧ AtInt w S b (o + 1) x.den
theorem stays_frac : Stays AtFrac := fun _ _ _ _ _ _ _ hS hk hb h => ⟨stays_int _ _ _ _ _ _ _ hS hk hb h.1, stays_int _ _ _ _ _ _ _ hS hk hb h.2⟩
def fracGood (num den : Int) : Bool := decide (1 ≤ den ∧ den ≤ 1073741824 ∧ -1073741824 ≤ num ∧ num ≤ 1073741824 ∧ Int.gcd num den = 1)

theorem gcd_tmod (x y : Int) : Int.gcd y (x.tmod y) = Int.gcd x y := by
  show y.natAbs.gcd (x.tmod y).natAbs = x.natAbs.gcd y.natAbs
  rw [Int.natAbs_tmod, Nat.gcd_comm, ← Nat.gcd_rec, Nat.gcd_comm]
theorem wrap_abs {x : Int} (h0 : -4611686018427387904 ≤ x) (h : x < 0) : IntKind.u64.wrap (-IntKind.u64.wrap x) = x.natAbs := by
  rw [IntKind.wrap_u64, IntKind.wrap_u64]; omega


set_option maxHeartbeats 400000 in
theorem size_any (x : Int) (w : World) (h0 : -4611686018427387904 ≤ x) (h1 : x ≤ 4611686018427387904) :
    Calls Tryz.prog 42 #[.int .i64 x] w fun e w' => e = .returned (.int .u64 (x.natAbs : Int)) ∧ w = w' := by
  go_enter Tryz.func42, Tryz.ntmps42
  go_wp2
  all_goals go_ret
  all_goals refine ⟨ret_int ?_, rfl⟩
  · exact wrap_abs h0 (by assumption)
  · omega

set_option maxHeartbeats 400000 in
theorem gcdU_any (x y : Nat) (w : World) (h0 : x ≤ 4611686018427387904) (h1 : y ≤ 4611686018427387904) :
    Calls Tryz.prog 41 #[.int .u64 x, .int .u64 y] w (DrewP (.int .u64 (Nat.gcd x y : Nat)) w) := by
  go_enter Tryz.func41, Tryz.ntmps41
  go_wp2_with fail
  go_loopw [0, 1] (fun s0 s1 wr => ∃ a b : Nat, s0 = .int .u64 a ∧ s1 = .int .u64 b ∧ a ≤ 4611686018427387904 ∧ b ≤ 4611686018427387904 ∧ Hid (Nat.gcd a b = Nat.gcd x y) ∧ Hid (∃ n, wr = w.drewN n)) (fun _ s1 _ => (intOf s1).toNat)
  case atStart => exact ⟨x, y, rfl, rfl, h0, h1, rfl, 0, rfl⟩
  case round =>
    obtain ⟨a, b, rfl, rfl, ha, hb, HG, HW⟩ := hrel
    by_cases hz : b = 0
    · subst hz
      have e1 : a = Nat.gcd x y := by rw [← HG.out, Nat.gcd_zero_right]
      go_wp2_with fail
      go_ret
      exact ⟨ret_int (by rw [e1]), HW.out⟩
    · have hq : ((b : Int) != 0) = true := by rw [bne_iff_ne]; omega
      have hq2 : ((b : Int) == 0) = false := by rw [beq_eq_false_iff_ne]; omega
      go_wp2_with fail
      go_quiet (fail)
      go_wp2_with fail
      go_roundw
      case rel =>
        refine ⟨b, a % b, rfl, by go_num, hb, Nat.le_trans (Nat.le_of_lt (Nat.mod_lt _ (by omega))) hb, ?_, ?_⟩
        · show _ = _
          rw [← HG.out, Nat.gcd_comm, ← Nat.gcd_rec, Nat.gcd_comm]
        · obtain ⟨n, hn⟩ := HW.out
          exact ⟨n + nq, by rw [hn, World.drewN_drewN]⟩
      case measure =>
        have h1 := Nat.mod_lt a (show 0 < b by omega)
        have h2 : ((a : Int) % (b : Int)) = ((a % b : Nat) : Int) := rfl
        show ((a : Int) % (b : Int)).toNat < (b : Int).toNat
        omega

set_option maxHeartbeats 400000 in
theorem gcdI_any (x y : Int) (w : World) (h0 : -4611686018427387904 ≤ x) (h1 : x ≤ 4611686018427387904) (h2 : -4611686018427387904 ≤ y) (h3 : y ≤ 4611686018427387904) :
    Calls Tryz.prog 32 #[.int .i64 x, .int .i64 y] w (DrewP (.int .i64 (Int.gcd x y : Nat)) w) := by
  go_enter Tryz.func32, Tryz.ntmps32
  go_wp2_with fail
  go_loopw [0, 1] (fun s0 s1 wr => ∃ a b : Int, s0 = .int .i64 a ∧ s1 = .int .i64 b ∧ -4611686018427387904 ≤ a ∧ a ≤ 4611686018427387904 ∧ -4611686018427387904 ≤ b ∧ b ≤ 4611686018427387904 ∧ Hid (Int.gcd a b = Int.gcd x y) ∧ Hid (∃ n, wr = w.drewN n)) (fun _ s1 _ => (intOf s1).natAbs)
  case atStart => exact ⟨x, y, rfl, rfl, h0, h1, h2, h3, rfl, 0, rfl⟩
  case round =>
    obtain ⟨a, b, rfl, rfl, ha, ha2, hb, hb2, HG, HW⟩ := hrel
    by_cases hz : b = 0
    · subst hz
      have e1 : (a.natAbs : Int) = (Int.gcd x y : Nat) := by rw [← HG.out, Int.gcd_zero_right]
      have HE := Lib.hid e1
      clear e1
      go_wp2_with fail
      all_goals go_ret
      all_goals exact ⟨ret_int (by rw [← HE.out]; omega), HW.out⟩
    · have hq : (b != 0) = true := by rw [bne_iff_ne]; omega
      have hq2 : (b == 0) = false := by rw [beq_eq_false_iff_ne]; omega
      go_wp2_with fail
      go_quiet (fail)
      go_wp2_with fail
      have h4 := Int.natAbs_tmod a b
      have h5 : (a.tmod b).natAbs < b.natAbs := by rw [h4]; exact Nat.mod_lt _ (by omega)
      go_roundw
      case rel =>
        refine ⟨b, a.tmod b, rfl, rfl, by omega, by omega, by omega, by omega, ?_, ?_⟩
        · show _ = _
          rw [gcd_tmod, HG.out]
        · obtain ⟨n, hn⟩ := HW.out
          exact ⟨n + nq, by rw [hn, World.drewN_drewN]⟩
      case measure => exact h5

theorem good_yes {num den : Int} (a : 1 ≤ den) (b : den ≤ 1073741824) (c : -1073741824 ≤ num) (d : num ≤ 1073741824) : fracGood num den = decide (Int.gcd num den = 1) := by
  rw [Bool.eq_iff_iff]; simp [fracGood, a, b, c, d]

set_option maxRecDepth 100000 in
set_option maxHeartbeats 1000000 in
theorem fracCheck_any (num den : Int) (w : World) :
    Calls Tryz.prog 25 #[.agg #[.int .i64 num, .int .i64 den]] w fun e w' => e = .returned (.agg #[.int .i64 (if fracGood num den then 0 else 3), .int .i64 0]) ∧ Below w.heap.size w w' := by
  have hb : ∀ (o1 o2 : Obj) (n : Nat), Below w.heap.size w (((w.alloc o1).alloc o2).drewN n) := fun o1 o2 n => below_drewN (((Below.refl _ _).alloc (Nat.le_refl _) _).alloc (by simp) _) n
  have HB := Lib.hid hb
  clear hb
  by_cases h1 : den < 1
  · have e1 : fracGood num den = false := by simp [fracGood]; omega
    rw [e1]
    clear e1
    have q1 : decide (den < 1) = true := by simpa using h1
    go_enter Tryz.func25, Tryz.ntmps25
    go_wp2_with fail
    go_quiet (fail)
    go_wp2_with fail
    refine bodyPost_ret (v := .agg #[.int .i64 3, .int .i64 0]) (by simp [results, Tryz.results25, go_sem]) rfl ⟨rfl, ?_⟩
    exact ((HB.out _ _ _).setCell (p := ⟨w.heap.size + 1, 0, none⟩) (by simp) _).setCell (p := ⟨w.heap.size + 1, 1, none⟩) (by simp) _
  have q1 : decide (den < 1) = false := by simpa using h1
  by_cases h2 : 1073741824 < den
  · have e1 : fracGood num den = false := by simp [fracGood]; omega
    rw [e1]
    clear e1
    have q2 : decide (1073741824 < den) = true := by simpa using h2
    go_enter Tryz.func25, Tryz.ntmps25
    go_wp2_with fail
    go_quiet (fail)
    go_wp2_with fail
    refine bodyPost_ret (v := .agg #[.int .i64 3, .int .i64 0]) (by simp [results, Tryz.results25, go_sem]) rfl ⟨rfl, ?_⟩
    exact ((HB.out _ _ _).setCell (p := ⟨w.heap.size + 1, 0, none⟩) (by simp) _).setCell (p := ⟨w.heap.size + 1, 1, none⟩) (by simp) _
  have q2 : decide (1073741824 < den) = false := by simpa using h2
  by_cases h3 : num < -1073741824
  · have e1 : fracGood num den = false := by simp [fracGood]; omega
    rw [e1]
    clear e1
    have q3 : decide (num < -1073741824) = true := by simpa using h3
    go_enter Tryz.func25, Tryz.ntmps25
    go_wp2_with fail
    go_quiet (fail)
    go_wp2_with fail
    refine bodyPost_ret (v := .agg #[.int .i64 3, .int .i64 0]) (by simp [results, Tryz.results25, go_sem]) rfl ⟨rfl, ?_⟩
    exact ((HB.out _ _ _).setCell (p := ⟨w.heap.size + 1, 0, none⟩) (by simp) _).setCell (p := ⟨w.heap.size + 1, 1, none⟩) (by simp) _
  have q3 : decide (num < -1073741824) = false := by simpa using h3
  by_cases h4 : 1073741824 < num
  · have e1 : fracGood num den = false := by simp [fracGood]; omega
    rw [e1]
    clear e1
    have q4 : decide (1073741824 < num) = true := by simpa using h4
    go_enter Tryz.func25, Tryz.ntmps25
    go_wp2_with fail
    go_quiet (fail)
    go_wp2_with fail
    refine bodyPost_ret (v := .agg #[.int .i64 3, .int .i64 0]) (by simp [results, Tryz.results25, go_sem]) rfl ⟨rfl, ?_⟩
    exact ((HB.out _ _ _).setCell (p := ⟨w.heap.size + 1, 0, none⟩) (by simp) _).setCell (p := ⟨w.heap.size + 1, 1, none⟩) (by simp) _
  have q4 : decide (1073741824 < num) = false := by simpa using h4
  rw [good_yes (by omega) (by omega) (by omega) (by omega)]
  have hgd : Nat.gcd num.natAbs den.natAbs = Int.gcd num den := rfl
  have HG := Lib.hid (fun W => gcdU_any num.natAbs den.natAbs W (by omega) (by omega))
  rw [hgd] at HG
  generalize Int.gcd num den = g at HG
  clear hgd
  by_cases h5 : g = 1
  · subst h5
    go_enter Tryz.func25, Tryz.ntmps25
    go_wp2_with fail
    go_quiet ((first | (go_at_call 42; exact quiet_eq (size_any _ _ (by omega) (by omega))) | (go_at_call 41; exact Calls.quiet_of (HG.out _))))
    go_wp2_with fail
    refine bodyPost_ret (v := .agg #[.int .i64 0, .int .i64 0]) (by simp [results, Tryz.results25, go_sem]) rfl ⟨rfl, ?_⟩
    exact ((HB.out _ _ _).setCell (p := ⟨w.heap.size + 1, 0, none⟩) (by simp) _).setCell (p := ⟨w.heap.size + 1, 1, none⟩) (by simp) _
  · have q5 : ((g : Int) != 1) = true := by rw [bne_iff_ne]; omega
    rw [show decide (g = 1) = false by simpa using h5]
    clear h5
    go_enter Tryz.func25, Tryz.ntmps25
    go_wp2_with fail
    go_quiet ((first | (go_at_call 42; exact quiet_eq (size_any _ _ (by omega) (by omega))) | (go_at_call 41; exact Calls.quiet_of (HG.out _))))
    go_wp2_with fail
    refine bodyPost_ret (v := .agg #[.int .i64 3, .int .i64 0]) (by simp [results, Tryz.results25, go_sem]) rfl ⟨rfl, ?_⟩
    exact ((HB.out _ _ _).setCell (p := ⟨w.heap.size + 1, 0, none⟩) (by simp) _).setCell (p := ⟨w.heap.size + 1, 1, none⟩) (by simp) _

set_option maxRecDepth 100000 in
set_option maxHeartbeats 1000000 in
theorem good_any (num den : Int) (w : World) :
    Calls Tryz.prog 17 #[.agg #[.int .i64 num, .int .i64 den]] w fun e w' => e = .returned (.bool (fracGood num den)) ∧ Below w.heap.size w w' := by
  by_cases hok : 1 ≤ den ∧ den ≤ 1073741824 ∧ -1073741824 ≤ num ∧ num ≤ 1073741824
  · obtain ⟨h1, h2, h3, h4⟩ := hok
    rw [good_yes h1 h2 h3 h4]
    have HG := Lib.hid (fun W => gcdI_any num den W (by omega) (by omega) (by omega) (by omega))
    generalize Int.gcd num den = g at HG
    go_enter Tryz.func17, Tryz.ntmps17
    go_wp2_with fail
    refine (HG.out _).mono ?_
    rintro e w' ⟨rfl, n, rfl⟩
    go_wp2_with fail
    go_ret
    refine ⟨ret_bool ?_, below_drewN ((Below.refl _ _).alloc (Nat.le_refl _) _) n⟩
    rw [Bool.eq_iff_iff]
    simp
    omega
  · have e1 : fracGood num den = false := by simp [fracGood]; omega
    rw [e1]
    clear e1
    go_enter Tryz.func17, Tryz.ntmps17
    go_wp2_with fail
    all_goals first | omega | skip
    all_goals go_ret
    all_goals exact ⟨rfl, (Below.refl _ _).alloc (Nat.le_refl _) _⟩
end Go.Proofs.YtkkpfdfoojcljaaGreat
