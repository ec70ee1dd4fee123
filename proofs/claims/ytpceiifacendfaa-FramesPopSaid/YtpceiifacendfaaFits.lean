/- Walks: models: which things and fractions are bad; the first of them. -/
import Derived.Test.YtpceiifacendfaaFrac
import Derived.Test.YtpceiifacendfaaForm
namespace Go.Proofs.Ytpceiifacendfaa
open Go.RowKit

structure ModelD where
  holds : List Bool
  things : List Int
  nums : List FracD
structure ModelB (w : World) (B : Nat) (B1 B2 B3 : Option Addr) (k1 k2 k3 : Nat) (M : ModelD) : Prop where
  holds : ArrB AtBool 1 w B B1 k1 M.holds
  things : IntsB w B B2 k2 M.things
  nums : ArrB AtFrac 2 w B B3 k3 M.nums
  m1 : k1 ≤ 9223372036854775807
  m2 : k2 ≤ 9223372036854775807
  m3 : k3 ≤ 9223372036854775807
theorem ModelB.below {w w' : World} {B B' : Nat} {B1 B2 B3 : Option Addr} {k1 k2 k3 : Nat} {M : ModelD} (h : ModelB w B B1 B2 B3 k1 k2 k3 M) (hb : Below B w w') (hB : B ≤ B') : ModelB w' B' B1 B2 B3 k1 k2 k3 M :=
  ⟨h.holds.below stays_bool hb hB, h.things.below stays_int hb hB, h.nums.below stays_frac hb hB, h.m1, h.m2, h.m3⟩
theorem fracs_get {w : World} {B : Nat} {A : Option Addr} {n : Nat} {xs : List FracD} (h : ArrB AtFrac 2 w B A n xs) {i : Nat} (hi : i < n) :
    ∃ (b off : Nat) (hx : i < xs.length), A = some ⟨b, off, none⟩ ∧ b < B ∧ w.cell? ⟨b, off + i * 2, none⟩ = some (.int .i64 xs[i].num) ∧ w.cell? ⟨b, off + i * 2 + 1, none⟩ = some (.int .i64 xs[i].den) := by
  obtain ⟨b, off, hx, e, hb, h0, h1⟩ := Arr.get h hi
  exact ⟨b, off, hx, e, hb, h0.1, h1.1⟩

def thingBad (n : Int) : Bool := decide (n < 0 ∨ 1000 < n)
def fracBad (x : FracD) : Bool := !fracGood x.num x.den
def fitsOnly (F : FormD) (M : ModelD) : Int × Int :=
  if ¬ M.holds.length = F.atoms.length then (9, 0) else if ¬ M.things.length = F.terms.length then (9, 1) else if ¬ M.nums.length = F.ints.length then (9, 2)
  else if 0 ≤ idx thingBad M.things 0 then (3, idx thingBad M.things 0) else if 0 ≤ idx fracBad M.nums 0 then (3, idx fracBad M.nums 0) else (0, 0)
def fitsF (F : FormD) (M : ModelD) : Int × Int := if (formF F).1 = 0 then fitsOnly F M else formF F
theorem formF_small {F : FormD} (h : (formF F).1 = 0) : F.terms.length ≤ 60 ∧ F.ints.length ≤ 12 ∧ F.atoms.length ≤ 120 := by
  rw [formF] at h
  split at h
  · rename_i ht
    split at h
    · simp at h
    · refine ⟨?_, by omega, by omega⟩
      rw [termsF] at ht
      split at ht
      · simp at ht
      · omega
  · rename_i ht
    exact absurd h ht

set_option maxHeartbeats 400000 in
theorem fits1_any (n : Int) (w : World) : Calls Try.prog 28 #[.int .i64 n] w fun e w' => e = .returned (.bool (thingBad n)) ∧ w = w' := by
  go_enter Try.func28, Try.ntmps28
  go_wp2
  all_goals go_ret
  all_goals refine ⟨ret_bool ?_, rfl⟩
  all_goals (rw [Bool.eq_iff_iff]; simp [thingBad]; try omega)
theorem fits1_pred (xs : List Int) (w : World) : PredOn Try.prog 28 #[] thingBad xs w := fun W y _ hb =>
  (fits1_any y W).mono fun _ _ ⟨he, hw⟩ => ⟨he, hw ▸ hb⟩
set_option maxHeartbeats 400000 in
theorem isThing_any (n : Int) (w : World) : Calls Try.prog 25 #[.int .i64 n] w fun e w' => e = .returned (.bool (!thingBad n)) ∧ w = w' := by
  go_enter Try.func25, Try.ntmps25
  go_wp2
  all_goals go_ret
  all_goals refine ⟨ret_bool ?_, rfl⟩
  all_goals (rw [Bool.eq_iff_iff]; simp [thingBad]; try omega)
set_option maxHeartbeats 400000 in
theorem fits2_any (num den : Int) (w : World) : Calls Try.prog 30 #[.agg #[.int .i64 num, .int .i64 den]] w fun e w' => e = .returned (.bool (!fracGood num den)) ∧ Below w.heap.size w w' := by
  have HC := Lib.hid (fracCheck_any num den (w.alloc (.cells #[.int .i64 num, .int .i64 den] 65)))
  generalize fracGood num den = g at HC
  cases g with
  | true =>
    have hfd := fun W => field_code 0 0 W
    go_enter Try.func30, Try.ntmps30
    go_wp2_with fail
    refine HC.out.mono ?_
    rintro e w' ⟨rfl, hb⟩
    simp only [if_true]
    go_wp2_with fail
    go_ret
    exact ⟨ret_bool rfl, ((Below.refl _ _).alloc (Nat.le_refl _) _).trans (hb.mono (by simp))⟩
  | false =>
    have hfd := fun W => field_code 3 0 W
    go_enter Try.func30, Try.ntmps30
    go_wp2_with fail
    refine HC.out.mono ?_
    rintro e w' ⟨rfl, hb⟩
    simp only [Bool.false_eq_true, if_false]
    go_wp2_with fail
    go_ret
    exact ⟨ret_bool rfl, ((Below.refl _ _).alloc (Nat.le_refl _) _).trans (hb.mono (by simp))⟩

set_option maxHeartbeats 1000000 in
theorem indexFracs_any (A : Option Addr) (n c : Nat) (xs : List FracD) (R : Int) (w : World) (hxs : ArrB AtFrac 2 w w.heap.size A n xs) (hn : n ≤ 1000000) (hR : idx fracBad xs 0 = R) :
    Calls Try.prog 29 #[.slice A n c, .func (.func 30) #[] #[]] w fun e w' => e = .returned (.int .i64 R) ∧ Below w.heap.size w w' := by
  have eg : ∀ args w, (callFunc 30 args).run Try.prog w = .ok (.enter 30 args) w := enters_of Try.func30 (by kernel_rfl) rfl
  have HR := Lib.hid hR
  clear hR
  go_enter Try.func29, Try.ntmps29
  go_wp2_with fail
  go_loopw [8] (fun s wr => ∃ k : Nat, k ≤ n ∧ s = .int .i64 k ∧ Hid (idx fracBad (xs.drop k) k = R) ∧ Below w.heap.size w wr) (fun s _ => n - (intOf s).toNat)
  case atStart => exact ⟨0, Nat.zero_le _, rfl, HR, Below.refl _ _⟩
  case round =>
    obtain ⟨k, hk, rfl, HK, hbel⟩ := hrel
    by_cases hlt : k < n
    · obtain ⟨b, off, hx, rfl, hb, hc0, hc1⟩ := fracs_get (hxs.below stays_frac hbel (Nat.le_refl _)) hlt
      have e1 := HK.out
      rw [drop_cons hx, idx] at e1
      generalize xs[k] = y at e1 hc0 hc1
      obtain ⟨nm, dn⟩ := y
      simp only at hc0 hc1
      have hcall := fits2_any nm dn wr
      rw [show fracBad ⟨nm, dn⟩ = !fracGood nm dn from rfl] at e1
      clear HK hx hxs
      cases hq : fracGood nm dn with
      | false =>
        rw [hq] at hcall e1
        have e2 : (k : Int) = R := e1
        have HC := Lib.hid hcall
        have H2 := Lib.hid e2
        clear hcall e1 hq e2
        go_wp2_with fail
        refine HC.out.mono ?_
        rintro e w' ⟨rfl, hb'⟩
        go_wp2_with fail
        go_ret
        exact ⟨ret_int H2.out, hbel.trans (hb'.mono hbel.size)⟩
      | true =>
        rw [hq] at hcall e1
        have e2 : idx fracBad (xs.drop (k + 1)) ((k : Int) + 1) = R := e1
        have HC := Lib.hid hcall
        have H2 := Lib.hid e2
        clear hcall e1 hq e2
        go_wp2_with fail
        refine HC.out.mono ?_
        rintro e w' ⟨rfl, hb'⟩
        go_wp2_with fail
        go_roundw
        case rel => exact ⟨k + 1, by omega, by go_num, by show _ = _; rw [Int.natCast_add]; exact H2.out, hbel.trans (hb'.mono hbel.size)⟩
        case measure => simp [intOf]; omega
    · obtain rfl : k = n := by omega
      have e1 := HK.out
      rw [List.drop_of_length_le (by have := hxs.len; omega), idx] at e1
      have H1 := Lib.hid e1
      clear e1 HK
      go_wp2_with fail
      go_ret
      exact ⟨ret_int H1.out, hbel⟩
end Go.Proofs.Ytpceiifacendfaa
