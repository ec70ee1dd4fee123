/- Walks: the order of literals that clauses are compared by. · Plain: the order that clauses are compared by; sorted clauses are one where they are permutations of one another. -/
import Derived.Test.YtdncchlfeanlmaaFuncs
import Derived.Deep.QuietTactic
import Derived.BigQuiet
import Derived.Lib.Small
import Derived.Sort.Grow
import Derived.IntWalk
import Derived.Deep.RegionWith
import Derived.Test.YtdncchlfeanlmaaCore
import Derived.Sort.Statements
import Derived.Test.YtdncchlfeanlmaaJuCD
namespace Go.Proofs.Ytdncchlfeanlmaa
open Go.RowKit

/-- the variable of a literal, as the machine's numbers have it -/
def varW (x : Int) : Int := if x < IntKind.i64.wrap (-x) then IntKind.i64.wrap (-x) else x
def ordI (x y : Int) : Int := if Lib.compareInt (varW x) (varW y) = 0 then Lib.compareInt y x else Lib.compareInt (varW x) (varW y)

set_option maxHeartbeats 400000 in
theorem varW_any (x : Int) (w : World) : Calls Try.prog 40 #[.int .i64 x] w fun e w' => e = .returned (.int .i64 (varW x)) ∧ w = w' := by
  obtain ⟨m, hm⟩ : ∃ m, IntKind.i64.wrap (-x) = m := ⟨_, rfl⟩
  have HV : Hid (varW x = if x < m then m else x) := by
    show _ = _
    unfold varW
    rw [hm]
  go_enter Try.func40, Try.ntmps40
  go_wp2
  all_goals go_ret
  all_goals exact ⟨ret_int (by rw [HV.out]; split <;> omega), rfl⟩
set_option maxHeartbeats 400000 in
theorem nanI_any (x : Int) (w : World) : Calls Try.prog 85 #[.int .i64 x] w fun e w' => e = .returned (.bool false) ∧ w = w' := by
  go_enter Try.func85, Try.ntmps85
  go_wp2
  go_ret
  exact ⟨by simp, rfl⟩
set_option maxHeartbeats 1000000 in
theorem compareI_any (x y : Int) (w : World) : Calls Try.prog 71 #[.int .i64 x, .int .i64 y] w fun e w' => e = .returned (.int .i64 (Lib.compareInt x y)) ∧ w = w' := by
  go_enter Try.func71, Try.ntmps71
  go_wp2_with (go_at_call 85; refine (nanI_any _ _).mono ?_; rintro e w' ⟨rfl, rfl⟩)
  all_goals (go_ret; refine ⟨?_, rfl⟩; unfold Lib.compareInt; (repeat' split) <;> first | rfl | (exfalso; omega))
set_option maxHeartbeats 1000000 in
theorem orI_any (B c : Nat) (p q : Int) (w : World) (h0 : w.cell? ⟨B, 0, none⟩ = some (.int .i64 p)) (h1 : w.cell? ⟨B, 1, none⟩ = some (.int .i64 q)) :
    Calls Try.prog 70 #[.slice (some ⟨B, 0, none⟩) 2 c] w fun e w' => e = .returned (.int .i64 (if p = 0 then q else p)) ∧ w = w' := by
  by_cases hp : p = 0
  · have hpb : (p != 0) = false := by simp [hp]
    by_cases hq : q = 0
    · have hqb : (q != 0) = false := by simp [hq]
      rw [if_pos hp]
      have HQ := Lib.hid hq
      clear hp hq
      go_enter Try.func70, Try.ntmps70
      go_wp2
      refine wp_loop_rounds 3 ?_
      repeat any_goals (rw [rounds_succ]; go_wp2)
      go_ret
      exact ⟨ret_int HQ.out.symm, rfl⟩
    · have hqb : (q != 0) = true := by simp [hq]
      rw [if_pos hp]
      clear hp hq
      go_enter Try.func70, Try.ntmps70
      go_wp2
      refine wp_loop_rounds 3 ?_
      repeat any_goals (rw [rounds_succ]; go_wp2)
      go_ret
      exact ⟨rfl, rfl⟩
  · have hpb : (p != 0) = true := by simp [hp]
    rw [if_neg hp]
    clear hp
    go_enter Try.func70, Try.ntmps70
    go_wp2
    refine wp_loop_rounds 3 ?_
    repeat any_goals (rw [rounds_succ]; go_wp2)
    go_ret
    exact ⟨rfl, rfl⟩
set_option maxRecDepth 100000 in
set_option maxHeartbeats 2000000 in
theorem order_any (x y : Int) (w : World) : Calls Try.prog 56 #[.int .i64 x, .int .i64 y] w fun e w' => e = .returned (.int .i64 (ordI x y)) ∧ ∃ q os', w' = Sort.grow (w.drewN q) os' := by
  obtain ⟨p, hp⟩ : ∃ p, Lib.compareInt (varW x) (varW y) = p := ⟨_, rfl⟩
  obtain ⟨q, hq⟩ : ∃ q, Lib.compareInt y x = q := ⟨_, rfl⟩
  have HC1 := Lib.hid (fun W => hp ▸ compareI_any (varW x) (varW y) W)
  have HC2 := Lib.hid (fun W => hq ▸ compareI_any y x W)
  have HO : Hid (ordI x y = if p = 0 then q else p) := by
    show _ = _
    unfold ordI
    rw [hp, hq]
  clear hp hq
  go_enter Try.func56, Try.ntmps56
  go_wp2_with (first
    | (go_at_call 40; refine (varW_any _ _).mono ?_; rintro e w9 ⟨rfl, rfl⟩)
    | (go_at_call 71; (with_reducible first | refine (HC1.out _).mono ?_ | refine (HC2.out _).mono ?_); rintro e w9 ⟨rfl, rfl⟩)
    | (go_at_call 70; refine (orI_any _ _ p q _ (by rw [World.cell?_alloc_new]; rfl) (by rw [World.cell?_alloc_new]; rfl)).mono ?_; rintro e w9 ⟨rfl, rfl⟩))
  all_goals go_ret
  all_goals exact ⟨ret_int (by rw [HO.out]; clear HC1 HC2 HO; first | (simp; done) | simp_all), 0, _, by rw [Sort.alloc_eq_grow]; rfl⟩
end Go.Proofs.Ytdncchlfeanlmaa
namespace Go.Proofs.Ytdncchlfeanlmaa
open Go.RowKit

def ordL (x y : Int) : Bool := decide (varW x < varW y ∨ (varW x = varW y ∧ y < x))
theorem ordI_lt (x y : Int) : decide (ordI x y < 0) = ordL x y := by
  unfold ordI ordL Lib.compareInt
  rw [decide_eq_decide]
  constructor
  · intro h
    split at h <;> rename_i h1 <;> (repeat' split at h) <;> (repeat' split at h1) <;> omega
  · intro h
    (repeat' split) <;> omega
theorem swo_ordL : Sort.SWO ordL where
  irrefl x := by simp [ordL]
  trans x y z h1 h2 := by simp only [ordL, decide_eq_true_eq] at *; omega
  ntrans x y z h1 h2 := by simp only [ordL, decide_eq_false_iff_not] at *; omega
theorem ordL_total (x y : Int) (h1 : ordL x y = false) (h2 : ordL y x = false) : x = y := by
  simp only [ordL, decide_eq_false_iff_not] at *
  omega
/-- a clause's literals in order -/
def srtI (l : List Int) : List Int := l.mergeSort fun x y => !ordL y x
theorem srtI_perm (l : List Int) : (srtI l).Perm l := List.mergeSort_perm _ _
theorem srtI_len (l : List Int) : (srtI l).length = l.length := (srtI_perm l).length_eq
theorem srtI_eq {a b : List Int} : srtI a = srtI b ↔ a.Perm b := by
  constructor
  · intro h
    exact (srtI_perm a).symm.trans (h ▸ srtI_perm b)
  · intro h
    have hp : ∀ l : List Int, (srtI l).Pairwise fun x y => (!ordL y x) = true := fun l => List.pairwise_mergeSort (by
        intro a b c h1 h2
        simp only [Bool.not_eq_true'] at h1 h2 ⊢
        exact swo_ordL.ntrans c b a h2 h1) (by
        intro a b
        cases h : ordL b a with
        | false => simp
        | true =>
          cases h' : ordL a b with
          | false => simp
          | true => have := swo_ordL.trans _ _ _ h h'; rw [swo_ordL.irrefl] at this; cases this) l
    refine List.Perm.eq_of_pairwise (le := fun x y => (!ordL y x) = true) ?_ (hp a) (hp b) ((srtI_perm a).trans (h.trans (srtI_perm b).symm))
    intro x y _ _ h1 h2
    simp only [Bool.not_eq_true'] at h1 h2
    exact ordL_total x y h2 h1
theorem permB_srt (a b : List Int) : permB a b = decide (srtI a = srtI b) := by
  unfold permB
  rw [decide_eq_decide]
  exact srtI_eq.symm
end Go.Proofs.Ytdncchlfeanlmaa
