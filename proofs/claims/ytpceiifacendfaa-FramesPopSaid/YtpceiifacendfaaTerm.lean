/- Walks: what is wrong with terms, in the program and in the reference. -/
import Derived.Test.YtpceiifacendfaaFuncs
namespace Go.Proofs.Ytpceiifacendfaa
open Go.RowKit

def kidBad (i k : Int) : Bool := decide (k < 0 ∨ i ≤ k)
def termCode (t : TermD) (i : Int) : Int := if t.head < 0 ∨ 1000000 < t.head then 3 else if 8 < t.kids.length then 9 else if t.kids.any (kidBad i) then 3 else 0
theorem termCode_head {hd : Int} {ks : List Int} {i : Int} (h : hd < 0 ∨ 1000000 < hd) : termCode ⟨hd, ks⟩ i = 3 := if_pos h
theorem termCode_size {hd : Int} {ks : List Int} {i : Int} (h : ¬ (hd < 0 ∨ 1000000 < hd)) (h2 : 8 < ks.length) : termCode ⟨hd, ks⟩ i = 9 := by
  unfold termCode; rw [if_neg h, if_pos h2]
theorem termCode_kids {hd : Int} {ks : List Int} {i : Int} (h : ¬ (hd < 0 ∨ 1000000 < hd)) (h2 : ¬ 8 < ks.length) : termCode ⟨hd, ks⟩ i = if ks.any (kidBad i) then 3 else 0 := by
  unfold termCode; rw [if_neg h, if_neg h2]

set_option maxHeartbeats 400000 in
theorem checkTerm1_any (k i : Int) (B : Nat) (w : World) (hc : w.cell? ⟨B, 0, none⟩ = some (.int .i64 i)) :
    Calls Try.prog 46 #[.int .i64 k, .pointer (some ⟨B, 0, none⟩)] w fun e w' => e = .returned (.bool (kidBad i k)) ∧ Below w.heap.size w w' := by
  go_enter Try.func46, Try.ntmps46
  go_wp2
  all_goals go_ret
  all_goals refine ⟨ret_bool ?_, Below.refl _ _⟩
  all_goals (rw [Bool.eq_iff_iff]; simp [kidBad]; try omega)

theorem checkTerm1_pred (i : Int) (B : Nat) (xs : List Int) (w : World) (hB : B < w.heap.size) (hc : w.cell? ⟨B, 0, none⟩ = some (.int .i64 i)) :
    PredOn Try.prog 46 #[.pointer (some ⟨B, 0, none⟩)] (kidBad i) xs w := fun W y _ hb =>
  (checkTerm1_any y i B W ((hb.cell (p := ⟨B, 0, none⟩) hB).trans hc)).mono fun _ _ ⟨he, hb'⟩ => ⟨he, hb.trans (hb'.mono hb.size)⟩

set_option maxHeartbeats 1000000 in
theorem checkTerm_any (A : Option Addr) (n c : Nat) (ts : List TermD) (i : Nat) (hi : i < n) (R : Int) (w : World) (hxs : ArrB AtTerm 2 w w.heap.size A n ts) (hR : ∀ h : i < ts.length, termCode ts[i] i = R) :
    Calls Try.prog 18 #[.slice A n c, .int .i64 i] w fun e w' => e = .returned (.int .i64 R) ∧ Below w.heap.size w w' := by
  have EG := Lib.hid (show ∀ args w, (callFunc 46 args).run Try.prog w = .ok (.enter 46 args) w from enters_of Try.func46 (by kernel_rfl) rfl)
  obtain ⟨b, off, hx, A', n', c', rfl, hb, h0, h1, hnc, hcm, har, hlo, hhi⟩ := terms_get hxs hi
  have hr := hR hx
  unfold maxLen at hcm
  have hl := har.len
  generalize ts[i] = t at hr har hl h0 hlo hhi
  obtain ⟨hd, ks⟩ := t
  simp only at hr har hl h0 hlo hhi
  unfold termCode at hr
  simp only at hr
  rw [hl] at hr
  have hz : b < w.heap.size + 1 := by omega
  have hz2 : ¬ b = w.heap.size := by omega
  clear hl hR
  by_cases hd1 : hd < 0
  · rw [if_pos (.inl hd1)] at hr
    subst hr
    go_enter Try.func18, Try.ntmps18
    go_wp2_with fail
    go_ret
    exact ⟨rfl, ((Below.refl _ _).alloc (Nat.le_refl _) _).alloc (by simp) _⟩
  by_cases hd2 : 1000000 < hd
  · rw [if_pos (.inr hd2)] at hr
    subst hr
    go_enter Try.func18, Try.ntmps18
    go_wp2_with fail
    go_ret
    exact ⟨rfl, ((Below.refl _ _).alloc (Nat.le_refl _) _).alloc (by simp) _⟩
  rw [if_neg (by omega)] at hr
  by_cases h8 : 8 < n'
  · rw [if_pos h8] at hr
    subst hr
    go_enter Try.func18, Try.ntmps18
    go_wp2_with fail
    go_ret
    exact ⟨rfl, ((Below.refl _ _).alloc (Nat.le_refl _) _).alloc (by simp) _⟩
  rw [if_neg h8] at hr
  have har2 : IntsB ((w.alloc (.cells #[.int .i64 i] 3)).alloc (.cells #[.int .i64 hd, .slice A' n' c'] 72)) (w.heap.size + 2) A' n' ks := har.below stays_int (((Below.refl _ _).alloc (Nat.le_refl _) _).alloc (by simp) _) (by omega)
  have HC := Lib.hid (fun R hR => containsInts_any 46 #[.pointer (some ⟨w.heap.size, 0, none⟩)] EG.out (kidBad i) A' n' c' ks R ((w.alloc (.cells #[.int .i64 i] 3)).alloc (.cells #[.int .i64 hd, .slice A' n' c'] 72)) (by simpa using har2) (by omega)
    (checkTerm1_pred i w.heap.size ks _ (by simp; omega) (by rw [World.cell?_alloc_lt _ _ _ (by simp)]; simp)) hR)
  clear har2 har
  cases hq : ks.any (kidBad i) with
  | true =>
    rw [if_pos hq] at hr
    subst hr
    have HQ := Lib.hid hq
    clear hq
    go_enter Try.func18, Try.ntmps18
    go_wp2_with fail
    refine (HC.out true HQ.out).mono ?_
    rintro e w' ⟨rfl, hb'⟩
    go_wp2_with fail
    go_ret
    exact ⟨rfl, (((Below.refl _ _).alloc (Nat.le_refl _) _).alloc (by simp) _).trans (hb'.mono (by simp; omega))⟩
  | false =>
    rw [if_neg (by simp [hq])] at hr
    subst hr
    have HQ := Lib.hid hq
    clear hq
    go_enter Try.func18, Try.ntmps18
    go_wp2_with fail
    refine (HC.out false HQ.out).mono ?_
    rintro e w' ⟨rfl, hb'⟩
    go_wp2_with fail
    go_ret
    exact ⟨rfl, (((Below.refl _ _).alloc (Nat.le_refl _) _).alloc (by simp) _).trans (hb'.mono (by simp; omega))⟩
end Go.Proofs.Ytpceiifacendfaa
