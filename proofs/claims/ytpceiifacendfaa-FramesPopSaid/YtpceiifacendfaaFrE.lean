/- Walks: every command; what is kept from command to command. -/
import Derived.Test.YtpceiifacendfaaFrD
namespace Go.Proofs.Ytpceiifacendfaa
open Go.RowKit

def Inv (F : FormD) (r : List Cl) (last : Cl) : Prop := r.length ≤ 20 ∧ F.clauses.length + (clOf r last).length ≤ 400
theorem cnfF_many {v : Int} {l : List (List Int)} (h : (cnfF v l).1 = 0) : l.length ≤ 400 := by
  rw [cnfF] at h
  split at h
  · simp at h
  · omega
theorem stepF_inv {F : FormD} {d : TermD} {r : List Cl} {last : Cl} (h : Inv F r last) (h0 : (stepF F d r last).1 = 0) : Inv F (stepF F d r last).2.1 (stepF F d r last).2.2 := by
  unfold stepF at h0 ⊢
  obtain ⟨h1, h2⟩ := h
  by_cases c1 : d.head < 1 ∨ 4 < d.head
  · rw [if_pos c1] at h0; simp at h0
  rw [if_neg c1] at h0 ⊢
  by_cases c2 : 0 < d.kids.length ∧ ¬ d.head = 3
  · rw [if_pos c2] at h0; simp at h0
  rw [if_neg c2] at h0 ⊢
  by_cases c3 : d.head = 1
  · rw [if_pos c3] at h0 ⊢
    by_cases c4 : r.length = 20
    · rw [if_pos c4] at h0; simp at h0
    · rw [if_neg c4]
      exact ⟨by simp; omega, by rw [clOf_push]; exact h2⟩
  rw [if_neg c3] at h0 ⊢
  by_cases c4 : d.head = 2
  · rw [if_pos c4] at h0 ⊢
    cases r with
    | nil => simp at h0
    | cons x r' =>
      have := clOf_pop x r' last
      refine ⟨by simp at h1 ⊢; omega, ?_⟩
      show F.clauses.length + (clOf r' x).length ≤ 400
      have h3 : (clOf r' x).length ≤ (clOf (x :: r') last).length := by rw [← this]; simp; omega
      omega
  rw [if_neg c4] at h0 ⊢
  by_cases c5 : d.head = 3
  · rw [if_pos c5] at h0 ⊢
    have := cnfF_many h0
    exact ⟨h1, by simpa using this⟩
  · rw [if_neg c5]
    exact ⟨h1, h2⟩

theorem step_any (g : Nat) (A1 A2 A3 A4 : Option Addr) (n1 c1 n2 c2 n3 c3 n4 c4 : Nat) (F : FormD) (r : List Cl) (last : Cl) (vc vf : Value) (Ad : Option Addr) (nd cd : Nat) (kd : Int) (ks : List Int) (w : World)
    (hst : Stk w g (.slice A1 n1 c1) (.slice A2 n2 c2) (.slice A3 n3 c3) (.slice A4 n4 c4) r last vc vf) (hd : IntsB w g Ad nd ks) (hF : FormB w g A1 A2 A3 A4 n1 n2 n3 n4 F) (hok : (formF F).1 = 0) (hlen : nd * 8 ≤ 140737488355328)
    (h4 : n4 ≤ c4) (h4m : c4 ≤ maxLen) (hinv : Inv F r last) :
    Calls Try.prog 52 #[.pointer (some ⟨g, 0, none⟩), .agg #[.int .i64 kd, .slice Ad nd cd]] w
      (StepP g (.slice A1 n1 c1) (.slice A2 n2 c2) (.slice A3 n3 c3) (.slice A4 n4 c4) vc vf (stepF F ⟨kd, ks⟩ r last).1 (stepF F ⟨kd, ks⟩ r last).2.1 (stepF F ⟨kd, ks⟩ r last).2.2 w) := by
  obtain ⟨h1, h2⟩ := hinv
  have hl := hd.len
  unfold stepF
  by_cases d1 : kd < 1 ∨ 4 < kd
  · rw [if_pos d1]
    exact step_kind g A1 A2 A3 A4 n1 c1 n2 c2 n3 c3 n4 c4 r last vc vf Ad nd cd kd w hst d1
  rw [if_neg d1]
  by_cases d2 : 0 < ks.length ∧ ¬ kd = 3
  · rw [if_pos d2]
    exact step_form g A1 A2 A3 A4 n1 c1 n2 c2 n3 c3 n4 c4 r last vc vf Ad nd cd kd w hst ⟨by omega, by omega, d2.2⟩ (by omega)
  rw [if_neg d2]
  by_cases d3 : kd = 1
  · rw [if_pos d3]
    have hs := step_push g A1 A2 A3 A4 n1 c1 n2 c2 n3 c3 n4 c4 r last vc vf Ad nd cd kd w hst d3 (by omega) h1 (by omega)
    by_cases d4 : r.length = 20
    · rw [if_pos d4] at hs ⊢
      exact hs.mono fun e w' ⟨a, b, c, _⟩ => ⟨a, b, c, fun e => by cases e⟩
    · rw [if_neg d4] at hs ⊢
      exact hs
  rw [if_neg d3]
  by_cases d4 : kd = 2
  · rw [if_pos d4]
    cases r with
    | nil => exact step_pop g A1 A2 A3 A4 n1 c1 n2 c2 n3 c3 n4 c4 [] last vc vf Ad nd cd kd w hst d4 (by omega) rfl
    | cons x r' => exact step_popped g A1 A2 A3 A4 n1 c1 n2 c2 n3 c3 n4 c4 r' last vc vf Ad nd cd kd w x hst d4 (by omega) (by simp at h1; omega) (by omega)
  rw [if_neg d4]
  by_cases d5 : kd = 3
  · rw [if_pos d5]
    subst d5
    exact step_hold g A1 A2 A3 A4 n1 c1 n2 c2 n3 c3 n4 c4 F r last vc vf Ad nd cd ks w hst hd hF hok hlen h4 h4m (by omega) (by omega)
  · rw [if_neg d5]
    exact step_ask g A1 A2 A3 A4 n1 c1 n2 c2 n3 c3 n4 c4 r last vc vf Ad nd cd kd w hst (by omega) (by omega)

set_option maxHeartbeats 400000 in
theorem left1_any (i : Int) (v0 v1 v2 v3 : Value) (w : World) : Calls Try.prog 36 #[.int .i64 i, .agg #[v0, v1, v2, v3]] w fun e w' => e = .returned (.tuple #[]) ∧ Below w.heap.size w w' := by
  go_enter Try.func36, Try.ntmps36
  go_wp2_with fail
  go_end0
  exact ⟨rfl, (Below.refl _ _).alloc (Nat.le_refl _) _⟩
end Go.Proofs.Ytpceiifacendfaa
