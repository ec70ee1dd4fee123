/- Walks: may a kid of a sort stand for a letter; the reference's fault of a node's kids. -/
import Derived.Test.YtggkfepifnfdoaaAskM
namespace Go.Proofs.Ytggkfepifnfdoaa
open Go.RowKit

theorem isNumber_is (n : Int) (b : Bool) (h : numS n = b) (w : World) : Calls Try.prog 67 #[.int .i64 n] w fun e w' => e = .returned (.bool b) ∧ w = w' := by subst h; exact isNumber_any n w
set_option maxHeartbeats 1000000 in
theorem fits_any (c s : Int) (w : World) : Calls Try.prog 66 #[.int .u8 c, .int .i64 s] w fun e w' => e = .returned (.bool (fitsF c s)) ∧ w = w' := by
  have hc : c = 98 ∨ c = 110 ∨ c = 116 ∨ c = 97 ∨ c = 119 ∨ ((c == 98) = false ∧ (c == 110) = false ∧ (c == 116) = false ∧ (c == 97) = false ∧ (c == 119) = false) := by
    simp only [beq_eq_false_iff_ne]; omega
  rcases hc with rfl | rfl | rfl | rfl | rfl | ⟨q1, q2, q3, q4, q5⟩
  · go_enter Try.func66, Try.ntmps66
    go_wp2_with fail
    go_ret
    exact ⟨rfl, rfl⟩
  · go_enter Try.func66, Try.ntmps66
    go_wp2_with (go_at_call 67; refine (isNumber_any _ _).mono ?_; rintro e w' ⟨rfl, rfl⟩)
    go_ret
    exact ⟨rfl, rfl⟩
  · go_enter Try.func66, Try.ntmps66
    go_wp2_with fail
    go_ret
    exact ⟨rfl, rfl⟩
  · go_enter Try.func66, Try.ntmps66
    go_wp2_with fail
    go_ret
    exact ⟨rfl, rfl⟩
  · have hw : ∀ b, wordB s = b → ∃ v : Int, wbits s = v ∧ decide (0 < v) = b := fun b hb => by
      subst hb
      refine ⟨_, rfl, ?_⟩
      unfold wbits
      cases h : wordB s
      · simp
      · simp only [wordB, decide_eq_true_eq] at h
        simp only [if_true, decide_eq_true_eq]; omega
    cases h : wordB s
    all_goals
      obtain ⟨v, hv, hv2⟩ := hw _ h
      have HV := Lib.hid hv
      have HF : Hid (fitsF 119 s = wordB s) := by show _ = _; rfl
      have HH := Lib.hid h
      clear hw hv h
      go_enter Try.func66, Try.ntmps66
      go_wp2_with (go_at_call 48; refine (wordBits_is _ _ HV.out _).mono ?_; rintro e w' ⟨rfl, rfl⟩)
      go_ret
      exact ⟨ret_bool (by rw [HF.out, HH.out]), rfl⟩
  · have HF : Hid (fitsF c s = true) := by
      show _ = _
      simp only [beq_eq_false_iff_ne] at q1 q2 q3 q4 q5
      simp [fitsF, q1, q2, q3, q4, q5]
    go_enter Try.func66, Try.ntmps66
    go_wp2_with fail
    go_ret
    exact ⟨ret_bool (by rw [HF.out]), rfl⟩
theorem fits_is (c s : Int) (b : Bool) (h : fitsF c s = b) (w : World) : Calls Try.prog 66 #[.int .u8 c, .int .i64 s] w fun e w' => e = .returned (.bool b) ∧ w = w' := by subst h; exact fits_any c s w
theorem wants_is (op : Int) (W : ByteArray) (h : wantsF op = W) (w : World) (h0 : 1 ≤ op) (h1 : op ≤ 25) : Calls Try.prog 64 #[.int .i64 op] w fun e w' => e = .returned (.string W) ∧ Below w.heap.size w w' := by subst h; exact wants_any op w h0 h1
theorem declOf_is (A : Option Addr) (n c : Nat) (s : ByteArray) (xs : List DeclD) (R : Int) (w : World) (S : Nat → Prop) (hxs : Arr AtDecl 3 w S A n xs) (hn : n ≤ 9223372036854775807) (hR : idx (nameIs s) xs 0 = R) :
    Calls Try.prog 37 #[.slice A n c, .string s] w fun e w' => e = .returned (.int .i64 R) ∧ ∃ n, w' = w.drewN n :=
  (declOf_any A n c s xs R w S hxs hn hR).mono fun _ _ ⟨he, hw⟩ => ⟨he, 0, hw.symm⟩
end Go.Proofs.Ytggkfepifnfdoaa
