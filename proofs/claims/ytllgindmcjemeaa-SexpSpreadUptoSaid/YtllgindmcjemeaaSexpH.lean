/- Walks: the program's reader of expressions: a fault noted; blanks and comments passed. -/
import Derived.Test.YtllgindmcjemeaaSexpG
import Derived.Deep.QuietTactic
import Derived.BigQuiet
import Derived.Deep.LoopGhost
namespace Go.Proofs.Ytllgindmcjemeaa
open Go.RowKit

set_option maxHeartbeats 400000 in
theorem fail_any (g : Nat) (s : ByteArray) (i c0 a0 code : Int) (w : World) (hb : Blk w g 80 #[.string s, .int .i64 i, .int .i64 c0, .int .i64 a0]) :
    Calls Try.prog 74 #[.pointer (some ⟨g, 0, none⟩), .int .i64 code] w fun e w' => e = .returned (.bool false) ∧ Blk w' g 80 #[.string s, .int .i64 i, .int .i64 code, .int .i64 i] ∧ w.grownBy w' (some g) := by
  have x1 : w.cell? ⟨g, 1, none⟩ = some (.int .i64 i) := hb.cell 1
  have x2 : w.cell? ⟨g, 2, none⟩ = some (.int .i64 c0) := hb.cell 2
  have x3 : w.cell? ⟨g, 3, none⟩ = some (.int .i64 a0) := hb.cell 3
  have z2 : w.frozen? ⟨g, 2, none⟩ = false := hb.frozen 2
  have z3 : w.frozen? ⟨g, 3, none⟩ = false := hb.frozen 3
  go_enter Try.func74, Try.ntmps74
  go_wp2_with fail
  go_ret
  refine ⟨rfl, (hb.set_ 2 (.int .i64 code)).set_ 3 (.int .i64 i), ?_⟩
  exact only_setCell (p := ⟨g, 3, none⟩) (only_setCell (p := ⟨g, 2, none⟩) (only_refl _ _) (.inl rfl) _) (.inl rfl) _

def BlanksPost (g : Nat) (s : ByteArray) (i : Nat) (c0 a0 : Int) (w : World) (e : Ending) (w' : World) : Prop :=
  e = .returned (.tuple #[]) ∧ ∃ j : Nat, i ≤ j ∧ j ≤ s.size ∧ cls s j ≠ 1 ∧ cls s j ≠ 2 ∧ (∀ (d : Int) (f : Fo) (e : Nat) (c a : Int), Prs s j d f e c a → Prs s i d f e c a) ∧
    Blk w' g 80 #[.string s, .int .i64 j, .int .i64 c0, .int .i64 a0] ∧ w.grownBy w' (some g)

set_option maxHeartbeats 1000000 in
theorem blanks_any (g : Nat) (s : ByteArray) (i : Nat) (c0 a0 : Int) (w : World) (hs : s.size ≤ 4000) (hi : i ≤ s.size) (hb : Blk w g 80 #[.string s, .int .i64 i, .int .i64 c0, .int .i64 a0]) :
    Calls Try.prog 73 #[.pointer (some ⟨g, 0, none⟩)] w (BlanksPost g s i c0 a0 w) := by
  go_enter Try.func73, Try.ntmps73
  go_wp2_with fail
  go_loopg [] (s.size - i + 1) (fun gk wr => ∃ j : Nat, i ≤ j ∧ j ≤ s.size ∧ gk = s.size - j + 1 ∧ Hid (∀ (d : Int) (f : Fo) (e : Nat) (c a : Int), Prs s j d f e c a → Prs s i d f e c a) ∧ Blk wr g 80 #[.string s, .int .i64 j, .int .i64 c0, .int .i64 a0] ∧ w.grownBy wr (some g))
  case atStart => exact ⟨i, Nat.le_refl _, hi, rfl, fun _ _ _ _ _ h => h, hb, only_refl _ _⟩
  case round =>
    obtain ⟨j, hj0, hj1, hgk, HP, hblk, honly⟩ := hrel
    have x0 : wr.cell? ⟨g, 0, none⟩ = some (.string s) := hblk.cell 0
    have x1 : wr.cell? ⟨g, 1, none⟩ = some (.int .i64 j) := hblk.cell 1
    have z1 : wr.frozen? ⟨g, 1, none⟩ = false := hblk.frozen 1
    by_cases hlt : j < s.size
    · have hcl := cls_at s j hlt
      have HCL := Lib.hid hcl
      clear hcl
      rcases clsB_cases s[j].toNat with ⟨k1, k2⟩ | ⟨k1, k2⟩ | ⟨k1, k2⟩ | ⟨k1, k2⟩ | ⟨k1, k2⟩ | ⟨k1, k2⟩
      · have HK := Lib.hid k1
        clear k1
        have ej : ((j + 1 : Nat) : Int) = (j : Int) + 1 := by omega
        have HEJ := Lib.hid ej
        clear ej
        go_wp2_with fail
        go_quiet (fail)
        go_wp2_with fail
        go_quiet (fail)
        go_wp2_with fail
        all_goals
          go_roundg (s.size - (j + 1) + 1)
          case measure => omega
          case rel =>
            refine ⟨j + 1, by omega, by omega, rfl, fun d f e c a hp => HP.out d f e c a (.blank (by rw [HCL.out, HK.out]) hp), ?_, only_drewN (only_setCell (p := ⟨g, 1, none⟩) honly (.inl rfl) _) _⟩
            rw [HEJ.out]
            exact (hblk.set_ 1 (.int .i64 ((j : Int) + 1))).drewN _
      · have HK := Lib.hid k1
        have q1 : ((s[j].toNat : Int) == 32) = false := by rw [beq_eq_false_iff_ne]; omega
        have q2 : ((s[j].toNat : Int) == 9) = false := by rw [beq_eq_false_iff_ne]; omega
        have q3 : ((s[j].toNat : Int) == 10) = false := by rw [beq_eq_false_iff_ne]; omega
        have q4 : ((s[j].toNat : Int) == 13) = false := by rw [beq_eq_false_iff_ne]; omega
        have q5 : ((s[j].toNat : Int) == 59) = true := by rw [beq_iff_eq]; omega
        clear k1 k2
        go_wp2_with fail
        go_quiet (fail)
        go_wp2_with fail
        go_quiet (fail)
        go_wp2_with fail
        obtain ⟨wo, rfl⟩ : ∃ wo : World, wo = wr := ⟨_, rfl⟩
        have hpl := past_le notNl s j hj1
        have hnote : cls s j = 2 := by rw [HCL.out, HK.out]
        have hpn := past_note hnote
        have HN := Lib.hid hnote
        clear hnote
        have HG := Lib.hid hgk
        clear x0 x1 z1 hgk
        go_loopg [] (s.size - j + 1) (fun gk' wr' => ∃ j' : Nat, j ≤ j' ∧ j' ≤ s.size ∧ gk' = s.size - j' + 1 ∧ Hid (past notNl s j = past notNl s j') ∧ Blk wr' g 80 #[.string s, .int .i64 j', .int .i64 c0, .int .i64 a0] ∧ w.grownBy wr' (some g))
        case atStart => exact ⟨j, Nat.le_refl _, hj1, rfl, rfl, hblk.drewN _, only_drewN honly _⟩
        case round =>
          obtain ⟨j', hj2, hj3, hgk', HP', hblk', honly'⟩ := hrel
          have x0 : wr.cell? ⟨g, 0, none⟩ = some (.string s) := hblk'.cell 0
          have x1 : wr.cell? ⟨g, 1, none⟩ = some (.int .i64 j') := hblk'.cell 1
          have z1 : wr.frozen? ⟨g, 1, none⟩ = false := hblk'.frozen 1
          by_cases hlt' : j' < s.size
          · cases hnl : notNl s[j'] with
            | true =>
              have q6 : ((s[j'].toNat : Int) != 10) = true := by unfold notNl at hnl; rw [bne_iff_ne] at hnl ⊢; omega
              have HNL := Lib.hid hnl
              have HEJ : Hid (((j' + 1 : Nat) : Int) = (j' : Int) + 1) := by show _ = _; omega
              clear hnl
              go_wp2_with fail
              go_quiet (fail)
              go_wp2_with fail
              go_roundg (s.size - (j' + 1) + 1)
              case measure => omega
              case rel =>
                refine ⟨j' + 1, by omega, by omega, rfl, HP'.out.trans (past_step _ _ _ hlt' HNL.out), ?_, only_drewN (only_setCell (p := ⟨g, 1, none⟩) honly' (.inl rfl) _) _⟩
                rw [HEJ.out]
                exact (hblk'.set_ 1 (.int .i64 ((j' : Int) + 1))).drewN _
            | false =>
              have q6 : ((s[j'].toNat : Int) != 10) = false := by unfold notNl at hnl; rw [bne_eq_false_iff_eq] at hnl ⊢; omega
              have HNL := Lib.hid hnl
              have HE := Lib.hid (HP'.out.trans (past_stop _ _ _ hlt' hnl))
              clear hnl
              go_wp2_with fail
              go_quiet (fail)
              go_wp2_with fail
              have hjj : j < j' := by rw [HE.out] at hpn; exact hpn.1
              go_roundg (s.size - j' + 1)
              case measure => have := HG.out; omega
              case rel => exact ⟨j', by omega, by omega, rfl, fun d f e c a hp => HP.out d f e c a (.note HN.out (by rw [HE.out]; exact hp)), hblk'.drewN _, only_drewN honly' _⟩
          · have hd : decide (j' < s.size) = false := by simpa using hlt'
            have HE := Lib.hid (HP'.out.trans (past_end notNl s j' (by omega)))
            go_wp2_with fail
            go_quiet (fail)
            go_wp2_with fail
            have hjj : j < j' := by rw [HE.out] at hpn; exact hpn.1
            go_roundg (s.size - j' + 1)
            case measure => have := HG.out; omega
            case rel => exact ⟨j', by omega, by omega, rfl, fun d f e c a hp => HP.out d f e c a (.note HN.out (by rw [HE.out]; exact hp)), hblk'.drewN _, only_drewN honly' _⟩
      · have HK := Lib.hid k1
        have kk : s[j].toNat = 41 := by omega
        have q1 : ((s[j].toNat : Int) == 32) = false := by rw [beq_eq_false_iff_ne]; omega
        have q2 : ((s[j].toNat : Int) == 9) = false := by rw [beq_eq_false_iff_ne]; omega
        have q3 : ((s[j].toNat : Int) == 10) = false := by rw [beq_eq_false_iff_ne]; omega
        have q4 : ((s[j].toNat : Int) == 13) = false := by rw [beq_eq_false_iff_ne]; omega
        have q5 : ((s[j].toNat : Int) == 59) = false := by rw [beq_eq_false_iff_ne]; omega
        clear k1 k2 kk
        go_wp2_with fail
        go_quiet (fail)
        go_wp2_with fail
        go_quiet (fail)
        go_wp2_with fail
        first | go_end0 | refine bodyPost_ret (results_none rfl _ _ _) rfl ?_
        exact ⟨rfl, j, hj0, hj1, by rw [HCL.out, HK.out]; decide, by rw [HCL.out, HK.out]; decide, HP.out, hblk.drewN _, only_drewN honly _⟩
      · have HK := Lib.hid k1
        have kk : s[j].toNat = 40 := by omega
        have q1 : ((s[j].toNat : Int) == 32) = false := by rw [beq_eq_false_iff_ne]; omega
        have q2 : ((s[j].toNat : Int) == 9) = false := by rw [beq_eq_false_iff_ne]; omega
        have q3 : ((s[j].toNat : Int) == 10) = false := by rw [beq_eq_false_iff_ne]; omega
        have q4 : ((s[j].toNat : Int) == 13) = false := by rw [beq_eq_false_iff_ne]; omega
        have q5 : ((s[j].toNat : Int) == 59) = false := by rw [beq_eq_false_iff_ne]; omega
        clear k1 k2 kk
        go_wp2_with fail
        go_quiet (fail)
        go_wp2_with fail
        go_quiet (fail)
        go_wp2_with fail
        first | go_end0 | refine bodyPost_ret (results_none rfl _ _ _) rfl ?_
        exact ⟨rfl, j, hj0, hj1, by rw [HCL.out, HK.out]; decide, by rw [HCL.out, HK.out]; decide, HP.out, hblk.drewN _, only_drewN honly _⟩
      · have HK := Lib.hid k1
        have kk : s[j].toNat ≠ 32 ∧ s[j].toNat ≠ 9 ∧ s[j].toNat ≠ 10 ∧ s[j].toNat ≠ 13 ∧ s[j].toNat ≠ 59 := by omega
        have q1 : ((s[j].toNat : Int) == 32) = false := by rw [beq_eq_false_iff_ne]; omega
        have q2 : ((s[j].toNat : Int) == 9) = false := by rw [beq_eq_false_iff_ne]; omega
        have q3 : ((s[j].toNat : Int) == 10) = false := by rw [beq_eq_false_iff_ne]; omega
        have q4 : ((s[j].toNat : Int) == 13) = false := by rw [beq_eq_false_iff_ne]; omega
        have q5 : ((s[j].toNat : Int) == 59) = false := by rw [beq_eq_false_iff_ne]; omega
        clear k1 k2 kk
        go_wp2_with fail
        go_quiet (fail)
        go_wp2_with fail
        go_quiet (fail)
        go_wp2_with fail
        first | go_end0 | refine bodyPost_ret (results_none rfl _ _ _) rfl ?_
        exact ⟨rfl, j, hj0, hj1, by rw [HCL.out, HK.out]; decide, by rw [HCL.out, HK.out]; decide, HP.out, hblk.drewN _, only_drewN honly _⟩
      · have HK := Lib.hid k1
        have kk : s[j].toNat ≠ 32 ∧ s[j].toNat ≠ 9 ∧ s[j].toNat ≠ 10 ∧ s[j].toNat ≠ 13 ∧ s[j].toNat ≠ 59 := by omega
        have q1 : ((s[j].toNat : Int) == 32) = false := by rw [beq_eq_false_iff_ne]; omega
        have q2 : ((s[j].toNat : Int) == 9) = false := by rw [beq_eq_false_iff_ne]; omega
        have q3 : ((s[j].toNat : Int) == 10) = false := by rw [beq_eq_false_iff_ne]; omega
        have q4 : ((s[j].toNat : Int) == 13) = false := by rw [beq_eq_false_iff_ne]; omega
        have q5 : ((s[j].toNat : Int) == 59) = false := by rw [beq_eq_false_iff_ne]; omega
        clear k1 k2 kk
        go_wp2_with fail
        go_quiet (fail)
        go_wp2_with fail
        go_quiet (fail)
        go_wp2_with fail
        first | go_end0 | refine bodyPost_ret (results_none rfl _ _ _) rfl ?_
        exact ⟨rfl, j, hj0, hj1, by rw [HCL.out, HK.out]; decide, by rw [HCL.out, HK.out]; decide, HP.out, hblk.drewN _, only_drewN honly _⟩
    · have hd : decide (j < s.size) = false := by simpa using hlt
      have HE := Lib.hid (cls_end s j hlt)
      go_wp2_with fail
      go_quiet (fail)
      go_wp2_with fail
      go_end0
      exact ⟨rfl, j, hj0, hj1, by rw [HE.out]; decide, by rw [HE.out]; decide, HP.out, hblk.drewN _, only_drewN honly _⟩
end Go.Proofs.Ytllgindmcjemeaa
