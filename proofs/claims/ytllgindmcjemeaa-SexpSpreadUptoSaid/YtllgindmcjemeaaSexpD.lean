/- Walks: the program's checker of expressions; Check itself, the reference's, and the law that compares them. -/
import Derived.Test.YtllgindmcjemeaaSexpC
namespace Go.Proofs.Ytllgindmcjemeaa
open Go.RowKit

set_option maxHeartbeats 2000000 in
theorem list_any (k : Nat) : ∀ (f : Fo) (A : Option Addr) (n c g : Nat) (d a : Int) (rc rf rn : Int) (ok : Bool) (w : World), f.cnt < k → LiesB w g f A 0 n → f.cnt ≤ 4000000 → 0 ≤ d → d ≤ 41 → 0 ≤ a → a + f.cnt ≤ 4000000 →
    Blk w g 73 #[.int .i64 a, .int .i64 0, .int .i64 0] → flt f d a = (rc, rf, rn) → decide (rc = 0) = ok →
    Calls Try.prog 35 #[.pointer (some ⟨g, 0, none⟩), .slice A n c, .int .i64 d] w fun e w' => e = .returned (.bool ok) ∧ Below g w w' ∧ Blk w' g 73 #[.int .i64 rn, .int .i64 rc, .int .i64 rf] := by
  induction k with
  | zero => intro f A n c g d a rc rf rn ok w hk; omega
  | succ k ih =>
    intro f A n c g d a rc rf rn ok w hk hf hm hd0 hd1 ha0 ha1 hblk0 hflt hok
    have IH := Lib.hid ih
    have HF := Lib.hid hflt
    have HOK := Lib.hid hok
    have hn := Lies.len _ _ _ _ hf
    have hn2 := Fo.len_le f
    have hn3 : n ≤ 4000000 := by omega
    clear ih hflt hn hn2 hok
    go_enter Try.func35, Try.ntmps35
    go_wp2_with fail
    go_loopw [12] (fun i wr => ∃ (f' : Fo) (j : Nat) (b : Int), 0 ≤ b ∧ b + f'.cnt ≤ 4000000 ∧ f'.cnt ≤ f.cnt ∧ Hid (flt f' d b = (rc, rf, rn)) ∧ i = .int .i64 j ∧ LiesB wr g f' A j n ∧ Below g w wr ∧ Blk wr g 73 #[.int .i64 b, .int .i64 0, .int .i64 0]) (fun i _ => n - (intOf i).toNat)
    case atStart => exact ⟨f, 0, a, ha0, ha1, Nat.le_refl _, HF, rfl, hf, Below.refl _ _, hblk0⟩
    case round =>
      obtain ⟨f', j, b, hb0, hb1, hb2, HF', rfl, hl, hbel, hblk⟩ := hrel
      have hz : g < wr.heap.size := hblk.lt
      have c0 : wr.cell? ⟨g, 0, none⟩ = some (.int .i64 b) := hblk.cell 0
      have c1 : wr.cell? ⟨g, 1, none⟩ = some (.int .i64 0) := hblk.cell 1
      have c2 : wr.cell? ⟨g, 2, none⟩ = some (.int .i64 0) := hblk.cell 2
      have z0 : wr.frozen? ⟨g, 0, none⟩ = false := hblk.frozen 0
      have z1 : wr.frozen? ⟨g, 1, none⟩ = false := hblk.frozen 1
      have z2 : wr.frozen? ⟨g, 2, none⟩ = false := hblk.frozen 2
      clear hblk0
      cases f' with
      | nil =>
        obtain rfl : j = n := hl
        go_wp2_with fail
        have e := HF'.out
        simp only [flt, Prod.mk.injEq] at e
        obtain ⟨rfl, rfl, rfl⟩ := e
        go_ret
        exact ⟨ret_bool (by rw [← HOK.out]; rfl), hbel, hblk⟩
      | cons wd ls ks nx =>
        obtain ⟨hi, p, off, A', n', c', rfl, hb, h0, h1, h2, hsz, hks, hnx⟩ := hl
        have hpz : p < wr.heap.size := by omega
        have hlen := Lies.len _ _ _ _ hks
        have hle := Fo.len_le ks
        have hcnt : (Fo.cons wd ls ks nx).cnt = 1 + ks.cnt + nx.cnt := rfl
        have e3 : ks.cnt < k := by omega
        have e4 : n' ≤ 4000000 := by omega
        have e5 : b + 1 + ks.cnt + nx.cnt ≤ 4000000 := by omega
        have e6 : nx.cnt ≤ f.cnt := by omega
        have hbad : ∀ x y : Int, flt (.cons wd ls ks nx) d b = (x, y, y) → x = rc ∧ y = rf ∧ y = rn := fun x y h => by
          have := HF'.out; rw [h] at this; simp only [Prod.mk.injEq] at this; omega
        have hs0 : wd.toList = [] ↔ wd.size = 0 := by rw [ByteArray.toList_eq, ← List.length_eq_zero_iff]; exact Iff.rfl
        by_cases hform : formBad wd ls ks = true
        · have hx := hbad 5 b (by simp [flt, hform])
          obtain ⟨rfl, rfl, rfl⟩ := hx
          have hok : false = ok := HOK.out
          clear hbad hcnt hks hnx hf HF HF' HOK
          subst hok
          cases ls with
          | true =>
            have hw1 : ¬ wd.toList = [] := by
              rw [hs0]; simp only [formBad_true, decide_eq_true_eq] at hform; omega
            clear hform hs0
            go_wp2_with fail
            go_ret
            refine ⟨rfl, ((hbel.setCell (p := ⟨g, 1, none⟩) (Nat.le_refl _) _).setCell (p := ⟨g, 2, none⟩) (Nat.le_refl _) _).alloc (by simp; omega) _, ?_⟩
            exact ((hblk.set_ 1 (.int .i64 5)).set_ 2 (.int .i64 b)).alloc _
          | false =>
            have hw1 : 0 < n' := by
              simp only [formBad_false, decide_eq_true_eq] at hform; omega
            clear hform hs0
            go_wp2_with fail
            go_ret
            refine ⟨rfl, ((hbel.setCell (p := ⟨g, 1, none⟩) (Nat.le_refl _) _).setCell (p := ⟨g, 2, none⟩) (Nat.le_refl _) _).alloc (by simp; omega) _, ?_⟩
            exact ((hblk.set_ 1 (.int .i64 5)).set_ 2 (.int .i64 b)).alloc _
        by_cases hword : (!ls && !wordB wd) = true
        · have hx := hbad 12 b (by simp only [flt]; rw [if_neg hform, if_pos hword])
          obtain ⟨rfl, rfl, rfl⟩ := hx
          have hok : false = ok := HOK.out
          clear hbad hcnt hks hnx hf HF HF' HOK
          subst hok
          cases ls with
          | true => simp at hword
          | false =>
            have hw1 : ¬ 0 < n' := by
              simp only [formBad_false, decide_eq_true_eq] at hform; omega
            have hw2 : Hid (wordB wd = false) := by show _ = _; simpa using hword
            clear hform hs0 hword
            go_wp2_with fail
            refine (isWord_any _ _ hsz).mono ?_
            rintro e w1 ⟨rfl, rfl⟩
            rw [hw2.out]
            go_wp2_with fail
            go_ret
            refine ⟨rfl, ((hbel.setCell (p := ⟨g, 1, none⟩) (Nat.le_refl _) _).setCell (p := ⟨g, 2, none⟩) (Nat.le_refl _) _).alloc (by simp; omega) _, ?_⟩
            exact ((hblk.set_ 1 (.int .i64 12)).set_ 2 (.int .i64 b)).alloc _
        have hw : ls = true ∧ wd.toList = [] ∨ ls = false ∧ ¬ 0 < n' ∧ wordB wd = true := by
          cases ls with
          | true => left; refine ⟨rfl, ?_⟩; rw [hs0]; simp only [formBad_true, decide_eq_true_eq] at hform; omega
          | false => right; refine ⟨rfl, ?_, by simpa using hword⟩; simp only [formBad_false, decide_eq_true_eq] at hform; omega
        have hfl : flt (.cons wd ls ks nx) d b = if 40 < d then (10, b, b) else if (flt ks (d + 1) (b + 1)).1 = 0 then flt nx d (flt ks (d + 1) (b + 1)).2.2 else flt ks (d + 1) (b + 1) := by
          simp only [flt]; rw [if_neg hform, if_neg hword]
        clear hform hword hs0
        by_cases hdeep : 40 < d
        · have hx := hbad 10 b (by rw [hfl, if_pos hdeep])
          obtain ⟨rfl, rfl, rfl⟩ := hx
          have hok : false = ok := HOK.out
          clear hbad hcnt hks hnx hf HF HF' hfl HOK
          subst hok
          rcases hw with ⟨rfl, hw1⟩ | ⟨rfl, hw1, hw2⟩
          · skip
            go_wp2_with fail
            go_ret
            refine ⟨rfl, ((hbel.setCell (p := ⟨g, 1, none⟩) (Nat.le_refl _) _).setCell (p := ⟨g, 2, none⟩) (Nat.le_refl _) _).alloc (by simp; omega) _, ?_⟩
            exact ((hblk.set_ 1 (.int .i64 10)).set_ 2 (.int .i64 b)).alloc _
          · have HW := Lib.hid hw2
            clear hw2
            go_wp2_with fail
            refine (isWord_any _ _ hsz).mono ?_
            rintro e w1 ⟨rfl, rfl⟩
            rw [HW.out]
            go_wp2_with fail
            go_ret
            refine ⟨rfl, ((hbel.setCell (p := ⟨g, 1, none⟩) (Nat.le_refl _) _).setCell (p := ⟨g, 2, none⟩) (Nat.le_refl _) _).alloc (by simp; omega) _, ?_⟩
            exact ((hblk.set_ 1 (.int .i64 10)).set_ 2 (.int .i64 b)).alloc _
        rw [if_neg hdeep] at hfl
        have hbw : Below g wr ((wr.setCell ⟨g, 0, none⟩ (.int .i64 (b + 1))).alloc (.cells #[.string wd, .bool ls, .slice A' n' c'] 86)) := ((Below.refl _ _).setCell (p := ⟨g, 0, none⟩) (Nat.le_refl _) _).alloc (by simp; omega) _
        have hblk' : Blk ((wr.setCell ⟨g, 0, none⟩ (.int .i64 (b + 1))).alloc (.cells #[.string wd, .bool ls, .slice A' n' c'] 86)) g 73 #[.int .i64 (b + 1), .int .i64 0, .int .i64 0] := (hblk.set_ 0 (.int .i64 (b + 1))).alloc _
        have hnext := flt_next ks (d + 1) (b + 1)
        rcases hr : flt ks (d + 1) (b + 1) with ⟨qc, qf, qn⟩
        rw [hr] at hfl hnext
        have hq1 : b + 1 ≤ qn := hnext.1
        have hq2 : qn ≤ b + 1 + ks.cnt := hnext.2
        have hcall := IH.out ks A' n' c' g (d + 1) (b + 1) qc qf qn _ _ e3 (LiesB.below hks hbw (Nat.le_refl _)) (by omega) (by omega) (by omega) (by omega) (by omega) hblk' hr rfl
        have hnx' := LiesB.below hnx hbw (Nat.le_refl _)
        have hbel' := hbel.trans hbw
        have HB := Lib.hid hbw
        have hz0 := flt_zero ks (d + 1) (b + 1)
        rw [hr] at hz0
        clear hr hbad hcnt hf HF hks hnx hlen hle IH hnext hbw hblk' hbel
        by_cases hq : qc = 0
        · subst hq
          rw [if_pos rfl] at hfl
          obtain rfl : qf = 0 := hz0 rfl
          have HF2 : Hid (flt nx d qn = (rc, rf, rn)) := by
            show _ = _
            rw [← HF'.out, hfl]
          rw [show decide ((0 : Int) = 0) = true from rfl] at hcall
          have HC := Lib.hid hcall
          clear hfl HF' hcall hz0
          rcases hw with ⟨rfl, hw1⟩ | ⟨rfl, hw1, hw2⟩
          · skip
            go_wp2_with fail
            refine HC.out.mono ?_
            rintro e w1 ⟨rfl, hb3, hblk3⟩
            have hbel3 := hbel'.trans hb3
            have hnx3 := hnx'.below hb3 (Nat.le_refl _)
            clear HC hblk h0 h1 h2 hnx' hbel' HB
            go_wp2_with fail
            go_roundw
            case rel => exact ⟨nx, j + 1, qn, by omega, by omega, e6, HF2, by go_num, hnx3, hbel3, hblk3⟩
            case measure => simp [intOf]; omega
          · skip
            have HW := Lib.hid hw2
            clear hw2
            go_wp2_with fail
            refine (isWord_any _ _ hsz).mono ?_
            rintro e w1 ⟨rfl, rfl⟩
            rw [HW.out]
            go_wp2_with fail
            refine HC.out.mono ?_
            rintro e w1 ⟨rfl, hb3, hblk3⟩
            have hbel3 := hbel'.trans hb3
            have hnx3 := hnx'.below hb3 (Nat.le_refl _)
            clear HC hblk h0 h1 h2 hnx' hbel' HB
            go_wp2_with fail
            go_roundw
            case rel => exact ⟨nx, j + 1, qn, by omega, by omega, e6, HF2, by go_num, hnx3, hbel3, hblk3⟩
            case measure => simp [intOf]; omega
        · rw [if_neg hq] at hfl
          have hx : qc = rc ∧ qf = rf ∧ qn = rn := by
            have := HF'.out; rw [hfl] at this; simpa using this
          obtain ⟨rfl, rfl, rfl⟩ := hx
          have hok : false = ok := by rw [← HOK.out]; simp [hq]
          subst hok
          rw [show decide (qc = 0) = false from by simp [hq]] at hcall
          have HC := Lib.hid hcall
          clear hfl HF' hq hnx' hcall hz0 HOK
          rcases hw with ⟨rfl, hw1⟩ | ⟨rfl, hw1, hw2⟩
          · skip
            go_wp2_with fail
            refine HC.out.mono ?_
            rintro e w1 ⟨rfl, hb3, hblk3⟩
            have hbel3 := hbel'.trans hb3
            clear HC hblk h0 h1 h2 hbel' HB
            go_wp2_with fail
            go_ret
            exact ⟨rfl, hbel3, hblk3⟩
          · skip
            have HW := Lib.hid hw2
            clear hw2
            go_wp2_with fail
            refine (isWord_any _ _ hsz).mono ?_
            rintro e w1 ⟨rfl, rfl⟩
            rw [HW.out]
            go_wp2_with fail
            refine HC.out.mono ?_
            rintro e w1 ⟨rfl, hb3, hblk3⟩
            have hbel3 := hbel'.trans hb3
            clear HC hblk h0 h1 h2 hbel' HB
            go_wp2_with fail
            go_ret
            exact ⟨rfl, hbel3, hblk3⟩
end Go.Proofs.Ytllgindmcjemeaa
