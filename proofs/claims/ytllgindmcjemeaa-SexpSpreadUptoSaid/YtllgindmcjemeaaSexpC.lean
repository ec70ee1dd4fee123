/- Walks: the first fault of expressions, in the reference and in the program. -/
import Derived.Test.YtllgindmcjemeaaSexpB
namespace Go.Proofs.Ytllgindmcjemeaa
open Go.RowKit

def formBad (wd : ByteArray) (ls : Bool) (ks : Fo) : Bool := if ls then decide (0 < wd.size) else decide (0 < ks.len)

theorem formBad_true (wd : ByteArray) (ks : Fo) : formBad wd true ks = decide (0 < wd.size) := rfl
theorem formBad_false (wd : ByteArray) (ks : Fo) : formBad wd false ks = decide (0 < ks.len) := rfl

/-- the first fault of a forest within d lists, numbered from a on: its code, its place, the number behind -/
def flt : Fo → Int → Int → Int × Int × Int
  | .nil, _, a => (0, 0, a)
  | .cons wd ls ks nx, d, a =>
    if formBad wd ls ks = true then (5, a, a) else if (!ls && !wordB wd) = true then (12, a, a) else if 40 < d then (10, a, a)
    else if (flt ks (d + 1) (a + 1)).1 = 0 then flt nx d (flt ks (d + 1) (a + 1)).2.2 else flt ks (d + 1) (a + 1)

theorem flt_next : ∀ (f : Fo) (d a : Int), a ≤ (flt f d a).2.2 ∧ (flt f d a).2.2 ≤ a + f.cnt
  | .nil, d, a => by simp [flt, Fo.cnt]
  | .cons wd ls ks nx, d, a => by
    have h1 := flt_next ks (d + 1) (a + 1)
    have h2 := flt_next nx d (flt ks (d + 1) (a + 1)).2.2
    simp only [flt, Fo.cnt]
    split
    · simp; omega
    split
    · simp; omega
    split
    · simp; omega
    split
    · omega
    · omega

theorem flt_zero : ∀ (f : Fo) (d a : Int), (flt f d a).1 = 0 → (flt f d a).2.1 = 0
  | .nil, d, a => by simp [flt]
  | .cons wd ls ks nx, d, a => by
    have h2 := flt_zero nx d (flt ks (d + 1) (a + 1)).2.2
    have h1 := flt_zero ks (d + 1) (a + 1)
    simp only [flt]
    split
    · simp
    split
    · simp
    split
    · simp
    split
    · exact h2
    · exact h1

set_option maxHeartbeats 2000000 in
theorem sexpFault_any (k : Nat) : ∀ (f : Fo) (A : Option Addr) (n c : Nat) (d a : Int) (rc rf rn : Int) (w : World), f.cnt < k → LiesB w w.heap.size f A 0 n → f.cnt ≤ 4000000 → 0 ≤ d → d ≤ 41 → 0 ≤ a → a + f.cnt ≤ 4000000 →
    flt f d a = (rc, rf, rn) →
    Calls Try.prog 37 #[.slice A n c, .int .i64 d, .int .i64 a] w fun e w' => e = .returned (.tuple #[.agg #[.int .i64 rc, .int .i64 rf], .int .i64 rn]) ∧ Below w.heap.size w w' := by
  induction k with
  | zero => intro f A n c d a rc rf rn w hk; omega
  | succ k ih =>
    intro f A n c d a rc rf rn w hk hf hm hd0 hd1 ha0 ha1 hflt
    have IH := Lib.hid ih
    have HF := Lib.hid hflt
    have hn := Lies.len _ _ _ _ hf
    have hn2 := Fo.len_le f
    have hn3 : n ≤ 4000000 := by omega
    clear ih hflt hn hn2
    go_enter Try.func37, Try.ntmps37
    go_wp2_with fail
    go_loopw [2, 8] (fun t i wr => ∃ (f' : Fo) (j : Nat) (b : Int), t = .int .i64 b ∧ 0 ≤ b ∧ b + f'.cnt ≤ 4000000 ∧ f'.cnt ≤ f.cnt ∧ Hid (flt f' d b = (rc, rf, rn)) ∧ i = .int .i64 j ∧ LiesB wr w.heap.size f' A j n ∧ Below w.heap.size w wr ∧ Blk wr w.heap.size 24 #[.int .i64 0, .int .i64 0]) (fun _ i _ => n - (intOf i).toNat)
    case atStart => exact ⟨f, 0, a, rfl, ha0, ha1, Nat.le_refl _, HF, rfl, LiesB.alloc hf (Nat.le_refl _) _, (Below.refl _ _).alloc (Nat.le_refl _) _, Blk.new _ _ _⟩
    case round =>
      obtain ⟨f', j, b, rfl, hb0, hb1, hb2, HF', rfl, hl, hbel, hblk⟩ := hrel
      have hz : w.heap.size < wr.heap.size := hblk.lt
      have c0 : wr.cell? ⟨w.heap.size, 0, none⟩ = some (.int .i64 0) := hblk.cell 0
      have c1 : wr.cell? ⟨w.heap.size, 1, none⟩ = some (.int .i64 0) := hblk.cell 1
      have z0 : wr.frozen? ⟨w.heap.size, 0, none⟩ = false := hblk.frozen 0
      have z1 : wr.frozen? ⟨w.heap.size, 1, none⟩ = false := hblk.frozen 1
      cases f' with
      | nil =>
        obtain rfl : j = n := hl
        go_wp2_with fail
        have e := HF'.out
        simp only [flt, Prod.mk.injEq] at e
        obtain ⟨rfl, rfl, rfl⟩ := e
        refine bodyPost_ret (v := .tuple #[.agg #[.int .i64 0, .int .i64 0], .int .i64 b]) (by simp [results, Try.results37, go_sem, c0, c1]) rfl ⟨rfl, ?_⟩
        exact (hbel.setCell (Nat.le_refl _) _).setCell (Nat.le_refl _) _
      | cons wd ls ks nx =>
        obtain ⟨hi, p, off, A', n', c', rfl, hb, h0, h1, h2, hsz, hks, hnx⟩ := hl
        have hlen := Lies.len _ _ _ _ hks
        have hle := Fo.len_le ks
        have hcnt : (Fo.cons wd ls ks nx).cnt = 1 + ks.cnt + nx.cnt := rfl
        have e3 : ks.cnt < k := by omega
        have e4 : n' ≤ 4000000 := by omega
        have e5 : b + 1 + ks.cnt + nx.cnt ≤ 4000000 := by omega
        have e6 : nx.cnt ≤ f.cnt := by omega
        have hnew : Below w.heap.size w (wr.alloc (.cells #[.string wd, .bool ls, .slice A' n' c'] 86)) := hbel.alloc (by omega) _
        have hbad : ∀ x y : Int, flt (.cons wd ls ks nx) d b = (x, y, y) → x = rc ∧ y = rf ∧ y = rn := fun x y h => by
          have := HF'.out; rw [h] at this; simp only [Prod.mk.injEq] at this; omega
        have hs0 : wd.toList = [] ↔ wd.size = 0 := by rw [ByteArray.toList_eq, ← List.length_eq_zero_iff]; exact Iff.rfl
        by_cases hform : formBad wd ls ks = true
        · have hx := hbad 5 b (by simp [flt, hform])
          obtain ⟨rfl, rfl, rfl⟩ := hx
          clear hbad hcnt hks hnx hf HF HF' hnew
          cases ls with
          | true =>
            have hw1 : ¬ wd.toList = [] := by
              rw [hs0]; simp only [formBad_true, decide_eq_true_eq] at hform; omega
            clear hform hs0
            go_wp2_with fail
            refine bodyPost_ret (v := .tuple #[.agg #[.int .i64 5, .int .i64 b], .int .i64 b]) (by simp [results, Try.results37, go_sem, c0, c1, hz]) rfl ⟨rfl, ?_⟩
            exact ((hbel.setCell (p := ⟨w.heap.size, 0, none⟩) (Nat.le_refl _) _).setCell (p := ⟨w.heap.size, 1, none⟩) (Nat.le_refl _) _).alloc (by simp; omega) _
          | false =>
            have hw1 : 0 < n' := by
              simp only [formBad_false, decide_eq_true_eq] at hform; omega
            clear hform hs0
            go_wp2_with fail
            refine bodyPost_ret (v := .tuple #[.agg #[.int .i64 5, .int .i64 b], .int .i64 b]) (by simp [results, Try.results37, go_sem, c0, c1, hz]) rfl ⟨rfl, ?_⟩
            exact ((hbel.setCell (p := ⟨w.heap.size, 0, none⟩) (Nat.le_refl _) _).setCell (p := ⟨w.heap.size, 1, none⟩) (Nat.le_refl _) _).alloc (by simp; omega) _
        by_cases hword : (!ls && !wordB wd) = true
        · have hx := hbad 12 b (by simp only [flt]; rw [if_neg hform, if_pos hword])
          obtain ⟨rfl, rfl, rfl⟩ := hx
          clear hbad hcnt hks hnx hf HF HF' hnew
          cases ls with
          | true => simp at hword
          | false =>
            have hw1 : ¬ 0 < n' := by
              simp only [formBad_false, decide_eq_true_eq] at hform; omega
            have hw2 : Hid (wordB wd = false) := by show _ = _; simpa using hword
            clear hform hs0 hword
            go_wp2_with fail
            refine (goodWord_any _ _ hsz).mono ?_
            rintro e w1 ⟨rfl, rfl⟩
            rw [hw2.out]
            go_wp2_with fail
            refine bodyPost_ret (v := .tuple #[.agg #[.int .i64 12, .int .i64 b], .int .i64 b]) (by simp [results, Try.results37, go_sem, c0, c1, hz]) rfl ⟨rfl, ?_⟩
            exact ((hbel.setCell (p := ⟨w.heap.size, 0, none⟩) (Nat.le_refl _) _).setCell (p := ⟨w.heap.size, 1, none⟩) (Nat.le_refl _) _).alloc (by simp; omega) _
        have hw : ls = true ∧ wd.toList = [] ∨ ls = false ∧ ¬ 0 < n' ∧ wordB wd = true := by
          cases ls with
          | true => left; refine ⟨rfl, ?_⟩; rw [hs0]; simp only [formBad_true, decide_eq_true_eq] at hform; omega
          | false => right; refine ⟨rfl, ?_, by simpa using hword⟩; simp only [formBad_false, decide_eq_true_eq] at hform; omega
        have hfl : flt (.cons wd ls ks nx) d b = if 40 < d then (10, b, b) else if (flt ks (d + 1) (b + 1)).1 = 0 then flt nx d (flt ks (d + 1) (b + 1)).2.2 else flt ks (d + 1) (b + 1) := by
          simp only [flt]; rw [if_neg hform, if_neg hword]
        clear hform hword hs0
        by_cases hdeep : 40 < d
        · have hx := hbad 10 b (by rw [hfl, if_pos hdeep])
          obtain ⟨rfl, rfl, rfl⟩ := hx
          clear hbad hcnt hks hnx hf HF HF' hnew hfl
          rcases hw with ⟨rfl, hw1⟩ | ⟨rfl, hw1, hw2⟩
          · go_wp2_with fail
            refine bodyPost_ret (v := .tuple #[.agg #[.int .i64 10, .int .i64 b], .int .i64 b]) (by simp [results, Try.results37, go_sem, c0, c1, hz]) rfl ⟨rfl, ?_⟩
            exact ((hbel.setCell (p := ⟨w.heap.size, 0, none⟩) (Nat.le_refl _) _).setCell (p := ⟨w.heap.size, 1, none⟩) (Nat.le_refl _) _).alloc (by simp; omega) _
          · have HW := Lib.hid hw2
            clear hw2
            go_wp2_with fail
            refine (goodWord_any _ _ hsz).mono ?_
            rintro e w1 ⟨rfl, rfl⟩
            rw [HW.out]
            go_wp2_with fail
            refine bodyPost_ret (v := .tuple #[.agg #[.int .i64 10, .int .i64 b], .int .i64 b]) (by simp [results, Try.results37, go_sem, c0, c1, hz]) rfl ⟨rfl, ?_⟩
            exact ((hbel.setCell (p := ⟨w.heap.size, 0, none⟩) (Nat.le_refl _) _).setCell (p := ⟨w.heap.size, 1, none⟩) (Nat.le_refl _) _).alloc (by simp; omega) _
        rw [if_neg hdeep] at hfl
        have hks' : LiesB (wr.alloc (.cells #[.string wd, .bool ls, .slice A' n' c'] 86)) (wr.heap.size + 1) ks A' 0 n' := LiesB.below hks ((Below.refl _ _).alloc (by omega) _) (by omega)
        have hnx' : LiesB (wr.alloc (.cells #[.string wd, .bool ls, .slice A' n' c'] 86)) w.heap.size nx (some ⟨p, off, none⟩) (j + 1) n := LiesB.alloc hnx (by omega) _
        have hnext := flt_next ks (d + 1) (b + 1)
        rcases hr : flt ks (d + 1) (b + 1) with ⟨qc, qf, qn⟩
        have HR := Lib.hid hr
        rw [hr] at hfl hnext
        have hq1 : b + 1 ≤ qn := hnext.1
        have hq2 : qn ≤ b + 1 + ks.cnt := hnext.2
        have hcall := IH.out ks A' n' c' (d + 1) (b + 1) qc qf qn (wr.alloc (.cells #[.string wd, .bool ls, .slice A' n' c'] 86)) e3 (by simpa using hks') (by omega) (by omega) (by omega) (by omega) (by omega) hr
        have HC := Lib.hid hcall
        clear hr hcall hbad hcnt hf HF hks hnx hlen hle hks' IH hnext
        have hblk' := hblk.alloc (.cells #[.string wd, .bool ls, .slice A' n' c'] 86)
        by_cases hq : qc = 0
        · subst hq
          rw [if_pos rfl] at hfl
          have HF2 : Hid (flt nx d qn = (rc, rf, rn)) := by
            show _ = _
            rw [← HF'.out, hfl]
          clear hfl HF'
          rcases hw with ⟨rfl, hw1⟩ | ⟨rfl, hw1, hw2⟩
          · go_wp2_with fail
            refine HC.out.mono ?_
            rintro e w1 ⟨rfl, hb3⟩
            have hz3 : w.heap.size < w1.heap.size := by have := hb3.size; simp at this; omega
            have hblk3 : Blk w1 w.heap.size 24 #[.int .i64 0, .int .i64 0] := hblk'.below hb3 (by simp; omega)
            have hbel3 : Below w.heap.size w w1 := hnew.trans (hb3.mono (by simp; omega))
            have hnx3 : LiesB w1 w.heap.size nx (some ⟨p, off, none⟩) (j + 1) n := hnx'.below (hb3.mono (by simp; omega)) (Nat.le_refl _)
            clear hb3 hblk' hnew hbel HC c0 c1 z0 z1 hblk h0 h1 h2 hnx'
            go_wp2_with fail
            go_roundw
            case rel =>
              exact ⟨nx, j + 1, qn, rfl, by omega, by omega, e6, HF2, by go_num, LiesB.alloc hnx3 (by omega) _, hbel3.alloc (by omega) _, hblk3.alloc _⟩
            case measure => simp [intOf]; omega
          · have HW := Lib.hid hw2
            clear hw2
            go_wp2_with fail
            refine (goodWord_any _ _ hsz).mono ?_
            rintro e w1 ⟨rfl, rfl⟩
            rw [HW.out]
            go_wp2_with fail
            refine HC.out.mono ?_
            rintro e w1 ⟨rfl, hb3⟩
            have hz3 : w.heap.size < w1.heap.size := by have := hb3.size; simp at this; omega
            have hblk3 : Blk w1 w.heap.size 24 #[.int .i64 0, .int .i64 0] := hblk'.below hb3 (by simp; omega)
            have hbel3 : Below w.heap.size w w1 := hnew.trans (hb3.mono (by simp; omega))
            have hnx3 : LiesB w1 w.heap.size nx (some ⟨p, off, none⟩) (j + 1) n := hnx'.below (hb3.mono (by simp; omega)) (Nat.le_refl _)
            clear hb3 hblk' hnew hbel HC c0 c1 z0 z1 hblk h0 h1 h2 hnx'
            go_wp2_with fail
            go_roundw
            case rel =>
              exact ⟨nx, j + 1, qn, rfl, by omega, by omega, e6, HF2, by go_num, LiesB.alloc hnx3 (by omega) _, hbel3.alloc (by omega) _, hblk3.alloc _⟩
            case measure => simp [intOf]; omega
        · have hq' : (qc != 0) = true := by simpa using hq
          rw [if_neg hq] at hfl
          have hx : qc = rc ∧ qf = rf ∧ qn = rn := by
            have := HF'.out; rw [hfl] at this; simpa using this
          obtain ⟨rfl, rfl, rfl⟩ := hx
          clear hfl HF' hq hnx'
          rcases hw with ⟨rfl, hw1⟩ | ⟨rfl, hw1, hw2⟩
          · go_wp2_with fail
            refine HC.out.mono ?_
            rintro e w1 ⟨rfl, hb3⟩
            have hz3 : w.heap.size < w1.heap.size := by have := hb3.size; simp at this; omega
            have hblk3 : Blk w1 w.heap.size 24 #[.int .i64 0, .int .i64 0] := hblk'.below hb3 (by simp; omega)
            have d0 : w1.cell? ⟨w.heap.size, 0, none⟩ = some (.int .i64 0) := hblk3.cell 0
            have d1 : w1.cell? ⟨w.heap.size, 1, none⟩ = some (.int .i64 0) := hblk3.cell 1
            have y0 : w1.frozen? ⟨w.heap.size, 0, none⟩ = false := hblk3.frozen 0
            have y1 : w1.frozen? ⟨w.heap.size, 1, none⟩ = false := hblk3.frozen 1
            have hbel3 : Below w.heap.size w w1 := hnew.trans (hb3.mono (by simp; omega))
            clear hb3 hblk3 hblk' hnew hbel HC c0 c1 z0 z1 hblk h0 h1 h2
            go_wp2_with fail
            refine bodyPost_ret (v := .tuple #[.agg #[.int .i64 qc, .int .i64 qf], .int .i64 qn]) (by simp [results, Try.results37, go_sem, d0, d1, hz3]) rfl ⟨rfl, ?_⟩
            exact ((hbel3.setCell (p := ⟨w.heap.size, 0, none⟩) (Nat.le_refl _) _).setCell (p := ⟨w.heap.size, 1, none⟩) (Nat.le_refl _) _).alloc (by simp; omega) _
          · have HW := Lib.hid hw2
            clear hw2
            go_wp2_with fail
            refine (goodWord_any _ _ hsz).mono ?_
            rintro e w1 ⟨rfl, rfl⟩
            rw [HW.out]
            go_wp2_with fail
            refine HC.out.mono ?_
            rintro e w1 ⟨rfl, hb3⟩
            have hz3 : w.heap.size < w1.heap.size := by have := hb3.size; simp at this; omega
            have hblk3 : Blk w1 w.heap.size 24 #[.int .i64 0, .int .i64 0] := hblk'.below hb3 (by simp; omega)
            have d0 : w1.cell? ⟨w.heap.size, 0, none⟩ = some (.int .i64 0) := hblk3.cell 0
            have d1 : w1.cell? ⟨w.heap.size, 1, none⟩ = some (.int .i64 0) := hblk3.cell 1
            have y0 : w1.frozen? ⟨w.heap.size, 0, none⟩ = false := hblk3.frozen 0
            have y1 : w1.frozen? ⟨w.heap.size, 1, none⟩ = false := hblk3.frozen 1
            have hbel3 : Below w.heap.size w w1 := hnew.trans (hb3.mono (by simp; omega))
            clear hb3 hblk3 hblk' hnew hbel HC c0 c1 z0 z1 hblk h0 h1 h2
            go_wp2_with fail
            refine bodyPost_ret (v := .tuple #[.agg #[.int .i64 qc, .int .i64 qf], .int .i64 qn]) (by simp [results, Try.results37, go_sem, d0, d1, hz3]) rfl ⟨rfl, ?_⟩
            exact ((hbel3.setCell (p := ⟨w.heap.size, 0, none⟩) (Nat.le_refl _) _).setCell (p := ⟨w.heap.size, 1, none⟩) (Nat.le_refl _) _).alloc (by simp; omega) _
end Go.Proofs.Ytllgindmcjemeaa
