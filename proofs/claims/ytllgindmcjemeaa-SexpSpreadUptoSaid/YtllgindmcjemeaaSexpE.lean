/- Walks: Check of the program and of the reference; the law that compares them. -/
import Derived.Test.YtllgindmcjemeaaSexpD
namespace Go.Proofs.Ytllgindmcjemeaa
open Go.RowKit

def chk (f : Fo) : Int × Int := if 4000 < f.cnt then (2, 0) else ((flt f 0 0).1, (flt f 0 0).2.1)

set_option maxHeartbeats 1000000 in
theorem check_any (f : Fo) (A : Option Addr) (n c : Nat) (w : World) (hf : LiesB w w.heap.size f A 0 n) (hm : f.cnt ≤ 2000000) (qc qa : Int) (hq : chk f = (qc, qa)) :
    Calls Try.prog 13 #[.slice A n c] w fun e w' => e = .returned (.agg #[.int .i64 qc, .int .i64 qa]) ∧ Below w.heap.size w w' := by
  have hn := Lies.len _ _ _ _ hf
  have hn2 := Fo.len_le f
  have hn3 : n ≤ 4000000 := by omega
  have HQ := Lib.hid hq
  clear hq hn hn2
  go_enter Try.func13, Try.ntmps13
  go_wp2_with fail
  refine (count_any (f.cnt + 1) f A n c 4000 _ (by omega) (by simpa using LiesB.below hf ((Below.refl _ _).alloc (Nat.le_refl _) _) (Nat.le_succ _)) (by omega) hn3 (by omega) (by omega)).mono ?_
  rintro e w1 ⟨r, rfl, hr, hb1⟩
  have hblk : Blk w1 w.heap.size 24 #[.int .i64 0, .int .i64 0] := (Blk.new w _ _).below hb1 (by simp)
  have hbel : Below w.heap.size w w1 := ((Below.refl _ _).alloc (Nat.le_refl _) _).trans (hb1.mono (by simp))
  have hz : w.heap.size < w1.heap.size := hblk.lt
  have c0 : w1.cell? ⟨w.heap.size, 0, none⟩ = some (.int .i64 0) := hblk.cell 0
  have c1 : w1.cell? ⟨w.heap.size, 1, none⟩ = some (.int .i64 0) := hblk.cell 1
  have z0 : w1.frozen? ⟨w.heap.size, 0, none⟩ = false := hblk.frozen 0
  have z1 : w1.frozen? ⟨w.heap.size, 1, none⟩ = false := hblk.frozen 1
  by_cases hmany : 4000 < f.cnt
  · have hr4 : 4000 < r := hr.2.2.2 (by omega)
    have e2 : (2, 0) = (qc, qa) := by rw [← HQ.out, chk, if_pos hmany]
    simp only [Prod.mk.injEq] at e2
    obtain ⟨rfl, rfl⟩ := e2
    clear hb1 hr HQ hf
    go_wp2_with fail
    refine bodyPost_ret (v := .agg #[.int .i64 2, .int .i64 0]) (by simp [results, Try.results13, go_sem, c0, c1]) rfl ⟨rfl, ?_⟩
    exact (hbel.setCell (p := ⟨w.heap.size, 0, none⟩) (Nat.le_refl _) _).setCell (p := ⟨w.heap.size, 1, none⟩) (Nat.le_refl _) _
  · have hr4 : r ≤ 4000 := by have := hr.2.1; omega
    have e2 : ((flt f 0 0).1, (flt f 0 0).2.1) = (qc, qa) := by rw [← HQ.out, chk, if_neg hmany]
    rcases h3 : flt f 0 0 with ⟨xc, xf, xn⟩
    rw [h3] at e2
    simp only [Prod.mk.injEq] at e2
    obtain ⟨rfl, rfl⟩ := e2
    have H3 := Lib.hid h3
    have hl1 : LiesB w1 w1.heap.size f A 0 n := LiesB.below hf hbel (by omega)
    clear hb1 hr HQ hf h3
    go_wp2_with fail
    refine (list_any (f.cnt + 1) f A n c w1.heap.size 0 0 xc xf xn _ _ (by omega) (LiesB.alloc hl1 (Nat.le_refl _) _) (by omega) (by omega) (by omega) (by omega) (by omega) (Blk.new _ _ _) H3.out rfl).mono ?_
    rintro e w2 ⟨rfl, hb2, hblk2⟩
    have hbel2 : Below w1.heap.size w1 w2 := ((Below.refl _ _).alloc (Nat.le_refl _) _).trans hb2
    have hbel3 : Below w.heap.size w w2 := hbel.trans (hbel2.mono (by omega))
    have hblk3 := hblk.below hbel2 hz
    have hz2 : w1.heap.size < w2.heap.size := hblk2.lt
    have hz3 : w.heap.size < w2.heap.size := by omega
    have d0 : w2.cell? ⟨w.heap.size, 0, none⟩ = some (.int .i64 0) := hblk3.cell 0
    have d1 : w2.cell? ⟨w.heap.size, 1, none⟩ = some (.int .i64 0) := hblk3.cell 1
    have y0 : w2.frozen? ⟨w.heap.size, 0, none⟩ = false := hblk3.frozen 0
    have y1 : w2.frozen? ⟨w.heap.size, 1, none⟩ = false := hblk3.frozen 1
    have d2 : w2.cell? ⟨w1.heap.size, 1, none⟩ = some (.int .i64 xc) := hblk2.cell 1
    have d3 : w2.cell? ⟨w1.heap.size, 2, none⟩ = some (.int .i64 xf) := hblk2.cell 2
    clear hb2 hblk2 hbel2 hbel c0 c1 z0 z1 hblk hblk3 hl1
    go_wp2_with fail
    refine bodyPost_ret (v := .agg #[.int .i64 xc, .int .i64 xf]) (by simp [results, Try.results13, go_sem, d0, d1]) rfl ⟨rfl, ?_⟩
    exact (hbel3.setCell (p := ⟨w.heap.size, 0, none⟩) (Nat.le_refl _) _).setCell (p := ⟨w.heap.size, 1, none⟩) (Nat.le_refl _) _

set_option maxHeartbeats 1000000 in
theorem sexpCheck_any (f : Fo) (A : Option Addr) (n c : Nat) (w : World) (hf : LiesB w w.heap.size f A 0 n) (hm : f.cnt ≤ 2000000) (qc qa : Int) (hq : chk f = (qc, qa)) :
    Calls Try.prog 14 #[.slice A n c] w fun e w' => e = .returned (.agg #[.int .i64 qc, .int .i64 qa]) ∧ Below w.heap.size w w' := by
  have hn := Lies.len _ _ _ _ hf
  have hn2 := Fo.len_le f
  have hn3 : n ≤ 4000000 := by omega
  have HQ := Lib.hid hq
  have hl1 : LiesB (w.alloc (.cells #[.int .i64 0, .int .i64 0] 24)) (w.heap.size + 1) f A 0 n := LiesB.below hf ((Below.refl _ _).alloc (Nat.le_refl _) _) (Nat.le_succ _)
  clear hq hn hn2 hf
  by_cases hmany : 4000 < f.cnt
  · have e2 : (2, 0) = (qc, qa) := by rw [← HQ.out, chk, if_pos hmany]
    simp only [Prod.mk.injEq] at e2
    obtain ⟨rfl, rfl⟩ := e2
    go_enter Try.func14, Try.ntmps14
    go_wp2_with fail
    refine (sexpCount_any (f.cnt + 1) f A n c _ (by omega) (by simpa using hl1) (by omega) hn3).mono ?_
    rintro e w1 ⟨rfl, rfl⟩
    go_wp2_with fail
    refine bodyPost_ret (v := .agg #[.int .i64 2, .int .i64 0]) (by simp [results, Try.results14, go_sem]) rfl ⟨rfl, ?_⟩
    exact (Below.refl _ _).alloc (Nat.le_refl _) _
  · have e2 : ((flt f 0 0).1, (flt f 0 0).2.1) = (qc, qa) := by rw [← HQ.out, chk, if_neg hmany]
    rcases h3 : flt f 0 0 with ⟨xc, xf, xn⟩
    rw [h3] at e2
    simp only [Prod.mk.injEq] at e2
    obtain ⟨rfl, rfl⟩ := e2
    have H3 := Lib.hid h3
    clear h3 HQ
    go_enter Try.func14, Try.ntmps14
    go_wp2_with fail
    refine (sexpCount_any (f.cnt + 1) f A n c _ (by omega) (by simpa using hl1) (by omega) hn3).mono ?_
    rintro e w1 ⟨rfl, rfl⟩
    go_wp2_with fail
    refine (sexpFault_any (f.cnt + 1) f A n c 0 0 xc xf xn _ (by omega) (by simpa using hl1) (by omega) (by omega) (by omega) (by omega) (by omega) H3.out).mono ?_
    rintro e w2 ⟨rfl, hb2⟩
    have hblk3 : Blk w2 w.heap.size 24 #[.int .i64 0, .int .i64 0] := (Blk.new w _ _).below hb2 (by simp)
    have hbel3 : Below w.heap.size w w2 := ((Below.refl _ _).alloc (Nat.le_refl _) _).trans (hb2.mono (by simp))
    have hz3 : w.heap.size < w2.heap.size := hblk3.lt
    have d0 : w2.cell? ⟨w.heap.size, 0, none⟩ = some (.int .i64 0) := hblk3.cell 0
    have d1 : w2.cell? ⟨w.heap.size, 1, none⟩ = some (.int .i64 0) := hblk3.cell 1
    have y0 : w2.frozen? ⟨w.heap.size, 0, none⟩ = false := hblk3.frozen 0
    have y1 : w2.frozen? ⟨w.heap.size, 1, none⟩ = false := hblk3.frozen 1
    clear hb2 hblk3 hl1
    go_wp2_with fail
    refine bodyPost_ret (v := .agg #[.int .i64 xc, .int .i64 xf]) (by simp [results, Try.results14, go_sem, d0, d1, hz3]) rfl ⟨rfl, ?_⟩
    exact ((hbel3.setCell (p := ⟨w.heap.size, 0, none⟩) (Nat.le_refl _) _).setCell (p := ⟨w.heap.size, 1, none⟩) (Nat.le_refl _) _).alloc (by simp; omega) _

set_option maxHeartbeats 1000000 in
theorem sexpCheckSays_any (f : Fo) (A : Option Addr) (n c : Nat) (w : World) (hf : LiesB w w.heap.size f A 0 n) (hm : f.cnt ≤ 2000000) :
    Calls Try.prog 3 #[.slice A n c] w fun e w' => e = .returned (.bool true) ∧ Below w.heap.size w w' := by
  rcases hq : chk f with ⟨qc, qa⟩
  have HQ := Lib.hid hq
  clear hq
  go_enter Try.func3, Try.ntmps3
  go_wp2_with fail
  refine (check_any f A n c _ hf hm qc qa HQ.out).mono ?_
  rintro e w1 ⟨rfl, hb1⟩
  go_wp2_with fail
  refine (sexpCheck_any f A n c _ (LiesB.below hf hb1 hb1.size) hm qc qa HQ.out).mono ?_
  rintro e w2 ⟨rfl, hb2⟩
  go_wp2_with fail
  go_ret
  exact ⟨ret_bool (by simp), hb1.trans (hb2.mono hb1.size)⟩
end Go.Proofs.Ytllgindmcjemeaa
