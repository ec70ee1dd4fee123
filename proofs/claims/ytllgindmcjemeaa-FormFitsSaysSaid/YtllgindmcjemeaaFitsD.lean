/- Walk: the law FormFitsSays. -/
import Derived.Test.YtllgindmcjemeaaFitsC
import Derived.Test.YtllgindmcjemeaaFormC
namespace Go.Proofs.Ytllgindmcjemeaa
open Go.RowKit

theorem fits_empty : fitsF ⟨[], [], [], []⟩ ⟨[], [0], []⟩ = (9, 1) := by decide +kernel

set_option maxHeartbeats 400000 in
theorem fault_any (c a : Int) (w : World) : Calls Try.prog 24 #[.int .i64 c, .int .i64 a] w fun e w' => e = .returned (.agg #[.int .i64 c, .int .i64 a]) ∧ Below w.heap.size w w' := by
  go_enter Try.func24, Try.ntmps24
  go_wp2_with fail
  refine bodyPost_ret (v := .agg #[.int .i64 c, .int .i64 a]) (by simp [results, Try.results24, go_sem]) rfl ⟨rfl, ?_⟩
  exact (Below.refl _ _).alloc (Nat.le_refl _) _

set_option maxRecDepth 100000 in
set_option maxHeartbeats 4000000 in
theorem formFitsSays_any (A1 A2 A3 A4 : Option Addr) (n1 c1 n2 c2 n3 c3 n4 c4 : Nat) (B1 B2 B3 : Option Addr) (k1 e1 k2 e2 k3 e3 : Nat) (F : FormD) (M : ModelD) (w : World) (hF : FormB w w.heap.size A1 A2 A3 A4 n1 n2 n3 n4 F) (hM : ModelB w w.heap.size B1 B2 B3 k1 k2 k3 M) :
    Calls Try.prog 7 #[.agg #[.slice A1 n1 c1, .slice A2 n2 c2, .slice A3 n3 c3, .slice A4 n4 c4], .agg #[.slice B1 k1 e1, .slice B2 k2 e2, .slice B3 k3 e3]] w fun e w' => e = .returned (.bool true) ∧ Below w.heap.size w w' := by
  rcases hq : formF F with ⟨tc, ta⟩
  rcases hqf : fitsF F M with ⟨qc, qa⟩
  have HC := Lib.hid (fun W (hb : Below w.heap.size w W) => fits_any A1 A2 A3 A4 n1 c1 n2 c2 n3 c3 n4 c4 B1 B2 B3 k1 e1 k2 e2 k3 e3 F M qc qa W (hF.below hb hb.size) (hM.below hb hb.size) hqf)
  have HD := Lib.hid (fun W (hb : Below w.heap.size w W) => formFault_any A1 A2 A3 A4 n1 c1 n2 c2 n3 c3 n4 c4 F tc ta W (hF.below hb hb.size) hq)
  obtain ⟨hb0, hbk0, hbm0, hs0⟩ := two_boxes w 38 48 #[.slice A1 n1 c1, .slice A2 n2 c2, .slice A3 n3 c3, .slice A4 n4 c4] #[.slice B1 k1 e1, .slice B2 k2 e2, .slice B3 k3 e3]
  have HW := Lib.hid (And.intro hb0 (And.intro hbk0 (And.intro hbm0 hs0)))
  clear hb0 hbk0 hbm0 hs0
  by_cases htc : tc = 0
  · subst htc
    have hsm := formF_small (F := F) (by rw [hq])
    rw [hF.terms.len, hF.ints.len, hF.atoms.len] at hsm
    have hfo : fitsOnly F M = (qc, qa) := by rw [← hqf, fitsF, hq, if_pos rfl]
    have HO := Lib.hid (fun W (hb : Below w.heap.size w W) => fitsFault_any A1 A2 A3 A4 n1 c1 n2 c2 n3 c3 n4 c4 B1 B2 B3 k1 e1 k2 e2 k3 e3 F M qc qa W (hF.below hb hb.size) (hM.below hb hb.size) hsm.1 hsm.2.1 hfo)
    clear hsm hfo hq hqf hF hM
    go_enter Try.func7, Try.ntmps7
    go_wp2_with fail
    refine (HD.out _ HW.out.1).mono ?_
    rintro e w0 ⟨rfl, hbx⟩
    obtain ⟨hb0, hbk0, hbm0, hs0⟩ := HW.out
    have hbel0 := (hb0.trans (hbx.mono (by omega))).alloc (by have := hbx.size; omega) (.cells #[.int .i64 0, .int .i64 ta] 24)
    have hbk1 := (hbk0.below hbx (by omega)).alloc (.cells #[.int .i64 0, .int .i64 ta] 24)
    have hbm1 := (hbm0.below hbx (by omega)).alloc (.cells #[.int .i64 0, .int .i64 ta] 24)
    have hbg1 := Blk.new w0 24 #[.int .i64 0, .int .i64 ta]
    have hzz : w.heap.size + 2 ≤ w0.heap.size := by have := hbx.size; omega
    have hsz : w0.heap.size < (w0.alloc (.cells #[.int .i64 0, .int .i64 ta] 24)).heap.size := by simp
    have HOX := Lib.hid (HO.out _ hbel0)
    have HY := Lib.hid (And.intro hbel0 (And.intro hbk1 (And.intro hbm1 hbg1)))
    have i0 := hbk1.cell 0
    have i1 := hbk1.cell 1
    have i2 := hbk1.cell 2
    have i3 := hbk1.cell 3
    have j0 := hbm1.cell 0
    have j1 := hbm1.cell 1
    have j2 := hbm1.cell 2
    simp only [List.getElem?_toArray, List.getElem?_cons_zero, List.getElem?_cons_succ] at i0 i1 i2 i3 j0 j1 j2
    have hzw : w.heap.size < w0.heap.size := by omega
    have hzw1 : w.heap.size + 1 < w0.heap.size := by omega
    clear hb0 hbk0 hbm0 hs0 hbx HW HD HO hbel0 hbk1 hbm1 hbg1
    go_wp2_with fail
    refine HOX.out.mono ?_
    rintro e w1 ⟨rfl, hb1⟩
    obtain ⟨hbel1, hbk1, hbm1, hbg1⟩ := HY.out
    have hbelA := hbel1.trans (hb1.mono (by simp; omega))
    have hbkA := hbk1.below hb1 (by simp; omega)
    have hbmA := hbm1.below hb1 (by simp; omega)
    have hbgA := hbg1.below hb1 (by simp)
    have hzg := hbgA.lt
    clear hbel1 hbk1 hbm1 hbg1 hb1 HY HOX i0 i1 i2 i3 j0 j1 j2 hsz
    generalize w0.heap.size = G at hbgA hzg hzz hzw hzw1 ⊢
    have t0 := hbgA.cell 0
    have t1 := hbgA.cell 1
    simp only [List.getElem?_toArray, List.getElem?_cons_zero, List.getElem?_cons_succ] at t0 t1
    have t2 := hbgA.frozen 0
    have t3 := hbgA.frozen 1
    have hbel := (hbelA.setCell (p := ⟨G, 0, none⟩) (by show w.heap.size ≤ G; omega) (.int .i64 qc)).setCell (p := ⟨G, 1, none⟩) (by show w.heap.size ≤ G; omega) (.int .i64 qa)
    have hbk := (hbkA.far (p := ⟨G, 0, none⟩) (by show _ ≠ G; omega) (.int .i64 qc)).far (p := ⟨G, 1, none⟩) (by show _ ≠ G; omega) (.int .i64 qa)
    have hbm := (hbmA.far (p := ⟨G, 0, none⟩) (by show _ ≠ G; omega) (.int .i64 qc)).far (p := ⟨G, 1, none⟩) (by show _ ≠ G; omega) (.int .i64 qa)
    have hbg := (hbgA.set_ 0 (.int .i64 qc)).set_ 1 (.int .i64 qa)
    have hbg' : Blk ((w1.setCell ⟨G, 0, none⟩ (.int .i64 qc)).setCell ⟨G, 1, none⟩ (.int .i64 qa)) G 24 #[.int .i64 qc, .int .i64 qa] := hbg
    have hsx : ((w1.setCell ⟨G, 0, none⟩ (.int .i64 qc)).setCell ⟨G, 1, none⟩ (.int .i64 qa)).heap.size = w1.heap.size := by simp
    have HYY := Lib.hid (And.intro hbel (And.intro hbk (And.intro hbm (And.intro hbg' hsx))))
    clear hbel hbk hbm hbg hbg' hsx hbelA hbkA hbmA hbgA
    go_upto_region 4 with fail
    obtain ⟨hbel, hbk, hbm, hbg, hsx⟩ := HYY.out
    clear HYY t0 t1 t2 t3
    generalize (w1.setCell ⟨G, 0, none⟩ (.int .i64 qc)).setCell ⟨G, 1, none⟩ (.int .i64 qa) = X at hbel hbk hbm hbg hsx ⊢
    have hzX0 : G < X.heap.size := hbg.lt
    clear hsx hzg
    have hbelX1 : Below w.heap.size w (X.alloc (.cells #[.int .i64 0] 3)) := hbel.alloc (by omega) _
    have hbkX1 := hbk.alloc (.cells #[.int .i64 0] 3)
    have hbmX1 := hbm.alloc (.cells #[.int .i64 0] 3)
    have hbgX1 := hbg.alloc (.cells #[.int .i64 0] 3)
    have hb1X := Blk.new X 3 #[.int .i64 0]
    have HE := Lib.hid (fits_any none none none none 0 0 0 0 0 0 0 0 none (some ⟨X.heap.size, 0, none⟩) none 0 0 1 1 0 0 ⟨[], [], [], []⟩ ⟨[], [0], []⟩ 9 1 (X.alloc (.cells #[.int .i64 0] 3)) ⟨Arr.nil_, Arr.nil_, Arr.nil_, Arr.nil_, by omega, by omega, by omega, by omega⟩
      ⟨Arr.nil_, arr_one (by simp) ⟨hb1X.cell 0, zero_i64⟩, Arr.nil_, by omega, by omega, by omega⟩ fits_empty)
    have HY := Lib.hid (And.intro hbelX1 (And.intro hbkX1 (And.intro hbmX1 hbgX1)))
    have hzX : X.heap.size < (X.alloc (.cells #[.int .i64 0] 3)).heap.size := by simp
    clear hbelX1 hbkX1 hbmX1 hbgX1 hb1X hbel hbk hbm hbg
    go_wp2_with fail
    refine HE.out.mono ?_
    rintro e y0 ⟨rfl, hby⟩
    obtain ⟨hbel1, hbk1, hbm1, hbg1⟩ := HY.out
    have hbel := hbel1.trans (hby.mono (by simp; omega))
    have hbk := hbk1.below hby (by simp; omega)
    have hbm := hbm1.below hby (by simp; omega)
    have hbg := hbg1.below hby (by simp; omega)
    have hzG1 := hbg.lt
    clear hbel1 hbk1 hbm1 hbg1 hby HY HE hzX
    have hbelY := hbel.alloc (by omega) (.cells #[.int .i64 9, .int .i64 1] 24)
    have hbkY := hbk.alloc (.cells #[.int .i64 9, .int .i64 1] 24)
    have hbmY := hbm.alloc (.cells #[.int .i64 9, .int .i64 1] 24)
    have hbgY := hbg.alloc (.cells #[.int .i64 9, .int .i64 1] 24)
    have hbhY := Blk.new y0 24 #[.int .i64 9, .int .i64 1]
    have hzH : y0.heap.size < (y0.alloc (.cells #[.int .i64 9, .int .i64 1] 24)).heap.size := by simp
    clear hbel hbk hbm hbg
    go_wp2_with fail
    generalize y0.alloc (.cells #[.int .i64 9, .int .i64 1] 24) = Y at hbelY hbkY hbmY hbgY hbhY hzH ⊢
    generalize y0.heap.size = G2 at hbhY hzH hzG1 ⊢
    have hz1 : w.heap.size + 1 < Y.heap.size := hbmY.lt
    have p0 : Y.cell? ⟨w.heap.size, 0, none⟩ = some (.slice A1 n1 c1) := hbkY.cell 0
    have p1 : Y.cell? ⟨w.heap.size, 1, none⟩ = some (.slice A2 n2 c2) := hbkY.cell 1
    have p2 : Y.cell? ⟨w.heap.size, 2, none⟩ = some (.slice A3 n3 c3) := hbkY.cell 2
    have p3 : Y.cell? ⟨w.heap.size, 3, none⟩ = some (.slice A4 n4 c4) := hbkY.cell 3
    have q0 : Y.cell? ⟨w.heap.size + 1, 0, none⟩ = some (.slice B1 k1 e1) := hbmY.cell 0
    have q1 : Y.cell? ⟨w.heap.size + 1, 1, none⟩ = some (.slice B2 k2 e2) := hbmY.cell 1
    have q2 : Y.cell? ⟨w.heap.size + 1, 2, none⟩ = some (.slice B3 k3 e3) := hbmY.cell 2
    have g0 : Y.cell? ⟨G, 0, none⟩ = some (.int .i64 qc) := hbgY.cell 0
    have g1 : Y.cell? ⟨G, 1, none⟩ = some (.int .i64 qa) := hbgY.cell 1
    have h0 : Y.cell? ⟨G2, 0, none⟩ = some (.int .i64 9) := hbhY.cell 0
    have h1 : Y.cell? ⟨G2, 1, none⟩ = some (.int .i64 1) := hbhY.cell 1
    have HB0 : Hid (Below w.heap.size w Y.drew) := below_drewN hbelY 1
    clear hbelY hbkY hbmY hbgY hbhY
    go_region_held3 (fun w' => w'.cell? ⟨w.heap.size, 0, none⟩ = some (.slice A1 n1 c1) ∧ w'.cell? ⟨w.heap.size, 1, none⟩ = some (.slice A2 n2 c2) ∧ w'.cell? ⟨w.heap.size, 2, none⟩ = some (.slice A3 n3 c3) ∧ w'.cell? ⟨w.heap.size, 3, none⟩ = some (.slice A4 n4 c4) ∧ w'.cell? ⟨w.heap.size + 1, 0, none⟩ = some (.slice B1 k1 e1) ∧ w'.cell? ⟨w.heap.size + 1, 1, none⟩ = some (.slice B2 k2 e2) ∧ w'.cell? ⟨w.heap.size + 1, 2, none⟩ = some (.slice B3 k3 e3) ∧ w'.cell? ⟨G, 0, none⟩ = some (.int .i64 qc) ∧ w'.cell? ⟨G, 1, none⟩ = some (.int .i64 qa) ∧ w'.cell? ⟨G2, 0, none⟩ = some (.int .i64 9) ∧ w'.cell? ⟨G2, 1, none⟩ = some (.int .i64 1))
      (go_keep)
      (first
        | (go_simp
           go_at_call 23
           refine (HC.out _ (by exact HB0.out)).mono ?_
           rintro e z1 ⟨rfl, hb1⟩
           have zz1 : Y.heap.size ≤ z1.heap.size := hb1.size
           have D1 : Below w.heap.size w z1 := HB0.out.trans (hb1.mono (by first | omega | (simp; omega)))
           have ap0 : z1.cell? ⟨w.heap.size, 0, none⟩ = some (.slice A1 n1 c1) := by rw [hb1.cell (p := ⟨w.heap.size, 0, none⟩) (by first | omega | (simp; omega))]; first | exact p0
           have ap1 : z1.cell? ⟨w.heap.size, 1, none⟩ = some (.slice A2 n2 c2) := by rw [hb1.cell (p := ⟨w.heap.size, 1, none⟩) (by first | omega | (simp; omega))]; first | exact p1
           have ap2 : z1.cell? ⟨w.heap.size, 2, none⟩ = some (.slice A3 n3 c3) := by rw [hb1.cell (p := ⟨w.heap.size, 2, none⟩) (by first | omega | (simp; omega))]; first | exact p2
           have ap3 : z1.cell? ⟨w.heap.size, 3, none⟩ = some (.slice A4 n4 c4) := by rw [hb1.cell (p := ⟨w.heap.size, 3, none⟩) (by first | omega | (simp; omega))]; first | exact p3
           have aq0 : z1.cell? ⟨w.heap.size + 1, 0, none⟩ = some (.slice B1 k1 e1) := by rw [hb1.cell (p := ⟨w.heap.size + 1, 0, none⟩) (by first | omega | (simp; omega))]; first | exact q0
           have aq1 : z1.cell? ⟨w.heap.size + 1, 1, none⟩ = some (.slice B2 k2 e2) := by rw [hb1.cell (p := ⟨w.heap.size + 1, 1, none⟩) (by first | omega | (simp; omega))]; first | exact q1
           have aq2 : z1.cell? ⟨w.heap.size + 1, 2, none⟩ = some (.slice B3 k3 e3) := by rw [hb1.cell (p := ⟨w.heap.size + 1, 2, none⟩) (by first | omega | (simp; omega))]; first | exact q2
           have ag0 : z1.cell? ⟨G, 0, none⟩ = some (.int .i64 qc) := by rw [hb1.cell (p := ⟨G, 0, none⟩) (by first | omega | (simp; omega))]; first | exact g0
           have ag1 : z1.cell? ⟨G, 1, none⟩ = some (.int .i64 qa) := by rw [hb1.cell (p := ⟨G, 1, none⟩) (by first | omega | (simp; omega))]; first | exact g1
           have ah0 : z1.cell? ⟨G2, 0, none⟩ = some (.int .i64 9) := by rw [hb1.cell (p := ⟨G2, 0, none⟩) (by first | omega | (simp; omega))]; first | exact h0
           have ah1 : z1.cell? ⟨G2, 1, none⟩ = some (.int .i64 1) := by rw [hb1.cell (p := ⟨G2, 1, none⟩) (by first | omega | (simp; omega))]; first | exact h1)
        | (go_simp
           go_at_call 24
           refine (fault_any 9 1 _).mono ?_
           rintro e z2 ⟨rfl, hb2⟩
           have D2 : Below w.heap.size w z2 := D1.trans (hb2.mono (by first | omega | (simp; omega)))
           have bp0 : z2.cell? ⟨w.heap.size, 0, none⟩ = some (.slice A1 n1 c1) := by rw [hb2.cell (p := ⟨w.heap.size, 0, none⟩) (by first | omega | (simp; omega))]; first | exact ap0
           have bp1 : z2.cell? ⟨w.heap.size, 1, none⟩ = some (.slice A2 n2 c2) := by rw [hb2.cell (p := ⟨w.heap.size, 1, none⟩) (by first | omega | (simp; omega))]; first | exact ap1
           have bp2 : z2.cell? ⟨w.heap.size, 2, none⟩ = some (.slice A3 n3 c3) := by rw [hb2.cell (p := ⟨w.heap.size, 2, none⟩) (by first | omega | (simp; omega))]; first | exact ap2
           have bp3 : z2.cell? ⟨w.heap.size, 3, none⟩ = some (.slice A4 n4 c4) := by rw [hb2.cell (p := ⟨w.heap.size, 3, none⟩) (by first | omega | (simp; omega))]; first | exact ap3
           have bq0 : z2.cell? ⟨w.heap.size + 1, 0, none⟩ = some (.slice B1 k1 e1) := by rw [hb2.cell (p := ⟨w.heap.size + 1, 0, none⟩) (by first | omega | (simp; omega))]; first | exact aq0
           have bq1 : z2.cell? ⟨w.heap.size + 1, 1, none⟩ = some (.slice B2 k2 e2) := by rw [hb2.cell (p := ⟨w.heap.size + 1, 1, none⟩) (by first | omega | (simp; omega))]; first | exact aq1
           have bq2 : z2.cell? ⟨w.heap.size + 1, 2, none⟩ = some (.slice B3 k3 e3) := by rw [hb2.cell (p := ⟨w.heap.size + 1, 2, none⟩) (by first | omega | (simp; omega))]; first | exact aq2
           have bg0 : z2.cell? ⟨G, 0, none⟩ = some (.int .i64 qc) := by rw [hb2.cell (p := ⟨G, 0, none⟩) (by first | omega | (simp; omega))]; first | exact ag0
           have bg1 : z2.cell? ⟨G, 1, none⟩ = some (.int .i64 qa) := by rw [hb2.cell (p := ⟨G, 1, none⟩) (by first | omega | (simp; omega))]; first | exact ag1
           have bh0 : z2.cell? ⟨G2, 0, none⟩ = some (.int .i64 9) := by rw [hb2.cell (p := ⟨G2, 0, none⟩) (by first | omega | (simp; omega))]; first | exact ah0
           have bh1 : z2.cell? ⟨G2, 1, none⟩ = some (.int .i64 1) := by rw [hb2.cell (p := ⟨G2, 1, none⟩) (by first | omega | (simp; omega))]; first | exact ah1)
        | fail)
    all_goals
      go_wp2_with fail
      go_ret
      refine ⟨ret_bool (by simp), ?_⟩
      exact D2
  · have hfo : (tc, ta) = (qc, qa) := by rw [← hqf, fitsF, hq, if_neg htc]
    simp only [Prod.mk.injEq] at hfo
    obtain ⟨rfl, rfl⟩ := hfo
    have hqq : (tc == 0) = false := by simpa using htc
    clear htc hq hqf hF hM
    go_enter Try.func7, Try.ntmps7
    go_wp2_with fail
    refine (HD.out _ HW.out.1).mono ?_
    rintro e w0 ⟨rfl, hbx⟩
    obtain ⟨hb0, hbk0, hbm0, hs0⟩ := HW.out
    have hbel := (hb0.trans (hbx.mono (by omega))).alloc (by have := hbx.size; omega) (.cells #[.int .i64 tc, .int .i64 ta] 24)
    have hbk := (hbk0.below hbx (by omega)).alloc (.cells #[.int .i64 tc, .int .i64 ta] 24)
    have hbm := (hbm0.below hbx (by omega)).alloc (.cells #[.int .i64 tc, .int .i64 ta] 24)
    have hbg := Blk.new w0 24 #[.int .i64 tc, .int .i64 ta]
    have hzz : w.heap.size + 2 ≤ w0.heap.size := by have := hbx.size; omega
    clear hb0 hbk0 hbm0 hs0 hbx HW HD
    go_upto_region 4 with fail
    have hzX0 := hbg.lt
    generalize w0.alloc (.cells #[.int .i64 tc, .int .i64 ta] 24) = X at hbel hbk hbm hbg hzX0 ⊢
    generalize w0.heap.size = G at hbg hzX0 hzz ⊢
    have hbelX1 : Below w.heap.size w (X.alloc (.cells #[.int .i64 0] 3)) := hbel.alloc (by omega) _
    have hbkX1 := hbk.alloc (.cells #[.int .i64 0] 3)
    have hbmX1 := hbm.alloc (.cells #[.int .i64 0] 3)
    have hbgX1 := hbg.alloc (.cells #[.int .i64 0] 3)
    have hb1X := Blk.new X 3 #[.int .i64 0]
    have HE := Lib.hid (fits_any none none none none 0 0 0 0 0 0 0 0 none (some ⟨X.heap.size, 0, none⟩) none 0 0 1 1 0 0 ⟨[], [], [], []⟩ ⟨[], [0], []⟩ 9 1 (X.alloc (.cells #[.int .i64 0] 3)) ⟨Arr.nil_, Arr.nil_, Arr.nil_, Arr.nil_, by omega, by omega, by omega, by omega⟩
      ⟨Arr.nil_, arr_one (by simp) ⟨hb1X.cell 0, zero_i64⟩, Arr.nil_, by omega, by omega, by omega⟩ fits_empty)
    have HY := Lib.hid (And.intro hbelX1 (And.intro hbkX1 (And.intro hbmX1 hbgX1)))
    have hzX : X.heap.size < (X.alloc (.cells #[.int .i64 0] 3)).heap.size := by simp
    clear hbelX1 hbkX1 hbmX1 hbgX1 hb1X hbel hbk hbm hbg
    go_wp2_with fail
    refine HE.out.mono ?_
    rintro e y0 ⟨rfl, hby⟩
    obtain ⟨hbel1, hbk1, hbm1, hbg1⟩ := HY.out
    have hbel := hbel1.trans (hby.mono (by simp; omega))
    have hbk := hbk1.below hby (by simp; omega)
    have hbm := hbm1.below hby (by simp; omega)
    have hbg := hbg1.below hby (by simp; omega)
    have hzG1 := hbg.lt
    clear hbel1 hbk1 hbm1 hbg1 hby HY HE hzX
    have hbelY := hbel.alloc (by omega) (.cells #[.int .i64 9, .int .i64 1] 24)
    have hbkY := hbk.alloc (.cells #[.int .i64 9, .int .i64 1] 24)
    have hbmY := hbm.alloc (.cells #[.int .i64 9, .int .i64 1] 24)
    have hbgY := hbg.alloc (.cells #[.int .i64 9, .int .i64 1] 24)
    have hbhY := Blk.new y0 24 #[.int .i64 9, .int .i64 1]
    have hzH : y0.heap.size < (y0.alloc (.cells #[.int .i64 9, .int .i64 1] 24)).heap.size := by simp
    clear hbel hbk hbm hbg
    go_wp2_with fail
    generalize y0.alloc (.cells #[.int .i64 9, .int .i64 1] 24) = Y at hbelY hbkY hbmY hbgY hbhY hzH ⊢
    generalize y0.heap.size = G2 at hbhY hzH hzG1 ⊢
    have hz1 : w.heap.size + 1 < Y.heap.size := hbmY.lt
    have p0 : Y.cell? ⟨w.heap.size, 0, none⟩ = some (.slice A1 n1 c1) := hbkY.cell 0
    have p1 : Y.cell? ⟨w.heap.size, 1, none⟩ = some (.slice A2 n2 c2) := hbkY.cell 1
    have p2 : Y.cell? ⟨w.heap.size, 2, none⟩ = some (.slice A3 n3 c3) := hbkY.cell 2
    have p3 : Y.cell? ⟨w.heap.size, 3, none⟩ = some (.slice A4 n4 c4) := hbkY.cell 3
    have q0 : Y.cell? ⟨w.heap.size + 1, 0, none⟩ = some (.slice B1 k1 e1) := hbmY.cell 0
    have q1 : Y.cell? ⟨w.heap.size + 1, 1, none⟩ = some (.slice B2 k2 e2) := hbmY.cell 1
    have q2 : Y.cell? ⟨w.heap.size + 1, 2, none⟩ = some (.slice B3 k3 e3) := hbmY.cell 2
    have g0 : Y.cell? ⟨G, 0, none⟩ = some (.int .i64 tc) := hbgY.cell 0
    have g1 : Y.cell? ⟨G, 1, none⟩ = some (.int .i64 ta) := hbgY.cell 1
    have h0 : Y.cell? ⟨G2, 0, none⟩ = some (.int .i64 9) := hbhY.cell 0
    have h1 : Y.cell? ⟨G2, 1, none⟩ = some (.int .i64 1) := hbhY.cell 1
    have HB0 : Hid (Below w.heap.size w Y.drew) := below_drewN hbelY 1
    clear hbelY hbkY hbmY hbgY hbhY
    go_region_held3 (fun w' => w'.cell? ⟨w.heap.size, 0, none⟩ = some (.slice A1 n1 c1) ∧ w'.cell? ⟨w.heap.size, 1, none⟩ = some (.slice A2 n2 c2) ∧ w'.cell? ⟨w.heap.size, 2, none⟩ = some (.slice A3 n3 c3) ∧ w'.cell? ⟨w.heap.size, 3, none⟩ = some (.slice A4 n4 c4) ∧ w'.cell? ⟨w.heap.size + 1, 0, none⟩ = some (.slice B1 k1 e1) ∧ w'.cell? ⟨w.heap.size + 1, 1, none⟩ = some (.slice B2 k2 e2) ∧ w'.cell? ⟨w.heap.size + 1, 2, none⟩ = some (.slice B3 k3 e3) ∧ w'.cell? ⟨G, 0, none⟩ = some (.int .i64 tc) ∧ w'.cell? ⟨G, 1, none⟩ = some (.int .i64 ta) ∧ w'.cell? ⟨G2, 0, none⟩ = some (.int .i64 9) ∧ w'.cell? ⟨G2, 1, none⟩ = some (.int .i64 1))
      (go_keep)
      (first
        | (go_simp
           go_at_call 23
           refine (HC.out _ (by exact HB0.out)).mono ?_
           rintro e z1 ⟨rfl, hb1⟩
           have zz1 : Y.heap.size ≤ z1.heap.size := hb1.size
           have D1 : Below w.heap.size w z1 := HB0.out.trans (hb1.mono (by first | omega | (simp; omega)))
           have ap0 : z1.cell? ⟨w.heap.size, 0, none⟩ = some (.slice A1 n1 c1) := by rw [hb1.cell (p := ⟨w.heap.size, 0, none⟩) (by first | omega | (simp; omega))]; first | exact p0
           have ap1 : z1.cell? ⟨w.heap.size, 1, none⟩ = some (.slice A2 n2 c2) := by rw [hb1.cell (p := ⟨w.heap.size, 1, none⟩) (by first | omega | (simp; omega))]; first | exact p1
           have ap2 : z1.cell? ⟨w.heap.size, 2, none⟩ = some (.slice A3 n3 c3) := by rw [hb1.cell (p := ⟨w.heap.size, 2, none⟩) (by first | omega | (simp; omega))]; first | exact p2
           have ap3 : z1.cell? ⟨w.heap.size, 3, none⟩ = some (.slice A4 n4 c4) := by rw [hb1.cell (p := ⟨w.heap.size, 3, none⟩) (by first | omega | (simp; omega))]; first | exact p3
           have aq0 : z1.cell? ⟨w.heap.size + 1, 0, none⟩ = some (.slice B1 k1 e1) := by rw [hb1.cell (p := ⟨w.heap.size + 1, 0, none⟩) (by first | omega | (simp; omega))]; first | exact q0
           have aq1 : z1.cell? ⟨w.heap.size + 1, 1, none⟩ = some (.slice B2 k2 e2) := by rw [hb1.cell (p := ⟨w.heap.size + 1, 1, none⟩) (by first | omega | (simp; omega))]; first | exact q1
           have aq2 : z1.cell? ⟨w.heap.size + 1, 2, none⟩ = some (.slice B3 k3 e3) := by rw [hb1.cell (p := ⟨w.heap.size + 1, 2, none⟩) (by first | omega | (simp; omega))]; first | exact q2
           have ag0 : z1.cell? ⟨G, 0, none⟩ = some (.int .i64 tc) := by rw [hb1.cell (p := ⟨G, 0, none⟩) (by first | omega | (simp; omega))]; first | exact g0
           have ag1 : z1.cell? ⟨G, 1, none⟩ = some (.int .i64 ta) := by rw [hb1.cell (p := ⟨G, 1, none⟩) (by first | omega | (simp; omega))]; first | exact g1
           have ah0 : z1.cell? ⟨G2, 0, none⟩ = some (.int .i64 9) := by rw [hb1.cell (p := ⟨G2, 0, none⟩) (by first | omega | (simp; omega))]; first | exact h0
           have ah1 : z1.cell? ⟨G2, 1, none⟩ = some (.int .i64 1) := by rw [hb1.cell (p := ⟨G2, 1, none⟩) (by first | omega | (simp; omega))]; first | exact h1)
        | (go_simp
           go_at_call 24
           refine (fault_any 9 1 _).mono ?_
           rintro e z2 ⟨rfl, hb2⟩
           have D2 : Below w.heap.size w z2 := D1.trans (hb2.mono (by first | omega | (simp; omega)))
           have bp0 : z2.cell? ⟨w.heap.size, 0, none⟩ = some (.slice A1 n1 c1) := by rw [hb2.cell (p := ⟨w.heap.size, 0, none⟩) (by first | omega | (simp; omega))]; first | exact ap0
           have bp1 : z2.cell? ⟨w.heap.size, 1, none⟩ = some (.slice A2 n2 c2) := by rw [hb2.cell (p := ⟨w.heap.size, 1, none⟩) (by first | omega | (simp; omega))]; first | exact ap1
           have bp2 : z2.cell? ⟨w.heap.size, 2, none⟩ = some (.slice A3 n3 c3) := by rw [hb2.cell (p := ⟨w.heap.size, 2, none⟩) (by first | omega | (simp; omega))]; first | exact ap2
           have bp3 : z2.cell? ⟨w.heap.size, 3, none⟩ = some (.slice A4 n4 c4) := by rw [hb2.cell (p := ⟨w.heap.size, 3, none⟩) (by first | omega | (simp; omega))]; first | exact ap3
           have bq0 : z2.cell? ⟨w.heap.size + 1, 0, none⟩ = some (.slice B1 k1 e1) := by rw [hb2.cell (p := ⟨w.heap.size + 1, 0, none⟩) (by first | omega | (simp; omega))]; first | exact aq0
           have bq1 : z2.cell? ⟨w.heap.size + 1, 1, none⟩ = some (.slice B2 k2 e2) := by rw [hb2.cell (p := ⟨w.heap.size + 1, 1, none⟩) (by first | omega | (simp; omega))]; first | exact aq1
           have bq2 : z2.cell? ⟨w.heap.size + 1, 2, none⟩ = some (.slice B3 k3 e3) := by rw [hb2.cell (p := ⟨w.heap.size + 1, 2, none⟩) (by first | omega | (simp; omega))]; first | exact aq2
           have bg0 : z2.cell? ⟨G, 0, none⟩ = some (.int .i64 tc) := by rw [hb2.cell (p := ⟨G, 0, none⟩) (by first | omega | (simp; omega))]; first | exact ag0
           have bg1 : z2.cell? ⟨G, 1, none⟩ = some (.int .i64 ta) := by rw [hb2.cell (p := ⟨G, 1, none⟩) (by first | omega | (simp; omega))]; first | exact ag1
           have bh0 : z2.cell? ⟨G2, 0, none⟩ = some (.int .i64 9) := by rw [hb2.cell (p := ⟨G2, 0, none⟩) (by first | omega | (simp; omega))]; first | exact ah0
           have bh1 : z2.cell? ⟨G2, 1, none⟩ = some (.int .i64 1) := by rw [hb2.cell (p := ⟨G2, 1, none⟩) (by first | omega | (simp; omega))]; first | exact ah1)
        | fail)
    all_goals
      go_wp2_with fail
      go_ret
      refine ⟨ret_bool (by simp), ?_⟩
      exact D2
end Go.Proofs.Ytllgindmcjemeaa
