/- Walk: the law FormHoldsSays (printed by genFhL.py). -/
import Derived.Test.YtkkpfdfoojcljaaGreatFhZ
import Derived.Test.YtkkpfdfoojcljaaGreatFhVV
import Derived.Test.YtkkpfdfoojcljaaGreatFitsBR
import Derived.Test.YtkkpfdfoojcljaaGreatFormB
import Derived.Test.YtkkpfdfoojcljaaGreatLhRS
namespace Go.Proofs.YtkkpfdfoojcljaaGreat
open Go.RowKit

theorem holds_empty : holdsF ⟨[], [], [], []⟩ ⟨[], [], []⟩ = (true, 0, 0) := by decide +kernel
theorem holds_bad {F : FormD} {M : ModelD} {c a : Int} (h : fitsF F M = (c, a)) (hc : ¬ c = 0) : holdsF F M = (false, c, a) := by
  unfold holdsF
  rw [h, if_neg hc]
theorem fits_form {F : FormD} {M : ModelD} {c a : Int} (h : formF F = (c, a)) (hc : ¬ c = 0) : fitsF F M = (c, a) := by
  unfold fitsF
  rw [h, if_neg hc]
theorem fits_only {F : FormD} {M : ModelD} {a : Int} (h : formF F = (0, a)) : fitsF F M = fitsOnly F M := by
  unfold fitsF
  rw [h, if_pos rfl]
theorem fault_two {W : World} {g : Nat} {t : TypeId} {x y a b : Int} {B : Nat} {w : World} (h : Blk W g t #[.int .i64 x, .int .i64 y]) (hb : Below B w W) (hg : B ≤ g) : Blk ((W.setCell ⟨g, 0, none⟩ (.int .i64 a)).setCell ⟨g, 1, none⟩ (.int .i64 b)) g t #[.int .i64 a, .int .i64 b] ∧ Below B w ((W.setCell ⟨g, 0, none⟩ (.int .i64 a)).setCell ⟨g, 1, none⟩ (.int .i64 b)) :=
  ⟨(h.set_ 0 _).set_ 1 _, (hb.setCell (p := ⟨g, 0, none⟩) hg _).setCell (p := ⟨g, 1, none⟩) hg _⟩

set_option maxRecDepth 100000 in
set_option maxHeartbeats 8000000 in
/-- the form has a fault -/
theorem law_form (A1 A2 A3 A4 : Option Addr) (n1 c1 n2 c2 n3 c3 n4 c4 : Nat) (B1 B2 B3 : Option Addr) (k1 e1 k2 e2 k3 e3 : Nat) (F : FormD) (M : ModelD) (tc ta : Int) (w : World) (hF : FormB w w.heap.size A1 A2 A3 A4 n1 n2 n3 n4 F) (hM : ModelB w w.heap.size B1 B2 B3 k1 k2 k3 M) (hnc1 : n1 ≤ c1) (ht : formF F = (tc, ta)) (htc : ¬ tc = 0) :
    Calls Tryz.prog 3 #[.agg #[.slice A1 n1 c1, .slice A2 n2 c2, .slice A3 n3 c3, .slice A4 n4 c4], .agg #[.slice B1 k1 e1, .slice B2 k2 e2, .slice B3 k3 e3]] w fun e w' => e = .returned (.bool true) ∧ Below w.heap.size w w' := by
  have HH := Lib.hid (fun W (hb : Below w.heap.size w W) => holds_any A1 A2 A3 A4 n1 c1 n2 c2 n3 c3 n4 c4 B1 B2 B3 k1 e1 k2 e2 k3 e3 F M W (hF.below hb hb.size) (hM.below hb hb.size) hnc1)
  rw [holds_bad (fits_form ht htc) htc] at HH
  have HD := Lib.hid (fun W (hb : Below w.heap.size w W) => formFault_any A1 A2 A3 A4 n1 c1 n2 c2 n3 c3 n4 c4 F tc ta W (hF.below hb hb.size) ht)
  have hq0 : (tc == 0) = false := by rw [beq_eq_false_iff_ne]; exact htc
  have hq1 : (tc != 0) = true := by rw [bne, hq0]; rfl
  clear hF hM ht htc hnc1
  go_enter Tryz.func3, Tryz.ntmps3
  go_upto_region 1 with fail
  obtain ⟨hb0, hbk, hbm, hs0⟩ := two_boxes w 27 31 #[.slice A1 n1 c1, .slice A2 n2 c2, .slice A3 n3 c3, .slice A4 n4 c4] #[.slice B1 k1 e1, .slice B2 k2 e2, .slice B3 k3 e3]
  generalize (w.alloc (.cells #[.slice A1 n1 c1, .slice A2 n2 c2, .slice A3 n3 c3, .slice A4 n4 c4] 27)).alloc (.cells #[.slice B1 k1 e1, .slice B2 k2 e2, .slice B3 k3 e3] 31) = X at hb0 hbk hbm hs0 ⊢
  have hce : ∀ W, Below X.heap.size X W → W.cell? ⟨w.heap.size, 0, none⟩ = some (.slice A1 n1 c1) ∧ W.cell? ⟨w.heap.size, 1, none⟩ = some (.slice A2 n2 c2) ∧ W.cell? ⟨w.heap.size, 2, none⟩ = some (.slice A3 n3 c3) ∧ W.cell? ⟨w.heap.size, 3, none⟩ = some (.slice A4 n4 c4) ∧
      W.cell? ⟨w.heap.size + 1, 0, none⟩ = some (.slice B1 k1 e1) ∧ W.cell? ⟨w.heap.size + 1, 1, none⟩ = some (.slice B2 k2 e2) ∧ W.cell? ⟨w.heap.size + 1, 2, none⟩ = some (.slice B3 k3 e3) ∧ Below w.heap.size w W ∧ w.heap.size + 1 < W.heap.size ∧ w.heap.size < W.heap.size := fun W hb =>
    ⟨(hbk.below hb (by omega)).cell 0, (hbk.below hb (by omega)).cell 1, (hbk.below hb (by omega)).cell 2, (hbk.below hb (by omega)).cell 3, (hbm.below hb (by omega)).cell 0, (hbm.below hb (by omega)).cell 1, (hbm.below hb (by omega)).cell 2, hb0.trans (hb.mono (by omega)), by have := hb.size; omega, by have := hb.size; omega⟩
  have HCE := Lib.hid hce
  obtain ⟨a0, a1, a2, a3, b0, b1, b2, hww, hz1, hz0⟩ := hce X (Below.refl _ _)
  have HX := Lib.hid hww
  have hXs : w.heap.size ≤ X.heap.size := Nat.le_of_lt hz0
  clear hce hb0 hbk hbm hs0 hww
  go_wp2_with fail
  refine (HH.out X HX.out).mono ?_
  rintro e w1 ⟨rfl, hb1⟩
  clear a0 a1 a2 a3 b0 b1 b2 hz1 hz0
  go_upto_region 2 with fail
  have hbW : Below X.heap.size X (w1.alloc (.cells #[.int .i64 tc, .int .i64 ta] 33)) := hb1.alloc hb1.size _
  have hkE := Blk.new w1 33 #[.int .i64 tc, .int .i64 ta]
  have hEge : X.heap.size ≤ w1.heap.size := hb1.size
  generalize w1.alloc (.cells #[.int .i64 tc, .int .i64 ta] 33) = W at hbW hkE ⊢
  generalize w1.heap.size = gE at hkE hEge ⊢
  obtain ⟨a0, a1, a2, a3, -, -, -, hww, hz1, hz0⟩ := HCE.out W hbW
  have HW := Lib.hid (And.intro hbW (And.intro hkE hww))
  clear hbW hkE hww hb1
  go_wp2_with fail
  refine (HD.out W HW.out.2.2).mono ?_
  rintro e w2 ⟨rfl, hb2⟩
  clear a0 a1 a2 a3 hz1 hz0
  go_upto_region 3 with fail
  have hEW := HW.out.2.1.lt
  have hb2' : Below W.heap.size W (w2.alloc (.cells #[.int .i64 tc, .int .i64 ta] 33)) := hb2.alloc hb2.size _
  have hkT := Blk.new w2 33 #[.int .i64 tc, .int .i64 ta]
  have hTge : W.heap.size ≤ w2.heap.size := hb2.size
  have hkE := HW.out.2.1.below hb2' hEW
  have hbW := HW.out.1.trans (hb2'.mono HW.out.1.size)
  generalize w2.alloc (.cells #[.int .i64 tc, .int .i64 ta] 33) = Y at hb2' hkT hkE hbW ⊢
  generalize w2.heap.size = gT at hkT hTge ⊢
  have hne : gE < gT := by omega
  have hXT : X.heap.size ≤ gT := by omega
  clear hb2 hb2' HW hEW hTge
  have t0 : Y.cell? ⟨gT, 0, none⟩ = some (.int .i64 tc) := hkT.cell 0
  have t1 : Y.cell? ⟨gT, 1, none⟩ = some (.int .i64 ta) := hkT.cell 1
  have u0 : Y.cell? ⟨gE, 0, none⟩ = some (.int .i64 tc) := hkE.cell 0
  have u1 : Y.cell? ⟨gE, 1, none⟩ = some (.int .i64 ta) := hkE.cell 1
  obtain ⟨-, -, -, -, -, -, -, hww, -, -⟩ := HCE.out Y hbW
  have HZ := Lib.hid hww
  clear hbW hkE hkT hww
  go_wp2_with fail
  go_ret
  exact ⟨ret_bool (by simp), HZ.out⟩
set_option maxRecDepth 100000 in
set_option maxHeartbeats 8000000 in
/-- the model has a fault -/
theorem law_fits (A1 A2 A3 A4 : Option Addr) (n1 c1 n2 c2 n3 c3 n4 c4 : Nat) (B1 B2 B3 : Option Addr) (k1 e1 k2 e2 k3 e3 : Nat) (F : FormD) (M : ModelD) (ta qc qa : Int) (w : World) (hF : FormB w w.heap.size A1 A2 A3 A4 n1 n2 n3 n4 F) (hM : ModelB w w.heap.size B1 B2 B3 k1 k2 k3 M) (hnc1 : n1 ≤ c1) (ht : formF F = (0, ta)) (hf : fitsOnly F M = (qc, qa)) (hqc : ¬ qc = 0) :
    Calls Tryz.prog 3 #[.agg #[.slice A1 n1 c1, .slice A2 n2 c2, .slice A3 n3 c3, .slice A4 n4 c4], .agg #[.slice B1 k1 e1, .slice B2 k2 e2, .slice B3 k3 e3]] w fun e w' => e = .returned (.bool true) ∧ Below w.heap.size w w' := by
  have HH := Lib.hid (fun W (hb : Below w.heap.size w W) => holds_any A1 A2 A3 A4 n1 c1 n2 c2 n3 c3 n4 c4 B1 B2 B3 k1 e1 k2 e2 k3 e3 F M W (hF.below hb hb.size) (hM.below hb hb.size) hnc1)
  rw [holds_bad ((fits_only ht).trans hf) hqc] at HH
  have HD := Lib.hid (fun W (hb : Below w.heap.size w W) => formFault_any A1 A2 A3 A4 n1 c1 n2 c2 n3 c3 n4 c4 F 0 ta W (hF.below hb hb.size) ht)
  have hsm := formF_small (F := F) (by rw [ht])
  rw [hF.terms.len, hF.ints.len, hF.atoms.len] at hsm
  have HO := Lib.hid (fun W (hb : Below w.heap.size w W) => fitsFault_any A1 A2 A3 A4 n1 c1 n2 c2 n3 c3 n4 c4 B1 B2 B3 k1 e1 k2 e2 k3 e3 F M qc qa W (hF.below hb hb.size) (hM.below hb hb.size) hsm.1 hsm.2.1 hf)
  have hq1 : (qc != 0) = true := by rw [bne_iff_ne]; exact hqc
  clear hF hM ht hf hsm hqc hnc1
  go_enter Tryz.func3, Tryz.ntmps3
  go_upto_region 1 with fail
  obtain ⟨hb0, hbk, hbm, hs0⟩ := two_boxes w 27 31 #[.slice A1 n1 c1, .slice A2 n2 c2, .slice A3 n3 c3, .slice A4 n4 c4] #[.slice B1 k1 e1, .slice B2 k2 e2, .slice B3 k3 e3]
  generalize (w.alloc (.cells #[.slice A1 n1 c1, .slice A2 n2 c2, .slice A3 n3 c3, .slice A4 n4 c4] 27)).alloc (.cells #[.slice B1 k1 e1, .slice B2 k2 e2, .slice B3 k3 e3] 31) = X at hb0 hbk hbm hs0 ⊢
  have hce : ∀ W, Below X.heap.size X W → W.cell? ⟨w.heap.size, 0, none⟩ = some (.slice A1 n1 c1) ∧ W.cell? ⟨w.heap.size, 1, none⟩ = some (.slice A2 n2 c2) ∧ W.cell? ⟨w.heap.size, 2, none⟩ = some (.slice A3 n3 c3) ∧ W.cell? ⟨w.heap.size, 3, none⟩ = some (.slice A4 n4 c4) ∧
      W.cell? ⟨w.heap.size + 1, 0, none⟩ = some (.slice B1 k1 e1) ∧ W.cell? ⟨w.heap.size + 1, 1, none⟩ = some (.slice B2 k2 e2) ∧ W.cell? ⟨w.heap.size + 1, 2, none⟩ = some (.slice B3 k3 e3) ∧ Below w.heap.size w W ∧ w.heap.size + 1 < W.heap.size ∧ w.heap.size < W.heap.size := fun W hb =>
    ⟨(hbk.below hb (by omega)).cell 0, (hbk.below hb (by omega)).cell 1, (hbk.below hb (by omega)).cell 2, (hbk.below hb (by omega)).cell 3, (hbm.below hb (by omega)).cell 0, (hbm.below hb (by omega)).cell 1, (hbm.below hb (by omega)).cell 2, hb0.trans (hb.mono (by omega)), by have := hb.size; omega, by have := hb.size; omega⟩
  have HCE := Lib.hid hce
  obtain ⟨a0, a1, a2, a3, b0, b1, b2, hww, hz1, hz0⟩ := hce X (Below.refl _ _)
  have HX := Lib.hid hww
  have hXs : w.heap.size ≤ X.heap.size := Nat.le_of_lt hz0
  clear hce hb0 hbk hbm hs0 hww
  go_wp2_with fail
  refine (HH.out X HX.out).mono ?_
  rintro e w1 ⟨rfl, hb1⟩
  clear a0 a1 a2 a3 b0 b1 b2 hz1 hz0
  go_upto_region 2 with fail
  have hbW : Below X.heap.size X (w1.alloc (.cells #[.int .i64 qc, .int .i64 qa] 33)) := hb1.alloc hb1.size _
  have hkE := Blk.new w1 33 #[.int .i64 qc, .int .i64 qa]
  have hEge : X.heap.size ≤ w1.heap.size := hb1.size
  generalize w1.alloc (.cells #[.int .i64 qc, .int .i64 qa] 33) = W at hbW hkE ⊢
  generalize w1.heap.size = gE at hkE hEge ⊢
  obtain ⟨a0, a1, a2, a3, -, -, -, hww, hz1, hz0⟩ := HCE.out W hbW
  have HW := Lib.hid (And.intro hbW (And.intro hkE hww))
  clear hbW hkE hww hb1
  go_wp2_with fail
  refine (HD.out W HW.out.2.2).mono ?_
  rintro e w2 ⟨rfl, hb2⟩
  clear a0 a1 a2 a3 hz1 hz0
  go_upto_region 3 with fail
  have hEW := HW.out.2.1.lt
  have hb2' : Below W.heap.size W (w2.alloc (.cells #[.int .i64 0, .int .i64 ta] 33)) := hb2.alloc hb2.size _
  have hkT := Blk.new w2 33 #[.int .i64 0, .int .i64 ta]
  have hTge : W.heap.size ≤ w2.heap.size := hb2.size
  have hkE := HW.out.2.1.below hb2' hEW
  have hbW := HW.out.1.trans (hb2'.mono HW.out.1.size)
  generalize w2.alloc (.cells #[.int .i64 0, .int .i64 ta] 33) = Y at hb2' hkT hkE hbW ⊢
  generalize w2.heap.size = gT at hkT hTge ⊢
  have hne : gE < gT := by omega
  have hXT : X.heap.size ≤ gT := by omega
  clear hb2 hb2' HW hEW hTge
  have t0 : Y.cell? ⟨gT, 0, none⟩ = some (.int .i64 0) := hkT.cell 0
  obtain ⟨a0, a1, a2, a3, b0, b1, b2, hww, hz1, hz0⟩ := HCE.out Y hbW
  have HY := Lib.hid (And.intro hbW (And.intro hkE (And.intro hkT hww)))
  clear hbW hkE hkT hww
  go_wp2_with fail
  refine (HO.out Y HY.out.2.2.2).mono ?_
  rintro e w3 ⟨rfl, hb3⟩
  clear a0 a1 a2 a3 b0 b1 b2 hz1 hz0 t0
  have hkE3 := HY.out.2.1.below hb3 HY.out.2.1.lt
  have hkT3 := HY.out.2.2.1.below hb3 HY.out.2.2.1.lt
  have u0 := hkT3.frozen 0
  have u1 := hkT3.frozen 1
  have u2 : w3.cell? ⟨gT, 0, none⟩ = some (.int .i64 0) := hkT3.cell 0
  have u3 : w3.cell? ⟨gT, 1, none⟩ = some (.int .i64 ta) := hkT3.cell 1
  have hT3 := hkT3.lt
  have hb3' := HY.out.1.trans (hb3.mono HY.out.1.size)
  have H3 := Lib.hid (And.intro hkE3 (And.intro hkT3 hb3'))
  clear hkE3 hkT3 hb3 hb3' HY
  go_upto_region 5 with fail
  obtain ⟨hkT, hbW⟩ := fault_two (a := qc) (b := qa) H3.out.2.1 H3.out.2.2 hXT
  have hkE := (H3.out.1.far (p := ⟨gT, 0, none⟩) (by show _ ≠ gT; omega) (.int .i64 qc)).far (p := ⟨gT, 1, none⟩) (by show _ ≠ gT; omega) (.int .i64 qa)
  clear u0 u1 u2 u3 hT3 H3
  generalize (w3.setCell ⟨gT, 0, none⟩ (.int .i64 qc)).setCell ⟨gT, 1, none⟩ (.int .i64 qa) = Y2 at hkT hbW hkE ⊢
  have t0 : Y2.cell? ⟨gT, 0, none⟩ = some (.int .i64 qc) := hkT.cell 0
  have t1 : Y2.cell? ⟨gT, 1, none⟩ = some (.int .i64 qa) := hkT.cell 1
  have u0 : Y2.cell? ⟨gE, 0, none⟩ = some (.int .i64 qc) := hkE.cell 0
  have u1 : Y2.cell? ⟨gE, 1, none⟩ = some (.int .i64 qa) := hkE.cell 1
  obtain ⟨-, -, -, -, -, -, -, hww, -, -⟩ := HCE.out Y2 hbW
  have HZ := Lib.hid hww
  clear hbW hkE hkT hww
  go_wp2_with fail
  go_ret
  exact ⟨ret_bool (by simp), HZ.out⟩
set_option maxRecDepth 100000 in
set_option maxHeartbeats 8000000 in
/-- both are without a fault -/
theorem law_both (A1 A2 A3 A4 : Option Addr) (n1 c1 n2 c2 n3 c3 n4 c4 : Nat) (B1 B2 B3 : Option Addr) (k1 e1 k2 e2 k3 e3 : Nat) (F : FormD) (M : ModelD) (ta : Int) (w : World) (hF : FormB w w.heap.size A1 A2 A3 A4 n1 n2 n3 n4 F) (hM : ModelB w w.heap.size B1 B2 B3 k1 k2 k3 M) (hnc1 : n1 ≤ c1) (ht : formF F = (0, ta)) (hfit : fitsF F M = (0, 0)) :
    Calls Tryz.prog 3 #[.agg #[.slice A1 n1 c1, .slice A2 n2 c2, .slice A3 n3 c3, .slice A4 n4 c4], .agg #[.slice B1 k1 e1, .slice B2 k2 e2, .slice B3 k3 e3]] w fun e w' => e = .returned (.bool true) ∧ Below w.heap.size w w' := by
  have HH := Lib.hid (fun W (hb : Below w.heap.size w W) => holds_any A1 A2 A3 A4 n1 c1 n2 c2 n3 c3 n4 c4 B1 B2 B3 k1 e1 k2 e2 k3 e3 F M W (hF.below hb hb.size) (hM.below hb hb.size) hnc1)
  have hf : fitsOnly F M = (0, 0) := (fits_only ht).symm.trans hfit
  have hz : holdsF F M = (formH F M, 0, 0) := by unfold holdsF; rw [hfit, if_pos rfl]
  rw [hz] at HH
  have HD := Lib.hid (fun W (hb : Below w.heap.size w W) => formFault_any A1 A2 A3 A4 n1 c1 n2 c2 n3 c3 n4 c4 F 0 ta W (hF.below hb hb.size) ht)
  have hsm := formF_small (F := F) (by rw [ht])
  rw [hF.terms.len, hF.ints.len, hF.atoms.len] at hsm
  have HO := Lib.hid (fun W (hb : Below w.heap.size w W) => fitsFault_any A1 A2 A3 A4 n1 c1 n2 c2 n3 c3 n4 c4 B1 B2 B3 k1 e1 k2 e2 k3 e3 F M 0 0 W (hF.below hb hb.size) (hM.below hb hb.size) hsm.1 hsm.2.1 hf)
  obtain ⟨nt, ni, na, lh, lt, ln, terms, atoms, nums, nc, cls⟩ := fits_ok hfit
  have l1 := hF.terms.len
  have l2 := hF.ints.len
  have l3 := hF.atoms.len
  have l4 := hF.clauses.len
  have m1 := hM.holds.len
  have m2 := hM.things.len
  have m3 := hM.nums.len
  have e2' : k2 = F.terms.length := by omega
  have e3' : k3 = F.ints.length := by omega
  have e1' : k1 = F.atoms.length := by omega
  have HRF := Lib.hid (fun W (hb : Below w.heap.size w W) => refHolds_any parts_spec A1 A2 A3 A4 n1 c1 n2 c2 n3 c3 n4 c4 B1 B2 B3 k1 e1 k2 e2 k3 e3 F M W (hF.below hb hb.size) (hM.below hb hb.size) (by omega) (by omega) (by omega) (by omega) (by omega) (by omega) (by omega)
      (fun t ht => ⟨by have := (terms t ht).1; omega, by rw [e2']; exact (terms t ht).2⟩) (by rw [e2', e3']; exact atoms) nums (fun l hl => ⟨by have := (cls l hl).1; omega, by rw [e1']; exact (cls l hl).2⟩))
  have HE := Lib.hid (fun W => holds_any none none none none 0 0 0 0 0 0 0 0 none none none 0 0 0 0 0 0 ⟨[], [], [], []⟩ ⟨[], [], []⟩ W ⟨Arr.nil_, Arr.nil_, Arr.nil_, Arr.nil_, by omega, by omega, by omega, by omega⟩ ⟨Arr.nil_, Arr.nil_, Arr.nil_, by omega, by omega, by omega⟩ (Nat.le_refl _))
  rw [holds_empty] at HE
  obtain ⟨R, hR⟩ : ∃ R, formH F M = R := ⟨_, rfl⟩
  rw [hR] at HH HRF
  clear hF hM ht hf hsm hnc1 hfit hz hR nt ni na lh lt ln terms atoms nums nc cls l1 l2 l3 l4 m1 m2 m3 e1' e2' e3'
  go_enter Tryz.func3, Tryz.ntmps3
  go_upto_region 1 with fail
  obtain ⟨hb0, hbk, hbm, hs0⟩ := two_boxes w 27 31 #[.slice A1 n1 c1, .slice A2 n2 c2, .slice A3 n3 c3, .slice A4 n4 c4] #[.slice B1 k1 e1, .slice B2 k2 e2, .slice B3 k3 e3]
  generalize (w.alloc (.cells #[.slice A1 n1 c1, .slice A2 n2 c2, .slice A3 n3 c3, .slice A4 n4 c4] 27)).alloc (.cells #[.slice B1 k1 e1, .slice B2 k2 e2, .slice B3 k3 e3] 31) = X at hb0 hbk hbm hs0 ⊢
  have hce : ∀ W, Below X.heap.size X W → W.cell? ⟨w.heap.size, 0, none⟩ = some (.slice A1 n1 c1) ∧ W.cell? ⟨w.heap.size, 1, none⟩ = some (.slice A2 n2 c2) ∧ W.cell? ⟨w.heap.size, 2, none⟩ = some (.slice A3 n3 c3) ∧ W.cell? ⟨w.heap.size, 3, none⟩ = some (.slice A4 n4 c4) ∧
      W.cell? ⟨w.heap.size + 1, 0, none⟩ = some (.slice B1 k1 e1) ∧ W.cell? ⟨w.heap.size + 1, 1, none⟩ = some (.slice B2 k2 e2) ∧ W.cell? ⟨w.heap.size + 1, 2, none⟩ = some (.slice B3 k3 e3) ∧ Below w.heap.size w W ∧ w.heap.size + 1 < W.heap.size ∧ w.heap.size < W.heap.size := fun W hb =>
    ⟨(hbk.below hb (by omega)).cell 0, (hbk.below hb (by omega)).cell 1, (hbk.below hb (by omega)).cell 2, (hbk.below hb (by omega)).cell 3, (hbm.below hb (by omega)).cell 0, (hbm.below hb (by omega)).cell 1, (hbm.below hb (by omega)).cell 2, hb0.trans (hb.mono (by omega)), by have := hb.size; omega, by have := hb.size; omega⟩
  have HCE := Lib.hid hce
  obtain ⟨a0, a1, a2, a3, b0, b1, b2, hww, hz1, hz0⟩ := hce X (Below.refl _ _)
  have HX := Lib.hid hww
  have hXs : w.heap.size ≤ X.heap.size := Nat.le_of_lt hz0
  clear hce hb0 hbk hbm hs0 hww
  go_wp2_with fail
  refine (HH.out X HX.out).mono ?_
  rintro e w1 ⟨rfl, hb1⟩
  clear a0 a1 a2 a3 b0 b1 b2 hz1 hz0
  go_upto_region 2 with fail
  have hbW : Below X.heap.size X (w1.alloc (.cells #[.int .i64 0, .int .i64 0] 33)) := hb1.alloc hb1.size _
  have hkE := Blk.new w1 33 #[.int .i64 0, .int .i64 0]
  have hEge : X.heap.size ≤ w1.heap.size := hb1.size
  generalize w1.alloc (.cells #[.int .i64 0, .int .i64 0] 33) = W at hbW hkE ⊢
  generalize w1.heap.size = gE at hkE hEge ⊢
  obtain ⟨a0, a1, a2, a3, -, -, -, hww, hz1, hz0⟩ := HCE.out W hbW
  have HW := Lib.hid (And.intro hbW (And.intro hkE hww))
  clear hbW hkE hww hb1
  go_wp2_with fail
  refine (HD.out W HW.out.2.2).mono ?_
  rintro e w2 ⟨rfl, hb2⟩
  clear a0 a1 a2 a3 hz1 hz0
  go_upto_region 3 with fail
  have hEW := HW.out.2.1.lt
  have hb2' : Below W.heap.size W (w2.alloc (.cells #[.int .i64 0, .int .i64 ta] 33)) := hb2.alloc hb2.size _
  have hkT := Blk.new w2 33 #[.int .i64 0, .int .i64 ta]
  have hTge : W.heap.size ≤ w2.heap.size := hb2.size
  have hkE := HW.out.2.1.below hb2' hEW
  have hbW := HW.out.1.trans (hb2'.mono HW.out.1.size)
  generalize w2.alloc (.cells #[.int .i64 0, .int .i64 ta] 33) = Y at hb2' hkT hkE hbW ⊢
  generalize w2.heap.size = gT at hkT hTge ⊢
  have hne : gE < gT := by omega
  have hXT : X.heap.size ≤ gT := by omega
  clear hb2 hb2' HW hEW hTge
  have t0 : Y.cell? ⟨gT, 0, none⟩ = some (.int .i64 0) := hkT.cell 0
  obtain ⟨a0, a1, a2, a3, b0, b1, b2, hww, hz1, hz0⟩ := HCE.out Y hbW
  have HY := Lib.hid (And.intro hbW (And.intro hkE (And.intro hkT hww)))
  clear hbW hkE hkT hww
  go_wp2_with fail
  refine (HO.out Y HY.out.2.2.2).mono ?_
  rintro e w3 ⟨rfl, hb3⟩
  clear a0 a1 a2 a3 b0 b1 b2 hz1 hz0 t0
  have hkE3 := HY.out.2.1.below hb3 HY.out.2.1.lt
  have hkT3 := HY.out.2.2.1.below hb3 HY.out.2.2.1.lt
  have u0 := hkT3.frozen 0
  have u1 := hkT3.frozen 1
  have u2 : w3.cell? ⟨gT, 0, none⟩ = some (.int .i64 0) := hkT3.cell 0
  have u3 : w3.cell? ⟨gT, 1, none⟩ = some (.int .i64 ta) := hkT3.cell 1
  have hT3 := hkT3.lt
  have hb3' := HY.out.1.trans (hb3.mono HY.out.1.size)
  have H3 := Lib.hid (And.intro hkE3 (And.intro hkT3 hb3'))
  clear hkE3 hkT3 hb3 hb3' HY
  go_upto_region 5 with fail
  obtain ⟨hkT, hbW⟩ := fault_two (a := 0) (b := 0) H3.out.2.1 H3.out.2.2 hXT
  have hkE := (H3.out.1.far (p := ⟨gT, 0, none⟩) (by show _ ≠ gT; omega) (.int .i64 0)).far (p := ⟨gT, 1, none⟩) (by show _ ≠ gT; omega) (.int .i64 0)
  clear u0 u1 u2 u3 hT3 H3
  generalize (w3.setCell ⟨gT, 0, none⟩ (.int .i64 0)).setCell ⟨gT, 1, none⟩ (.int .i64 0) = Y2 at hkT hbW hkE ⊢
  have t0 : Y2.cell? ⟨gT, 0, none⟩ = some (.int .i64 0) := hkT.cell 0
  have t1 : Y2.cell? ⟨gT, 1, none⟩ = some (.int .i64 0) := hkT.cell 1
  have HY2 := Lib.hid (And.intro hkE (And.intro hkT hbW))
  clear hbW hkE hkT
  go_wp2_with fail
  refine (HE.out Y2).mono ?_
  rintro e w4 ⟨rfl, hb4⟩
  clear t0 t1
  go_upto_region 8 with fail
  have hbZ : Below Y2.heap.size Y2 (w4.alloc (.cells #[.int .i64 0, .int .i64 0] 33)) := hb4.alloc hb4.size _
  have hkG := Blk.new w4 33 #[.int .i64 0, .int .i64 0]
  have hkE := HY2.out.1.below hbZ HY2.out.1.lt
  have hkT := HY2.out.2.1.below hbZ HY2.out.2.1.lt
  have hbW := HY2.out.2.2.trans (hbZ.mono HY2.out.2.2.size)
  generalize w4.alloc (.cells #[.int .i64 0, .int .i64 0] 33) = Z at hbZ hkG hkE hkT hbW ⊢
  generalize w4.heap.size = gG at hkG ⊢
  have v0 : Z.cell? ⟨gT, 0, none⟩ = some (.int .i64 0) := hkT.cell 0
  have v1 : Z.cell? ⟨gT, 1, none⟩ = some (.int .i64 0) := hkT.cell 1
  have v2 : Z.cell? ⟨gE, 0, none⟩ = some (.int .i64 0) := hkE.cell 0
  have v3 : Z.cell? ⟨gE, 1, none⟩ = some (.int .i64 0) := hkE.cell 1
  obtain ⟨a0, a1, a2, a3, b0, b1, b2, hww, hz1, hz0⟩ := HCE.out Z hbW
  have HZ := Lib.hid (And.intro hww (And.intro hkG hkG.lt))
  clear hbZ hkG hkE hkT hbW hww hb4 HY2
  go_wp2_with fail
  refine (HRF.out Z HZ.out.1).mono ?_
  rintro e w5 ⟨rfl, hb5⟩
  have g0 : w5.cell? ⟨gG, 0, none⟩ = some (.int .i64 0) := (hb5.cell (p := ⟨gG, 0, none⟩) HZ.out.2.2).trans (HZ.out.2.1.cell 0)
  have H5 := Lib.hid (HZ.out.1.trans (hb5.mono HZ.out.1.size))
  clear a0 a1 a2 a3 b0 b1 b2 hz1 hz0 v0 v1 v2 v3 hb5
  go_wp2_with fail
  go_ret
  exact ⟨ret_bool (by simp), H5.out⟩
theorem formHoldsSays_any (A1 A2 A3 A4 : Option Addr) (n1 c1 n2 c2 n3 c3 n4 c4 : Nat) (B1 B2 B3 : Option Addr) (k1 e1 k2 e2 k3 e3 : Nat) (F : FormD) (M : ModelD) (w : World) (hF : FormB w w.heap.size A1 A2 A3 A4 n1 n2 n3 n4 F) (hM : ModelB w w.heap.size B1 B2 B3 k1 k2 k3 M) (hnc1 : n1 ≤ c1) :
    Calls Tryz.prog 3 #[.agg #[.slice A1 n1 c1, .slice A2 n2 c2, .slice A3 n3 c3, .slice A4 n4 c4], .agg #[.slice B1 k1 e1, .slice B2 k2 e2, .slice B3 k3 e3]] w fun e w' => e = .returned (.bool true) ∧ Below w.heap.size w w' := by
  rcases hq : formF F with ⟨tc, ta⟩
  by_cases htc : tc = 0
  · subst htc
    rcases hf : fitsOnly F M with ⟨qc, qa⟩
    by_cases hqc : qc = 0
    · subst hqc
      exact law_both A1 A2 A3 A4 n1 c1 n2 c2 n3 c3 n4 c4 B1 B2 B3 k1 e1 k2 e2 k3 e3 F M ta w hF hM hnc1 hq (fits_code (by rw [fits_only hq, hf]))
    · exact law_fits A1 A2 A3 A4 n1 c1 n2 c2 n3 c3 n4 c4 B1 B2 B3 k1 e1 k2 e2 k3 e3 F M ta qc qa w hF hM hnc1 hq hf hqc
  · exact law_form A1 A2 A3 A4 n1 c1 n2 c2 n3 c3 n4 c4 B1 B2 B3 k1 e1 k2 e2 k3 e3 F M tc ta w hF hM hnc1 hq htc
end Go.Proofs.YtkkpfdfoojcljaaGreat
