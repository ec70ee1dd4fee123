/- Walk: form.Holds of a form and a model without a fault. · Walk: form.Holds of a form and a model with a fault. -/
import Derived.Test.YtkkpfdfoojcljaaGreatLhO
namespace Go.Proofs.YtkkpfdfoojcljaaGreat
open Go.RowKit

/-- numbers that have to be whole are whole -/
def intsH (M : ModelD) : List Bool → Nat → Bool
  | [], _ => true
  | b :: r, i => if b = true ∧ ¬ (M.nums[i]?.map FracD.den).getD 1 = 1 then false else intsH M r (i + 1)
def formH (F : FormD) (M : ModelD) : Bool := intsH M F.ints 0 && (clsH M.holds F.clauses && atomsH M F.atoms 0 && funH M F.terms F.terms 0)

set_option maxRecDepth 100000 in
set_option maxHeartbeats 8000000 in
theorem holdsOk_any (A1 A2 A3 A4 : Option Addr) (n1 c1 n2 c2 n3 c3 n4 c4 : Nat) (B1 B2 B3 : Option Addr) (k1 e1 k2 e2 k3 e3 : Nat) (F : FormD) (M : ModelD) (w : World) (hF : FormB w w.heap.size A1 A2 A3 A4 n1 n2 n3 n4 F) (hM : ModelB w w.heap.size B1 B2 B3 k1 k2 k3 M)
    (hfit : fitsF F M = (0, 0)) (h1 : n1 ≤ 60) (h2 : k2 = n1) (h3 : n3 ≤ 120) (h4 : k1 = n3) (h5 : n2 ≤ 12) (h6 : k3 = n2) (h7 : n4 ≤ 1000000) (hnc1 : n1 ≤ c1)
    (hokt : ∀ t ∈ F.terms, t.kids.length ≤ 1000 ∧ ∀ x ∈ t.kids, 0 ≤ x ∧ x < (k2 : Int)) (hoka : ∀ x ∈ F.atoms, AtomOk k2 k3 x) (hG : ∀ y ∈ M.nums, fracGood y.num y.den = true) (hcl : ∀ l ∈ F.clauses, l.length ≤ 1000000 ∧ ∀ x ∈ l, LitOk k1 x) :
    Calls Tryz.prog 4 #[.agg #[.slice A1 n1 c1, .slice A2 n2 c2, .slice A3 n3 c3, .slice A4 n4 c4], .agg #[.slice B1 k1 e1, .slice B2 k2 e2, .slice B3 k3 e3]] w fun e w' => e = .returned (.tuple #[.bool (formH F M), .agg #[.int .i64 0, .int .i64 0]]) ∧ Below w.heap.size w w' := by
  subst h2 h4 h6
  have HFIT := Lib.hid (fun W (hb : Below w.heap.size w W) => fits_any A1 A2 A3 A4 k2 c1 k3 c2 k1 c3 n4 c4 B1 B2 B3 k1 e1 k2 e2 k3 e3 F M 0 0 W (hF.below hb hb.size) (hM.below hb hb.size) hfit)
  have HALL := Lib.hid (fun W (hb : Below w.heap.size w W) => all_any A4 n4 c4 F.clauses B1 k1 e1 M.holds W (hF.below hb hb.size).clauses h7 (hM.below hb hb.size).holds h3 hcl)
  have HATM := Lib.hid (fun W (hb : Below w.heap.size w W) => atoms_any A1 A2 A3 A4 k2 c1 k3 c2 k1 c3 n4 c4 B1 B2 B3 k1 e1 k2 e2 k3 e3 F M W (hF.below hb hb.size) (hM.below hb hb.size) h3 rfl h5 hoka hG)
  have HFUN := Lib.hid (fun W (hb : Below w.heap.size w W) => functions_any A1 A2 A3 A4 k2 c1 k3 c2 k1 c3 n4 c4 B1 B2 B3 k1 e1 k2 e2 k3 e3 F M W (hF.below hb hb.size) (hM.below hb hb.size) h1 rfl hnc1 hokt)
  obtain ⟨R, hR⟩ : ∃ R, intsH M F.ints 0 = R := ⟨_, rfl⟩
  obtain ⟨RC, hRC⟩ : ∃ R, clsH M.holds F.clauses = R := ⟨_, rfl⟩
  obtain ⟨RA, hRA⟩ : ∃ R, atomsH M F.atoms 0 = R := ⟨_, rfl⟩
  obtain ⟨RF, hRF⟩ : ∃ R, funH M F.terms F.terms 0 = R := ⟨_, rfl⟩
  unfold formH
  rw [hRC] at HALL ⊢
  rw [hRA] at HATM ⊢
  rw [hRF] at HFUN ⊢
  rw [hR]
  have HR := Lib.hid hR
  have HD := Lib.hid (And.intro hF hM)
  clear hF hM hfit hokt hoka hG hcl hR hRC hRA hRF h7 hnc1
  go_enter Tryz.func4, Tryz.ntmps4
  go_upto_region 1 with fail
  obtain ⟨hb0, hbk, hbm, hbf⟩ := three_boxes w 27 31 33 #[.slice A1 k2 c1, .slice A2 k3 c2, .slice A3 k1 c3, .slice A4 n4 c4] #[.slice B1 k1 e1, .slice B2 k2 e2, .slice B3 k3 e3] #[.int .i64 0, .int .i64 0]
  have hs0 : (((w.alloc (.cells #[.slice A1 k2 c1, .slice A2 k3 c2, .slice A3 k1 c3, .slice A4 n4 c4] 27)).alloc (.cells #[.slice B1 k1 e1, .slice B2 k2 e2, .slice B3 k3 e3] 31)).alloc (.cells #[.int .i64 0, .int .i64 0] 33)).heap.size = w.heap.size + 3 := by simp
  generalize ((w.alloc (.cells #[.slice A1 k2 c1, .slice A2 k3 c2, .slice A3 k1 c3, .slice A4 n4 c4] 27)).alloc (.cells #[.slice B1 k1 e1, .slice B2 k2 e2, .slice B3 k3 e3] 31)).alloc (.cells #[.int .i64 0, .int .i64 0] 33) = X at hb0 hbk hbm hbf hs0 ⊢
  have a0 : X.cell? ⟨w.heap.size, 0, none⟩ = some (.slice A1 k2 c1) := hbk.cell 0
  have a1 : X.cell? ⟨w.heap.size, 1, none⟩ = some (.slice A2 k3 c2) := hbk.cell 1
  have a2 : X.cell? ⟨w.heap.size, 2, none⟩ = some (.slice A3 k1 c3) := hbk.cell 2
  have a3 : X.cell? ⟨w.heap.size, 3, none⟩ = some (.slice A4 n4 c4) := hbk.cell 3
  have b0 : X.cell? ⟨w.heap.size + 1, 0, none⟩ = some (.slice B1 k1 e1) := hbm.cell 0
  have b1 : X.cell? ⟨w.heap.size + 1, 1, none⟩ = some (.slice B2 k2 e2) := hbm.cell 1
  have b2 : X.cell? ⟨w.heap.size + 1, 2, none⟩ = some (.slice B3 k3 e3) := hbm.cell 2
  have hce : ∀ W, Below X.heap.size X W → W.cell? ⟨w.heap.size, 0, none⟩ = some (.slice A1 k2 c1) ∧ W.cell? ⟨w.heap.size, 1, none⟩ = some (.slice A2 k3 c2) ∧ W.cell? ⟨w.heap.size, 2, none⟩ = some (.slice A3 k1 c3) ∧ W.cell? ⟨w.heap.size, 3, none⟩ = some (.slice A4 n4 c4) ∧
      W.cell? ⟨w.heap.size + 1, 0, none⟩ = some (.slice B1 k1 e1) ∧ W.cell? ⟨w.heap.size + 1, 1, none⟩ = some (.slice B2 k2 e2) ∧ W.cell? ⟨w.heap.size + 1, 2, none⟩ = some (.slice B3 k3 e3) ∧ Blk W (w.heap.size + 1 + 1) 33 #[.int .i64 0, .int .i64 0] ∧ Below w.heap.size w W := fun W hb =>
    ⟨(hbk.below hb (by omega)).cell 0, (hbk.below hb (by omega)).cell 1, (hbk.below hb (by omega)).cell 2, (hbk.below hb (by omega)).cell 3, (hbm.below hb (by omega)).cell 0, (hbm.below hb (by omega)).cell 1, (hbm.below hb (by omega)).cell 2, hbf.1.below hb (by omega), hb0.trans (hb.mono (by omega))⟩
  have HCE := Lib.hid hce
  clear hce
  have HX := Lib.hid (And.intro hb0 (And.intro hs0 (And.intro hbk (And.intro hbm hbf))))
  clear hb0 hs0 hbf hbk hbm
  go_wp2_with fail
  refine (HFIT.out X HX.out.1).mono ?_
  rintro e w1 ⟨rfl, hb1⟩
  have HB1 := Lib.hid hb1
  have hw1 : X.heap.size ≤ w1.heap.size := hb1.size
  have hxs := HX.out.2.1
  have hw2 : w.heap.size < w1.heap.size := by omega
  obtain ⟨a0', a1', -⟩ := HCE.out w1 hb1
  clear hb1 a0 a1 a2 a3 b0 b1 b2
  go_wp2_with fail
  clear a0' a1'
  go_loopw [19] (fun s wr => ∃ k : Nat, k ≤ k3 ∧ s = .int .i64 k ∧ Hid (intsH M (F.ints.drop k) k = R) ∧ Hid (Below w1.heap.size w1 wr)) (fun s _ => k3 - (intOf s).toNat)
  case atStart => exact ⟨0, Nat.zero_le _, rfl, HR, Lib.hid ((Below.refl _ _).alloc (Nat.le_refl _) _)⟩
  case round =>
    obtain ⟨k, hk, rfl, HK, HB⟩ := hrel
    have hXr : Below X.heap.size X wr := HB1.out.trans (HB.out.mono hw1)
    obtain ⟨a0, a1, a2, a3, b0, b1, b2, hf, hww⟩ := HCE.out wr hXr
    have hXz := hXr.size
    by_cases hlt : k < k3
    · obtain ⟨b, off, hx, rfl, hb, p0⟩ := bools_get (HD.out.1.ints.below stays_bool hww (Nat.le_refl _)) hlt
      obtain ⟨b', off', hy, rfl, hb', n0, n1⟩ := fracs_at (HD.out.2.nums.below stays_frac hww (Nat.le_refl _)) hlt
      have e9 := HK.out
      rw [drop_cons hx, intsH, List.getElem?_eq_getElem hy, Option.map_some, Option.getD_some] at e9
      generalize F.ints[k] = y at p0 e9
      generalize M.nums[k] = z at n0 n1 e9
      obtain ⟨zn, zd⟩ := z
      simp only at n0 n1 e9
      have hi0 : (0 : Int) ≤ (k : Int) := by omega
      have hi1 : (k : Int) < (k3 : Int) := by omega
      have u0 := hf.frozen 0
      have u1 := hf.frozen 1
      have v0 : wr.cell? ⟨w.heap.size + 1 + 1, 0, none⟩ = some (.int .i64 0) := hf.cell 0
      have v1 : wr.cell? ⟨w.heap.size + 1 + 1, 1, none⟩ = some (.int .i64 0) := hf.cell 1
      have H9 := Lib.hid (And.intro hf hww)
      clear hf hx hy HK a0 a2 a3 b0 b1
      cases y with
      | false =>
        rw [if_neg (by simp)] at e9
        have H8 := Lib.hid e9
        clear e9
        go_wp2_with fail
        go_roundw
        case rel => exact ⟨k + 1, by omega, by go_num, H8, HB⟩
        case measure => simp [intOf]; omega
      | true =>
        by_cases hd : zd = 1
        · subst hd
          rw [if_neg (by simp)] at e9
          have H8 := Lib.hid e9
          clear e9
          go_wp2_with fail
          go_roundw
          case rel => exact ⟨k + 1, by omega, by go_num, H8, HB⟩
          case measure => simp [intOf]; omega
        · rw [if_pos ⟨rfl, hd⟩] at e9
          subst e9
          have hq : (zd != 1) = true := by simpa using hd
          clear hd
          go_wp2_with fail
          obtain ⟨Z, hZ⟩ : ∃ Z, Z = (wr.setCell ⟨w.heap.size + 1 + 1, 0, none⟩ (.int .i64 0)).setCell ⟨w.heap.size + 1 + 1, 1, none⟩ (.int .i64 0) := ⟨_, rfl⟩
          obtain ⟨⟨z0, z1⟩, z2⟩ := fault_set _ _ hZ H9.out.1 H9.out.2 (by omega)
          rw [← hZ]
          refine bodyPost_ret (v := .tuple #[.bool false, .agg #[.int .i64 0, .int .i64 0]]) (by simp [results, Tryz.results4, go_sem, z0, z1]) rfl ⟨by simp, z2⟩
    · obtain rfl : k = k3 := by omega
      have e9 := HK.out
      rw [List.drop_of_length_le (by have := HD.out.1.ints.len; omega), intsH] at e9
      subst e9
      have HXR := Lib.hid hXr
      have HWW := Lib.hid hww
      clear hf hww hXr HK
      go_wp2_with fail
      refine (HALL.out wr HWW.out).mono ?_
      rintro e w2 ⟨rfl, hb2⟩
      clear a0 a1 a2 a3 b0 b1 b2
      have hX2 := HXR.out.trans (hb2.mono hXz)
      have hXz2 := hX2.size
      obtain ⟨a0, a1, a2, a3, b0, b1, b2, hf, hww2⟩ := HCE.out w2 hX2
      have H2 := Lib.hid hX2
      have HWW2 := Lib.hid hww2
      have u0 := hf.frozen 0
      have u1 := hf.frozen 1
      have v0 : w2.cell? ⟨w.heap.size + 1 + 1, 0, none⟩ = some (.int .i64 0) := hf.cell 0
      have v1 : w2.cell? ⟨w.heap.size + 1 + 1, 1, none⟩ = some (.int .i64 0) := hf.cell 1
      have H9 := Lib.hid (And.intro hf hww2)
      clear hb2 hX2 hf hww2
      cases RC with
      | false =>
        go_wp2_with fail
        obtain ⟨Z, hZ⟩ : ∃ Z, Z = (w2.setCell ⟨w.heap.size + 1 + 1, 0, none⟩ (.int .i64 0)).setCell ⟨w.heap.size + 1 + 1, 1, none⟩ (.int .i64 0) := ⟨_, rfl⟩
        obtain ⟨⟨z0, z1⟩, z2⟩ := fault_set _ _ hZ H9.out.1 H9.out.2 (by omega)
        rw [← hZ]
        refine bodyPost_ret (v := .tuple #[.bool false, .agg #[.int .i64 0, .int .i64 0]]) (by simp [results, Tryz.results4, go_sem, z0, z1]) rfl ⟨by simp, z2⟩
      | true =>
        go_wp2_with fail
        refine (HATM.out w2 HWW2.out).mono ?_
        rintro e w3 ⟨rfl, hb3⟩
        clear a0 a1 a2 a3 b0 b1 b2 u0 u1 v0 v1 H9
        have hX3 := H2.out.trans (hb3.mono hXz2)
        have hXz3 := hX3.size
        obtain ⟨a0, a1, a2, a3, b0, b1, b2, hf, hww3⟩ := HCE.out w3 hX3
        have H3 := Lib.hid hX3
        have HWW3 := Lib.hid hww3
        have u0 := hf.frozen 0
        have u1 := hf.frozen 1
        have v0 : w3.cell? ⟨w.heap.size + 1 + 1, 0, none⟩ = some (.int .i64 0) := hf.cell 0
        have v1 : w3.cell? ⟨w.heap.size + 1 + 1, 1, none⟩ = some (.int .i64 0) := hf.cell 1
        have H9 := Lib.hid (And.intro hf hww3)
        clear hb3 hX3 hf hww3
        cases RA with
        | false =>
          go_wp2_with fail
          obtain ⟨Z, hZ⟩ : ∃ Z, Z = (w3.setCell ⟨w.heap.size + 1 + 1, 0, none⟩ (.int .i64 0)).setCell ⟨w.heap.size + 1 + 1, 1, none⟩ (.int .i64 0) := ⟨_, rfl⟩
          obtain ⟨⟨z0, z1⟩, z2⟩ := fault_set _ _ hZ H9.out.1 H9.out.2 (by omega)
          rw [← hZ]
          refine bodyPost_ret (v := .tuple #[.bool false, .agg #[.int .i64 0, .int .i64 0]]) (by simp [results, Tryz.results4, go_sem, z0, z1]) rfl ⟨by simp, z2⟩
        | true =>
          go_wp2_with fail
          refine (HFUN.out w3 HWW3.out).mono ?_
          rintro e w4 ⟨rfl, hb4⟩
          clear a0 a1 a2 a3 b0 b1 b2 u0 u1 v0 v1 H9
          have hX4 := H3.out.trans (hb4.mono hXz3)
          obtain ⟨-, -, -, -, -, -, -, hf, hww4⟩ := HCE.out w4 hX4
          have u0 := hf.frozen 0
          have u1 := hf.frozen 1
          have v0 : w4.cell? ⟨w.heap.size + 1 + 1, 0, none⟩ = some (.int .i64 0) := hf.cell 0
          have v1 : w4.cell? ⟨w.heap.size + 1 + 1, 1, none⟩ = some (.int .i64 0) := hf.cell 1
          have H9 := Lib.hid (And.intro hf hww4)
          clear hb4 hX4 hf hww4
          go_wp2_with fail
          obtain ⟨Z, hZ⟩ : ∃ Z, Z = (w4.setCell ⟨w.heap.size + 1 + 1, 0, none⟩ (.int .i64 0)).setCell ⟨w.heap.size + 1 + 1, 1, none⟩ (.int .i64 0) := ⟨_, rfl⟩
          obtain ⟨⟨z0, z1⟩, z2⟩ := fault_set _ _ hZ H9.out.1 H9.out.2 (by omega)
          rw [← hZ]
          refine bodyPost_ret (v := .tuple #[.bool RF, .agg #[.int .i64 0, .int .i64 0]]) (by simp [results, Tryz.results4, go_sem, z0, z1]) rfl ⟨by simp, z2⟩
end Go.Proofs.YtkkpfdfoojcljaaGreat
namespace Go.Proofs.YtkkpfdfoojcljaaGreat
open Go.RowKit

set_option maxRecDepth 100000 in
set_option maxHeartbeats 8000000 in
theorem holdsBad_any (A1 A2 A3 A4 : Option Addr) (n1 c1 n2 c2 n3 c3 n4 c4 : Nat) (B1 B2 B3 : Option Addr) (k1 e1 k2 e2 k3 e3 : Nat) (F : FormD) (M : ModelD) (qc qa : Int) (w : World) (hF : FormB w w.heap.size A1 A2 A3 A4 n1 n2 n3 n4 F) (hM : ModelB w w.heap.size B1 B2 B3 k1 k2 k3 M)
    (hfit : fitsF F M = (qc, qa)) (hq : ¬ qc = 0) :
    Calls Tryz.prog 4 #[.agg #[.slice A1 n1 c1, .slice A2 n2 c2, .slice A3 n3 c3, .slice A4 n4 c4], .agg #[.slice B1 k1 e1, .slice B2 k2 e2, .slice B3 k3 e3]] w fun e w' => e = .returned (.tuple #[.bool false, .agg #[.int .i64 qc, .int .i64 qa]]) ∧ Below w.heap.size w w' := by
  have HFIT := Lib.hid (fun W (hb : Below w.heap.size w W) => fits_any A1 A2 A3 A4 n1 c1 n2 c2 n3 c3 n4 c4 B1 B2 B3 k1 e1 k2 e2 k3 e3 F M qc qa W (hF.below hb hb.size) (hM.below hb hb.size) hfit)
  have hq1 : (qc != 0) = true := by simpa using hq
  clear hF hM hfit hq
  go_enter Tryz.func4, Tryz.ntmps4
  go_upto_region 1 with fail
  obtain ⟨hb0, hbk, hbm, hbf⟩ := three_boxes w 27 31 33 #[.slice A1 n1 c1, .slice A2 n2 c2, .slice A3 n3 c3, .slice A4 n4 c4] #[.slice B1 k1 e1, .slice B2 k2 e2, .slice B3 k3 e3] #[.int .i64 0, .int .i64 0]
  generalize ((w.alloc (.cells #[.slice A1 n1 c1, .slice A2 n2 c2, .slice A3 n3 c3, .slice A4 n4 c4] 27)).alloc (.cells #[.slice B1 k1 e1, .slice B2 k2 e2, .slice B3 k3 e3] 31)).alloc (.cells #[.int .i64 0, .int .i64 0] 33) = X at hb0 hbk hbm hbf ⊢
  have a0 : X.cell? ⟨w.heap.size, 0, none⟩ = some (.slice A1 n1 c1) := hbk.cell 0
  have a1 : X.cell? ⟨w.heap.size, 1, none⟩ = some (.slice A2 n2 c2) := hbk.cell 1
  have a2 : X.cell? ⟨w.heap.size, 2, none⟩ = some (.slice A3 n3 c3) := hbk.cell 2
  have a3 : X.cell? ⟨w.heap.size, 3, none⟩ = some (.slice A4 n4 c4) := hbk.cell 3
  have b0 : X.cell? ⟨w.heap.size + 1, 0, none⟩ = some (.slice B1 k1 e1) := hbm.cell 0
  have b1 : X.cell? ⟨w.heap.size + 1, 1, none⟩ = some (.slice B2 k2 e2) := hbm.cell 1
  have b2 : X.cell? ⟨w.heap.size + 1, 2, none⟩ = some (.slice B3 k3 e3) := hbm.cell 2
  have HX := Lib.hid (And.intro hb0 hbf)
  clear hb0 hbf hbk hbm
  go_wp2_with fail
  refine (HFIT.out X HX.out.1).mono ?_
  rintro e w1 ⟨rfl, hb1⟩
  have hXs := HX.out.2.2
  have hf := HX.out.2.1.below hb1 (by omega)
  have hww := HX.out.1.trans (hb1.mono (by omega))
  have hz : w.heap.size + 1 + 1 < w1.heap.size := by have := hb1.size; omega
  clear hb1 a0 a1 a2 a3 b0 b1 b2
  go_upto_region 3 with fail
  have hf2 : Blk (w1.alloc (.cells #[.int .i64 qc, .int .i64 qa] 33)) (w.heap.size + 1 + 1) 33 #[.int .i64 0, .int .i64 0] := hf.alloc _
  have hn : Blk (w1.alloc (.cells #[.int .i64 qc, .int .i64 qa] 33)) w1.heap.size 33 #[.int .i64 qc, .int .i64 qa] := lay_blk [(33, #[.int .i64 qc, .int .i64 qa])] w1 0 _ _ rfl
  have hw2 : Below w.heap.size w (w1.alloc (.cells #[.int .i64 qc, .int .i64 qa] 33)) := hww.alloc hww.size _
  have hz2 : w.heap.size + 1 + 1 < (w1.alloc (.cells #[.int .i64 qc, .int .i64 qa] 33)).heap.size := by simp; omega
  generalize w1.alloc (.cells #[.int .i64 qc, .int .i64 qa] 33) = Y at hf2 hn hw2 hz2 ⊢
  have u0 := hf2.frozen 0
  have u1 := hf2.frozen 1
  have v0 : Y.cell? ⟨w.heap.size + 1 + 1, 0, none⟩ = some (.int .i64 0) := hf2.cell 0
  have v1 : Y.cell? ⟨w.heap.size + 1 + 1, 1, none⟩ = some (.int .i64 0) := hf2.cell 1
  have y0 : Y.cell? ⟨w1.heap.size, 0, none⟩ = some (.int .i64 qc) := hn.cell 0
  have y1 : Y.cell? ⟨w1.heap.size, 1, none⟩ = some (.int .i64 qa) := hn.cell 1
  have H9 := Lib.hid (And.intro hf2 hw2)
  clear hf hww hf2 hw2 hn
  go_region
  all_goals go_wp2_with fail
  all_goals
    obtain ⟨Z, hZ⟩ : ∃ Z, Z = (Y.setCell ⟨w.heap.size + 1 + 1, 0, none⟩ (.int .i64 qc)).setCell ⟨w.heap.size + 1 + 1, 1, none⟩ (.int .i64 qa) := ⟨_, rfl⟩
    obtain ⟨⟨z0, z1⟩, z2⟩ := fault_set _ _ hZ H9.out.1 H9.out.2 (by omega)
    rw [← hZ]
    exact bodyPost_ret (v := .tuple #[.bool false, .agg #[.int .i64 qc, .int .i64 qa]]) (by simp [results, Tryz.results4, go_sem, z0, z1]) rfl ⟨by simp, z2.drew⟩
end Go.Proofs.YtkkpfdfoojcljaaGreat
