/- Walks: does a model fit a form: the reference. -/
import Derived.Test.YtllgindmcjemeaaFitsB
namespace Go.Proofs.Ytllgindmcjemeaa
open Go.RowKit

set_option maxRecDepth 100000 in
set_option maxHeartbeats 4000000 in
theorem fitsFault_any (A1 A2 A3 A4 : Option Addr) (n1 c1 n2 c2 n3 c3 n4 c4 : Nat) (B1 B2 B3 : Option Addr) (k1 e1 k2 e2 k3 e3 : Nat) (F : FormD) (M : ModelD) (qc qa : Int) (w : World) (hF : FormB w w.heap.size A1 A2 A3 A4 n1 n2 n3 n4 F) (hM : ModelB w w.heap.size B1 B2 B3 k1 k2 k3 M) (s1 : n1 ≤ 60) (s2 : n2 ≤ 12) (hR : fitsOnly F M = (qc, qa)) :
    Calls Try.prog 22 #[.agg #[.slice A1 n1 c1, .slice A2 n2 c2, .slice A3 n3 c3, .slice A4 n4 c4], .agg #[.slice B1 k1 e1, .slice B2 k2 e2, .slice B3 k3 e3]] w fun e w' => e = .returned (.agg #[.int .i64 qc, .int .i64 qa]) ∧ Below w.heap.size w w' := by
  obtain ⟨hb0, hbk0, hbm0, hbf0, hs0⟩ := three_boxes w 38 48 24 #[.slice A1 n1 c1, .slice A2 n2 c2, .slice A3 n3 c3, .slice A4 n4 c4] #[.slice B1 k1 e1, .slice B2 k2 e2, .slice B3 k3 e3] #[.int .i64 0, .int .i64 0]
  have HF := Lib.hid hF
  have HM := Lib.hid hM
  have m1 := hM.m1
  have m2 := hM.m2
  have m3 := hM.m3
  have l1 := hF.terms.len
  have l2 := hF.ints.len
  have l3 := hF.atoms.len
  have r1 := hM.holds.len
  have r2 := hM.things.len
  have r3 := hM.nums.len
  have hR1 : ¬ k1 = n3 → ((9 : Int), (0 : Int)) = (qc, qa) := fun h => by rw [fitsOnly, r1, l3, if_pos h] at hR; exact hR
  have hR2 : k1 = n3 → ¬ k2 = n1 → ((9 : Int), (1 : Int)) = (qc, qa) := fun h h2 => by rw [fitsOnly, r1, l3, if_neg (not_not_intro h), r2, l1, if_pos h2] at hR; exact hR
  have hR3 : k1 = n3 → k2 = n1 → ¬ k3 = n2 → ((9 : Int), (2 : Int)) = (qc, qa) := fun h h2 h3 => by rw [fitsOnly, r1, l3, if_neg (not_not_intro h), r2, l1, if_neg (not_not_intro h2), r3, l2, if_pos h3] at hR; exact hR
  have hR4 : k1 = n3 → k2 = n1 → k3 = n2 → (if 0 ≤ idx thingBad M.things 0 then ((3 : Int), idx thingBad M.things 0) else if 0 ≤ idx fracBad M.nums 0 then (3, idx fracBad M.nums 0) else (0, 0)) = (qc, qa) := fun h h2 h3 => by
    rw [fitsOnly, r1, l3, if_neg (not_not_intro h), r2, l1, if_neg (not_not_intro h2), r3, l2, if_neg (not_not_intro h3)] at hR; exact hR
  have H1 := Lib.hid hR1
  have H2 := Lib.hid hR2
  have H3 := Lib.hid hR3
  have H4 := Lib.hid hR4
  have R2 := Lib.hid r2
  have R3 := Lib.hid r3
  clear hR1 hR2 hR3 hR4 l1 l2 l3 r1 r2 r3 hF hM
  have HW := Lib.hid (And.intro hb0 (And.intro hbk0 (And.intro hbm0 hbf0)))
  clear hb0 hbk0 hbm0 hbf0 hs0 hR
  go_enter Try.func22, Try.ntmps22
  go_upto_region 1 with fail
  obtain ⟨hbel, hbk, hbm, hbf⟩ := HW.out
  clear HW
  generalize ((w.alloc (.cells #[.slice A1 n1 c1, .slice A2 n2 c2, .slice A3 n3 c3, .slice A4 n4 c4] 38)).alloc (.cells #[.slice B1 k1 e1, .slice B2 k2 e2, .slice B3 k3 e3] 48)).alloc (.cells #[.int .i64 0, .int .i64 0] 24) = W at hbel hbk hbm hbf ⊢
  have hz2 : w.heap.size + 2 < W.heap.size := hbf.lt
  have hz1 : w.heap.size + 1 < W.heap.size := by omega
  have hz : w.heap.size < W.heap.size := by omega
  have p0 : W.cell? ⟨w.heap.size, 0, none⟩ = some (.slice A1 n1 c1) := hbk.cell 0
  have p1 : W.cell? ⟨w.heap.size, 1, none⟩ = some (.slice A2 n2 c2) := hbk.cell 1
  have p2 : W.cell? ⟨w.heap.size, 2, none⟩ = some (.slice A3 n3 c3) := hbk.cell 2
  have p3 : W.cell? ⟨w.heap.size, 3, none⟩ = some (.slice A4 n4 c4) := hbk.cell 3
  have q0 : W.cell? ⟨w.heap.size + 1, 0, none⟩ = some (.slice B1 k1 e1) := hbm.cell 0
  have q1 : W.cell? ⟨w.heap.size + 1, 1, none⟩ = some (.slice B2 k2 e2) := hbm.cell 1
  have q2 : W.cell? ⟨w.heap.size + 1, 2, none⟩ = some (.slice B3 k3 e3) := hbm.cell 2
  have d0 : W.cell? ⟨w.heap.size + 2, 0, none⟩ = some (.int .i64 0) := hbf.cell 0
  have d1 : W.cell? ⟨w.heap.size + 2, 1, none⟩ = some (.int .i64 0) := hbf.cell 1
  have d2 : W.frozen? ⟨w.heap.size + 2, 0, none⟩ = false := hbf.frozen 0
  have d3 : W.frozen? ⟨w.heap.size + 2, 1, none⟩ = false := hbf.frozen 1
  by_cases g1 : k1 = n3
  rotate_left
  · have e5 := H1.out g1
    simp only [Prod.mk.injEq] at e5
    obtain ⟨rfl, rfl⟩ := e5
    have u1 : ((k1 : Int) != (n3 : Int)) = true := by rw [bne_iff_ne]; omega
    go_wp2_with fail
    refine bodyPost_ret (v := .agg #[.int .i64 9, .int .i64 0]) (by simp [results, Try.results22, go_sem, d0, d1]) rfl ⟨rfl, ?_⟩
    exact ((hbel).setCell (p := ⟨w.heap.size + 2, 0, none⟩) (by simp) _).setCell (p := ⟨w.heap.size + 2, 1, none⟩) (by simp) _
  by_cases g2 : k2 = n1
  rotate_left
  · have e5 := H2.out g1 g2
    simp only [Prod.mk.injEq] at e5
    obtain ⟨rfl, rfl⟩ := e5
    have u1 : ((k1 : Int) != (n3 : Int)) = false := by rw [bne_eq_false_iff_eq]; omega
    have u2 : ((k2 : Int) != (n1 : Int)) = true := by rw [bne_iff_ne]; omega
    clear g1 g2
    go_wp2_with fail
    refine bodyPost_ret (v := .agg #[.int .i64 9, .int .i64 1]) (by simp [results, Try.results22, go_sem, d0, d1]) rfl ⟨rfl, ?_⟩
    exact ((hbel).setCell (p := ⟨w.heap.size + 2, 0, none⟩) (by simp) _).setCell (p := ⟨w.heap.size + 2, 1, none⟩) (by simp) _
  by_cases g3 : k3 = n2
  rotate_left
  · have e5 := H3.out g1 g2 g3
    simp only [Prod.mk.injEq] at e5
    obtain ⟨rfl, rfl⟩ := e5
    have u1 : ((k1 : Int) != (n3 : Int)) = false := by rw [bne_eq_false_iff_eq]; omega
    have u2 : ((k2 : Int) != (n1 : Int)) = false := by rw [bne_eq_false_iff_eq]; omega
    have u3 : ((k3 : Int) != (n2 : Int)) = true := by rw [bne_iff_ne]; omega
    clear g1 g2 g3
    go_wp2_with fail
    refine bodyPost_ret (v := .agg #[.int .i64 9, .int .i64 2]) (by simp [results, Try.results22, go_sem, d0, d1]) rfl ⟨rfl, ?_⟩
    exact ((hbel).setCell (p := ⟨w.heap.size + 2, 0, none⟩) (by simp) _).setCell (p := ⟨w.heap.size + 2, 1, none⟩) (by simp) _
  have e6 := H4.out g1 g2 g3
  have u1 : ((k1 : Int) != (n3 : Int)) = false := by rw [bne_eq_false_iff_eq]; omega
  have u2 : ((k2 : Int) != (n1 : Int)) = false := by rw [bne_eq_false_iff_eq]; omega
  have u3 : ((k3 : Int) != (n2 : Int)) = false := by rw [bne_eq_false_iff_eq]; omega
  have kk2 : k2 ≤ 60 := by omega
  have kk3 : k3 ≤ 12 := by omega
  generalize hix : idx thingBad M.things 0 = ix at e6
  generalize hiy : idx fracBad M.nums 0 = iy at e6
  have HIX := Lib.hid hix
  have HIY := Lib.hid hiy
  have H6 := Lib.hid e6
  clear hix hiy e6 g1 g2 g3 H1 H2 H3 H4
  go_wp2_with fail
  have HY := Lib.hid (And.intro hbel (And.intro hbk (And.intro hbm hbf)))
  clear hbel hbk hbm hbf p0 p1 p2 p3 q0 q1 q2 d0 d1 d2 d3 hz hz1 hz2
  go_loopw [5] (fun s wr => ∃ k : Nat, k ≤ k2 ∧ s = .int .i64 k ∧ Hid (idx thingBad (M.things.drop k) k = ix) ∧ Below w.heap.size w wr ∧ Blk wr w.heap.size 38 #[.slice A1 n1 c1, .slice A2 n2 c2, .slice A3 n3 c3, .slice A4 n4 c4] ∧ Blk wr (w.heap.size + 1) 48 #[.slice B1 k1 e1, .slice B2 k2 e2, .slice B3 k3 e3] ∧ Blk wr (w.heap.size + 2) 24 #[.int .i64 0, .int .i64 0]) (fun s _ => k2 - (intOf s).toNat)
  case atStart => exact ⟨0, Nat.zero_le _, rfl, HIX, HY.out.1, HY.out.2.1, HY.out.2.2.1, HY.out.2.2.2⟩
  case round =>
    clear HY HIX
    obtain ⟨k, hk, rfl, HK, hbel, hbk, hbm, hbf⟩ := hrel
    by_cases hlt : k < k2
    · obtain ⟨b, off, hx, rfl, hb, hcell0, hlo, hhi⟩ := ints_get HM.out.things hlt
      have hcell := (hbel.cell (p := ⟨b, off + k, none⟩) hb).trans hcell0
      have hz2 : w.heap.size + 2 < wr.heap.size := hbf.lt
      have hz1 : w.heap.size + 1 < wr.heap.size := by omega
      have hz : w.heap.size < wr.heap.size := by omega
      have p0 : wr.cell? ⟨w.heap.size, 0, none⟩ = some (.slice A1 n1 c1) := hbk.cell 0
      have p1 : wr.cell? ⟨w.heap.size, 1, none⟩ = some (.slice A2 n2 c2) := hbk.cell 1
      have p2 : wr.cell? ⟨w.heap.size, 2, none⟩ = some (.slice A3 n3 c3) := hbk.cell 2
      have p3 : wr.cell? ⟨w.heap.size, 3, none⟩ = some (.slice A4 n4 c4) := hbk.cell 3
      have q0 : wr.cell? ⟨w.heap.size + 1, 0, none⟩ = some (.slice B1 k1 e1) := hbm.cell 0
      have q1 : wr.cell? ⟨w.heap.size + 1, 1, none⟩ = some (.slice (some ⟨b, off, none⟩) k2 e2) := hbm.cell 1
      have q2 : wr.cell? ⟨w.heap.size + 1, 2, none⟩ = some (.slice B3 k3 e3) := hbm.cell 2
      have d0 : wr.cell? ⟨w.heap.size + 2, 0, none⟩ = some (.int .i64 0) := hbf.cell 0
      have d1 : wr.cell? ⟨w.heap.size + 2, 1, none⟩ = some (.int .i64 0) := hbf.cell 1
      have d2 : wr.frozen? ⟨w.heap.size + 2, 0, none⟩ = false := hbf.frozen 0
      have d3 : wr.frozen? ⟨w.heap.size + 2, 1, none⟩ = false := hbf.frozen 1
      have e1x := HK.out
      rw [drop_cons hx, idx] at e1x
      generalize M.things[k] = y at e1x hcell hcell0 hlo hhi
      clear HK hcell0
      cases hq : thingBad y with
      | true =>
        rw [hq] at e1x
        have e2x : (k : Int) = ix := e1x
        have e7 := H6.out
        rw [← e2x, if_pos (by omega)] at e7
        simp only [Prod.mk.injEq] at e7
        obtain ⟨rfl, rfl⟩ := e7
        have HQ := Lib.hid hq
        clear hq e1x e2x H6 HIY
        go_wp2_with fail
        refine (isThing_any _ _).mono ?_
        rintro e w' ⟨rfl, rfl⟩
        rw [HQ.out]
        go_wp2_with fail
        refine bodyPost_ret (v := .agg #[.int .i64 3, .int .i64 k]) (by simp [results, Try.results22, go_sem, d0, d1]) rfl ⟨rfl, ?_⟩
        exact ((hbel).setCell (p := ⟨w.heap.size + 2, 0, none⟩) (by simp) _).setCell (p := ⟨w.heap.size + 2, 1, none⟩) (by simp) _
      | false =>
        rw [hq] at e1x
        have H2x := Lib.hid (show idx thingBad (M.things.drop (k + 1)) ((k : Int) + 1) = ix from e1x)
        have HQ := Lib.hid hq
        clear hq e1x
        go_wp2_with fail
        refine (isThing_any _ _).mono ?_
        rintro e w' ⟨rfl, rfl⟩
        rw [HQ.out]
        go_wp2_with fail
        go_roundw
        case rel => exact ⟨k + 1, by omega, by go_num, by show _ = _; rw [Int.natCast_add]; exact H2x.out, hbel, hbk, hbm, hbf⟩
        case measure => simp [intOf]; omega
    · obtain rfl : k2 = k := by omega
      have hz2 : w.heap.size + 2 < wr.heap.size := hbf.lt
      have hz1 : w.heap.size + 1 < wr.heap.size := by omega
      have hz : w.heap.size < wr.heap.size := by omega
      have p0 : wr.cell? ⟨w.heap.size, 0, none⟩ = some (.slice A1 n1 c1) := hbk.cell 0
      have p1 : wr.cell? ⟨w.heap.size, 1, none⟩ = some (.slice A2 n2 c2) := hbk.cell 1
      have p2 : wr.cell? ⟨w.heap.size, 2, none⟩ = some (.slice A3 n3 c3) := hbk.cell 2
      have p3 : wr.cell? ⟨w.heap.size, 3, none⟩ = some (.slice A4 n4 c4) := hbk.cell 3
      have q0 : wr.cell? ⟨w.heap.size + 1, 0, none⟩ = some (.slice B1 k1 e1) := hbm.cell 0
      have q1 : wr.cell? ⟨w.heap.size + 1, 1, none⟩ = some (.slice B2 k2 e2) := hbm.cell 1
      have q2 : wr.cell? ⟨w.heap.size + 1, 2, none⟩ = some (.slice B3 k3 e3) := hbm.cell 2
      have d0 : wr.cell? ⟨w.heap.size + 2, 0, none⟩ = some (.int .i64 0) := hbf.cell 0
      have d1 : wr.cell? ⟨w.heap.size + 2, 1, none⟩ = some (.int .i64 0) := hbf.cell 1
      have d2 : wr.frozen? ⟨w.heap.size + 2, 0, none⟩ = false := hbf.frozen 0
      have d3 : wr.frozen? ⟨w.heap.size + 2, 1, none⟩ = false := hbf.frozen 1
      have e1x := HK.out
      rw [List.drop_of_length_le (by have := R2.out; omega), idx] at e1x
      subst e1x
      have e7 := H6.out
      rw [if_neg (by omega)] at e7
      have H7 := Lib.hid e7
      have HY := Lib.hid (And.intro hbel (And.intro hbk (And.intro hbm hbf)))
      clear e7 H6 HK
      go_wp2_with fail
      clear hbel hbk hbm hbf p0 p1 p2 p3 q0 q1 q2 d0 d1 d2 d3 hz hz1 hz2
      go_loopw [6] (fun s wr => ∃ j : Nat, j ≤ k3 ∧ s = .int .i64 j ∧ Hid (idx fracBad (M.nums.drop j) j = iy) ∧ Below w.heap.size w wr ∧ Blk wr w.heap.size 38 #[.slice A1 n1 c1, .slice A2 n2 c2, .slice A3 n3 c3, .slice A4 n4 c4] ∧ Blk wr (w.heap.size + 1) 48 #[.slice B1 k1 e1, .slice B2 k2 e2, .slice B3 k3 e3] ∧ Blk wr (w.heap.size + 2) 24 #[.int .i64 0, .int .i64 0]) (fun s _ => k3 - (intOf s).toNat)
      case atStart => exact ⟨0, Nat.zero_le _, rfl, HIY, HY.out.1, HY.out.2.1, HY.out.2.2.1, HY.out.2.2.2⟩
      case round =>
        clear HY HIY
        obtain ⟨j, hj, rfl, HJ, hbel, hbk, hbm, hbf⟩ := hrel
        by_cases hjl : j < k3
        · obtain ⟨b, off, hx, rfl, hb, g0, g1⟩ := fracs_get HM.out.nums hjl
          have hc0 := (hbel.cell (p := ⟨b, off + j * 2, none⟩) hb).trans g0
          have hc1 := (hbel.cell (p := ⟨b, off + j * 2 + 1, none⟩) hb).trans g1
          have hz2 : w.heap.size + 2 < wr.heap.size := hbf.lt
          have hz1 : w.heap.size + 1 < wr.heap.size := by omega
          have hz : w.heap.size < wr.heap.size := by omega
          have p0 : wr.cell? ⟨w.heap.size, 0, none⟩ = some (.slice A1 n1 c1) := hbk.cell 0
          have p1 : wr.cell? ⟨w.heap.size, 1, none⟩ = some (.slice A2 n2 c2) := hbk.cell 1
          have p2 : wr.cell? ⟨w.heap.size, 2, none⟩ = some (.slice A3 n3 c3) := hbk.cell 2
          have p3 : wr.cell? ⟨w.heap.size, 3, none⟩ = some (.slice A4 n4 c4) := hbk.cell 3
          have q0 : wr.cell? ⟨w.heap.size + 1, 0, none⟩ = some (.slice B1 k1 e1) := hbm.cell 0
          have q1 : wr.cell? ⟨w.heap.size + 1, 1, none⟩ = some (.slice B2 k2 e2) := hbm.cell 1
          have q2 : wr.cell? ⟨w.heap.size + 1, 2, none⟩ = some (.slice (some ⟨b, off, none⟩) k3 e3) := hbm.cell 2
          have d0 : wr.cell? ⟨w.heap.size + 2, 0, none⟩ = some (.int .i64 0) := hbf.cell 0
          have d1 : wr.cell? ⟨w.heap.size + 2, 1, none⟩ = some (.int .i64 0) := hbf.cell 1
          have d2 : wr.frozen? ⟨w.heap.size + 2, 0, none⟩ = false := hbf.frozen 0
          have d3 : wr.frozen? ⟨w.heap.size + 2, 1, none⟩ = false := hbf.frozen 1
          have e1x := HJ.out
          rw [drop_cons hx, idx] at e1x
          generalize M.nums[j] = y at e1x g0 g1 hc0 hc1
          obtain ⟨nm, dn⟩ := y
          simp only at hc0 hc1
          have hcall := good_any nm dn wr
          rw [show fracBad ⟨nm, dn⟩ = !fracGood nm dn from rfl] at e1x
          clear HJ g0 g1
          cases hq : fracGood nm dn with
          | false =>
            rw [hq] at e1x hcall
            have e2x : (j : Int) = iy := e1x
            have e7 := H7.out
            rw [← e2x, if_pos (by omega)] at e7
            simp only [Prod.mk.injEq] at e7
            obtain ⟨rfl, rfl⟩ := e7
            have HC := Lib.hid hcall
            clear hq e1x e2x H7 hcall
            go_wp2_with fail
            refine HC.out.mono ?_
            rintro e w' ⟨rfl, hb'⟩
            have hbelB := hbel.trans (hb'.mono (by omega))
            have hbfB := hbf.below hb' hz2
            clear d0 d1 d2 d3
            have d0 : w'.cell? ⟨w.heap.size + 2, 0, none⟩ = some (.int .i64 0) := hbfB.cell 0
            have d1 : w'.cell? ⟨w.heap.size + 2, 1, none⟩ = some (.int .i64 0) := hbfB.cell 1
            have d2 : w'.frozen? ⟨w.heap.size + 2, 0, none⟩ = false := hbfB.frozen 0
            have d3 : w'.frozen? ⟨w.heap.size + 2, 1, none⟩ = false := hbfB.frozen 1
            have hz2' : w.heap.size + 2 < w'.heap.size := hbfB.lt
            go_wp2_with fail
            refine bodyPost_ret (v := .agg #[.int .i64 3, .int .i64 j]) (by simp [results, Try.results22, go_sem, d0, d1]) rfl ⟨rfl, ?_⟩
            exact ((hbelB).setCell (p := ⟨w.heap.size + 2, 0, none⟩) (by simp) _).setCell (p := ⟨w.heap.size + 2, 1, none⟩) (by simp) _
          | true =>
            rw [hq] at e1x hcall
            have H2x := Lib.hid (show idx fracBad (M.nums.drop (j + 1)) ((j : Int) + 1) = iy from e1x)
            have HC := Lib.hid hcall
            clear hq e1x hcall
            go_wp2_with fail
            refine HC.out.mono ?_
            rintro e w' ⟨rfl, hb'⟩
            go_wp2_with fail
            go_roundw
            case rel => exact ⟨j + 1, by omega, by go_num, by show _ = _; rw [Int.natCast_add]; exact H2x.out, hbel.trans (hb'.mono (by omega)), hbk.below hb' hz, hbm.below hb' hz1, hbf.below hb' hz2⟩
            case measure => simp [intOf]; omega
        · obtain rfl : k3 = j := by omega
          have hz2 : w.heap.size + 2 < wr.heap.size := hbf.lt
          have hz1 : w.heap.size + 1 < wr.heap.size := by omega
          have hz : w.heap.size < wr.heap.size := by omega
          have p0 : wr.cell? ⟨w.heap.size, 0, none⟩ = some (.slice A1 n1 c1) := hbk.cell 0
          have p1 : wr.cell? ⟨w.heap.size, 1, none⟩ = some (.slice A2 n2 c2) := hbk.cell 1
          have p2 : wr.cell? ⟨w.heap.size, 2, none⟩ = some (.slice A3 n3 c3) := hbk.cell 2
          have p3 : wr.cell? ⟨w.heap.size, 3, none⟩ = some (.slice A4 n4 c4) := hbk.cell 3
          have q0 : wr.cell? ⟨w.heap.size + 1, 0, none⟩ = some (.slice B1 k1 e1) := hbm.cell 0
          have q1 : wr.cell? ⟨w.heap.size + 1, 1, none⟩ = some (.slice B2 k2 e2) := hbm.cell 1
          have q2 : wr.cell? ⟨w.heap.size + 1, 2, none⟩ = some (.slice B3 k3 e3) := hbm.cell 2
          have d0 : wr.cell? ⟨w.heap.size + 2, 0, none⟩ = some (.int .i64 0) := hbf.cell 0
          have d1 : wr.cell? ⟨w.heap.size + 2, 1, none⟩ = some (.int .i64 0) := hbf.cell 1
          have d2 : wr.frozen? ⟨w.heap.size + 2, 0, none⟩ = false := hbf.frozen 0
          have d3 : wr.frozen? ⟨w.heap.size + 2, 1, none⟩ = false := hbf.frozen 1
          have e1x := HJ.out
          rw [List.drop_of_length_le (by have := R3.out; omega), idx] at e1x
          subst e1x
          have e7 := H7.out
          rw [if_neg (by omega)] at e7
          simp only [Prod.mk.injEq] at e7
          obtain ⟨rfl, rfl⟩ := e7
          clear HJ H7
          go_wp2_with fail
          refine bodyPost_ret (v := .agg #[.int .i64 0, .int .i64 0]) (by simp [results, Try.results22, go_sem, d0, d1]) rfl ⟨rfl, ?_⟩
          exact ((hbel).setCell (p := ⟨w.heap.size + 2, 0, none⟩) (by simp) _).setCell (p := ⟨w.heap.size + 2, 1, none⟩) (by simp) _
end Go.Proofs.Ytllgindmcjemeaa
