/- Walk: what is wrong with a form: the reference. -/
import Derived.Test.YtkkpfdfoojcljaaGreatForm
import Derived.Test.YtkkpfdfoojcljaaGreatCnfC
namespace Go.Proofs.YtkkpfdfoojcljaaGreat
open Go.RowKit

theorem atomPre_row {x : AtomD} {nt ni : Int} (h : atomPre x nt < 0) : atomCode x nt ni = rowCode x.row ni := by
  simp only [atomPre] at h; simp only [atomCode]; split at h <;> split <;> (try omega) <;> (split at h <;> split <;> try omega) <;> (split at h <;> split <;> try omega) <;> (split at h <;> split <;> first | rfl | omega)
theorem atomPre_own {x : AtomD} {nt ni : Int} (h : ¬ atomPre x nt < 0) : atomCode x nt ni = atomPre x nt := by
  simp only [atomPre] at h ⊢; simp only [atomCode]; split at h <;> split <;> (try rfl) <;> (try omega) <;> (split at h <;> split <;> (try rfl) <;> try omega) <;> (split at h <;> split <;> (try rfl) <;> try omega) <;> (split at h <;> split <;> first | rfl | omega)

set_option maxRecDepth 100000 in
set_option maxHeartbeats 4000000 in
theorem formFault_any (A1 A2 A3 A4 : Option Addr) (n1 c1 n2 c2 n3 c3 n4 c4 : Nat) (F : FormD) (qc qa : Int) (w : World) (hF : FormB w w.heap.size A1 A2 A3 A4 n1 n2 n3 n4 F) (hR : formF F = (qc, qa)) :
    Calls Tryz.prog 5 #[.agg #[.slice A1 n1 c1, .slice A2 n2 c2, .slice A3 n3 c3, .slice A4 n4 c4]] w fun e w' => e = .returned (.agg #[.int .i64 qc, .int .i64 qa]) ∧ Below w.heap.size w w' := by
  have m1 := hF.m1
  have m2 := hF.m2
  have m3 := hF.m3
  have m4 := hF.m4
  have l1 := hF.terms.len
  have l2 := hF.ints.len
  have l3 := hF.atoms.len
  have HF := Lib.hid hF
  have hR1 : ¬ (termsF F.terms).1 = 0 → termsF F.terms = (qc, qa) := fun h => by rw [formF, if_neg h] at hR; exact hR
  have hR2 : (termsF F.terms).1 = 0 → (12 < n2 ∨ 120 < n3) → ((2 : Int), (0 : Int)) = (qc, qa) := fun h h2 => by rw [formF, if_pos h, l2, l3, if_pos h2] at hR; exact hR
  have hR3 : (termsF F.terms).1 = 0 → ¬ (12 < n2 ∨ 120 < n3) → ¬ (atomsF F).1 = 0 → atomsF F = (qc, qa) := fun h h2 h3 => by rw [formF, if_pos h, l2, l3, if_neg h2, if_neg h3] at hR; exact hR
  have hR4 : (termsF F.terms).1 = 0 → ¬ (12 < n2 ∨ 120 < n3) → (atomsF F).1 = 0 → cnfF n3 F.clauses = (qc, qa) := fun h h2 h3 => by rw [formF, if_pos h, l2, l3, if_neg h2, if_pos h3] at hR; exact hR
  have H1 := Lib.hid hR1
  have H2 := Lib.hid hR2
  have H3 := Lib.hid hR3
  have H4 := Lib.hid hR4
  have L1 := Lib.hid l1
  have L2 := Lib.hid l2
  have L3 := Lib.hid l3
  clear hR hR1 hR2 hR3 hR4 l1 l2 l3 hF
  have hmany : termsF F.terms = ((termsF F.terms).1, (termsF F.terms).2) := rfl
  generalize htf : termsF F.terms = tf at H1 H2 H3 H4 hmany
  obtain ⟨tc, ta⟩ := tf
  have hm60 : tc = 0 → n1 ≤ 60 := fun h => by
    rcases Nat.lt_or_ge 60 n1 with h6 | h6
    · rw [termsF, L1.out, if_pos h6] at htf
      simp only [Prod.mk.injEq] at htf
      omega
    · exact h6
  obtain ⟨hb0, hbk0, hbf0, hs0⟩ := two_boxes w 27 33 #[.slice A1 n1 c1, .slice A2 n2 c2, .slice A3 n3 c3, .slice A4 n4 c4] #[.int .i64 0, .int .i64 0]
  have HT := Lib.hid (fun W (hb : Below w.heap.size w W) => termsFault_any A1 n1 c1 F.terms tc ta W (HF.out.terms.below stays_term hb hb.size) m1 htf)
  have HW := Lib.hid (And.intro hb0 (And.intro hbk0 (And.intro hbf0 hs0)))
  have HM := Lib.hid hm60
  clear hb0 hbk0 hbf0 hs0 htf hmany hm60
  go_enter Tryz.func5, Tryz.ntmps5
  go_wp2_with fail
  refine (HT.out _ HW.out.1).mono ?_
  rintro e w0 ⟨rfl, hb1⟩
  obtain ⟨hb0, hbk0, hbf0, hs0⟩ := HW.out
  have hbel := hb0.trans (hb1.mono (by omega))
  have hbk := hbk0.below hb1 (by omega)
  have hbf := hbf0.below hb1 (by omega)
  clear hb0 hbk0 hbf0 hs0 HW hb1 HT
  have hz2 : w.heap.size + 1 < w0.heap.size := hbf.lt
  have hz : w.heap.size < w0.heap.size := by omega
  have k0 : w0.cell? ⟨w.heap.size, 0, none⟩ = some (.slice A1 n1 c1) := hbk.cell 0
  have k1 : w0.cell? ⟨w.heap.size, 1, none⟩ = some (.slice A2 n2 c2) := hbk.cell 1
  have k2 : w0.cell? ⟨w.heap.size, 2, none⟩ = some (.slice A3 n3 c3) := hbk.cell 2
  have k3 : w0.cell? ⟨w.heap.size, 3, none⟩ = some (.slice A4 n4 c4) := hbk.cell 3
  have d0 : w0.cell? ⟨w.heap.size + 1, 0, none⟩ = some (.int .i64 0) := hbf.cell 0
  have d1 : w0.cell? ⟨w.heap.size + 1, 1, none⟩ = some (.int .i64 0) := hbf.cell 1
  have d2 : w0.frozen? ⟨w.heap.size + 1, 0, none⟩ = false := hbf.frozen 0
  have d3 : w0.frozen? ⟨w.heap.size + 1, 1, none⟩ = false := hbf.frozen 1
  by_cases htc : tc = 0
  · subst htc
    have hn60 := HM.out rfl
    by_cases hi1 : 12 < n2
    · have e2 := H2.out rfl (.inl hi1)
      simp only [Prod.mk.injEq] at e2
      obtain ⟨rfl, rfl⟩ := e2
      go_wp2_with fail
      refine bodyPost_ret (v := .agg #[.int .i64 2, .int .i64 0]) (by simp [results, Tryz.results5, go_sem, d0, d1, hz2]) rfl ⟨rfl, ?_⟩
      exact (((hbel).setCell (p := ⟨w.heap.size + 1, 0, none⟩) (by simp) _).setCell (p := ⟨w.heap.size + 1, 1, none⟩) (by simp) _).alloc (by simp; omega) _
    by_cases hi2 : 120 < n3
    · have e2 := H2.out rfl (.inr hi2)
      simp only [Prod.mk.injEq] at e2
      obtain ⟨rfl, rfl⟩ := e2
      go_wp2_with fail
      refine bodyPost_ret (v := .agg #[.int .i64 2, .int .i64 0]) (by simp [results, Tryz.results5, go_sem, d0, d1, hz2]) rfl ⟨rfl, ?_⟩
      exact (((hbel).setCell (p := ⟨w.heap.size + 1, 0, none⟩) (by simp) _).setCell (p := ⟨w.heap.size + 1, 1, none⟩) (by simp) _).alloc (by simp; omega) _
    rcases ha : atomsF F with ⟨ac, aa⟩
    rw [ha] at H3 H4
    have H3' := Lib.hid (fun h => H3.out rfl (by omega) h)
    have H4' := Lib.hid (fun h => H4.out rfl (by omega) h)
    rw [atomsF, L1.out, L2.out] at ha
    have HA := Lib.hid ha
    have HW := Lib.hid (And.intro (hbel.alloc (by omega) (.cells #[.int .i64 0, .int .i64 ta] 33)) (And.intro (hbk.alloc (.cells #[.int .i64 0, .int .i64 ta] 33)) (hbf.alloc (.cells #[.int .i64 0, .int .i64 ta] 33))))
    clear ha H3 H4 H2 H1
    go_wp2_with fail
    clear k0 k1 k2 k3 d0 d1 d2 d3 hz hz2 hbel hbk hbf
    go_loopw [4] (fun s wr => ∃ j : Nat, j ≤ n3 ∧ s = .int .i64 j ∧ Hid (firstBad (fun x _ => atomCode x n1 n2) (F.atoms.drop j) j = (ac, aa)) ∧ Below w.heap.size w wr ∧ Blk wr w.heap.size 27 #[.slice A1 n1 c1, .slice A2 n2 c2, .slice A3 n3 c3, .slice A4 n4 c4] ∧ Blk wr (w.heap.size + 1) 33 #[.int .i64 0, .int .i64 0]) (fun s _ => n3 - (intOf s).toNat)
    case atStart => exact ⟨0, Nat.zero_le _, rfl, HA, HW.out.1, HW.out.2.1, HW.out.2.2⟩
    case round =>
      clear HW HA
      obtain ⟨j, hj, rfl, HJ, hbel, hbk, hbf⟩ := hrel
      by_cases hjl : j < n3
      · obtain ⟨b, off, hx, A', n', c', rfl, hb, g0, g1, g2, g3, g4, g5, hnc, hcm, har, hI⟩ := atoms_get HF.out.atoms hjl
        have hz2 : w.heap.size + 1 < wr.heap.size := hbf.lt
        have hz : w.heap.size < wr.heap.size := by omega
        have k0 : wr.cell? ⟨w.heap.size, 0, none⟩ = some (.slice A1 n1 c1) := hbk.cell 0
        have k1 : wr.cell? ⟨w.heap.size, 1, none⟩ = some (.slice A2 n2 c2) := hbk.cell 1
        have k2 : wr.cell? ⟨w.heap.size, 2, none⟩ = some (.slice (some ⟨b, off, none⟩) n3 c3) := hbk.cell 2
        have k3 : wr.cell? ⟨w.heap.size, 3, none⟩ = some (.slice A4 n4 c4) := hbk.cell 3
        have d0 : wr.cell? ⟨w.heap.size + 1, 0, none⟩ = some (.int .i64 0) := hbf.cell 0
        have d1 : wr.cell? ⟨w.heap.size + 1, 1, none⟩ = some (.int .i64 0) := hbf.cell 1
        have d2 : wr.frozen? ⟨w.heap.size + 1, 0, none⟩ = false := hbf.frozen 0
        have d3 : wr.frozen? ⟨w.heap.size + 1, 1, none⟩ = false := hbf.frozen 1
        have e1 := HJ.out
        rw [drop_cons hx] at e1
        obtain ⟨en, eb⟩ := firstBad_cons e1
        generalize F.atoms[j] = at6 at en eb g0 g1 g2 g4 g5 har hI
        obtain ⟨kd, aa2, bb2, ⟨xs, rk, tt⟩⟩ := at6
        simp only at en eb g0 g1 g2 g4 g5 har hI
        have hxl := har.len
        have a0 := (hbel.cell (p := ⟨b, off + j * 6, none⟩) hb).trans g0
        have a1 := (hbel.cell (p := ⟨b, off + j * 6 + 1, none⟩) hb).trans g1
        have a2 := (hbel.cell (p := ⟨b, off + j * 6 + 2, none⟩) hb).trans g2
        have a3 := (hbel.cell (p := ⟨b, off + j * 6 + 3, none⟩) hb).trans g3
        have a4 := (hbel.cell (p := ⟨b, off + j * 6 + 4, none⟩) hb).trans g4
        have a5 := (hbel.cell (p := ⟨b, off + j * 6 + 5, none⟩) hb).trans g5
        generalize hpre : atomPre ⟨kd, aa2, bb2, ⟨xs, rk, tt⟩⟩ n1 = p0
        have hown := atomPre_own (x := ⟨kd, aa2, bb2, ⟨xs, rk, tt⟩⟩) (nt := n1) (ni := n2)
        have hrow := atomPre_row (x := ⟨kd, aa2, bb2, ⟨xs, rk, tt⟩⟩) (nt := n1) (ni := n2)
        rw [hpre] at hown hrow
        generalize hcd : atomCode ⟨kd, aa2, bb2, ⟨xs, rk, tt⟩⟩ n1 n2 = cd at en eb hown hrow
        have HC := Lib.hid (fun W => atomFault_any kd aa2 bb2 rk tt A' n' c' xs n1 p0 W hxl hpre (Nat.le_trans hnc hcm))
        have HD := Lib.hid (fun W (hbW : Below w.heap.size w W) R hR => rowFault_any A' n' c' ⟨xs, rk, tt⟩ n2 R W (har.below stays_int hbW hbW.size) (Nat.le_trans hnc hcm) (by omega) (by omega) hR)
        have HEN := Lib.hid en
        have HEB := Lib.hid eb
        have HOW := Lib.hid hown
        have HRW := Lib.hid hrow
        have HXX := Lib.hid (And.intro hbel (And.intro hbk hbf))
        have hjj : (j : Int) < (n3 : Int) := by omega
        have hjj0 : (0 : Int) ≤ (j : Int) := by omega
        clear e1 en eb hown hrow hcd hpre HJ g0 g1 g2 g3 g4 g5 har hxl hbel hbk hbf
        go_wp2_with fail
        go_region_held3 (fun w' => w'.cell? ⟨w.heap.size, 0, none⟩ = some (.slice A1 n1 c1) ∧ w'.cell? ⟨w.heap.size, 1, none⟩ = some (.slice A2 n2 c2) ∧ w'.cell? ⟨w.heap.size, 2, none⟩ = some (.slice (some ⟨b, off, none⟩) n3 c3) ∧ w'.cell? ⟨w.heap.size, 3, none⟩ = some (.slice A4 n4 c4) ∧ w'.cell? ⟨b, off + j * 6, none⟩ = some (.int .i64 kd) ∧ w'.cell? ⟨b, off + j * 6 + 1, none⟩ = some (.int .i64 aa2) ∧ w'.cell? ⟨b, off + j * 6 + 2, none⟩ = some (.int .i64 bb2) ∧ w'.cell? ⟨b, off + j * 6 + 3, none⟩ = some (.slice A' n' c') ∧ w'.cell? ⟨b, off + j * 6 + 4, none⟩ = some (.int .i64 rk) ∧ w'.cell? ⟨b, off + j * 6 + 5, none⟩ = some (.int .i64 tt))
          (go_keep)
          (first
            | (go_simp
               go_at_call 13
               refine (HC.out _).mono ?_
               rintro e w1 ⟨rfl, hb1⟩
               have qk0 : w1.cell? ⟨w.heap.size, 0, none⟩ = some (.slice A1 n1 c1) := by rw [hb1.cell (p := ⟨w.heap.size, 0, none⟩) (by first | omega | (simp; omega))]; exact k0
               have qk1 : w1.cell? ⟨w.heap.size, 1, none⟩ = some (.slice A2 n2 c2) := by rw [hb1.cell (p := ⟨w.heap.size, 1, none⟩) (by first | omega | (simp; omega))]; exact k1
               have qk2 : w1.cell? ⟨w.heap.size, 2, none⟩ = some (.slice (some ⟨b, off, none⟩) n3 c3) := by rw [hb1.cell (p := ⟨w.heap.size, 2, none⟩) (by first | omega | (simp; omega))]; exact k2
               have qk3 : w1.cell? ⟨w.heap.size, 3, none⟩ = some (.slice A4 n4 c4) := by rw [hb1.cell (p := ⟨w.heap.size, 3, none⟩) (by first | omega | (simp; omega))]; exact k3
               have qa0 : w1.cell? ⟨b, off + j * 6, none⟩ = some (.int .i64 kd) := by rw [hb1.cell (p := ⟨b, off + j * 6, none⟩) (by first | omega | (simp; omega))]; exact a0
               have qa1 : w1.cell? ⟨b, off + j * 6 + 1, none⟩ = some (.int .i64 aa2) := by rw [hb1.cell (p := ⟨b, off + j * 6 + 1, none⟩) (by first | omega | (simp; omega))]; exact a1
               have qa2 : w1.cell? ⟨b, off + j * 6 + 2, none⟩ = some (.int .i64 bb2) := by rw [hb1.cell (p := ⟨b, off + j * 6 + 2, none⟩) (by first | omega | (simp; omega))]; exact a2
               have qa3 : w1.cell? ⟨b, off + j * 6 + 3, none⟩ = some (.slice A' n' c') := by rw [hb1.cell (p := ⟨b, off + j * 6 + 3, none⟩) (by first | omega | (simp; omega))]; exact a3
               have qa4 : w1.cell? ⟨b, off + j * 6 + 4, none⟩ = some (.int .i64 rk) := by rw [hb1.cell (p := ⟨b, off + j * 6 + 4, none⟩) (by first | omega | (simp; omega))]; exact a4
               have qa5 : w1.cell? ⟨b, off + j * 6 + 5, none⟩ = some (.int .i64 tt) := by rw [hb1.cell (p := ⟨b, off + j * 6 + 5, none⟩) (by first | omega | (simp; omega))]; exact a5)
            | fail)
        obtain ⟨hbel, hbk, hbf⟩ := HXX.out
        have hb1' : Below wr.heap.size wr w1 := below_of_drew hb1
        have hbelA : Below w.heap.size w w1 := hbel.trans (hb1'.mono (by omega))
        have hbkA := hbk.below hb1' hz
        have hbfA := hbf.below hb1' hz2
        have hzA : w.heap.size + 1 < w1.heap.size := hbfA.lt
        have HYY := Lib.hid (And.intro hbelA (And.intro hbkA hbfA))
        clear hbel hbk hbf hb1 hb1' k0 k1 k2 k3 d0 d1 d2 d3 a0 a1 a2 a3 a4 a5 hz hz2 HXX HC hbelA hbkA hbfA
        by_cases hp : p0 < 0
        · have e7 := HRW.out (by omega)
          have H7 := Lib.hid e7
          clear e7 HOW HRW
          go_wp2_with fail
          go_region_held3 (fun w' => w'.cell? ⟨w.heap.size, 0, none⟩ = some (.slice A1 n1 c1) ∧ w'.cell? ⟨w.heap.size, 1, none⟩ = some (.slice A2 n2 c2) ∧ w'.cell? ⟨w.heap.size, 2, none⟩ = some (.slice (some ⟨b, off, none⟩) n3 c3) ∧ w'.cell? ⟨w.heap.size, 3, none⟩ = some (.slice A4 n4 c4) ∧ w'.cell? ⟨b, off + j * 6, none⟩ = some (.int .i64 kd) ∧ w'.cell? ⟨b, off + j * 6 + 1, none⟩ = some (.int .i64 aa2) ∧ w'.cell? ⟨b, off + j * 6 + 2, none⟩ = some (.int .i64 bb2) ∧ w'.cell? ⟨b, off + j * 6 + 3, none⟩ = some (.slice A' n' c') ∧ w'.cell? ⟨b, off + j * 6 + 4, none⟩ = some (.int .i64 rk) ∧ w'.cell? ⟨b, off + j * 6 + 5, none⟩ = some (.int .i64 tt))
            (go_keep)
            (first
              | (go_simp
                 go_at_call 14
                 refine (HD.out _ (by exact below_drewN HYY.out.1 1) cd H7.out.symm).mono ?_
                 rintro e w2 ⟨rfl, hb2⟩
                 have rk0 : w2.cell? ⟨w.heap.size, 0, none⟩ = some (.slice A1 n1 c1) := by rw [hb2.cell (p := ⟨w.heap.size, 0, none⟩) (by first | omega | (simp; omega))]; exact qk0
                 have rk1 : w2.cell? ⟨w.heap.size, 1, none⟩ = some (.slice A2 n2 c2) := by rw [hb2.cell (p := ⟨w.heap.size, 1, none⟩) (by first | omega | (simp; omega))]; exact qk1
                 have rk2 : w2.cell? ⟨w.heap.size, 2, none⟩ = some (.slice (some ⟨b, off, none⟩) n3 c3) := by rw [hb2.cell (p := ⟨w.heap.size, 2, none⟩) (by first | omega | (simp; omega))]; exact qk2
                 have rk3 : w2.cell? ⟨w.heap.size, 3, none⟩ = some (.slice A4 n4 c4) := by rw [hb2.cell (p := ⟨w.heap.size, 3, none⟩) (by first | omega | (simp; omega))]; exact qk3
                 have ra0 : w2.cell? ⟨b, off + j * 6, none⟩ = some (.int .i64 kd) := by rw [hb2.cell (p := ⟨b, off + j * 6, none⟩) (by first | omega | (simp; omega))]; exact qa0
                 have ra1 : w2.cell? ⟨b, off + j * 6 + 1, none⟩ = some (.int .i64 aa2) := by rw [hb2.cell (p := ⟨b, off + j * 6 + 1, none⟩) (by first | omega | (simp; omega))]; exact qa1
                 have ra2 : w2.cell? ⟨b, off + j * 6 + 2, none⟩ = some (.int .i64 bb2) := by rw [hb2.cell (p := ⟨b, off + j * 6 + 2, none⟩) (by first | omega | (simp; omega))]; exact qa2
                 have ra3 : w2.cell? ⟨b, off + j * 6 + 3, none⟩ = some (.slice A' n' c') := by rw [hb2.cell (p := ⟨b, off + j * 6 + 3, none⟩) (by first | omega | (simp; omega))]; exact qa3
                 have ra4 : w2.cell? ⟨b, off + j * 6 + 4, none⟩ = some (.int .i64 rk) := by rw [hb2.cell (p := ⟨b, off + j * 6 + 4, none⟩) (by first | omega | (simp; omega))]; exact qa4
                 have ra5 : w2.cell? ⟨b, off + j * 6 + 5, none⟩ = some (.int .i64 tt) := by rw [hb2.cell (p := ⟨b, off + j * 6 + 5, none⟩) (by first | omega | (simp; omega))]; exact qa5)
              | fail)
          obtain ⟨hbelA, hbkA, hbfA⟩ := HYY.out
          have hb2' : Below w1.heap.size w1 w2 := below_of_drew hb2
          have hbel := hbelA.trans (hb2'.mono (by omega))
          have hbk := hbkA.below hb2' (by omega)
          have hbf := hbfA.below hb2' hzA
          clear hbelA hbkA hbfA hb2 hb2' HYY HD
          by_cases hcz : cd = 0
          · have EN := Lib.hid (HEN.out hcz)
            have hq : (cd != 0) = false := by simpa using hcz
            clear hcz
            go_wp2_with fail
            go_roundw
            case rel => exact ⟨j + 1, by omega, by go_num, by show _ = _; rw [Int.natCast_add]; exact EN.out, hbel, hbk, hbf⟩
            case measure => simp [intOf]; omega
          · obtain ⟨e3, e4⟩ := HEB.out hcz
            have e2 := H3'.out (by rw [← e3]; exact hcz)
            simp only [Prod.mk.injEq] at e2
            obtain ⟨e5, e6⟩ := e2
            have hq : (cd != 0) = true := by simpa using hcz
            have HE := Lib.hid (And.intro (e3.trans e5) (e4.trans e6))
            clear hcz e3 e4 e5 e6
            have y0 := hbf.cell 0
            have y1 := hbf.cell 1
            have y2 := hbf.frozen 0
            have y3 := hbf.frozen 1
            have yz := hbf.lt
            simp only [List.getElem?_toArray, List.getElem?_cons_zero, List.getElem?_cons_succ] at y0 y1
            go_wp2_with fail
            refine bodyPost_ret (v := .agg #[.int .i64 cd, .int .i64 j]) (by simp [results, Tryz.results5, go_sem, y0, y1]) rfl ⟨by rw [HE.out.1, HE.out.2], ?_⟩
            exact ((hbel).setCell (p := ⟨w.heap.size + 1, 0, none⟩) (by simp) _).setCell (p := ⟨w.heap.size + 1, 1, none⟩) (by simp) _
        · have e7 := HOW.out (by omega)
          subst e7
          obtain ⟨hbel, hbk, hbf⟩ := HYY.out
          clear HYY HD HOW HRW
          by_cases hcz : cd = 0
          · have EN := Lib.hid (HEN.out hcz)
            have hq : (cd != 0) = false := by simpa using hcz
            clear hcz
            go_wp2_with fail
            go_roundw
            case rel => exact ⟨j + 1, by omega, by go_num, by show _ = _; rw [Int.natCast_add]; exact EN.out, hbel, hbk, hbf⟩
            case measure => simp [intOf]; omega
          · obtain ⟨e3, e4⟩ := HEB.out hcz
            have e2 := H3'.out (by rw [← e3]; exact hcz)
            simp only [Prod.mk.injEq] at e2
            obtain ⟨e5, e6⟩ := e2
            have hq : (cd != 0) = true := by simpa using hcz
            have HE := Lib.hid (And.intro (e3.trans e5) (e4.trans e6))
            clear hcz e3 e4 e5 e6
            have y0 := hbf.cell 0
            have y1 := hbf.cell 1
            have y2 := hbf.frozen 0
            have y3 := hbf.frozen 1
            have yz := hbf.lt
            simp only [List.getElem?_toArray, List.getElem?_cons_zero, List.getElem?_cons_succ] at y0 y1
            go_wp2_with fail
            refine bodyPost_ret (v := .agg #[.int .i64 cd, .int .i64 j]) (by simp [results, Tryz.results5, go_sem, y0, y1]) rfl ⟨by rw [HE.out.1, HE.out.2], ?_⟩
            exact ((hbel).setCell (p := ⟨w.heap.size + 1, 0, none⟩) (by simp) _).setCell (p := ⟨w.heap.size + 1, 1, none⟩) (by simp) _
      · obtain rfl : n3 = j := by omega
        have hz2 : w.heap.size + 1 < wr.heap.size := hbf.lt
        have hz : w.heap.size < wr.heap.size := by omega
        have k0 : wr.cell? ⟨w.heap.size, 0, none⟩ = some (.slice A1 n1 c1) := hbk.cell 0
        have k1 : wr.cell? ⟨w.heap.size, 1, none⟩ = some (.slice A2 n2 c2) := hbk.cell 1
        have k2 : wr.cell? ⟨w.heap.size, 2, none⟩ = some (.slice A3 n3 c3) := hbk.cell 2
        have k3 : wr.cell? ⟨w.heap.size, 3, none⟩ = some (.slice A4 n4 c4) := hbk.cell 3
        have d0 : wr.cell? ⟨w.heap.size + 1, 0, none⟩ = some (.int .i64 0) := hbf.cell 0
        have d1 : wr.cell? ⟨w.heap.size + 1, 1, none⟩ = some (.int .i64 0) := hbf.cell 1
        have d2 : wr.frozen? ⟨w.heap.size + 1, 0, none⟩ = false := hbf.frozen 0
        have d3 : wr.frozen? ⟨w.heap.size + 1, 1, none⟩ = false := hbf.frozen 1
        have e1 := HJ.out
        rw [List.drop_of_length_le (by have := L3.out; omega), firstBad] at e1
        simp only [Prod.mk.injEq] at e1
        obtain ⟨rfl, rfl⟩ := e1
        have HC := Lib.hid (cnfFault_any n3 A4 n4 c4 F.clauses qc qa wr (HF.out.clauses.below (stays_arr stays_int) hbel (by omega)) (by omega) (by omega) m4 (H4'.out rfl))
        clear HJ
        go_wp2_with fail
        refine HC.out.mono ?_
        rintro e w' ⟨rfl, hb'⟩
        have hbk' := hbk.below hb' hz
        have hbf' := hbf.below hb' hz2
        have hbel' : Below w.heap.size w w' := hbel.trans (hb'.mono (by omega))
        clear k0 k1 k2 k3 d0 d1 d2 d3 hb' hz hz2 hbk hbf
        have hz2 : w.heap.size + 1 < w'.heap.size := hbf'.lt
        have hz : w.heap.size < w'.heap.size := by omega
        have k0 : w'.cell? ⟨w.heap.size, 0, none⟩ = some (.slice A1 n1 c1) := hbk'.cell 0
        have k1 : w'.cell? ⟨w.heap.size, 1, none⟩ = some (.slice A2 n2 c2) := hbk'.cell 1
        have k2 : w'.cell? ⟨w.heap.size, 2, none⟩ = some (.slice A3 n3 c3) := hbk'.cell 2
        have k3 : w'.cell? ⟨w.heap.size, 3, none⟩ = some (.slice A4 n4 c4) := hbk'.cell 3
        have d0 : w'.cell? ⟨w.heap.size + 1, 0, none⟩ = some (.int .i64 0) := hbf'.cell 0
        have d1 : w'.cell? ⟨w.heap.size + 1, 1, none⟩ = some (.int .i64 0) := hbf'.cell 1
        have d2 : w'.frozen? ⟨w.heap.size + 1, 0, none⟩ = false := hbf'.frozen 0
        have d3 : w'.frozen? ⟨w.heap.size + 1, 1, none⟩ = false := hbf'.frozen 1
        go_wp2_with fail
        refine bodyPost_ret (v := .agg #[.int .i64 qc, .int .i64 qa]) (by simp [results, Tryz.results5, go_sem, d0, d1]) rfl ⟨rfl, ?_⟩
        exact ((hbel').setCell (p := ⟨w.heap.size + 1, 0, none⟩) (by simp) _).setCell (p := ⟨w.heap.size + 1, 1, none⟩) (by simp) _
  · have e2 := H1.out htc
    simp only [Prod.mk.injEq] at e2
    obtain ⟨rfl, rfl⟩ := e2
    have hq : (tc != 0) = true := by simpa using htc
    clear htc
    go_wp2_with fail
    refine bodyPost_ret (v := .agg #[.int .i64 tc, .int .i64 ta]) (by simp [results, Tryz.results5, go_sem, d0, d1, hz2]) rfl ⟨rfl, ?_⟩
    exact (((hbel).setCell (p := ⟨w.heap.size + 1, 0, none⟩) (by simp) _).setCell (p := ⟨w.heap.size + 1, 1, none⟩) (by simp) _).alloc (by simp; omega) _
end Go.Proofs.YtkkpfdfoojcljaaGreat
