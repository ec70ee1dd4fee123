/- Walk: what is wrong with a form: the program. -/
import Derived.Test.YtdncchlfeanlmaaAtom2
import Derived.Test.YtdncchlfeanlmaaDataB
import Derived.Test.YtdncchlfeanlmaaTerm2
import Derived.Test.YtdncchlfeanlmaaCnf2
namespace Go.Proofs.Ytdncchlfeanlmaa
open Go.RowKit

def atomsF (F : FormD) : Int × Int := firstBad (fun x _ => atomCode x F.terms.length F.ints.length) F.atoms 0
def formF (F : FormD) : Int × Int :=
  if (termsF F.terms).1 = 0 then
    if 12 < F.ints.length ∨ 120 < F.atoms.length then (2, 0)
    else if (atomsF F).1 = 0 then cnfF F.atoms.length F.clauses else atomsF F
  else termsF F.terms

set_option maxRecDepth 100000 in
set_option maxHeartbeats 4000000 in
theorem formCheck_any (A1 A2 A3 A4 : Option Addr) (n1 c1 n2 c2 n3 c3 n4 c4 : Nat) (F : FormD) (qc qa : Int) (w : World) (hF : FormB w w.heap.size A1 A2 A3 A4 n1 n2 n3 n4 F) (hR : formF F = (qc, qa)) :
    Calls Try.prog 5 #[.agg #[.slice A1 n1 c1, .slice A2 n2 c2, .slice A3 n3 c3, .slice A4 n4 c4]] w fun e w' => e = .returned (.agg #[.int .i64 qc, .int .i64 qa]) ∧ Below w.heap.size w w' := by
  have m1 := hF.m1
  have m2 := hF.m2
  have m3 := hF.m3
  have m4 := hF.m4
  have l1 := hF.terms.len
  have l2 := hF.ints.len
  have l3 := hF.atoms.len
  have HF := Lib.hid hF
  have hR1 : ¬ (termsF F.terms).1 = 0 → termsF F.terms = (qc, qa) := fun h => by rw [formF, if_neg h] at hR; exact hR
  have hR2 : (termsF F.terms).1 = 0 → (12 < n2 ∨ 120 < n3) → ((2 : Int), (0 : Int)) = (qc, qa) := fun h h2 => by rw [formF, if_pos h, l2, l3, if_pos h2] at hR; exact hR
  have hR3 : (termsF F.terms).1 = 0 → ¬ (12 < n2 ∨ 120 < n3) → ¬ (atomsF F).1 = 0 → atomsF F = (qc, qa) := fun h h2 h3 => by rw [formF, if_pos h, l2, l3, if_neg h2, if_neg h3] at hR; exact hR
  have hR4 : (termsF F.terms).1 = 0 → ¬ (12 < n2 ∨ 120 < n3) → (atomsF F).1 = 0 → cnfF n3 F.clauses = (qc, qa) := fun h h2 h3 => by rw [formF, if_pos h, l2, l3, if_neg h2, if_pos h3] at hR; exact hR
  have H1 := Lib.hid hR1
  have H2 := Lib.hid hR2
  have H3 := Lib.hid hR3
  have H4 := Lib.hid hR4
  have L1 := Lib.hid l1
  have L2 := Lib.hid l2
  have L3 := Lib.hid l3
  clear hR hR1 hR2 hR3 hR4 l1 l2 l3 hF
  by_cases hmany : 60 < n1
  · have e1 : termsF F.terms = (2, 0) := by rw [termsF, L1.out, if_pos hmany]
    have e2 := H1.out (by rw [e1]; simp)
    rw [e1] at e2
    simp only [Prod.mk.injEq] at e2
    obtain ⟨rfl, rfl⟩ := e2
    clear e1
    go_enter Try.func5, Try.ntmps5
    go_wp2_with fail
    refine bodyPost_ret (v := .agg #[.int .i64 2, .int .i64 0]) (by simp [results, Try.results5, go_sem]) rfl ⟨rfl, ?_⟩
    exact ((Below.refl _ _).alloc (Nat.le_refl _) _).alloc (by simp) _
  have et : termsF F.terms = firstBad termCode F.terms 0 := by rw [termsF, L1.out, if_neg hmany]
  rcases ht : firstBad termCode F.terms 0 with ⟨tc, ta⟩
  rw [ht] at et
  rw [et] at H1 H2 H3 H4
  have HT := Lib.hid ht
  clear et ht
  obtain ⟨hb0, hbk0, hbf0, hs0⟩ := two_boxes w 27 29 #[.slice A1 n1 c1, .slice A2 n2 c2, .slice A3 n3 c3, .slice A4 n4 c4] #[.int .i64 0, .int .i64 0]
  have HW := Lib.hid (And.intro hb0 (And.intro hbk0 hbf0))
  clear hb0 hbk0 hbf0 hs0
  go_enter Try.func5, Try.ntmps5
  go_wp2_with fail
  go_loopw [16] (fun s wr => ∃ k : Nat, k ≤ n1 ∧ s = .int .i64 k ∧ Hid (firstBad termCode (F.terms.drop k) k = (tc, ta)) ∧ Below w.heap.size w wr ∧ Blk wr w.heap.size 27 #[.slice A1 n1 c1, .slice A2 n2 c2, .slice A3 n3 c3, .slice A4 n4 c4] ∧ Blk wr (w.heap.size + 1) 29 #[.int .i64 0, .int .i64 0]) (fun s _ => n1 - (intOf s).toNat)
  case atStart => exact ⟨0, Nat.zero_le _, rfl, HT, HW.out.1, HW.out.2.1, HW.out.2.2⟩
  case round =>
    clear HW
    obtain ⟨k, hk, rfl, HK, hbel, hbk, hbf⟩ := hrel
    have hz2 : w.heap.size + 1 < wr.heap.size := hbf.lt
    have hz : w.heap.size < wr.heap.size := by omega
    have k0 : wr.cell? ⟨w.heap.size, 0, none⟩ = some (.slice A1 n1 c1) := hbk.cell 0
    have k1 : wr.cell? ⟨w.heap.size, 1, none⟩ = some (.slice A2 n2 c2) := hbk.cell 1
    have k2 : wr.cell? ⟨w.heap.size, 2, none⟩ = some (.slice A3 n3 c3) := hbk.cell 2
    have k3 : wr.cell? ⟨w.heap.size, 3, none⟩ = some (.slice A4 n4 c4) := hbk.cell 3
    have d0 : wr.cell? ⟨w.heap.size + 1, 0, none⟩ = some (.int .i64 0) := hbf.cell 0
    have d1 : wr.cell? ⟨w.heap.size + 1, 1, none⟩ = some (.int .i64 0) := hbf.cell 1
    have d2 : wr.frozen? ⟨w.heap.size + 1, 0, none⟩ = false := hbf.frozen 0
    have d3 : wr.frozen? ⟨w.heap.size + 1, 1, none⟩ = false := hbf.frozen 1
    by_cases hlt : k < n1
    · have hx : k < F.terms.length := by have := L1.out; omega
      have e1 := HK.out
      rw [drop_cons hx] at e1
      obtain ⟨en, eb⟩ := firstBad_cons e1
      have HC := Lib.hid (fun R hR => checkTerm_any A1 n1 c1 F.terms k hlt R wr (HF.out.terms.below stays_term hbel (by omega)) hR)
      generalize hcd : termCode F.terms[k] k = cd at en eb
      have HCD := Lib.hid hcd
      clear e1 HK hcd
      by_cases hcz : cd = 0
      · subst hcz
        have EN := Lib.hid (en rfl)
        clear en eb
        go_wp2_with fail
        refine (HC.out 0 (fun _ => HCD.out)).mono ?_
        rintro e w' ⟨rfl, hb'⟩
        go_wp2_with fail
        go_roundw
        case rel => exact ⟨k + 1, by omega, by go_num, by show _ = _; rw [Int.natCast_add]; exact EN.out, hbel.trans (hb'.mono (by omega)), hbk.below hb' hz, hbf.below hb' hz2⟩
        case measure => simp [intOf]; omega
      · obtain ⟨rfl, rfl⟩ := eb hcz
        have e2 := H1.out hcz
        simp only [Prod.mk.injEq] at e2
        obtain ⟨rfl, rfl⟩ := e2
        have hq : (cd != 0) = true := by simpa using hcz
        clear en hcz eb
        go_wp2_with fail
        refine (HC.out cd (fun _ => HCD.out)).mono ?_
        rintro e w' ⟨rfl, hb'⟩
        have hbk' := hbk.below hb' hz
        have hbf' := hbf.below hb' hz2
        have hbel' : Below w.heap.size w w' := hbel.trans (hb'.mono (by omega))
        clear k0 k1 k2 k3 d0 d1 d2 d3 hb' hz hz2 hbk hbf
        have hz2 : w.heap.size + 1 < w'.heap.size := hbf'.lt
        have hz : w.heap.size < w'.heap.size := by omega
        have k0 : w'.cell? ⟨w.heap.size, 0, none⟩ = some (.slice A1 n1 c1) := hbk'.cell 0
        have k1 : w'.cell? ⟨w.heap.size, 1, none⟩ = some (.slice A2 n2 c2) := hbk'.cell 1
        have k2 : w'.cell? ⟨w.heap.size, 2, none⟩ = some (.slice A3 n3 c3) := hbk'.cell 2
        have k3 : w'.cell? ⟨w.heap.size, 3, none⟩ = some (.slice A4 n4 c4) := hbk'.cell 3
        have d0 : w'.cell? ⟨w.heap.size + 1, 0, none⟩ = some (.int .i64 0) := hbf'.cell 0
        have d1 : w'.cell? ⟨w.heap.size + 1, 1, none⟩ = some (.int .i64 0) := hbf'.cell 1
        have d2 : w'.frozen? ⟨w.heap.size + 1, 0, none⟩ = false := hbf'.frozen 0
        have d3 : w'.frozen? ⟨w.heap.size + 1, 1, none⟩ = false := hbf'.frozen 1
        go_wp2_with fail
        refine bodyPost_ret (v := .agg #[.int .i64 cd, .int .i64 k]) (by simp [results, Try.results5, go_sem, d0, d1]) rfl ⟨rfl, ?_⟩
        exact ((hbel').setCell (p := ⟨w.heap.size + 1, 0, none⟩) (by simp) _).setCell (p := ⟨w.heap.size + 1, 1, none⟩) (by simp) _
    · obtain rfl : n1 = k := by omega
      have e1 := HK.out
      rw [List.drop_of_length_le (by have := L1.out; omega), firstBad] at e1
      simp only [Prod.mk.injEq] at e1
      obtain ⟨rfl, rfl⟩ := e1
      clear HK H1 HT
      by_cases hi1 : 12 < n2
      · have e2 := H2.out rfl (.inl hi1)
        simp only [Prod.mk.injEq] at e2
        obtain ⟨rfl, rfl⟩ := e2
        go_wp2_with fail
        refine bodyPost_ret (v := .agg #[.int .i64 2, .int .i64 0]) (by simp [results, Try.results5, go_sem, d0, d1]) rfl ⟨rfl, ?_⟩
        exact ((hbel).setCell (p := ⟨w.heap.size + 1, 0, none⟩) (by simp) _).setCell (p := ⟨w.heap.size + 1, 1, none⟩) (by simp) _
      by_cases hi2 : 120 < n3
      · have e2 := H2.out rfl (.inr hi2)
        simp only [Prod.mk.injEq] at e2
        obtain ⟨rfl, rfl⟩ := e2
        go_wp2_with fail
        refine bodyPost_ret (v := .agg #[.int .i64 2, .int .i64 0]) (by simp [results, Try.results5, go_sem, d0, d1]) rfl ⟨rfl, ?_⟩
        exact ((hbel).setCell (p := ⟨w.heap.size + 1, 0, none⟩) (by simp) _).setCell (p := ⟨w.heap.size + 1, 1, none⟩) (by simp) _
      rcases ha : atomsF F with ⟨ac, aa⟩
      rw [ha] at H3 H4
      have H3' := Lib.hid (fun h => H3.out rfl (by omega) h)
      have H4' := Lib.hid (fun h => H4.out rfl (by omega) h)
      rw [atomsF, L1.out, L2.out] at ha
      have HA := Lib.hid ha
      have HW := Lib.hid (And.intro hbel (And.intro hbk hbf))
      clear ha H3 H4 H2
      go_wp2_with fail
      clear k0 k1 k2 k3 d0 d1 d2 d3 hz hz2 hbel hbk hbf
      go_loopw [43] (fun s wr => ∃ j : Nat, j ≤ n3 ∧ s = .int .i64 j ∧ Hid (firstBad (fun x _ => atomCode x n1 n2) (F.atoms.drop j) j = (ac, aa)) ∧ Below w.heap.size w wr ∧ Blk wr w.heap.size 27 #[.slice A1 n1 c1, .slice A2 n2 c2, .slice A3 n3 c3, .slice A4 n4 c4] ∧ Blk wr (w.heap.size + 1) 29 #[.int .i64 0, .int .i64 0]) (fun s _ => n3 - (intOf s).toNat)
      case atStart => exact ⟨0, Nat.zero_le _, rfl, HA, HW.out.1, HW.out.2.1, HW.out.2.2⟩
      case round =>
        clear HW
        obtain ⟨j, hj, rfl, HJ, hbel, hbk, hbf⟩ := hrel
        by_cases hjl : j < n3
        · obtain ⟨b, off, hx, A', n', c', rfl, hb, g0, g1, g2, g3, g4, g5, hnc, hcm, har, hI⟩ := atoms_get HF.out.atoms hjl
          have hz2 : w.heap.size + 1 < wr.heap.size := hbf.lt
          have hz : w.heap.size < wr.heap.size := by omega
          have k0 : wr.cell? ⟨w.heap.size, 0, none⟩ = some (.slice A1 n1 c1) := hbk.cell 0
          have k1 : wr.cell? ⟨w.heap.size, 1, none⟩ = some (.slice A2 n2 c2) := hbk.cell 1
          have k2 : wr.cell? ⟨w.heap.size, 2, none⟩ = some (.slice (some ⟨b, off, none⟩) n3 c3) := hbk.cell 2
          have k3 : wr.cell? ⟨w.heap.size, 3, none⟩ = some (.slice A4 n4 c4) := hbk.cell 3
          have d0 : wr.cell? ⟨w.heap.size + 1, 0, none⟩ = some (.int .i64 0) := hbf.cell 0
          have d1 : wr.cell? ⟨w.heap.size + 1, 1, none⟩ = some (.int .i64 0) := hbf.cell 1
          have d2 : wr.frozen? ⟨w.heap.size + 1, 0, none⟩ = false := hbf.frozen 0
          have d3 : wr.frozen? ⟨w.heap.size + 1, 1, none⟩ = false := hbf.frozen 1
          have e1 := HJ.out
          rw [drop_cons hx] at e1
          obtain ⟨en, eb⟩ := firstBad_cons e1
          generalize F.atoms[j] = at6 at en eb g0 g1 g2 g4 g5 har hI
          obtain ⟨kd, aa2, bb2, ⟨xs, rk, tt⟩⟩ := at6
          simp only at en eb g0 g1 g2 g4 g5 har hI
          have a0 := (hbel.cell (p := ⟨b, off + j * 6, none⟩) hb).trans g0
          have a1 := (hbel.cell (p := ⟨b, off + j * 6 + 1, none⟩) hb).trans g1
          have a2 := (hbel.cell (p := ⟨b, off + j * 6 + 2, none⟩) hb).trans g2
          have a3 := (hbel.cell (p := ⟨b, off + j * 6 + 3, none⟩) hb).trans g3
          have a4 := (hbel.cell (p := ⟨b, off + j * 6 + 4, none⟩) hb).trans g4
          have a5 := (hbel.cell (p := ⟨b, off + j * 6 + 5, none⟩) hb).trans g5
          have HC := Lib.hid (fun W (hbW : Below w.heap.size w W) R hR => checkAtom_any kd aa2 bb2 rk tt A' n' c' xs A1 A2 (some ⟨b, off, none⟩) A4 n1 c1 n2 c2 n3 c3 n4 c4 R W (har.below stays_int hbW hbW.size) hI (Nat.le_trans hnc hcm) (by omega) hR)
          have hbel2 : Below w.heap.size w (wr.alloc (.cells #[.int .i64 kd, .int .i64 aa2, .int .i64 bb2, .slice A' n' c', .int .i64 rk, .int .i64 tt] 35)) := hbel.alloc (by omega) _
          have hbk2 := hbk.alloc (.cells #[.int .i64 kd, .int .i64 aa2, .int .i64 bb2, .slice A' n' c', .int .i64 rk, .int .i64 tt] 35)
          have hbf2 := hbf.alloc (.cells #[.int .i64 kd, .int .i64 aa2, .int .i64 bb2, .slice A' n' c', .int .i64 rk, .int .i64 tt] 35)
          have HB2 := Lib.hid (And.intro hbel2 (And.intro hbk2 hbf2))
          generalize hcd : atomCode ⟨kd, aa2, bb2, ⟨xs, rk, tt⟩⟩ n1 n2 = cd at en eb
          have HCD := Lib.hid hcd
          clear e1 HJ hcd g0 g1 g2 g3 g4 g5 har hbel2 hbk2 hbf2 hbel hbk hbf
          by_cases hcz : cd = 0
          · subst hcz
            have EN := Lib.hid (en rfl)
            clear en eb
            go_wp2_with fail
            refine (HC.out _ HB2.out.1 0 HCD.out).mono ?_
            rintro e w' ⟨rfl, hb'⟩
            obtain ⟨hbel2, hbk2, hbf2⟩ := HB2.out
            have hfin : Below w.heap.size w w' := hbel2.trans (hb'.mono (by simp; omega))
            have hbk3 := hbk2.below hb' (by simp; omega)
            have hbf3 := hbf2.below hb' (by simp; omega)
            clear hbel2 hbk2 hbf2 hb'
            go_wp2_with fail
            go_roundw
            case rel => exact ⟨j + 1, by omega, by go_num, by show _ = _; rw [Int.natCast_add]; exact EN.out, hfin, hbk3, hbf3⟩
            case measure => simp [intOf]; omega
          · obtain ⟨rfl, rfl⟩ := eb hcz
            have e2 := H3'.out hcz
            simp only [Prod.mk.injEq] at e2
            obtain ⟨rfl, rfl⟩ := e2
            have hq : (cd != 0) = true := by simpa using hcz
            clear en hcz eb
            go_wp2_with fail
            refine (HC.out _ HB2.out.1 cd HCD.out).mono ?_
            rintro e w' ⟨rfl, hb'⟩
            obtain ⟨hbel2, hbk2, hbf2⟩ := HB2.out
            have hbel' : Below w.heap.size w w' := hbel2.trans (hb'.mono (by simp; omega))
            have hbk' := hbk2.below hb' (by simp; omega)
            have hbf' := hbf2.below hb' (by simp; omega)
            clear hbel2 hbk2 hbf2 hb' k0 k1 k2 k3 d0 d1 d2 d3 hz hz2 a0 a1 a2 a3 a4 a5
            have hz2 : w.heap.size + 1 < w'.heap.size := hbf'.lt
            have hz : w.heap.size < w'.heap.size := by omega
            have k0 : w'.cell? ⟨w.heap.size, 0, none⟩ = some (.slice A1 n1 c1) := hbk'.cell 0
            have k1 : w'.cell? ⟨w.heap.size, 1, none⟩ = some (.slice A2 n2 c2) := hbk'.cell 1
            have k2 : w'.cell? ⟨w.heap.size, 2, none⟩ = some (.slice (some ⟨b, off, none⟩) n3 c3) := hbk'.cell 2
            have k3 : w'.cell? ⟨w.heap.size, 3, none⟩ = some (.slice A4 n4 c4) := hbk'.cell 3
            have d0 : w'.cell? ⟨w.heap.size + 1, 0, none⟩ = some (.int .i64 0) := hbf'.cell 0
            have d1 : w'.cell? ⟨w.heap.size + 1, 1, none⟩ = some (.int .i64 0) := hbf'.cell 1
            have d2 : w'.frozen? ⟨w.heap.size + 1, 0, none⟩ = false := hbf'.frozen 0
            have d3 : w'.frozen? ⟨w.heap.size + 1, 1, none⟩ = false := hbf'.frozen 1
            go_wp2_with fail
            refine bodyPost_ret (v := .agg #[.int .i64 cd, .int .i64 j]) (by simp [results, Try.results5, go_sem, d0, d1]) rfl ⟨rfl, ?_⟩
            exact ((hbel').setCell (p := ⟨w.heap.size + 1, 0, none⟩) (by simp) _).setCell (p := ⟨w.heap.size + 1, 1, none⟩) (by simp) _
        · obtain rfl : n3 = j := by omega
          have hz2 : w.heap.size + 1 < wr.heap.size := hbf.lt
          have hz : w.heap.size < wr.heap.size := by omega
          have k0 : wr.cell? ⟨w.heap.size, 0, none⟩ = some (.slice A1 n1 c1) := hbk.cell 0
          have k1 : wr.cell? ⟨w.heap.size, 1, none⟩ = some (.slice A2 n2 c2) := hbk.cell 1
          have k2 : wr.cell? ⟨w.heap.size, 2, none⟩ = some (.slice A3 n3 c3) := hbk.cell 2
          have k3 : wr.cell? ⟨w.heap.size, 3, none⟩ = some (.slice A4 n4 c4) := hbk.cell 3
          have d0 : wr.cell? ⟨w.heap.size + 1, 0, none⟩ = some (.int .i64 0) := hbf.cell 0
          have d1 : wr.cell? ⟨w.heap.size + 1, 1, none⟩ = some (.int .i64 0) := hbf.cell 1
          have d2 : wr.frozen? ⟨w.heap.size + 1, 0, none⟩ = false := hbf.frozen 0
          have d3 : wr.frozen? ⟨w.heap.size + 1, 1, none⟩ = false := hbf.frozen 1
          have e1 := HJ.out
          rw [List.drop_of_length_le (by have := L3.out; omega), firstBad] at e1
          simp only [Prod.mk.injEq] at e1
          obtain ⟨rfl, rfl⟩ := e1
          have HC := Lib.hid (cnfCheck_any n3 A4 n4 c4 F.clauses qc qa wr (HF.out.clauses.below (stays_arr stays_int) hbel (by omega)) (by omega) (by omega) m4 (H4'.out rfl))
          clear HJ
          go_wp2_with fail
          refine HC.out.mono ?_
          rintro e w' ⟨rfl, hb'⟩
          have hbk' := hbk.below hb' hz
          have hbf' := hbf.below hb' hz2
          have hbel' : Below w.heap.size w w' := hbel.trans (hb'.mono (by omega))
          clear k0 k1 k2 k3 d0 d1 d2 d3 hb' hz hz2 hbk hbf
          have hz2 : w.heap.size + 1 < w'.heap.size := hbf'.lt
          have hz : w.heap.size < w'.heap.size := by omega
          have k0 : w'.cell? ⟨w.heap.size, 0, none⟩ = some (.slice A1 n1 c1) := hbk'.cell 0
          have k1 : w'.cell? ⟨w.heap.size, 1, none⟩ = some (.slice A2 n2 c2) := hbk'.cell 1
          have k2 : w'.cell? ⟨w.heap.size, 2, none⟩ = some (.slice A3 n3 c3) := hbk'.cell 2
          have k3 : w'.cell? ⟨w.heap.size, 3, none⟩ = some (.slice A4 n4 c4) := hbk'.cell 3
          have d0 : w'.cell? ⟨w.heap.size + 1, 0, none⟩ = some (.int .i64 0) := hbf'.cell 0
          have d1 : w'.cell? ⟨w.heap.size + 1, 1, none⟩ = some (.int .i64 0) := hbf'.cell 1
          have d2 : w'.frozen? ⟨w.heap.size + 1, 0, none⟩ = false := hbf'.frozen 0
          have d3 : w'.frozen? ⟨w.heap.size + 1, 1, none⟩ = false := hbf'.frozen 1
          go_wp2_with fail
          refine bodyPost_ret (v := .agg #[.int .i64 qc, .int .i64 qa]) (by simp [results, Try.results5, go_sem, d0, d1]) rfl ⟨rfl, ?_⟩
          exact ((hbel').setCell (p := ⟨w.heap.size + 1, 0, none⟩) (by simp) _).setCell (p := ⟨w.heap.size + 1, 1, none⟩) (by simp) _
end Go.Proofs.Ytdncchlfeanlmaa
