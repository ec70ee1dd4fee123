/- Walks: what is wrong with clauses: the reference. -/
import Derived.Test.YtkkpfdfoojcljaaGreatCnFr
import Derived.IntWalk
namespace Go.Proofs.YtkkpfdfoojcljaaGreat
open Go.RowKit

set_option maxRecDepth 100000 in
set_option maxHeartbeats 2000000 in
theorem cnfFault_any (vars : Int) (A : Option Addr) (n c : Nat) (xs : List (List Int)) (qc qa : Int) (w : World) (hxs : ArrB (AtArr AtInt 1) 1 w w.heap.size A n xs) (h0 : 0 ≤ vars) (h1 : vars ≤ 120) (hn : n ≤ maxLen)
    (hR : cnfF vars xs = (qc, qa)) :
    Calls Tryz.prog 15 #[.agg #[.int .i64 vars, .slice A n c]] w fun e w' => e = .returned (.agg #[.int .i64 qc, .int .i64 qa]) ∧ Below w.heap.size w w' := by
  unfold maxLen at hn
  have hlen := hxs.len
  rw [cnfF, hlen] at hR
  by_cases hmany : 400 < n
  · rw [if_pos hmany] at hR
    simp only [Prod.mk.injEq] at hR
    obtain ⟨rfl, rfl⟩ := hR
    clear hxs hlen
    go_enter Tryz.func15, Tryz.ntmps15
    go_wp2_with fail
    refine bodyPost_ret (v := .agg #[.int .i64 2, .int .i64 0]) (by simp [results, Tryz.results15, go_sem]) rfl ⟨rfl, ?_⟩
    exact ((Below.refl _ _).alloc (Nat.le_refl _) _).alloc (by simp) _
  · rw [if_neg hmany] at hR
    have HR := Lib.hid hR
    have HL := Lib.hid hlen
    clear hR hlen
    go_enter Tryz.func15, Tryz.ntmps15
    go_wp2_with fail
    go_loopw [3] (fun s wr => ∃ k : Nat, k ≤ n ∧ s = .int .i64 k ∧ Hid (firstBad (fun x _ => clauseCode vars x) (xs.drop k) k = (qc, qa)) ∧ Below w.heap.size w wr ∧ Blk wr w.heap.size 51 #[.int .i64 vars, .slice A n c] ∧ Blk wr (w.heap.size + 1) 33 #[.int .i64 0, .int .i64 0]) (fun s _ => n - (intOf s).toNat)
    case atStart => exact ⟨0, Nat.zero_le _, rfl, HR, ((Below.refl _ _).alloc (Nat.le_refl _) _).alloc (by simp) _, (Blk.new _ _ _).alloc _, by have := Blk.new (w.alloc (.cells #[.int .i64 vars, .slice A n c] 51)) 33 #[.int .i64 0, .int .i64 0]; rwa [World.size_alloc] at this⟩
    case round =>
      obtain ⟨k, hk, rfl, HK, hbel, hbk, hbf⟩ := hrel
      have hz2 : w.heap.size + 1 < wr.heap.size := hbf.lt
      have hz : w.heap.size < wr.heap.size := by omega
      have c0 : wr.cell? ⟨w.heap.size, 0, none⟩ = some (.int .i64 vars) := hbk.cell 0
      have c1 : wr.cell? ⟨w.heap.size, 1, none⟩ = some (.slice A n c) := hbk.cell 1
      have d0 : wr.cell? ⟨w.heap.size + 1, 0, none⟩ = some (.int .i64 0) := hbf.cell 0
      have d1 : wr.cell? ⟨w.heap.size + 1, 1, none⟩ = some (.int .i64 0) := hbf.cell 1
      have d2 : wr.frozen? ⟨w.heap.size + 1, 0, none⟩ = false := hbf.frozen 0
      have d3 : wr.frozen? ⟨w.heap.size + 1, 1, none⟩ = false := hbf.frozen 1
      by_cases hlt : k < n
      · obtain ⟨b, off, hx, A', n', c', rfl, hb, hcell0, hnc, hcm, har⟩ := arrs_get hxs hlt
        have hcell : wr.cell? ⟨b, off + k, none⟩ = some (.slice A' n' c') := (hbel.cell (p := ⟨b, off + k, none⟩) hb).trans hcell0
        unfold maxLen at hcm
        have e1 := HK.out
        rw [drop_cons hx, firstBad, clauseCode] at e1
        have hl2 := har.len
        generalize xs[k] = y at e1 har hl2
        rw [hl2] at e1
        have H2 := Lib.hid hl2
        clear hl2 HK HR hcell0
        by_cases hw : 24 < n'
        · rw [if_pos hw, if_neg (by omega)] at e1
          simp only [Prod.mk.injEq] at e1
          obtain ⟨rfl, rfl⟩ := e1
          go_wp2_with fail
          refine bodyPost_ret (v := .agg #[.int .i64 2, .int .i64 k]) (by simp [results, Tryz.results15, go_sem, d0, d1]) rfl ⟨rfl, ?_⟩
          exact ((hbel).setCell (p := ⟨w.heap.size + 1, 0, none⟩) (by simp) _).setCell (p := ⟨w.heap.size + 1, 1, none⟩) (by simp) _
        · rw [if_neg hw] at e1
          rcases hbd : badL vars [] y 0 with ⟨bi, bc⟩
          rw [hbd] at e1
          have HN := Lib.hid (show bc = 0 → firstBad (fun x _ => clauseCode vars x) (xs.drop (k + 1)) ((k : Int) + 1) = (qc, qa) from fun h => by rw [if_pos h] at e1; exact e1)
          have HB := Lib.hid (show ¬ bc = 0 → bc = qc ∧ (k : Int) = qa from fun h => by rw [if_neg h] at e1; simpa using e1)
          have HD := Lib.hid hbd
          clear hbd e1
          go_wp2_with fail
          have hbk0 := hbk
          have hbf0 := hbf
          have hbel0 := hbel
          clear hbk hbf hbel hz2 hz c0 c1 d0 d1 d2 d3 hcell
          go_loopw [5] (fun s wr => ∃ j : Nat, j ≤ n' ∧ s = .int .i64 j ∧ Hid (badL vars (y.take j) (y.drop j) j = (bi, bc)) ∧ Hid (∀ z ∈ y.take j, -vars ≤ z ∧ z ≤ vars) ∧ Below w.heap.size w wr ∧ Blk wr w.heap.size 51 #[.int .i64 vars, .slice (some ⟨b, off, none⟩) n c] ∧ Blk wr (w.heap.size + 1) 33 #[.int .i64 0, .int .i64 0]) (fun s _ => n' - (intOf s).toNat)
          case atStart => exact ⟨0, Nat.zero_le _, rfl, HD, (fun y hy => by simp at hy), hbel0, hbk0, hbf0⟩
          case round =>
            clear hbk0 hbf0 hbel0
            obtain ⟨j, hj, rfl, HJ, HA, hbel, hbk, hbf⟩ := hrel
            have hz2 : w.heap.size + 1 < wr.heap.size := hbf.lt
            have hz : w.heap.size < wr.heap.size := by omega
            have c0 : wr.cell? ⟨w.heap.size, 0, none⟩ = some (.int .i64 vars) := hbk.cell 0
            have c1 : wr.cell? ⟨w.heap.size, 1, none⟩ = some (.slice (some ⟨b, off, none⟩) n c) := hbk.cell 1
            have d0 : wr.cell? ⟨w.heap.size + 1, 0, none⟩ = some (.int .i64 0) := hbf.cell 0
            have d1 : wr.cell? ⟨w.heap.size + 1, 1, none⟩ = some (.int .i64 0) := hbf.cell 1
            have d2 : wr.frozen? ⟨w.heap.size + 1, 0, none⟩ = false := hbf.frozen 0
            have d3 : wr.frozen? ⟨w.heap.size + 1, 1, none⟩ = false := hbf.frozen 1
            by_cases hjl : j < n'
            · obtain ⟨b2, off2, hx2, rfl, hb2, hcw2, hlo, hhi⟩ := ints_get har hjl
              have e1 := HJ.out
              have hts := take_snoc_l hx2
              rw [drop_cons hx2, badL] at e1
              generalize y[j] = x at e1 hts hlo hhi hcw2
              have hcell2 : wr.cell? ⟨b2, off2 + j, none⟩ = some (.int .i64 x) := (hbel.cell (p := ⟨b2, off2 + j, none⟩) hb2).trans hcw2
              have HW2 := Lib.hid hcw2
              clear hcw2
              have HT := Lib.hid hts
              have hji : (j : Int) < (n' : Int) := by omega
              clear hts HJ HD
              by_cases hbad : litBad vars x = true
              · rw [if_pos hbad] at e1
                simp only [Prod.mk.injEq] at e1
                obtain ⟨rfl, rfl⟩ := e1
                obtain ⟨rfl, rfl⟩ := HB.out (by omega)
                have hb3 : x = 0 ∨ x < -vars ∨ vars < x := by simpa [litBad] using hbad
                clear hbad
                rcases (by omega : x = 0 ∨ (¬ x = 0 ∧ vars < x) ∨ (¬ x = 0 ∧ ¬ vars < x ∧ x < -vars)) with hy | ⟨hy, hy2⟩ | ⟨hy, hy2, hy3⟩
                · have hq : (x == 0) = true := by simpa using hy
                  clear hy hb3
                  go_wp2_with fail
                  go_quiet (fail)
                  go_wp2_with fail
                  refine bodyPost_ret (v := .agg #[.int .i64 3, .int .i64 k]) (by simp [results, Tryz.results15, go_sem, d0, d1]) rfl ⟨rfl, ?_⟩
                  exact ((below_drewN hbel _).setCell (p := ⟨w.heap.size + 1, 0, none⟩) (by simp) _).setCell (p := ⟨w.heap.size + 1, 1, none⟩) (by simp) _
                · have hq : (x == 0) = false := by simpa using hy
                  have hq2 : decide (vars < x) = true := by simpa using hy2
                  clear hy hb3
                  go_wp2_with fail
                  go_quiet (fail)
                  go_wp2_with fail
                  refine bodyPost_ret (v := .agg #[.int .i64 3, .int .i64 k]) (by simp [results, Tryz.results15, go_sem, d0, d1]) rfl ⟨rfl, ?_⟩
                  exact ((below_drewN hbel _).setCell (p := ⟨w.heap.size + 1, 0, none⟩) (by simp) _).setCell (p := ⟨w.heap.size + 1, 1, none⟩) (by simp) _
                · have hq : (x == 0) = false := by simpa using hy
                  have hq2 : decide (vars < x) = false := by simpa using hy2
                  have hq3 : decide (x < -vars) = true := by simpa using hy3
                  clear hy hb3
                  go_wp2_with fail
                  go_quiet (fail)
                  go_wp2_with fail
                  refine bodyPost_ret (v := .agg #[.int .i64 3, .int .i64 k]) (by simp [results, Tryz.results15, go_sem, d0, d1]) rfl ⟨rfl, ?_⟩
                  exact ((below_drewN hbel _).setCell (p := ⟨w.heap.size + 1, 0, none⟩) (by simp) _).setCell (p := ⟨w.heap.size + 1, 1, none⟩) (by simp) _
              · rw [if_neg hbad] at e1
                have hy : ¬ (x = 0 ∨ x < -vars ∨ vars < x) := by simpa [litBad] using hbad
                have hq : (x == 0) = false := by rw [beq_eq_false_iff_ne]; omega
                have hq2 : decide (vars < x) = false := by simp; omega
                have hq3 : decide (x < -vars) = false := by simp; omega
                have g1 : -vars ≤ x := by omega
                have g2 : x ≤ vars := by omega
                have hal : ∀ z ∈ y.take (j + 1), -vars ≤ z ∧ z ≤ vars := by
                  rw [HT.out]
                  intro z hz
                  rcases List.mem_append.1 hz with h | h
                  · exact HA.out z h
                  · obtain rfl : z = x := by simpa using h
                    omega
                have HL3 := Lib.hid hal
                have HP := Lib.hid (show (y.take j).any (sameVar x) = true → (7 : Int) = bc from fun h => by rw [if_pos h] at e1; simp only [Prod.mk.injEq] at e1; exact e1.2)
                have HQ := Lib.hid (show (y.take j).any (sameVar x) = false → badL vars (y.take j ++ [x]) (y.drop (j + 1)) ((j : Int) + 1) = (bi, bc) from fun h => by rw [if_neg (by simp [h])] at e1; exact e1)
                clear hy hbad e1 hal
                go_wp2_with fail
                go_quiet (fail)
                go_wp2_with fail
                have hbk1 := hbk.drewN nq
                have hbf1 := hbf.drewN nq
                have hbel1 := below_drewN hbel nq
                clear hbk hbf hbel hz2 hz c0 c1 d0 d1 d2 d3 hcell2 hq hq2 hq3
                go_loopw [6] (fun s wr => ∃ i : Nat, i ≤ j ∧ s = .int .i64 i ∧ Hid ((y.take i).any (sameVar x) = false) ∧ Below w.heap.size w wr ∧ Blk wr w.heap.size 51 #[.int .i64 vars, .slice (some ⟨b, off, none⟩) n c] ∧ Blk wr (w.heap.size + 1) 33 #[.int .i64 0, .int .i64 0]) (fun s _ => j - (intOf s).toNat)
                case atStart => exact ⟨0, Nat.zero_le _, rfl, rfl, hbel1, hbk1, hbf1⟩
                case round =>
                  clear hbk1 hbf1 hbel1
                  obtain ⟨i, hi, rfl, HI, hbel, hbk, hbf⟩ := hrel
                  have hz2 : w.heap.size + 1 < wr.heap.size := hbf.lt
                  have hz : w.heap.size < wr.heap.size := by omega
                  have c0 : wr.cell? ⟨w.heap.size, 0, none⟩ = some (.int .i64 vars) := hbk.cell 0
                  have c1 : wr.cell? ⟨w.heap.size, 1, none⟩ = some (.slice (some ⟨b, off, none⟩) n c) := hbk.cell 1
                  have d0 : wr.cell? ⟨w.heap.size + 1, 0, none⟩ = some (.int .i64 0) := hbf.cell 0
                  have d1 : wr.cell? ⟨w.heap.size + 1, 1, none⟩ = some (.int .i64 0) := hbf.cell 1
                  have d2 : wr.frozen? ⟨w.heap.size + 1, 0, none⟩ = false := hbf.frozen 0
                  have d3 : wr.frozen? ⟨w.heap.size + 1, 1, none⟩ = false := hbf.frozen 1
                  by_cases hil : i < j
                  · obtain ⟨b3, off3, hx3, hA3, hb3, hcw3, hlo3, hhi3⟩ := ints_get har (show i < n' by omega)
                    simp only [Option.some.injEq, Addr.mk.injEq, and_true] at hA3
                    obtain ⟨rfl, rfl⟩ := hA3
                    have hti := take_snoc_l hx3
                    have hmem : y[i] ∈ y.take j := List.mem_take_iff_getElem.2 ⟨i, by have := H2.out; omega, rfl⟩
                    generalize y[i] = z at hcw3 hlo3 hhi3 hti hmem
                    have hcellz : wr.cell? ⟨b2, off2 + i, none⟩ = some (.int .i64 z) := (hbel.cell (p := ⟨b2, off2 + i, none⟩) hb2).trans hcw3
                    have hcellx : wr.cell? ⟨b2, off2 + j, none⟩ = some (.int .i64 x) := (hbel.cell (p := ⟨b2, off2 + j, none⟩) hb2).trans HW2.out
                    have hin : (i : Int) < (n' : Int) := by omega
                    have hwx : IntKind.i64.wrap (-x) = -x := IntWalk.i64_in _ (by omega)
                    have HTI := Lib.hid hti
                    have HM := Lib.hid hmem
                    clear hcw3 hti hmem
                    by_cases hs : sameVar x z = true
                    · have h7 := HP.out (List.any_eq_true.2 ⟨z, HM.out, hs⟩)
                      subst h7
                      obtain ⟨rfl, rfl⟩ := HB.out (by omega)
                      have hs2 : z = x ∨ z = -x := by simpa [sameVar] using hs
                      clear hs
                      rcases (by omega : z = x ∨ (¬ z = x ∧ z = -x)) with hy | ⟨hy, hy2⟩
                      · have hq : (z == x) = true := by simpa using hy
                        clear hy hs2
                        go_wp2_with fail
                        go_quiet (fail)
                        go_wp2_with fail
                        refine bodyPost_ret (v := .agg #[.int .i64 7, .int .i64 k]) (by simp [results, Tryz.results15, go_sem, d0, d1]) rfl ⟨rfl, ?_⟩
                        exact ((below_drewN hbel _).setCell (p := ⟨w.heap.size + 1, 0, none⟩) (by simp) _).setCell (p := ⟨w.heap.size + 1, 1, none⟩) (by simp) _
                      · have hq : (z == x) = false := by simpa using hy
                        have hq2 : (z == -x) = true := by simpa using hy2
                        clear hy hs2 hy2
                        go_wp2_with fail
                        go_quiet (fail)
                        go_wp2_with fail
                        refine bodyPost_ret (v := .agg #[.int .i64 7, .int .i64 k]) (by simp [results, Tryz.results15, go_sem, d0, d1]) rfl ⟨rfl, ?_⟩
                        exact ((below_drewN hbel _).setCell (p := ⟨w.heap.size + 1, 0, none⟩) (by simp) _).setCell (p := ⟨w.heap.size + 1, 1, none⟩) (by simp) _
                    · have hs2 : ¬ (z = x ∨ z = -x) := by simpa [sameVar] using hs
                      have hq : (z == x) = false := by rw [beq_eq_false_iff_ne]; omega
                      have hq2 : (z == -x) = false := by rw [beq_eq_false_iff_ne]; omega
                      have HS := Lib.hid (show sameVar x z = false by simpa using hs)
                      clear hs hs2
                      go_wp2_with fail
                      go_quiet (fail)
                      go_wp2_with fail
                      go_roundw
                      case rel => exact ⟨i + 1, by omega, by go_num, by show _ = _; rw [HTI.out, List.any_append, HI.out]; simp [HS.out], below_drewN hbel _, hbk.drewN _, hbf.drewN _⟩
                      case measure => simp [intOf]; omega
                  · obtain rfl : i = j := by omega
                    have H1 := Lib.hid (HQ.out HI.out)
                    clear HI HQ HP
                    go_wp2_with fail
                    go_roundw
                    case rel => exact ⟨i + 1, by omega, by go_num, by show _ = _; rw [HT.out, Int.natCast_add]; exact H1.out, HL3, hbel, hbk, hbf⟩
                    case measure => simp [intOf]; omega
            · obtain rfl : j = n' := by omega
              have e1 := HJ.out
              rw [List.drop_of_length_le (by have := H2.out; omega), badL] at e1
              simp only [Prod.mk.injEq] at e1
              obtain ⟨rfl, rfl⟩ := e1
              have H1 := Lib.hid (HN.out rfl)
              clear HJ HA HD HN HB
              go_wp2_with fail
              go_roundw
              case rel => exact ⟨k + 1, by omega, by go_num, by show _ = _; rw [Int.natCast_add]; exact H1.out, hbel, hbk, hbf⟩
              case measure => simp [intOf]; omega
      · obtain rfl : k = n := by omega
        have e1 := HK.out
        rw [List.drop_of_length_le (by have := HL.out; omega), firstBad] at e1
        simp only [Prod.mk.injEq] at e1
        obtain ⟨rfl, rfl⟩ := e1
        clear HK HR hxs
        go_wp2_with fail
        refine bodyPost_ret (v := .agg #[.int .i64 0, .int .i64 0]) (by simp [results, Tryz.results15, go_sem, d0, d1]) rfl ⟨rfl, ?_⟩
        exact ((hbel).setCell (p := ⟨w.heap.size + 1, 0, none⟩) (by simp) _).setCell (p := ⟨w.heap.size + 1, 1, none⟩) (by simp) _
end Go.Proofs.YtkkpfdfoojcljaaGreat
