/- Walks: what is wrong with clauses: the program's check. -/
import Derived.Test.YtpceiifacendfaaCnf
namespace Go.Proofs.Ytpceiifacendfaa
open Go.RowKit

set_option maxHeartbeats 1000000 in
theorem cnfCheck_any (vars : Int) (A : Option Addr) (n c : Nat) (xs : List (List Int)) (qc qa : Int) (w : World) (hxs : ArrB (AtArr AtInt 1) 1 w w.heap.size A n xs) (h0 : 0 ≤ vars) (h1 : vars ≤ 120) (hn : n ≤ maxLen)
    (hR : cnfF vars xs = (qc, qa)) :
    Calls Try.prog 20 #[.agg #[.int .i64 vars, .slice A n c]] w fun e w' => e = .returned (.agg #[.int .i64 qc, .int .i64 qa]) ∧ Below w.heap.size w w' := by
  unfold maxLen at hn
  have hlen := hxs.len
  rw [cnfF, hlen] at hR
  by_cases hmany : 400 < n
  · rw [if_pos hmany] at hR
    simp only [Prod.mk.injEq] at hR
    obtain ⟨rfl, rfl⟩ := hR
    clear hxs hlen
    go_enter Try.func20, Try.ntmps20
    go_wp2_with fail
    refine bodyPost_ret (v := .agg #[.int .i64 2, .int .i64 0]) (by simp [results, Try.results20, go_sem]) rfl ⟨rfl, ?_⟩
    exact ((Below.refl _ _).alloc (Nat.le_refl _) _).alloc (by simp) _
  · rw [if_neg hmany] at hR
    have HR := Lib.hid hR
    have HL := Lib.hid hlen
    clear hR hlen
    go_enter Try.func20, Try.ntmps20
    go_wp2_with fail
    go_loopw [26] (fun s wr => ∃ k : Nat, k ≤ n ∧ s = .int .i64 k ∧ Hid (firstBad (fun x _ => clauseCode vars x) (xs.drop k) k = (qc, qa)) ∧ Below w.heap.size w wr ∧ Blk wr w.heap.size 58 #[.int .i64 vars, .slice A n c] ∧ Blk wr (w.heap.size + 1) 29 #[.int .i64 0, .int .i64 0]) (fun s _ => n - (intOf s).toNat)
    case atStart => exact ⟨0, Nat.zero_le _, rfl, HR, ((Below.refl _ _).alloc (Nat.le_refl _) _).alloc (by simp) _, (Blk.new _ _ _).alloc _, by have := Blk.new (w.alloc (.cells #[.int .i64 vars, .slice A n c] 58)) 29 #[.int .i64 0, .int .i64 0]; rwa [World.size_alloc] at this⟩
    case round =>
      obtain ⟨k, hk, rfl, HK, hbel, hbk, hbf⟩ := hrel
      have hz2 : w.heap.size + 1 < wr.heap.size := hbf.lt
      have hz : w.heap.size < wr.heap.size := by omega
      have c0 : wr.cell? ⟨w.heap.size, 0, none⟩ = some (.int .i64 vars) := hbk.cell 0
      have c1 : wr.cell? ⟨w.heap.size, 1, none⟩ = some (.slice A n c) := hbk.cell 1
      have d0 : wr.cell? ⟨w.heap.size + 1, 0, none⟩ = some (.int .i64 0) := hbf.cell 0
      have d1 : wr.cell? ⟨w.heap.size + 1, 1, none⟩ = some (.int .i64 0) := hbf.cell 1
      have y0 : wr.frozen? ⟨w.heap.size + 1, 0, none⟩ = false := hbf.frozen 0
      have y1 : wr.frozen? ⟨w.heap.size + 1, 1, none⟩ = false := hbf.frozen 1
      by_cases hlt : k < n
      · obtain ⟨b, off, hx, A', n', c', rfl, hb, hcell, hnc, hcm, har⟩ := arrs_get (hxs.below (stays_arr stays_int) hbel (Nat.le_refl _)) hlt
        unfold maxLen at hcm
        have e1 := HK.out
        rw [drop_cons hx, firstBad, clauseCode] at e1
        have hl2 := har.len
        generalize xs[k] = y at e1 har hl2
        rw [hl2] at e1
        have H2 := Lib.hid hl2
        clear hl2 HK HR hxs
        by_cases hw : 24 < n'
        · rw [if_pos hw, if_neg (by omega)] at e1
          simp only [Prod.mk.injEq] at e1
          obtain ⟨rfl, rfl⟩ := e1
          go_wp2_with fail
          refine bodyPost_ret (v := .agg #[.int .i64 2, .int .i64 k]) (by simp [results, Try.results20, go_sem, d0, d1]) rfl ⟨rfl, ?_⟩
          exact (hbel.setCell (p := ⟨w.heap.size + 1, 0, none⟩) (by simp) _).setCell (p := ⟨w.heap.size + 1, 1, none⟩) (by simp) _
        · rw [if_neg hw] at e1
          rcases hbd : badL vars [] y 0 with ⟨bi, bc⟩
          rw [hbd] at e1
          have HC := Lib.hid (bad_any vars A' n' c' y bi bc wr (har.below stays_int (Below.refl _ _) (by omega)) hnc (by omega) h0 h1 hbd)
          clear hbd har
          by_cases hbc : bc = 0
          · subst hbc
            have H1 := Lib.hid (show firstBad (fun x _ => clauseCode vars x) (xs.drop (k + 1)) ((k : Int) + 1) = (qc, qa) from e1)
            clear e1
            go_wp2_with fail
            refine HC.out.mono ?_
            rintro e w' ⟨rfl, hb'⟩
            go_wp2_with fail
            go_roundw
            case rel => exact ⟨k + 1, by omega, by go_num, by show _ = _; rw [Int.natCast_add]; exact H1.out, hbel.trans (hb'.mono (by omega)), hbk.below hb' hz, hbf.below hb' hz2⟩
            case measure => simp [intOf]; omega
          · rw [if_neg hbc] at e1
            simp only [Prod.mk.injEq] at e1
            obtain ⟨rfl, rfl⟩ := e1
            have hq : (bc != 0) = true := by simpa using hbc
            clear hbc
            go_wp2_with fail
            refine HC.out.mono ?_
            rintro e w' ⟨rfl, hb'⟩
            have hz2' : w.heap.size + 1 < w'.heap.size := by have := hb'.size; omega
            have hbf' := hbf.below hb' hz2
            have d0' : w'.cell? ⟨w.heap.size + 1, 0, none⟩ = some (.int .i64 0) := hbf'.cell 0
            have d1' : w'.cell? ⟨w.heap.size + 1, 1, none⟩ = some (.int .i64 0) := hbf'.cell 1
            have y0' : w'.frozen? ⟨w.heap.size + 1, 0, none⟩ = false := hbf'.frozen 0
            have y1' : w'.frozen? ⟨w.heap.size + 1, 1, none⟩ = false := hbf'.frozen 1
            have hbel' : Below w.heap.size w w' := hbel.trans (hb'.mono (by omega))
            clear hb' hbf' d0 d1 y0 y1
            go_wp2_with fail
            refine bodyPost_ret (v := .agg #[.int .i64 bc, .int .i64 k]) (by simp [results, Try.results20, go_sem, d0', d1']) rfl ⟨rfl, ?_⟩
            exact (hbel'.setCell (p := ⟨w.heap.size + 1, 0, none⟩) (by simp) _).setCell (p := ⟨w.heap.size + 1, 1, none⟩) (by simp) _
      · obtain rfl : k = n := by omega
        have e1 := HK.out
        rw [List.drop_of_length_le (by have := HL.out; omega), firstBad] at e1
        simp only [Prod.mk.injEq] at e1
        obtain ⟨rfl, rfl⟩ := e1
        clear HK HR hxs
        go_wp2_with fail
        refine bodyPost_ret (v := .agg #[.int .i64 0, .int .i64 0]) (by simp [results, Try.results20, go_sem, d0, d1]) rfl ⟨rfl, ?_⟩
        exact (hbel.setCell (p := ⟨w.heap.size + 1, 0, none⟩) (by simp) _).setCell (p := ⟨w.heap.size + 1, 1, none⟩) (by simp) _
end Go.Proofs.Ytpceiifacendfaa
