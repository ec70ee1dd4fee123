/- Walk: whether a step is formed (printed by genJuS.py). -/
import Derived.Test.YtdncchlfeanlmaaJuQR
import Derived.Test.YtdncchlfeanlmaaCnfL
import Derived.Lib.QuietBelow
namespace Go.Proofs.Ytdncchlfeanlmaa
open Go.RowKit

set_option maxRecDepth 100000 in
set_option maxHeartbeats 4000000 in
theorem formed_any (G : Nat) (A3 : Option Addr) (na c3 : Nat) (kd : Int) (L : Option Addr) (nl cl : Nat) (lits : List Int) (M : Option Addr) (nm cm : Nat) (nums : List FracD) (ak aa ab : Int) (O : Option Addr) (no co : Nat) (of_ : List Int) (rk rt : Int) (w : World)
    (hq2 : w.cell? ⟨G, 2, none⟩ = some (.slice A3 na c3)) (hG : G < w.heap.size) (hna : na ≤ 120) (hlits : IntsB w w.heap.size L nl lits) (hnl : nl ≤ 9223372036854775807) (hcl : nl ≤ cl) (hnm : nums.length = nm) (hno : of_.length = no) :
    Calls Try.prog 25 #[.pointer (some ⟨G, 0, none⟩), .agg #[.int .i64 kd, .slice L nl cl, .slice M nm cm, .int .i64 ak, .int .i64 aa, .int .i64 ab, .slice O no co, .int .i64 rk, .int .i64 rt]] w fun e w' => e = .returned (.bool (formedF na ⟨kd, lits, nums, ⟨ak, aa, ab, ⟨of_, rk, rt⟩⟩⟩)) ∧ Below w.heap.size w w' := by
  have hb0 : Below w.heap.size w (w.alloc (.cells #[.int .i64 kd, .slice L nl cl, .slice M nm cm, .int .i64 ak, .int .i64 aa, .int .i64 ab, .slice O no co, .int .i64 rk, .int .i64 rt] 44)) := (Below.refl _ _).alloc (Nat.le_refl _) _
  have hk0 := Blk.new w 44 #[.int .i64 kd, .slice L nl cl, .slice M nm cm, .int .i64 ak, .int .i64 aa, .int .i64 ab, .slice O no co, .int .i64 rk, .int .i64 rt]
  have HK := Lib.hid (And.intro hb0 (And.intro hk0.lt hk0))
  have HG := Lib.hid (And.intro hG hq2)
  have hll := hlits.len
  obtain ⟨⟨ri, rc⟩, hbad⟩ : ∃ r, badL na [] lits 0 = r := ⟨_, rfl⟩
  have HBAD : Hid (∀ W, Below w.heap.size w W → Calls Try.prog 24 #[.slice L nl cl, .int .i64 na] W fun e w' => e = .returned (.tuple #[.int .i64 ri, .int .i64 rc]) ∧ Below W.heap.size W w') := fun W hW => badW_any na L nl cl lits ri rc W (hlits.below stays_int hW hW.size) hcl hnl (by omega) (by omega) hbad
  obtain ⟨Z, hZ⟩ : ∃ Z, decide (ak = 0 ∧ aa = 0 ∧ ab = 0 ∧ no = 0 ∧ rk = 0 ∧ rt = 0) = Z := ⟨_, rfl⟩
  have hz := zero_any ak aa ab O no co rk rt (w.alloc (.cells #[.int .i64 kd, .slice L nl cl, .slice M nm cm, .int .i64 ak, .int .i64 aa, .int .i64 ab, .slice O no co, .int .i64 rk, .int .i64 rt] 44))
  rw [hZ] at hz
  have hform : formedF na ⟨kd, lits, nums, ⟨ak, aa, ab, ⟨of_, rk, rt⟩⟩⟩ = (decide (¬ (kd < 1 ∨ 6 < kd)) && decide (¬ ((¬ kd = 4 ∧ 0 < nm) ∨ (¬ kd = 5 ∧ Z = false) ∨ (kd = 5 ∧ 0 < nl))) && (rc == 0)) := by
    unfold formedF zeroA
    simp only [hbad, hno, hnm, hll, hZ]
    rfl
  rw [hform]
  obtain ⟨R, hR⟩ : ∃ R, (decide (¬ (kd < 1 ∨ 6 < kd)) && decide (¬ ((¬ kd = 4 ∧ 0 < nm) ∨ (¬ kd = 5 ∧ Z = false) ∨ (kd = 5 ∧ 0 < nl))) && (rc == 0)) = R := ⟨_, rfl⟩
  rw [hR]
  have HR := Lib.hid hR
  have HZ := Lib.hid hz
  clear hR hform hz hZ hbad hlits hll hnm hno hb0 hk0 hq2 hG
  by_cases h1 : kd < 1
  · have HF : Hid (false = R) := by
      show _ = _
      rw [← HR.out]
      simp [h1]
    clear HZ
    go_enter Try.func25, Try.ntmps25
    go_wp2_with fail
    go_ret
    exact ⟨ret_bool HF.out, HK.out.1⟩
  · by_cases h2 : 6 < kd
    · have HF : Hid (false = R) := by
        show _ = _
        rw [← HR.out]
        simp [h2]
      clear HZ
      go_enter Try.func25, Try.ntmps25
      go_wp2_with fail
      go_ret
      exact ⟨ret_bool HF.out, HK.out.1⟩
    · by_cases h4 : kd = 4
      · subst h4
        cases Z with
        | false =>
          have HF : Hid (false = R) := by
            show _ = _
            rw [← HR.out]
            simp
          go_enter Try.func25, Try.ntmps25
          go_wp2_with fail
          refine HZ.out.mono ?_
          rintro e w9 ⟨rfl, hb9⟩
          have HB9 := Lib.hid hb9
          have c1 : w9.cell? ⟨w.heap.size, 1, none⟩ = some (.slice L nl cl) := (hb9.cell (p := ⟨w.heap.size, 1, none⟩) HK.out.2.1).trans (HK.out.2.2.cell 1)
          have c2 : w9.cell? ⟨w.heap.size, 2, none⟩ = some (.slice M nm cm) := (hb9.cell (p := ⟨w.heap.size, 2, none⟩) HK.out.2.1).trans (HK.out.2.2.cell 2)
          have c0 : w9.cell? ⟨w.heap.size, 0, none⟩ = some (.int .i64 4) := (hb9.cell (p := ⟨w.heap.size, 0, none⟩) HK.out.2.1).trans (HK.out.2.2.cell 0)
          have g2 : w9.cell? ⟨G, 2, none⟩ = some (.slice A3 na c3) := ((HK.out.1.trans (hb9.mono HK.out.1.size)).cell (p := ⟨G, 2, none⟩) HG.out.1).trans HG.out.2
          clear hb9
          go_wp2_with fail
          go_ret
          exact ⟨ret_bool HF.out, HK.out.1.trans (HB9.out.mono HK.out.1.size)⟩
        | true =>
          have HF : Hid ((rc == 0) = R) := by
            show _ = _
            rw [← HR.out]
            simp
          go_enter Try.func25, Try.ntmps25
          go_wp2_with fail
          refine HZ.out.mono ?_
          rintro e w9 ⟨rfl, hb9⟩
          have HB9 := Lib.hid hb9
          have c1 : w9.cell? ⟨w.heap.size, 1, none⟩ = some (.slice L nl cl) := (hb9.cell (p := ⟨w.heap.size, 1, none⟩) HK.out.2.1).trans (HK.out.2.2.cell 1)
          have c2 : w9.cell? ⟨w.heap.size, 2, none⟩ = some (.slice M nm cm) := (hb9.cell (p := ⟨w.heap.size, 2, none⟩) HK.out.2.1).trans (HK.out.2.2.cell 2)
          have c0 : w9.cell? ⟨w.heap.size, 0, none⟩ = some (.int .i64 4) := (hb9.cell (p := ⟨w.heap.size, 0, none⟩) HK.out.2.1).trans (HK.out.2.2.cell 0)
          have g2 : w9.cell? ⟨G, 2, none⟩ = some (.slice A3 na c3) := ((HK.out.1.trans (hb9.mono HK.out.1.size)).cell (p := ⟨G, 2, none⟩) HG.out.1).trans HG.out.2
          clear hb9
          have HBT : Hid (Below w.heap.size w w9) := HK.out.1.trans (HB9.out.mono HK.out.1.size)
          have r1 := cell_regrown c1
          have r2 := cell_regrown g2
          go_wp2_with fail
          refine wp_region_quiet_below (by kernel_rfl) (by kernel_rfl) ?_
          repeat (with_reducible refine wpQuiet_step (fun K hK => ?_); go_simp; first | (with_reducible refine hK _ ?_; clear hK K) | (apply Exists.intro; with_reducible refine ⟨fun _ => ?_, hK _ ?_⟩; (go_at_call 24; with_reducible exact Calls.regrown_of (HBAD.out _ (HBT.out.trans ((below_regrown w9 _ _).mono HBT.out.size)))); clear hK K))
          with_reducible refine wpQuiet_nil ?_
          intro _ hw'
          obtain ⟨⟨dq, osq⟩, hw''⟩ := hw'
          subst hw''
          go_wp2_with fail
          go_ret
          exact ⟨ret_bool HF.out, HBT.out.trans ((below_regrown w9 dq osq).mono HBT.out.size)⟩
      · have h4b : (kd != 4) = true := by simpa using h4
        by_cases hm : 0 < nm
        · have hmI : (0 : Int) < (nm : Int) := by omega
          have HF : Hid (false = R) := by
            show _ = _
            rw [← HR.out]
            simp [h4, hm]
          clear h4 HZ
          go_enter Try.func25, Try.ntmps25
          go_wp2_with fail
          go_ret
          exact ⟨ret_bool HF.out, HK.out.1⟩
        · obtain rfl : nm = 0 := by omega
          by_cases h5 : kd = 5
          · subst h5
            by_cases hn : 0 < nl
            · have hnI : (0 : Int) < (nl : Int) := by omega
              have HF : Hid (false = R) := by
                show _ = _
                rw [← HR.out]
                simp [hn]
              clear h4 hm HZ
              go_enter Try.func25, Try.ntmps25
              go_wp2_with fail
              go_ret
              exact ⟨ret_bool HF.out, HK.out.1⟩
            · obtain rfl : nl = 0 := by omega
              have HF : Hid ((rc == 0) = R) := by
                show _ = _
                rw [← HR.out]
                simp
              have c1 : (w.alloc (.cells #[.int .i64 5, .slice L 0 cl, .slice M 0 cm, .int .i64 ak, .int .i64 aa, .int .i64 ab, .slice O no co, .int .i64 rk, .int .i64 rt] 44)).cell? ⟨w.heap.size, 1, none⟩ = some (.slice L 0 cl) := HK.out.2.2.cell 1
              have g2 : (w.alloc (.cells #[.int .i64 5, .slice L 0 cl, .slice M 0 cm, .int .i64 ak, .int .i64 aa, .int .i64 ab, .slice O no co, .int .i64 rk, .int .i64 rt] 44)).cell? ⟨G, 2, none⟩ = some (.slice A3 na c3) := (HK.out.1.cell (p := ⟨G, 2, none⟩) HG.out.1).trans HG.out.2
              clear h4 hm hn HZ
              go_enter Try.func25, Try.ntmps25
              have r1 := cell_regrown c1
              have r2 := cell_regrown g2
              go_wp2_with fail
              refine wp_region_quiet_below (by kernel_rfl) (by kernel_rfl) ?_
              repeat (with_reducible refine wpQuiet_step (fun K hK => ?_); go_simp; first | (with_reducible refine hK _ ?_; clear hK K) | (apply Exists.intro; with_reducible refine ⟨fun _ => ?_, hK _ ?_⟩; (go_at_call 24; with_reducible exact Calls.regrown_of (HBAD.out _ (HK.out.1.trans ((below_regrown (w.alloc (.cells #[.int .i64 5, .slice L 0 cl, .slice M 0 cm, .int .i64 ak, .int .i64 aa, .int .i64 ab, .slice O no co, .int .i64 rk, .int .i64 rt] 44)) _ _).mono HK.out.1.size)))); clear hK K))
              with_reducible refine wpQuiet_nil ?_
              intro _ hw'
              obtain ⟨⟨dq, osq⟩, hw''⟩ := hw'
              subst hw''
              go_wp2_with fail
              go_ret
              exact ⟨ret_bool HF.out, HK.out.1.trans ((below_regrown (w.alloc (.cells #[.int .i64 5, .slice L 0 cl, .slice M 0 cm, .int .i64 ak, .int .i64 aa, .int .i64 ab, .slice O no co, .int .i64 rk, .int .i64 rt] 44)) dq osq).mono HK.out.1.size)⟩
          · have h5b : (kd != 5) = true := by simpa using h5
            have h5c : (kd == 5) = false := by simpa using h5
            cases Z with
            | false =>
              have HF : Hid (false = R) := by
                show _ = _
                rw [← HR.out]
                simp [h5]
              clear h4 h5 hm
              go_enter Try.func25, Try.ntmps25
              go_wp2_with fail
              refine HZ.out.mono ?_
              rintro e w9 ⟨rfl, hb9⟩
              have HB9 := Lib.hid hb9
              have c1 : w9.cell? ⟨w.heap.size, 1, none⟩ = some (.slice L nl cl) := (hb9.cell (p := ⟨w.heap.size, 1, none⟩) HK.out.2.1).trans (HK.out.2.2.cell 1)
              have c2 : w9.cell? ⟨w.heap.size, 2, none⟩ = some (.slice M 0 cm) := (hb9.cell (p := ⟨w.heap.size, 2, none⟩) HK.out.2.1).trans (HK.out.2.2.cell 2)
              have c0 : w9.cell? ⟨w.heap.size, 0, none⟩ = some (.int .i64 kd) := (hb9.cell (p := ⟨w.heap.size, 0, none⟩) HK.out.2.1).trans (HK.out.2.2.cell 0)
              have g2 : w9.cell? ⟨G, 2, none⟩ = some (.slice A3 na c3) := ((HK.out.1.trans (hb9.mono HK.out.1.size)).cell (p := ⟨G, 2, none⟩) HG.out.1).trans HG.out.2
              clear hb9
              go_wp2_with fail
              go_ret
              exact ⟨ret_bool HF.out, HK.out.1.trans (HB9.out.mono HK.out.1.size)⟩
            | true =>
              have HF : Hid ((rc == 0) = R) := by
                show _ = _
                rw [← HR.out]
                simp [h1, h2, h5]
              clear h4 h5 hm
              go_enter Try.func25, Try.ntmps25
              go_wp2_with fail
              refine HZ.out.mono ?_
              rintro e w9 ⟨rfl, hb9⟩
              have HB9 := Lib.hid hb9
              have c1 : w9.cell? ⟨w.heap.size, 1, none⟩ = some (.slice L nl cl) := (hb9.cell (p := ⟨w.heap.size, 1, none⟩) HK.out.2.1).trans (HK.out.2.2.cell 1)
              have c2 : w9.cell? ⟨w.heap.size, 2, none⟩ = some (.slice M 0 cm) := (hb9.cell (p := ⟨w.heap.size, 2, none⟩) HK.out.2.1).trans (HK.out.2.2.cell 2)
              have c0 : w9.cell? ⟨w.heap.size, 0, none⟩ = some (.int .i64 kd) := (hb9.cell (p := ⟨w.heap.size, 0, none⟩) HK.out.2.1).trans (HK.out.2.2.cell 0)
              have g2 : w9.cell? ⟨G, 2, none⟩ = some (.slice A3 na c3) := ((HK.out.1.trans (hb9.mono HK.out.1.size)).cell (p := ⟨G, 2, none⟩) HG.out.1).trans HG.out.2
              clear hb9
              have HBT : Hid (Below w.heap.size w w9) := HK.out.1.trans (HB9.out.mono HK.out.1.size)
              have r1 := cell_regrown c1
              have r2 := cell_regrown g2
              go_wp2_with fail
              refine wp_region_quiet_below (by kernel_rfl) (by kernel_rfl) ?_
              repeat (with_reducible refine wpQuiet_step (fun K hK => ?_); go_simp; first | (with_reducible refine hK _ ?_; clear hK K) | (apply Exists.intro; with_reducible refine ⟨fun _ => ?_, hK _ ?_⟩; (go_at_call 24; with_reducible exact Calls.regrown_of (HBAD.out _ (HBT.out.trans ((below_regrown w9 _ _).mono HBT.out.size)))); clear hK K))
              with_reducible refine wpQuiet_nil ?_
              intro _ hw'
              obtain ⟨⟨dq, osq⟩, hw''⟩ := hw'
              subst hw''
              go_wp2_with fail
              go_ret
              exact ⟨ret_bool HF.out, HBT.out.trans ((below_regrown w9 dq osq).mono HBT.out.size)⟩
end Go.Proofs.Ytdncchlfeanlmaa
