/- Walk: cnf.Bad at literals of whatever length. (printed by genCnfL.py out of XCnf) · Walks: whether a step is formed. · Walk: whether a step is formed (printed by genJuS.py). · Walks: slices.IndexFunc, slices.ContainsFunc over clauses. -/
import Derived.Test.YthjfiomcpihlaaaGreatCnf2
import Derived.Test.YthjfiomcpihlaaaGreatJuIJ
import Derived.Lib.QuietBelow
import Derived.Test.YthjfiomcpihlaaaGreatFuFr
namespace Go.Proofs.YthjfiomcpihlaaaGreat
open Go.RowKit

theorem vars_few : ∀ (n : Nat) (l : List Nat), (∀ x ∈ l, 1 ≤ x ∧ x ≤ n) → l.Nodup → l.length ≤ n
  | 0, l, h, _ => by
    cases l with
    | nil => simp
    | cons x r => have := h x (List.mem_cons_self ..); omega
  | n + 1, l, h, hd => by
    by_cases hm : (n + 1) ∈ l
    · have h1 := vars_few n (l.erase (n + 1)) (fun x hx => by
        have h2 := h x (List.mem_of_mem_erase hx)
        have h3 : x ≠ n + 1 := (List.Nodup.mem_erase_iff hd).1 hx |>.1
        omega) (hd.erase _)
      rw [List.length_erase_of_mem hm] at h1
      omega
    · have := vars_few n l (fun x hx => by
        have h2 := h x hx
        have h3 : x ≠ n + 1 := fun e => hm (e ▸ hx)
        omega) hd
      omega
set_option maxHeartbeats 1000000 in
theorem badW_any (vars : Int) (A : Option Addr) (n c : Nat) (xs : List Int) (ri rc : Int) (w : World) (hxs : IntsB w w.heap.size A n xs) (hnc : n ≤ c) (hn : n ≤ 9223372036854775807) (h0 : 0 ≤ vars) (h1 : vars ≤ 120)
    (hR : badL vars [] xs 0 = (ri, rc)) :
    Calls Tryz.prog 44 #[.slice A n c, .int .i64 vars] w fun e w' => e = .returned (.tuple #[.int .i64 ri, .int .i64 rc]) ∧ Below w.heap.size w w' := by
  have HR := Lib.hid hR
  have EG := Lib.hid (show ∀ args w, (callFunc 73 args).run Tryz.prog w = .ok (.enter 73 args) w from enters_of Tryz.func73 (by kernel_rfl) rfl)
  clear hR
  go_enter Tryz.func44, Tryz.ntmps44
  go_wp2_with fail
  go_loopw [10] (fun s wr => ∃ k : Nat, k ≤ n ∧ s = .int .i64 k ∧ Hid (badL vars (xs.take k) (xs.drop k) k = (ri, rc)) ∧ Hid ((∀ y ∈ xs.take k, ¬ y = 0 ∧ -vars ≤ y ∧ y ≤ vars) ∧ (xs.take k).Pairwise (fun a b => ¬ a.natAbs = b.natAbs)) ∧ Below w.heap.size w wr) (fun s _ => n - (intOf s).toNat)
  case atStart => exact ⟨0, Nat.zero_le _, rfl, HR, ⟨fun y hy => by simp at hy, by simp⟩, Below.refl _ _⟩
  case round =>
    obtain ⟨k, hk, rfl, HK, HA, hbel⟩ := hrel
    have hz := hbel.size
    by_cases hlt : k < n
    · obtain ⟨b, off, hx, rfl, hb, hcell, hlo, hhi⟩ := ints_get (hxs.below stays_int hbel (Nat.le_refl _)) hlt
      have e1 := HK.out
      have hts := take_snoc_l hx
      rw [drop_cons hx, badL] at e1
      generalize xs[k] = y at e1 hts hlo hhi hcell
      have HT := Lib.hid hts
      clear hts HK HR
      by_cases hbad : litBad vars y = true
      · rw [if_pos hbad] at e1
        simp only [Prod.mk.injEq] at e1
        obtain ⟨rfl, rfl⟩ := e1
        have hb3 : y = 0 ∨ y < -vars ∨ vars < y := by simpa [litBad] using hbad
        clear hbad
        rcases (by omega : y = 0 ∨ (¬ y = 0 ∧ y < -vars) ∨ (¬ y = 0 ∧ ¬ y < -vars ∧ vars < y)) with hy | ⟨hy, hy2⟩ | ⟨hy, hy2, hy3⟩
        · have hq : (y == 0) = true := by simpa using hy
          clear hy hb3
          go_wp2_with fail
          go_ret2
          exact ⟨rfl, hbel.alloc hz _⟩
        · have hq : (y == 0) = false := by simpa using hy
          clear hy hb3
          go_wp2_with fail
          go_ret2
          exact ⟨rfl, hbel.alloc hz _⟩
        · have hq : (y == 0) = false := by simpa using hy
          clear hy hb3
          go_wp2_with fail
          go_ret2
          exact ⟨rfl, hbel.alloc hz _⟩
      · rw [if_neg hbad] at e1
        have hy : ¬ (y = 0 ∨ y < -vars ∨ vars < y) := by simpa [litBad] using hbad
        have hq : (y == 0) = false := by rw [beq_eq_false_iff_ne]; omega
        have hy2 : ¬ y < -vars := by omega
        have hy3 : ¬ vars < y := by omega
        have har : IntsB (wr.alloc (.cells #[.int .i64 y] 3)) (wr.heap.size + 1) (some ⟨b, off, none⟩) k (xs.take k) := Arr.take (hxs.below stays_int (hbel.alloc hz _) (by omega)) (Nat.le_of_lt hlt)
        have hk120 : k ≤ 120 := by
          have h4 := vars_few 120 ((xs.take k).map Int.natAbs) (fun x hx => by
            obtain ⟨l, hl, rfl⟩ := List.mem_map.1 hx
            have := HA.out.1 l hl
            omega) (by rw [List.Nodup, List.pairwise_map]; exact HA.out.2)
          rw [List.length_map, List.length_take] at h4
          have := hxs.len
          omega
        have hal : (xs.take k).any (sameVar y) = false → ((∀ z ∈ xs.take (k + 1), ¬ z = 0 ∧ -vars ≤ z ∧ z ≤ vars) ∧ (xs.take (k + 1)).Pairwise (fun a b => ¬ a.natAbs = b.natAbs)) := by
          intro hany
          rw [HT.out]
          refine ⟨fun z hz => ?_, ?_⟩
          · rcases List.mem_append.1 hz with h | h
            · exact HA.out.1 z h
            · obtain rfl : z = y := by simpa using h
              omega
          · rw [List.pairwise_append]
            refine ⟨HA.out.2, List.pairwise_singleton _ _, fun a ha b hb e => ?_⟩
            rw [List.mem_singleton] at hb
            subst hb
            have := List.any_eq_false.1 hany a ha
            simp only [sameVar, decide_eq_true_eq] at this
            omega
        have HC := Lib.hid (fun R hR => containsInts_any 73 #[.pointer (some ⟨wr.heap.size, 0, none⟩)] EG.out (sameVar y) (some ⟨b, off, none⟩) k c (xs.take k) R (wr.alloc (.cells #[.int .i64 y] 3)) (by simpa using har) (by omega)
          (bad1_pred y wr.heap.size (xs.take k) _ (by simp) (by simp) (by omega) (by omega) (fun z hz => by have := HA.out.1 z hz; omega)) hR)
        have HL := Lib.hid hal
        clear har hal hbad hy HA
        by_cases hany : (xs.take k).any (sameVar y) = true
        · rw [if_pos hany] at e1
          simp only [Prod.mk.injEq] at e1
          obtain ⟨rfl, rfl⟩ := e1
          have HN := Lib.hid hany
          clear hany
          go_wp2_with fail
          refine (HC.out true HN.out).mono ?_
          rintro e w' ⟨rfl, hb'⟩
          go_wp2_with fail
          go_ret2
          exact ⟨rfl, (hbel.alloc hz _).trans (hb'.mono (by simp; omega))⟩
        · rw [if_neg hany] at e1
          have HN := Lib.hid (show (xs.take k).any (sameVar y) = false by simpa using hany)
          have H1 := Lib.hid e1
          clear hany e1
          go_wp2_with fail
          refine (HC.out false HN.out).mono ?_
          rintro e w' ⟨rfl, hb'⟩
          go_wp2_with fail
          go_roundw
          case rel => exact ⟨k + 1, by omega, by go_num, by show _ = _; rw [HT.out, Int.natCast_add]; exact H1.out, HL.out HN.out, (hbel.alloc hz _).trans (hb'.mono (by simp; omega))⟩
          case measure => simp [intOf]; omega
    · obtain rfl : k = n := by omega
      have e1 := HK.out
      rw [List.drop_of_length_le (by have := hxs.len; omega), badL] at e1
      simp only [Prod.mk.injEq] at e1
      obtain ⟨rfl, rfl⟩ := e1
      clear HK HA HR
      go_wp2_with fail
      go_ret2
      exact ⟨rfl, hbel⟩
end Go.Proofs.YthjfiomcpihlaaaGreat
namespace Go.Proofs.YthjfiomcpihlaaaGreat
open Go.RowKit

set_option maxHeartbeats 1000000 in
theorem zero_any (k a b : Int) (O : Option Addr) (no co : Nat) (rk rt : Int) (w : World) :
    Calls Tryz.prog 45 #[.agg #[.int .i64 k, .int .i64 a, .int .i64 b, .slice O no co, .int .i64 rk, .int .i64 rt]] w fun e w' => e = .returned (.bool (decide (k = 0 ∧ a = 0 ∧ b = 0 ∧ no = 0 ∧ rk = 0 ∧ rt = 0))) ∧ Below w.heap.size w w' := by
  have hb0 : Below w.heap.size w (w.alloc (.cells #[.int .i64 k, .int .i64 a, .int .i64 b, .slice O no co, .int .i64 rk, .int .i64 rt] 47)) := (Below.refl _ _).alloc (Nat.le_refl _) _
  have HB := Lib.hid hb0
  clear hb0
  obtain ⟨R, hR⟩ : ∃ R, decide (k = 0 ∧ a = 0 ∧ b = 0 ∧ no = 0 ∧ rk = 0 ∧ rt = 0) = R := ⟨_, rfl⟩
  rw [hR]
  by_cases h1 : k = 0
  · have h1b : (k == 0) = true := by simpa using h1
    by_cases h2 : a = 0
    · have h2b : (a == 0) = true := by simpa using h2
      by_cases h3 : b = 0
      · have h3b : (b == 0) = true := by simpa using h3
        by_cases h4 : no = 0
        · have h4b : ((no : Int) == 0) = true := by simpa using h4
          by_cases h5 : rk = 0
          · have h5b : (rk == 0) = true := by simpa using h5
            obtain ⟨bb, h6b⟩ : ∃ bb, (rt == 0) = bb := ⟨_, rfl⟩
            have HR : Hid (bb = R) := by
              show _ = _
              rw [← hR, ← h6b]
              simp [h1, h2, h3, h4, h5]
              rfl
            clear h1 h2 h3 h4 h5 hR
            go_enter Tryz.func45, Tryz.ntmps45
            go_wp2_with fail
            go_ret
            exact ⟨ret_bool HR.out, HB.out⟩
          · have h5b : (rk == 0) = false := by simpa using h5
            have HR : Hid (false = R) := by
              show _ = _
              rw [← hR]
              simp [h5]
            clear h1 h2 h3 h4 h5 hR
            go_enter Tryz.func45, Tryz.ntmps45
            go_wp2_with fail
            go_ret
            exact ⟨ret_bool HR.out, HB.out⟩
        · have h4b : ((no : Int) == 0) = false := by simpa using h4
          have HR : Hid (false = R) := by
            show _ = _
            rw [← hR]
            simp [h4]
          clear h1 h2 h3 h4 hR
          go_enter Tryz.func45, Tryz.ntmps45
          go_wp2_with fail
          go_ret
          exact ⟨ret_bool HR.out, HB.out⟩
      · have h3b : (b == 0) = false := by simpa using h3
        have HR : Hid (false = R) := by
          show _ = _
          rw [← hR]
          simp [h3]
        clear h1 h2 h3 hR
        go_enter Tryz.func45, Tryz.ntmps45
        go_wp2_with fail
        go_ret
        exact ⟨ret_bool HR.out, HB.out⟩
    · have h2b : (a == 0) = false := by simpa using h2
      have HR : Hid (false = R) := by
        show _ = _
        rw [← hR]
        simp [h2]
      clear h1 h2 hR
      go_enter Tryz.func45, Tryz.ntmps45
      go_wp2_with fail
      go_ret
      exact ⟨ret_bool HR.out, HB.out⟩
  · have h1b : (k == 0) = false := by simpa using h1
    have HR : Hid (false = R) := by
      show _ = _
      rw [← hR]
      simp [h1]
    clear h1 hR
    go_enter Tryz.func45, Tryz.ntmps45
    go_wp2_with fail
    go_ret
    exact ⟨ret_bool HR.out, HB.out⟩
end Go.Proofs.YthjfiomcpihlaaaGreat
namespace Go.Proofs.YthjfiomcpihlaaaGreat
open Go.RowKit

set_option maxRecDepth 100000 in
set_option maxHeartbeats 4000000 in
theorem formed_any (G : Nat) (A3 : Option Addr) (na c3 : Nat) (kd : Int) (L : Option Addr) (nl cl : Nat) (lits : List Int) (M : Option Addr) (nm cm : Nat) (nums : List FracD) (ak aa ab : Int) (O : Option Addr) (no co : Nat) (of_ : List Int) (rk rt : Int) (w : World)
    (hq2 : w.cell? ⟨G, 2, none⟩ = some (.slice A3 na c3)) (hG : G < w.heap.size) (hna : na ≤ 120) (hlits : IntsB w w.heap.size L nl lits) (hnl : nl ≤ 9223372036854775807) (hcl : nl ≤ cl) (hnm : nums.length = nm) (hno : of_.length = no) :
    Calls Tryz.prog 19 #[.pointer (some ⟨G, 0, none⟩), .agg #[.int .i64 kd, .slice L nl cl, .slice M nm cm, .int .i64 ak, .int .i64 aa, .int .i64 ab, .slice O no co, .int .i64 rk, .int .i64 rt]] w fun e w' => e = .returned (.bool (formedF na ⟨kd, lits, nums, ⟨ak, aa, ab, ⟨of_, rk, rt⟩⟩⟩)) ∧ Below w.heap.size w w' := by
  have hb0 : Below w.heap.size w (w.alloc (.cells #[.int .i64 kd, .slice L nl cl, .slice M nm cm, .int .i64 ak, .int .i64 aa, .int .i64 ab, .slice O no co, .int .i64 rk, .int .i64 rt] 49)) := (Below.refl _ _).alloc (Nat.le_refl _) _
  have hk0 := Blk.new w 49 #[.int .i64 kd, .slice L nl cl, .slice M nm cm, .int .i64 ak, .int .i64 aa, .int .i64 ab, .slice O no co, .int .i64 rk, .int .i64 rt]
  have HK := Lib.hid (And.intro hb0 (And.intro hk0.lt hk0))
  have HG := Lib.hid (And.intro hG hq2)
  have hll := hlits.len
  obtain ⟨⟨ri, rc⟩, hbad⟩ : ∃ r, badL na [] lits 0 = r := ⟨_, rfl⟩
  have HBAD : Hid (∀ W, Below w.heap.size w W → Calls Tryz.prog 44 #[.slice L nl cl, .int .i64 na] W fun e w' => e = .returned (.tuple #[.int .i64 ri, .int .i64 rc]) ∧ Below W.heap.size W w') := fun W hW => badW_any na L nl cl lits ri rc W (hlits.below stays_int hW hW.size) hcl hnl (by omega) (by omega) hbad
  obtain ⟨Z, hZ⟩ : ∃ Z, decide (ak = 0 ∧ aa = 0 ∧ ab = 0 ∧ no = 0 ∧ rk = 0 ∧ rt = 0) = Z := ⟨_, rfl⟩
  have hz := zero_any ak aa ab O no co rk rt (w.alloc (.cells #[.int .i64 kd, .slice L nl cl, .slice M nm cm, .int .i64 ak, .int .i64 aa, .int .i64 ab, .slice O no co, .int .i64 rk, .int .i64 rt] 49))
  rw [hZ] at hz
  have hform : formedF na ⟨kd, lits, nums, ⟨ak, aa, ab, ⟨of_, rk, rt⟩⟩⟩ = (decide (¬ (kd < 1 ∨ 6 < kd)) && decide (¬ ((¬ kd = 4 ∧ 0 < nm) ∨ (¬ kd = 5 ∧ Z = false) ∨ (kd = 5 ∧ 0 < nl))) && (rc == 0)) := by
    unfold formedF zeroA
    simp only [hbad, hno, hnm, hll, hZ]
    rfl
  rw [hform]
  obtain ⟨R, hR⟩ : ∃ R, (decide (¬ (kd < 1 ∨ 6 < kd)) && decide (¬ ((¬ kd = 4 ∧ 0 < nm) ∨ (¬ kd = 5 ∧ Z = false) ∨ (kd = 5 ∧ 0 < nl))) && (rc == 0)) = R := ⟨_, rfl⟩
  rw [hR]
  have HR := Lib.hid hR
  have HZ := Lib.hid hz
  clear hR hform hz hZ hbad hlits hll hnm hno hb0 hk0 hq2 hG
  by_cases h1 : kd < 1
  · have HF : Hid (false = R) := by
      show _ = _
      rw [← HR.out]
      simp [h1]
    clear HZ
    go_enter Tryz.func19, Tryz.ntmps19
    go_wp2_with fail
    go_ret
    exact ⟨ret_bool HF.out, HK.out.1⟩
  · by_cases h2 : 6 < kd
    · have HF : Hid (false = R) := by
        show _ = _
        rw [← HR.out]
        simp [h2]
      clear HZ
      go_enter Tryz.func19, Tryz.ntmps19
      go_wp2_with fail
      go_ret
      exact ⟨ret_bool HF.out, HK.out.1⟩
    · by_cases h4 : kd = 4
      · subst h4
        cases Z with
        | false =>
          have HF : Hid (false = R) := by
            show _ = _
            rw [← HR.out]
            simp
          go_enter Tryz.func19, Tryz.ntmps19
          go_wp2_with fail
          refine HZ.out.mono ?_
          rintro e w9 ⟨rfl, hb9⟩
          have HB9 := Lib.hid hb9
          have c1 : w9.cell? ⟨w.heap.size, 1, none⟩ = some (.slice L nl cl) := (hb9.cell (p := ⟨w.heap.size, 1, none⟩) HK.out.2.1).trans (HK.out.2.2.cell 1)
          have c2 : w9.cell? ⟨w.heap.size, 2, none⟩ = some (.slice M nm cm) := (hb9.cell (p := ⟨w.heap.size, 2, none⟩) HK.out.2.1).trans (HK.out.2.2.cell 2)
          have c0 : w9.cell? ⟨w.heap.size, 0, none⟩ = some (.int .i64 4) := (hb9.cell (p := ⟨w.heap.size, 0, none⟩) HK.out.2.1).trans (HK.out.2.2.cell 0)
          have g2 : w9.cell? ⟨G, 2, none⟩ = some (.slice A3 na c3) := ((HK.out.1.trans (hb9.mono HK.out.1.size)).cell (p := ⟨G, 2, none⟩) HG.out.1).trans HG.out.2
          clear hb9
          go_wp2_with fail
          go_ret
          exact ⟨ret_bool HF.out, HK.out.1.trans (HB9.out.mono HK.out.1.size)⟩
        | true =>
          have HF : Hid ((rc == 0) = R) := by
            show _ = _
            rw [← HR.out]
            simp
          go_enter Tryz.func19, Tryz.ntmps19
          go_wp2_with fail
          refine HZ.out.mono ?_
          rintro e w9 ⟨rfl, hb9⟩
          have HB9 := Lib.hid hb9
          have c1 : w9.cell? ⟨w.heap.size, 1, none⟩ = some (.slice L nl cl) := (hb9.cell (p := ⟨w.heap.size, 1, none⟩) HK.out.2.1).trans (HK.out.2.2.cell 1)
          have c2 : w9.cell? ⟨w.heap.size, 2, none⟩ = some (.slice M nm cm) := (hb9.cell (p := ⟨w.heap.size, 2, none⟩) HK.out.2.1).trans (HK.out.2.2.cell 2)
          have c0 : w9.cell? ⟨w.heap.size, 0, none⟩ = some (.int .i64 4) := (hb9.cell (p := ⟨w.heap.size, 0, none⟩) HK.out.2.1).trans (HK.out.2.2.cell 0)
          have g2 : w9.cell? ⟨G, 2, none⟩ = some (.slice A3 na c3) := ((HK.out.1.trans (hb9.mono HK.out.1.size)).cell (p := ⟨G, 2, none⟩) HG.out.1).trans HG.out.2
          clear hb9
          have HBT : Hid (Below w.heap.size w w9) := HK.out.1.trans (HB9.out.mono HK.out.1.size)
          have r1 := cell_regrown c1
          have r2 := cell_regrown g2
          go_wp2_with fail
          refine wp_region_quiet_below (by kernel_rfl) (by kernel_rfl) ?_
          repeat (with_reducible refine wpQuiet_step (fun K hK => ?_); go_simp; first | (with_reducible refine hK _ ?_; clear hK K) | (apply Exists.intro; with_reducible refine ⟨fun _ => ?_, hK _ ?_⟩; (go_at_call 44; with_reducible exact Calls.regrown_of (HBAD.out _ (HBT.out.trans ((below_regrown w9 _ _).mono HBT.out.size)))); clear hK K))
          with_reducible refine wpQuiet_nil ?_
          intro _ hw'
          obtain ⟨⟨dq, osq⟩, hw''⟩ := hw'
          subst hw''
          go_wp2_with fail
          go_ret
          exact ⟨ret_bool HF.out, HBT.out.trans ((below_regrown w9 dq osq).mono HBT.out.size)⟩
      · have h4b : (kd != 4) = true := by simpa using h4
        by_cases hm : 0 < nm
        · have hmI : (0 : Int) < (nm : Int) := by omega
          have HF : Hid (false = R) := by
            show _ = _
            rw [← HR.out]
            simp [h4, hm]
          clear h4 HZ
          go_enter Tryz.func19, Tryz.ntmps19
          go_wp2_with fail
          go_ret
          exact ⟨ret_bool HF.out, HK.out.1⟩
        · obtain rfl : nm = 0 := by omega
          by_cases h5 : kd = 5
          · subst h5
            by_cases hn : 0 < nl
            · have hnI : (0 : Int) < (nl : Int) := by omega
              have HF : Hid (false = R) := by
                show _ = _
                rw [← HR.out]
                simp [hn]
              clear h4 hm HZ
              go_enter Tryz.func19, Tryz.ntmps19
              go_wp2_with fail
              go_ret
              exact ⟨ret_bool HF.out, HK.out.1⟩
            · obtain rfl : nl = 0 := by omega
              have HF : Hid ((rc == 0) = R) := by
                show _ = _
                rw [← HR.out]
                simp
              have c1 : (w.alloc (.cells #[.int .i64 5, .slice L 0 cl, .slice M 0 cm, .int .i64 ak, .int .i64 aa, .int .i64 ab, .slice O no co, .int .i64 rk, .int .i64 rt] 49)).cell? ⟨w.heap.size, 1, none⟩ = some (.slice L 0 cl) := HK.out.2.2.cell 1
              have g2 : (w.alloc (.cells #[.int .i64 5, .slice L 0 cl, .slice M 0 cm, .int .i64 ak, .int .i64 aa, .int .i64 ab, .slice O no co, .int .i64 rk, .int .i64 rt] 49)).cell? ⟨G, 2, none⟩ = some (.slice A3 na c3) := (HK.out.1.cell (p := ⟨G, 2, none⟩) HG.out.1).trans HG.out.2
              clear h4 hm hn HZ
              go_enter Tryz.func19, Tryz.ntmps19
              have r1 := cell_regrown c1
              have r2 := cell_regrown g2
              go_wp2_with fail
              refine wp_region_quiet_below (by kernel_rfl) (by kernel_rfl) ?_
              repeat (with_reducible refine wpQuiet_step (fun K hK => ?_); go_simp; first | (with_reducible refine hK _ ?_; clear hK K) | (apply Exists.intro; with_reducible refine ⟨fun _ => ?_, hK _ ?_⟩; (go_at_call 44; with_reducible exact Calls.regrown_of (HBAD.out _ (HK.out.1.trans ((below_regrown (w.alloc (.cells #[.int .i64 5, .slice L 0 cl, .slice M 0 cm, .int .i64 ak, .int .i64 aa, .int .i64 ab, .slice O no co, .int .i64 rk, .int .i64 rt] 49)) _ _).mono HK.out.1.size)))); clear hK K))
              with_reducible refine wpQuiet_nil ?_
              intro _ hw'
              obtain ⟨⟨dq, osq⟩, hw''⟩ := hw'
              subst hw''
              go_wp2_with fail
              go_ret
              exact ⟨ret_bool HF.out, HK.out.1.trans ((below_regrown (w.alloc (.cells #[.int .i64 5, .slice L 0 cl, .slice M 0 cm, .int .i64 ak, .int .i64 aa, .int .i64 ab, .slice O no co, .int .i64 rk, .int .i64 rt] 49)) dq osq).mono HK.out.1.size)⟩
          · have h5b : (kd != 5) = true := by simpa using h5
            have h5c : (kd == 5) = false := by simpa using h5
            cases Z with
            | false =>
              have HF : Hid (false = R) := by
                show _ = _
                rw [← HR.out]
                simp [h5]
              clear h4 h5 hm
              go_enter Tryz.func19, Tryz.ntmps19
              go_wp2_with fail
              refine HZ.out.mono ?_
              rintro e w9 ⟨rfl, hb9⟩
              have HB9 := Lib.hid hb9
              have c1 : w9.cell? ⟨w.heap.size, 1, none⟩ = some (.slice L nl cl) := (hb9.cell (p := ⟨w.heap.size, 1, none⟩) HK.out.2.1).trans (HK.out.2.2.cell 1)
              have c2 : w9.cell? ⟨w.heap.size, 2, none⟩ = some (.slice M 0 cm) := (hb9.cell (p := ⟨w.heap.size, 2, none⟩) HK.out.2.1).trans (HK.out.2.2.cell 2)
              have c0 : w9.cell? ⟨w.heap.size, 0, none⟩ = some (.int .i64 kd) := (hb9.cell (p := ⟨w.heap.size, 0, none⟩) HK.out.2.1).trans (HK.out.2.2.cell 0)
              have g2 : w9.cell? ⟨G, 2, none⟩ = some (.slice A3 na c3) := ((HK.out.1.trans (hb9.mono HK.out.1.size)).cell (p := ⟨G, 2, none⟩) HG.out.1).trans HG.out.2
              clear hb9
              go_wp2_with fail
              go_ret
              exact ⟨ret_bool HF.out, HK.out.1.trans (HB9.out.mono HK.out.1.size)⟩
            | true =>
              have HF : Hid ((rc == 0) = R) := by
                show _ = _
                rw [← HR.out]
                simp [h1, h2, h5]
              clear h4 h5 hm
              go_enter Tryz.func19, Tryz.ntmps19
              go_wp2_with fail
              refine HZ.out.mono ?_
              rintro e w9 ⟨rfl, hb9⟩
              have HB9 := Lib.hid hb9
              have c1 : w9.cell? ⟨w.heap.size, 1, none⟩ = some (.slice L nl cl) := (hb9.cell (p := ⟨w.heap.size, 1, none⟩) HK.out.2.1).trans (HK.out.2.2.cell 1)
              have c2 : w9.cell? ⟨w.heap.size, 2, none⟩ = some (.slice M 0 cm) := (hb9.cell (p := ⟨w.heap.size, 2, none⟩) HK.out.2.1).trans (HK.out.2.2.cell 2)
              have c0 : w9.cell? ⟨w.heap.size, 0, none⟩ = some (.int .i64 kd) := (hb9.cell (p := ⟨w.heap.size, 0, none⟩) HK.out.2.1).trans (HK.out.2.2.cell 0)
              have g2 : w9.cell? ⟨G, 2, none⟩ = some (.slice A3 na c3) := ((HK.out.1.trans (hb9.mono HK.out.1.size)).cell (p := ⟨G, 2, none⟩) HG.out.1).trans HG.out.2
              clear hb9
              have HBT : Hid (Below w.heap.size w w9) := HK.out.1.trans (HB9.out.mono HK.out.1.size)
              have r1 := cell_regrown c1
              have r2 := cell_regrown g2
              go_wp2_with fail
              refine wp_region_quiet_below (by kernel_rfl) (by kernel_rfl) ?_
              repeat (with_reducible refine wpQuiet_step (fun K hK => ?_); go_simp; first | (with_reducible refine hK _ ?_; clear hK K) | (apply Exists.intro; with_reducible refine ⟨fun _ => ?_, hK _ ?_⟩; (go_at_call 44; with_reducible exact Calls.regrown_of (HBAD.out _ (HBT.out.trans ((below_regrown w9 _ _).mono HBT.out.size)))); clear hK K))
              with_reducible refine wpQuiet_nil ?_
              intro _ hw'
              obtain ⟨⟨dq, osq⟩, hw''⟩ := hw'
              subst hw''
              go_wp2_with fail
              go_ret
              exact ⟨ret_bool HF.out, HBT.out.trans ((below_regrown w9 dq osq).mono HBT.out.size)⟩
end Go.Proofs.YthjfiomcpihlaaaGreat
namespace Go.Proofs.YthjfiomcpihlaaaGreat
open Go.RowKit

def PredCls (P : Program) (g : Nat) (lb : Array Value) (p : List Int → Bool) (xs : List (List Int)) (w : World) : Prop :=
  ∀ (W : World) (A : Option Addr) (n c : Nat) (x : List Int), x ∈ xs → Below w.heap.size w W → IntsB W W.heap.size A n x → n ≤ c → Calls P g (#[.slice A n c] ++ lb) W fun e w' => e = .returned (.bool (p x)) ∧ Below w.heap.size w w'

set_option maxHeartbeats 1000000 in
theorem indexCls_any (g : Nat) (lb : Array Value) (eg : ∀ args w, (callFunc g args).run Tryz.prog w = .ok (.enter g args) w) (p : List Int → Bool) (A : Option Addr) (n c : Nat) (xs : List (List Int)) (R : Int) (w : World)
    (hxs : ArrB (AtArr AtInt 1) 1 w w.heap.size A n xs) (hn : n ≤ 1000000) (hp : PredCls Tryz.prog g lb p xs w) (hR : idx p xs 0 = R) :
    Calls Tryz.prog 25 #[.slice A n c, .func (.func g) #[] lb] w fun e w' => e = .returned (.int .i64 R) ∧ Below w.heap.size w w' := by
  have HP := Lib.hid hp
  have HR := Lib.hid hR
  clear hp hR
  go_enter Tryz.func25, Tryz.ntmps25
  go_wp2_with fail
  go_loopw [8] (fun s wr => ∃ k : Nat, k ≤ n ∧ s = .int .i64 k ∧ Hid (idx p (xs.drop k) k = R) ∧ Below w.heap.size w wr) (fun s _ => n - (intOf s).toNat)
  case atStart => exact ⟨0, Nat.zero_le _, rfl, HR, Below.refl _ _⟩
  case round =>
    obtain ⟨k, hk, rfl, HK, hbel⟩ := hrel
    by_cases hlt : k < n
    · obtain ⟨b, off, hx, A', n', c', rfl, hb, hcell, hnc, hcm, har⟩ := arrs_get (hxs.below (stays_arr stays_int) hbel (Nat.le_refl _)) hlt
      have hcall := HP.out wr A' n' c' xs[k] (List.getElem_mem hx) hbel (har.keep stays_int (fun b hb => Nat.lt_of_lt_of_le hb hbel.size) (fun _ _ _ => rfl)) hnc
      have e1 := HK.out
      rw [drop_cons hx, idx] at e1
      have HX := Lib.hid hx
      generalize xs[k] = y at hcall e1
      clear HK hx hxs har
      cases hq : p y with
      | true =>
        rw [hq] at hcall e1
        have e2 : (k : Int) = R := e1
        have HC := Lib.hid hcall
        have H2 := Lib.hid e2
        clear hcall e1 hq e2
        go_wp2_with (go_at_fn g; refine HC.out.mono ?_; rintro e w' ⟨rfl, hb'⟩)
        go_ret
        exact ⟨ret_int H2.out, hb'⟩
      | false =>
        rw [hq] at hcall e1
        have e2 : idx p (xs.drop (k + 1)) ((k : Int) + 1) = R := e1
        have HC := Lib.hid hcall
        have H2 := Lib.hid e2
        clear hcall e1 hq e2
        go_wp2_with (go_at_fn g; refine HC.out.mono ?_; rintro e w' ⟨rfl, hb'⟩)
        go_roundw
        case rel => exact ⟨k + 1, by omega, by go_num, by show _ = _; rw [Int.natCast_add]; exact H2.out, hb'⟩
        case measure => simp [intOf]; omega
    · obtain rfl : k = n := by omega
      have e1 := HK.out
      rw [List.drop_of_length_le (by have := hxs.len; omega), idx] at e1
      have H1 := Lib.hid e1
      clear e1 HK
      go_wp2_with fail
      go_ret
      exact ⟨ret_int H1.out, hbel⟩

set_option maxHeartbeats 1000000 in
theorem containsCls_any (g : Nat) (lb : Array Value) (eg : ∀ args w, (callFunc g args).run Tryz.prog w = .ok (.enter g args) w) (p : List Int → Bool) (A : Option Addr) (n c : Nat) (xs : List (List Int)) (R : Bool) (w : World)
    (hxs : ArrB (AtArr AtInt 1) 1 w w.heap.size A n xs) (hn : n ≤ 1000000) (hp : PredCls Tryz.prog g lb p xs w) (hR : xs.any p = R) :
    Calls Tryz.prog 12 #[.slice A n c, .func (.func g) #[] lb] w fun e w' => e = .returned (.bool R) ∧ Below w.heap.size w w' := by
  have HH := Lib.hid (indexCls_any g lb eg p A n c xs _ w hxs hn hp rfl)
  have h0 := idx_any p xs 0 (by omega)
  rw [hR] at h0
  generalize idx p xs 0 = r at HH h0
  have H0 := Lib.hid h0
  clear h0 hR hp hxs
  go_enter Tryz.func12, Tryz.ntmps12
  go_wp2_with fail
  refine HH.out.mono ?_
  rintro e w' ⟨rfl, hb⟩
  go_wp2_with fail
  go_ret
  exact ⟨ret_bool H0.out, hb⟩
end Go.Proofs.YthjfiomcpihlaaaGreat
