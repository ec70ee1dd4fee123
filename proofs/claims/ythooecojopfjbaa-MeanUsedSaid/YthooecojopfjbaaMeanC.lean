/- Walks: is a value one of a sort: the program and the reference. -/
import Derived.Test.YthooecojopfjbaaMeanB
namespace Go.Proofs.Ythooecojopfjbaa
open Go.RowKit

theorem cond_no {n : Nat} {sort den : Int} (h : ¬ 0 < n) (h2 : sort = 3 ∨ den = 1) : ¬ (0 < n ∨ ¬ (0 : Int) = 0 ∨ true = false ∨ (¬ sort = 3 ∧ ¬ den = 1)) := by
  rintro (h1 | h1 | h1 | ⟨h3, h4⟩)
  · exact h h1
  · exact h1 rfl
  · cases h1
  · exact h2.elim h3 h4
theorem field_code (a b : Int) (w : World) : (Instr.field 29 (.agg #[.int .i64 a, .int .i64 b]) 0).run Try.prog w = .ok (.int .i64 a) w := by kernel_rfl
theorem fracCheck_is (num den : Int) (b : Bool) (h : fracGood num den = b) (w : World) :
    Calls Try.prog 141 #[.agg #[.int .i64 num, .int .i64 den]] w fun e w' => e = .returned (.agg #[.int .i64 (if b then 0 else 3), .int .i64 0]) ∧ Below w.heap.size w w' := by subst h; exact fracCheck_any num den w
theorem good_is (num den : Int) (b : Bool) (h : fracGood num den = b) (w : World) :
    Calls Try.prog 43 #[.agg #[.int .i64 num, .int .i64 den]] w fun e w' => e = .returned (.bool b) ∧ Below w.heap.size w w' := by subst h; exact good_any num den w

set_option maxRecDepth 100000 in
set_option maxHeartbeats 8000000 in
theorem is_any (sort num den : Int) (A : Option Addr) (n c : Nat) (cs : List CellD) (rest : Int) (R : Bool) (w : World) (hxs : ArrB AtCell 2 w w.heap.size A n cs) (hn : n ≤ 9223372036854775807) (hR : goodV sort ⟨num, den, cs, rest⟩ = R) :
    Calls Try.prog 127 #[.int .i64 sort, .agg #[.int .i64 num, .int .i64 den, .slice A n c, .int .i64 rest]] w fun e w' => e = .returned (.bool R) ∧ Below w.heap.size w w' := by
  have hb0 : Below w.heap.size w (w.alloc (.cells #[.int .i64 num, .int .i64 den, .slice A n c, .int .i64 rest] 54)) := (Below.refl _ _).alloc (Nat.le_refl _) _
  have hk0 := Blk.new w 54 #[.int .i64 num, .int .i64 den, .slice A n c, .int .i64 rest]
  have hln := hxs.len
  have HB := Lib.hid (And.intro hb0 hk0)
  by_cases h5 : sort = 5
  · subst h5
    rw [goodV, if_pos rfl] at hR
    have HA := Lib.hid (array_any num den A n c cs rest R _ (hxs.below stays_cell hb0 hb0.size) hn hR)
    clear hR hxs hb0 hk0 hln
    go_enter Try.func127, Try.ntmps127
    go_wp2_with fail
    refine HA.out.mono ?_
    rintro e w1 ⟨rfl, hb1⟩
    go_wp2_with fail
    go_ret
    exact ⟨rfl, HB.out.1.trans (hb1.mono HB.out.1.size)⟩
  have q5 : (sort == 5) = false := by rw [beq_eq_false_iff_ne]; exact h5
  rw [goodV, if_neg h5] at hR
  clear hb0 hk0 hxs h5
  dsimp only at hR
  rw [hln] at hR
  clear hln
  by_cases hn0 : 0 < n
  · have HR0 : Hid (false = R) := by show _ = _; rw [← hR, if_pos (.inl hn0)]
    have hnI : (n : Int) > 0 := by omega
    clear hR
    go_enter Try.func127, Try.ntmps127
    go_wp2_with fail
    go_ret
    exact ⟨ret_bool HR0.out, HB.out.1⟩
  have hnI : ¬ ((n : Int) > 0) := by omega
  by_cases hr0 : rest = 0
  · subst hr0
    have hfg : ∃ fg : Bool, fracGood num den = fg := ⟨_, rfl⟩
    obtain ⟨fg, hfg⟩ := hfg
    rw [hfg] at hR
    have HFR := Lib.hid (fracCheck_is num den _ hfg)
    clear hfg
    cases fg with
    | false =>
      have HR0 : Hid (false = R) := by show _ = _; rw [← hR, if_pos (.inr (.inr (.inl rfl)))]
      clear hR
      go_enter Try.func127, Try.ntmps127
      go_wp2_with fail
      refine (HFR.out _).mono ?_
      rintro e w1 ⟨rfl, hb1⟩
      have hk1 := HB.out.2.below hb1 (by simp)
      have v0 : w1.cell? ⟨w.heap.size, 0, none⟩ = some (.int .i64 num) := hk1.cell 0
      have v1 : w1.cell? ⟨w.heap.size, 1, none⟩ = some (.int .i64 den) := hk1.cell 1
      have hzv : w.heap.size < w1.heap.size := hk1.lt
      have HB1 : Hid (Below w.heap.size w w1) := HB.out.1.trans (hb1.mono (by simp))
      clear hk1 hb1
      have hfd := fun a W => field_code a 0 W
      go_wp2_with fail
      go_ret
      exact ⟨ret_bool HR0.out, HB1.out⟩
    | true =>
      by_cases h3 : sort = 3
      · subst h3
        have HR0 : Hid (true = R) := by
          show _ = _
          rw [← hR, if_neg (cond_no hn0 (.inl rfl)), if_neg (by omega), if_neg (by omega), if_neg (by decide)]
        have HWD : Hid (wordB 3 = false) := by show _ = _; decide
        clear hR
        go_enter Try.func127, Try.ntmps127
        go_wp2_with fail
        refine (HFR.out _).mono ?_
        rintro e w1 ⟨rfl, hb1⟩
        have hk1 := HB.out.2.below hb1 (by simp)
        have v0 : w1.cell? ⟨w.heap.size, 0, none⟩ = some (.int .i64 num) := hk1.cell 0
        have v1 : w1.cell? ⟨w.heap.size, 1, none⟩ = some (.int .i64 den) := hk1.cell 1
        have hzv : w.heap.size < w1.heap.size := hk1.lt
        have HB1 : Hid (Below w.heap.size w w1) := HB.out.1.trans (hb1.mono (by simp))
        clear hk1 hb1
        have hfd := fun a W => field_code a 0 W
        go_wp2_with (go_at_call 74; refine (word_is _ false HWD.out _).mono ?_; rintro e w' ⟨rfl, rfl⟩)
        go_ret
        exact ⟨ret_bool HR0.out, HB1.out⟩
      have q3 : (sort == 3) = false := by rw [beq_eq_false_iff_ne]; exact h3
      have q3' : (sort != 3) = true := by rw [bne_iff_ne]; exact h3
      by_cases hd1 : den = 1
      · have qd : (den != 1) = false := by rw [bne_eq_false_iff_eq]; exact hd1
        have HD1 := Lib.hid hd1
        have hR2 : (if sort = 1 then decide (num = 0 ∨ num = 1) else if sort = 4 then thingB num else if wordB sort = true then decide (0 ≤ num ∧ num < 2 ^ (sort - 10).toNat) else true) = R := by
          rw [← hR, if_neg (cond_no hn0 (.inr hd1))]
        clear hR hd1
        by_cases h1 : sort = 1
        · subst h1
          rw [if_pos rfl] at hR2
          have hc : ((num == 0) = true ∧ true = R) ∨ ((num == 0) = false ∧ (num == 1) = R) := by
            rw [← hR2]
            by_cases e0 : num = 0
            · exact .inl ⟨by simpa using e0, by simp [e0]⟩
            · exact .inr ⟨by simpa using e0, by rw [Bool.eq_iff_iff]; simp [e0]⟩
          clear hR2
          rcases hc with ⟨e0, hr⟩ | ⟨e0, hr⟩
          all_goals
            have HR0 := Lib.hid hr
            clear hr
            go_enter Try.func127, Try.ntmps127
            go_wp2_with fail
            refine (HFR.out _).mono ?_
            rintro e w1 ⟨rfl, hb1⟩
            have hk1 := HB.out.2.below hb1 (by simp)
            have v0 : w1.cell? ⟨w.heap.size, 0, none⟩ = some (.int .i64 num) := hk1.cell 0
            have v1 : w1.cell? ⟨w.heap.size, 1, none⟩ = some (.int .i64 den) := hk1.cell 1
            have hzv : w.heap.size < w1.heap.size := hk1.lt
            have HB1 : Hid (Below w.heap.size w w1) := HB.out.1.trans (hb1.mono (by simp))
            clear hk1 hb1
            have hfd := fun a W => field_code a 0 W
            go_wp2_with fail
            go_ret
            exact ⟨ret_bool HR0.out, HB1.out⟩
        have q1 : (sort == 1) = false := by rw [beq_eq_false_iff_ne]; exact h1
        rw [if_neg h1] at hR2
        by_cases h4 : sort = 4
        · subst h4
          rw [if_pos rfl] at hR2
          have HT := Lib.hid (thing_is num _ hR2)
          clear hR2
          go_enter Try.func127, Try.ntmps127
          go_wp2_with fail
          refine (HFR.out _).mono ?_
          rintro e w1 ⟨rfl, hb1⟩
          have hk1 := HB.out.2.below hb1 (by simp)
          have v0 : w1.cell? ⟨w.heap.size, 0, none⟩ = some (.int .i64 num) := hk1.cell 0
          have v1 : w1.cell? ⟨w.heap.size, 1, none⟩ = some (.int .i64 den) := hk1.cell 1
          have hzv : w.heap.size < w1.heap.size := hk1.lt
          have HB1 : Hid (Below w.heap.size w w1) := HB.out.1.trans (hb1.mono (by simp))
          clear hk1 hb1
          have hfd := fun a W => field_code a 0 W
          go_wp2_with (go_at_call 125; refine (HT.out _).mono ?_; rintro e w' ⟨rfl, rfl⟩)
          go_ret
          exact ⟨rfl, HB1.out⟩
        have q4 : (sort == 4) = false := by rw [beq_eq_false_iff_ne]; exact h4
        rw [if_neg h4] at hR2
        cases hw : wordB sort with
        | false =>
          rw [hw, if_neg (by simp)] at hR2
          have HR0 := Lib.hid hR2
          have HWD : Hid (wordB sort = false) := hw
          clear hR2 hw
          go_enter Try.func127, Try.ntmps127
          go_wp2_with fail
          refine (HFR.out _).mono ?_
          rintro e w1 ⟨rfl, hb1⟩
          have hk1 := HB.out.2.below hb1 (by simp)
          have v0 : w1.cell? ⟨w.heap.size, 0, none⟩ = some (.int .i64 num) := hk1.cell 0
          have v1 : w1.cell? ⟨w.heap.size, 1, none⟩ = some (.int .i64 den) := hk1.cell 1
          have hzv : w.heap.size < w1.heap.size := hk1.lt
          have HB1 : Hid (Below w.heap.size w w1) := HB.out.1.trans (hb1.mono (by simp))
          clear hk1 hb1
          have hfd := fun a W => field_code a 0 W
          go_wp2_with (go_at_call 74; refine (word_is _ false HWD.out _).mono ?_; rintro e w' ⟨rfl, rfl⟩)
          go_ret
          exact ⟨ret_bool HR0.out, HB1.out⟩
        | true =>
          rw [hw, if_pos rfl] at hR2
          have hs : sort = 11 ∨ sort = 12 ∨ sort = 13 ∨ sort = 14 ∨ sort = 15 ∨ sort = 16 ∨ sort = 17 ∨ sort = 18 := by
            simp only [wordB, decide_eq_true_eq] at hw; omega
          clear hw q5 q3 q3' q1 q4 h1 h3 h4
          have hc : decide (0 ≤ num) = false ∧ false = R ∨ decide (0 ≤ num) = true ∧ decide (num < 2 ^ (sort - 10).toNat) = R := by
            rw [← hR2]
            by_cases e0 : 0 ≤ num
            · exact .inr ⟨by simpa using e0, by simp [e0]⟩
            · exact .inl ⟨by simpa using e0, by simp [e0]⟩
          clear hR2
          rcases hs with rfl | rfl | rfl | rfl | rfl | rfl | rfl | rfl
          · have e : (2 : Int) ^ (((11 : Int) - 10).toNat) = 2 := by decide
            rw [e] at hc
            have HWD : Hid (wordB 11 = true) := by show _ = _; decide
            clear e
            rcases hc with ⟨e0, hr⟩ | ⟨e0, hr⟩
            all_goals
              have HR0 := Lib.hid hr
              clear hr
              go_enter Try.func127, Try.ntmps127
              go_wp2_with fail
              refine (HFR.out _).mono ?_
              rintro e w1 ⟨rfl, hb1⟩
              have hk1 := HB.out.2.below hb1 (by simp)
              have v0 : w1.cell? ⟨w.heap.size, 0, none⟩ = some (.int .i64 num) := hk1.cell 0
              have v1 : w1.cell? ⟨w.heap.size, 1, none⟩ = some (.int .i64 den) := hk1.cell 1
              have hzv : w.heap.size < w1.heap.size := hk1.lt
              have HB1 : Hid (Below w.heap.size w w1) := HB.out.1.trans (hb1.mono (by simp))
              clear hk1 hb1
              have hfd := fun a W => field_code a 0 W
              go_wp2_with (go_at_call 74; refine (word_is _ true HWD.out _).mono ?_; rintro e w' ⟨rfl, rfl⟩)
              go_ret
              exact ⟨ret_bool HR0.out, HB1.out⟩
          · have e : (2 : Int) ^ (((12 : Int) - 10).toNat) = 4 := by decide
            rw [e] at hc
            have HWD : Hid (wordB 12 = true) := by show _ = _; decide
            clear e
            rcases hc with ⟨e0, hr⟩ | ⟨e0, hr⟩
            all_goals
              have HR0 := Lib.hid hr
              clear hr
              go_enter Try.func127, Try.ntmps127
              go_wp2_with fail
              refine (HFR.out _).mono ?_
              rintro e w1 ⟨rfl, hb1⟩
              have hk1 := HB.out.2.below hb1 (by simp)
              have v0 : w1.cell? ⟨w.heap.size, 0, none⟩ = some (.int .i64 num) := hk1.cell 0
              have v1 : w1.cell? ⟨w.heap.size, 1, none⟩ = some (.int .i64 den) := hk1.cell 1
              have hzv : w.heap.size < w1.heap.size := hk1.lt
              have HB1 : Hid (Below w.heap.size w w1) := HB.out.1.trans (hb1.mono (by simp))
              clear hk1 hb1
              have hfd := fun a W => field_code a 0 W
              go_wp2_with (go_at_call 74; refine (word_is _ true HWD.out _).mono ?_; rintro e w' ⟨rfl, rfl⟩)
              go_ret
              exact ⟨ret_bool HR0.out, HB1.out⟩
          · have e : (2 : Int) ^ (((13 : Int) - 10).toNat) = 8 := by decide
            rw [e] at hc
            have HWD : Hid (wordB 13 = true) := by show _ = _; decide
            clear e
            rcases hc with ⟨e0, hr⟩ | ⟨e0, hr⟩
            all_goals
              have HR0 := Lib.hid hr
              clear hr
              go_enter Try.func127, Try.ntmps127
              go_wp2_with fail
              refine (HFR.out _).mono ?_
              rintro e w1 ⟨rfl, hb1⟩
              have hk1 := HB.out.2.below hb1 (by simp)
              have v0 : w1.cell? ⟨w.heap.size, 0, none⟩ = some (.int .i64 num) := hk1.cell 0
              have v1 : w1.cell? ⟨w.heap.size, 1, none⟩ = some (.int .i64 den) := hk1.cell 1
              have hzv : w.heap.size < w1.heap.size := hk1.lt
              have HB1 : Hid (Below w.heap.size w w1) := HB.out.1.trans (hb1.mono (by simp))
              clear hk1 hb1
              have hfd := fun a W => field_code a 0 W
              go_wp2_with (go_at_call 74; refine (word_is _ true HWD.out _).mono ?_; rintro e w' ⟨rfl, rfl⟩)
              go_ret
              exact ⟨ret_bool HR0.out, HB1.out⟩
          · have e : (2 : Int) ^ (((14 : Int) - 10).toNat) = 16 := by decide
            rw [e] at hc
            have HWD : Hid (wordB 14 = true) := by show _ = _; decide
            clear e
            rcases hc with ⟨e0, hr⟩ | ⟨e0, hr⟩
            all_goals
              have HR0 := Lib.hid hr
              clear hr
              go_enter Try.func127, Try.ntmps127
              go_wp2_with fail
              refine (HFR.out _).mono ?_
              rintro e w1 ⟨rfl, hb1⟩
              have hk1 := HB.out.2.below hb1 (by simp)
              have v0 : w1.cell? ⟨w.heap.size, 0, none⟩ = some (.int .i64 num) := hk1.cell 0
              have v1 : w1.cell? ⟨w.heap.size, 1, none⟩ = some (.int .i64 den) := hk1.cell 1
              have hzv : w.heap.size < w1.heap.size := hk1.lt
              have HB1 : Hid (Below w.heap.size w w1) := HB.out.1.trans (hb1.mono (by simp))
              clear hk1 hb1
              have hfd := fun a W => field_code a 0 W
              go_wp2_with (go_at_call 74; refine (word_is _ true HWD.out _).mono ?_; rintro e w' ⟨rfl, rfl⟩)
              go_ret
              exact ⟨ret_bool HR0.out, HB1.out⟩
          · have e : (2 : Int) ^ (((15 : Int) - 10).toNat) = 32 := by decide
            rw [e] at hc
            have HWD : Hid (wordB 15 = true) := by show _ = _; decide
            clear e
            rcases hc with ⟨e0, hr⟩ | ⟨e0, hr⟩
            all_goals
              have HR0 := Lib.hid hr
              clear hr
              go_enter Try.func127, Try.ntmps127
              go_wp2_with fail
              refine (HFR.out _).mono ?_
              rintro e w1 ⟨rfl, hb1⟩
              have hk1 := HB.out.2.below hb1 (by simp)
              have v0 : w1.cell? ⟨w.heap.size, 0, none⟩ = some (.int .i64 num) := hk1.cell 0
              have v1 : w1.cell? ⟨w.heap.size, 1, none⟩ = some (.int .i64 den) := hk1.cell 1
              have hzv : w.heap.size < w1.heap.size := hk1.lt
              have HB1 : Hid (Below w.heap.size w w1) := HB.out.1.trans (hb1.mono (by simp))
              clear hk1 hb1
              have hfd := fun a W => field_code a 0 W
              go_wp2_with (go_at_call 74; refine (word_is _ true HWD.out _).mono ?_; rintro e w' ⟨rfl, rfl⟩)
              go_ret
              exact ⟨ret_bool HR0.out, HB1.out⟩
          · have e : (2 : Int) ^ (((16 : Int) - 10).toNat) = 64 := by decide
            rw [e] at hc
            have HWD : Hid (wordB 16 = true) := by show _ = _; decide
            clear e
            rcases hc with ⟨e0, hr⟩ | ⟨e0, hr⟩
            all_goals
              have HR0 := Lib.hid hr
              clear hr
              go_enter Try.func127, Try.ntmps127
              go_wp2_with fail
              refine (HFR.out _).mono ?_
              rintro e w1 ⟨rfl, hb1⟩
              have hk1 := HB.out.2.below hb1 (by simp)
              have v0 : w1.cell? ⟨w.heap.size, 0, none⟩ = some (.int .i64 num) := hk1.cell 0
              have v1 : w1.cell? ⟨w.heap.size, 1, none⟩ = some (.int .i64 den) := hk1.cell 1
              have hzv : w.heap.size < w1.heap.size := hk1.lt
              have HB1 : Hid (Below w.heap.size w w1) := HB.out.1.trans (hb1.mono (by simp))
              clear hk1 hb1
              have hfd := fun a W => field_code a 0 W
              go_wp2_with (go_at_call 74; refine (word_is _ true HWD.out _).mono ?_; rintro e w' ⟨rfl, rfl⟩)
              go_ret
              exact ⟨ret_bool HR0.out, HB1.out⟩
          · have e : (2 : Int) ^ (((17 : Int) - 10).toNat) = 128 := by decide
            rw [e] at hc
            have HWD : Hid (wordB 17 = true) := by show _ = _; decide
            clear e
            rcases hc with ⟨e0, hr⟩ | ⟨e0, hr⟩
            all_goals
              have HR0 := Lib.hid hr
              clear hr
              go_enter Try.func127, Try.ntmps127
              go_wp2_with fail
              refine (HFR.out _).mono ?_
              rintro e w1 ⟨rfl, hb1⟩
              have hk1 := HB.out.2.below hb1 (by simp)
              have v0 : w1.cell? ⟨w.heap.size, 0, none⟩ = some (.int .i64 num) := hk1.cell 0
              have v1 : w1.cell? ⟨w.heap.size, 1, none⟩ = some (.int .i64 den) := hk1.cell 1
              have hzv : w.heap.size < w1.heap.size := hk1.lt
              have HB1 : Hid (Below w.heap.size w w1) := HB.out.1.trans (hb1.mono (by simp))
              clear hk1 hb1
              have hfd := fun a W => field_code a 0 W
              go_wp2_with (go_at_call 74; refine (word_is _ true HWD.out _).mono ?_; rintro e w' ⟨rfl, rfl⟩)
              go_ret
              exact ⟨ret_bool HR0.out, HB1.out⟩
          · have e : (2 : Int) ^ (((18 : Int) - 10).toNat) = 256 := by decide
            rw [e] at hc
            have HWD : Hid (wordB 18 = true) := by show _ = _; decide
            clear e
            rcases hc with ⟨e0, hr⟩ | ⟨e0, hr⟩
            all_goals
              have HR0 := Lib.hid hr
              clear hr
              go_enter Try.func127, Try.ntmps127
              go_wp2_with fail
              refine (HFR.out _).mono ?_
              rintro e w1 ⟨rfl, hb1⟩
              have hk1 := HB.out.2.below hb1 (by simp)
              have v0 : w1.cell? ⟨w.heap.size, 0, none⟩ = some (.int .i64 num) := hk1.cell 0
              have v1 : w1.cell? ⟨w.heap.size, 1, none⟩ = some (.int .i64 den) := hk1.cell 1
              have hzv : w.heap.size < w1.heap.size := hk1.lt
              have HB1 : Hid (Below w.heap.size w w1) := HB.out.1.trans (hb1.mono (by simp))
              clear hk1 hb1
              have hfd := fun a W => field_code a 0 W
              go_wp2_with (go_at_call 74; refine (word_is _ true HWD.out _).mono ?_; rintro e w' ⟨rfl, rfl⟩)
              go_ret
              exact ⟨ret_bool HR0.out, HB1.out⟩
      · have qd : (den != 1) = true := by rw [bne_iff_ne]; exact hd1
        have HR0 : Hid (false = R) := by show _ = _; rw [← hR, if_pos (.inr (.inr (.inr ⟨h3, hd1⟩)))]
        clear hR
        go_enter Try.func127, Try.ntmps127
        go_wp2_with fail
        refine (HFR.out _).mono ?_
        rintro e w1 ⟨rfl, hb1⟩
        have hk1 := HB.out.2.below hb1 (by simp)
        have v0 : w1.cell? ⟨w.heap.size, 0, none⟩ = some (.int .i64 num) := hk1.cell 0
        have v1 : w1.cell? ⟨w.heap.size, 1, none⟩ = some (.int .i64 den) := hk1.cell 1
        have hzv : w.heap.size < w1.heap.size := hk1.lt
        have HB1 : Hid (Below w.heap.size w w1) := HB.out.1.trans (hb1.mono (by simp))
        clear hk1 hb1
        have hfd := fun a W => field_code a 0 W
        go_wp2_with fail
        go_ret
        exact ⟨ret_bool HR0.out, HB1.out⟩
  · have HR0 : Hid (false = R) := by show _ = _; rw [← hR, if_pos (.inr (.inl hr0))]
    have qr : (rest != 0) = true := by rw [bne_iff_ne]; exact hr0
    clear hR
    go_enter Try.func127, Try.ntmps127
    go_wp2_with fail
    go_ret
    exact ⟨ret_bool HR0.out, HB.out.1⟩

set_option maxRecDepth 100000 in
set_option maxHeartbeats 8000000 in
theorem goodValue_any (sort num den : Int) (A : Option Addr) (n c : Nat) (cs : List CellD) (rest : Int) (R : Bool) (w : World) (hxs : ArrB AtCell 2 w w.heap.size A n cs) (hn : n ≤ 9223372036854775807) (hR : goodV sort ⟨num, den, cs, rest⟩ = R) :
    Calls Try.prog 22 #[.int .i64 sort, .agg #[.int .i64 num, .int .i64 den, .slice A n c, .int .i64 rest]] w fun e w' => e = .returned (.bool R) ∧ Below w.heap.size w w' := by
  have hb0 : Below w.heap.size w (w.alloc (.cells #[.int .i64 num, .int .i64 den, .slice A n c, .int .i64 rest] 54)) := (Below.refl _ _).alloc (Nat.le_refl _) _
  have hk0 := Blk.new w 54 #[.int .i64 num, .int .i64 den, .slice A n c, .int .i64 rest]
  have hln := hxs.len
  have HB := Lib.hid (And.intro hb0 hk0)
  by_cases h5 : sort = 5
  · subst h5
    rw [goodV, if_pos rfl] at hR
    have HA := Lib.hid (goodArray_any num den A n c cs rest R _ (hxs.below stays_cell hb0 hb0.size) hn hR)
    clear hR hxs hb0 hk0 hln
    go_enter Try.func22, Try.ntmps22
    go_wp2_with fail
    refine HA.out.mono ?_
    rintro e w1 ⟨rfl, hb1⟩
    go_wp2_with fail
    go_ret
    exact ⟨rfl, HB.out.1.trans (hb1.mono HB.out.1.size)⟩
  have q5 : (sort == 5) = false := by rw [beq_eq_false_iff_ne]; exact h5
  rw [goodV, if_neg h5] at hR
  clear hb0 hk0 hxs h5
  dsimp only at hR
  rw [hln] at hR
  clear hln
  by_cases hn0 : 0 < n
  · have HR0 : Hid (false = R) := by show _ = _; rw [← hR, if_pos (.inl hn0)]
    have hnI : (n : Int) > 0 := by omega
    clear hR
    go_enter Try.func22, Try.ntmps22
    go_wp2_with fail
    go_ret
    exact ⟨ret_bool HR0.out, HB.out.1⟩
  have hnI : ¬ ((n : Int) > 0) := by omega
  by_cases hr0 : rest = 0
  · subst hr0
    have hfg : ∃ fg : Bool, fracGood num den = fg := ⟨_, rfl⟩
    obtain ⟨fg, hfg⟩ := hfg
    rw [hfg] at hR
    have HFR := Lib.hid (good_is num den _ hfg)
    clear hfg
    cases fg with
    | false =>
      have HR0 : Hid (false = R) := by show _ = _; rw [← hR, if_pos (.inr (.inr (.inl rfl)))]
      clear hR
      go_enter Try.func22, Try.ntmps22
      go_wp2_with fail
      refine (HFR.out _).mono ?_
      rintro e w1 ⟨rfl, hb1⟩
      have hk1 := HB.out.2.below hb1 (by simp)
      have v0 : w1.cell? ⟨w.heap.size, 0, none⟩ = some (.int .i64 num) := hk1.cell 0
      have v1 : w1.cell? ⟨w.heap.size, 1, none⟩ = some (.int .i64 den) := hk1.cell 1
      have hzv : w.heap.size < w1.heap.size := hk1.lt
      have HB1 : Hid (Below w.heap.size w w1) := HB.out.1.trans (hb1.mono (by simp))
      clear hk1 hb1
      go_wp2_with fail
      go_ret
      exact ⟨ret_bool HR0.out, HB1.out⟩
    | true =>
      by_cases h3 : sort = 3
      · subst h3
        have HR0 : Hid (true = R) := by
          show _ = _
          rw [← hR, if_neg (cond_no hn0 (.inl rfl)), if_neg (by omega), if_neg (by omega), if_neg (by decide)]
        have HWD : Hid (wbits 3 = 0) := by show _ = _; decide
        clear hR
        go_enter Try.func22, Try.ntmps22
        go_wp2_with fail
        refine (HFR.out _).mono ?_
        rintro e w1 ⟨rfl, hb1⟩
        have hk1 := HB.out.2.below hb1 (by simp)
        have v0 : w1.cell? ⟨w.heap.size, 0, none⟩ = some (.int .i64 num) := hk1.cell 0
        have v1 : w1.cell? ⟨w.heap.size, 1, none⟩ = some (.int .i64 den) := hk1.cell 1
        have hzv : w.heap.size < w1.heap.size := hk1.lt
        have HB1 : Hid (Below w.heap.size w w1) := HB.out.1.trans (hb1.mono (by simp))
        clear hk1 hb1
        go_wp2_with (go_at_call 27; refine (wordBits_is _ _ HWD.out _).mono ?_; rintro e w' ⟨rfl, rfl⟩)
        go_ret
        exact ⟨ret_bool HR0.out, HB1.out⟩
      have q3 : (sort == 3) = false := by rw [beq_eq_false_iff_ne]; exact h3
      have q3' : (sort != 3) = true := by rw [bne_iff_ne]; exact h3
      by_cases hd1 : den = 1
      · have qd : (den != 1) = false := by rw [bne_eq_false_iff_eq]; exact hd1
        have HD1 := Lib.hid hd1
        have hR2 : (if sort = 1 then decide (num = 0 ∨ num = 1) else if sort = 4 then thingB num else if wordB sort = true then decide (0 ≤ num ∧ num < 2 ^ (sort - 10).toNat) else true) = R := by
          rw [← hR, if_neg (cond_no hn0 (.inr hd1))]
        clear hR hd1
        by_cases h1 : sort = 1
        · subst h1
          rw [if_pos rfl] at hR2
          have hc : ((num == 0) = true ∧ true = R) ∨ ((num == 0) = false ∧ (num == 1) = R) := by
            rw [← hR2]
            by_cases e0 : num = 0
            · exact .inl ⟨by simpa using e0, by simp [e0]⟩
            · exact .inr ⟨by simpa using e0, by rw [Bool.eq_iff_iff]; simp [e0]⟩
          clear hR2
          rcases hc with ⟨e0, hr⟩ | ⟨e0, hr⟩
          all_goals
            have HR0 := Lib.hid hr
            clear hr
            go_enter Try.func22, Try.ntmps22
            go_wp2_with fail
            refine (HFR.out _).mono ?_
            rintro e w1 ⟨rfl, hb1⟩
            have hk1 := HB.out.2.below hb1 (by simp)
            have v0 : w1.cell? ⟨w.heap.size, 0, none⟩ = some (.int .i64 num) := hk1.cell 0
            have v1 : w1.cell? ⟨w.heap.size, 1, none⟩ = some (.int .i64 den) := hk1.cell 1
            have hzv : w.heap.size < w1.heap.size := hk1.lt
            have HB1 : Hid (Below w.heap.size w w1) := HB.out.1.trans (hb1.mono (by simp))
            clear hk1 hb1
            go_wp2_with fail
            go_ret
            exact ⟨ret_bool HR0.out, HB1.out⟩
        have q1 : (sort == 1) = false := by rw [beq_eq_false_iff_ne]; exact h1
        rw [if_neg h1] at hR2
        by_cases h4 : sort = 4
        · subst h4
          rw [if_pos rfl] at hR2
          have HT := Lib.hid (isThing_is num _ hR2)
          clear hR2
          go_enter Try.func22, Try.ntmps22
          go_wp2_with fail
          refine (HFR.out _).mono ?_
          rintro e w1 ⟨rfl, hb1⟩
          have hk1 := HB.out.2.below hb1 (by simp)
          have v0 : w1.cell? ⟨w.heap.size, 0, none⟩ = some (.int .i64 num) := hk1.cell 0
          have v1 : w1.cell? ⟨w.heap.size, 1, none⟩ = some (.int .i64 den) := hk1.cell 1
          have hzv : w.heap.size < w1.heap.size := hk1.lt
          have HB1 : Hid (Below w.heap.size w w1) := HB.out.1.trans (hb1.mono (by simp))
          clear hk1 hb1
          go_wp2_with (go_at_call 44; refine (HT.out _).mono ?_; rintro e w' ⟨rfl, rfl⟩)
          go_ret
          exact ⟨rfl, HB1.out⟩
        have q4 : (sort == 4) = false := by rw [beq_eq_false_iff_ne]; exact h4
        rw [if_neg h4] at hR2
        cases hw : wordB sort with
        | false =>
          rw [hw, if_neg (by simp)] at hR2
          have HR0 := Lib.hid hR2
          have HWD : Hid (wbits sort = 0) := wbits_zero.2 hw
          clear hR2 hw
          go_enter Try.func22, Try.ntmps22
          go_wp2_with fail
          refine (HFR.out _).mono ?_
          rintro e w1 ⟨rfl, hb1⟩
          have hk1 := HB.out.2.below hb1 (by simp)
          have v0 : w1.cell? ⟨w.heap.size, 0, none⟩ = some (.int .i64 num) := hk1.cell 0
          have v1 : w1.cell? ⟨w.heap.size, 1, none⟩ = some (.int .i64 den) := hk1.cell 1
          have hzv : w.heap.size < w1.heap.size := hk1.lt
          have HB1 : Hid (Below w.heap.size w w1) := HB.out.1.trans (hb1.mono (by simp))
          clear hk1 hb1
          go_wp2_with (go_at_call 27; refine (wordBits_is _ _ HWD.out _).mono ?_; rintro e w' ⟨rfl, rfl⟩)
          go_ret
          exact ⟨ret_bool HR0.out, HB1.out⟩
        | true =>
          rw [hw, if_pos rfl] at hR2
          have hs : sort = 11 ∨ sort = 12 ∨ sort = 13 ∨ sort = 14 ∨ sort = 15 ∨ sort = 16 ∨ sort = 17 ∨ sort = 18 := by
            simp only [wordB, decide_eq_true_eq] at hw; omega
          clear hw q5 q3 q3' q1 q4 h1 h3 h4
          have hc : decide (0 ≤ num) = false ∧ false = R ∨ decide (0 ≤ num) = true ∧ decide (num < 2 ^ (sort - 10).toNat) = R := by
            rw [← hR2]
            by_cases e0 : 0 ≤ num
            · exact .inr ⟨by simpa using e0, by simp [e0]⟩
            · exact .inl ⟨by simpa using e0, by simp [e0]⟩
          clear hR2
          rcases hs with rfl | rfl | rfl | rfl | rfl | rfl | rfl | rfl
          · have e : (2 : Int) ^ (((11 : Int) - 10).toNat) = 2 := by decide
            rw [e] at hc
            have HWD : Hid (wbits 11 = 1) := by show _ = _; decide
            clear e
            rcases hc with ⟨e0, hr⟩ | ⟨e0, hr⟩
            all_goals
              have HR0 := Lib.hid hr
              clear hr
              go_enter Try.func22, Try.ntmps22
              go_wp2_with fail
              refine (HFR.out _).mono ?_
              rintro e w1 ⟨rfl, hb1⟩
              have hk1 := HB.out.2.below hb1 (by simp)
              have v0 : w1.cell? ⟨w.heap.size, 0, none⟩ = some (.int .i64 num) := hk1.cell 0
              have v1 : w1.cell? ⟨w.heap.size, 1, none⟩ = some (.int .i64 den) := hk1.cell 1
              have hzv : w.heap.size < w1.heap.size := hk1.lt
              have HB1 : Hid (Below w.heap.size w w1) := HB.out.1.trans (hb1.mono (by simp))
              clear hk1 hb1
              go_wp2_with (go_at_call 27; refine (wordBits_is _ _ HWD.out _).mono ?_; rintro e w' ⟨rfl, rfl⟩)
              go_ret
              exact ⟨ret_bool HR0.out, HB1.out⟩
          · have e : (2 : Int) ^ (((12 : Int) - 10).toNat) = 4 := by decide
            rw [e] at hc
            have HWD : Hid (wbits 12 = 2) := by show _ = _; decide
            clear e
            rcases hc with ⟨e0, hr⟩ | ⟨e0, hr⟩
            all_goals
              have HR0 := Lib.hid hr
              clear hr
              go_enter Try.func22, Try.ntmps22
              go_wp2_with fail
              refine (HFR.out _).mono ?_
              rintro e w1 ⟨rfl, hb1⟩
              have hk1 := HB.out.2.below hb1 (by simp)
              have v0 : w1.cell? ⟨w.heap.size, 0, none⟩ = some (.int .i64 num) := hk1.cell 0
              have v1 : w1.cell? ⟨w.heap.size, 1, none⟩ = some (.int .i64 den) := hk1.cell 1
              have hzv : w.heap.size < w1.heap.size := hk1.lt
              have HB1 : Hid (Below w.heap.size w w1) := HB.out.1.trans (hb1.mono (by simp))
              clear hk1 hb1
              go_wp2_with (go_at_call 27; refine (wordBits_is _ _ HWD.out _).mono ?_; rintro e w' ⟨rfl, rfl⟩)
              go_ret
              exact ⟨ret_bool HR0.out, HB1.out⟩
          · have e : (2 : Int) ^ (((13 : Int) - 10).toNat) = 8 := by decide
            rw [e] at hc
            have HWD : Hid (wbits 13 = 3) := by show _ = _; decide
            clear e
            rcases hc with ⟨e0, hr⟩ | ⟨e0, hr⟩
            all_goals
              have HR0 := Lib.hid hr
              clear hr
              go_enter Try.func22, Try.ntmps22
              go_wp2_with fail
              refine (HFR.out _).mono ?_
              rintro e w1 ⟨rfl, hb1⟩
              have hk1 := HB.out.2.below hb1 (by simp)
              have v0 : w1.cell? ⟨w.heap.size, 0, none⟩ = some (.int .i64 num) := hk1.cell 0
              have v1 : w1.cell? ⟨w.heap.size, 1, none⟩ = some (.int .i64 den) := hk1.cell 1
              have hzv : w.heap.size < w1.heap.size := hk1.lt
              have HB1 : Hid (Below w.heap.size w w1) := HB.out.1.trans (hb1.mono (by simp))
              clear hk1 hb1
              go_wp2_with (go_at_call 27; refine (wordBits_is _ _ HWD.out _).mono ?_; rintro e w' ⟨rfl, rfl⟩)
              go_ret
              exact ⟨ret_bool HR0.out, HB1.out⟩
          · have e : (2 : Int) ^ (((14 : Int) - 10).toNat) = 16 := by decide
            rw [e] at hc
            have HWD : Hid (wbits 14 = 4) := by show _ = _; decide
            clear e
            rcases hc with ⟨e0, hr⟩ | ⟨e0, hr⟩
            all_goals
              have HR0 := Lib.hid hr
              clear hr
              go_enter Try.func22, Try.ntmps22
              go_wp2_with fail
              refine (HFR.out _).mono ?_
              rintro e w1 ⟨rfl, hb1⟩
              have hk1 := HB.out.2.below hb1 (by simp)
              have v0 : w1.cell? ⟨w.heap.size, 0, none⟩ = some (.int .i64 num) := hk1.cell 0
              have v1 : w1.cell? ⟨w.heap.size, 1, none⟩ = some (.int .i64 den) := hk1.cell 1
              have hzv : w.heap.size < w1.heap.size := hk1.lt
              have HB1 : Hid (Below w.heap.size w w1) := HB.out.1.trans (hb1.mono (by simp))
              clear hk1 hb1
              go_wp2_with (go_at_call 27; refine (wordBits_is _ _ HWD.out _).mono ?_; rintro e w' ⟨rfl, rfl⟩)
              go_ret
              exact ⟨ret_bool HR0.out, HB1.out⟩
          · have e : (2 : Int) ^ (((15 : Int) - 10).toNat) = 32 := by decide
            rw [e] at hc
            have HWD : Hid (wbits 15 = 5) := by show _ = _; decide
            clear e
            rcases hc with ⟨e0, hr⟩ | ⟨e0, hr⟩
            all_goals
              have HR0 := Lib.hid hr
              clear hr
              go_enter Try.func22, Try.ntmps22
              go_wp2_with fail
              refine (HFR.out _).mono ?_
              rintro e w1 ⟨rfl, hb1⟩
              have hk1 := HB.out.2.below hb1 (by simp)
              have v0 : w1.cell? ⟨w.heap.size, 0, none⟩ = some (.int .i64 num) := hk1.cell 0
              have v1 : w1.cell? ⟨w.heap.size, 1, none⟩ = some (.int .i64 den) := hk1.cell 1
              have hzv : w.heap.size < w1.heap.size := hk1.lt
              have HB1 : Hid (Below w.heap.size w w1) := HB.out.1.trans (hb1.mono (by simp))
              clear hk1 hb1
              go_wp2_with (go_at_call 27; refine (wordBits_is _ _ HWD.out _).mono ?_; rintro e w' ⟨rfl, rfl⟩)
              go_ret
              exact ⟨ret_bool HR0.out, HB1.out⟩
          · have e : (2 : Int) ^ (((16 : Int) - 10).toNat) = 64 := by decide
            rw [e] at hc
            have HWD : Hid (wbits 16 = 6) := by show _ = _; decide
            clear e
            rcases hc with ⟨e0, hr⟩ | ⟨e0, hr⟩
            all_goals
              have HR0 := Lib.hid hr
              clear hr
              go_enter Try.func22, Try.ntmps22
              go_wp2_with fail
              refine (HFR.out _).mono ?_
              rintro e w1 ⟨rfl, hb1⟩
              have hk1 := HB.out.2.below hb1 (by simp)
              have v0 : w1.cell? ⟨w.heap.size, 0, none⟩ = some (.int .i64 num) := hk1.cell 0
              have v1 : w1.cell? ⟨w.heap.size, 1, none⟩ = some (.int .i64 den) := hk1.cell 1
              have hzv : w.heap.size < w1.heap.size := hk1.lt
              have HB1 : Hid (Below w.heap.size w w1) := HB.out.1.trans (hb1.mono (by simp))
              clear hk1 hb1
              go_wp2_with (go_at_call 27; refine (wordBits_is _ _ HWD.out _).mono ?_; rintro e w' ⟨rfl, rfl⟩)
              go_ret
              exact ⟨ret_bool HR0.out, HB1.out⟩
          · have e : (2 : Int) ^ (((17 : Int) - 10).toNat) = 128 := by decide
            rw [e] at hc
            have HWD : Hid (wbits 17 = 7) := by show _ = _; decide
            clear e
            rcases hc with ⟨e0, hr⟩ | ⟨e0, hr⟩
            all_goals
              have HR0 := Lib.hid hr
              clear hr
              go_enter Try.func22, Try.ntmps22
              go_wp2_with fail
              refine (HFR.out _).mono ?_
              rintro e w1 ⟨rfl, hb1⟩
              have hk1 := HB.out.2.below hb1 (by simp)
              have v0 : w1.cell? ⟨w.heap.size, 0, none⟩ = some (.int .i64 num) := hk1.cell 0
              have v1 : w1.cell? ⟨w.heap.size, 1, none⟩ = some (.int .i64 den) := hk1.cell 1
              have hzv : w.heap.size < w1.heap.size := hk1.lt
              have HB1 : Hid (Below w.heap.size w w1) := HB.out.1.trans (hb1.mono (by simp))
              clear hk1 hb1
              go_wp2_with (go_at_call 27; refine (wordBits_is _ _ HWD.out _).mono ?_; rintro e w' ⟨rfl, rfl⟩)
              go_ret
              exact ⟨ret_bool HR0.out, HB1.out⟩
          · have e : (2 : Int) ^ (((18 : Int) - 10).toNat) = 256 := by decide
            rw [e] at hc
            have HWD : Hid (wbits 18 = 8) := by show _ = _; decide
            clear e
            rcases hc with ⟨e0, hr⟩ | ⟨e0, hr⟩
            all_goals
              have HR0 := Lib.hid hr
              clear hr
              go_enter Try.func22, Try.ntmps22
              go_wp2_with fail
              refine (HFR.out _).mono ?_
              rintro e w1 ⟨rfl, hb1⟩
              have hk1 := HB.out.2.below hb1 (by simp)
              have v0 : w1.cell? ⟨w.heap.size, 0, none⟩ = some (.int .i64 num) := hk1.cell 0
              have v1 : w1.cell? ⟨w.heap.size, 1, none⟩ = some (.int .i64 den) := hk1.cell 1
              have hzv : w.heap.size < w1.heap.size := hk1.lt
              have HB1 : Hid (Below w.heap.size w w1) := HB.out.1.trans (hb1.mono (by simp))
              clear hk1 hb1
              go_wp2_with (go_at_call 27; refine (wordBits_is _ _ HWD.out _).mono ?_; rintro e w' ⟨rfl, rfl⟩)
              go_ret
              exact ⟨ret_bool HR0.out, HB1.out⟩
      · have qd : (den != 1) = true := by rw [bne_iff_ne]; exact hd1
        have HR0 : Hid (false = R) := by show _ = _; rw [← hR, if_pos (.inr (.inr (.inr ⟨h3, hd1⟩)))]
        clear hR
        go_enter Try.func22, Try.ntmps22
        go_wp2_with fail
        refine (HFR.out _).mono ?_
        rintro e w1 ⟨rfl, hb1⟩
        have hk1 := HB.out.2.below hb1 (by simp)
        have v0 : w1.cell? ⟨w.heap.size, 0, none⟩ = some (.int .i64 num) := hk1.cell 0
        have v1 : w1.cell? ⟨w.heap.size, 1, none⟩ = some (.int .i64 den) := hk1.cell 1
        have hzv : w.heap.size < w1.heap.size := hk1.lt
        have HB1 : Hid (Below w.heap.size w w1) := HB.out.1.trans (hb1.mono (by simp))
        clear hk1 hb1
        go_wp2_with fail
        go_ret
        exact ⟨ret_bool HR0.out, HB1.out⟩
  · have HR0 : Hid (false = R) := by show _ = _; rw [← hR, if_pos (.inr (.inl hr0))]
    have qr : (rest != 0) = true := by rw [bne_iff_ne]; exact hr0
    clear hR
    go_enter Try.func22, Try.ntmps22
    go_wp2_with fail
    go_ret
    exact ⟨ret_bool HR0.out, HB.out.1⟩

end Go.Proofs.Ythooecojopfjbaa
