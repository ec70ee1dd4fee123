/- Walks: things; arrays in their form. -/
import Derived.Test.YthooecojopfjbaaAskLM
import Derived.Test.YthooecojopfjbaaAskT
namespace Go.Proofs.Ythooecojopfjbaa
open Go.RowKit

theorem thing_is (x : Int) (b : Bool) (h : thingB x = b) (w : World) : Calls Try.prog 125 #[.int .i64 x] w fun e w' => e = .returned (.bool b) ∧ w = w' := by
  have hc : (decide (0 ≤ x) = false ∧ false = b) ∨ (decide (0 ≤ x) = true ∧ decide (x ≤ 1000) = b) := by
    rw [← h, thingB]
    by_cases h0 : 0 ≤ x
    · exact .inr ⟨by simpa using h0, by simp [h0]⟩
    · exact .inl ⟨by simpa using h0, by simp [h0]⟩
  clear h
  rcases hc with ⟨h0, rfl⟩ | ⟨h0, rfl⟩
  all_goals
    go_enter Try.func125, Try.ntmps125
    go_wp2_with fail
    go_ret
    exact ⟨rfl, rfl⟩
theorem isThing_is (x : Int) (b : Bool) (h : thingB x = b) (w : World) : Calls Try.prog 44 #[.int .i64 x] w fun e w' => e = .returned (.bool b) ∧ w = w' := by
  have hc : (decide (0 ≤ x) = false ∧ false = b) ∨ (decide (0 ≤ x) = true ∧ decide (x ≤ 1000) = b) := by
    rw [← h, thingB]
    by_cases h0 : 0 ≤ x
    · exact .inr ⟨by simpa using h0, by simp [h0]⟩
    · exact .inl ⟨by simpa using h0, by simp [h0]⟩
  clear h
  rcases hc with ⟨h0, rfl⟩ | ⟨h0, rfl⟩
  all_goals
    go_enter Try.func44, Try.ntmps44
    go_wp2_with fail
    go_ret
    exact ⟨rfl, rfl⟩

set_option maxRecDepth 100000 in
set_option maxHeartbeats 8000000 in
theorem array_any (num den : Int) (A : Option Addr) (n c : Nat) (cs : List CellD) (rest : Int) (R : Bool) (w : World) (hxs : ArrB AtCell 2 w w.heap.size A n cs) (hn : n ≤ 9223372036854775807) (hR : arrB ⟨num, den, cs, rest⟩ = R) :
    Calls Try.prog 140 #[.agg #[.int .i64 num, .int .i64 den, .slice A n c, .int .i64 rest]] w fun e w' => e = .returned (.bool R) ∧ Below w.heap.size w w' := by
  have hb0 : Below w.heap.size w (w.alloc (.cells #[.int .i64 num, .int .i64 den, .slice A n c, .int .i64 rest] 54)) := (Below.refl _ _).alloc (Nat.le_refl _) _
  have hk0 := Blk.new w 54 #[.int .i64 num, .int .i64 den, .slice A n c, .int .i64 rest]
  by_cases hnum : num = 0
  · subst hnum
    by_cases hden : den = 0
    · subst hden
      cases ht : thingB rest with
      | false =>
        have HR0 : Hid (false = R) := by show _ = _; rw [← hR]; simp [arrB, ht]
        have HT := Lib.hid (thing_is rest _ ht)
        have HB := Lib.hid hb0
        clear hR ht hb0 hk0 hxs
        go_enter Try.func140, Try.ntmps140
        go_wp2_with (go_at_call 125; refine (HT.out _).mono ?_; rintro e w' ⟨rfl, rfl⟩)
        go_ret
        exact ⟨ret_bool HR0.out, HB.out⟩
      | true =>
        have hr2 : cellsOk rest (-1) cs = R := by rw [← hR]; simp [arrB, ht]
        have HT := Lib.hid (thing_is rest _ ht)
        have HRR := Lib.hid hr2
        have HX := Lib.hid (And.intro hb0 (And.intro hk0 hxs))
        have hln := hxs.len
        have HLN := Lib.hid hln
        clear hR hr2 ht hb0 hk0 hxs hln
        go_enter Try.func140, Try.ntmps140
        go_wp2_with (go_at_call 125; refine (HT.out _).mono ?_; rintro e w' ⟨rfl, rfl⟩)
        go_loopw [18] (fun s wr => ∃ k : Nat, k ≤ n ∧ s = .int .i64 k ∧ ∃ p : Int, ((k = 0 ∧ p = -1) ∨ (0 < k ∧ 0 ≤ p ∧ ∃ x, cs[k - 1]? = some x ∧ x.at_ = p)) ∧ Below w.heap.size w wr ∧ Hid (cellsOk rest p (cs.drop k) = R) ∧ Blk wr w.heap.size 54 #[.int .i64 0, .int .i64 0, .slice A n c, .int .i64 rest]) (fun s _ => n - (intOf s).toNat)
        case atStart => exact ⟨0, Nat.zero_le _, rfl, -1, .inl ⟨rfl, rfl⟩, HX.out.1, HRR, HX.out.2.1⟩
        case round =>
          obtain ⟨k, hk, rfl, p, hp, hbel, HK, hbv⟩ := hrel
          have hzv : w.heap.size < wr.heap.size := hbv.lt
          have y2 : wr.cell? ⟨w.heap.size, 2, none⟩ = some (.slice A n c) := hbv.cell 2
          by_cases hlt : k < n
          · obtain ⟨b, off, hx, rfl, hb, h0, h1, ⟨-, -⟩, -⟩ := cells_get (HX.out.2.2.below stays_cell hbel (Nat.le_refl _)) hlt
            have e1 := HK.out
            rw [drop_cons hx, cellsOk] at e1
            have hcs : cs[k + 1 - 1]? = some cs[k] := List.getElem?_eq_getElem hx
            have hprev : ∀ j, k = j + 1 → wr.cell? ⟨b, off + j * 2, none⟩ = some (.int .i64 p) := fun j hj => by
              rcases hp with ⟨h, -⟩ | ⟨-, -, x, hx2, hxa⟩
              · omega
              · obtain ⟨b', off', hx', e', -, h0', -⟩ := cells_get (HX.out.2.2.below stays_cell hbel (Nat.le_refl _)) (i := j) (by omega)
                simp only [Option.some.injEq, Addr.mk.injEq, and_true] at e'
                obtain ⟨rfl, rfl⟩ := e'
                have : cs[j] = x := by
                  rw [show k - 1 = j from by omega, List.getElem?_eq_getElem hx'] at hx2
                  simpa using hx2
                rw [this, hxa] at h0'
                exact h0'
            have hp0 : (k = 0 ∧ p = -1) ∨ ∃ j, k = j + 1 := by
              rcases hp with h | ⟨h, -⟩
              · exact .inl h
              · exact .inr ⟨k - 1, by omega⟩
            have HCS := Lib.hid hcs
            generalize cs[k] = cv at e1 h0 h1 HCS
            obtain ⟨ca, ci⟩ := cv
            simp only at h0 h1 e1
            have hkI : (k : Int) < (n : Int) := by omega
            have hwY : Below wr.heap.size wr (wr.alloc (.cells #[.int .i64 ca, .int .i64 ci] 93)) := (Below.refl _ _).alloc (Nat.le_refl _) _
            have hbY := hbel.trans (hwY.mono (Nat.le_of_lt hzv))
            have hvY := hbv.below hwY hzv
            have hnY := Blk.new wr 93 #[.int .i64 ca, .int .i64 ci]
            have HPV := Lib.hid (show ∀ j, k = j + 1 → (wr.alloc (.cells #[.int .i64 ca, .int .i64 ci] 93)).cell? ⟨b, off + j * 2, none⟩ = some (.int .i64 p) from fun j hj => (hwY.cell (p := ⟨b, off + j * 2, none⟩) (by show b < _; omega)).trans (hprev j hj))
            clear hcs hx hp HK hprev hbel hbv hwY
            go_upto_region 6 with fail
            generalize wr.alloc (.cells #[.int .i64 ca, .int .i64 ci] 93) = Y at hbY hvY hnY HPV ⊢
            have m0 : Y.cell? ⟨wr.heap.size, 0, none⟩ = some (.int .i64 ca) := hnY.cell 0
            have m1 : Y.cell? ⟨wr.heap.size, 1, none⟩ = some (.int .i64 ci) := hnY.cell 1
            have v2 : Y.cell? ⟨w.heap.size, 2, none⟩ = some (.slice (some ⟨b, off, none⟩) n c) := hvY.cell 2
            have v3 : Y.cell? ⟨w.heap.size, 3, none⟩ = some (.int .i64 rest) := hvY.cell 3
            have HB1 := Lib.hid (And.intro hbY hvY)
            clear hbY hvY hnY h0 h1 y2
            cases q1 : thingB ca with
            | false =>
              have HT1 := Lib.hid (thing_is ca _ q1)
              have HT2 := HT1
              have HR0 : Hid (false = R) := by show _ = _; rw [← e1]; simp [cellOk, q1]
              clear e1
              go_quiet ((go_at_call 125; first | with_reducible exact quiet_same1 HT1.out | with_reducible exact quiet_same1 HT2.out))
              go_wp2_with fail
              go_ret
              exact ⟨ret_bool HR0.out, (by first | exact below_drewN HB1.out.1 _ | exact HB1.out.1)⟩
            | true =>
              have HT1 := Lib.hid (thing_is ca _ q1)
              have hca : 0 ≤ ca := by simp only [thingB, decide_eq_true_eq] at q1; exact q1.1
              have HAT := Lib.hid hca
              clear hca
              cases q2 : thingB ci with
              | false =>
                have HT2 := Lib.hid (thing_is ci _ q2)
                have HR0 : Hid (false = R) := by show _ = _; rw [← e1]; simp [cellOk, q1, q2]
                clear e1
                go_quiet ((go_at_call 125; first | with_reducible exact quiet_same1 HT1.out | with_reducible exact quiet_same1 HT2.out))
                go_wp2_with fail
                go_ret
                exact ⟨ret_bool HR0.out, (by first | exact below_drewN HB1.out.1 _ | exact HB1.out.1)⟩
              | true =>
                have HT2 := Lib.hid (thing_is ci _ q2)
                cases q3 : (ci == rest) with
                | true =>
                  have HR0 : Hid (false = R) := by show _ = _; rw [← e1]; simp [cellOk, q1, q2, q3]
                  clear e1
                  go_quiet ((go_at_call 125; first | with_reducible exact quiet_same1 HT1.out | with_reducible exact quiet_same1 HT2.out))
                  go_wp2_with fail
                  go_ret
                  exact ⟨ret_bool HR0.out, (by first | exact below_drewN HB1.out.1 _ | exact HB1.out.1)⟩
                | false =>
                  rcases hp0 with ⟨rfl, rfl⟩ | ⟨j, rfl⟩
                  · have q4 : decide (-1 < ca) = true := by rw [decide_eq_true_eq]; have := HAT.out; omega
                    rw [show cellOk rest (-1) ⟨ca, ci⟩ = true by simp [cellOk, q1, q2, q3, q4], Bool.true_and] at e1
                    have H1 := Lib.hid e1
                    clear e1
                    go_quiet ((go_at_call 125; first | with_reducible exact quiet_same1 HT1.out | with_reducible exact quiet_same1 HT2.out))
                    go_wp2_with fail
                    go_roundw
                    case rel => exact ⟨0 + 1, hlt, by go_num, ca, .inr ⟨Nat.succ_pos _, HAT.out, ⟨ca, ci⟩, HCS.out, rfl⟩, below_drewN HB1.out.1 _, H1, HB1.out.2.drewN _⟩
                    case measure => simp [intOf]; omega
                  · have hpv := HPV.out j rfl
                    cases q5 : decide (ca ≤ p) with
                    | true =>
                      have q4 : decide (p < ca) = false := by simp only [decide_eq_true_eq, decide_eq_false_iff_not] at q5 ⊢; omega
                      have HR0 : Hid (false = R) := by show _ = _; rw [← e1]; simp [cellOk, q1, q2, q3, q4]
                      clear e1
                      go_quiet ((go_at_call 125; first | with_reducible exact quiet_same1 HT1.out | with_reducible exact quiet_same1 HT2.out))
                      go_wp2_with fail
                      go_ret
                      exact ⟨ret_bool HR0.out, (by first | exact below_drewN HB1.out.1 _ | exact HB1.out.1)⟩
                    | false =>
                      have q4 : decide (p < ca) = true := by simp only [decide_eq_true_eq, decide_eq_false_iff_not] at q5 ⊢; omega
                      rw [show cellOk rest p ⟨ca, ci⟩ = true by simp [cellOk, q1, q2, q3, q4], Bool.true_and] at e1
                      have H1 := Lib.hid e1
                      clear e1
                      go_quiet ((go_at_call 125; first | with_reducible exact quiet_same1 HT1.out | with_reducible exact quiet_same1 HT2.out))
                      go_wp2_with fail
                      go_roundw
                      case rel => exact ⟨j + 1 + 1, hlt, by go_num, ca, .inr ⟨Nat.succ_pos _, HAT.out, ⟨ca, ci⟩, HCS.out, rfl⟩, below_drewN HB1.out.1 _, H1, HB1.out.2.drewN _⟩
                      case measure => simp [intOf]; omega
          · obtain rfl : n = k := by omega
            have e1 := HK.out
            rw [List.drop_of_length_le (by rw [HLN.out]; omega), cellsOk] at e1
            have HR0 := Lib.hid e1
            have HB1 := Lib.hid hbel
            clear e1 HK hp hbel hbv
            go_wp2_with fail
            go_ret
            exact ⟨ret_bool HR0.out, HB1.out⟩
    · have HR0 : Hid (false = R) := by show _ = _; rw [← hR]; simp [arrB, hden]
      have q0 : (den == 0) = false := by rw [beq_eq_false_iff_ne]; exact hden
      have q1 : (den != 0) = true := by rw [bne_iff_ne]; exact hden
      have HB := Lib.hid hb0
      clear hR hb0 hk0 hxs hden
      go_enter Try.func140, Try.ntmps140
      go_wp2_with fail
      go_ret
      exact ⟨ret_bool HR0.out, HB.out⟩
  · have HR0 : Hid (false = R) := by show _ = _; rw [← hR]; simp [arrB, hnum]
    have q0 : (num == 0) = false := by rw [beq_eq_false_iff_ne]; exact hnum
    have q1 : (num != 0) = true := by rw [bne_iff_ne]; exact hnum
    have HB := Lib.hid hb0
    clear hR hb0 hk0 hxs hnum
    go_enter Try.func140, Try.ntmps140
    go_wp2_with fail
    go_ret
    exact ⟨ret_bool HR0.out, HB.out⟩

set_option maxRecDepth 100000 in
set_option maxHeartbeats 8000000 in
theorem goodArray_any (num den : Int) (A : Option Addr) (n c : Nat) (cs : List CellD) (rest : Int) (R : Bool) (w : World) (hxs : ArrB AtCell 2 w w.heap.size A n cs) (hn : n ≤ 9223372036854775807) (hR : arrB ⟨num, den, cs, rest⟩ = R) :
    Calls Try.prog 42 #[.agg #[.int .i64 num, .int .i64 den, .slice A n c, .int .i64 rest]] w fun e w' => e = .returned (.bool R) ∧ Below w.heap.size w w' := by
  have hb0 : Below w.heap.size w (w.alloc (.cells #[.int .i64 num, .int .i64 den, .slice A n c, .int .i64 rest] 54)) := (Below.refl _ _).alloc (Nat.le_refl _) _
  have hk0 := Blk.new w 54 #[.int .i64 num, .int .i64 den, .slice A n c, .int .i64 rest]
  by_cases hnum : num = 0
  · subst hnum
    by_cases hden : den = 0
    · subst hden
      cases ht : thingB rest with
      | false =>
        have HR0 : Hid (false = R) := by show _ = _; rw [← hR]; simp [arrB, ht]
        have HT := Lib.hid (isThing_is rest _ ht)
        have HB := Lib.hid hb0
        clear hR ht hb0 hk0 hxs
        go_enter Try.func42, Try.ntmps42
        go_wp2_with (go_at_call 44; refine (HT.out _).mono ?_; rintro e w' ⟨rfl, rfl⟩)
        go_ret
        exact ⟨ret_bool HR0.out, HB.out⟩
      | true =>
        have hr2 : cellsOk rest (-1) cs = R := by rw [← hR]; simp [arrB, ht]
        have HT := Lib.hid (isThing_is rest _ ht)
        have HRR := Lib.hid hr2
        have HX := Lib.hid (And.intro hb0 (And.intro hk0 hxs))
        have hln := hxs.len
        have HLN := Lib.hid hln
        clear hR hr2 ht hb0 hk0 hxs hln
        go_enter Try.func42, Try.ntmps42
        go_wp2_with (go_at_call 44; refine (HT.out _).mono ?_; rintro e w' ⟨rfl, rfl⟩)
        go_loopw [3] (fun s wr => ∃ k : Nat, k ≤ n ∧ s = .int .i64 k ∧ ∃ p : Int, ((k = 0 ∧ p = -1) ∨ (0 < k ∧ 0 ≤ p ∧ ∃ x, cs[k - 1]? = some x ∧ x.at_ = p)) ∧ Below w.heap.size w wr ∧ Hid (cellsOk rest p (cs.drop k) = R) ∧ Blk wr w.heap.size 54 #[.int .i64 0, .int .i64 0, .slice A n c, .int .i64 rest]) (fun s _ => n - (intOf s).toNat)
        case atStart => exact ⟨0, Nat.zero_le _, rfl, -1, .inl ⟨rfl, rfl⟩, HX.out.1, HRR, HX.out.2.1⟩
        case round =>
          obtain ⟨k, hk, rfl, p, hp, hbel, HK, hbv⟩ := hrel
          have hzv : w.heap.size < wr.heap.size := hbv.lt
          have y2 : wr.cell? ⟨w.heap.size, 2, none⟩ = some (.slice A n c) := hbv.cell 2
          by_cases hlt : k < n
          · obtain ⟨b, off, hx, rfl, hb, h0, h1, ⟨-, -⟩, -⟩ := cells_get (HX.out.2.2.below stays_cell hbel (Nat.le_refl _)) hlt
            have e1 := HK.out
            rw [drop_cons hx, cellsOk] at e1
            have hcs : cs[k + 1 - 1]? = some cs[k] := List.getElem?_eq_getElem hx
            have hprev : ∀ j, k = j + 1 → wr.cell? ⟨b, off + j * 2, none⟩ = some (.int .i64 p) := fun j hj => by
              rcases hp with ⟨h, -⟩ | ⟨-, -, x, hx2, hxa⟩
              · omega
              · obtain ⟨b', off', hx', e', -, h0', -⟩ := cells_get (HX.out.2.2.below stays_cell hbel (Nat.le_refl _)) (i := j) (by omega)
                simp only [Option.some.injEq, Addr.mk.injEq, and_true] at e'
                obtain ⟨rfl, rfl⟩ := e'
                have : cs[j] = x := by
                  rw [show k - 1 = j from by omega, List.getElem?_eq_getElem hx'] at hx2
                  simpa using hx2
                rw [this, hxa] at h0'
                exact h0'
            have hp0 : (k = 0 ∧ p = -1) ∨ ∃ j, k = j + 1 := by
              rcases hp with h | ⟨h, -⟩
              · exact .inl h
              · exact .inr ⟨k - 1, by omega⟩
            have HCS := Lib.hid hcs
            generalize cs[k] = cv at e1 h0 h1 HCS
            obtain ⟨ca, ci⟩ := cv
            simp only at h0 h1 e1
            have hkI : (k : Int) < (n : Int) := by omega
            have hwY : Below wr.heap.size wr (wr.alloc (.cells #[.int .i64 ca, .int .i64 ci] 93)) := (Below.refl _ _).alloc (Nat.le_refl _) _
            have hbY := hbel.trans (hwY.mono (Nat.le_of_lt hzv))
            have hvY := hbv.below hwY hzv
            have hnY := Blk.new wr 93 #[.int .i64 ca, .int .i64 ci]
            have HPV := Lib.hid (show ∀ j, k = j + 1 → (wr.alloc (.cells #[.int .i64 ca, .int .i64 ci] 93)).cell? ⟨b, off + j * 2, none⟩ = some (.int .i64 p) from fun j hj => (hwY.cell (p := ⟨b, off + j * 2, none⟩) (by show b < _; omega)).trans (hprev j hj))
            clear hcs hx hp HK hprev hbel hbv hwY
            go_upto_region 7 with fail
            generalize wr.alloc (.cells #[.int .i64 ca, .int .i64 ci] 93) = Y at hbY hvY hnY HPV ⊢
            have m0 : Y.cell? ⟨wr.heap.size, 0, none⟩ = some (.int .i64 ca) := hnY.cell 0
            have m1 : Y.cell? ⟨wr.heap.size, 1, none⟩ = some (.int .i64 ci) := hnY.cell 1
            have v2 : Y.cell? ⟨w.heap.size, 2, none⟩ = some (.slice (some ⟨b, off, none⟩) n c) := hvY.cell 2
            have v3 : Y.cell? ⟨w.heap.size, 3, none⟩ = some (.int .i64 rest) := hvY.cell 3
            have HB1 := Lib.hid (And.intro hbY hvY)
            clear hbY hvY hnY h0 h1 y2
            cases q1 : thingB ca with
            | false =>
              have HT1 := Lib.hid (isThing_is ca _ q1)
              have HT2 := HT1
              have HR0 : Hid (false = R) := by show _ = _; rw [← e1]; simp [cellOk, q1]
              clear e1
              go_quiet ((go_at_call 44; first | with_reducible exact quiet_same1 HT1.out | with_reducible exact quiet_same1 HT2.out))
              go_wp2_with fail
              go_ret
              exact ⟨ret_bool HR0.out, (by first | exact below_drewN HB1.out.1 _ | exact HB1.out.1)⟩
            | true =>
              have HT1 := Lib.hid (isThing_is ca _ q1)
              have hca : 0 ≤ ca := by simp only [thingB, decide_eq_true_eq] at q1; exact q1.1
              have HAT := Lib.hid hca
              clear hca
              cases q2 : thingB ci with
              | false =>
                have HT2 := Lib.hid (isThing_is ci _ q2)
                have HR0 : Hid (false = R) := by show _ = _; rw [← e1]; simp [cellOk, q1, q2]
                clear e1
                go_quiet ((go_at_call 44; first | with_reducible exact quiet_same1 HT1.out | with_reducible exact quiet_same1 HT2.out))
                go_wp2_with fail
                go_ret
                exact ⟨ret_bool HR0.out, (by first | exact below_drewN HB1.out.1 _ | exact HB1.out.1)⟩
              | true =>
                have HT2 := Lib.hid (isThing_is ci _ q2)
                cases q3 : (ci == rest) with
                | true =>
                  have HR0 : Hid (false = R) := by show _ = _; rw [← e1]; simp [cellOk, q1, q2, q3]
                  clear e1
                  go_quiet ((go_at_call 44; first | with_reducible exact quiet_same1 HT1.out | with_reducible exact quiet_same1 HT2.out))
                  go_wp2_with fail
                  go_ret
                  exact ⟨ret_bool HR0.out, (by first | exact below_drewN HB1.out.1 _ | exact HB1.out.1)⟩
                | false =>
                  rcases hp0 with ⟨rfl, rfl⟩ | ⟨j, rfl⟩
                  · have q4 : decide (-1 < ca) = true := by rw [decide_eq_true_eq]; have := HAT.out; omega
                    rw [show cellOk rest (-1) ⟨ca, ci⟩ = true by simp [cellOk, q1, q2, q3, q4], Bool.true_and] at e1
                    have H1 := Lib.hid e1
                    clear e1
                    go_quiet ((go_at_call 44; first | with_reducible exact quiet_same1 HT1.out | with_reducible exact quiet_same1 HT2.out))
                    go_wp2_with fail
                    go_roundw
                    case rel => exact ⟨0 + 1, hlt, by go_num, ca, .inr ⟨Nat.succ_pos _, HAT.out, ⟨ca, ci⟩, HCS.out, rfl⟩, below_drewN HB1.out.1 _, H1, HB1.out.2.drewN _⟩
                    case measure => simp [intOf]; omega
                  · have hpv := HPV.out j rfl
                    cases q5 : decide (ca ≤ p) with
                    | true =>
                      have q4 : decide (p < ca) = false := by simp only [decide_eq_true_eq, decide_eq_false_iff_not] at q5 ⊢; omega
                      have HR0 : Hid (false = R) := by show _ = _; rw [← e1]; simp [cellOk, q1, q2, q3, q4]
                      clear e1
                      go_quiet ((go_at_call 44; first | with_reducible exact quiet_same1 HT1.out | with_reducible exact quiet_same1 HT2.out))
                      go_wp2_with fail
                      go_ret
                      exact ⟨ret_bool HR0.out, (by first | exact below_drewN HB1.out.1 _ | exact HB1.out.1)⟩
                    | false =>
                      have q4 : decide (p < ca) = true := by simp only [decide_eq_true_eq, decide_eq_false_iff_not] at q5 ⊢; omega
                      rw [show cellOk rest p ⟨ca, ci⟩ = true by simp [cellOk, q1, q2, q3, q4], Bool.true_and] at e1
                      have H1 := Lib.hid e1
                      clear e1
                      go_quiet ((go_at_call 44; first | with_reducible exact quiet_same1 HT1.out | with_reducible exact quiet_same1 HT2.out))
                      go_wp2_with fail
                      go_roundw
                      case rel => exact ⟨j + 1 + 1, hlt, by go_num, ca, .inr ⟨Nat.succ_pos _, HAT.out, ⟨ca, ci⟩, HCS.out, rfl⟩, below_drewN HB1.out.1 _, H1, HB1.out.2.drewN _⟩
                      case measure => simp [intOf]; omega
          · obtain rfl : n = k := by omega
            have e1 := HK.out
            rw [List.drop_of_length_le (by rw [HLN.out]; omega), cellsOk] at e1
            have HR0 := Lib.hid e1
            have HB1 := Lib.hid hbel
            clear e1 HK hp hbel hbv
            go_wp2_with fail
            go_ret
            exact ⟨ret_bool HR0.out, HB1.out⟩
    · have HR0 : Hid (false = R) := by show _ = _; rw [← hR]; simp [arrB, hden]
      have q0 : (den == 0) = false := by rw [beq_eq_false_iff_ne]; exact hden
      have q1 : (den != 0) = true := by rw [bne_iff_ne]; exact hden
      have HB := Lib.hid hb0
      clear hR hb0 hk0 hxs hden
      go_enter Try.func42, Try.ntmps42
      go_wp2_with fail
      go_ret
      exact ⟨ret_bool HR0.out, HB.out⟩
  · have HR0 : Hid (false = R) := by show _ = _; rw [← hR]; simp [arrB, hnum]
    have q0 : (num == 0) = false := by rw [beq_eq_false_iff_ne]; exact hnum
    have q1 : (num != 0) = true := by rw [bne_iff_ne]; exact hnum
    have HB := Lib.hid hb0
    clear hR hb0 hk0 hxs hnum
    go_enter Try.func42, Try.ntmps42
    go_wp2_with fail
    go_ret
    exact ⟨ret_bool HR0.out, HB.out⟩

end Go.Proofs.Ythooecojopfjbaa
