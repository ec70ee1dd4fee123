/- Walk: is a meaning one of a declaration: the reference. -/
import Derived.Test.YtggkfepifnfdoaaGreatMeanDE
import Derived.RegionTactic
import Derived.Deep.RegionWith
namespace Go.Proofs.YtggkfepifnfdoaaGreat
open Go.RowKit

theorem same_comm (x y : EntryD) : decide (x.args = y.args) = sameArgs x y := by rw [sameArgs]; exact decide_eq_decide.2 ⟨Eq.symm, Eq.symm⟩

set_option maxRecDepth 100000 in
set_option maxHeartbeats 8000000 in
theorem meaningFault_any (nm : ByteArray) (AD : Option Addr) (nd cd : Nat) (dargs : List Int) (so : Int) (AR : Option Addr) (nr cr : Nat) (rows : List EntryD) (num den : Int) (AC : Option Addr) (nc cc : Nat) (cells : List CellD) (rest R : Int) (w : World)
    (hdl : dargs.length = nd) (hrows : ArrB AtEntry 5 w w.heap.size AR nr rows) (hcells : ArrB AtCell 2 w w.heap.size AC nc cells) (hnc : nc ≤ 9223372036854775807) (hR : meaningF ⟨nm, dargs, so⟩ ⟨rows, num, den, cells, rest⟩ = R) :
    Calls Tryz.prog 39 #[.agg #[.string nm, .slice AD nd cd, .int .i64 so], .agg #[.slice AR nr cr, .int .i64 num, .int .i64 den, .slice AC nc cc, .int .i64 rest]] w fun e w' => e = .returned (.int .i64 R) ∧ Below w.heap.size w w' := by
  obtain ⟨hb0, hk0, hm0, hs0⟩ := two_boxes w 58 62 #[.string nm, .slice AD nd cd, .int .i64 so] #[.slice AR nr cr, .int .i64 num, .int .i64 den, .slice AC nc cc, .int .i64 rest]
  have hlr := hrows.len
  have hMK : ∀ W : World, Below (w.heap.size + 2) ((w.alloc (.cells #[.string nm, .slice AD nd cd, .int .i64 so] 58)).alloc (.cells #[.slice AR nr cr, .int .i64 num, .int .i64 den, .slice AC nc cc, .int .i64 rest] 62)) W → Below w.heap.size w W ∧ W.cell? ⟨w.heap.size, 1, none⟩ = some (.slice AD nd cd) ∧ W.cell? ⟨w.heap.size, 2, none⟩ = some (.int .i64 so) ∧
      W.cell? ⟨w.heap.size + 1, 0, none⟩ = some (.slice AR nr cr) ∧ W.cell? ⟨w.heap.size + 1, 1, none⟩ = some (.int .i64 num) ∧ W.cell? ⟨w.heap.size + 1, 2, none⟩ = some (.int .i64 den) ∧ W.cell? ⟨w.heap.size + 1, 3, none⟩ = some (.slice AC nc cc) ∧ W.cell? ⟨w.heap.size + 1, 4, none⟩ = some (.int .i64 rest) ∧ w.heap.size + 1 < W.heap.size := fun W hW =>
    have h1 := hk0.below hW (by omega)
    have h2 := hm0.below hW (by omega)
    ⟨hb0.trans (hW.mono (by omega)), h1.cell 1, h1.cell 2, h2.cell 0, h2.cell 1, h2.cell 2, h2.cell 3, h2.cell 4, h2.lt⟩
  generalize hXd : (w.alloc (.cells #[.string nm, .slice AD nd cd, .int .i64 so] 58)).alloc (.cells #[.slice AR nr cr, .int .i64 num, .int .i64 den, .slice AC nc cc, .int .i64 rest] 62) = X at hb0 hk0 hm0 hs0 hMK
  have HXD := Lib.hid hXd
  have MK := Lib.hid hMK
  have H0 := Lib.hid (And.intro hb0 hs0)
  have HRO := Lib.hid (And.intro hrows hcells)
  rw [meaningF] at hR
  dsimp only at hR
  rw [hlr, hdl] at hR
  clear hb0 hk0 hm0 hs0 hMK hXd hrows hcells hdl
  by_cases hmany : 1000 < nr
  · rw [if_pos (.inl hmany)] at hR
    subst hR
    have hI : (nr : Int) > 1000 := by omega
    go_enter Tryz.func39, Tryz.ntmps39
    go_wp2_with fail
    rw [HXD.out]
    go_ret
    exact ⟨rfl, H0.out.1⟩
  have hI : ¬ ((nr : Int) > 1000) := by omega
  obtain ⟨Q1, hQ1⟩ : ∃ Q, rows.any (sizeBad nd) = Q := ⟨_, rfl⟩
  obtain ⟨Q2, hQ2⟩ : ∃ Q, rows.any rangeBad = Q := ⟨_, rfl⟩
  obtain ⟨D, hD⟩ : ∃ Q, dupB [] rows = Q := ⟨_, rfl⟩
  obtain ⟨G, hG⟩ : ∃ Q, goodV so ⟨num, den, cells, rest⟩ = Q := ⟨_, rfl⟩
  obtain ⟨Q3, hQ3⟩ : ∃ Q, rows.any (toBad so) = Q := ⟨_, rfl⟩
  rw [hQ1, hQ2, hD, hG, hQ3] at hR
  have H1 : Hid (Q1 = true → 9 = R) := fun h => by rw [if_pos (.inr h)] at hR; exact hR
  have H2 : Hid (Q1 = false → Q2 = true → 3 = R) := fun h1 h2 => by rw [if_neg (by rintro (h | h) <;> simp_all), if_pos h2] at hR; exact hR
  have H3 : Hid (Q1 = false → Q2 = false → D = true → 7 = R) := fun h1 h2 h3 => by rw [if_neg (by rintro (h | h) <;> simp_all), if_neg (by simp_all), if_pos h3] at hR; exact hR
  have H4 : Hid (Q1 = false → Q2 = false → D = false → G = false → 8 = R) := fun h1 h2 h3 h4 => by rw [if_neg (by rintro (h | h) <;> simp_all), if_neg (by simp_all), if_neg (by simp_all), if_pos (.inl h4)] at hR; exact hR
  have H5 : Hid (Q1 = false → Q2 = false → D = false → G = true → Q3 = true → 8 = R) := fun h1 h2 h3 h4 h5 => by rw [if_neg (by rintro (h | h) <;> simp_all), if_neg (by simp_all), if_neg (by simp_all), if_pos (.inr h5)] at hR; exact hR
  have H6 : Hid (Q1 = false → Q2 = false → D = false → G = true → Q3 = false → 0 = R) := fun h1 h2 h3 h4 h5 => by rw [if_neg (by rintro (h | h) <;> simp_all), if_neg (by simp_all), if_neg (by simp_all), if_neg (by rintro (h | h) <;> simp_all)] at hR; exact hR
  have HQ2 := Lib.hid hQ2
  have HD := Lib.hid hD
  have HG := Lib.hid hG
  have HQ3 := Lib.hid hQ3
  have HLR := Lib.hid hlr
  clear hR hQ2 hD hG hQ3
  obtain ⟨-, x1, x2, x3, x4, x5, x6, x7, hzx⟩ := MK.out X (Below.refl _ _)
  go_enter Tryz.func39, Tryz.ntmps39
  go_wp2_with fail
  rw [HXD.out]
  clear x1 x2 x3 x4 x5 x6 x7 hzx
  go_loopw [5] (fun s wr => ∃ k : Nat, k ≤ nr ∧ s = .int .i64 k ∧ Below (w.heap.size + 2) X wr ∧ Hid ((rows.drop k).any (sizeBad nd) = Q1)) (fun s _ => nr - (intOf s).toNat)
  case atStart => exact ⟨0, Nat.zero_le _, rfl, Below.refl _ _, hQ1⟩
  case round =>
    clear hQ1
    obtain ⟨k, hk, rfl, hbel, HK⟩ := hrel
    obtain ⟨hbw, x1, x2, x3, x4, x5, x6, x7, hzx⟩ := MK.out wr hbel
    by_cases hlt : k < nr
    · obtain ⟨b, off, hx, A', n', c', A2, n2, c2, rfl, hb, hc0, -, -, -, -, hca, -, hcn, -⟩ := entries_get (HRO.out.1.below stays_entry hbw (Nat.le_refl _)) hlt
      have e1 := HK.out
      rw [drop_cons hx, List.any_cons] at e1
      have hlen := hca.len
      generalize rows[k] = y at e1 hlen
      have hq : ((n' : Int) != (nd : Int)) = sizeBad nd y := by
        rw [sizeBad, hlen, Bool.eq_iff_iff, bne_iff_ne, decide_eq_true_eq]
        omega
      have hkI : (k : Int) < (nr : Int) := by omega
      have HBE := Lib.hid hbel
      clear HK hx hca hlen hbel hbw hb
      cases hs : sizeBad nd y with
      | true =>
        rw [hs] at hq
        rw [hs, Bool.true_or] at e1
        have hR := H1.out e1.symm
        subst hR
        clear e1 hs
        go_wp2_with fail
        go_quiet (fail)
        go_wp2_with fail
        go_ret
        exact ⟨rfl, (MK.out _ (below_drewN HBE.out _)).1⟩
      | false =>
        rw [hs] at hq
        rw [hs, Bool.false_or] at e1
        have HE := Lib.hid e1
        clear e1 hs
        go_wp2_with fail
        go_quiet (fail)
        go_wp2_with fail
        go_roundw
        case rel => exact ⟨k + 1, by omega, by go_num, below_drewN HBE.out _, HE⟩
        case measure => simp [intOf]; omega
    · obtain rfl : nr = k := by omega
      have q0 := HK.out
      rw [List.drop_of_length_le (by have := HLR.out; omega), List.any_nil] at q0
      have q1 := q0.symm
      clear q0
      have HBE := Lib.hid hbel
      have HQQ1 := Lib.hid q1
      clear HK hbel hbw q1 hk hlt
      go_wp2_with fail
      clear x1 x2 x3 x4 x5 x6 x7 hzx
      go_loopw [6] (fun s wr => ∃ k : Nat, k ≤ nr ∧ s = .int .i64 k ∧ Below (w.heap.size + 2) X wr ∧ Hid ((rows.drop k).any rangeBad = Q2)) (fun s _ => nr - (intOf s).toNat)
      case atStart => exact ⟨0, Nat.zero_le _, rfl, HBE.out, HQ2⟩
      case round =>
        clear HQ2 HBE
        obtain ⟨k, hk, rfl, hbel, HK⟩ := hrel
        obtain ⟨hbw, x1, x2, x3, x4, x5, x6, x7, hzx⟩ := MK.out wr hbel
        by_cases hlt : k < nr
        · obtain ⟨b, off, hx, A', n', c', A2, n2, c2, rfl, hb, -, -, -, -, -, hca, -, hcn, -⟩ := entries_get (HRO.out.1.below stays_entry hbw (Nat.le_refl _)) hlt
          have e1 := HK.out
          rw [drop_cons hx, List.any_cons] at e1
          have hlen := hca.len
          have HKX : Hid (rows[k]? = some rows[k]) := List.getElem?_eq_getElem hx
          generalize rows[k] = y at e1 hlen HKX
          have hkI : (k : Int) < (nr : Int) := by omega
          have HBE := Lib.hid hbel
          have HE1 := Lib.hid e1
          have HLEN := Lib.hid hlen
          have hn1 : n' ≤ 9223372036854775807 := hcn
          clear HK hx hca hlen hbel hbw hb e1
          go_wp2_with fail
          clear x1 x2 x3 x4 x5 x6 x7 hzx
          go_loopw [7] (fun s wr => ∃ j : Nat, j ≤ n' ∧ s = .int .i64 j ∧ Below (w.heap.size + 2) X wr ∧ Hid ((y.args.drop j).any (fun n => !thingB n) = rangeBad y)) (fun s _ => n' - (intOf s).toNat)
          case atStart => exact ⟨0, Nat.zero_le _, rfl, HBE.out, rfl⟩
          case round =>
            clear HBE
            obtain ⟨j, hj, rfl, hbel, HJ⟩ := hrel
            obtain ⟨hbw, x1, x2, x3, x4, x5, x6, x7, hzx⟩ := MK.out wr hbel
            obtain ⟨b', off', hx, A'', n'', c'', A2', n2', c2', hbo, hb, hc0, -, -, -, -, hca, -, hcn', -⟩ := entries_get (HRO.out.1.below stays_entry hbw (Nat.le_refl _)) hlt
            injection hbo with hbo
            injection hbo with hb1 hb2
            subst hb1 hb2
            have hyy : rows[k] = y := by have := HKX.out; rw [List.getElem?_eq_getElem hx] at this; injection this
            rw [hyy] at hca
            have hnn : n'' = n' := by have := hca.len; have := HLEN.out; omega
            subst hnn
            by_cases hjlt : j < n''
            · obtain ⟨b3, off3, hx3, rfl, hb3, hc3, -, -⟩ := ints_get hca hjlt
              have e2 := HJ.out
              rw [drop_cons hx3, List.any_cons] at e2
              generalize y.args[j] = z at e2 hc3
              have hjI : (j : Int) < (n'' : Int) := by omega
              have HBE := Lib.hid hbel
              clear HJ hx hx3 hca hbel hbw hb hb3 hyy
              cases ht : thingB z with
              | false =>
                rw [ht, Bool.not_false, Bool.true_or] at e2
                have hR := H2.out HQQ1.out (by rw [← HE1.out, ← e2, Bool.true_or])
                subst hR
                have HT := Lib.hid (isThing_is z _ ht)
                clear e2 ht
                go_wp2_with (go_at_call 83; refine (HT.out _).mono ?_; rintro e w' ⟨rfl, rfl⟩)
                go_ret
                exact ⟨rfl, (MK.out _ HBE.out).1⟩
              | true =>
                rw [ht, Bool.not_true, Bool.false_or] at e2
                have HT := Lib.hid (isThing_is z _ ht)
                have H2' := Lib.hid e2
                clear e2 ht
                go_wp2_with (go_at_call 83; refine (HT.out _).mono ?_; rintro e w' ⟨rfl, rfl⟩)
                go_roundw
                case rel => exact ⟨j + 1, by omega, by go_num, HBE.out, H2'⟩
                case measure => simp [intOf]; omega
            · obtain rfl : n'' = j := by omega
              have e2 := HJ.out
              rw [List.drop_of_length_le (by have := HLEN.out; omega), List.any_nil] at e2
              have e3 := HE1.out
              rw [← e2, Bool.false_or] at e3
              have HBE := Lib.hid hbel
              have HE3 := Lib.hid e3
              clear HJ hx hca hbel hbw hb hyy e2 e3
              go_wp2_with fail
              go_roundw
              case rel => exact ⟨k + 1, by omega, by go_num, HBE.out, HE3⟩
              case measure => simp [intOf]; omega
        · obtain rfl : nr = k := by omega
          have q0 := HK.out
          rw [List.drop_of_length_le (by have := HLR.out; omega), List.any_nil] at q0
          have q1 := q0.symm
          clear q0
          have HBE := Lib.hid hbel
          have HQQ2 := Lib.hid q1
          clear HK hbel hbw q1 hk hlt
          go_wp2_with fail
          clear x1 x2 x3 x4 x5 x6 x7 hzx
          go_loopw [8] (fun s wr => ∃ k : Nat, k ≤ nr ∧ s = .int .i64 k ∧ Below (w.heap.size + 2) X wr ∧ Hid (dupB (rows.take k) (rows.drop k) = D)) (fun s _ => nr - (intOf s).toNat)
          case atStart => exact ⟨0, Nat.zero_le _, rfl, HBE.out, HD⟩
          case round =>
            clear HD HBE
            obtain ⟨k, hk, rfl, hbel, HK⟩ := hrel
            obtain ⟨hbw, x1, x2, x3, x4, x5, x6, x7, hzx⟩ := MK.out wr hbel
            by_cases hlt : k < nr
            · have hx : k < rows.length := by have := HLR.out; omega
              have e1 := HK.out
              rw [drop_cons hx, dupB] at e1
              have htk : rows.take (k + 1) = rows.take k ++ [rows[k]] := by rw [List.take_append_getElem]
              rw [← htk] at e1
              have HKX : Hid (rows[k]? = some rows[k]) := List.getElem?_eq_getElem hx
              generalize rows[k] = y at e1 HKX
              obtain ⟨q4, hq4⟩ : ∃ q, (rows.take k).any (sameArgs y) = q := ⟨_, rfl⟩
              rw [hq4] at e1
              have hkI : (k : Int) < (nr : Int) := by omega
              have HBE := Lib.hid hbel
              have HE1 := Lib.hid e1
              have HQ4 := Lib.hid hq4
              clear HK hx hbel hbw e1 htk hq4
              go_wp2_with fail
              clear x1 x2 x3 x4 x5 x6 x7 hzx
              go_loopw [9] (fun s wr => ∃ j : Nat, j ≤ k ∧ s = .int .i64 j ∧ Below (w.heap.size + 2) X wr ∧ Hid (((rows.take k).drop j).any (sameArgs y) = q4)) (fun s _ => k - (intOf s).toNat)
              case atStart => exact ⟨0, Nat.zero_le _, rfl, HBE.out, HQ4⟩
              case round =>
                clear HBE HQ4
                obtain ⟨j, hj, rfl, hbel, HJ⟩ := hrel
                obtain ⟨hbw, x1, x2, x3, x4, x5, x6, x7, hzx⟩ := MK.out wr hbel
                by_cases hjlt : j < k
                · have hro := HRO.out.1.below stays_entry hbw (Nat.le_refl _)
                  obtain ⟨b, off, hx, A', n', c', -, -, -, rfl, hb, hc0, -, -, -, -, hca, -, hcn, -⟩ := entries_get hro hlt
                  obtain ⟨b', off', hx', A'', n'', c'', -, -, -, hbo, hb', hd0, -, -, -, -, hda, -, hdn, -⟩ := entries_get hro (Nat.lt_trans hjlt hlt)
                  injection hbo with hbo
                  injection hbo with hb1 hb2
                  subst hb1 hb2
                  have hyy : rows[k] = y := by have := HKX.out; rw [List.getElem?_eq_getElem hx] at this; injection this
                  rw [hyy] at hca
                  have e2 := HJ.out
                  rw [drop_cons (by rw [List.length_take]; omega), List.any_cons, List.getElem_take] at e2
                  generalize rows[j] = z at e2 hda
                  have hjI : (j : Int) < (k : Int) := by omega
                  have hjI2 : (j : Int) < (nr : Int) := by omega
                  have hkI2 : (k : Int) < (nr : Int) := by omega
                  have HBE := Lib.hid hbel
                  have HCC : Hid (∀ (W : World), Below (w.heap.size + 2) X W → (∀ b o, b < w.heap.size → W.cell? ⟨b, o, none⟩ = wr.cell? ⟨b, o, none⟩) → ∀ q, sameArgs y z = q → Calls Tryz.prog 84 #[.slice A' n' c', .slice A'' n'' c''] W (DrewP (.bool q) W)) := fun W _ hk q hq =>
                    sameInts_is A' A'' n' c' n'' c'' y.args z.args q _ _ W (hca.keep stays_int (fun _ h => h) (fun b o h => hk b o h)) (hda.keep stays_int (fun _ h => h) (fun b o h => hk b o h)) hcn hdn (by rw [same_comm]; exact hq)
                  clear HJ hx hx' hca hda hbel hbw hb hb' hyy hro hcn hdn
                  cases hs : sameArgs y z with
                  | true =>
                    rw [hs, Bool.true_or] at e2
                    have hR := H3.out HQQ1.out HQQ2.out (by rw [← HE1.out, ← e2, Bool.true_or])
                    subst hR
                    have HC := Lib.hid (fun W h1 h2 => HCC.out W h1 h2 _ hs)
                    clear e2 hs HCC
                    go_wp2_with fail
                    go_quiet ((go_at_call 84; exact Calls.quiet_of (HC.out _ (by first | exact HBE.out | exact below_drewN HBE.out _) (fun _ _ _ => rfl))))
                    go_wp2_with fail
                    go_ret
                    exact ⟨rfl, (MK.out _ (below_drewN HBE.out _)).1⟩
                  | false =>
                    rw [hs, Bool.false_or] at e2
                    have HC := Lib.hid (fun W h1 h2 => HCC.out W h1 h2 _ hs)
                    have H2' := Lib.hid e2
                    clear e2 hs HCC
                    go_wp2_with fail
                    go_quiet ((go_at_call 84; exact Calls.quiet_of (HC.out _ (by first | exact HBE.out | exact below_drewN HBE.out _) (fun _ _ _ => rfl))))
                    go_wp2_with fail
                    go_roundw
                    case rel => exact ⟨j + 1, by omega, by go_num, below_drewN HBE.out _, H2'⟩
                    case measure => simp [intOf]; omega
                · obtain rfl : k = j := by omega
                  have e2 := HJ.out
                  rw [List.drop_of_length_le (by rw [List.length_take]; omega), List.any_nil] at e2
                  have e3 := HE1.out
                  rw [← e2, Bool.false_or] at e3
                  have HBE := Lib.hid hbel
                  have HE3 := Lib.hid e3
                  clear HJ hbel hbw e2 e3
                  go_wp2_with fail
                  go_roundw
                  case rel => exact ⟨k + 1, by omega, by go_num, HBE.out, HE3⟩
                  case measure => simp [intOf]; omega
            · obtain rfl : nr = k := by omega
              have q0 := HK.out
              rw [List.drop_of_length_le (by have := HLR.out; omega), dupB] at q0
              have q1 := q0.symm
              clear q0
              have HBE := Lib.hid hbel
              have HQQ3 := Lib.hid q1
              have hcl := HRO.out.2.below stays_cell hbw (Nat.le_refl _)
              have HIS : Hid (∀ Q, goodV so ⟨num, den, cells, rest⟩ = Q → Calls Tryz.prog 85 #[.int .i64 so, .agg #[.int .i64 num, .int .i64 den, .slice AC nc cc, .int .i64 rest]] wr fun e w' => e = .returned (.bool Q) ∧ Below wr.heap.size wr w') := fun Q hQ =>
                goodValue_any so num den AC nc cc cells rest Q wr (hcl.keep stays_cell (fun b hb => Nat.lt_of_lt_of_le hb hbw.size) (fun _ _ _ => rfl)) hnc hQ
              have HZR := Lib.hid hzx
              clear HK hbel hbw q1 hk hlt hcl
              cases G with
              | false =>
                have hR := H4.out HQQ1.out HQQ2.out HQQ3.out (by trivial)
                subst hR
                have HC5 := Lib.hid (HIS.out _ HG.out)
                clear HIS
                go_wp2_with fail
                refine HC5.out.mono ?_
                rintro e w5 ⟨rfl, hb5⟩
                have HB5 := Lib.hid (MK.out w5 (HBE.out.trans (hb5.mono HZR.out))).1
                clear hb5 x1 x2 x3 x4 x5 x6 x7 hzx
                go_wp2_with fail
                go_ret
                exact ⟨rfl, HB5.out⟩
              | true =>
                have HC5 := Lib.hid (HIS.out _ HG.out)
                clear HIS
                go_wp2_with fail
                refine HC5.out.mono ?_
                rintro e w5 ⟨rfl, hb5⟩
                have HB5 := Lib.hid (HBE.out.trans (hb5.mono HZR.out))
                clear hb5 x1 x2 x3 x4 x5 x6 x7 hzx HC5
                go_wp2_with fail
                go_loopw [10] (fun s wr => ∃ k : Nat, k ≤ nr ∧ s = .int .i64 k ∧ Below (w.heap.size + 2) X wr ∧ Hid ((rows.drop k).any (toBad so) = Q3)) (fun s _ => nr - (intOf s).toNat)
                case atStart => exact ⟨0, Nat.zero_le _, rfl, HB5.out, HQ3⟩
                case round =>
                  clear HB5 HQ3 HBE HZR
                  obtain ⟨k, hk, rfl, hbel, HK⟩ := hrel
                  obtain ⟨hbw, x1, x2, x3, x4, x5, x6, x7, hzx⟩ := MK.out wr hbel
                  by_cases hlt : k < nr
                  · obtain ⟨b, off, hx, -, -, -, A2, n2, c2, rfl, hb, -, hc1, hc2, hc3, hc4, -, hcc, -, hcn2⟩ := entries_get (HRO.out.1.below stays_entry hbw (Nat.le_refl _)) hlt
                    have e1 := HK.out
                    rw [drop_cons hx, List.any_cons] at e1
                    generalize rows[k] = y at e1 hc1 hc2 hc4 hcc
                    obtain ⟨ya, yn, yd, yc, yr⟩ := y
                    dsimp only at hc1 hc2 hc4 hcc
                    have hkI : (k : Int) < (nr : Int) := by omega
                    have HBE := Lib.hid hbel
                    have HZR := Lib.hid hzx
                    have HCG : Hid (∀ (W : World), w.heap.size ≤ W.heap.size → (∀ b o, b < w.heap.size → W.cell? ⟨b, o, none⟩ = wr.cell? ⟨b, o, none⟩) → ∀ q, goodV so ⟨yn, yd, yc, yr⟩ = q → Calls Tryz.prog 85 #[.int .i64 so, .agg #[.int .i64 yn, .int .i64 yd, .slice A2 n2 c2, .int .i64 yr]] W fun e w' => e = .returned (.bool q) ∧ Below W.heap.size W w') := fun W hz hk q hq =>
                      goodValue_any so yn yd A2 n2 c2 yc yr q W (hcc.keep stays_cell (fun b hb => Nat.lt_of_lt_of_le hb hz) (fun b o h => hk b o h)) hcn2 hq
                    clear HK hx hcc hbel hbw hb hcn2
                    cases hs : goodV so ⟨yn, yd, yc, yr⟩ with
                    | false =>
                      have hR := H5.out HQQ1.out HQQ2.out HQQ3.out (by trivial) (by rw [← e1, toBad, hs]; rfl)
                      subst hR
                      have HC := Lib.hid (fun W h1 h2 => HCG.out W h1 h2 _ hs)
                      clear e1 hs HCG
                      go_wp2_with fail
                      go_region_with ((go_at_call 85; refine (HC.out wr.drew (by show w.heap.size ≤ wr.heap.size; have := HZR.out; omega) (fun _ _ _ => rfl)).mono ?_; rintro e w6 ⟨rfl, hb6⟩))
                      all_goals
                        have HB6 : Hid (Below w.heap.size w w6) := (MK.out _ (HBE.out.trans (below_of_drew (hb6.mono (by show w.heap.size + 2 ≤ wr.heap.size; have := HZR.out; omega))))).1
                        clear hb6
                        go_wp2_with fail
                        go_ret
                        exact ⟨rfl, HB6.out⟩
                    | true =>
                      rw [toBad, hs, Bool.not_true, Bool.false_or] at e1
                      have HE := Lib.hid e1
                      have HC := Lib.hid (fun W h1 h2 => HCG.out W h1 h2 _ hs)
                      clear e1 hs HCG
                      go_wp2_with fail
                      go_region_with ((go_at_call 85; refine (HC.out wr.drew (by show w.heap.size ≤ wr.heap.size; have := HZR.out; omega) (fun _ _ _ => rfl)).mono ?_; rintro e w6 ⟨rfl, hb6⟩))
                      all_goals
                        have HB6 : Hid (Below (w.heap.size + 2) X w6) := HBE.out.trans (below_of_drew (hb6.mono (by show w.heap.size + 2 ≤ wr.heap.size; have := HZR.out; omega)))
                        clear hb6
                        go_wp2_with fail
                        go_roundw
                        case rel => exact ⟨k + 1, by omega, by go_num, HB6.out, HE⟩
                        case measure => simp [intOf]; omega
                  · obtain rfl : nr = k := by omega
                    have q1 := HK.out
                    rw [List.drop_of_length_le (by have := HLR.out; omega), List.any_nil] at q1
                    have hR := H6.out HQQ1.out HQQ2.out HQQ3.out (by trivial) q1.symm
                    subst hR
                    clear HK q1
                    have HBE := Lib.hid hbw
                    clear hbw hbel
                    go_wp2_with fail
                    go_ret
                    exact ⟨rfl, HBE.out⟩
end Go.Proofs.YtggkfepifnfdoaaGreat
