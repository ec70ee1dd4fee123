/- Walk: whether one of rows always holds (two). · Walk: whether one of rows always holds (three). · Walk: whether one of rows always holds. -/
import Derived.Test.YtdncchlfeanlmaaJuKK
import Derived.IntWalk
import Derived.BigRegion
import Derived.Lib.QuietBelow
namespace Go.Proofs.Ytdncchlfeanlmaa
open Go.RowKit

set_option maxRecDepth 100000 in
set_option maxHeartbeats 8000000 in
theorem jgap_2 (B0 G : Nat) (A1 A2 A3 : Option Addr) (c1 c2 c3 : Nat) (ts : List TermD) (ints : List Bool) (ats : List AtomD) (A : Option Addr) (c : Nat) (lits : List Int) (w : World) (h : StR w B0 G A1 c1 A2 c2 A3 c3 ts ints ats)
    (hlits : IntsB w w.heap.size A 2 lits) (hl : ∀ l ∈ lits, LitIn ats.length l) (_ : 2 ≤ 1000) (hgr : GoodRows ints.length ats) (hni : ints.length ≤ 1000) :
    Calls Try.prog 29 #[.pointer (some ⟨G, 0, none⟩), .slice A 2 c] w fun e w' => e = .returned (.bool (gapF ints ats lits)) ∧ Below w.heap.size w w' := by
  have eg := enters_of Try.func52 (by kernel_rfl) rfl
  have HALL := Lib.hid (jall_any B0 G A1 A2 A3 c1 c2 c3 ts ints ats A 2 c lits 3 w h hlits hl (by omega))
  have HCO : Hid (∀ (W : World) (R : Bool), Below w.heap.size w W → (lits.any fun l => decide (l < 0)) = R → Calls Try.prog 21 #[.slice A 2 c, .func (.func 52) #[] #[]] W fun e w' => e = .returned (.bool R) ∧ Below W.heap.size W w') := fun W R hW hR =>
    containsInts_any 52 #[] eg (fun l => decide (l < 0)) A 2 c lits R W (hlits.below stays_int hW hW.size) (by omega) (fun W' y _ hb => (gap1_any y W').mono fun _ _ ⟨h1, h2⟩ => ⟨h1, h2 ▸ hb⟩) hR
  have H := Lib.hid (And.intro h (And.intro hlits (And.intro hl (And.intro hgr hni))))
  have hGl := h.lt
  have hB0 := h.hB
  have hq1 := h.q1
  clear h hlits hl hgr eg
  cases hall : allK ats 3 lits with
  | false =>
    rw [hall] at HALL
    rw [gapF_no1 hall]
    clear hall
    go_enter Try.func29, Try.ntmps29
    go_wp2_with fail
    refine HALL.out.mono ?_
    rintro e w9 ⟨rfl, hb9⟩
    have HB9 := Lib.hid hb9
    clear hb9
    go_wp2_with fail
    go_ret
    exact ⟨rfl, HB9.out⟩
  | true =>
    rw [hall] at HALL
    cases hany : lits.any fun l => decide (l < 0) with
    | true =>
      rw [gapF_no2 hany]
      have HCY := Lib.hid (fun W hW => HCO.out W true hW hany)
      clear hall hany
      go_enter Try.func29, Try.ntmps29
      go_wp2_with fail
      refine HALL.out.mono ?_
      rintro e w9 ⟨rfl, hb9⟩
      have HC9 := Lib.hid (HCY.out w9 hb9)
      have HB9 := Lib.hid hb9
      clear hb9
      go_wp2_with fail
      refine HC9.out.mono ?_
      rintro e w8 ⟨rfl, hb8⟩
      have HB8 := Lib.hid (HB9.out.trans (hb8.mono HB9.out.size))
      clear hb8
      go_wp2_with fail
      go_ret
      exact ⟨rfl, HB8.out⟩
    | false =>
      rw [gapF_yes hall hany (fun l hl => (H.out.2.2.1 l hl).1)]
      have HCY := Lib.hid (fun W hW => HCO.out W false hW hany)
      have HK3 := Lib.hid (allK_mem hall)
      clear hall hany
      have hlr : (lits.map fun l => (atomAt ats l).row).length = 2 := by have := H.out.2.1.len; simp; omega
      obtain ⟨rs, hrs⟩ : ∃ rs, (lits.map fun l => (atomAt ats l).row) = rs := ⟨_, rfl⟩
      rw [hrs] at hlr ⊢
      obtain ⟨r0, r1, rfl⟩ : ∃ r0 r1, rs = [r0, r1] := by
        match rs, hlr with
        | [a0, a1], _ => exact ⟨a0, a1, rfl⟩
      have HRS := Lib.hid hrs

      clear hlr hrs
      go_enter Try.func29, Try.ntmps29
      go_wp2_with fail
      refine HALL.out.mono ?_
      rintro e w9 ⟨rfl, hb9⟩
      have HC9 := Lib.hid (HCY.out w9 hb9)
      have HB9 := Lib.hid hb9
      clear hb9
      go_wp2_with fail
      refine HC9.out.mono ?_
      rintro e w8 ⟨rfl, hb8⟩
      have HB8 := Lib.hid (HB9.out.trans (hb8.mono HB9.out.size))
      clear hb8 HCY HC9 HALL HCO
      go_wp2_with fail
      go_loopw [5, 20] (fun s5 s20 wr => ∃ j : Nat, s20 = .int .i64 (j : Int) ∧ j ≤ 2 ∧ Hid (OwnR wr w.heap.size B0 s5 ((lits.take j).map fun l => (atomAt ats l).row) ∧ Below w.heap.size w wr)) (fun _ s _ => 2 - (intOf s).toNat)
      case atStart => exact ⟨0, rfl, Nat.zero_le _, OwnV.none_ _ _ _ _ _ _, HB8.out⟩
      case round =>
        obtain ⟨j, rfl, hj, HJ⟩ := hrel
        obtain ⟨A5, c5, rfl, hc5, hc5m⟩ := HJ.out.1.len
        unfold maxLen at hc5m
        have hwz : w.heap.size ≤ wr.heap.size := HJ.out.2.size
        have hml : ((lits.take j).map fun l => (atomAt ats l).row).length = j := by have := H.out.2.1.len; simp; omega
        rw [hml] at hc5 HJ ⊢
        have HML := Lib.hid hml
        clear hml
        by_cases hlt : j < 2
        · have hltI : (j : Int) < (2 : Int) := by omega
          obtain ⟨b, off, hx, rfl, hb, hcell, hlo, hhi⟩ := ints_get (H.out.2.1.below stays_int HJ.out.2 (Nat.le_refl _)) hlt
          have hts := take_snoc_l hx
          have hlit := H.out.2.2.1 _ (List.getElem_mem hx)
          generalize lits[j] = y at hcell hts hlit hlo hhi
          have hC := jatom_any B0 G A1 A2 A3 c1 c2 c3 ts ints ats y wr (H.out.1.later HJ.out.2) hlit
          obtain ⟨z, hz⟩ : ∃ z, atomAt ats y = z := ⟨_, rfl⟩
          rw [hz] at hC
          have HC := Lib.hid hC
          have HT := Lib.hid (And.intro hts hz)
          have hfr := field_row z
          clear hts hlit hlo hhi hC hz
          go_wp2_with fail
          refine HC.out.mono ?_
          rintro e w7 ⟨Az, nz, cz, rfl, har, hnc, hcm, hb7⟩
          have hbA : Below wr.heap.size wr (w7.alloc (.cells #[.slice Az nz cz, .int .i64 z.row.kind, .int .i64 z.row.to_] 33)) := hb7.alloc hb7.size _
          have hbk := Blk.new w7 33 #[.slice Az nz cz, .int .i64 z.row.kind, .int .i64 z.row.to_]
          have hz7 := hb7.size
          have HO := Lib.hid (And.intro (rowd_later HJ.out.1 (Nat.le_trans hB0 hwz) hbA) (And.intro hbk (And.intro (HJ.out.2.trans (hbA.mono hwz)) (show VRowD _ (fun b => b < B0) [.slice Az nz cz, .int .i64 z.row.kind, .int .i64 z.row.to_] z.row from ⟨Az, nz, cz, rfl, hnc, hcm, har.below stays_int (hbA.mono (Nat.le_trans hB0 hwz)) (Nat.le_refl _)⟩))))
          have HOL := Lib.hid HO.out.1.lt
          clear har hnc hcm hb7 hbA hbk
          go_wp2_with (at_builtin; refine wpList_append_item rfl _ _ _ rfl rowRows3 tells_rowd (v := .slice A5 j c5) (xs := (lits.take j).map fun l => (atomAt ats l).row) (base := w.heap.size) (S := fun b => b < B0) rfl HO.out.1 (g := w7.heap.size) (cs := #[.slice Az nz cz, .int .i64 z.row.kind, .int .i64 z.row.to_]) rfl HO.out.2.1 (y := z.row) HO.out.2.2.2 (fun b hb => ⟨by simp; omega, fun e => by have := HOL.out b e; omega⟩) (by rw [HML.out]; unfold maxLen; omega) (by rw [HML.out]; omega) (by simp; omega) ?_; intro v' w6 hown6 hgrow6 hat6; have HB6 := Lib.hid (And.intro hown6 hgrow6); clear hown6 hgrow6 hat6)
          go_roundw
          case rel =>
            refine ⟨j + 1, by go_num, by omega, ?_, below_then HO.out.2.2.1 HB6.out.2 (by simp; omega) (fun x hx => (HOL.out x hx).1)⟩
            rw [HT.out.1, List.map_append, List.map_cons, List.map_nil, HT.out.2]
            exact HB6.out.1
          case measure => simp [intOf]; omega
        · obtain rfl : j = 2 := by omega
          have hln := H.out.2.1.len
          have hri := HJ.out.1
          rw [List.take_of_length_le (by omega)] at hri
          have hok : ∀ r ∈ lits.map fun l => (atomAt ats l).row, RowOk ints.length r := fun r hr => by
            obtain ⟨l, hl, rfl⟩ := List.mem_map.1 hr
            exact H.out.2.2.2.1 _ (atomAt_mem (H.out.2.2.1 l hl)) (HK3.out l hl)
          rw [HRS.out] at hri hok
          obtain ⟨g, c6, hA5, -, -, -, -⟩ := hri.form (by simp)
          injection hA5 with hA5 _ hc56
          subst hA5
          have hg : GapI w wr B0 G ints.length c2 A2 ints g 2 c5 [r0, r1] := ⟨HJ.out.2, hri, hB0, hq1, hGl, by have := H.out.1.i; exact this.below stays_bool (Below.refl _ _) hB0, hok⟩
          have hn := H.out.2.2.2.2
          obtain ⟨n, hnn⟩ : ∃ n, ints.length = n := ⟨_, rfl⟩
          rw [hnn] at hg hn
          have HNN := Lib.hid hnn
          clear hln hri hok hc56 HJ HML hc5 hnn
          obtain ⟨P0, m0, q0, e0a, e0b, e0c, -, -, har0⟩ := hg.own.cells (i := 0) (x := r0) rfl
          have ok0 := hg.ok r0 (by simp)
          obtain ⟨P1, m1, q1, e1a, e1b, e1c, -, -, har1⟩ := hg.own.cells (i := 1) (x := r1) rfl
          have ok1 := hg.ok r1 (by simp)
          obtain ⟨o0, k0, t0⟩ := r0
          simp only at e0a e0b e0c har0
          have rt0 : -1000000 ≤ t0 ∧ t0 ≤ 1000000 := ok0.to_
          have ro0 : ∀ c ∈ o0, -1000000 ≤ c ∧ c ≤ 1000000 := ok0.of_
          obtain ⟨o1, k1, t1⟩ := r1
          simp only at e1a e1b e1c har1
          have rt1 : -1000000 ≤ t1 ∧ t1 ≤ 1000000 := ok1.to_
          have ro1 : ∀ c ∈ o1, -1000000 ≤ c ∧ c ≤ 1000000 := ok1.of_
          have hgl := (hg.own.lt g rfl).2
          have hqG : wr.cell? ⟨G, 1, none⟩ = some (.slice A2 n c2) := (hg.bel.cell (p := ⟨G, 1, none⟩) hg.lt).trans hg.q1
          have hGw : G < wr.heap.size := Nat.lt_of_lt_of_le hg.lt hg.bel.size
          have HBW := Lib.hid hg.bel
          have hBw : B0 ≤ wr.heap.size := Nat.le_trans hg.hB hg.bel.size
          have HTU : Hid (∀ W, Below wr.heap.size wr W → Calls Try.prog 54 #[.pointer (some ⟨G, 0, none⟩), .agg #[.slice P0 m0 q0, .int .i64 k0, .int .i64 t0], .agg #[.slice P1 m1 q1, .int .i64 k1, .int .i64 t1], .int .i64 (-1)] W fun e w' => e = .returned (.bool (turnedF n o0 o1 (-1))) ∧ Below W.heap.size W w') := fun W hW => turned_any G n c2 A2 P0 m0 q0 o0 k0 t0 P1 m1 q1 o1 k1 t1 (-1) W (by omega) ((hW.cell (p := ⟨G, 1, none⟩) hGw).trans hqG) (Nat.lt_of_lt_of_le hGw hW.size) (har0.below stays_int (hW.mono hBw) (Nat.le_trans hBw hW.size)) (har1.below stays_int (hW.mono hBw) (Nat.le_trans hBw hW.size)) hn ro0 ro1
          have hwi : IntKind.i64.wrap (-t0) = -t0 := IntWalk.i64_in _ (by omega)
          have hwi2 : IntKind.i64.wrap (-t0 - 1) = -t0 - 1 := IntWalk.i64_in _ (by omega)
          have HAT : Hid (∀ (i : Nat) (W : World), Below wr.heap.size wr W → Calls Try.prog 53 #[.slice P0 m0 q0, .int .i64 (i : Int)] W fun e w' => e = .returned (.int .i64 (o0.getD i 0)) ∧ W = w') := fun i W hW => jat_any P0 m0 q0 o0 i B0 W (har0.below stays_int (hW.mono hBw) (Nat.le_refl _))
          have HIN : Hid (ArrB AtBool 1 wr wr.heap.size A2 n ints) := hg.ints_.below stays_bool hg.bel hg.bel.size
          obtain ⟨wo, rfl⟩ : ∃ wo : World, wo = wr := ⟨_, rfl⟩
          have HRO := Lib.hid ro0
          clear hg har0 har1 ok0 ok1 ro0 ro1 HB8
          go_wp2_with fail
          go_loopw [42] (fun s42 wr => ∃ i : Nat, i ≤ n ∧ s42 = .int .i64 (i : Int) ∧ wr = wo ∧ Hid (∀ j, j < i → ints[j]? = some true ∨ o0.getD j 0 = 0)) (fun s _ => n - (intOf s).toNat)
          case atStart => exact ⟨0, Nat.zero_le _, rfl, rfl, fun j h => absurd h (Nat.not_lt_zero _)⟩
          case round =>
            obtain ⟨i, hi, rfl, rfl, HW⟩ := hrel
            by_cases hlt2 : i < n
            · have hltI2 : (i : Int) < (n : Int) := by omega
              obtain ⟨b', off', hx', rfl, hb', hcell'⟩ := Arr.get HIN.out hlt2
              have hcl' : wr.cell? ⟨b', off' + i, none⟩ = some (.bool ints[i]) := by have := hcell'; rwa [Nat.mul_one] at this
              have hgi : ints[i]? = some ints[i] := List.getElem?_eq_getElem hx'
              have hil : i < ints.length := hx'
              generalize ints[i] = bi at hcl' hgi
              have hsm : -1000000 ≤ o0.getD i 0 ∧ o0.getD i 0 ≤ 1000000 := getD_small HRO.out
              have hC := HAT.out i wr (Below.refl _ _)
              obtain ⟨v0, hv0⟩ : ∃ v, o0.getD i 0 = v := ⟨_, rfl⟩
              rw [hv0] at hC
              have HC := Lib.hid hC
              have HV := Lib.hid (And.intro hgi (And.intro hv0 hil))
              clear hcell' hgi hil hsm hC hv0 hx'
              cases bi with
              | true =>
                go_wp2_with fail
                go_roundw
                case rel => exact ⟨i + 1, by omega, by go_num, trivial, upto_step HW.out (.inl HV.out.1)⟩
                case measure => simp [intOf]; omega
              | false =>
                by_cases hz0 : v0 = 0
                · have hzb : (v0 != 0) = false := by simp [hz0]
                  have HZ0 := Lib.hid hz0
                  clear hz0
                  go_wp2_with fail
                  refine HC.out.mono ?_
                  rintro e w9' ⟨rfl, rfl⟩
                  go_wp2_with fail
                  go_roundw
                  case rel =>
                    refine ⟨_, _, _, _, _, _, _, _, _, _, _, _, _, _, _, _, _, _, _, _, ⟨i + 1, by omega, ?_, trivial, upto_step HW.out (.inr (by rw [HV.out.2.1]; exact HZ0.out))⟩, rfl⟩
                    go_num
                  case measure => simp [intOf]; omega
                · have hzb : (v0 != 0) = true := by simpa using hz0
                  have HF : Hid (gapRows ints [⟨o0, k0, t0⟩, ⟨o1, k1, t1⟩] = false) := by
                    show _ = _
                    rw [gapRows_two, wholeF_at HV.out.2.2 HV.out.1 (by rw [HV.out.2.1]; exact hz0)]
                    rfl
                  clear hz0
                  go_wp2_with fail
                  refine HC.out.mono ?_
                  rintro e w9' ⟨rfl, rfl⟩
                  go_wp2_with fail
                  go_ret
                  exact ⟨ret_bool (by rw [HF.out]), HBW.out⟩
            · obtain rfl : i = n := by omega
              have HWH : Hid (wholeF ints o0 = true) := wholeF_all (by rw [HNN.out]; exact HW.out)
              have keyF : ∀ b : Bool, (decide (k0 = 1 ∧ k1 = 1) && turnedF i o0 o1 (-1) && decide (t1 = -t0 - 1)) = b → Hid (gapRows ints [⟨o0, k0, t0⟩, ⟨o1, k1, t1⟩] = b) := fun b hb => by
                show _ = _
                rw [gapRows_two, HWH.out, HNN.out, Bool.true_and]
                exact hb
              clear HW
              by_cases hk0 : k0 = 1
              · have hk0b : (k0 == 1) = true := by simpa using hk0
                by_cases hk1 : k1 = 1
                · have hk1b : (k1 == 1) = true := by simpa using hk1
                  cases htu : turnedF i o0 o1 (-1) with
                  | false =>
                    rw [htu] at HTU
                    have HF := keyF false (by rw [htu]; simp)
                    clear keyF hk0 hk1 htu
                    go_wp2_with fail
                    have r0a := cell_regrown e0a
                    have r0b := cell_regrown e0b
                    have r0c := cell_regrown e0c
                    have r1a := cell_regrown e1a
                    have r1b := cell_regrown e1b
                    have r1c := cell_regrown e1c
                    refine wp_region_quiet_below (by kernel_rfl) (by kernel_rfl) ?_
                    repeat (with_reducible refine wpQuiet_step (fun K hK => ?_); go_simp; first | (with_reducible refine hK _ ?_; clear hK K) | (apply Exists.intro; with_reducible refine ⟨fun _ => ?_, hK _ ?_⟩; (first | (go_at_call 54; with_reducible exact Calls.regrown_of (HTU.out _ (below_regrown wr _ _)))); clear hK K))
                    with_reducible refine wpQuiet_nil ?_
                    intro _ hw'
                    obtain ⟨⟨dq, osq⟩, hw''⟩ := hw'
                    subst hw''
                    go_wp2_with fail
                    go_ret
                    exact ⟨ret_bool (by rw [HF.out]), HBW.out.trans ((below_regrown wr dq osq).mono HBW.out.size)⟩
                  | true =>
                    rw [htu] at HTU
                    obtain ⟨bb, hbb⟩ : ∃ bb, (t1 == -t0 - 1) = bb := ⟨_, rfl⟩
                    have HF := keyF bb (by rw [htu, ← hbb]; simp [hk0, hk1]; rfl)
                    clear keyF hk0 hk1 htu
                    go_wp2_with fail
                    have r0a := cell_regrown e0a
                    have r0b := cell_regrown e0b
                    have r0c := cell_regrown e0c
                    have r1a := cell_regrown e1a
                    have r1b := cell_regrown e1b
                    have r1c := cell_regrown e1c
                    refine wp_region_quiet_below (by kernel_rfl) (by kernel_rfl) ?_
                    repeat (with_reducible refine wpQuiet_step (fun K hK => ?_); go_simp; first | (with_reducible refine hK _ ?_; clear hK K) | (apply Exists.intro; with_reducible refine ⟨fun _ => ?_, hK _ ?_⟩; (first | (go_at_call 54; with_reducible exact Calls.regrown_of (HTU.out _ (below_regrown wr _ _)))); clear hK K))
                    with_reducible refine wpQuiet_nil ?_
                    intro _ hw'
                    obtain ⟨⟨dq, osq⟩, hw''⟩ := hw'
                    subst hw''
                    go_wp2_with fail
                    go_ret
                    exact ⟨ret_bool (by rw [HF.out]), HBW.out.trans ((below_regrown wr dq osq).mono HBW.out.size)⟩
                · have hk1b : (k1 == 1) = false := by simpa using hk1
                  have HF := keyF false (by simp [hk1])
                  clear keyF hk0 hk1
                  go_wp2_with fail
                  go_quiet (fail)
                  go_wp2_with fail
                  go_ret
                  exact ⟨ret_bool (by rw [HF.out]), below_drewN HBW.out _⟩
              · have hk0b : (k0 == 1) = false := by simpa using hk0
                have HF := keyF false (by simp [hk0])
                clear keyF hk0
                go_wp2_with fail
                go_quiet (fail)
                go_wp2_with fail
                go_ret
                exact ⟨ret_bool (by rw [HF.out]), below_drewN HBW.out _⟩
end Go.Proofs.Ytdncchlfeanlmaa
namespace Go.Proofs.Ytdncchlfeanlmaa
open Go.RowKit

set_option maxRecDepth 100000 in
set_option maxHeartbeats 8000000 in
theorem jgap_3 (B0 G : Nat) (A1 A2 A3 : Option Addr) (c1 c2 c3 : Nat) (ts : List TermD) (ints : List Bool) (ats : List AtomD) (A : Option Addr) (c : Nat) (lits : List Int) (w : World) (h : StR w B0 G A1 c1 A2 c2 A3 c3 ts ints ats)
    (hlits : IntsB w w.heap.size A 3 lits) (hl : ∀ l ∈ lits, LitIn ats.length l) (_ : 3 ≤ 1000) (hgr : GoodRows ints.length ats) (hni : ints.length ≤ 1000) :
    Calls Try.prog 29 #[.pointer (some ⟨G, 0, none⟩), .slice A 3 c] w fun e w' => e = .returned (.bool (gapF ints ats lits)) ∧ Below w.heap.size w w' := by
  have eg := enters_of Try.func52 (by kernel_rfl) rfl
  have HALL := Lib.hid (jall_any B0 G A1 A2 A3 c1 c2 c3 ts ints ats A 3 c lits 3 w h hlits hl (by omega))
  have HCO : Hid (∀ (W : World) (R : Bool), Below w.heap.size w W → (lits.any fun l => decide (l < 0)) = R → Calls Try.prog 21 #[.slice A 3 c, .func (.func 52) #[] #[]] W fun e w' => e = .returned (.bool R) ∧ Below W.heap.size W w') := fun W R hW hR =>
    containsInts_any 52 #[] eg (fun l => decide (l < 0)) A 3 c lits R W (hlits.below stays_int hW hW.size) (by omega) (fun W' y _ hb => (gap1_any y W').mono fun _ _ ⟨h1, h2⟩ => ⟨h1, h2 ▸ hb⟩) hR
  have H := Lib.hid (And.intro h (And.intro hlits (And.intro hl (And.intro hgr hni))))
  have hGl := h.lt
  have hB0 := h.hB
  have hq1 := h.q1
  clear h hlits hl hgr eg
  cases hall : allK ats 3 lits with
  | false =>
    rw [hall] at HALL
    rw [gapF_no1 hall]
    clear hall
    go_enter Try.func29, Try.ntmps29
    go_wp2_with fail
    refine HALL.out.mono ?_
    rintro e w9 ⟨rfl, hb9⟩
    have HB9 := Lib.hid hb9
    clear hb9
    go_wp2_with fail
    go_ret
    exact ⟨rfl, HB9.out⟩
  | true =>
    rw [hall] at HALL
    cases hany : lits.any fun l => decide (l < 0) with
    | true =>
      rw [gapF_no2 hany]
      have HCY := Lib.hid (fun W hW => HCO.out W true hW hany)
      clear hall hany
      go_enter Try.func29, Try.ntmps29
      go_wp2_with fail
      refine HALL.out.mono ?_
      rintro e w9 ⟨rfl, hb9⟩
      have HC9 := Lib.hid (HCY.out w9 hb9)
      have HB9 := Lib.hid hb9
      clear hb9
      go_wp2_with fail
      refine HC9.out.mono ?_
      rintro e w8 ⟨rfl, hb8⟩
      have HB8 := Lib.hid (HB9.out.trans (hb8.mono HB9.out.size))
      clear hb8
      go_wp2_with fail
      go_ret
      exact ⟨rfl, HB8.out⟩
    | false =>
      rw [gapF_yes hall hany (fun l hl => (H.out.2.2.1 l hl).1)]
      have HCY := Lib.hid (fun W hW => HCO.out W false hW hany)
      have HK3 := Lib.hid (allK_mem hall)
      clear hall hany
      have hlr : (lits.map fun l => (atomAt ats l).row).length = 3 := by have := H.out.2.1.len; simp; omega
      obtain ⟨rs, hrs⟩ : ∃ rs, (lits.map fun l => (atomAt ats l).row) = rs := ⟨_, rfl⟩
      rw [hrs] at hlr ⊢
      obtain ⟨r0, r1, r2, rfl⟩ : ∃ r0 r1 r2, rs = [r0, r1, r2] := by
        match rs, hlr with
        | [a0, a1, a2], _ => exact ⟨a0, a1, a2, rfl⟩
      have HRS := Lib.hid hrs

      clear hlr hrs
      go_enter Try.func29, Try.ntmps29
      go_wp2_with fail
      refine HALL.out.mono ?_
      rintro e w9 ⟨rfl, hb9⟩
      have HC9 := Lib.hid (HCY.out w9 hb9)
      have HB9 := Lib.hid hb9
      clear hb9
      go_wp2_with fail
      refine HC9.out.mono ?_
      rintro e w8 ⟨rfl, hb8⟩
      have HB8 := Lib.hid (HB9.out.trans (hb8.mono HB9.out.size))
      clear hb8 HCY HC9 HALL HCO
      go_wp2_with fail
      go_loopw [5, 20] (fun s5 s20 wr => ∃ j : Nat, s20 = .int .i64 (j : Int) ∧ j ≤ 3 ∧ Hid (OwnR wr w.heap.size B0 s5 ((lits.take j).map fun l => (atomAt ats l).row) ∧ Below w.heap.size w wr)) (fun _ s _ => 3 - (intOf s).toNat)
      case atStart => exact ⟨0, rfl, Nat.zero_le _, OwnV.none_ _ _ _ _ _ _, HB8.out⟩
      case round =>
        obtain ⟨j, rfl, hj, HJ⟩ := hrel
        obtain ⟨A5, c5, rfl, hc5, hc5m⟩ := HJ.out.1.len
        unfold maxLen at hc5m
        have hwz : w.heap.size ≤ wr.heap.size := HJ.out.2.size
        have hml : ((lits.take j).map fun l => (atomAt ats l).row).length = j := by have := H.out.2.1.len; simp; omega
        rw [hml] at hc5 HJ ⊢
        have HML := Lib.hid hml
        clear hml
        by_cases hlt : j < 3
        · have hltI : (j : Int) < (3 : Int) := by omega
          obtain ⟨b, off, hx, rfl, hb, hcell, hlo, hhi⟩ := ints_get (H.out.2.1.below stays_int HJ.out.2 (Nat.le_refl _)) hlt
          have hts := take_snoc_l hx
          have hlit := H.out.2.2.1 _ (List.getElem_mem hx)
          generalize lits[j] = y at hcell hts hlit hlo hhi
          have hC := jatom_any B0 G A1 A2 A3 c1 c2 c3 ts ints ats y wr (H.out.1.later HJ.out.2) hlit
          obtain ⟨z, hz⟩ : ∃ z, atomAt ats y = z := ⟨_, rfl⟩
          rw [hz] at hC
          have HC := Lib.hid hC
          have HT := Lib.hid (And.intro hts hz)
          have hfr := field_row z
          clear hts hlit hlo hhi hC hz
          go_wp2_with fail
          refine HC.out.mono ?_
          rintro e w7 ⟨Az, nz, cz, rfl, har, hnc, hcm, hb7⟩
          have hbA : Below wr.heap.size wr (w7.alloc (.cells #[.slice Az nz cz, .int .i64 z.row.kind, .int .i64 z.row.to_] 33)) := hb7.alloc hb7.size _
          have hbk := Blk.new w7 33 #[.slice Az nz cz, .int .i64 z.row.kind, .int .i64 z.row.to_]
          have hz7 := hb7.size
          have HO := Lib.hid (And.intro (rowd_later HJ.out.1 (Nat.le_trans hB0 hwz) hbA) (And.intro hbk (And.intro (HJ.out.2.trans (hbA.mono hwz)) (show VRowD _ (fun b => b < B0) [.slice Az nz cz, .int .i64 z.row.kind, .int .i64 z.row.to_] z.row from ⟨Az, nz, cz, rfl, hnc, hcm, har.below stays_int (hbA.mono (Nat.le_trans hB0 hwz)) (Nat.le_refl _)⟩))))
          have HOL := Lib.hid HO.out.1.lt
          clear har hnc hcm hb7 hbA hbk
          go_wp2_with (at_builtin; refine wpList_append_item rfl _ _ _ rfl rowRows3 tells_rowd (v := .slice A5 j c5) (xs := (lits.take j).map fun l => (atomAt ats l).row) (base := w.heap.size) (S := fun b => b < B0) rfl HO.out.1 (g := w7.heap.size) (cs := #[.slice Az nz cz, .int .i64 z.row.kind, .int .i64 z.row.to_]) rfl HO.out.2.1 (y := z.row) HO.out.2.2.2 (fun b hb => ⟨by simp; omega, fun e => by have := HOL.out b e; omega⟩) (by rw [HML.out]; unfold maxLen; omega) (by rw [HML.out]; omega) (by simp; omega) ?_; intro v' w6 hown6 hgrow6 hat6; have HB6 := Lib.hid (And.intro hown6 hgrow6); clear hown6 hgrow6 hat6)
          go_roundw
          case rel =>
            refine ⟨j + 1, by go_num, by omega, ?_, below_then HO.out.2.2.1 HB6.out.2 (by simp; omega) (fun x hx => (HOL.out x hx).1)⟩
            rw [HT.out.1, List.map_append, List.map_cons, List.map_nil, HT.out.2]
            exact HB6.out.1
          case measure => simp [intOf]; omega
        · obtain rfl : j = 3 := by omega
          have hln := H.out.2.1.len
          have hri := HJ.out.1
          rw [List.take_of_length_le (by omega)] at hri
          have hok : ∀ r ∈ lits.map fun l => (atomAt ats l).row, RowOk ints.length r := fun r hr => by
            obtain ⟨l, hl, rfl⟩ := List.mem_map.1 hr
            exact H.out.2.2.2.1 _ (atomAt_mem (H.out.2.2.1 l hl)) (HK3.out l hl)
          rw [HRS.out] at hri hok
          obtain ⟨g, c6, hA5, -, -, -, -⟩ := hri.form (by simp)
          injection hA5 with hA5 _ hc56
          subst hA5
          have hg : GapI w wr B0 G ints.length c2 A2 ints g 3 c5 [r0, r1, r2] := ⟨HJ.out.2, hri, hB0, hq1, hGl, by have := H.out.1.i; exact this.below stays_bool (Below.refl _ _) hB0, hok⟩
          have hn := H.out.2.2.2.2
          obtain ⟨n, hnn⟩ : ∃ n, ints.length = n := ⟨_, rfl⟩
          rw [hnn] at hg hn
          have HNN := Lib.hid hnn
          clear hln hri hok hc56 HJ HML hc5 hnn
          obtain ⟨P0, m0, q0, e0a, e0b, e0c, -, -, har0⟩ := hg.own.cells (i := 0) (x := r0) rfl
          have ok0 := hg.ok r0 (by simp)
          obtain ⟨P1, m1, q1, e1a, e1b, e1c, -, -, har1⟩ := hg.own.cells (i := 1) (x := r1) rfl
          have ok1 := hg.ok r1 (by simp)
          obtain ⟨P2, m2, q2, e2a, e2b, e2c, -, -, har2⟩ := hg.own.cells (i := 2) (x := r2) rfl
          have ok2 := hg.ok r2 (by simp)
          obtain ⟨o0, k0, t0⟩ := r0
          simp only at e0a e0b e0c har0
          have rt0 : -1000000 ≤ t0 ∧ t0 ≤ 1000000 := ok0.to_
          have ro0 : ∀ c ∈ o0, -1000000 ≤ c ∧ c ≤ 1000000 := ok0.of_
          obtain ⟨o1, k1, t1⟩ := r1
          simp only at e1a e1b e1c har1
          have rt1 : -1000000 ≤ t1 ∧ t1 ≤ 1000000 := ok1.to_
          have ro1 : ∀ c ∈ o1, -1000000 ≤ c ∧ c ≤ 1000000 := ok1.of_
          obtain ⟨o2, k2, t2⟩ := r2
          simp only at e2a e2b e2c har2
          have rt2 : -1000000 ≤ t2 ∧ t2 ≤ 1000000 := ok2.to_
          have ro2 : ∀ c ∈ o2, -1000000 ≤ c ∧ c ≤ 1000000 := ok2.of_
          have hgl := (hg.own.lt g rfl).2
          have hqG : wr.cell? ⟨G, 1, none⟩ = some (.slice A2 n c2) := (hg.bel.cell (p := ⟨G, 1, none⟩) hg.lt).trans hg.q1
          have hGw : G < wr.heap.size := Nat.lt_of_lt_of_le hg.lt hg.bel.size
          have HBW := Lib.hid hg.bel
          have hBw : B0 ≤ wr.heap.size := Nat.le_trans hg.hB hg.bel.size
          have HTU1 : Hid (∀ W, Below wr.heap.size wr W → Calls Try.prog 54 #[.pointer (some ⟨G, 0, none⟩), .agg #[.slice P0 m0 q0, .int .i64 k0, .int .i64 t0], .agg #[.slice P1 m1 q1, .int .i64 k1, .int .i64 t1], .int .i64 (1)] W fun e w' => e = .returned (.bool (turnedF n o0 o1 (1))) ∧ Below W.heap.size W w') := fun W hW => turned_any G n c2 A2 P0 m0 q0 o0 k0 t0 P1 m1 q1 o1 k1 t1 (1) W (by omega) ((hW.cell (p := ⟨G, 1, none⟩) hGw).trans hqG) (Nat.lt_of_lt_of_le hGw hW.size) (har0.below stays_int (hW.mono hBw) (Nat.le_trans hBw hW.size)) (har1.below stays_int (hW.mono hBw) (Nat.le_trans hBw hW.size)) hn ro0 ro1
          have HTU2 : Hid (∀ W, Below wr.heap.size wr W → Calls Try.prog 54 #[.pointer (some ⟨G, 0, none⟩), .agg #[.slice P0 m0 q0, .int .i64 k0, .int .i64 t0], .agg #[.slice P2 m2 q2, .int .i64 k2, .int .i64 t2], .int .i64 (-1)] W fun e w' => e = .returned (.bool (turnedF n o0 o2 (-1))) ∧ Below W.heap.size W w') := fun W hW => turned_any G n c2 A2 P0 m0 q0 o0 k0 t0 P2 m2 q2 o2 k2 t2 (-1) W (by omega) ((hW.cell (p := ⟨G, 1, none⟩) hGw).trans hqG) (Nat.lt_of_lt_of_le hGw hW.size) (har0.below stays_int (hW.mono hBw) (Nat.le_trans hBw hW.size)) (har2.below stays_int (hW.mono hBw) (Nat.le_trans hBw hW.size)) hn ro0 ro2
          have hwi : IntKind.i64.wrap (-t0) = -t0 := IntWalk.i64_in _ (by omega)
          have keyF : ∀ b : Bool, (decide (k0 = 3 ∧ k1 = 2 ∧ k2 = 2) && turnedF n o0 o1 1 && decide (t1 = t0) && turnedF n o0 o2 (-1) && decide (t2 = -t0)) = b → Hid (gapRows ints [⟨o0, k0, t0⟩, ⟨o1, k1, t1⟩, ⟨o2, k2, t2⟩] = b) := fun b hb => by
            show _ = _
            rw [gapRows_three, HNN.out]
            exact hb
          clear hg har0 har1 har2 ok0 ok1 ok2 ro0 ro1 ro2 HB8
          by_cases hk0 : k0 = 3
          · have hk0b : (k0 == 3) = true := by simpa using hk0
            by_cases hk1 : k1 = 2
            · have hk1b : (k1 == 2) = true := by simpa using hk1
              by_cases hk2 : k2 = 2
              · have hk2b : (k2 == 2) = true := by simpa using hk2
                cases htu : turnedF n o0 o1 1 with
                | false =>
                  rw [htu] at HTU1
                  have HF := keyF false (by rw [htu]; simp)
                  clear keyF hk0 hk1 hk2 htu
                  go_wp2_with fail
                  have r0a := cell_regrown e0a
                  have r0b := cell_regrown e0b
                  have r0c := cell_regrown e0c
                  have r1a := cell_regrown e1a
                  have r1b := cell_regrown e1b
                  have r1c := cell_regrown e1c
                  have r2a := cell_regrown e2a
                  have r2b := cell_regrown e2b
                  have r2c := cell_regrown e2c
                  refine wp_region_quiet_below (by kernel_rfl) (by kernel_rfl) ?_
                  repeat (with_reducible refine wpQuiet_step (fun K hK => ?_); go_simp; first | (with_reducible refine hK _ ?_; clear hK K) | (apply Exists.intro; with_reducible refine ⟨fun _ => ?_, hK _ ?_⟩; (first | (go_at_call 54; with_reducible exact Calls.regrown_of (HTU1.out _ (below_regrown wr _ _)))); clear hK K))
                  with_reducible refine wpQuiet_nil ?_
                  intro _ hw'
                  obtain ⟨⟨dq, osq⟩, hw''⟩ := hw'
                  subst hw''
                  go_wp2_with fail
                  go_ret
                  exact ⟨ret_bool (by rw [HF.out]), HBW.out.trans ((below_regrown wr dq osq).mono HBW.out.size)⟩
                | true =>
                  rw [htu] at HTU1
                  by_cases ht1 : t1 = t0
                  · have ht1b : (t1 == t0) = true := by simpa using ht1
                    cases htv : turnedF n o0 o2 (-1) with
                    | false =>
                      rw [htv] at HTU2
                      have HF := keyF false (by rw [htv]; simp)
                      clear keyF hk0 hk1 hk2 htu htv ht1
                      go_wp2_with fail
                      have r0a := cell_regrown e0a
                      have r0b := cell_regrown e0b
                      have r0c := cell_regrown e0c
                      have r1a := cell_regrown e1a
                      have r1b := cell_regrown e1b
                      have r1c := cell_regrown e1c
                      have r2a := cell_regrown e2a
                      have r2b := cell_regrown e2b
                      have r2c := cell_regrown e2c
                      refine wp_region_quiet_below (by kernel_rfl) (by kernel_rfl) ?_
                      repeat (with_reducible refine wpQuiet_step (fun K hK => ?_); go_simp; first | (with_reducible refine hK _ ?_; clear hK K) | (apply Exists.intro; with_reducible refine ⟨fun _ => ?_, hK _ ?_⟩; (first | (go_at_call 54; with_reducible exact Calls.regrown_of (HTU1.out _ (below_regrown wr _ _))) | (go_at_call 54; with_reducible exact Calls.regrown_of (HTU2.out _ (below_regrown wr _ _)))); clear hK K))
                      with_reducible refine wpQuiet_nil ?_
                      intro _ hw'
                      obtain ⟨⟨dq, osq⟩, hw''⟩ := hw'
                      subst hw''
                      go_wp2_with fail
                      go_ret
                      exact ⟨ret_bool (by rw [HF.out]), HBW.out.trans ((below_regrown wr dq osq).mono HBW.out.size)⟩
                    | true =>
                      rw [htv] at HTU2
                      obtain ⟨bb, hbb⟩ : ∃ bb, (t2 == -t0) = bb := ⟨_, rfl⟩
                      have HF := keyF bb (by rw [htu, htv, ← hbb]; simp [hk0, hk1, hk2, ht1]; rfl)
                      clear keyF hk0 hk1 hk2 htu htv ht1
                      go_wp2_with fail
                      have r0a := cell_regrown e0a
                      have r0b := cell_regrown e0b
                      have r0c := cell_regrown e0c
                      have r1a := cell_regrown e1a
                      have r1b := cell_regrown e1b
                      have r1c := cell_regrown e1c
                      have r2a := cell_regrown e2a
                      have r2b := cell_regrown e2b
                      have r2c := cell_regrown e2c
                      refine wp_region_quiet_below (by kernel_rfl) (by kernel_rfl) ?_
                      repeat (with_reducible refine wpQuiet_step (fun K hK => ?_); go_simp; first | (with_reducible refine hK _ ?_; clear hK K) | (apply Exists.intro; with_reducible refine ⟨fun _ => ?_, hK _ ?_⟩; (first | (go_at_call 54; with_reducible exact Calls.regrown_of (HTU1.out _ (below_regrown wr _ _))) | (go_at_call 54; with_reducible exact Calls.regrown_of (HTU2.out _ (below_regrown wr _ _)))); clear hK K))
                      with_reducible refine wpQuiet_nil ?_
                      intro _ hw'
                      obtain ⟨⟨dq, osq⟩, hw''⟩ := hw'
                      subst hw''
                      go_wp2_with fail
                      go_ret
                      exact ⟨ret_bool (by rw [HF.out]), HBW.out.trans ((below_regrown wr dq osq).mono HBW.out.size)⟩
                  · have ht1b : (t1 == t0) = false := by simpa using ht1
                    have HF := keyF false (by simp [ht1])
                    clear keyF hk0 hk1 hk2 htu ht1
                    go_wp2_with fail
                    have r0a := cell_regrown e0a
                    have r0b := cell_regrown e0b
                    have r0c := cell_regrown e0c
                    have r1a := cell_regrown e1a
                    have r1b := cell_regrown e1b
                    have r1c := cell_regrown e1c
                    have r2a := cell_regrown e2a
                    have r2b := cell_regrown e2b
                    have r2c := cell_regrown e2c
                    refine wp_region_quiet_below (by kernel_rfl) (by kernel_rfl) ?_
                    repeat (with_reducible refine wpQuiet_step (fun K hK => ?_); go_simp; first | (with_reducible refine hK _ ?_; clear hK K) | (apply Exists.intro; with_reducible refine ⟨fun _ => ?_, hK _ ?_⟩; (first | (go_at_call 54; with_reducible exact Calls.regrown_of (HTU1.out _ (below_regrown wr _ _)))); clear hK K))
                    with_reducible refine wpQuiet_nil ?_
                    intro _ hw'
                    obtain ⟨⟨dq, osq⟩, hw''⟩ := hw'
                    subst hw''
                    go_wp2_with fail
                    go_ret
                    exact ⟨ret_bool (by rw [HF.out]), HBW.out.trans ((below_regrown wr dq osq).mono HBW.out.size)⟩
              · have hk2b : (k2 == 2) = false := by simpa using hk2
                have HF := keyF false (by simp [hk2])
                clear keyF hk0 hk1 hk2
                go_wp2_with fail
                go_quiet (fail)
                go_wp2_with fail
                go_ret
                exact ⟨ret_bool (by rw [HF.out]), below_drewN HBW.out _⟩
            · have hk1b : (k1 == 2) = false := by simpa using hk1
              have HF := keyF false (by simp [hk1])
              clear keyF hk0 hk1
              go_wp2_with fail
              go_quiet (fail)
              go_wp2_with fail
              go_ret
              exact ⟨ret_bool (by rw [HF.out]), below_drewN HBW.out _⟩
          · have hk0b : (k0 == 3) = false := by simpa using hk0
            have HF := keyF false (by simp [hk0])
            clear keyF hk0
            go_wp2_with fail
            go_quiet (fail)
            go_wp2_with fail
            go_ret
            exact ⟨ret_bool (by rw [HF.out]), below_drewN HBW.out _⟩
end Go.Proofs.Ytdncchlfeanlmaa
namespace Go.Proofs.Ytdncchlfeanlmaa
open Go.RowKit

theorem jgap_any (B0 G : Nat) (A1 A2 A3 : Option Addr) (c1 c2 c3 : Nat) (ts : List TermD) (ints : List Bool) (ats : List AtomD) (A : Option Addr) (n c : Nat) (lits : List Int) (w : World) (h : StR w B0 G A1 c1 A2 c2 A3 c3 ts ints ats)
    (hlits : IntsB w w.heap.size A n lits) (hl : ∀ l ∈ lits, LitIn ats.length l) (hn0 : n ≤ 1000) (hgr : GoodRows ints.length ats) (hni : ints.length ≤ 1000) :
    Calls Try.prog 29 #[.pointer (some ⟨G, 0, none⟩), .slice A n c] w fun e w' => e = .returned (.bool (gapF ints ats lits)) ∧ Below w.heap.size w w' := by
  by_cases h2 : n = 2
  · subst h2
    exact jgap_2 B0 G A1 A2 A3 c1 c2 c3 ts ints ats A c lits w h hlits hl hn0 hgr hni
  · by_cases h3 : n = 3
    · subst h3
      exact jgap_3 B0 G A1 A2 A3 c1 c2 c3 ts ints ats A c lits w h hlits hl hn0 hgr hni
    · exact jgap_o B0 G A1 A2 A3 c1 c2 c3 ts ints ats A n c lits w h hlits hl hn0 hgr hni h2 h3
end Go.Proofs.Ytdncchlfeanlmaa
