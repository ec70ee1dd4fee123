/- Walk: the reference's gapOk (JudgeWhySays; printed by genJwN.py). -/
import Derived.Test.YthjfiomcpihlaaaGreatJwM
import Derived.Test.YthjfiomcpihlaaaGreatJuKK
namespace Go.Proofs.YthjfiomcpihlaaaGreat
open Go.RowKit

theorem field_rowJ (x : AtomD) (A : Option Addr) (n c : Nat) (w : World) : (Instr.field 47 (.agg #[.int .i64 x.kind, .int .i64 x.a, .int .i64 x.b, .slice A n c, .int .i64 x.row.kind, .int .i64 x.row.to_]) 3).run Tryz.prog w = .ok (.agg #[.slice A n c, .int .i64 x.row.kind, .int .i64 x.row.to_]) w := by kernel_rfl
/-- the rows, in a row of the call's own, as a later world has them -/
theorem OwnR.at_ {w W : World} {B B0 g n c : Nat} {xs : List RowD} (h : OwnR w B B0 (.slice (some ⟨g, 0, none⟩) n c) xs) (hB : B0 ≤ w.heap.size) {i : Nat} {x : RowD} (hx : xs[i]? = some x) (hW : Below w.heap.size w W) :
    ∃ (A : Option Addr) (m k : Nat), W.cell? ⟨g, i * 3, none⟩ = some (.slice A m k) ∧ W.cell? ⟨g, i * 3 + 1, none⟩ = some (.int .i64 x.kind) ∧ W.cell? ⟨g, i * 3 + 2, none⟩ = some (.int .i64 x.to_) ∧ m ≤ k ∧ k ≤ maxLen ∧ IntsB W B0 A m x.of_ :=
  OwnR.cells (rowd_later h hB hW) hx

set_option maxRecDepth 100000 in
set_option maxHeartbeats 16000000 in
theorem refGap_any (G : Nat) (A1 A2 A3 : Option Addr) (c1 c2 c3 : Nat) (ts : List TermD) (ints : List Bool) (ats : List AtomD) (A : Option Addr) (n c : Nat) (lits : List Int) (w : World) (h : RfR w w.heap.size G A1 c1 A2 c2 A3 c3 ts ints ats)
    (hlits : IntsB w w.heap.size A n lits) (hl : ∀ l ∈ lits, LitIn ats.length l) (hn : n ≤ 1000) (_ : n ≤ c) (hgr : GoodRows ints.length ats) (hni : ints.length ≤ 1000) (hall : allK ats 3 lits = true) (R : Bool) (hR : gapF ints ats lits = R) :
    Calls Tryz.prog 40 #[.pointer (some ⟨G, 0, none⟩), .slice A n c] w fun e w' => e = .returned (.bool R) ∧ Below w.heap.size w w' := by
  have H := Lib.hid (And.intro h (And.intro hlits (And.intro hl hgr)))
  have HA := Lib.hid (allK_mem hall)
  have HALL := Lib.hid hall
  have HR := Lib.hid hR
  have hGl := h.lt
  have HSW : Hid (∀ W (y : Int), Below w.heap.size w W → LitIn ats.length y → Calls Tryz.prog 64 #[.pointer (some ⟨G, 0, none⟩), .int .i64 y] W (AtomP w.heap.size (atomAt ats y) W)) := fun W y hW hy => refAtomOf_any w.heap.size G A1 A2 A3 c1 c2 c3 ts ints ats y W (h.later hW) hy
  clear h hlits hl hgr hall hR
  go_enter Tryz.func40, Tryz.ntmps40
  go_wp2_with fail
  go_loopw [5, 6] (fun s5 s6 wr => ∃ j : Nat, s6 = .int .i64 (j : Int) ∧ j ≤ n ∧ Hid (OwnR wr w.heap.size w.heap.size s5 ((lits.take j).map fun l => (atomAt ats l).row) ∧ (∀ l ∈ lits.take j, ¬ l < 0) ∧ Below w.heap.size w wr)) (fun _ s _ => n - (intOf s).toNat)
  case atStart => exact ⟨0, rfl, Nat.zero_le _, OwnV.none_ _ _ _ _ _ _, (fun l h => by simp at h), Below.refl _ _⟩
  case round =>
    obtain ⟨j, rfl, hj, HJ⟩ := hrel
    obtain ⟨A5, c5, rfl, hc5, hc5m⟩ := HJ.out.1.len
    unfold maxLen at hc5m
    have hwz : w.heap.size ≤ wr.heap.size := HJ.out.2.2.size
    have hml : ((lits.take j).map fun l => (atomAt ats l).row).length = j := by have := H.out.2.1.len; simp; omega
    rw [hml] at hc5 HJ ⊢
    have HML := Lib.hid hml
    clear hml
    by_cases hlt : j < n
    · have hltI : (j : Int) < (n : Int) := by omega
      obtain ⟨b, off, hx, rfl, hb, hcell, hlo, hhi⟩ := ints_get (H.out.2.1.below stays_int HJ.out.2.2 (Nat.le_refl _)) hlt
      have hts := take_snoc_l hx
      have hlm := List.getElem_mem hx
      have hlit := H.out.2.2.1 _ hlm
      generalize lits[j] = y at hcell hts hlit hlo hhi hlm
      have hC := HSW.out wr y HJ.out.2.2 hlit
      obtain ⟨z, hz⟩ : ∃ z, atomAt ats y = z := ⟨_, rfl⟩
      rw [hz] at hC
      have HC := Lib.hid hC
      have HT := Lib.hid (And.intro hts hz)
      have hfr := field_rowJ z
      by_cases hneg : y < 0
      · have HF : Hid (R = false) := by
          have h1 := gapF_no2 (ints := ints) (ats := ats) (List.any_eq_true.2 ⟨y, hlm, decide_eq_true hneg⟩)
          rw [← HR.out]; exact h1
        clear hts hlit hlo hhi hC hz hlm
        go_wp2_with fail
        go_ret
        exact ⟨ret_bool HF.out.symm, HJ.out.2.2⟩
      · have HNN : Hid (¬ y < 0) := hneg
        clear hts hlit hlo hhi hC hz hlm
        go_wp2_with fail
        refine HC.out.mono ?_
        rintro e w7 ⟨Az, nz, cz, rfl, har, hnc, hcm, hb7⟩
        have hbA : Below wr.heap.size wr (w7.alloc (.cells #[.slice Az nz cz, .int .i64 z.row.kind, .int .i64 z.row.to_] 45)) := hb7.alloc hb7.size _
        have hbk := Blk.new w7 45 #[.slice Az nz cz, .int .i64 z.row.kind, .int .i64 z.row.to_]
        have hz7 := hb7.size
        have HO := Lib.hid (And.intro (rowd_later HJ.out.1 hwz hbA) (And.intro hbk (And.intro (HJ.out.2.2.trans (hbA.mono hwz)) (show VRowD _ (fun b => b < w.heap.size) [.slice Az nz cz, .int .i64 z.row.kind, .int .i64 z.row.to_] z.row from ⟨Az, nz, cz, rfl, hnc, hcm, har.below stays_int (hbA.mono hwz) (Nat.le_refl _)⟩))))
        have HOL := Lib.hid HO.out.1.lt
        clear har hnc hcm hb7 hbA hbk
        go_wp2_with (at_builtin; refine wpList_append_item rfl _ _ _ rfl rowRows3 tells_rowd (v := .slice A5 j c5) (xs := (lits.take j).map fun l => (atomAt ats l).row) (base := w.heap.size) (S := fun b => b < w.heap.size) rfl HO.out.1 (g := w7.heap.size) (cs := #[.slice Az nz cz, .int .i64 z.row.kind, .int .i64 z.row.to_]) rfl HO.out.2.1 (y := z.row) HO.out.2.2.2 (fun b hb => ⟨by simp; omega, fun e => by have := HOL.out b e; omega⟩) (by rw [HML.out]; unfold maxLen; omega) (by rw [HML.out]; omega) (by simp; omega) ?_; intro v' w6 hown6 hgrow6 hat6; have HB6 := Lib.hid (And.intro hown6 hgrow6); clear hown6 hgrow6 hat6)
        go_roundw
        case rel =>
          refine ⟨j + 1, by go_num, by omega, ?_, fun l hl => ?_, below_then HO.out.2.2.1 HB6.out.2 (by simp; omega) (fun x hx => (HOL.out x hx).1)⟩
          · rw [HT.out.1, List.map_append, List.map_cons, List.map_nil, HT.out.2]
            exact HB6.out.1
          · rw [HT.out.1] at hl
            rcases List.mem_append.1 hl with h | h
            · have := HJ.out.2.1 l h; omega
            · rw [List.mem_singleton.1 h]; have := HNN.out; omega
        case measure => simp [intOf]; omega
    · obtain rfl : n = j := by omega
      obtain ⟨wo, rfl⟩ : ∃ wo : World, wo = wr := ⟨_, rfl⟩
      have hln := H.out.2.1.len
      have hri := HJ.out.1
      have hnn := HJ.out.2.1
      rw [List.take_of_length_le (by omega)] at hri hnn
      have hok : ∀ r ∈ lits.map fun l => (atomAt ats l).row, RowOk ints.length r := fun r hr => by
        obtain ⟨l, hl, rfl⟩ := List.mem_map.1 hr
        exact H.out.2.2.2 _ (atomAt_mem (H.out.2.2.1 l hl)) (HA.out l hl)
      have hR1 : gapRows ints (lits.map fun l => (atomAt ats l).row) = R := by
        rw [← HR.out]
        exact (gapF_yes HALL.out (List.any_eq_false.2 fun l hl => by simpa using hnn l hl) (fun l hl => (H.out.2.2.1 l hl).1)).symm
      have hrl : (lits.map fun l => (atomAt ats l).row).length = n := by rw [List.length_map, hln]
      generalize (lits.map fun l => (atomAt ats l).row) = rs at hri hok hR1 hrl
      have hst := H.out.1.later HJ.out.2.2
      have q1 : wo.cell? ⟨G, 1, none⟩ = some (.slice A2 ints.length c2) := hst.q1
      obtain ⟨ni, hnieq⟩ : ∃ ni, ints.length = ni := ⟨_, rfl⟩
      have HNI := Lib.hid hnieq
      rw [hnieq] at q1 hok hni
      have HS := Lib.hid (And.intro hri (And.intro hok (And.intro hR1 (And.intro hrl (And.intro hst HJ.out.2.2)))))
      have hGw : G < wo.heap.size := hst.lt
      clear hln hri hnn hok hR1 hrl hst HJ HML hnieq hlt hj HA HALL HSW H HR
      by_cases h2 : n = 2
      · have hn2b : ((n : Int) == 2) = true := by rw [beq_iff_eq]; omega
        have hn1 : (1 : Int) < (n : Int) := by omega
        have hn0 : (0 : Int) < (n : Int) := by omega
        have hn0n : 0 < n := by omega
        have hn1n : 1 < n := by omega
        obtain ⟨r0, r1, hrs⟩ : ∃ a b, rs = [a, b] := by
          match rs, HS.out.2.2.2.1.trans h2 with
          | [a, b], _ => exact ⟨a, b, rfl⟩
        clear h2
        obtain ⟨hri, hok, hR1, -, hst, hbw⟩ := HS.out
        rw [hrs] at hri hok hR1
        obtain ⟨g, c6, hA5, -, -, -, -⟩ := hri.form (by simp)
        injection hA5 with hA5 e56 hc56
        subst hA5
        clear e56 hc56
        have ok0 := hok r0 (by simp)
        have ok1 := hok r1 (by simp)
        rw [gapRows_two, HNI.out] at hR1
        have HQ := Lib.hid (And.intro hri (And.intro hR1 (And.intro hst (And.intro hbw (And.intro ok0 ok1)))))
        obtain ⟨P0, m0, n0, e00, e01, e02, l0, L0, ar0⟩ := OwnR.cells hri (i := 0) rfl
        obtain ⟨P1, m1, n1, e10, e11, e12, l1, L1, ar1⟩ := OwnR.cells hri (i := 1) rfl
        have hm0 : m0 ≤ 1000 := by have := ar0.len; have := ok0.len; omega
        have hm1 : m1 ≤ 1000 := by have := ar1.len; have := ok1.len; omega
        have b0 := ok0.to_
        have b1 := ok1.to_
        have HP : Hid (∀ (W : World) (k : Nat), k < 1000000 → Below wo.heap.size wo W → Calls Tryz.prog 69 #[.agg #[.slice P0 m0 n0, .int .i64 r0.kind, .int .i64 r0.to_], .int .i64 (k : Int)] W fun e w' => e = .returned (.int .i64 (r0.of_.getD k 0)) ∧ Below wo.heap.size wo w') := fun W k hk hW => by
          have h := refPlaceOf_any P0 m0 n0 r0.of_ r0.kind r0.to_ (k : Int) W ((ar0.below stays_int (hW.mono hwz) (Nat.le_trans hwz hW.size))) l0 (by omega) (by omega) (by omega)
          rw [Int.toNat_natCast] at h
          exact h.mono fun _ _ h => ⟨h.1, hW.trans (h.2.mono hW.size)⟩
        have HM : Hid (∀ (W : World), Below wo.heap.size wo W → Calls Tryz.prog 70 #[.agg #[.slice P0 m0 n0, .int .i64 r0.kind, .int .i64 r0.to_], .agg #[.slice P1 m1 n1, .int .i64 r1.kind, .int .i64 r1.to_], .int .i64 (-1), .int .i64 (ni : Int)] W fun e w' => e = .returned (.bool (turnedF ni r0.of_ r1.of_ (-1))) ∧ Below W.heap.size W w') := fun W hW =>
          refMirrored_any P0 P1 m0 n0 m1 n1 r0.of_ r1.of_ r0.kind r0.to_ r1.kind r1.to_ (-1) ni W (ar0.below stays_int (hW.mono hwz) (Nat.le_trans hwz hW.size)) (ar1.below stays_int (hW.mono hwz) (Nat.le_trans hwz hW.size)) l0 l1 hni (by omega) (by omega) (.inr rfl) ok0.of_ _ rfl
        have hgw : g < wo.heap.size := (hri.lt g rfl).2
        obtain ⟨o0, k0, t0⟩ := r0
        obtain ⟨o1, k1, t1⟩ := r1
        dsimp only at *
        clear hri hok hR1 hst hbw ok0 ok1 ar0 ar1 L0 L1 HS hrs
        go_wp2_with fail
        go_loopw [8] (fun s8 wr => ∃ k : Nat, s8 = .int .i64 (k : Int) ∧ k ≤ ni ∧ Hid (∀ i, i < k → ints[i]? = some true ∨ o0.getD i 0 = 0) ∧ Below wo.heap.size wo wr) (fun s _ => ni - (intOf s).toNat)
        case atStart => exact ⟨0, rfl, Nat.zero_le _, (fun i hi => absurd hi (Nat.not_lt_zero i)), Below.refl _ _⟩
        case round =>
          obtain ⟨k, rfl, hk, HK, hbel⟩ := hrel
          have hzk := hbel.size
          have f00 : wr.cell? ⟨g, 0, none⟩ = some (.slice P0 m0 n0) := (hbel.cell (p := ⟨g, 0, none⟩) hgw).trans e00
          have f01 : wr.cell? ⟨g, 1, none⟩ = some (.int .i64 k0) := (hbel.cell (p := ⟨g, 1, none⟩) hgw).trans e01
          have f02 : wr.cell? ⟨g, 2, none⟩ = some (.int .i64 t0) := (hbel.cell (p := ⟨g, 2, none⟩) hgw).trans e02
          have f10 : wr.cell? ⟨g, 3, none⟩ = some (.slice P1 m1 n1) := (hbel.cell (p := ⟨g, 3, none⟩) hgw).trans e10
          have f11 : wr.cell? ⟨g, 4, none⟩ = some (.int .i64 k1) := (hbel.cell (p := ⟨g, 4, none⟩) hgw).trans e11
          have f12 : wr.cell? ⟨g, 5, none⟩ = some (.int .i64 t1) := (hbel.cell (p := ⟨g, 5, none⟩) hgw).trans e12
          by_cases hlt : k < ni
          · have hltI : (k : Int) < (ni : Int) := by omega
            have hPk := HP.out wr k (by omega) hbel
            obtain ⟨x, hx⟩ : ∃ x, o0.getD k 0 = x := ⟨_, rfl⟩
            rw [hx] at hPk
            have HPK := Lib.hid hPk
            have HX := Lib.hid hx
            clear hPk hx
            by_cases hx0 : x = 0
            · have hxb : (x != 0) = false := by simpa using hx0
              have HX0 := Lib.hid hx0
              clear hx0
              go_wp2_with fail
              refine HPK.out.mono ?_
              rintro e w9 ⟨rfl, hb9⟩
              go_wp2_with fail
              go_roundw
              case rel => exact ⟨k + 1, by go_num, by omega, (fun i hi => by
                by_cases e : i = k
                · subst e; exact .inr (by rw [HX.out, HX0.out])
                · exact HK.out i (by omega)), hb9⟩
              case measure => simp [intOf]; omega
            · have hxb : (x != 0) = true := by simpa using hx0
              have HX0 := Lib.hid hx0
              obtain ⟨b3, off3, hx3, rfl, hb3, hc3⟩ := Arr.get (HQ.out.2.2.1.i.below stays_bool (Below.refl _ _) (Nat.le_refl _)) (i := k) (by rw [HNI.out]; exact hlt)
              have hc3' : wo.cell? ⟨b3, off3 + k, none⟩ = some (.bool ints[k]) := by have := hc3; unfold AtBool at this; rwa [Nat.mul_one] at this
              have hb3w : b3 < wo.heap.size := by omega
              have hik := List.getElem?_eq_getElem hx3
              obtain ⟨v, hv⟩ : ∃ v, ints[k] = v := ⟨_, rfl⟩
              rw [hv] at hc3' hik
              have HIK := Lib.hid hik
              clear hx0 hik hv hc3
              cases v with
              | true =>
                go_wp2_with fail
                refine HPK.out.mono ?_
                rintro e w9 ⟨rfl, hb9⟩
                have q9 : w9.cell? ⟨G, 1, none⟩ = some (.slice (some ⟨b3, off3, none⟩) ni c2) := (hb9.cell (p := ⟨G, 1, none⟩) hGw).trans q1
                have c9 : w9.cell? ⟨b3, off3 + k, none⟩ = some (.bool true) := (hb9.cell (p := ⟨b3, off3 + k, none⟩) hb3w).trans hc3'
                go_wp2_with fail
                go_roundw
                case rel => exact ⟨k + 1, by go_num, by omega, (fun i hi => by
                  by_cases e : i = k
                  · subst e; exact .inl HIK.out
                  · exact HK.out i (by omega)), hb9⟩
                case measure => simp [intOf]; omega
              | false =>
                have HF : Hid (R = false) := by
                  rw [← HQ.out.2.1, wholeF_at (by rw [HNI.out]; exact hlt) HIK.out (by rw [HX.out]; exact HX0.out)]; rfl
                go_wp2_with fail
                refine HPK.out.mono ?_
                rintro e w9 ⟨rfl, hb9⟩
                have q9 : w9.cell? ⟨G, 1, none⟩ = some (.slice (some ⟨b3, off3, none⟩) ni c2) := (hb9.cell (p := ⟨G, 1, none⟩) hGw).trans q1
                have c9 : w9.cell? ⟨b3, off3 + k, none⟩ = some (.bool false) := (hb9.cell (p := ⟨b3, off3 + k, none⟩) hb3w).trans hc3'
                go_wp2_with fail
                go_ret
                exact ⟨ret_bool HF.out.symm, HQ.out.2.2.2.1.trans (hb9.mono hwz)⟩
          · obtain rfl : ni = k := by omega
            have HWH : Hid (wholeF ints o0 = true) := wholeF_all (by rw [HNI.out]; exact HK.out)
            clear HK
            by_cases hk0 : k0 = 1
            · have hk0b : (k0 == 1) = true := by simpa using hk0
              by_cases hk1 : k1 = 1
              · have hk1b : (k1 == 1) = true := by simpa using hk1
                have HMW := Lib.hid (fun W hW => HM.out W (hbel.trans (Below.mono hW hzk)))
                cases htu : turnedF ni o0 o1 (-1) with
                | false =>
                  rw [htu] at HMW
                  have HF : Hid (R = false) := by show _ = _; rw [← HQ.out.2.1, htu]; simp
                  clear htu hk0 hk1
                  go_wp2_with fail
                  have rf00 := cell_regrown f00
                  have rf01 := cell_regrown f01
                  have rf02 := cell_regrown f02
                  have rf10 := cell_regrown f10
                  have rf11 := cell_regrown f11
                  have rf12 := cell_regrown f12
                  refine wp_region_quiet_below (by kernel_rfl) (by kernel_rfl) ?_
                  repeat (with_reducible refine wpQuiet_step (fun K hK => ?_); go_simp; first | (with_reducible refine hK _ ?_; clear hK K) | (apply Exists.intro; with_reducible refine ⟨fun _ => ?_, hK _ ?_⟩; (first | (go_at_call 70; with_reducible exact Calls.regrown_of (HMW.out _ (below_regrown wr _ _)))); clear hK K))
                  with_reducible refine wpQuiet_nil ?_
                  intro _ hw'
                  obtain ⟨⟨dq, osq⟩, hw''⟩ := hw'
                  subst hw''
                  go_wp2_with fail
                  go_ret
                  exact ⟨ret_bool HF.out.symm, HQ.out.2.2.2.1.trans ((hbel.trans ((below_regrown wr dq osq).mono hzk)).mono hwz)⟩
                | true =>
                  rw [htu] at HMW
                  obtain ⟨bb, hbb⟩ : ∃ bb, (t0 + t1 == -1) = bb := ⟨_, rfl⟩
                  have hws : IntKind.i64.wrap (t0 + t1) = t0 + t1 := IntWalk.i64_in _ (by omega)
                  have HF : Hid (R = bb) := by
                    have h1 : decide (t1 = -t0 - 1) = (t0 + t1 == -1) := by rw [Bool.eq_iff_iff, decide_eq_true_eq, beq_iff_eq]; omega
                    show _ = _
                    rw [← HQ.out.2.1, htu, HWH.out, ← hbb, h1]
                    simp [hk0, hk1]
                  clear htu hk0 hk1
                  go_wp2_with fail
                  have rf00 := cell_regrown f00
                  have rf01 := cell_regrown f01
                  have rf02 := cell_regrown f02
                  have rf10 := cell_regrown f10
                  have rf11 := cell_regrown f11
                  have rf12 := cell_regrown f12
                  refine wp_region_quiet_below (by kernel_rfl) (by kernel_rfl) ?_
                  repeat (with_reducible refine wpQuiet_step (fun K hK => ?_); go_simp; first | (with_reducible refine hK _ ?_; clear hK K) | (apply Exists.intro; with_reducible refine ⟨fun _ => ?_, hK _ ?_⟩; (first | (go_at_call 70; with_reducible exact Calls.regrown_of (HMW.out _ (below_regrown wr _ _)))); clear hK K))
                  with_reducible refine wpQuiet_nil ?_
                  intro _ hw'
                  obtain ⟨⟨dq, osq⟩, hw''⟩ := hw'
                  subst hw''
                  go_wp2_with fail
                  go_ret
                  exact ⟨ret_bool HF.out.symm, HQ.out.2.2.2.1.trans ((hbel.trans ((below_regrown wr dq osq).mono hzk)).mono hwz)⟩
              · have hk1b : (k1 == 1) = false := by simpa using hk1
                have HF : Hid (R = false) := by show _ = _; rw [← HQ.out.2.1]; simp [hk1]
                clear hk0 hk1
                go_wp2_with fail
                go_quiet (fail)
                go_wp2_with fail
                go_ret
                exact ⟨ret_bool HF.out.symm, below_drewN (HQ.out.2.2.2.1.trans (hbel.mono hwz)) _⟩
            · have hk0b : (k0 == 1) = false := by simpa using hk0
              have HF : Hid (R = false) := by show _ = _; rw [← HQ.out.2.1]; simp [hk0]
              clear hk0
              go_wp2_with fail
              go_quiet (fail)
              go_wp2_with fail
              go_ret
              exact ⟨ret_bool HF.out.symm, below_drewN (HQ.out.2.2.2.1.trans (hbel.mono hwz)) _⟩
      · have hn2b : ((n : Int) == 2) = false := by rw [beq_eq_false_iff_ne]; omega
        by_cases h3 : n = 3
        · have hn3b : ((n : Int) != 3) = false := by simp; omega
          have hn0n : 0 < n := by omega
          have hn1n : 1 < n := by omega
          have hn2n : 2 < n := by omega
          have hn1 : (1 : Int) < (n : Int) := by omega
          have hn2 : (2 : Int) < (n : Int) := by omega
          obtain ⟨r0, r1, r2, hrs⟩ : ∃ a b c, rs = [a, b, c] := by
            match rs, HS.out.2.2.2.1.trans h3 with
            | [a, b, c], _ => exact ⟨a, b, c, rfl⟩
          clear h3 h2
          obtain ⟨hri, hok, hR1, -, hst, hbw⟩ := HS.out
          rw [hrs] at hri hok hR1
          obtain ⟨g, c6, hA5, -, -, -, -⟩ := hri.form (by simp)
          injection hA5 with hA5 e56 hc56
          subst hA5
          clear e56 hc56
          have ok0 := hok r0 (by simp)
          have ok1 := hok r1 (by simp)
          have ok2 := hok r2 (by simp)
          rw [gapRows_three, HNI.out] at hR1
          have HQ := Lib.hid (And.intro hri (And.intro hR1 (And.intro hst hbw)))
          obtain ⟨P0, m0, n0, e00, e01, e02, l0, L0, ar0⟩ := OwnR.cells hri (i := 0) rfl
          obtain ⟨P1, m1, n1, e10, e11, e12, l1, L1, ar1⟩ := OwnR.cells hri (i := 1) rfl
          obtain ⟨P2, m2, n2, e20, e21, e22, l2, L2, ar2⟩ := OwnR.cells hri (i := 2) rfl
          replace e00 : wo.cell? ⟨g, 0, none⟩ = some (.slice P0 m0 n0) := e00
          replace e01 : wo.cell? ⟨g, 1, none⟩ = some (.int .i64 r0.kind) := e01
          replace e02 : wo.cell? ⟨g, 2, none⟩ = some (.int .i64 r0.to_) := e02
          replace e10 : wo.cell? ⟨g, 3, none⟩ = some (.slice P1 m1 n1) := e10
          replace e11 : wo.cell? ⟨g, 4, none⟩ = some (.int .i64 r1.kind) := e11
          replace e12 : wo.cell? ⟨g, 5, none⟩ = some (.int .i64 r1.to_) := e12
          replace e20 : wo.cell? ⟨g, 6, none⟩ = some (.slice P2 m2 n2) := e20
          replace e21 : wo.cell? ⟨g, 7, none⟩ = some (.int .i64 r2.kind) := e21
          replace e22 : wo.cell? ⟨g, 8, none⟩ = some (.int .i64 r2.to_) := e22
          have hm0 : m0 ≤ 1000 := by have := ar0.len; have := ok0.len; omega
          have hm1 : m1 ≤ 1000 := by have := ar1.len; have := ok1.len; omega
          have hm2 : m2 ≤ 1000 := by have := ar2.len; have := ok2.len; omega
          have b0 := ok0.to_
          have HMA : Hid (∀ (W : World) (bb : Bool), Below wo.heap.size wo W → turnedF ni r0.of_ r1.of_ 1 = bb → Calls Tryz.prog 70 #[.agg #[.slice P0 m0 n0, .int .i64 r0.kind, .int .i64 r0.to_], .agg #[.slice P1 m1 n1, .int .i64 r1.kind, .int .i64 r1.to_], .int .i64 1, .int .i64 (ni : Int)] W fun e w' => e = .returned (.bool bb) ∧ Below W.heap.size W w') := fun W bb hW hbb =>
            refMirrored_any P0 P1 m0 n0 m1 n1 r0.of_ r1.of_ r0.kind r0.to_ r1.kind r1.to_ 1 ni W (ar0.below stays_int (hW.mono hwz) (Nat.le_trans hwz hW.size)) (ar1.below stays_int (hW.mono hwz) (Nat.le_trans hwz hW.size)) l0 l1 hni (by omega) (by omega) (.inl rfl) ok0.of_ _ hbb
          have HMB : Hid (∀ (W : World) (bb : Bool), Below wo.heap.size wo W → turnedF ni r0.of_ r2.of_ (-1) = bb → Calls Tryz.prog 70 #[.agg #[.slice P0 m0 n0, .int .i64 r0.kind, .int .i64 r0.to_], .agg #[.slice P2 m2 n2, .int .i64 r2.kind, .int .i64 r2.to_], .int .i64 (-1), .int .i64 (ni : Int)] W fun e w' => e = .returned (.bool bb) ∧ Below W.heap.size W w') := fun W bb hW hbb =>
            refMirrored_any P0 P2 m0 n0 m2 n2 r0.of_ r2.of_ r0.kind r0.to_ r2.kind r2.to_ (-1) ni W (ar0.below stays_int (hW.mono hwz) (Nat.le_trans hwz hW.size)) (ar2.below stays_int (hW.mono hwz) (Nat.le_trans hwz hW.size)) l0 l2 hni (by omega) (by omega) (.inr rfl) ok0.of_ _ hbb
          have hgw : g < wo.heap.size := (hri.lt g rfl).2
          obtain ⟨o0, k0, t0⟩ := r0
          obtain ⟨o1, k1, t1⟩ := r1
          obtain ⟨o2, k2, t2⟩ := r2
          dsimp only at *
          clear hri hok hR1 hst hbw ok0 ok1 ok2 ar0 ar1 ar2 L0 L1 L2 HS hrs
          by_cases hk0 : k0 = 3
          · have hk0b : (k0 != 3) = false := by simpa using hk0
            by_cases hk1 : k1 = 2
            · have hk1b : (k1 != 2) = false := by simpa using hk1
              by_cases hk2 : k2 = 2
              · have hk2b : (k2 != 2) = false := by simpa using hk2
                have HK : Hid (decide (k0 = 3 ∧ k1 = 2 ∧ k2 = 2) = true) := decide_eq_true ⟨hk0, hk1, hk2⟩
                clear hk0 hk1 hk2
                have hwn : IntKind.i64.wrap (-t0) = -t0 := IntWalk.i64_in _ (by omega)
                cases ht1 : turnedF ni o0 o1 1 with
                | false =>
                  have HM1 := Lib.hid (fun W hW => HMA.out W false hW ht1)
                  have HF : Hid (R = false) := by show _ = _; rw [← HQ.out.2.1, ht1]; simp
                  clear ht1
                  go_wp2_with fail
                  have re00 := cell_regrown e00
                  have re01 := cell_regrown e01
                  have re02 := cell_regrown e02
                  have re10 := cell_regrown e10
                  have re11 := cell_regrown e11
                  have re12 := cell_regrown e12
                  have re20 := cell_regrown e20
                  have re21 := cell_regrown e21
                  have re22 := cell_regrown e22
                  refine wp_region_quiet_below (by kernel_rfl) (by kernel_rfl) ?_
                  repeat (with_reducible refine wpQuiet_step (fun K hK => ?_); go_simp; first | (with_reducible refine hK _ ?_; clear hK K) | (apply Exists.intro; with_reducible refine ⟨fun _ => ?_, hK _ ?_⟩; (first | (go_at_call 70; with_reducible exact Calls.regrown_of (HM1.out _ (below_regrown wo _ _)))); clear hK K))
                  with_reducible refine wpQuiet_nil ?_
                  intro _ hw'
                  obtain ⟨⟨dq, osq⟩, hw''⟩ := hw'
                  subst hw''
                  go_wp2_with fail
                  go_ret
                  exact ⟨ret_bool HF.out.symm, HQ.out.2.2.2.trans ((below_regrown wo dq osq).mono hwz)⟩
                | true =>
                  have HM1 := Lib.hid (fun W hW => HMA.out W true hW ht1)
                  cases ht2 : turnedF ni o0 o2 (-1) with
                  | false =>
                    have HM2 := Lib.hid (fun W hW => HMB.out W false hW ht2)
                    have HF : Hid (R = false) := by show _ = _; rw [← HQ.out.2.1, ht2]; simp
                    clear ht1 ht2
                    go_wp2_with fail
                    have re00 := cell_regrown e00
                    have re01 := cell_regrown e01
                    have re02 := cell_regrown e02
                    have re10 := cell_regrown e10
                    have re11 := cell_regrown e11
                    have re12 := cell_regrown e12
                    have re20 := cell_regrown e20
                    have re21 := cell_regrown e21
                    have re22 := cell_regrown e22
                    refine wp_region_quiet_below (by kernel_rfl) (by kernel_rfl) ?_
                    repeat (with_reducible refine wpQuiet_step (fun K hK => ?_); go_simp; first | (with_reducible refine hK _ ?_; clear hK K) | (apply Exists.intro; with_reducible refine ⟨fun _ => ?_, hK _ ?_⟩; (first | (go_at_call 70; with_reducible exact Calls.regrown_of (HM1.out _ (below_regrown wo _ _))) | (go_at_call 70; with_reducible exact Calls.regrown_of (HM2.out _ (below_regrown wo _ _)))); clear hK K))
                    with_reducible refine wpQuiet_nil ?_
                    intro _ hw'
                    obtain ⟨⟨dq, osq⟩, hw''⟩ := hw'
                    subst hw''
                    go_wp2_with fail
                    go_ret
                    exact ⟨ret_bool HF.out.symm, HQ.out.2.2.2.trans ((below_regrown wo dq osq).mono hwz)⟩
                  | true =>
                    have HM2 := Lib.hid (fun W hW => HMB.out W true hW ht2)
                    by_cases h10 : t1 = t0
                    · have h10b : (t1 == t0) = true := by simpa using h10
                      obtain ⟨bb, hbb⟩ : ∃ bb, (t2 == -t0) = bb := ⟨_, rfl⟩
                      have HF : Hid (R = bb) := by
                        have h1 : decide (t2 = -t0) = (t2 == -t0) := by rw [Bool.eq_iff_iff, decide_eq_true_eq, beq_iff_eq]
                        show _ = _
                        rw [← HQ.out.2.1, ht1, ht2, HK.out, decide_eq_true h10, h1, hbb]
                        rfl
                      clear ht1 ht2 h10
                      go_wp2_with fail
                      have re00 := cell_regrown e00
                      have re01 := cell_regrown e01
                      have re02 := cell_regrown e02
                      have re10 := cell_regrown e10
                      have re11 := cell_regrown e11
                      have re12 := cell_regrown e12
                      have re20 := cell_regrown e20
                      have re21 := cell_regrown e21
                      have re22 := cell_regrown e22
                      refine wp_region_quiet_below (by kernel_rfl) (by kernel_rfl) ?_
                      repeat (with_reducible refine wpQuiet_step (fun K hK => ?_); go_simp; first | (with_reducible refine hK _ ?_; clear hK K) | (apply Exists.intro; with_reducible refine ⟨fun _ => ?_, hK _ ?_⟩; (first | (go_at_call 70; with_reducible exact Calls.regrown_of (HM1.out _ (below_regrown wo _ _))) | (go_at_call 70; with_reducible exact Calls.regrown_of (HM2.out _ (below_regrown wo _ _)))); clear hK K))
                      with_reducible refine wpQuiet_nil ?_
                      intro _ hw'
                      obtain ⟨⟨dq, osq⟩, hw''⟩ := hw'
                      subst hw''
                      go_wp2_with fail
                      go_ret
                      exact ⟨ret_bool HF.out.symm, HQ.out.2.2.2.trans ((below_regrown wo dq osq).mono hwz)⟩
                    · have h10b : (t1 == t0) = false := by simpa using h10
                      have HF : Hid (R = false) := by show _ = _; rw [← HQ.out.2.1]; simp [h10]
                      clear ht1 ht2 h10
                      go_wp2_with fail
                      have re00 := cell_regrown e00
                      have re01 := cell_regrown e01
                      have re02 := cell_regrown e02
                      have re10 := cell_regrown e10
                      have re11 := cell_regrown e11
                      have re12 := cell_regrown e12
                      have re20 := cell_regrown e20
                      have re21 := cell_regrown e21
                      have re22 := cell_regrown e22
                      refine wp_region_quiet_below (by kernel_rfl) (by kernel_rfl) ?_
                      repeat (with_reducible refine wpQuiet_step (fun K hK => ?_); go_simp; first | (with_reducible refine hK _ ?_; clear hK K) | (apply Exists.intro; with_reducible refine ⟨fun _ => ?_, hK _ ?_⟩; (first | (go_at_call 70; with_reducible exact Calls.regrown_of (HM1.out _ (below_regrown wo _ _))) | (go_at_call 70; with_reducible exact Calls.regrown_of (HM2.out _ (below_regrown wo _ _)))); clear hK K))
                      with_reducible refine wpQuiet_nil ?_
                      intro _ hw'
                      obtain ⟨⟨dq, osq⟩, hw''⟩ := hw'
                      subst hw''
                      go_wp2_with fail
                      go_ret
                      exact ⟨ret_bool HF.out.symm, HQ.out.2.2.2.trans ((below_regrown wo dq osq).mono hwz)⟩
              · have hk2b : (k2 != 2) = true := by simpa using hk2
                have HF : Hid (R = false) := by show _ = _; rw [← HQ.out.2.1]; simp [hk2]
                clear hk0 hk1 hk2
                go_wp2_with fail
                go_ret
                exact ⟨ret_bool HF.out.symm, HQ.out.2.2.2⟩
            · have hk1b : (k1 != 2) = true := by simpa using hk1
              have HF : Hid (R = false) := by show _ = _; rw [← HQ.out.2.1]; simp [hk1]
              clear hk0 hk1
              go_wp2_with fail
              go_ret
              exact ⟨ret_bool HF.out.symm, HQ.out.2.2.2⟩
          · have hk0b : (k0 != 3) = true := by simpa using hk0
            have HF : Hid (R = false) := by show _ = _; rw [← HQ.out.2.1]; simp [hk0]
            clear hk0
            go_wp2_with fail
            go_ret
            exact ⟨ret_bool HF.out.symm, HQ.out.2.2.2⟩
        · have hn3b : ((n : Int) != 3) = true := by simp; omega
          have HF : Hid (R = false) := by
            rw [← HS.out.2.2.1]
            exact gapRows_other (by rw [HS.out.2.2.2.1]; exact h2) (by rw [HS.out.2.2.2.1]; exact h3)
          clear h2 h3
          go_wp2_with fail
          go_ret
          exact ⟨ret_bool HF.out.symm, HS.out.2.2.2.2.2⟩
end Go.Proofs.YthjfiomcpihlaaaGreat
