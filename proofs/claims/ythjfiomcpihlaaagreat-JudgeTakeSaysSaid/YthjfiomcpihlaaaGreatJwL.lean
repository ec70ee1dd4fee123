/- Walk: the reference's samesOk (JudgeWhySays). -/
import Derived.Test.YthjfiomcpihlaaaGreatJwK
import Derived.Test.YthjfiomcpihlaaaGreatJuEF
import Derived.Deep.RegionLaw
import Derived.Lib.QuietBelow
namespace Go.Proofs.YthjfiomcpihlaaaGreat
open Go.RowKit

set_option maxRecDepth 100000 in
set_option maxHeartbeats 8000000 in
theorem refSames_any (G : Nat) (A1 A2 A3 : Option Addr) (c1 c2 c3 : Nat) (ts : List TermD) (ints : List Bool) (ats : List AtomD) (A : Option Addr) (n c : Nat) (lits : List Int) (w : World) (h : RfR w w.heap.size G A1 c1 A2 c2 A3 c3 ts ints ats)
    (hlits : IntsB w w.heap.size A n lits) (hl : ∀ l ∈ lits, LitIn ats.length l) (hn : n ≤ 1000) (hnc : n ≤ c) (hg : GoodTs ts) (hgs : GoodSame ts.length ats) (hts : ts.length ≤ 1000) (hall : allK ats 2 lits = true) (R : Bool) (hR : sameF ts ats lits = R) :
    Calls Tryz.prog 38 #[.pointer (some ⟨G, 0, none⟩), .slice A n c] w fun e w' => e = .returned (.bool R) ∧ Below w.heap.size w w' := by
  have H := Lib.hid (And.intro h (And.intro hlits (And.intro hl (And.intro hg (And.intro hgs hts)))))
  have HA := Lib.hid hall
  have HR := Lib.hid hR
  have hGl := h.lt
  have HF := Lib.hid (And.intro field_a field_b)
  have HSW : Hid (∀ W (y : Int), Below w.heap.size w W → LitIn ats.length y → Calls Tryz.prog 64 #[.pointer (some ⟨G, 0, none⟩), .int .i64 y] W (AtomP w.heap.size (atomAt ats y) W)) := fun W y hW hy => refAtomOf_any w.heap.size G A1 A2 A3 c1 c2 c3 ts ints ats y W (h.later hW) hy
  clear h hlits hl hg hgs hts hall hR
  go_enter Tryz.func38, Tryz.ntmps38
  go_wp2_with fail
  go_loopw [5, 6] (fun s5 s6 wr => ∃ j : Nat, s6 = .int .i64 (j : Int) ∧ j ≤ n ∧ Hid (OwnV VPair 85 2 wr w.heap.size (fun _ => False) s5 (pairsOf ats (lits.take j)) ∧ Below w.heap.size w wr)) (fun _ s _ => n - (intOf s).toNat)
  case atStart => exact ⟨0, rfl, Nat.zero_le _, OwnV.none_ _ _ _ _ _ _, Below.refl _ _⟩
  case round =>
    obtain ⟨j, rfl, hj, HJ⟩ := hrel
    obtain ⟨A5, c5, rfl, hc5, hc5m⟩ := HJ.out.1.len
    unfold maxLen at hc5m
    have hwz := HJ.out.2.size
    by_cases hlt : j < n
    · have hltI : (j : Int) < (n : Int) := by omega
      obtain ⟨b, off, hx, rfl, hb, hcell, hlo, hhi⟩ := ints_get (H.out.2.1.below stays_int HJ.out.2 (Nat.le_refl _)) hlt
      have hlm := List.getElem_mem hx
      have hlit := H.out.2.2.1 _ hlm
      have hts := take_snoc_l hx
      obtain ⟨y, hy⟩ : ∃ y, lits[j] = y := ⟨_, rfl⟩
      rw [hy] at hcell hlit hts hlm
      have hz2 : (atomAt ats y).kind = 2 := by
        have h1 := HA.out
        unfold allK at h1
        exact of_decide_eq_true (List.all_eq_true.1 h1 y hlm)
      have hgs2 := H.out.2.2.2.2.1 _ (atomAt_mem hlit) hz2
      have hts1 := H.out.2.2.2.2.2
      have hC := fun W hW => HSW.out W y hW hlit
      obtain ⟨z, hz⟩ : ∃ z, atomAt ats y = z := ⟨_, rfl⟩
      rw [hz] at hC hgs2
      have HIZ : Hid (I64 z.a ∧ I64 z.b) := ⟨by unfold I64; omega, by unfold I64; omega⟩
      have HC := Lib.hid hC
      have HT := Lib.hid (And.intro hts hz)
      have hpl : (pairsOf ats (lits.take j)).length ≤ n := Nat.le_trans (pairsOf_len _ _) (by simp; omega)
      obtain ⟨m, hm⟩ : ∃ m, (pairsOf ats (lits.take j)).length = m := ⟨_, rfl⟩
      rw [hm] at HJ hc5 hpl ⊢
      have HM := Lib.hid hm
      clear hy hlo hhi hlm hlit hts hC hz2 hgs2 hts1 hz hm hx
      by_cases hneg : y < 0
      · have hbw : b < wr.heap.size := by omega
        have HFA : Hid (∀ (A : Option Addr) (n c : Nat) (w : World), (Instr.field 47 (.agg #[.int .i64 z.kind, .int .i64 z.a, .int .i64 z.b, .slice A n c, .int .i64 z.row.kind, .int .i64 z.row.to_]) 1).run Tryz.prog w = .ok (.int .i64 z.a) w) := fun A n c w => HF.out.1 z A n c w
        have hfa := HFA.out
        have hfb := HF.out.2 z
        go_upto_region 6 with fail
        go_region_law (first
          | (refine step_append_item (by rfl) _ _ _ (by rfl) rowPairs tells_pair (v := .slice A5 m c5) (xs := pairsOf ats (lits.take j)) (base := w.heap.size) (S := fun _ => False) (by rfl) (.inl (pair_later HJ.out.1 (only_of_below (HB2.out.alloc (HB2.out.size) _) none))) (g := w2.heap.size) (cs := #[.int .i64 z.a, .int .i64 z.b]) (by rfl) (Blk.new w2 _ _) (y := (z.a, z.b)) ⟨rfl, HIZ.out⟩ (fun b h => False.elim h) (by rw [HM.out]; unfold maxLen; omega) (by rw [HM.out]; omega) (by have := HB2.out.size; simp; omega) ?_
             intro ga ca w3 hown3 hgrow3 hat3 hlt3
             have HB3 := Lib.hid (And.intro hown3 (And.intro hgrow3 hat3))
             clear hown3 hgrow3 hat3 hlt3)
          | (go_simp
             go_at_call 64
             with_reducible refine (HC.out w1 (HJ.out.2.trans (HB1.out.mono hwz))).mono ?_
             rintro e w2 ⟨A8, n8, c8, rfl, har2, hnc2, hcm2, hbx2⟩
             have HB2 : Hid (Below wr.heap.size wr w2) := HB1.out.trans (hbx2.mono HB1.out.size)
             clear har2 hnc2 hcm2 hbx2)
          | (go_simp
             go_at_call 64
             with_reducible refine (HC.out wr.drew (HJ.out.2.trans (below_drewN (Below.refl _ _) 1))).mono ?_
             rintro e w1 ⟨A7, n7, c7, rfl, har1, hnc1, hcm1, hbx1⟩
             have HB1 : Hid (Below wr.heap.size wr w1) := below_of_drew hbx1
             have f1 : w1.cell? ⟨b, off + j, none⟩ = some (.int .i64 y) := (HB1.out.cell (p := ⟨b, off + j, none⟩) hbw).trans hcell
             clear har1 hnc1 hcm1 hbx1)
          | fail)
        all_goals
          go_wp2_with fail
          go_roundw
          case rel =>
            have hbA := HB2.out.alloc HB2.out.size (.cells #[.int .i64 z.a, .int .i64 z.b] 85)
            refine ⟨j + 1, by go_num, by omega, ?_, below_then (HJ.out.2.trans (hbA.mono hwz)) HB3.out.2.1 (by have := HB2.out.size; simp; omega) (fun x hx => (HJ.out.1.lt x hx).1)⟩
            rw [HT.out.1, pairsOf_neg hneg, HT.out.2]
            exact HB3.out.1
          case measure => simp [intOf]; omega
      · go_wp2_with fail
        go_roundw
        case rel =>
          refine ⟨j + 1, by go_num, by omega, ?_, HJ.out.2⟩
          rw [HT.out.1, pairsOf_pos (by omega)]
          exact HJ.out.1
        case measure => simp [intOf]; omega
    · obtain rfl : j = n := by omega
      have hln := H.out.2.1.len
      have hall2 := HA.out
      unfold allK at hall2
      have hkind : ∀ y ∈ lits, (atomAt ats y).kind = 2 := fun y hy => of_decide_eq_true (List.all_eq_true.1 hall2 y hy)
      have hab : ∀ y ∈ lits, 0 ≤ (atomAt ats y).a ∧ (atomAt ats y).a < ts.length ∧ 0 ≤ (atomAt ats y).b ∧ (atomAt ats y).b < ts.length := fun y hy => by
        have := H.out.2.2.2.2.1 _ (atomAt_mem (H.out.2.2.1 y hy)) (hkind y hy); omega
      have hgp : GoodPs ts.length (pairsOf ats lits) := fun p hp => by
        obtain ⟨y, hy, rfl⟩ := List.mem_map.1 hp
        exact hab y (List.mem_filter.1 hy).1
      have hown := HJ.out.1
      rw [List.take_of_length_le (by omega)] at hown hc5 ⊢
      have hlt5 := hown.lt
      obtain ⟨A6, c6, he6, -, -, har5⟩ := OwnV.reads (E := AtPair) tells_pair (fun _ _ _ _ _ h => atV_pair h) hown (S' := fun b => b < wr.heap.size) (fun b h => False.elim h) (fun g hg => (hlt5 g hg).2)
      injection he6 with e1 e2 e3
      subst e1 e3
      have hst := H.out.1.later HJ.out.2
      have hcla := refClosed_any A1 c1 ts A5 _ c5 (pairsOf ats lits) wr (hst.t.below stays_term (Below.refl _ _) hst.hB) H.out.2.2.2.2.2 hst.l1 H.out.2.2.2.1 har5 (by have := pairsOf_len ats lits; omega) hgp
      obtain ⟨m, hm⟩ : ∃ m, (pairsOf ats lits).length = m := ⟨_, rfl⟩
      rw [hm] at hcla ⊢
      have q0 : wr.cell? ⟨G, 0, none⟩ = some (.slice A1 ts.length c1) := hst.q0
      have HCL := Lib.hid hcla
      have HAB := Lib.hid hab
      have HSF : Hid (lits.any (fun l => decide (0 < l) && congB ts (pairsOf ats lits) (atomAt ats l).a.toNat (atomAt ats l).b.toNat) = sameF ts ats lits) := by
        show _ = _
        unfold sameF
        rw [HA.out, Bool.true_and]
      have HBW := Lib.hid HJ.out.2
      clear hln hall2 hkind hab hgp hown hlt5 har5 hst hcla hm hc5 HJ
      rw [HR.out] at HSF
      go_wp2_with fail
      refine HCL.out.mono ?_
      rintro e w7 ⟨A7, c7, g, rbs, one, rfl, hc7, hA7, hTab, hone, hb7⟩
      obtain ⟨nt, hnt⟩ : ∃ nt, ts.length = nt := ⟨_, rfl⟩
      rw [hnt] at HAB hc7 hA7 hTab hone ⊢
      have hntn : nt ≤ 1000 := by rw [← hnt]; exact H.out.2.2.2.2.2
      have HT7 := Lib.hid (And.intro hTab (And.intro hone (And.intro hA7 (HBW.out.trans (hb7.mono hwz)))))
      have hz7 := hb7.size
      have HB7 := Lib.hid hb7
      clear hTab hone hb7 hnt hA7
      go_wp2_with fail
      go_loopw [8] (fun s8 wr => ∃ i : Nat, s8 = .int .i64 (i : Int) ∧ i ≤ j ∧ Hid ((lits.drop i).any (fun l => decide (0 < l) && congB ts (pairsOf ats lits) (atomAt ats l).a.toNat (atomAt ats l).b.toNat) = R) ∧ Below w7.heap.size w7 wr) (fun s8 _ => j - (intOf s8).toNat)
      case atStart => exact ⟨0, rfl, Nat.zero_le _, HSF, Below.refl _ _⟩
      case round =>
        obtain ⟨wo, rfl⟩ : ∃ wo : World, wo = wr := ⟨_, rfl⟩
        obtain ⟨i, rfl, hi, HI, hbel⟩ := hrel
        have hzr := hbel.size
        have hz0 := HT7.out.2.2.2.size
        have HBR := Lib.hid (HT7.out.2.2.2.trans (hbel.mono hz0))
        by_cases hlt2 : i < j
        · have hltI : (i : Int) < (j : Int) := by omega
          obtain ⟨b, off, hx, rfl, hb, hcell, hlo, hhi⟩ := ints_get (H.out.2.1.below stays_int HBR.out (Nat.le_refl _)) hlt2
          have hlm := List.getElem_mem hx
          have hlit := H.out.2.2.1 _ hlm
          have e1 := HI.out
          rw [drop_cons hx, List.any_cons] at e1
          obtain ⟨y, hy⟩ : ∃ y, lits[i] = y := ⟨_, rfl⟩
          rw [hy] at hcell hlit e1 hlm
          have hab := HAB.out y hlm
          have hC := fun W hW => HSW.out W y hW hlit
          obtain ⟨z, hz⟩ : ∃ z, atomAt ats y = z := ⟨_, rfl⟩
          rw [hz] at hC hab e1
          by_cases hpos : 0 < y
          · have hpb : decide (0 < y) = true := by simpa using hpos
            obtain ⟨za, hza⟩ : ∃ a : Nat, z.a = a := ⟨z.a.toNat, by omega⟩
            obtain ⟨zb, hzb⟩ : ∃ b : Nat, z.b = b := ⟨z.b.toNat, by omega⟩
            rw [hza, hzb, Int.toNat_natCast, Int.toNat_natCast, hpb, Bool.true_and] at e1
            rw [hza, hzb] at hab
            have han : za < nt := by omega
            have hbn : zb < nt := by omega
            have haI : (za : Int) < (nt : Int) := by omega
            have hbI : (zb : Int) < (nt : Int) := by omega
            obtain rfl := HT7.out.2.2.1 (by omega)
            obtain ⟨ra, -, ga, ca0, -, la, -⟩ := (HT7.out.1.later hbel).get han
            have ca := ca0 zb hbn
            obtain ⟨v, hv⟩ : ∃ v, one za zb = v := ⟨_, rfl⟩
            rw [← HT7.out.2.1 za zb han hbn, hv] at e1
            rw [hv] at ca
            have HE := Lib.hid e1
            have HC := Lib.hid hC
            have hfa : ∀ (A : Option Addr) (n c : Nat) (w : World), (Instr.field 47 (.agg #[.int .i64 z.kind, .int .i64 z.a, .int .i64 z.b, .slice A n c, .int .i64 z.row.kind, .int .i64 z.row.to_]) 1).run Tryz.prog w = .ok (.int .i64 (za : Int)) w := fun A n c w => by rw [HF.out.1 z A n c w, hza]
            have hfb : ∀ (A : Option Addr) (n c : Nat) (w : World), (Instr.field 47 (.agg #[.int .i64 z.kind, .int .i64 z.a, .int .i64 z.b, .slice A n c, .int .i64 z.row.kind, .int .i64 z.row.to_]) 2).run Tryz.prog w = .ok (.int .i64 (zb : Int)) w := fun A n c w => by rw [HF.out.2 z A n c w, hzb]
            have hbw : b < wo.heap.size := by omega
            have hgw : g < wo.heap.size := block_lt_of_cell ga
            clear hC e1 hy hlo hhi hlm hlit hx hz hza hzb hab ca0 hv
            go_upto_region 11 with fail
            go_region_held3 (fun w' => w'.cell? ⟨b, off + i, none⟩ = some (.int .i64 y) ∧ w'.cell? ⟨g, za, none⟩ = some (.slice (some ⟨ra, 0, none⟩) nt nt) ∧ w'.cell? ⟨ra, zb, none⟩ = some (.bool v))
              (go_keep)
              (first
                | (go_simp
                   go_at_call 64
                   with_reducible refine (HC.out wo.drew (HBR.out.trans ((below_drewN (Below.refl wo.heap.size wo) 1).mono (by omega)))).mono ?_
                   rintro e w1 ⟨A, n1, c1, rfl, har1, hnc1, hcm1, hbx1⟩
                   have hbw1 : Below wo.heap.size wo w1 := below_of_drew hbx1
                   have f1 : w1.cell? ⟨b, off + i, none⟩ = some (.int .i64 y) := (hbw1.cell (p := ⟨b, off + i, none⟩) hbw).trans hcell
                   have f2 : w1.cell? ⟨g, za, none⟩ = some (.slice (some ⟨ra, 0, none⟩) nt nt) := (hbw1.cell (p := ⟨g, za, none⟩) hgw).trans ga
                   have f3 : w1.cell? ⟨ra, zb, none⟩ = some (.bool v) := (hbw1.cell (p := ⟨ra, zb, none⟩) la).trans ca
                   have HB1 := Lib.hid hbw1
                   clear har1 hnc1 hcm1 hbx1 hbw1)
                | (go_simp
                   go_at_call 64
                   with_reducible refine (HC.out w1 (HBR.out.trans (HB1.out.mono (by omega)))).mono ?_
                   rintro e w2 ⟨A, n1, c1, rfl, har1, hnc1, hcm1, hbx1⟩
                   have hbw2 : Below wo.heap.size wo w2 := HB1.out.trans (hbx1.mono HB1.out.size)
                   have k1 : w2.cell? ⟨b, off + i, none⟩ = some (.int .i64 y) := (hbw2.cell (p := ⟨b, off + i, none⟩) hbw).trans hcell
                   have k2 : w2.cell? ⟨g, za, none⟩ = some (.slice (some ⟨ra, 0, none⟩) nt nt) := (hbw2.cell (p := ⟨g, za, none⟩) hgw).trans ga
                   have k3 : w2.cell? ⟨ra, zb, none⟩ = some (.bool v) := (hbw2.cell (p := ⟨ra, zb, none⟩) la).trans ca
                   have HB2 := Lib.hid hbw2
                   clear har1 hnc1 hcm1 hbx1 hbw2)
                | fail)
            all_goals
              have HE3 := Lib.hid (HBR.out.trans (HB2.out.mono (Nat.le_trans hz0 hzr)))
              have HE4 := Lib.hid (hbel.trans (HB2.out.mono hzr))
              cases v with
              | true =>
                have h1 := HE.out
                rw [Bool.true_or] at h1
                subst h1
                go_wp2_with fail
                go_ret
                exact ⟨rfl, HE3.out⟩
              | false =>
                have h1 := HE.out
                rw [Bool.false_or] at h1
                have H1 := Lib.hid h1
                clear h1
                go_wp2_with fail
                go_roundw
                case rel => exact ⟨i + 1, by go_num, by omega, H1, HE4.out⟩
                case measure => simp [intOf]; omega
          · have hpb : decide (0 < y) = false := by simpa using hpos
            rw [hpb, Bool.false_and, Bool.false_or] at e1
            have HE := Lib.hid e1
            clear hC hab e1 hlit hlm hy hpos
            go_wp2_with fail
            go_quiet (fail)
            go_wp2_with fail
            go_roundw
            case rel => exact ⟨i + 1, by go_num, by omega, HE, below_drewN hbel _⟩
            case measure => simp [intOf]; omega
        · obtain rfl : j = i := by omega
          have e1 := HI.out
          rw [List.drop_of_length_le (by have := H.out.2.1.len; omega), List.any_nil] at e1
          subst e1
          go_wp2_with fail
          go_ret
          exact ⟨rfl, HBR.out⟩
end Go.Proofs.YthjfiomcpihlaaaGreat
