/- Walk: the reference's rowsOk (JudgeWhySays; printed by genJwQ.py). -/
import Derived.Test.YthjfiomcpihlaaaGreatJwOP
import Derived.Deep.DeepCutAuto
import Derived.Deep.CutRange
namespace Go.Proofs.YthjfiomcpihlaaaGreat
open Go.RowKit

theorem field_rowQ (x : AtomD) (A : Option Addr) (n c : Nat) (w : World) : (Instr.field 47 (.agg #[.int .i64 x.kind, .int .i64 x.a, .int .i64 x.b, .slice A n c, .int .i64 x.row.kind, .int .i64 x.row.to_]) 3).run Tryz.prog w = .ok (.agg #[.slice A n c, .int .i64 x.row.kind, .int .i64 x.row.to_]) w := by kernel_rfl

theorem refTimesS (a b q : FracD) (w : World) (ha : fracGood a.num a.den = true) (hb : fracGood b.num b.den = true) (h : timesQ a b = some q) :
    Calls Tryz.prog 67 #[.agg #[.int .i64 a.num, .int .i64 a.den], .agg #[.int .i64 b.num, .int .i64 b.den]] w fun e w' => e = .returned (.tuple #[.agg #[.int .i64 q.num, .int .i64 q.den], .bool true]) ∧ Below w.heap.size w w' := refTimes_anyJ a b (some q) w ha hb h
theorem refTimesN (a b : FracD) (w : World) (ha : fracGood a.num a.den = true) (hb : fracGood b.num b.den = true) (h : timesQ a b = none) :
    Calls Tryz.prog 67 #[.agg #[.int .i64 a.num, .int .i64 a.den], .agg #[.int .i64 b.num, .int .i64 b.den]] w fun e w' => e = .returned (.tuple #[.agg #[.int .i64 0, .int .i64 0], .bool false]) ∧ Below w.heap.size w w' := refTimes_anyJ a b none w ha hb h
theorem refAddS (a b q : FracD) (w : World) (ha : fracGood a.num a.den = true) (hb : fracGood b.num b.den = true) (h : addQ a b = some q) :
    Calls Tryz.prog 68 #[.agg #[.int .i64 a.num, .int .i64 a.den], .agg #[.int .i64 b.num, .int .i64 b.den]] w fun e w' => e = .returned (.tuple #[.agg #[.int .i64 q.num, .int .i64 q.den], .bool true]) ∧ Below w.heap.size w w' := refAdd_anyJ a b (some q) w ha hb h
theorem refAddN (a b : FracD) (w : World) (ha : fracGood a.num a.den = true) (hb : fracGood b.num b.den = true) (h : addQ a b = none) :
    Calls Tryz.prog 68 #[.agg #[.int .i64 a.num, .int .i64 a.den], .agg #[.int .i64 b.num, .int .i64 b.den]] w fun e w' => e = .returned (.tuple #[.agg #[.int .i64 0, .int .i64 0], .bool false]) ∧ Below w.heap.size w w' := refAdd_anyJ a b none w ha hb h
theorem list_rep {i : Nat} : (List.replicate i (⟨0, 1⟩ : FracD)) ++ [⟨0, 1⟩] = List.replicate (i + 1) ⟨0, 1⟩ := by rw [List.replicate_succ']
set_option maxRecDepth 100000 in
set_option maxHeartbeats 16000000 in
theorem refRows_any (G : Nat) (A1 A2 A3 : Option Addr) (c1 c2 c3 : Nat) (ts : List TermD) (ints : List Bool) (ats : List AtomD) (L : Option Addr) (nl cl : Nat) (lits : List Int) (M : Option Addr) (nm cm : Nat) (nums : List FracD) (w : World) (h : RfR w w.heap.size G A1 c1 A2 c2 A3 c3 ts ints ats)
    (hlits : IntsB w w.heap.size L nl lits) (hl : ∀ l ∈ lits, LitIn ats.length l) (hn : nl ≤ 1000) (hnums : ArrB AtFrac 2 w w.heap.size M nm nums) (hnm : nm = nl) (hgr : GoodRows ints.length ats) (hni : ints.length ≤ 1000) (hall : allK ats 3 lits = true) (R : Bool) (hR : rowsF ints.length ats lits nums = R) :
    Calls Tryz.prog 39 #[.pointer (some ⟨G, 0, none⟩), .slice L nl cl, .slice M nm cm] w fun e w' => e = .returned (.bool R) ∧ Below w.heap.size w w' := by
  obtain ⟨n, hnn⟩ : ∃ n, ints.length = n := ⟨_, rfl⟩
  rw [hnn] at hR hgr hni
  obtain ⟨SF, hSF⟩ : ∃ SF, sumF ats (sum0 n) lits nums = SF := ⟨_, rfl⟩
  have hRN : SF = none → R = false := fun e => by rw [← hR]; unfold rowsF; rw [hSF, e, Bool.and_false]
  have hRY : ∀ t, SF = some t → sumOk t = R := fun t e => by
    rw [← hR]
    unfold rowsF
    rw [hSF, e, hall, decide_eq_true (by rw [hnums.len, hlits.len, hnm])]
    simp
  have q1 : w.cell? ⟨G, 1, none⟩ = some (.slice A2 n c2) := by rw [← hnn]; exact h.q1
  have hGl := h.lt
  subst hnm
  have H := Lib.hid (And.intro h (And.intro hlits (And.intro hl (And.intro hnums (And.intro hgr (And.intro hRN (And.intro hRY hSF)))))))
  have HA := Lib.hid (allK_mem hall)
  have HSW : Hid (∀ W (y : Int), Below w.heap.size w W → LitIn ats.length y → Calls Tryz.prog 64 #[.pointer (some ⟨G, 0, none⟩), .int .i64 y] W (AtomP w.heap.size (atomAt ats y) W)) := fun W y hW hy => refAtomOf_any w.heap.size G A1 A2 A3 c1 c2 c3 ts ints ats y W (h.later hW) hy
  have hln := hnums.len
  clear h hlits hl hnums hgr hRN hRY hall hR hSF hnn
  go_enter Tryz.func39, Tryz.ntmps39
  go_wp2_with fail
  go_loopw [8, 9] (fun s8 s9 wr => ∃ i : Nat, s9 = .int .i64 (i : Int) ∧ i ≤ n ∧ Hid (OwnF wr w.heap.size s8 (List.replicate i ⟨0, 1⟩) ∧ Below w.heap.size w wr)) (fun _ s9 _ => n - (intOf s9).toNat)
  case atStart => exact ⟨0, rfl, Nat.zero_le _, OwnV.none_ _ _ _ _ _ _, Below.refl _ _⟩
  case round =>
    obtain ⟨i, rfl, hi, HI⟩ := hrel
    obtain ⟨A8, c8, rfl, hc8, hc8m⟩ := HI.out.1.len
    rw [List.length_replicate] at HI hc8 ⊢
    unfold maxLen at hc8m
    have hz : w.heap.size ≤ wr.heap.size := HI.out.2.size
    by_cases hlt : i < n
    · have hltI : (i : Int) < (n : Int) := by omega
      have hba : Below wr.heap.size wr (wr.alloc (.cells #[.int .i64 0, .int .i64 1] 89)) := (Below.refl _ _).alloc (Nat.le_refl _) _
      have HN := Lib.hid (And.intro (Blk.new wr 89 #[.int .i64 0, .int .i64 1]) (And.intro (frac_later HI.out.1 (only_of_below hba none) (by cases A8 <;> simp [Value.ownBlock])) (HI.out.2.trans (hba.mono hz))))
      clear hba
      go_wp2_with (at_builtin; (refine wpList_append_item rfl _ _ _ rfl rowFracsJ tells_frac (v := .slice A8 i c8) (xs := List.replicate i ⟨0, 1⟩) (base := w.heap.size) (S := fun _ => False) rfl HN.out.2.1 (g := wr.heap.size) (cs := #[.int .i64 0, .int .i64 1]) rfl HN.out.1 (y := ⟨0, 1⟩) ⟨rfl, ⟨by simp, by simp⟩, ⟨by simp, by simp⟩⟩ (fun b h => h.elim) (by rw [List.length_replicate]; unfold maxLen; omega) (by rw [List.length_replicate]; omega) (by simp; omega) ?_); intro v' w6 hown6 hgrow6 hat6; have HB6 := Lib.hid (And.intro hown6 hgrow6); clear hown6 hgrow6 hat6)
      go_roundw
      case rel =>
        refine ⟨i + 1, by go_num, by omega, by rw [← list_rep]; exact HB6.out.1, below_then HN.out.2.2 HB6.out.2 (by simp; omega) (fun x hx => (HI.out.1.lt x hx).1)⟩
      case measure => simp [intOf]; omega
    · obtain rfl : n = i := by omega
      obtain ⟨X0, hX0⟩ : ∃ X, wr.alloc (.cells #[.int .i64 0, .int .i64 1] 89) = X := ⟨_, rfl⟩
      have hba : Below wr.heap.size wr (wr.alloc (.cells #[.int .i64 0, .int .i64 1] 89)) := (Below.refl _ _).alloc (Nat.le_refl _) _
      have HS0 : Hid (SumR X0 w.heap.size wr.heap.size n (.slice A8 n c8) (List.replicate n ⟨0, 1⟩) ⟨0, 1⟩ ∧ Below w.heap.size w X0) := by
        rw [hX0] at hba
        refine ⟨⟨by rw [← hX0]; exact Blk.new wr _ _, frac_later HI.out.1 (only_of_below hba none) (by cases A8 <;> simp [Value.ownBlock]), List.length_replicate, fun e => by have := (HI.out.1.lt _ e).2; omega, hz, fun q hq => ?_, by decide⟩, HI.out.2.trans (hba.mono hz)⟩
        rw [(List.mem_replicate.1 hq).2]
        decide
      have hA8 : 0 < n → ∃ g, A8 = some ⟨g, 0, none⟩ := fun h => by
        obtain ⟨g, c, e, -, hgw, -⟩ := HI.out.1.form (by rw [List.length_replicate]; exact h)
        injection e with e
        exact ⟨g, e⟩
      have HA8 := Lib.hid hA8
      obtain ⟨gt, hgt⟩ : ∃ gt, wr.heap.size = gt := ⟨_, rfl⟩
      rw [hgt] at HS0
      have HX0 := Lib.hid hX0
      have HGT := Lib.hid hgt
      have hl1 := hlt
      clear hba hA8 hX0 hgt HI hlt hl1 hi hz
      go_upto_region 8 with fail
      rw [HX0.out, HGT.out]
      clear HX0 HGT
      go_wp2_with fail
      go_loopw [11, 12] (fun s11 s12 wr => ∃ (i : Nat) (t : SumD), s12 = .int .i64 (i : Int) ∧ s11 = .bool t.less ∧ i ≤ nm ∧ Hid (SumR wr w.heap.size gt n (.slice A8 n c8) t.of_ t.to_ ∧ sumF ats t (lits.drop i) (nums.drop i) = SF ∧ Below w.heap.size w wr)) (fun _ s12 _ => nm - (intOf s12).toNat)
      case atStart => exact ⟨0, sum0 n, rfl, rfl, Nat.zero_le _, HS0.out.1, H.out.2.2.2.2.2.2.2, HS0.out.2⟩
      case round =>
        clear HS0
        obtain ⟨i, t, rfl, rfl, hi, HI⟩ := hrel
        have hzr := HI.out.2.2.size
        by_cases hlt : i < nm
        · have hltI : (i : Int) < (nm : Int) := by omega
          obtain ⟨b, off, hx, rfl, hb, hcell, hlo, hhi⟩ := ints_get (H.out.2.1.below stays_int HI.out.2.2 (Nat.le_refl _)) hlt
          obtain ⟨bm, offm, hxm, rfl, hbm, ⟨hm0, im0⟩, hm1, im1⟩ := Arr.get (H.out.2.2.2.1.below stays_frac HI.out.2.2 (Nat.le_refl _)) hlt
          have hlm := List.getElem_mem hx
          have hlit := H.out.2.2.1 _ hlm
          have hk3 := HA.out _ hlm
          have e1 := HI.out.2.1
          rw [drop_cons hx, drop_cons hxm, sumF] at e1
          generalize lits[i] = y at hcell hlit hlo hhi hlm hk3 e1
          generalize nums[i] = m at hm0 hm1 im0 im1 e1
          obtain ⟨mn, md⟩ := m
          dsimp only at hm0 hm1 im0 im1 e1
          have hrok := H.out.2.2.2.2.1 _ (atomAt_mem hlit) hk3
          have hC := HSW.out wr y HI.out.2.2 hlit
          obtain ⟨z, hzz⟩ : ∃ z, atomAt ats y = z := ⟨_, rfl⟩
          rw [hzz] at hC hrok e1
          have HC := Lib.hid hC
          have hfr := field_rowQ z
          have HROK := Lib.hid hrok
          have H1 := Lib.hid e1
          have hmI : I64 mn ∧ I64 md := ⟨im0, im1⟩
          clear hlit hk3 hC hzz hlm hrok e1 hlo hhi im0 im1
          go_upto_region 13 with (refine HC.out.mono ?_; rintro e w7 ⟨Az, nz, cz, rfl, har, hnc, hcm, hb7⟩; have HB7 := Lib.hid (And.intro har (And.intro hnc (And.intro hcm hb7))); clear har hnc hcm hb7)
          obtain ⟨X, hX⟩ : ∃ X, w7.alloc (.cells #[.slice Az nz cz, .int .i64 z.row.kind, .int .i64 z.row.to_] 45) = X := ⟨_, rfl⟩
          have hbX : Below wr.heap.size wr X := by rw [← hX]; exact HB7.out.2.2.2.alloc HB7.out.2.2.2.size _
          have hkX : Blk X w7.heap.size 45 #[.slice Az nz cz, .int .i64 z.row.kind, .int .i64 z.row.to_] := by rw [← hX]; exact Blk.new w7 _ _
          have hz7 := HB7.out.2.2.2.size
          obtain ⟨gr, hgr⟩ : ∃ gr, w7.heap.size = gr := ⟨_, rfl⟩
          rw [hgr] at hkX hz7
          rw [hX, hgr]
          have x0 : X.cell? ⟨gr, 0, none⟩ = some (.slice Az nz cz) := hkX.cell 0
          have x1 : X.cell? ⟨gr, 1, none⟩ = some (.int .i64 z.row.kind) := hkX.cell 1
          have x2 : X.cell? ⟨gr, 2, none⟩ = some (.int .i64 z.row.to_) := hkX.cell 2
          have hbw : b < wr.heap.size := by omega
          have hbmw : bm < wr.heap.size := by omega
          have xl : X.cell? ⟨b, off + i, none⟩ = some (.int .i64 y) := (hbX.cell (p := ⟨b, off + i, none⟩) hbw).trans hcell
          have xm0 : X.cell? ⟨bm, offm + i * 2, none⟩ = some (.int .i64 mn) := (hbX.cell (p := ⟨bm, offm + i * 2, none⟩) hbmw).trans hm0
          have xm1 : X.cell? ⟨bm, offm + i * 2 + 1, none⟩ = some (.int .i64 md) := (hbX.cell (p := ⟨bm, offm + i * 2 + 1, none⟩) hbmw).trans hm1
          have HX : Hid (SumR X w.heap.size gt n (.slice A8 n c8) t.of_ t.to_ ∧ Below w.heap.size w X ∧ Blk X gr 45 #[.slice Az nz cz, .int .i64 z.row.kind, .int .i64 z.row.to_] ∧ IntsB X w.heap.size Az nz z.row.of_ ∧ nz ≤ cz) :=
            ⟨HI.out.1.later hbX, HI.out.2.2.trans (hbX.mono hzr), hkX, HB7.out.1.below stays_int (hbX.mono hzr) (Nat.le_refl _), HB7.out.2.1⟩
          have hgrw : wr.heap.size ≤ gr := hz7
          have HIT := Lib.hid HI.out.1.len
          have HGL : Hid ((∀ g, (Value.slice A8 n c8).ownBlock = some g → g < gr) ∧ gt < gr) := ⟨fun g hg => Nat.lt_of_lt_of_le (HI.out.1.own.lt g hg).2 hgrw, Nat.lt_of_lt_of_le HI.out.1.blk.lt hgrw⟩
          clear hX hbX hkX hgr hcell hm0 hm1 hfr HC HB7 HI HSW hz7
          obtain ⟨zk, za, zb, ⟨rof, rk, rt⟩⟩ := z
          dsimp only at *
          have HTN : Hid (takeF t ⟨rof, rk, rt⟩ (decide (0 < y)) ⟨mn, md⟩ = none → R = false) := fun e => by
            refine H.out.2.2.2.2.2.1 ?_
            rw [← H1.out, e]
            split <;> rfl
          have hGD := good_anyJ mn md
          by_cases hA : rk = 3 ∧ 0 < y
          · obtain ⟨hk, hy⟩ := hA
            have hkb : (rk == 3) = true := by simpa using hk
            have hyb : decide (0 < y) = true := by simpa using hy
            have HF : Hid (R = false) := HTN.out (by rw [hyb]; exact takeF_no1 hk)
            clear hk hy hGD
            go_wp2_with fail
            go_ret
            exact ⟨ret_bool HF.out.symm, HX.out.2.1⟩
          · have hAB : ((rk == 3) && decide (0 < y)) = false := by
              rw [Bool.and_eq_false_iff]
              by_cases hk : rk = 3
              · right; simp; have := fun h => hA ⟨hk, h⟩; omega
              · left; simpa using hk
            cases hgd : fracGood mn md with
            | false =>
              have HF : Hid (R = false) := by
                refine H.out.2.2.2.2.2.1 ?_
                rw [← H1.out, if_neg (by rw [hgd]; simp)]
              rw [hgd] at hGD
              have HG := Lib.hid hGD
              clear hGD hgd
              by_cases hk : rk = 3
              · have hkb : (rk == 3) = true := by simpa using hk
                have hyb : decide (0 < y) = false := by simp; have := fun h => hA ⟨hk, h⟩; omega
                clear hA hk hAB
                go_wp2_with fail
                refine (HG.out _).mono ?_
                rintro e w9 ⟨rfl, hb9⟩
                have HB9 := Lib.hid hb9
                clear hb9
                go_wp2_with fail
                go_ret
                exact ⟨ret_bool HF.out.symm, HX.out.2.1.trans (HB9.out.mono HX.out.2.1.size)⟩
              · have hkb : (rk == 3) = false := by simpa using hk
                clear hA hk hAB
                go_wp2_with fail
                refine (HG.out _).mono ?_
                rintro e w9 ⟨rfl, hb9⟩
                have HB9 := Lib.hid hb9
                clear hb9
                go_wp2_with fail
                go_ret
                exact ⟨ret_bool HF.out.symm, HX.out.2.1.trans (HB9.out.mono HX.out.2.1.size)⟩
            | true =>
              rw [hgd] at hGD
              have HGD := Lib.hid hgd
              have HG := Lib.hid hGD
              clear hGD hgd
              by_cases hC : ¬ rk = 3 ∧ mn < 0
              · obtain ⟨hk, hmn⟩ := hC
                have hkb : (rk == 3) = false := by simpa using hk
                have hkn : (rk != 3) = true := by simpa using hk
                have hmb : decide (mn < 0) = true := by simpa using hmn
                have HF : Hid (R = false) := HTN.out (takeF_no2 hmn hk)
                clear hA hk hAB hmn
                go_wp2_with fail
                refine (HG.out _).mono ?_
                rintro e w9 ⟨rfl, hb9⟩
                have y1 : w9.cell? ⟨gr, 1, none⟩ = some (.int .i64 rk) := (hb9.cell (p := ⟨gr, 1, none⟩) HX.out.2.2.1.lt).trans x1
                have hbmX : bm < X.heap.size := by have := HX.out.2.1.size; omega
                have ym0 : w9.cell? ⟨bm, offm + i * 2, none⟩ = some (.int .i64 mn) := (hb9.cell (p := ⟨bm, offm + i * 2, none⟩) hbmX).trans xm0
                have HB9 := Lib.hid hb9
                clear hb9
                go_wp2_with fail
                go_ret
                exact ⟨ret_bool HF.out.symm, HX.out.2.1.trans (HB9.out.mono HX.out.2.1.size)⟩
              · go_cut [80] (fun s80 wx => s80 = .bool false ∧ Hid (Below X.heap.size X wx))
                case first =>
                  have hbmX : bm < X.heap.size := by have := HX.out.2.1.size; omega
                  by_cases hk : rk = 3
                  · have hkb : (rk == 3) = true := by simpa using hk
                    have hkn : (rk != 3) = false := by simpa using hk
                    have hyb : decide (0 < y) = false := by simp; have := fun h => hA ⟨hk, h⟩; omega
                    clear hA hk hAB hC
                    go_wp2_with fail
                    refine (HG.out _).mono ?_
                    rintro e w9 ⟨rfl, hb9⟩
                    have y1 : w9.cell? ⟨gr, 1, none⟩ = some (.int .i64 rk) := (hb9.cell (p := ⟨gr, 1, none⟩) HX.out.2.2.1.lt).trans x1
                    have HB9 := Lib.hid hb9
                    clear hb9
                    go_wp2_with fail
                    go_meet
                    exact ⟨rfl, HB9⟩
                  · have hkb : (rk == 3) = false := by simpa using hk
                    have hkn : (rk != 3) = true := by simpa using hk
                    have hmb : decide (mn < 0) = false := by simp; have := fun h => hC ⟨hk, h⟩; omega
                    clear hA hk hAB hC
                    go_wp2_with fail
                    refine (HG.out _).mono ?_
                    rintro e w9 ⟨rfl, hb9⟩
                    have y1 : w9.cell? ⟨gr, 1, none⟩ = some (.int .i64 rk) := (hb9.cell (p := ⟨gr, 1, none⟩) HX.out.2.2.1.lt).trans x1
                    have ym0 : w9.cell? ⟨bm, offm + i * 2, none⟩ = some (.int .i64 mn) := (hb9.cell (p := ⟨bm, offm + i * 2, none⟩) hbmX).trans xm0
                    have HB9 := Lib.hid hb9
                    clear hb9
                    go_wp2_with fail
                    go_meet
                    exact ⟨rfl, HB9⟩
                case rest =>
                  obtain ⟨rfl, HC0⟩ := hcut
                  obtain ⟨Y, rfl⟩ : ∃ Y : World, Y = wc := ⟨_, rfl⟩
                  have hsz := HC0.out.size
                  have hgX := HX.out.2.2.1.lt
                  have hXw := HX.out.2.1.size
                  have hbX : b < X.heap.size := by omega
                  have hbmX : bm < X.heap.size := by omega
                  have y0 : Y.cell? ⟨gr, 0, none⟩ = some (.slice Az nz cz) := (HC0.out.cell (p := ⟨gr, 0, none⟩) hgX).trans x0
                  have y1 : Y.cell? ⟨gr, 1, none⟩ = some (.int .i64 rk) := (HC0.out.cell (p := ⟨gr, 1, none⟩) hgX).trans x1
                  have y2 : Y.cell? ⟨gr, 2, none⟩ = some (.int .i64 rt) := (HC0.out.cell (p := ⟨gr, 2, none⟩) hgX).trans x2
                  have yl : Y.cell? ⟨b, off + i, none⟩ = some (.int .i64 y) := (HC0.out.cell (p := ⟨b, off + i, none⟩) hbX).trans xl
                  have ym0 : Y.cell? ⟨bm, offm + i * 2, none⟩ = some (.int .i64 mn) := (HC0.out.cell (p := ⟨bm, offm + i * 2, none⟩) hbmX).trans xm0
                  have ym1 : Y.cell? ⟨bm, offm + i * 2 + 1, none⟩ = some (.int .i64 md) := (HC0.out.cell (p := ⟨bm, offm + i * 2 + 1, none⟩) hbmX).trans xm1
                  have HY : Hid (SumR Y w.heap.size gt n (.slice A8 n c8) t.of_ t.to_ ∧ Below w.heap.size w Y ∧ Blk Y gr 45 #[.slice Az nz cz, .int .i64 rk, .int .i64 rt] ∧ IntsB Y w.heap.size Az nz rof ∧ nz ≤ cz) :=
                    ⟨HX.out.1.later HC0.out, HX.out.2.1.trans (HC0.out.mono hXw), HX.out.2.2.1.below HC0.out hgX, HX.out.2.2.2.1.below stays_int (HC0.out.mono hXw) (Nat.le_refl _), HX.out.2.2.2.2⟩
                  have HTK : Hid (takeF t ⟨rof, rk, rt⟩ (decide (0 < y)) ⟨mn, md⟩ = (addRow ⟨mn, md⟩ (signF (decide (0 < y))) t.of_ rof).bind fun o => (addC t.to_ (signF (decide (0 < y)) * rt) ⟨mn, md⟩).map fun t' => ⟨o, t', t.less || (lessF rk (decide (0 < y)) && decide (¬ mn = 0))⟩) :=
                    takeF_yes (fun h => hA ⟨h.2, of_decide_eq_true h.1⟩) (fun h => hC ⟨h.2, h.1⟩)
                  clear x0 x1 x2 xl xm0 xm1 hA hAB hC HG HC0 HX hsz hgX hXw hbX hbmX
                  obtain ⟨S, hS⟩ : ∃ S, signF (decide (0 < y)) = S := ⟨_, rfl⟩
                  obtain ⟨lb, hlb⟩ : ∃ lb, lessF rk (decide (0 < y)) = lb := ⟨_, rfl⟩
                  rw [hS, hlb] at HTK
                  have hS1 : S = 1 ∨ S = -1 := by rw [← hS]; unfold signF; split <;> simp
                  have HS := Lib.hid (And.intro hS hlb)
                  clear hS hlb
                  go_upto_if 88 with fail
                  go_cut [14, 15] (fun s14 s15 wx => s14 = .int .i64 S ∧ s15 = .bool lb ∧ wx = Y)
                  case first =>
                    by_cases hy : 0 < y
                    · have hyb : decide (0 < y) = true := by simpa using hy
                      obtain ⟨h1, h2⟩ := HS.out
                      rw [hyb] at h1 h2
                      have h3 : S = -1 := h1.symm
                      have h4 : (rk == 1) = lb := by rw [← h2]; unfold lessF; rw [if_pos rfl, Bool.eq_iff_iff]; simp
                      have HS3 := Lib.hid h3
                      clear h1 h2 h3 hS1
                      go_wp2_with fail
                      go_meet
                      exact ⟨by rw [HS3.out], rfl, rfl⟩
                    · have hyb : decide (0 < y) = false := by simpa using hy
                      obtain ⟨h1, h2⟩ := HS.out
                      rw [hyb] at h1 h2
                      have h3 : S = 1 := h1.symm
                      have h4 : (rk == 2) = lb := by rw [← h2]; unfold lessF; rw [if_neg (by simp), Bool.eq_iff_iff]; simp
                      have HS3 := Lib.hid h3
                      clear h1 h2 h3 hS1
                      go_wp2_with fail
                      go_meet
                      exact ⟨by rw [HS3.out], rfl, rfl⟩
                  case rest =>
                    obtain ⟨rfl, rfl, rfl⟩ := hcut
                    obtain ⟨Y, rfl⟩ : ∃ Y : World, Y = wc := ⟨_, rfl⟩
                    obtain ⟨q20, hq20⟩ : ∃ q, (lb && decide (¬ mn = 0)) = q := ⟨_, rfl⟩
                    rw [hq20] at HTK
                    have HQ20 := Lib.hid hq20
                    clear hq20
                    go_upto_region 20 with fail
                    go_cut [100] (fun s100 wx => s100 = .bool q20 ∧ wx = Y)
                    case first =>
                      cases lb with
                      | false =>
                        have h1 : q20 = false := by rw [← HQ20.out]; rfl
                        subst h1
                        go_wp2_with fail
                        go_meet
                        exact ⟨rfl, rfl⟩
                      | true =>
                        by_cases hm : mn = 0
                        · have hmb : (mn != 0) = false := by simpa using hm
                          have h1 : q20 = false := by rw [← HQ20.out]; simp [hm]
                          subst h1
                          clear hm
                          go_wp2_with fail
                          go_meet
                          exact ⟨rfl, rfl⟩
                        · have hmb : (mn != 0) = true := by simpa using hm
                          have h1 : q20 = true := by rw [← HQ20.out]; simp [hm]
                          subst h1
                          clear hm
                          go_wp2_with fail
                          go_meet
                          exact ⟨rfl, rfl⟩
                    case rest =>
                    obtain ⟨rfl, rfl⟩ := hcut
                    obtain ⟨Y, rfl⟩ : ∃ Y : World, Y = wc := ⟨_, rfl⟩
                    go_upto_if 100 with fail
                    go_cut [11] (fun s11 wx => s11 = .bool (t.less || q20) ∧ wx = Y)
                    case first =>
                      cases q20 with
                      | false =>
                        have HH : Hid ((t.less || false) = t.less) := by show _ = _; simp
                        go_wp2_with fail
                        go_meet
                        exact ⟨by rw [HH.out], rfl⟩
                      | true =>
                        have HH : Hid ((t.less || true) = true) := by show _ = _; simp
                        go_wp2_with fail
                        go_meet
                        exact ⟨by rw [HH.out], rfl⟩
                    case rest =>
                      obtain ⟨rfl, rfl⟩ := hcut
                      obtain ⟨Y, rfl⟩ : ∃ Y : World, Y = wc := ⟨_, rfl⟩
                      obtain ⟨tl, htl⟩ : ∃ tl, (t.less || q20) = tl := ⟨_, rfl⟩
                      rw [htl] at HTK ⊢
                      obtain ⟨TK, hTK⟩ : ∃ TK, takeF t ⟨rof, rk, rt⟩ (decide (0 < y)) ⟨mn, md⟩ = TK := ⟨_, rfl⟩
                      rw [hTK] at HTN HTK
                      have HTD := Lib.hid hTK
                      clear htl hTK HS
                      have HMW : Hid (w.cell? ⟨bm, offm + i * 2, none⟩ = some (.int .i64 mn) ∧ w.cell? ⟨bm, offm + i * 2 + 1, none⟩ = some (.int .i64 md)) :=
                        ⟨(HY.out.2.1.cell (p := ⟨bm, offm + i * 2, none⟩) hbm).symm.trans ym0, (HY.out.2.1.cell (p := ⟨bm, offm + i * 2 + 1, none⟩) hbm).symm.trans ym1⟩
                      have HLZ := Lib.hid HY.out.2.2.2.1.len
                      clear ym0 ym1 yl y0 y1 y2
                      go_wp2_with fail
                      go_loopw [16] (fun s16 wr => ∃ (k : Nat) (of' : List FracD) (to' : FracD), s16 = .int .i64 (k : Int) ∧ k ≤ nz + 1 ∧ Hid (SumR wr w.heap.size gt n (.slice A8 n c8) of' to' ∧ RowI TK ⟨mn, md⟩ S t.of_ t.to_ tl rof rt k of' to' ∧ Blk wr gr 45 #[.slice Az nz cz, .int .i64 rk, .int .i64 rt] ∧ Below w.heap.size w wr)) (fun s16 _ => nz + 1 - (intOf s16).toNat)
                      case atStart => exact ⟨0, t.of_, t.to_, rfl, Nat.zero_le _, HY.out.1, RowI.start HTK.out.symm, HY.out.2.2.1, HY.out.2.1⟩
                      case round =>
                        obtain ⟨k, of', to', rfl, hk, HK⟩ := hrel
                        have hzr := HK.out.2.2.2.size
                        have y0 : wr.cell? ⟨gr, 0, none⟩ = some (.slice Az nz cz) := HK.out.2.2.1.cell 0
                        have y2 : wr.cell? ⟨gr, 2, none⟩ = some (.int .i64 rt) := HK.out.2.2.1.cell 2
                        have ym0 : wr.cell? ⟨bm, offm + i * 2, none⟩ = some (.int .i64 mn) := (HK.out.2.2.2.cell (p := ⟨bm, offm + i * 2, none⟩) hbm).trans HMW.out.1
                        have ym1 : wr.cell? ⟨bm, offm + i * 2 + 1, none⟩ = some (.int .i64 md) := (HK.out.2.2.2.cell (p := ⟨bm, offm + i * 2 + 1, none⟩) hbm).trans HMW.out.2
                        have hgrl := HK.out.2.2.1.lt
                        by_cases hlk : k < nz
                        · have hkI : (k : Int) ≤ (nz : Int) := by omega
                          have hkJ : (k : Int) < (nz : Int) := by omega
                          have har : IntsB wr w.heap.size Az nz rof := HY.out.2.2.2.1.keep stays_int (fun _ h => h) (fun b o hb => (HK.out.2.2.2.cell (p := ⟨b, o, none⟩) hb).trans (HY.out.2.1.cell (p := ⟨b, o, none⟩) hb).symm)
                          obtain ⟨bo, offo, hxo, rfl, hbo, hco, -, -⟩ := ints_get har hlk
                          have hstep := HK.out.2.1.step hxo (by rw [HIT.out]; exact HROK.out.len)
                          have hcb := HROK.out.of_ _ (List.getElem_mem hxo)
                          generalize rof[k] = cc at hco hstep hcb
                          have hnp : k < n := by have := HROK.out.len; have := HLZ.out; (try dsimp only at *); omega
                          have hnpI : (k : Int) < (n : Int) := by omega
                          obtain ⟨g, rfl⟩ := HA8.out (by omega)
                          obtain ⟨q0, hq0⟩ : ∃ q, t.of_.getD k ⟨0, 1⟩ = q := ⟨_, rfl⟩
                          rw [hq0] at hstep
                          have gq0 := HK.out.1.good _ (List.mem_of_getElem? hstep.1)
                          have hsc0 : -1000000 ≤ S * cc := by rcases hS1 with rfl | rfl <;> omega
                          have hsc1 : S * cc ≤ 1000000 := by rcases hS1 with rfl | rfl <;> omega
                          have gsc : fracGood (S * cc) 1 = true := good_whole (by omega) (by omega)
                          obtain ⟨sc, hsc⟩ : ∃ sc, S * cc = sc := ⟨_, rfl⟩
                          have hws : wrap64 (S * cc) = sc := by rw [← hsc]; simp [wrap64]; omega
                          have hcw := HK.out.1.own.cellsJ hstep.1
                          have HST := Lib.hid (And.intro hstep.2 (And.intro gq0 (And.intro hcw HK.out)))
                          have HSC := Lib.hid hsc
                          have HGSC : Hid (fracGood sc 1 = true) := by show _ = _; rw [← hsc]; exact gsc
                          clear hq0 hxo hcb har hstep gq0 hcw gsc
                          have HKE : Hid (∃ d : Nat, nz = k + d) := ⟨nz - k, by omega⟩
                          cases hT1 : timesQ ⟨sc, 1⟩ ⟨mn, md⟩ with
                          | none =>
                            have HF : Hid (R = false) := HTN.out (HST.out.1.1 (addC_none (by rw [HSC.out]; exact hT1)))
                            have HTM := Lib.hid (refTimesN ⟨sc, 1⟩ ⟨mn, md⟩ wr HGSC.out HGD.out hT1)
                            clear hT1
                            go_wp2_with fail
                            refine HTM.out.mono ?_
                            rintro e w4 ⟨rfl, hb4⟩
                            have HB4 := Lib.hid (HST.out.2.2.2.2.2.2.trans (hb4.mono hzr))
                            clear hb4
                            go_wp2_with fail
                            go_ret
                            exact ⟨ret_bool HF.out.symm, by first | exact HB4.out | exact HB4.out.alloc HB4.out.size _⟩
                          | some p =>
                            have HP : Hid (fracGood p.num p.den = true) := (timesQ_good HGSC.out HGD.out hT1).1
                            have HTM := Lib.hid (refTimesS ⟨sc, 1⟩ ⟨mn, md⟩ p wr HGSC.out HGD.out hT1)
                            have HA1 : Hid (addC q0 (S * cc) ⟨mn, md⟩ = addQ q0 p) := addC_some (by rw [HSC.out]; exact hT1)
                            clear hT1
                            cases hT2 : addQ q0 p with
                            | none =>
                              have HF : Hid (R = false) := HTN.out (HST.out.1.1 (by rw [HA1.out]; exact hT2))
                              have HAD := Lib.hid (fun W => refAddN q0 p W HST.out.2.1 HP.out hT2)
                              clear hT2
                              go_wp2_with fail
                              refine HTM.out.mono ?_
                              rintro e w4 ⟨rfl, hb4⟩
                              have hb4w := HST.out.2.2.2.2.2.2.trans (hb4.mono hzr)
                              have y40 : w4.cell? ⟨gr, 0, none⟩ = some (.slice (some ⟨bo, offo, none⟩) nz cz) := (hb4.cell (p := ⟨gr, 0, none⟩) hgrl).trans y0
                              have hz4 : gr < w4.heap.size := Nat.lt_of_lt_of_le hgrl hb4.size
                              go_upto_region 32 with fail
                              obtain ⟨X4, hX4⟩ : ∃ X, w4.alloc (.cells #[.int .i64 p.num, .int .i64 p.den] 89) = X := ⟨_, rfl⟩
                              have hkx : Blk X4 w4.heap.size 89 #[.int .i64 p.num, .int .i64 p.den] := by rw [← hX4]; exact Blk.new w4 _ _
                              have hbx : Below wr.heap.size wr X4 := by rw [← hX4]; exact hb4.alloc hb4.size _
                              obtain ⟨gx, hgx⟩ : ∃ gx, w4.heap.size = gx := ⟨_, rfl⟩
                              rw [hgx] at hkx
                              rw [hX4, hgx]
                              have z0 : X4.cell? ⟨gx, 0, none⟩ = some (.int .i64 p.num) := hkx.cell 0
                              have z1 : X4.cell? ⟨gx, 1, none⟩ = some (.int .i64 p.den) := hkx.cell 1
                              have hzx := hkx.lt
                              have hS4 := HST.out.2.2.2.1.later hbx
                              have hgl : g < wr.heap.size := (HST.out.2.2.2.1.own.lt g rfl).2
                              have v0 : X4.cell? ⟨g, k * 2, none⟩ = some (.int .i64 q0.num) := (hbx.cell (p := ⟨g, k * 2, none⟩) hgl).trans HST.out.2.2.1.1
                              have v1 : X4.cell? ⟨g, k * 2 + 1, none⟩ = some (.int .i64 q0.den) := (hbx.cell (p := ⟨g, k * 2 + 1, none⟩) hgl).trans HST.out.2.2.1.2
                              have hgX : g < X4.heap.size := Nat.lt_of_lt_of_le hgl hbx.size
                              have HX4 := Lib.hid (And.intro (HST.out.2.2.2.2.2.2.trans (hbx.mono hzr)) (And.intro hS4 (HST.out.2.2.2.2.2.1.below hbx hgrl)))
                              clear hX4 hkx hbx hgx hb4 hb4w hS4 hgl y0 y2 ym0 ym1 y40 hz4
                              go_region_with (go_at_call 68; refine (HAD.out _).mono ?_; rintro e w5 ⟨rfl, hb5⟩; have hB5 : Below X4.heap.size X4 w5 := below_of_drew hb5; have f0 : w5.frozen? ⟨g, k * 2, none⟩ = false := (HX4.out.2.1.later hB5).own.unfrozen (k * 2); have f1 : w5.frozen? ⟨g, k * 2 + 1, none⟩ = false := (HX4.out.2.1.later hB5).own.unfrozen (k * 2 + 1); have c0 : w5.cell? ⟨g, k * 2, none⟩ = some (.int .i64 q0.num) := (hB5.cell (p := ⟨g, k * 2, none⟩) hgX).trans v0; have c1 : w5.cell? ⟨g, k * 2 + 1, none⟩ = some (.int .i64 q0.den) := (hB5.cell (p := ⟨g, k * 2 + 1, none⟩) hgX).trans v1; have zg : g < w5.heap.size := Nat.lt_of_lt_of_le hgX hB5.size; have yr : w5.cell? ⟨gr, 0, none⟩ = some (.slice (some ⟨bo, offo, none⟩) nz cz) := (HX4.out.2.2.below hB5 HX4.out.2.2.lt).cell 0; have H5 := Lib.hid (And.intro (HX4.out.1.trans (hB5.mono HX4.out.1.size)) (And.intro (HX4.out.2.1.later hB5) (And.intro (HX4.out.2.2.below hB5 HX4.out.2.2.lt) (HX4.out.2.1.own.lt g rfl).1))); clear hb5 hB5)
                              all_goals
                                go_wp2_with fail
                                go_ret
                                exact ⟨ret_bool HF.out.symm, (H5.out.1.setCell (p := ⟨g, k * 2, none⟩) H5.out.2.2.2 _).setCell (p := ⟨g, k * 2 + 1, none⟩) H5.out.2.2.2 _⟩
                            | some q =>
                              have HQ : Hid (fracGood q.num q.den = true) := (addQ_good HST.out.2.1 HP.out hT2).1
                              have HRI := Lib.hid (HST.out.1.2 q (by rw [HA1.out]; exact hT2))
                              have HAD := Lib.hid (fun W => refAddS q0 p q W HST.out.2.1 HP.out hT2)
                              clear hT2
                              go_wp2_with fail
                              refine HTM.out.mono ?_
                              rintro e w4 ⟨rfl, hb4⟩
                              have hb4w := HST.out.2.2.2.2.2.2.trans (hb4.mono hzr)
                              have y40 : w4.cell? ⟨gr, 0, none⟩ = some (.slice (some ⟨bo, offo, none⟩) nz cz) := (hb4.cell (p := ⟨gr, 0, none⟩) hgrl).trans y0
                              have hz4 : gr < w4.heap.size := Nat.lt_of_lt_of_le hgrl hb4.size
                              go_upto_region 32 with fail
                              obtain ⟨X4, hX4⟩ : ∃ X, w4.alloc (.cells #[.int .i64 p.num, .int .i64 p.den] 89) = X := ⟨_, rfl⟩
                              have hkx : Blk X4 w4.heap.size 89 #[.int .i64 p.num, .int .i64 p.den] := by rw [← hX4]; exact Blk.new w4 _ _
                              have hbx : Below wr.heap.size wr X4 := by rw [← hX4]; exact hb4.alloc hb4.size _
                              obtain ⟨gx, hgx⟩ : ∃ gx, w4.heap.size = gx := ⟨_, rfl⟩
                              rw [hgx] at hkx
                              rw [hX4, hgx]
                              have z0 : X4.cell? ⟨gx, 0, none⟩ = some (.int .i64 p.num) := hkx.cell 0
                              have z1 : X4.cell? ⟨gx, 1, none⟩ = some (.int .i64 p.den) := hkx.cell 1
                              have hzx := hkx.lt
                              have hS4 := HST.out.2.2.2.1.later hbx
                              have hgl : g < wr.heap.size := (HST.out.2.2.2.1.own.lt g rfl).2
                              have v0 : X4.cell? ⟨g, k * 2, none⟩ = some (.int .i64 q0.num) := (hbx.cell (p := ⟨g, k * 2, none⟩) hgl).trans HST.out.2.2.1.1
                              have v1 : X4.cell? ⟨g, k * 2 + 1, none⟩ = some (.int .i64 q0.den) := (hbx.cell (p := ⟨g, k * 2 + 1, none⟩) hgl).trans HST.out.2.2.1.2
                              have hgX : g < X4.heap.size := Nat.lt_of_lt_of_le hgl hbx.size
                              have HX4 := Lib.hid (And.intro (HST.out.2.2.2.2.2.2.trans (hbx.mono hzr)) (And.intro hS4 (HST.out.2.2.2.2.2.1.below hbx hgrl)))
                              clear hX4 hkx hbx hgx hb4 hb4w hS4 hgl y0 y2 ym0 ym1 y40 hz4
                              go_region_with (go_at_call 68; refine (HAD.out _).mono ?_; rintro e w5 ⟨rfl, hb5⟩; have hB5 : Below X4.heap.size X4 w5 := below_of_drew hb5; have f0 : w5.frozen? ⟨g, k * 2, none⟩ = false := (HX4.out.2.1.later hB5).own.unfrozen (k * 2); have f1 : w5.frozen? ⟨g, k * 2 + 1, none⟩ = false := (HX4.out.2.1.later hB5).own.unfrozen (k * 2 + 1); have c0 : w5.cell? ⟨g, k * 2, none⟩ = some (.int .i64 q0.num) := (hB5.cell (p := ⟨g, k * 2, none⟩) hgX).trans v0; have c1 : w5.cell? ⟨g, k * 2 + 1, none⟩ = some (.int .i64 q0.den) := (hB5.cell (p := ⟨g, k * 2 + 1, none⟩) hgX).trans v1; have zg : g < w5.heap.size := Nat.lt_of_lt_of_le hgX hB5.size; have yr : w5.cell? ⟨gr, 0, none⟩ = some (.slice (some ⟨bo, offo, none⟩) nz cz) := (HX4.out.2.2.below hB5 HX4.out.2.2.lt).cell 0; have H5 := Lib.hid (And.intro (HX4.out.1.trans (hB5.mono HX4.out.1.size)) (And.intro (HX4.out.2.1.later hB5) (And.intro (HX4.out.2.2.below hB5 HX4.out.2.2.lt) (HX4.out.2.1.own.lt g rfl).1))); clear hb5 hB5)
                              all_goals
                                go_wp2_with fail
                                go_roundw
                                case rel =>
                                  obtain ⟨hB5, hS5, hb5, hBg⟩ := H5.out
                                  have hput := SumR.put hS5 (i := k) HQ.out
                                  exact ⟨k + 1, of'.set k q, to', by go_num, by obtain ⟨d, hd⟩ := HKE.out; rw [hd]; exact Nat.succ_le_succ (Nat.le_add_right k d), hput.1, HRI.out, hb5.grown (only_putQ w5 g (k * 2) q) (fun e => by have h1 := HGL.out.1 g rfl; injection e with e; omega), hB5.trans hput.2⟩
                                case measure => obtain ⟨d, hd⟩ := HKE.out; clear hkI; simp [intOf]; rw [hd]; clear hd; omega
                        · by_cases hke : k = nz
                          · have hkI : (k : Int) ≤ (nz : Int) := by omega
                            have hkJ : ¬ (k : Int) < (nz : Int) := by omega
                            have hlast : (addC to' (S * rt) ⟨mn, md⟩ = none → TK = none) ∧ (∀ q, addC to' (S * rt) ⟨mn, md⟩ = some q → RowI TK ⟨mn, md⟩ S t.of_ t.to_ tl rof rt (k + 1) of' q) := by
                              have h1 := HK.out.2.1
                              have h2 : k = rof.length := by have := HLZ.out; (try dsimp only at *); omega
                              rw [h2] at h1 ⊢
                              exact h1.last
                            have hkb : k ≤ 1000 := by have := HROK.out.len; have := HLZ.out; (try dsimp only at *); omega
                            have hcb := HROK.out.to_
                            dsimp only at hcb
                            have hsc0 : -1000000 ≤ S * rt := by rcases hS1 with rfl | rfl <;> omega
                            have hsc1 : S * rt ≤ 1000000 := by rcases hS1 with rfl | rfl <;> omega
                            have gsc : fracGood (S * rt) 1 = true := good_whole (by omega) (by omega)
                            obtain ⟨sc, hsc⟩ : ∃ sc, S * rt = sc := ⟨_, rfl⟩
                            have hws : wrap64 (S * rt) = sc := by rw [← hsc]; simp [wrap64]; omega
                            have HST := Lib.hid (And.intro hlast (And.intro HK.out.1.good2 (And.intro (show wr.cell? ⟨gt, 0, none⟩ = some (.int .i64 to'.num) ∧ wr.cell? ⟨gt, 1, none⟩ = some (.int .i64 to'.den) from ⟨HK.out.1.blk.cell 0, HK.out.1.blk.cell 1⟩) HK.out)))
                            have HSC := Lib.hid hsc
                            have HGSC : Hid (fracGood sc 1 = true) := by show _ = _; rw [← hsc]; exact gsc
                            have HKE : Hid (∃ d : Nat, nz = k + d) := ⟨0, by omega⟩
                            clear hlast gsc hcb hke
                            cases hT1 : timesQ ⟨sc, 1⟩ ⟨mn, md⟩ with
                            | none =>
                              have HF : Hid (R = false) := HTN.out (HST.out.1.1 (addC_none (by rw [HSC.out]; exact hT1)))
                              have HTM := Lib.hid (refTimesN ⟨sc, 1⟩ ⟨mn, md⟩ wr HGSC.out HGD.out hT1)
                              clear hT1
                              go_wp2_with fail
                              refine HTM.out.mono ?_
                              rintro e w4 ⟨rfl, hb4⟩
                              have HB4 := Lib.hid (HST.out.2.2.2.2.2.2.trans (hb4.mono hzr))
                              clear hb4
                              go_wp2_with fail
                              go_ret
                              exact ⟨ret_bool HF.out.symm, by first | exact HB4.out | exact HB4.out.alloc HB4.out.size _⟩
                            | some p =>
                              have HP : Hid (fracGood p.num p.den = true) := (timesQ_good HGSC.out HGD.out hT1).1
                              have HTM := Lib.hid (refTimesS ⟨sc, 1⟩ ⟨mn, md⟩ p wr HGSC.out HGD.out hT1)
                              have HA1 : Hid (addC to' (S * rt) ⟨mn, md⟩ = addQ to' p) := addC_some (by rw [HSC.out]; exact hT1)
                              clear hT1
                              cases hT2 : addQ to' p with
                              | none =>
                                have HF : Hid (R = false) := HTN.out (HST.out.1.1 (by rw [HA1.out]; exact hT2))
                                have HAD := Lib.hid (fun W => refAddN to' p W HST.out.2.1 HP.out hT2)
                                clear hT2
                                go_wp2_with fail
                                refine HTM.out.mono ?_
                                rintro e w4 ⟨rfl, hb4⟩
                                have hb4w := HST.out.2.2.2.2.2.2.trans (hb4.mono hzr)
                                have y40 : w4.cell? ⟨gr, 0, none⟩ = some (.slice Az nz cz) := (hb4.cell (p := ⟨gr, 0, none⟩) hgrl).trans y0
                                have hz4 : gr < w4.heap.size := Nat.lt_of_lt_of_le hgrl hb4.size
                                go_upto_region 33 with fail
                                obtain ⟨X4, hX4⟩ : ∃ X, w4.alloc (.cells #[.int .i64 p.num, .int .i64 p.den] 89) = X := ⟨_, rfl⟩
                                have hkx : Blk X4 w4.heap.size 89 #[.int .i64 p.num, .int .i64 p.den] := by rw [← hX4]; exact Blk.new w4 _ _
                                have hbx : Below wr.heap.size wr X4 := by rw [← hX4]; exact hb4.alloc hb4.size _
                                obtain ⟨gx, hgx⟩ : ∃ gx, w4.heap.size = gx := ⟨_, rfl⟩
                                rw [hgx] at hkx
                                rw [hX4, hgx]
                                have z0 : X4.cell? ⟨gx, 0, none⟩ = some (.int .i64 p.num) := hkx.cell 0
                                have z1 : X4.cell? ⟨gx, 1, none⟩ = some (.int .i64 p.den) := hkx.cell 1
                                have hzx := hkx.lt
                                have hS4 := HST.out.2.2.2.1.later hbx
                                have hgl : gt < wr.heap.size := HST.out.2.2.2.1.blk.lt
                                have v0 : X4.cell? ⟨gt, 0, none⟩ = some (.int .i64 to'.num) := (hbx.cell (p := ⟨gt, 0, none⟩) hgl).trans HST.out.2.2.1.1
                                have v1 : X4.cell? ⟨gt, 1, none⟩ = some (.int .i64 to'.den) := (hbx.cell (p := ⟨gt, 1, none⟩) hgl).trans HST.out.2.2.1.2
                                have hgX : gt < X4.heap.size := Nat.lt_of_lt_of_le hgl hbx.size
                                have HX4 := Lib.hid (And.intro (HST.out.2.2.2.2.2.2.trans (hbx.mono hzr)) (And.intro hS4 (HST.out.2.2.2.2.2.1.below hbx hgrl)))
                                clear hX4 hkx hbx hgx hb4 hb4w hS4 hgl y0 y2 ym0 ym1 y40 hz4
                                go_wp2_with fail
                                refine (HAD.out _).mono ?_
                                rintro e w5 ⟨rfl, hb5⟩
                                have hB5 : Below X4.heap.size X4 w5 := hb5
                                have f0 : w5.frozen? ⟨gt, 0, none⟩ = false := (HX4.out.2.1.later hB5).blk.frozen 0
                                have f1 : w5.frozen? ⟨gt, 1, none⟩ = false := (HX4.out.2.1.later hB5).blk.frozen 1
                                have c0 : w5.cell? ⟨gt, 0, none⟩ = some (.int .i64 to'.num) := (hB5.cell (p := ⟨gt, 0, none⟩) hgX).trans v0
                                have c1 : w5.cell? ⟨gt, 1, none⟩ = some (.int .i64 to'.den) := (hB5.cell (p := ⟨gt, 1, none⟩) hgX).trans v1
                                have zg : gt < w5.heap.size := Nat.lt_of_lt_of_le hgX hB5.size
                                have yr : w5.cell? ⟨gr, 0, none⟩ = some (.slice Az nz cz) := (HX4.out.2.2.below hB5 HX4.out.2.2.lt).cell 0
                                have H5 := Lib.hid (And.intro (HX4.out.1.trans (hB5.mono HX4.out.1.size)) (And.intro (HX4.out.2.1.later hB5) (And.intro (HX4.out.2.2.below hB5 HX4.out.2.2.lt) HX4.out.2.1.bG)))
                                clear hb5 hB5
                                all_goals
                                  go_wp2_with fail
                                  go_ret
                                  exact ⟨ret_bool HF.out.symm, (H5.out.1.setCell (p := ⟨gt, 0, none⟩) H5.out.2.2.2 _).setCell (p := ⟨gt, 1, none⟩) H5.out.2.2.2 _⟩
                              | some q =>
                                have HQ : Hid (fracGood q.num q.den = true) := (addQ_good HST.out.2.1 HP.out hT2).1
                                have HRI := Lib.hid (HST.out.1.2 q (by rw [HA1.out]; exact hT2))
                                have HAD := Lib.hid (fun W => refAddS to' p q W HST.out.2.1 HP.out hT2)
                                clear hT2
                                go_wp2_with fail
                                refine HTM.out.mono ?_
                                rintro e w4 ⟨rfl, hb4⟩
                                have hb4w := HST.out.2.2.2.2.2.2.trans (hb4.mono hzr)
                                have y40 : w4.cell? ⟨gr, 0, none⟩ = some (.slice Az nz cz) := (hb4.cell (p := ⟨gr, 0, none⟩) hgrl).trans y0
                                have hz4 : gr < w4.heap.size := Nat.lt_of_lt_of_le hgrl hb4.size
                                go_upto_region 33 with fail
                                obtain ⟨X4, hX4⟩ : ∃ X, w4.alloc (.cells #[.int .i64 p.num, .int .i64 p.den] 89) = X := ⟨_, rfl⟩
                                have hkx : Blk X4 w4.heap.size 89 #[.int .i64 p.num, .int .i64 p.den] := by rw [← hX4]; exact Blk.new w4 _ _
                                have hbx : Below wr.heap.size wr X4 := by rw [← hX4]; exact hb4.alloc hb4.size _
                                obtain ⟨gx, hgx⟩ : ∃ gx, w4.heap.size = gx := ⟨_, rfl⟩
                                rw [hgx] at hkx
                                rw [hX4, hgx]
                                have z0 : X4.cell? ⟨gx, 0, none⟩ = some (.int .i64 p.num) := hkx.cell 0
                                have z1 : X4.cell? ⟨gx, 1, none⟩ = some (.int .i64 p.den) := hkx.cell 1
                                have hzx := hkx.lt
                                have hS4 := HST.out.2.2.2.1.later hbx
                                have hgl : gt < wr.heap.size := HST.out.2.2.2.1.blk.lt
                                have v0 : X4.cell? ⟨gt, 0, none⟩ = some (.int .i64 to'.num) := (hbx.cell (p := ⟨gt, 0, none⟩) hgl).trans HST.out.2.2.1.1
                                have v1 : X4.cell? ⟨gt, 1, none⟩ = some (.int .i64 to'.den) := (hbx.cell (p := ⟨gt, 1, none⟩) hgl).trans HST.out.2.2.1.2
                                have hgX : gt < X4.heap.size := Nat.lt_of_lt_of_le hgl hbx.size
                                have HX4 := Lib.hid (And.intro (HST.out.2.2.2.2.2.2.trans (hbx.mono hzr)) (And.intro hS4 (HST.out.2.2.2.2.2.1.below hbx hgrl)))
                                clear hX4 hkx hbx hgx hb4 hb4w hS4 hgl y0 y2 ym0 ym1 y40 hz4
                                go_wp2_with fail
                                refine (HAD.out _).mono ?_
                                rintro e w5 ⟨rfl, hb5⟩
                                have hB5 : Below X4.heap.size X4 w5 := hb5
                                have f0 : w5.frozen? ⟨gt, 0, none⟩ = false := (HX4.out.2.1.later hB5).blk.frozen 0
                                have f1 : w5.frozen? ⟨gt, 1, none⟩ = false := (HX4.out.2.1.later hB5).blk.frozen 1
                                have c0 : w5.cell? ⟨gt, 0, none⟩ = some (.int .i64 to'.num) := (hB5.cell (p := ⟨gt, 0, none⟩) hgX).trans v0
                                have c1 : w5.cell? ⟨gt, 1, none⟩ = some (.int .i64 to'.den) := (hB5.cell (p := ⟨gt, 1, none⟩) hgX).trans v1
                                have zg : gt < w5.heap.size := Nat.lt_of_lt_of_le hgX hB5.size
                                have yr : w5.cell? ⟨gr, 0, none⟩ = some (.slice Az nz cz) := (HX4.out.2.2.below hB5 HX4.out.2.2.lt).cell 0
                                have H5 := Lib.hid (And.intro (HX4.out.1.trans (hB5.mono HX4.out.1.size)) (And.intro (HX4.out.2.1.later hB5) (And.intro (HX4.out.2.2.below hB5 HX4.out.2.2.lt) HX4.out.2.1.bG)))
                                clear hb5 hB5
                                all_goals
                                  go_wp2_with fail
                                  go_roundw
                                  case rel =>
                                    obtain ⟨hB5, hS5, hb5, hBg⟩ := H5.out
                                    have hput := SumR.putTo hS5 HQ.out
                                    exact ⟨k + 1, of', q, by go_num, by obtain ⟨d, hd⟩ := HKE.out; rw [hd]; exact Nat.succ_le_succ (Nat.le_add_right k d), hput.1, HRI.out, hb5.grown (only_putQ w5 gt 0 q) (fun e => by have h1 := HGL.out.2; injection e with e; omega), hB5.trans hput.2⟩
                                  case measure => obtain ⟨d, hd⟩ := HKE.out; clear hkI; simp [intOf]; rw [hd]; clear hd; omega
                          · have hkI : ¬ (k : Int) ≤ (nz : Int) := by omega
                            have HE : Hid (sumF ats ⟨of', to', tl⟩ (lits.drop (i + 1)) (nums.drop (i + 1)) = SF) := by
                              have h1 := H1.out
                              rw [if_pos HGD.out, HTD.out, HK.out.2.1.2 (by have := HLZ.out; (try dsimp only at *); omega)] at h1
                              exact h1
                            go_wp2_with fail
                            go_roundw
                            case rel => exact ⟨i + 1, ⟨of', to', tl⟩, by go_num, rfl, by omega, HK.out.1, HE.out, HK.out.2.2.2⟩
                            case measure => simp [intOf]; omega
        · obtain rfl : i = nm := by omega
          have e1 := HI.out.2.1
          rw [List.drop_of_length_le (by have := H.out.2.1.len; omega), sumF] at e1
          have HRS : Hid (sumOk t = R) := H.out.2.2.2.2.2.2.1 t e1.symm
          have t0 : wr.cell? ⟨gt, 0, none⟩ = some (.int .i64 t.to_.num) := HI.out.1.blk.cell 0
          have htl := HI.out.1.len
          have HTL := Lib.hid htl
          have HBW := Lib.hid HI.out.2.2
          have HSR := Lib.hid HI.out.1
          obtain ⟨tn, htn⟩ : ∃ x, t.to_.num = x := ⟨_, rfl⟩
          obtain ⟨tl, htl2⟩ : ∃ x, t.less = x := ⟨_, rfl⟩
          have HTN : Hid (t.to_.num = tn ∧ t.less = tl) := ⟨htn, htl2⟩
          rw [htn] at t0
          rw [htl2]
          clear e1 htl htn htl2 HI hlt hi
          go_wp2_with fail
          go_loop [20] (fun s20 => ∃ k : Nat, s20 = .int .i64 (k : Int) ∧ k ≤ n ∧ Hid (∀ j, j < k → ∀ q, t.of_[j]? = some q → q.num = 0)) (fun s20 => n - (intOf s20).toNat)
          case atStart => exact ⟨0, rfl, Nat.zero_le _, fun j hj => absurd hj (Nat.not_lt_zero j)⟩
          case round =>
            obtain ⟨k, rfl, hk, HK⟩ := hrel
            by_cases hlk : k < n
            · have hkI : (k : Int) < (n : Int) := by omega
              obtain ⟨g, rfl⟩ := HA8.out (by omega)
              have hkt : k < t.of_.length := by rw [HTL.out]; exact hlk
              have hq := List.getElem?_eq_getElem hkt
              obtain ⟨q, hq2⟩ : ∃ q, t.of_[k] = q := ⟨_, rfl⟩
              rw [hq2] at hq
              have hc := (HSR.out.own.cellsJ hq).1
              have HQ := Lib.hid hq
              clear hq hq2 hkt
              by_cases hz : q.num = 0
              · have hzb : (q.num != 0) = false := by simpa using hz
                have HZ := Lib.hid hz
                clear hz
                go_wp2_with fail
                go_round
                case rel => exact ⟨k + 1, by go_num, by omega, fun j hj p hp => by
                  by_cases e : j = k
                  · subst e
                    rw [HQ.out] at hp
                    injection hp with hp
                    rw [← hp]; exact HZ.out
                  · exact HK.out j (by omega) p hp⟩
                case measure => simp [intOf]; omega
              · have hzb : (q.num != 0) = true := by simpa using hz
                have HF : Hid (R = false) := by
                  show _ = _
                  rw [← HRS.out]
                  have h1 : (t.of_.all fun f => decide (f.num = 0)) = false := by
                    rw [List.all_eq_false]
                    exact ⟨q, List.mem_of_getElem? HQ.out, by simpa using hz⟩
                  unfold sumOk
                  rw [h1, Bool.false_and]
                clear hz
                go_wp2_with fail
                go_ret
                exact ⟨ret_bool HF.out.symm, HBW.out⟩
            · obtain rfl : n = k := by omega
              have HAL : Hid ((t.of_.all fun f => decide (f.num = 0)) = true) := by
                show _ = _
                rw [List.all_eq_true]
                intro q hq
                obtain ⟨j, hj, e⟩ := List.getElem_of_mem hq
                exact decide_eq_true (HK.out j (by rw [← HTL.out]; exact hj) q (by rw [← e]; exact List.getElem?_eq_getElem hj))
              have HV : Hid ((decide (tn < 0) || (decide (tn = 0) && tl)) = R) := by
                rw [← HRS.out]
                unfold sumOk
                rw [HAL.out, Bool.true_and, HTN.out.1, HTN.out.2]
                rfl
              by_cases hn0 : tn < 0
              · have hnb : decide (tn < 0) = true := by simpa using hn0
                have HF : Hid (R = true) := by rw [← HV.out, hnb]; rfl
                go_wp2_with fail
                go_ret
                exact ⟨ret_bool HF.out.symm, HBW.out⟩
              · have hnb : decide (tn < 0) = false := by simpa using hn0
                by_cases hn1 : tn = 0
                · have hnb1 : (tn == 0) = true := by simpa using hn1
                  have HF : Hid (R = tl) := by rw [← HV.out, hnb, decide_eq_true hn1, Bool.false_or, Bool.true_and]; rfl
                  clear hn1
                  go_wp2_with fail
                  go_ret
                  exact ⟨ret_bool HF.out.symm, HBW.out⟩
                · have hnb1 : (tn == 0) = false := by simpa using hn1
                  have HF : Hid (R = false) := by rw [← HV.out, hnb, decide_eq_false hn1, Bool.false_or, Bool.false_and]; rfl
                  clear hn1
                  go_wp2_with fail
                  go_ret
                  exact ⟨ret_bool HF.out.symm, HBW.out⟩
end Go.Proofs.YthjfiomcpihlaaaGreat
