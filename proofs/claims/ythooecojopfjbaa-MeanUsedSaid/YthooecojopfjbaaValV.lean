/- Walk: the values of all nodes of an ask in a world: the program. -/
import Derived.Test.YthooecojopfjbaaValTU
import Derived.Test.YthooecojopfjbaaMeanH
import Derived.Deep.RegionHeld3
namespace Go.Proofs.Ythooecojopfjbaa
open Go.RowKit

set_option maxRecDepth 100000 in
set_option maxHeartbeats 8000000 in
theorem values_any (A1 A2 A3 : Option Addr) (n1 c1 n2 c2 n3 c3 : Nat) (a : AskD) (AM : Option Addr) (nm cm : Nat) (ms : List MeaningD) (w : World) (ha : AskIn w w.heap.size A1 A2 A3 n1 n2 n3 a) (hc1 : n1 ≤ c1) (hms : ArrB AtMeaning 5 w w.heap.size AM nm ms) :
    Calls Try.prog 40 #[.agg #[.slice A1 n1 c1, .slice A2 n2 c2, .slice A3 n3 c3], .agg #[.slice AM nm cm]] w (ValuesP w (meanValF a ms)) := by
  obtain ⟨hb0, hk0, hm0, hf0, hs0⟩ := boxes3 w 26 47 29 #[.slice A1 n1 c1, .slice A2 n2 c2, .slice A3 n3 c3] #[.slice AM nm cm] #[.int .i64 0, .int .i64 0]
  obtain ⟨X0, hX0⟩ : ∃ X0, ((w.alloc (.cells #[.slice A1 n1 c1, .slice A2 n2 c2, .slice A3 n3 c3] 26)).alloc (.cells #[.slice AM nm cm] 47)).alloc (.cells #[.int .i64 0, .int .i64 0] 29) = X0 := ⟨_, rfl⟩
  rw [hX0] at hb0 hk0 hm0 hf0 hs0
  have hI0 : ValsI w X0 #[.slice A1 n1 c1, .slice A2 n2 c2, .slice A3 n3 c3] #[.slice AM nm cm] none 0 [] := ⟨hb0, hk0, hm0, hf0, Arr.nil_⟩
  obtain ⟨qc, qa, hq⟩ : ∃ qc qa, meansF a ms = (qc, qa) := ⟨_, _, rfl⟩
  have HC := Lib.hid (meanCheck_any A1 A2 A3 n1 c1 n2 c2 n3 c3 a AM nm cm ms qc qa X0 (ha.below hb0 hb0.size) hc1 (ArrB.below hms stays_meaning hb0 hb0.size) hq)
  have HX0 := Lib.hid hX0
  have HI0 := Lib.hid hI0
  have HQ := Lib.hid hq
  have HRO := Lib.hid (And.intro ha (And.intro hms hc1))
  have x0 : X0.cell? ⟨w.heap.size, 0, none⟩ = some (.slice A1 n1 c1) := hk0.cell 0
  have x1 : X0.cell? ⟨w.heap.size, 1, none⟩ = some (.slice A2 n2 c2) := hk0.cell 1
  have x2 : X0.cell? ⟨w.heap.size, 2, none⟩ = some (.slice A3 n3 c3) := hk0.cell 2
  have x3 : X0.cell? ⟨w.heap.size + 1, 0, none⟩ = some (.slice AM nm cm) := hm0.cell 0
  have hzx : w.heap.size + 2 < X0.heap.size := hf0.lt
  clear hb0 hk0 hm0 hf0 hs0 hX0 hI0 hq ha hms hc1
  go_enter Try.func40, Try.ntmps40
  go_wp2_with fail
  rw [HX0.out]
  refine HC.out.mono ?_
  rintro e w3 ⟨rfl, hb3⟩
  have hI3 := HI0.out.keep hb3
  have hI4 := hI3.keep ((Below.refl w3.heap.size w3).alloc (Nat.le_refl _) (.cells #[.int .i64 qc, .int .i64 qa] 29))
  have hfx := Blk.new w3 29 #[.int .i64 qc, .int .i64 qa]
  clear hb3 x0 x1 x2 x3 hzx HC HX0 HI0 hI3
  go_upto_region 2 with fail
  generalize w3.alloc (.cells #[.int .i64 qc, .int .i64 qa] 29) = Y at hI4 hfx ⊢
  generalize w3.heap.size = g at hfx ⊢
  have f0 : Y.cell? ⟨g, 0, none⟩ = some (.int .i64 qc) := hfx.cell 0
  have f1 : Y.cell? ⟨g, 1, none⟩ = some (.int .i64 qa) := hfx.cell 1
  have hzg : g < Y.heap.size := hfx.lt
  by_cases hqc : qc = 0
  · subst hqc
    obtain ⟨-, hs0, hmo⟩ := meansF_ok (a := a) (ms := ms) (by rw [HQ.out])
    have hR : meanValF a ms = valuesF a.decls ms (sortsF a).1 a.nodes 0 [] := by rw [meanValF, HQ.out, if_neg (by simp)]
    have q0 : ((0 : Int) != 0) = false := by simp
    have x0 : Y.cell? ⟨w.heap.size, 0, none⟩ = some (.slice A1 n1 c1) := hI4.ask.cell 0
    have x1 : Y.cell? ⟨w.heap.size, 1, none⟩ = some (.slice A2 n2 c2) := hI4.ask.cell 1
    have x2 : Y.cell? ⟨w.heap.size, 2, none⟩ = some (.slice A3 n3 c3) := hI4.ask.cell 2
    have hzx : w.heap.size < Y.heap.size := hI4.ask.lt
    have HS := Lib.hid (sorts_any A1 A2 A3 n1 c1 n2 c2 n3 c3 a Y (HRO.out.1.below hI4.below hI4.below.size) HRO.out.2.2)
    have HM := Lib.hid (And.intro hs0 (And.intro hmo hR))
    have HI4 := Lib.hid hI4
    clear hfx hI4 hs0 hmo hR
    go_wp2_with fail
    refine HS.out.mono ?_
    rintro e w5 ⟨As, cs, rfl, hb5, hs1, hs2, hsr⟩
    have hI5 : ValsI w w5 #[.slice A1 n1 c1, .slice A2 n2 c2, .slice A3 n3 c3] #[.slice AM nm cm] As (sortsF a).1.length (sortsF a).1 := by
      have h := HI4.out.keep hb5
      exact ⟨h.below, h.ask, h.wld, h.flt, hsr.keep stays_int (fun b hb => hb.2) (fun _ _ _ => rfl)⟩
    generalize (sortsF a).2.1 = rc
    generalize (sortsF a).2.2 = ra
    have hI6 := hI5.keep ((Below.refl w5.heap.size w5).alloc (Nat.le_refl _) (.cells #[.int .i64 rc, .int .i64 ra] 29))
    clear hI5 hb5 hsr hs1 hs2 x0 x1 x2 hzx f0 f1 hzg HS HI4 q0
    go_upto_region 5 with fail
    generalize w5.alloc (.cells #[.int .i64 rc, .int .i64 ra] 29) = X at hI6 ⊢
    have hs0 := HM.out.1
    have hsl := (sortsF_ok hs0).2.1
    have hl2 := HRO.out.1.nodes.len
    have hn200 := (sortsF_ok hs0).2.2.2.2.1
    have HNK : Hid (∀ (j : Nat) x, a.nodes[j]? = some x → NodeOk a.decls j (sortsF a).1 x ((sortsF a).1.getD j 0)) := fun j x hx => sorts_nodes hs0 hx
    have HSG : Hid (∀ j, j < a.nodes.length → sortB ((sortsF a).1.getD j 0) = true) := fun j hj => sorts_good hs0 (j + 1) j (Nat.lt_succ_self j) hj
    have hR := HM.out.2.2
    generalize (sortsF a).1 = ss at hI6 hsl HNK HSG hR ⊢
    obtain ⟨R, hRR⟩ : ∃ R, valuesF a.decls ms ss a.nodes 0 [] = R := ⟨_, rfl⟩
    rw [hRR] at hR
    have HR := Lib.hid hR
    have HR0 := Lib.hid hRR
    have HL := Lib.hid (And.intro hsl (And.intro hl2 hn200))
    have HI6 := Lib.hid hI6
    have x1 : X.cell? ⟨w.heap.size, 1, none⟩ = some (.slice A2 n2 c2) := hI6.ask.cell 1
    have hzx : w.heap.size < X.heap.size := hI6.ask.lt
    clear hI6 hs0 hsl hl2 hR hRR
    have hn2I : (n2 : Int) ≤ 200 := by have := HL.out.2.1; have := HL.out.2.2; omega
    go_wp2_with fail
    clear x1 hzx
    go_loopw [9, 33] (fun s9 s33 wr => ∃ (k : Nat) (vals : List ValueD), k ≤ n2 ∧ s33 = .int .i64 k ∧ vals.length = k ∧ Hid (GoodTo ss vals) ∧ OwnV VValue 54 4 wr X.heap.size (Fr X.heap.size wr s9) s9 vals ∧ Below X.heap.size X wr ∧ Hid (valuesF a.decls ms ss (a.nodes.drop k) k vals = R)) (fun _ s33 _ => n2 - (intOf s33).toNat)
    case atStart => exact ⟨0, [], Nat.zero_le _, rfl, rfl, GoodTo.nil ss, OwnV.none_ _ _ _ _ _ _, Below.refl _ _, HR0⟩
    case round =>
      clear HR0
      obtain ⟨k, vals, hk, rfl, hvl, HG, hown, hbel, HK⟩ := hrel
      have hI := HI6.out.keep hbel
      by_cases hlt : k < n2
      · obtain ⟨b, off, hx, K, kn, kc, rfl, hb, q0, q1, q2, q3, q4, hkc, hkm, hka, i0, i1, i2, i3⟩ := nodes_get (HRO.out.1.nodes.below stays_node hI.below (Nat.le_refl _)) hlt
        have hxn := List.getElem?_eq_getElem hx
        have e1 := HK.out
        rw [drop_cons hx, valuesF] at e1
        generalize a.nodes[k] = x at q0 q2 q3 q4 hka i0 i1 i2 i3 hxn e1
        have hOk := HNK.out k x hxn
        have hso := bits_range (HSG.out k (List.getElem?_eq_some_iff.1 hxn).1)
        obtain ⟨hkz, hk8⟩ := hOk.kids
        have hgl := kids_good (x := x) HG.out (fun z hz => by rw [hvl]; exact hkz z hz)
        have hkl := hka.len
        obtain ⟨bs, offs, hxs, hAs, hbs, hcs, -, -⟩ := Arr_get hI.sorts (i := k) (by have := HL.out.1; have := HL.out.2.1; omega)
        subst hAs
        have hsg : ss[k] = ss.getD k 0 := by rw [List.getD_eq_getElem?_getD, List.getElem?_eq_getElem hxs]; rfl
        rw [hsg] at hcs
        obtain ⟨A9, c9, he9, hc9, hc9m, hvr⟩ := hown.reads (E := AtValue) tells_value (fun _ _ _ _ _ h => atV_value h) (S' := fun b => b < wr.heap.size) (fun b hb => hb.2.1) (fun g hg => (hown.lt g hg).2)
        rw [hvl] at he9 hvr hc9
        subst he9
        obtain ⟨BT, hBT⟩ : ∃ BT, bitsF (ss.getD k 0) (kidSorts ss x) = BT := ⟨_, rfl⟩
        have HBT : Hid (((kidSorts ss x).drop 0).foldl bitStep (ss.getD k 0 - 10) = BT) := by show _ = _; rw [← hBT, bitsF_fold]; rfl
        obtain ⟨r, hr⟩ : ∃ r, valF a.decls ms x BT (kidVals vals x) = r := ⟨_, rfl⟩
        rw [hBT, hr] at e1
        have HPL := Lib.hid (And.intro hOk (And.intro hgl (And.intro hkz (And.intro hkl (And.intro hk8 (And.intro hBT (And.intro hr hvl)))))))
        have HE1 := Lib.hid e1
        obtain ⟨so, hsoe⟩ : ∃ so, ss.getD k 0 = so := ⟨_, rfl⟩
        rw [hsoe] at hcs hso HBT HPL
        have HSO := Lib.hid hsoe
        clear hsoe
        obtain ⟨Y, hY⟩ : ∃ Y, wr.alloc (.cells #[.int .i64 x.op, .slice K kn kc, .int .i64 x.n, .int .i64 x.d, .string x.name] 59) = Y := ⟨_, rfl⟩
        have hbY : Below wr.heap.size wr Y := by rw [← hY]; exact (Below.refl _ _).alloc (Nat.le_refl _) _
        have hby : Blk Y wr.heap.size 59 #[.int .i64 x.op, .slice K kn kc, .int .i64 x.n, .int .i64 x.d, .string x.name] := by rw [← hY]; exact Blk.new _ _ _
        have hIY := hI.keep hbY
        have hXY : Below X.heap.size X Y := hbel.trans (hbY.mono hbel.size)
        have y1 : Y.cell? ⟨wr.heap.size, 1, none⟩ = some (.slice K kn kc) := hby.cell 1
        have ys : Y.cell? ⟨bs, offs + k, none⟩ = some (.int .i64 so) := (hbY.cell (p := ⟨bs, offs + k, none⟩) hbs).trans hcs
        have hzy : wr.heap.size < Y.heap.size := hby.lt
        have HY := Lib.hid hY
        have HYF := Lib.hid (And.intro hbY (And.intro hby (And.intro hIY hXY)))
        have HOW := Lib.hid (And.intro hown hvr)
        have HKA : Hid (IntsB Y w.heap.size K kn x.kids) := hka.below stays_int (hbY.mono hI.below.size) (Nat.le_refl _)
        have hkI : (k : Int) < (n2 : Int) := by omega
        have hkS : (k : Int) < (ss.length : Int) := by have := HL.out.1; have := HL.out.2.1; omega
        have hso1 := hso.1
        have hso2 := hso.2
        have HBK := Lib.hid (And.intro hb (And.intro hbs hbel))
        have H9 := Lib.hid (And.intro hc9 hc9m)
        have hk8I : kn ≤ 8 := by omega
        have HYS := Lib.hid ys
        clear hx hxn e1 HK hOk hso hkz hk8 hgl hkl hbs hxs hsg hown hvr hBT hr hY hbY hby hIY hXY hI hka hb hkc hkm hc9 hc9m i0 i1 i2 i3 hbel hvl
        go_upto_region 9 with fail
        rw [HY.out]
        clear q0 q1 q2 q3 q4 hcs
        go_wp2_with fail
        clear y1 ys
        obtain ⟨wo, rfl⟩ : ∃ wo : World, wo = wr := ⟨_, rfl⟩
        go_loopw [12, 13, 46] (fun s12 s13 s46 wi => ∃ (j : Nat) (bt : Int), j ≤ kn ∧ s46 = .int .i64 j ∧ s13 = .int .i64 bt ∧ Hid (((kidSorts ss x).drop j).foldl bitStep bt = BT) ∧ OwnV VValue 54 4 wi Y.heap.size (Fr Y.heap.size wi s12) s12 ((kidVals vals x).take j) ∧ Below Y.heap.size Y wi) (fun _ _ s46 _ => kn - (intOf s46).toNat)
        case atStart => exact ⟨0, _, Nat.zero_le _, rfl, rfl, HBT, OwnV.none_ _ _ _ _ _ _, Below.refl _ _⟩
        case round =>
          clear HBT
          obtain ⟨j, bt, hj, rfl, rfl, HJ, hown2, hbi⟩ := hrel
          have hbw : Below wo.heap.size wo wr := HYF.out.1.trans (hbi.mono HYF.out.1.size)
          have hIi := HYF.out.2.2.1.keep hbi
          by_cases hjlt : j < kn
          · obtain ⟨b3, off3, hx3, rfl, hb3, hc3, -, -⟩ := ints_get (HKA.out.below stays_int (hbi.mono (by have := HYF.out.2.2.1.below.size; omega)) (Nat.le_refl _)) hjlt
            obtain ⟨hz0, hzk⟩ := HPL.out.2.2.1 _ (List.getElem_mem hx3)
            have e2 := HJ.out
            have hks : j < (kidSorts ss x).length := by rw [kidSorts_len]; exact hx3
            have hkv : j < (kidVals vals x).length := by simpa [kidVals] using hx3
            have htk := take_snoc_l hkv
            have hvn : x.kids[j].toNat < vals.length := by have := HPL.out.2.2.2.2.2.2.2; omega
            have hve : (kidVals vals x)[j] = vals[x.kids[j].toNat] := by simp [kidVals, kidV, List.getD_eq_getElem?_getD, List.getElem?_eq_getElem hvn]
            have hse : (kidSorts ss x)[j] = ss.getD x.kids[j].toNat 0 := by simp [kidSorts]
            rw [drop_cons hks, List.foldl_cons, hse] at e2
            rw [hve] at htk
            have hsB := HSG.out x.kids[j].toNat (by have := HL.out.2.1; omega)
            obtain ⟨bs2, offs2, hxs2, hAs2, hbs2, hcs2, -, -⟩ := Arr_get hIi.sorts (i := x.kids[j].toNat) (by have := HL.out.1; have := HL.out.2.1; omega)
            injection hAs2 with hAs2
            injection hAs2 with e3 e4
            subst e3 e4
            have hsg2 : ss[x.kids[j].toNat] = ss.getD x.kids[j].toNat 0 := by rw [List.getD_eq_getElem?_getD, List.getElem?_eq_getElem hxs2]; rfl
            rw [hsg2] at hcs2
            obtain ⟨b2, off2, hx2, A7, n7, c7, rfl, hb2, v0, v1, v2, v3, hcc, -, -, iv0, iv1, iv2⟩ := values_get (ArrB.below HOW.out.2 stays_value hbw (Nat.le_refl _)) (i := x.kids[j].toNat) (by omega)
            have hgc : vals[x.kids[j].toNat].cells.length ≤ 1001 := goodV_cells (HG.out _ _ (List.getElem?_eq_getElem hvn))
            generalize vals[x.kids[j].toNat] = y at htk v0 v1 v3 hcc iv0 iv1 iv2 hgc
            have hzS : x.kids[j] < (ss.length : Int) := by have := HL.out.1; have := HL.out.2.1; omega
            generalize ss.getD x.kids[j].toNat 0 = sz at hcs2 hsB e2
            generalize x.kids[j] = z at hz0 hzk hcs2 v0 v1 v2 v3 hc3 hzS
            obtain ⟨yn, yd, yc, yr⟩ := y
            dsimp only at v0 v1 v3 hcc iv0 iv1 iv2 hgc
            have hlc := hcc.len
            have HCP := Lib.hid (copied_any yn yd yr A7 n7 c7 yc wr (hcc.keep stays_cell (fun b hb => Nat.lt_of_lt_of_le hb hbw.size) (fun _ _ _ => rfl)) (by omega))
            have hszr := bits_range hsB
            have hsz1 := hszr.1
            have hsz2 := hszr.2
            have hbsY : bs < Y.heap.size := Nat.lt_of_lt_of_le HBK.out.2.1 HYF.out.1.size
            have HRN := Lib.hid (And.intro hown2 (And.intro hbi (And.intro iv0 (And.intro iv1 (And.intro iv2 (And.intro htk (And.intro e2 hbsY)))))))
            clear hx3 hb3 HJ hks hkv hvn hve hse hxs2 hbs2 hsg2 hx2 hb2 hcc iv0 iv1 iv2 hgc hlc hszr hsB htk e2 hown2 hbi hIi hbw hbsY
            go_wp2_with fail
            refine HCP.out.mono ?_
            rintro e w6 ⟨A8, c8, rfl, h81, h82, h83, hb6⟩
            dsimp only at h81 h83 ⊢
            obtain ⟨hown2, hbi, iv0, iv1, iv2, htk, e2, hbsY⟩ := HRN.out
            have hb6Y : Below Y.heap.size Y w6 := hbi.trans (hb6.mono hbi.size)
            have hbZ : Below w6.heap.size w6 (w6.alloc (.cells #[.int .i64 yn, .int .i64 yd, .slice A8 yc.length c8, .int .i64 yr] 54)) := (Below.refl _ _).alloc (Nat.le_refl _) _
            have hbWZ : Below wr.heap.size wr (w6.alloc (.cells #[.int .i64 yn, .int .i64 yd, .slice A8 yc.length c8, .int .i64 yr] 54)) := hb6.trans (hbZ.mono hb6.size)
            have hoZ := hown2.later tells_value hbWZ
            have hkZ := Blk.new w6 54 #[.int .i64 yn, .int .i64 yd, .slice A8 yc.length c8, .int .i64 yr]
            have hvZ : VValue (w6.alloc (.cells #[.int .i64 yn, .int .i64 yd, .slice A8 yc.length c8, .int .i64 yr] 54)) (Fr Y.heap.size (w6.alloc (.cells #[.int .i64 yn, .int .i64 yd, .slice A8 yc.length c8, .int .i64 yr] 54)) u12) [.int .i64 yn, .int .i64 yd, .slice A8 yc.length c8, .int .i64 yr] ⟨yn, yd, yc, yr⟩ :=
              ⟨A8, yc.length, c8, rfl, ⟨iv0, iv1, iv2⟩, h81, h82, h83.keep stays_cell (fun b hb => ⟨Nat.le_trans hbi.size hb.1, Nat.lt_of_lt_of_le hb.2 hbZ.size, fun e => by have := (hown2.lt b e).2; have h9 : wr.heap.size ≤ b ∧ b < w6.heap.size := hb; omega⟩) (fun b o hb => hbZ.cell (p := ⟨b, o, none⟩) hb.2)⟩
            have hlen : ((kidVals vals x).take j).length ≤ 8 := by rw [List.length_take]; omega
            have hzs : Y.heap.size ≤ (w6.alloc (.cells #[.int .i64 yn, .int .i64 yd, .slice A8 yc.length c8, .int .i64 yr] 54)).heap.size := (hb6Y.trans (hbZ.mono hb6Y.size)).size
            have HO := Lib.hid (And.intro hoZ (And.intro hkZ (And.intro hvZ (And.intro hlen (hb6Y.trans (hbZ.mono hb6Y.size))))))
            have HTK := Lib.hid (And.intro htk (And.intro e2 hbsY))
            have hcsY : Y.cell? ⟨bs, offs + z.toNat, none⟩ = some (.int .i64 sz) := (hbi.cell (p := ⟨bs, offs + z.toNat, none⟩) hbsY).symm.trans hcs2
            have HCS := Lib.hid hcsY
            clear hown2 hbi iv0 iv1 iv2 htk e2 hbsY hb6Y hbZ hbWZ hoZ hkZ hvZ hlen hb6 h81 h82 h83 v0 v1 v2 v3 hc3 hcs2 hcsY HRN HCP
            cases hw : wordB sz with
            | true =>
              have HWD := Lib.hid (fun W => word_any sz W)
              rw [hw] at HWD
              have hst : bitStep bt sz = sz - 10 := by rw [bitStep, if_pos hw]
              have HST := Lib.hid hst
              clear hw hst
              go_wp2_with (first | (at_builtin; go_loud (refine wpList_append_item rfl _ _ _ rfl rowValues tells_value (v := u12) (xs := (kidVals vals x).take j) (base := Y.heap.size) (S := Fr Y.heap.size (w6.alloc (.cells #[.int .i64 yn, .int .i64 yd, .slice A8 yc.length c8, .int .i64 yr] 54)) u12) rfl HO.out.1 (g := w6.heap.size) (cs := #[.int .i64 yn, .int .i64 yd, .slice A8 yc.length c8, .int .i64 yr]) rfl HO.out.2.1 (y := ⟨yn, yd, yc, yr⟩) HO.out.2.2.1 fr_out (by have := HO.out.2.2.2.1; unfold maxLen; omega) (by have := HO.out.2.2.2.1; omega) hzs ?_); intro v7 w7 hown7 hgrow7 hat7; have hb7 := below_then HO.out.2.2.2.2 hgrow7 hzs (fun x hx => (HO.out.1.lt x hx).1); have r0 : w7.cell? ⟨bs, offs + z.toNat, none⟩ = some (.int .i64 sz) := (hb7.cell (p := ⟨bs, offs + z.toNat, none⟩) HTK.out.2.2).trans HCS.out; have HB7 := Lib.hid (And.intro (hown7.weak tells_value (Fr.step hgrow7 hat7)) hb7); clear hown7 hgrow7 hat7 hb7) | (go_at_call 74; refine (HWD.out _).mono ?_; rintro e w' ⟨rfl, rfl⟩) | fail)
              go_roundw
              case rel => exact ⟨j + 1, sz - 10, by omega, by go_num, rfl, by show _ = _; rw [← HST.out]; exact HTK.out.2.1, by rw [HTK.out.1]; exact HB7.out.1, HB7.out.2⟩
              case measure => simp [intOf]; omega
            | false =>
              have HWD := Lib.hid (fun W => word_any sz W)
              rw [hw] at HWD
              have hst : bitStep bt sz = bt := by rw [bitStep, if_neg (by rw [hw]; simp)]
              have HST := Lib.hid hst
              clear hw hst
              go_wp2_with (first | (at_builtin; go_loud (refine wpList_append_item rfl _ _ _ rfl rowValues tells_value (v := u12) (xs := (kidVals vals x).take j) (base := Y.heap.size) (S := Fr Y.heap.size (w6.alloc (.cells #[.int .i64 yn, .int .i64 yd, .slice A8 yc.length c8, .int .i64 yr] 54)) u12) rfl HO.out.1 (g := w6.heap.size) (cs := #[.int .i64 yn, .int .i64 yd, .slice A8 yc.length c8, .int .i64 yr]) rfl HO.out.2.1 (y := ⟨yn, yd, yc, yr⟩) HO.out.2.2.1 fr_out (by have := HO.out.2.2.2.1; unfold maxLen; omega) (by have := HO.out.2.2.2.1; omega) hzs ?_); intro v7 w7 hown7 hgrow7 hat7; have hb7 := below_then HO.out.2.2.2.2 hgrow7 hzs (fun x hx => (HO.out.1.lt x hx).1); have r0 : w7.cell? ⟨bs, offs + z.toNat, none⟩ = some (.int .i64 sz) := (hb7.cell (p := ⟨bs, offs + z.toNat, none⟩) HTK.out.2.2).trans HCS.out; have HB7 := Lib.hid (And.intro (hown7.weak tells_value (Fr.step hgrow7 hat7)) hb7); clear hown7 hgrow7 hat7 hb7) | (go_at_call 74; refine (HWD.out _).mono ?_; rintro e w' ⟨rfl, rfl⟩) | fail)
              go_roundw
              case rel => exact ⟨j + 1, bt, by omega, by go_num, rfl, by show _ = _; rw [← HTK.out.2.1, HST.out], by rw [HTK.out.1]; exact HB7.out.1, HB7.out.2⟩
              case measure => simp [intOf]; omega
          · obtain rfl : kn = j := by omega
            have e2 := HJ.out
            rw [List.drop_of_length_le (by rw [kidSorts_len]; have := HPL.out.2.2.2.1; omega), List.foldl_nil] at e2
            subst e2
            rw [List.take_of_length_le (by simp only [kidVals, List.length_map]; have := HPL.out.2.2.2.1; omega)] at hown2
            obtain ⟨A12, c12, he12, hc12, hc12m, hvs⟩ := hown2.reads (E := AtValue) tells_value (fun _ _ _ _ _ h => atV_value h) (S' := fun b => Y.heap.size ≤ b ∧ b < wr.heap.size) (fun b hb => ⟨hb.1, hb.2.1⟩) (fun g hg => hown2.lt g hg)
            have hvl2 : (kidVals vals x).length = kn := by simp only [kidVals, List.length_map]; exact HPL.out.2.2.2.1
            rw [hvl2] at he12 hvs
            subst he12
            have hbXw : Below X.heap.size X wr := HYF.out.2.2.2.trans (hbi.mono HYF.out.2.2.2.size)
            have HV : Hid (∀ W, Below wr.heap.size wr W → Calls Try.prog 75 #[.agg #[.slice A1 n1 c1, .slice (some ⟨b, off, none⟩) n2 c2, .slice A3 n3 c3], .agg #[.slice AM nm cm], .int .i64 so, .agg #[.int .i64 x.op, .slice K kn kc, .int .i64 x.n, .int .i64 x.d, .string x.name], .slice A12 kn c12, .int .i64 bt] W (ValueP (fun b => Y.heap.size ≤ b ∧ b < wr.heap.size) W r)) := fun W hW => by
              have hbw0 : Below w.heap.size w W := hIi.below.trans (hW.mono hIi.below.size)
              have := value_any (ds := a.decls) (ms := ms) x so (kidVals vals x) A1 (some ⟨b, off, none⟩) A3 n1 c1 n2 c2 n3 c3 AM nm cm K kn kc A12 kn c12 (fun b => Y.heap.size ≤ b ∧ b < wr.heap.size) W (HRO.out.1.decls.below stays_decl hbw0 hbw0.size) HRO.out.1.m1 (ArrB.below HRO.out.2.1 stays_meaning hbw0 hbw0.size) HM.out.2.1 HPL.out.1 HPL.out.2.1 (hvs.keep stays_value (fun _ h => h) (fun b o h => hW.cell (p := ⟨b, o, none⟩) h.2)) (fun b hb => Nat.lt_of_lt_of_le hb.2 hW.size)
              rw [HPL.out.2.2.2.2.2.1, HPL.out.2.2.2.2.2.2.1] at this
              exact this
            have hbyi := HYF.out.2.1.below hbi HYF.out.2.1.lt
            have a0 : wr.cell? ⟨w.heap.size, 0, none⟩ = some (.slice A1 n1 c1) := hIi.ask.cell 0
            have a1 : wr.cell? ⟨w.heap.size, 1, none⟩ = some (.slice (some ⟨b, off, none⟩) n2 c2) := hIi.ask.cell 1
            have a2 : wr.cell? ⟨w.heap.size, 2, none⟩ = some (.slice A3 n3 c3) := hIi.ask.cell 2
            have a3 : wr.cell? ⟨w.heap.size + 1, 0, none⟩ = some (.slice AM nm cm) := hIi.wld.cell 0
            have a4 : wr.cell? ⟨bs, offs + k, none⟩ = some (.int .i64 so) := (hbi.cell (p := ⟨bs, offs + k, none⟩) (Nat.lt_of_lt_of_le HBK.out.2.1 HYF.out.1.size)).trans HYS.out
            have a5 : wr.cell? ⟨wo.heap.size, 0, none⟩ = some (.int .i64 x.op) := hbyi.cell 0
            have a6 : wr.cell? ⟨wo.heap.size, 1, none⟩ = some (.slice K kn kc) := hbyi.cell 1
            have a7 : wr.cell? ⟨wo.heap.size, 2, none⟩ = some (.int .i64 x.n) := hbyi.cell 2
            have a8 : wr.cell? ⟨wo.heap.size, 3, none⟩ = some (.int .i64 x.d) := hbyi.cell 3
            have a9 : wr.cell? ⟨wo.heap.size, 4, none⟩ = some (.string x.name) := hbyi.cell 4
            have z0 : w.heap.size < wr.heap.size := hIi.ask.lt
            have z1 : w.heap.size + 1 < wr.heap.size := hIi.wld.lt
            have z2 : wo.heap.size < wr.heap.size := hbyi.lt
            have z3 : bs < wr.heap.size := Nat.lt_of_lt_of_le HBK.out.2.1 hbw.size
            have ne0 : wr.heap.size ≠ w.heap.size := by omega
            have ne1 : wr.heap.size ≠ w.heap.size + 1 := by omega
            have ne2 : wr.heap.size ≠ wo.heap.size := by omega
            have ne3 : wr.heap.size ≠ bs := by omega
            have hoX := (HOW.out.1.later tells_value hbw)
            have HH := Lib.hid (And.intro hIi (And.intro hoX hbXw))
            have HYW := Lib.hid hbi.size
            clear hbyi hIi hoX hbXw hbw hvs hvl2 hown2 hbi HJ hc12 hc12m hjlt hj
            cases r with
            | none =>
              go_upto_region 18 with fail
              go_region_held3 (fun w' => w'.cell? ⟨w.heap.size, 0, none⟩ = some (.slice A1 n1 c1) ∧ w'.cell? ⟨w.heap.size, 1, none⟩ = some (.slice (some ⟨b, off, none⟩) n2 c2) ∧ w'.cell? ⟨w.heap.size, 2, none⟩ = some (.slice A3 n3 c3) ∧ w'.cell? ⟨w.heap.size + 1, 0, none⟩ = some (.slice AM nm cm) ∧ w'.cell? ⟨bs, offs + k, none⟩ = some (.int .i64 so) ∧ w'.cell? ⟨wo.heap.size, 0, none⟩ = some (.int .i64 x.op) ∧ w'.cell? ⟨wo.heap.size, 1, none⟩ = some (.slice K kn kc) ∧ w'.cell? ⟨wo.heap.size, 2, none⟩ = some (.int .i64 x.n) ∧ w'.cell? ⟨wo.heap.size, 3, none⟩ = some (.int .i64 x.d) ∧ w'.cell? ⟨wo.heap.size, 4, none⟩ = some (.string x.name))
                ((try dsimp only) <;> (repeat' apply And.intro) <;> go_keep)
                (first
                  | (go_simp
                     go_at_call 75
                     refine (HV.out _ (by first | exact below_drewN (Below.refl _ _) 1 | exact below_drewN ((Below.refl _ _).alloc (Nat.le_refl _) _) 1)).mono ?_
                     rintro e w8 ⟨hb8, rfl⟩
                     have HB8 : Hid (Below wr.heap.size wr w8) := below_join (by first | exact below_drewN (Below.refl _ _) 1 | exact below_drewN ((Below.refl _ _).alloc (Nat.le_refl _) _) 1) hb8
                     have r0 : w8.cell? ⟨w.heap.size, 0, none⟩ = some (.slice A1 n1 c1) := by rw [HB8.out.cell (p := ⟨w.heap.size, 0, none⟩) z0]; exact a0
                     have r1 : w8.cell? ⟨w.heap.size, 1, none⟩ = some (.slice (some ⟨b, off, none⟩) n2 c2) := by rw [HB8.out.cell (p := ⟨w.heap.size, 1, none⟩) z0]; exact a1
                     have r2 : w8.cell? ⟨w.heap.size, 2, none⟩ = some (.slice A3 n3 c3) := by rw [HB8.out.cell (p := ⟨w.heap.size, 2, none⟩) z0]; exact a2
                     have r3 : w8.cell? ⟨w.heap.size + 1, 0, none⟩ = some (.slice AM nm cm) := by rw [HB8.out.cell (p := ⟨w.heap.size + 1, 0, none⟩) z1]; exact a3
                     have r4 : w8.cell? ⟨bs, offs + k, none⟩ = some (.int .i64 so) := by rw [HB8.out.cell (p := ⟨bs, offs + k, none⟩) z3]; exact a4
                     have r5 : w8.cell? ⟨wo.heap.size, 0, none⟩ = some (.int .i64 x.op) := by rw [HB8.out.cell (p := ⟨wo.heap.size, 0, none⟩) z2]; exact a5
                     have r6 : w8.cell? ⟨wo.heap.size, 1, none⟩ = some (.slice K kn kc) := by rw [HB8.out.cell (p := ⟨wo.heap.size, 1, none⟩) z2]; exact a6
                     have r7 : w8.cell? ⟨wo.heap.size, 2, none⟩ = some (.int .i64 x.n) := by rw [HB8.out.cell (p := ⟨wo.heap.size, 2, none⟩) z2]; exact a7
                     have r8 : w8.cell? ⟨wo.heap.size, 3, none⟩ = some (.int .i64 x.d) := by rw [HB8.out.cell (p := ⟨wo.heap.size, 3, none⟩) z2]; exact a8
                     have r9 : w8.cell? ⟨wo.heap.size, 4, none⟩ = some (.string x.name) := by rw [HB8.out.cell (p := ⟨wo.heap.size, 4, none⟩) z2]; exact a9
                     try
                       have k9 : Blk w8 wr.heap.size 54 #[.int .i64 0, .int .i64 0, .slice none 0 0, .int .i64 0] := (Blk.new wr 54 #[.int .i64 0, .int .i64 0, .slice none 0 0, .int .i64 0]).below (below_of_drew hb8) (by simp)
                       have K9 := Lib.hid k9
                       have g0 : w8.cell? ⟨wr.heap.size, 0, none⟩ = some (.int .i64 0) := k9.cell 0
                       have g1 : w8.cell? ⟨wr.heap.size, 1, none⟩ = some (.int .i64 0) := k9.cell 1
                       have g2 : w8.cell? ⟨wr.heap.size, 2, none⟩ = some (.slice none 0 0) := k9.cell 2
                       have g3 : w8.cell? ⟨wr.heap.size, 3, none⟩ = some (.int .i64 0) := k9.cell 3
                       have f0 : w8.frozen? ⟨wr.heap.size, 0, none⟩ = false := k9.frozen 0
                       have f1 : w8.frozen? ⟨wr.heap.size, 1, none⟩ = false := k9.frozen 1
                       have f2 : w8.frozen? ⟨wr.heap.size, 2, none⟩ = false := k9.frozen 2
                       have f3 : w8.frozen? ⟨wr.heap.size, 3, none⟩ = false := k9.frozen 3
                       have g4 : wr.heap.size < w8.heap.size := k9.lt
                       clear k9
                     clear hb8)
                  | fail)
              all_goals clear a0 a1 a2 a3 a4 a5 a6 a7 a8 a9 ne0 ne1 ne2 ne3 z0 z1 z2 z3 r0 r1 r2 r3 r4 r5 r6 r7 r8 r9
              · have hbZ : Below wr.heap.size wr (w8.alloc (.cells #[.int .i64 0, .int .i64 0, .slice none 0 0, .int .i64 0] 54)) := HB8.out.alloc HB8.out.size _
                generalize w8.alloc (.cells #[.int .i64 0, .int .i64 0, .slice none 0 0, .int .i64 0] 54) = Z at hbZ ⊢
                have hIZ := HH.out.1.keep hbZ
                have hm := hIZ.flt
                have hRe : R = ([], 10, (k : Int)) := HE1.out.symm
                have HRE := Lib.hid hRe
                have m0 : Z.cell? ⟨w.heap.size + 2, 0, none⟩ = some (.int .i64 0) := hm.cell 0
                have m1 : Z.cell? ⟨w.heap.size + 2, 1, none⟩ = some (.int .i64 0) := hm.cell 1
                have u0 : Z.frozen? ⟨w.heap.size + 2, 0, none⟩ = false := hm.frozen 0
                have u1 : Z.frozen? ⟨w.heap.size + 2, 1, none⟩ = false := hm.frozen 1
                have zm : w.heap.size + 2 < Z.heap.size := hm.lt
                have HB := Lib.hid (And.intro hIZ.below hm)
                clear hIZ hm hRe hbZ
                go_wp2_with fail
                clear m0 m1 u0 u1
                have hz1 := two_blk HB.out.2 (.int .i64 10) (.int .i64 k)
                have hz2 : Below w.heap.size w (two Z (w.heap.size + 2) (.int .i64 10) (.int .i64 k)) := two_below (g := w.heap.size + 2) HB.out.1 (Nat.le_add_right _ _) (.int .i64 10) (.int .i64 k)
                have e4 : (Z.setCell ⟨w.heap.size + 1 + 1, 0, none⟩ (.int .i64 10)).setCell ⟨w.heap.size + 1 + 1, 1, none⟩ (.int .i64 k) = two Z (w.heap.size + 2) (.int .i64 10) (.int .i64 k) := rfl
                rw [e4]
                clear e4
                generalize two Z (w.heap.size + 2) (.int .i64 10) (.int .i64 k) = Z2 at hz1 hz2 ⊢
                have d0 := hz1.cell 0
                have d1 := hz1.cell 1
                simp only [List.getElem?_toArray, List.getElem?_cons_zero, List.getElem?_cons_succ] at d0 d1
                refine bodyPost_ret (v := .tuple #[.slice none 0 0, .agg #[.int .i64 10, .int .i64 k]]) (by simp [results, Try.results40, go_sem, d0, d1]) rfl ?_
                rw [HR.out, HRE.out]
                exact valuesP_nil hz2 _ _
              · clear g0 g1 g2 g3 f0 f1 f2 f3 g4
                have hbZ : Below wr.heap.size wr (put4 w8 wr.heap.size (.int .i64 0) (.int .i64 0) (.slice none 0 0) (.int .i64 0)) := put4_below HB8.out (Nat.le_refl _) _ _ _ _
                have e5 : (((w8.setCell ⟨wr.heap.size, 0, none⟩ (.int .i64 0)).setCell ⟨wr.heap.size, 1, none⟩ (.int .i64 0)).setCell ⟨wr.heap.size, 2, none⟩ (.slice none 0 0)).setCell ⟨wr.heap.size, 3, none⟩ (.int .i64 0) = put4 w8 wr.heap.size (.int .i64 0) (.int .i64 0) (.slice none 0 0) (.int .i64 0) := rfl
                rw [e5]
                clear e5
                generalize put4 w8 wr.heap.size (.int .i64 0) (.int .i64 0) (.slice none 0 0) (.int .i64 0) = Z at hbZ ⊢
                have hIZ := HH.out.1.keep hbZ
                have hm := hIZ.flt
                have hRe : R = ([], 10, (k : Int)) := HE1.out.symm
                have HRE := Lib.hid hRe
                have m0 : Z.cell? ⟨w.heap.size + 2, 0, none⟩ = some (.int .i64 0) := hm.cell 0
                have m1 : Z.cell? ⟨w.heap.size + 2, 1, none⟩ = some (.int .i64 0) := hm.cell 1
                have u0 : Z.frozen? ⟨w.heap.size + 2, 0, none⟩ = false := hm.frozen 0
                have u1 : Z.frozen? ⟨w.heap.size + 2, 1, none⟩ = false := hm.frozen 1
                have zm : w.heap.size + 2 < Z.heap.size := hm.lt
                have HB := Lib.hid (And.intro hIZ.below hm)
                clear hIZ hm hRe hbZ
                go_wp2_with fail
                clear m0 m1 u0 u1
                have hz1 := two_blk HB.out.2 (.int .i64 10) (.int .i64 k)
                have hz2 : Below w.heap.size w (two Z (w.heap.size + 2) (.int .i64 10) (.int .i64 k)) := two_below (g := w.heap.size + 2) HB.out.1 (Nat.le_add_right _ _) (.int .i64 10) (.int .i64 k)
                have e4 : (Z.setCell ⟨w.heap.size + 1 + 1, 0, none⟩ (.int .i64 10)).setCell ⟨w.heap.size + 1 + 1, 1, none⟩ (.int .i64 k) = two Z (w.heap.size + 2) (.int .i64 10) (.int .i64 k) := rfl
                rw [e4]
                clear e4
                generalize two Z (w.heap.size + 2) (.int .i64 10) (.int .i64 k) = Z2 at hz1 hz2 ⊢
                have d0 := hz1.cell 0
                have d1 := hz1.cell 1
                simp only [List.getElem?_toArray, List.getElem?_cons_zero, List.getElem?_cons_succ] at d0 d1
                refine bodyPost_ret (v := .tuple #[.slice none 0 0, .agg #[.int .i64 10, .int .i64 k]]) (by simp [results, Try.results40, go_sem, d0, d1]) rfl ?_
                rw [HR.out, HRE.out]
                exact valuesP_nil hz2 _ _
            | some v =>
              have HGS : Hid (GoodTo ss (vals ++ [v])) := HG.out.snoc (by
                have hgv := valF_good HM.out.2.1 HPL.out.1 HPL.out.2.1 (v := v) (by rw [HPL.out.2.2.2.2.2.1]; exact HPL.out.2.2.2.2.2.2.1)
                rw [HPL.out.2.2.2.2.2.2.2, HSO.out]
                exact hgv)
              have HIV : Hid (I64 v.num ∧ I64 v.den ∧ I64 v.rest) := goodV_i64 (s := so) (by
                exact valF_good HM.out.2.1 HPL.out.1 HPL.out.2.1 (v := v) (by rw [HPL.out.2.2.2.2.2.1]; exact HPL.out.2.2.2.2.2.2.1))
              obtain ⟨vn, vd, vc, vr⟩ := v
              go_upto_region 18 with fail
              go_region_held3 (fun w' => w'.cell? ⟨w.heap.size, 0, none⟩ = some (.slice A1 n1 c1) ∧ w'.cell? ⟨w.heap.size, 1, none⟩ = some (.slice (some ⟨b, off, none⟩) n2 c2) ∧ w'.cell? ⟨w.heap.size, 2, none⟩ = some (.slice A3 n3 c3) ∧ w'.cell? ⟨w.heap.size + 1, 0, none⟩ = some (.slice AM nm cm) ∧ w'.cell? ⟨bs, offs + k, none⟩ = some (.int .i64 so) ∧ w'.cell? ⟨wo.heap.size, 0, none⟩ = some (.int .i64 x.op) ∧ w'.cell? ⟨wo.heap.size, 1, none⟩ = some (.slice K kn kc) ∧ w'.cell? ⟨wo.heap.size, 2, none⟩ = some (.int .i64 x.n) ∧ w'.cell? ⟨wo.heap.size, 3, none⟩ = some (.int .i64 x.d) ∧ w'.cell? ⟨wo.heap.size, 4, none⟩ = some (.string x.name))
                ((try dsimp only) <;> (repeat' apply And.intro) <;> go_keep)
                (first
                  | (go_simp
                     go_at_call 75
                     refine (HV.out _ (by first | exact below_drewN (Below.refl _ _) 1 | exact below_drewN ((Below.refl _ _).alloc (Nat.le_refl _) _) 1)).mono ?_
                     rintro e w8 ⟨hb8, A8, c8, rfl, h81, h82, h83⟩
                     have HB8 : Hid (Below wr.heap.size wr w8) := below_join (by first | exact below_drewN (Below.refl _ _) 1 | exact below_drewN ((Below.refl _ _).alloc (Nat.le_refl _) _) 1) hb8
                     have HA8 := Lib.hid (And.intro h81 (And.intro h82 h83))
                     clear h81 h82 h83
                     have r0 : w8.cell? ⟨w.heap.size, 0, none⟩ = some (.slice A1 n1 c1) := by rw [HB8.out.cell (p := ⟨w.heap.size, 0, none⟩) z0]; exact a0
                     have r1 : w8.cell? ⟨w.heap.size, 1, none⟩ = some (.slice (some ⟨b, off, none⟩) n2 c2) := by rw [HB8.out.cell (p := ⟨w.heap.size, 1, none⟩) z0]; exact a1
                     have r2 : w8.cell? ⟨w.heap.size, 2, none⟩ = some (.slice A3 n3 c3) := by rw [HB8.out.cell (p := ⟨w.heap.size, 2, none⟩) z0]; exact a2
                     have r3 : w8.cell? ⟨w.heap.size + 1, 0, none⟩ = some (.slice AM nm cm) := by rw [HB8.out.cell (p := ⟨w.heap.size + 1, 0, none⟩) z1]; exact a3
                     have r4 : w8.cell? ⟨bs, offs + k, none⟩ = some (.int .i64 so) := by rw [HB8.out.cell (p := ⟨bs, offs + k, none⟩) z3]; exact a4
                     have r5 : w8.cell? ⟨wo.heap.size, 0, none⟩ = some (.int .i64 x.op) := by rw [HB8.out.cell (p := ⟨wo.heap.size, 0, none⟩) z2]; exact a5
                     have r6 : w8.cell? ⟨wo.heap.size, 1, none⟩ = some (.slice K kn kc) := by rw [HB8.out.cell (p := ⟨wo.heap.size, 1, none⟩) z2]; exact a6
                     have r7 : w8.cell? ⟨wo.heap.size, 2, none⟩ = some (.int .i64 x.n) := by rw [HB8.out.cell (p := ⟨wo.heap.size, 2, none⟩) z2]; exact a7
                     have r8 : w8.cell? ⟨wo.heap.size, 3, none⟩ = some (.int .i64 x.d) := by rw [HB8.out.cell (p := ⟨wo.heap.size, 3, none⟩) z2]; exact a8
                     have r9 : w8.cell? ⟨wo.heap.size, 4, none⟩ = some (.string x.name) := by rw [HB8.out.cell (p := ⟨wo.heap.size, 4, none⟩) z2]; exact a9
                     try
                       have k9 : Blk w8 wr.heap.size 54 #[.int .i64 0, .int .i64 0, .slice none 0 0, .int .i64 0] := (Blk.new wr 54 #[.int .i64 0, .int .i64 0, .slice none 0 0, .int .i64 0]).below (below_of_drew hb8) (by simp)
                       have K9 := Lib.hid k9
                       have g0 : w8.cell? ⟨wr.heap.size, 0, none⟩ = some (.int .i64 0) := k9.cell 0
                       have g1 : w8.cell? ⟨wr.heap.size, 1, none⟩ = some (.int .i64 0) := k9.cell 1
                       have g2 : w8.cell? ⟨wr.heap.size, 2, none⟩ = some (.slice none 0 0) := k9.cell 2
                       have g3 : w8.cell? ⟨wr.heap.size, 3, none⟩ = some (.int .i64 0) := k9.cell 3
                       have f0 : w8.frozen? ⟨wr.heap.size, 0, none⟩ = false := k9.frozen 0
                       have f1 : w8.frozen? ⟨wr.heap.size, 1, none⟩ = false := k9.frozen 1
                       have f2 : w8.frozen? ⟨wr.heap.size, 2, none⟩ = false := k9.frozen 2
                       have f3 : w8.frozen? ⟨wr.heap.size, 3, none⟩ = false := k9.frozen 3
                       have g4 : wr.heap.size < w8.heap.size := k9.lt
                       clear k9
                     clear hb8)
                  | fail)
              all_goals clear a0 a1 a2 a3 a4 a5 a6 a7 a8 a9 ne0 ne1 ne2 ne3 z0 z1 z2 z3 r0 r1 r2 r3 r4 r5 r6 r7 r8 r9
              · have hcZ0 := HA8.out.2.2
                have hbZ : Below wr.heap.size wr (w8.alloc (.cells #[.int .i64 vn, .int .i64 vd, .slice A8 vc.length c8, .int .i64 vr] 54)) := HB8.out.alloc HB8.out.size _
                have hkZ := Blk.new w8 54 #[.int .i64 vn, .int .i64 vd, .slice A8 vc.length c8, .int .i64 vr]
                have hcZ : Arr AtCell 2 (w8.alloc (.cells #[.int .i64 vn, .int .i64 vd, .slice A8 vc.length c8, .int .i64 vr] 54)) (fun b => Y.heap.size ≤ b ∧ b < (w8.alloc (.cells #[.int .i64 vn, .int .i64 vd, .slice A8 vc.length c8, .int .i64 vr] 54)).heap.size) A8 vc.length vc := hcZ0.keep stays_cell (fun b hb => by
                    have h1 := HB8.out.size
                    have h2 := HYF.out.1.size
                    have h3 : Y.heap.size ≤ wr.heap.size := HYW.out
                    simp only [World.size_alloc]
                    rcases hb with hb | hb
                    · omega
                    · have hb2 : wr.heap.size ≤ b ∧ b < w8.heap.size := hb
                      omega) (fun b o hb => ((Below.refl w8.heap.size w8).alloc (Nat.le_refl _) _).cell (p := ⟨b, o, none⟩) (by
                    have h1 := HB8.out.size
                    rcases hb with hb | hb
                    · show b < w8.heap.size; omega
                    · exact hb.2))
                generalize w8.alloc (.cells #[.int .i64 vn, .int .i64 vd, .slice A8 vc.length c8, .int .i64 vr] 54) = Z at hbZ hkZ hcZ ⊢
                clear hcZ0
                have hbQ : Below Z.heap.size Z (Z.alloc (.cells #[.int .i64 vn, .int .i64 vd, .slice A8 vc.length c8, .int .i64 vr] 54)) := (Below.refl _ _).alloc (Nat.le_refl _) _
                have hoQ := HH.out.2.1.later tells_value (hbZ.trans (hbQ.mono hbZ.size))
                have hkQ := Blk.new Z 54 #[.int .i64 vn, .int .i64 vd, .slice A8 vc.length c8, .int .i64 vr]
                have hvQ : VValue (Z.alloc (.cells #[.int .i64 vn, .int .i64 vd, .slice A8 vc.length c8, .int .i64 vr] 54)) (Fr X.heap.size (Z.alloc (.cells #[.int .i64 vn, .int .i64 vd, .slice A8 vc.length c8, .int .i64 vr] 54)) (.slice A9 k c9)) [.int .i64 vn, .int .i64 vd, .slice A8 vc.length c8, .int .i64 vr] ⟨vn, vd, vc, vr⟩ :=
                  ⟨A8, vc.length, c8, rfl, HIV.out, HA8.out.1, HA8.out.2.1, hcZ.keep stays_cell (fun b hb => ⟨Nat.le_trans HYF.out.2.2.2.size hb.1, Nat.lt_of_lt_of_le hb.2 hbQ.size, fun e => by have := (HOW.out.1.lt b e).2; have := HYF.out.1.size; have := hb.1; omega⟩) (fun b o hb => hbQ.cell (p := ⟨b, o, none⟩) hb.2)⟩
                have hsQ : X.heap.size ≤ (Z.alloc (.cells #[.int .i64 vn, .int .i64 vd, .slice A8 vc.length c8, .int .i64 vr] 54)).heap.size := (HH.out.2.2.trans ((hbZ.trans (hbQ.mono hbZ.size)).mono HH.out.2.2.size)).size
                have HO := Lib.hid (And.intro hoQ (And.intro hkQ (And.intro hvQ (HH.out.2.2.trans ((hbZ.trans (hbQ.mono hbZ.size)).mono HH.out.2.2.size)))))
                have b0 : Z.cell? ⟨w8.heap.size, 0, none⟩ = some (.int .i64 vn) := hkZ.cell 0
                have b1 : Z.cell? ⟨w8.heap.size, 1, none⟩ = some (.int .i64 vd) := hkZ.cell 1
                have b2 : Z.cell? ⟨w8.heap.size, 2, none⟩ = some (.slice A8 vc.length c8) := hkZ.cell 2
                have b3 : Z.cell? ⟨w8.heap.size, 3, none⟩ = some (.int .i64 vr) := hkZ.cell 3
                have hzb : w8.heap.size < Z.heap.size := hkZ.lt
                clear hbQ hoQ hkQ hvQ hbZ hkZ hcZ
                go_wp2_with (first | (at_builtin; go_loud (refine wpList_append_item rfl _ _ _ rfl rowValues tells_value (v := .slice A9 k c9) (xs := vals) (base := X.heap.size) (S := Fr X.heap.size (Z.alloc (.cells #[.int .i64 vn, .int .i64 vd, .slice A8 vc.length c8, .int .i64 vr] 54)) (.slice A9 k c9)) rfl HO.out.1 (g := Z.heap.size) (cs := #[.int .i64 vn, .int .i64 vd, .slice A8 vc.length c8, .int .i64 vr]) rfl HO.out.2.1 (y := ⟨vn, vd, vc, vr⟩) HO.out.2.2.1 fr_out (by have := HPL.out.2.2.2.2.2.2.2; unfold maxLen; omega) (by have := HPL.out.2.2.2.2.2.2.2; omega) hsQ ?_); intro v9 w9 hown9 hgrow9 hat9; have HB9 := Lib.hid (And.intro (hown9.weak tells_value (Fr.step hgrow9 hat9)) (below_then HO.out.2.2.2 hgrow9 hsQ (fun x hx => (HO.out.1.lt x hx).1))); clear hown9 hgrow9 hat9) | fail)
                go_roundw
                case rel => exact ⟨k + 1, vals ++ [⟨vn, vd, vc, vr⟩], by omega, by go_num, by rw [List.length_append, HPL.out.2.2.2.2.2.2.2]; rfl, HGS, HB9.out.1, HB9.out.2, HE1⟩
                case measure => simp [intOf]; omega
              · clear g0 g1 g2 g3 f0 f1 f2 f3 g4
                have hcZ0 := HA8.out.2.2
                have hbZ : Below wr.heap.size wr (put4 w8 wr.heap.size (.int .i64 vn) (.int .i64 vd) (.slice A8 vc.length c8) (.int .i64 vr)) := put4_below HB8.out (Nat.le_refl _) _ _ _ _
                have hkZ := put4_blk K9.out (.int .i64 vn) (.int .i64 vd) (.slice A8 vc.length c8) (.int .i64 vr)
                have hgZ : w8.grownBy (put4 w8 wr.heap.size (.int .i64 vn) (.int .i64 vd) (.slice A8 vc.length c8) (.int .i64 vr)) (some wr.heap.size) := put4_only (only_refl _ _) _ _ _ _
                have hcZ : Arr AtCell 2 (put4 w8 wr.heap.size (.int .i64 vn) (.int .i64 vd) (.slice A8 vc.length c8) (.int .i64 vr)) (fun b => Y.heap.size ≤ b ∧ b < (put4 w8 wr.heap.size (.int .i64 vn) (.int .i64 vd) (.slice A8 vc.length c8) (.int .i64 vr)).heap.size) A8 vc.length vc := hcZ0.keep stays_cell (fun b hb => by
                    have h1 := HB8.out.size
                    have h3 : Y.heap.size ≤ wr.heap.size := HYW.out
                    have h4 := hgZ.size
                    rcases hb with hb | hb
                    · omega
                    · have hb2 : wr.heap.size + 1 ≤ b ∧ b < w8.heap.size := by simpa using hb
                      omega) (fun b o hb => only_cell hgZ (by
                    have h1 := HB8.out.size
                    rcases hb with hb | hb
                    · omega
                    · exact hb.2) (fun e => by
                    injection e with e
                    rcases hb with hb | hb
                    · omega
                    · have hb2 : wr.heap.size + 1 ≤ b ∧ b < w8.heap.size := by simpa using hb
                      omega))
                have e5 : (((w8.setCell ⟨wr.heap.size, 0, none⟩ (.int .i64 vn)).setCell ⟨wr.heap.size, 1, none⟩ (.int .i64 vd)).setCell ⟨wr.heap.size, 2, none⟩ (.slice A8 vc.length c8)).setCell ⟨wr.heap.size, 3, none⟩ (.int .i64 vr) = put4 w8 wr.heap.size (.int .i64 vn) (.int .i64 vd) (.slice A8 vc.length c8) (.int .i64 vr) := rfl
                rw [e5]
                clear e5 hgZ
                generalize put4 w8 wr.heap.size (.int .i64 vn) (.int .i64 vd) (.slice A8 vc.length c8) (.int .i64 vr) = Z at hbZ hkZ hcZ ⊢
                clear hcZ0
                have hbQ : Below Z.heap.size Z (Z.alloc (.cells #[.int .i64 vn, .int .i64 vd, .slice A8 vc.length c8, .int .i64 vr] 54)) := (Below.refl _ _).alloc (Nat.le_refl _) _
                have hoQ := HH.out.2.1.later tells_value (hbZ.trans (hbQ.mono hbZ.size))
                have hkQ := Blk.new Z 54 #[.int .i64 vn, .int .i64 vd, .slice A8 vc.length c8, .int .i64 vr]
                have hvQ : VValue (Z.alloc (.cells #[.int .i64 vn, .int .i64 vd, .slice A8 vc.length c8, .int .i64 vr] 54)) (Fr X.heap.size (Z.alloc (.cells #[.int .i64 vn, .int .i64 vd, .slice A8 vc.length c8, .int .i64 vr] 54)) (.slice A9 k c9)) [.int .i64 vn, .int .i64 vd, .slice A8 vc.length c8, .int .i64 vr] ⟨vn, vd, vc, vr⟩ :=
                  ⟨A8, vc.length, c8, rfl, HIV.out, HA8.out.1, HA8.out.2.1, hcZ.keep stays_cell (fun b hb => ⟨Nat.le_trans HYF.out.2.2.2.size hb.1, Nat.lt_of_lt_of_le hb.2 hbQ.size, fun e => by have := (HOW.out.1.lt b e).2; have := HYF.out.1.size; have := hb.1; omega⟩) (fun b o hb => hbQ.cell (p := ⟨b, o, none⟩) hb.2)⟩
                have hsQ : X.heap.size ≤ (Z.alloc (.cells #[.int .i64 vn, .int .i64 vd, .slice A8 vc.length c8, .int .i64 vr] 54)).heap.size := (HH.out.2.2.trans ((hbZ.trans (hbQ.mono hbZ.size)).mono HH.out.2.2.size)).size
                have HO := Lib.hid (And.intro hoQ (And.intro hkQ (And.intro hvQ (HH.out.2.2.trans ((hbZ.trans (hbQ.mono hbZ.size)).mono HH.out.2.2.size)))))
                have b0 : Z.cell? ⟨wr.heap.size, 0, none⟩ = some (.int .i64 vn) := hkZ.cell 0
                have b1 : Z.cell? ⟨wr.heap.size, 1, none⟩ = some (.int .i64 vd) := hkZ.cell 1
                have b2 : Z.cell? ⟨wr.heap.size, 2, none⟩ = some (.slice A8 vc.length c8) := hkZ.cell 2
                have b3 : Z.cell? ⟨wr.heap.size, 3, none⟩ = some (.int .i64 vr) := hkZ.cell 3
                have hzb : wr.heap.size < Z.heap.size := hkZ.lt
                clear hbQ hoQ hkQ hvQ hbZ hkZ hcZ
                go_wp2_with (first | (at_builtin; go_loud (refine wpList_append_item rfl _ _ _ rfl rowValues tells_value (v := .slice A9 k c9) (xs := vals) (base := X.heap.size) (S := Fr X.heap.size (Z.alloc (.cells #[.int .i64 vn, .int .i64 vd, .slice A8 vc.length c8, .int .i64 vr] 54)) (.slice A9 k c9)) rfl HO.out.1 (g := Z.heap.size) (cs := #[.int .i64 vn, .int .i64 vd, .slice A8 vc.length c8, .int .i64 vr]) rfl HO.out.2.1 (y := ⟨vn, vd, vc, vr⟩) HO.out.2.2.1 fr_out (by have := HPL.out.2.2.2.2.2.2.2; unfold maxLen; omega) (by have := HPL.out.2.2.2.2.2.2.2; omega) hsQ ?_); intro v9 w9 hown9 hgrow9 hat9; have HB9 := Lib.hid (And.intro (hown9.weak tells_value (Fr.step hgrow9 hat9)) (below_then HO.out.2.2.2 hgrow9 hsQ (fun x hx => (HO.out.1.lt x hx).1))); clear hown9 hgrow9 hat9) | fail)
                go_roundw
                case rel => exact ⟨k + 1, vals ++ [⟨vn, vd, vc, vr⟩], by omega, by go_num, by rw [List.length_append, HPL.out.2.2.2.2.2.2.2]; rfl, HGS, HB9.out.1, HB9.out.2, HE1⟩
                case measure => simp [intOf]; omega
      · obtain rfl : n2 = k := by omega
        have e1 := HK.out
        rw [List.drop_of_length_le (by have := HL.out.2.1; omega), valuesF] at e1
        obtain ⟨A9, c9, he9, hc9, hc9m, hvr⟩ := hown.reads (E := AtValue) tells_value (fun _ _ _ _ _ h => atV_value h) (S' := fun b => X.heap.size ≤ b ∧ b < wr.heap.size) (fun b hb => ⟨hb.1, hb.2.1⟩) (fun g hg => hown.lt g hg)
        rw [hvl] at he9 hvr hc9
        subst he9
        have hm := hI.flt
        have HRE := Lib.hid e1
        have m0 : wr.cell? ⟨w.heap.size + 2, 0, none⟩ = some (.int .i64 0) := hm.cell 0
        have m1 : wr.cell? ⟨w.heap.size + 2, 1, none⟩ = some (.int .i64 0) := hm.cell 1
        have u0 : wr.frozen? ⟨w.heap.size + 2, 0, none⟩ = false := hm.frozen 0
        have u1 : wr.frozen? ⟨w.heap.size + 2, 1, none⟩ = false := hm.frozen 1
        have zm : w.heap.size + 2 < wr.heap.size := hm.lt
        have HB := Lib.hid (And.intro hI.below (And.intro hm (And.intro hvr (And.intro hvl (And.intro hc9 hc9m)))))
        have HXZ : Hid (w.heap.size + 2 < X.heap.size) := HI6.out.flt.lt
        clear hI hm hvr hown hbel HK e1 hvl hc9 hc9m
        go_wp2_with fail
        clear m0 m1 u0 u1
        have hz1 := two_blk HB.out.2.1 (.int .i64 0) (.int .i64 0)
        have hz2 : Below w.heap.size w (two wr (w.heap.size + 2) (.int .i64 0) (.int .i64 0)) := two_below (g := w.heap.size + 2) HB.out.1 (Nat.le_add_right _ _) (.int .i64 0) (.int .i64 0)
        have hz3 := two_only wr (w.heap.size + 2) (.int .i64 0) (.int .i64 0)
        have hz4 : Arr AtValue 4 (two wr (w.heap.size + 2) (.int .i64 0) (.int .i64 0)) (fun b => b < (two wr (w.heap.size + 2) (.int .i64 0) (.int .i64 0)).heap.size) A9 n2 vals := HB.out.2.2.1.keep stays_value (fun b hb => Nat.lt_of_lt_of_le hb.2 hz3.size) (fun b o hb => only_cell hz3 hb.2 (fun e => by injection e with e; have := HXZ.out; omega))
        have e4 : (wr.setCell ⟨w.heap.size + 1 + 1, 0, none⟩ (.int .i64 0)).setCell ⟨w.heap.size + 1 + 1, 1, none⟩ (.int .i64 0) = two wr (w.heap.size + 2) (.int .i64 0) (.int .i64 0) := rfl
        rw [e4]
        clear e4
        generalize two wr (w.heap.size + 2) (.int .i64 0) (.int .i64 0) = Z2 at hz1 hz2 hz4 ⊢
        have d0 := hz1.cell 0
        have d1 := hz1.cell 1
        simp only [List.getElem?_toArray, List.getElem?_cons_zero, List.getElem?_cons_succ] at d0 d1
        refine bodyPost_ret (v := .tuple #[.slice A9 n2 c9, .agg #[.int .i64 0, .int .i64 0]]) (by simp [results, Try.results40, go_sem, d0, d1]) rfl ?_
        rw [HR.out, ← HRE.out]
        exact valuesP_of HB.out.2.2.2.1 hz2 HB.out.2.2.2.2.1 HB.out.2.2.2.2.2 hz4
  · have hqb : (qc != 0) = true := by rw [bne_iff_ne]; exact hqc
    have hR : meanValF a ms = ([], qc, qa) := by rw [meanValF, HQ.out, if_pos (by simpa using hqc)]
    have c0 : Y.cell? ⟨w.heap.size + 2, 0, none⟩ = some (.int .i64 0) := hI4.flt.cell 0
    have c1' : Y.cell? ⟨w.heap.size + 2, 1, none⟩ = some (.int .i64 0) := hI4.flt.cell 1
    have z0 : Y.frozen? ⟨w.heap.size + 2, 0, none⟩ = false := hI4.flt.frozen 0
    have z1 : Y.frozen? ⟨w.heap.size + 2, 1, none⟩ = false := hI4.flt.frozen 1
    have hz : w.heap.size + 2 < Y.heap.size := hI4.flt.lt
    have HI4 := Lib.hid hI4
    have HR := Lib.hid hR
    clear hqc hI4 hfx hR
    go_wp2_with fail
    go_region
    go_wp2_with fail
    refine bodyPost_ret (v := .tuple #[.slice none 0 0, .agg #[.int .i64 qc, .int .i64 qa]]) (by simp [results, Try.results40, go_sem, c0, c1']) rfl ?_
    rw [HR.out]
    exact valuesP_nil (((HI4.out.below.setCell (p := ⟨w.heap.size + 2, 0, none⟩) (Nat.le_add_right _ _) _).setCell (p := ⟨w.heap.size + 2, 1, none⟩) (Nat.le_add_right _ _) _).drew) _ _
end Go.Proofs.Ythooecojopfjbaa
