/- Walk: the values of all nodes of an ask in a world: the reference. -/
import Derived.Test.YtggkfepifnfdoaaGreatRefI
import Derived.Test.YtggkfepifnfdoaaGreatValTU
import Derived.Test.YtggkfepifnfdoaaGreatMeanI
import Derived.Deep.RegionHeld3
namespace Go.Proofs.YtggkfepifnfdoaaGreat
open Go.RowKit

/-- blocks below lo or from hi on that are there, but the row v's own -/
def Fx (lo hi : Nat) (w : World) (v : Value) : Nat → Prop := fun b => (b < lo ∨ hi ≤ b) ∧ b < w.heap.size ∧ v.ownBlock ≠ some b
theorem Fx.step {lo hi : Nat} {w w' : World} {v v' : Value} (hg : w.grownBy w' v.ownBlock) (hv : v'.ownBlock = v.ownBlock ∨ v'.ownBlock = some w.heap.size) : ∀ b, Fx lo hi w v b → Fx lo hi w' v' b := fun b ⟨h1, h2, h3⟩ =>
  ⟨h1, Nat.lt_of_lt_of_le h2 hg.size, by
    rcases hv with e | e
    · rw [e]; exact h3
    · rw [e]; intro e2; injection e2 with e2; omega⟩
theorem fx_out {lo hi : Nat} {w : World} {v : Value} (b : Nat) (h : Fx lo hi w v b) : b < w.heap.size ∧ v.ownBlock ≠ some b := ⟨h.2.1, h.2.2⟩
section
variable {α : Type} {V : Val α} {e sz : Nat} {w w' : World} {base : Nat} {S : Nat → Prop} {v : Value} {xs : List α}
theorem OwnV.laterx (hV : Tells V sz) {lo hi : Nat} (h : OwnV V e sz w base (Fx lo hi w v) v xs) (hb : Below w.heap.size w w') : OwnV V e sz w' base (Fx lo hi w' v) v xs :=
  h.kept hV (only_of_below hb none) (by cases v.ownBlock <;> simp) (fun b hb' => ⟨⟨hb'.1, Nat.lt_of_lt_of_le hb'.2.1 hb.size, hb'.2.2⟩, hb'.2.1, by simp⟩)
/-- one thing of a row of the call's own, as it lies -/
theorem OwnV.item (hV : Tells V sz) {A : Option Addr} {n c i : Nat} (h : OwnV V e sz w base S (.slice A n c) xs) (hi : i < xs.length) : ∃ b, A = some ⟨b, 0, none⟩ ∧ base ≤ b ∧ b < w.heap.size ∧ AtV V w S b (i * sz) xs[i] := by
  have hlt := h.lt
  obtain ⟨cells, hown, hels⟩ := h
  rcases hown.2 with ⟨he, h0⟩ | ⟨g, cap, cur, he, hb, hh, hn, hcap, hcs, htake⟩
  · omega
  · simp only [Value.slice.injEq] at he
    obtain ⟨rfl, rfl, rfl⟩ := he
    have := Cels.at_ hV (w := w) (S := S) (g := g) (cells := cells) (fun j u hu => by
      have := hown.cells (g := g) rfl j u hu
      rwa [Go.WideShapes.add_plain, Nat.zero_add] at this) xs 0 cells hels (fun j => by rw [Nat.zero_mul, Nat.zero_add]) i xs[i] (List.getElem?_eq_getElem hi)
    rw [Nat.zero_add] at this
    exact ⟨g, rfl, (hlt g rfl).1, (hlt g rfl).2, this⟩
end

set_option maxRecDepth 100000 in
set_option maxHeartbeats 8000000 in
theorem refValues_any (A1 A2 A3 : Option Addr) (n1 c1 n2 c2 n3 c3 : Nat) (a : AskD) (AM : Option Addr) (nm cm : Nat) (ms : List MeaningD) (w : World) (ha : AskIn w w.heap.size A1 A2 A3 n1 n2 n3 a) (hc1 : n1 ≤ c1) (hms : ArrB AtMeaning 5 w w.heap.size AM nm ms) :
    Calls Tryz.prog 6 #[.agg #[.slice A1 n1 c1, .slice A2 n2 c2, .slice A3 n3 c3], .agg #[.slice AM nm cm]] w (ValuesP w (meanValF a ms)) := by
  obtain ⟨hb0, hk0, hm0, hf0, hs0⟩ := boxes3 w 26 29 32 #[.slice A1 n1 c1, .slice A2 n2 c2, .slice A3 n3 c3] #[.slice AM nm cm] #[.int .i64 0, .int .i64 0]
  obtain ⟨X0, hX0⟩ : ∃ X0, ((w.alloc (.cells #[.slice A1 n1 c1, .slice A2 n2 c2, .slice A3 n3 c3] 26)).alloc (.cells #[.slice AM nm cm] 29)).alloc (.cells #[.int .i64 0, .int .i64 0] 32) = X0 := ⟨_, rfl⟩
  rw [hX0] at hb0 hk0 hm0 hf0 hs0
  have hI0 : ValsI w X0 #[.slice A1 n1 c1, .slice A2 n2 c2, .slice A3 n3 c3] #[.slice AM nm cm] none 0 [] := ⟨hb0, hk0, hm0, hf0, Arr.nil_⟩
  obtain ⟨qc, qa, hq⟩ : ∃ qc qa, meansF a ms = (qc, qa) := ⟨_, _, rfl⟩
  have HC := Lib.hid (meanCheckR_any A1 A2 A3 n1 c1 n2 c2 n3 c3 a AM nm cm ms qc qa X0 (ha.below hb0 hb0.size) hc1 (ArrB.below hms stays_meaning hb0 hb0.size) hq)
  have HX0 := Lib.hid hX0
  have HI0 := Lib.hid hI0
  have HQ := Lib.hid hq
  have HRO := Lib.hid (And.intro ha (And.intro hms hc1))
  have x0 : X0.cell? ⟨w.heap.size, 0, none⟩ = some (.slice A1 n1 c1) := hk0.cell 0
  have x1 : X0.cell? ⟨w.heap.size, 1, none⟩ = some (.slice A2 n2 c2) := hk0.cell 1
  have x2 : X0.cell? ⟨w.heap.size, 2, none⟩ = some (.slice A3 n3 c3) := hk0.cell 2
  have x3 : X0.cell? ⟨w.heap.size + 1, 0, none⟩ = some (.slice AM nm cm) := hm0.cell 0
  have hzx : w.heap.size + 2 < X0.heap.size := hf0.lt
  clear hb0 hk0 hm0 hf0 hs0 hX0 hI0 hq ha hms hc1
  go_enter Tryz.func6, Tryz.ntmps6
  go_wp2_with fail
  rw [HX0.out]
  refine HC.out.mono ?_
  rintro e w3 ⟨rfl, hb3⟩
  have hI3 := HI0.out.keep hb3
  have hI4 := hI3.keep ((Below.refl w3.heap.size w3).alloc (Nat.le_refl _) (.cells #[.int .i64 qc, .int .i64 qa] 32))
  have hfx := Blk.new w3 32 #[.int .i64 qc, .int .i64 qa]
  clear hb3 x0 x1 x2 x3 hzx HC HX0 HI0 hI3
  go_upto_region 2 with fail
  generalize w3.alloc (.cells #[.int .i64 qc, .int .i64 qa] 32) = Y at hI4 hfx ⊢
  generalize w3.heap.size = g at hfx ⊢
  have f0 : Y.cell? ⟨g, 0, none⟩ = some (.int .i64 qc) := hfx.cell 0
  have f1 : Y.cell? ⟨g, 1, none⟩ = some (.int .i64 qa) := hfx.cell 1
  have hzg : g < Y.heap.size := hfx.lt
  by_cases hqc : qc = 0
  · subst hqc
    obtain ⟨-, hs0, hmo⟩ := meansF_ok (a := a) (ms := ms) (by rw [HQ.out])
    have hR : meanValF a ms = valuesF a.decls ms (sortsF a).1 a.nodes 0 [] := by rw [meanValF, HQ.out, if_neg (by simp)]
    have q0 : ((0 : Int) != 0) = false := by simp
    have x0 : Y.cell? ⟨w.heap.size, 0, none⟩ = some (.slice A1 n1 c1) := hI4.ask.cell 0
    have x1 : Y.cell? ⟨w.heap.size, 1, none⟩ = some (.slice A2 n2 c2) := hI4.ask.cell 1
    have x2 : Y.cell? ⟨w.heap.size, 2, none⟩ = some (.slice A3 n3 c3) := hI4.ask.cell 2
    have hzx : w.heap.size < Y.heap.size := hI4.ask.lt
    have HS := Lib.hid (askSorts_any A1 A2 A3 n1 c1 n2 c2 n3 c3 a Y (HRO.out.1.below hI4.below hI4.below.size))
    have HM := Lib.hid (And.intro hs0 (And.intro hmo hR))
    have HI4 := Lib.hid hI4
    clear hfx hI4 hs0 hmo hR
    go_wp2_with fail
    refine HS.out.mono ?_
    rintro e w5 ⟨As, cs, rfl, hb5, hs1, hs2, hsr⟩
    have hI5 : ValsI w w5 #[.slice A1 n1 c1, .slice A2 n2 c2, .slice A3 n3 c3] #[.slice AM nm cm] As (sortsF a).1.length (sortsF a).1 := by
      have h := HI4.out.keep hb5
      exact ⟨h.below, h.ask, h.wld, h.flt, hsr.keep stays_int (fun b hb => hb.2) (fun _ _ _ => rfl)⟩
    generalize (sortsF a).2.1 = rc
    generalize (sortsF a).2.2 = ra
    have hI6 := hI5.keep ((Below.refl w5.heap.size w5).alloc (Nat.le_refl _) (.cells #[.int .i64 rc, .int .i64 ra] 32))
    clear hI5 hb5 hsr hs1 hs2 x0 x1 x2 hzx f0 f1 hzg HS HI4 q0
    go_upto_region 5 with fail
    generalize w5.alloc (.cells #[.int .i64 rc, .int .i64 ra] 32) = X at hI6 ⊢
    have hs0 := HM.out.1
    have hsl := (sortsF_ok hs0).2.1
    have hl2 := HRO.out.1.nodes.len
    have hn200 := (sortsF_ok hs0).2.2.2.2.1
    have HNK : Hid (∀ (j : Nat) x, a.nodes[j]? = some x → NodeOk a.decls j (sortsF a).1 x ((sortsF a).1.getD j 0)) := fun j x hx => sorts_nodes hs0 hx
    have HSG : Hid (∀ j, j < a.nodes.length → sortB ((sortsF a).1.getD j 0) = true) := fun j hj => sorts_good hs0 (j + 1) j (Nat.lt_succ_self j) hj
    have hR := HM.out.2.2
    generalize (sortsF a).1 = ss at hI6 hsl HNK HSG hR ⊢
    obtain ⟨R, hRR⟩ : ∃ R, valuesF a.decls ms ss a.nodes 0 [] = R := ⟨_, rfl⟩
    rw [hRR] at hR
    have HR := Lib.hid hR
    have HR0 := Lib.hid hRR
    have HL := Lib.hid (And.intro hsl (And.intro hl2 hn200))
    have HI6 := Lib.hid hI6
    have x1 : X.cell? ⟨w.heap.size, 1, none⟩ = some (.slice A2 n2 c2) := hI6.ask.cell 1
    have hzx : w.heap.size < X.heap.size := hI6.ask.lt
    clear hI6 hs0 hsl hl2 hR hRR
    have hn2I : (n2 : Int) ≤ 200 := by have := HL.out.2.1; have := HL.out.2.2; omega
    go_wp2_with fail
    clear x1 hzx
    go_loopw [9, 10] (fun s9 s10 wr => ∃ (k : Nat) (vals : List ValueD), k ≤ n2 ∧ s10 = .int .i64 k ∧ vals.length = k ∧ Hid (GoodTo ss vals) ∧ OwnV VValue 48 4 wr X.heap.size (Fx w.heap.size X.heap.size wr s9) s9 vals ∧ Below X.heap.size X wr ∧ Hid (valuesF a.decls ms ss (a.nodes.drop k) k vals = R)) (fun _ s10 _ => n2 - (intOf s10).toNat)
    case atStart => exact ⟨0, [], Nat.zero_le _, rfl, rfl, GoodTo.nil ss, OwnV.none_ _ _ _ _ _ _, Below.refl _ _, HR0⟩
    case round =>
      clear HR0
      obtain ⟨k, vals, hk, rfl, hvl, HG, hown, hbel, HK⟩ := hrel
      have hI := HI6.out.keep hbel
      have x1 : wr.cell? ⟨w.heap.size, 1, none⟩ = some (.slice A2 n2 c2) := hI.ask.cell 1
      have hzx : w.heap.size < wr.heap.size := hI.ask.lt
      by_cases hlt : k < n2
      · obtain ⟨b, off, hx, K, kn, kc, rfl, hb, q0, q1, q2, q3, q4, hkc, hkm, hka, i0, i1, i2, i3⟩ := nodes_get (HRO.out.1.nodes.below stays_node hI.below (Nat.le_refl _)) hlt
        have hxn := List.getElem?_eq_getElem hx
        have e1 := HK.out
        rw [drop_cons hx, valuesF] at e1
        generalize a.nodes[k] = x at q0 q2 q3 q4 hka i0 i1 i2 i3 hxn e1
        have hOk := HNK.out k x hxn
        obtain ⟨hkz, hk8⟩ := hOk.kids
        have hgl := kids_good (x := x) HG.out (fun z hz => by rw [hvl]; exact hkz z hz)
        have hkl := hka.len
        obtain ⟨bs, offs, hxs, hAs, hbs, hcs, -, -⟩ := Arr_get hI.sorts (i := k) (by have := HL.out.1; have := HL.out.2.1; omega)
        subst hAs
        have hsg : ss[k] = ss.getD k 0 := by rw [List.getD_eq_getElem?_getD, List.getElem?_eq_getElem hxs]; rfl
        rw [hsg] at hcs
        obtain ⟨A9, c9, he9, hc9, hc9m⟩ := hown.len
        rw [hvl] at he9 hc9
        subst he9
        obtain ⟨r, hr⟩ : ∃ r, valF a.decls ms x (bitsF (ss.getD k 0) (kidSorts ss x)) (kidVals vals x) = r := ⟨_, rfl⟩
        rw [hr] at e1
        have HPL := Lib.hid (And.intro hOk (And.intro hgl (And.intro hkz (And.intro hkl (And.intro hk8 (And.intro hr hvl))))))
        have HE1 := Lib.hid e1
        obtain ⟨so, hsoe⟩ : ∃ so, ss.getD k 0 = so := ⟨_, rfl⟩
        rw [hsoe] at hcs HPL
        have HSO := Lib.hid hsoe
        clear hsoe
        have HOW := Lib.hid hown
        have HKA := Lib.hid hka
        have hkI : (k : Int) < (n2 : Int) := by omega
        have hkS : (k : Int) < (ss.length : Int) := by have := HL.out.1; have := HL.out.2.1; omega
        have HBK := Lib.hid (And.intro hb (And.intro hbs (And.intro hbel hI)))
        have H9 := Lib.hid (And.intro hc9 hc9m)
        have HCN := Lib.hid (And.intro q0 (And.intro q1 (And.intro q2 (And.intro q3 (And.intro q4 hcs)))))
        have hk8I : kn ≤ 8 := by omega
        have H0 : Hid (OwnV VValue 48 4 wr wr.heap.size (Fx w.heap.size X.heap.size wr (.slice A9 k c9)) (.slice none 0 0) ((kidVals vals x).take 0)) := OwnV.none_ _ _ _ _ _ _
        clear hx hxn e1 HK hOk hkz hk8 hgl hkl hbs hxs hsg hown hr hI hka hb hkc hkm hc9 hc9m i0 i1 i2 i3 hbel hvl q0 q1 q2 q3 q4 hcs
        go_wp2_with fail
        clear x1 hzx
        obtain ⟨wo, rfl⟩ : ∃ wo : World, wo = wr := ⟨_, rfl⟩
        go_loopw [11, 12] (fun s11 s12 wi => ∃ (j : Nat), j ≤ kn ∧ s12 = .int .i64 j ∧ OwnV VValue 48 4 wi wo.heap.size (Fx w.heap.size X.heap.size wo (.slice A9 k c9)) s11 ((kidVals vals x).take j) ∧ Below wo.heap.size wo wi) (fun _ s12 _ => kn - (intOf s12).toNat)
        case atStart => exact ⟨0, Nat.zero_le _, rfl, H0.out, Below.refl _ _⟩
        case round =>
          clear H0
          obtain ⟨j, hj, rfl, hown2, hbi⟩ := hrel
          have hIi := HBK.out.2.2.2.keep hbi
          have hbow : b < wo.heap.size := Nat.lt_of_lt_of_le HBK.out.1 HBK.out.2.2.2.below.size
          have x1 : wr.cell? ⟨w.heap.size, 1, none⟩ = some (.slice (some ⟨b, off, none⟩) n2 c2) := hIi.ask.cell 1
          have hzx : w.heap.size < wr.heap.size := hIi.ask.lt
          have q1 : wr.cell? ⟨b, off + k * 5 + 1, none⟩ = some (.slice K kn kc) := (hbi.cell (p := ⟨b, off + k * 5 + 1, none⟩) hbow).trans HCN.out.2.1
          by_cases hjlt : j < kn
          · obtain ⟨b3, off3, hx3, rfl, hb3, hc3, -, -⟩ := ints_get (HKA.out.below stays_int (hbi.mono HBK.out.2.2.2.below.size) (Nat.le_refl _)) hjlt
            obtain ⟨hz0, hzk⟩ := HPL.out.2.2.1 _ (List.getElem_mem hx3)
            have hkv : j < (kidVals vals x).length := by simpa [kidVals] using hx3
            have htk := take_snoc_l hkv
            have hvn : x.kids[j].toNat < vals.length := by have := HPL.out.2.2.2.2.2.2; omega
            have hve : (kidVals vals x)[j] = vals[x.kids[j].toNat] := by simp [kidVals, kidV, List.getD_eq_getElem?_getD, List.getElem?_eq_getElem hvn]
            rw [hve] at htk
            obtain ⟨b2, rfl, hb2l, hb2, cs2, hvv, hcc2⟩ := HOW.out.item tells_value hvn
            obtain ⟨A7, n7, c7, rfl, ⟨iv0, iv1, iv2⟩, hn7, hc7, hca7⟩ := hvv
            have hv0 := hcc2 0 _ rfl
            have hv1 := hcc2 1 _ rfl
            have hv2 := hcc2 2 _ rfl
            have hv3 := hcc2 3 _ rfl
            generalize vals[x.kids[j].toNat] = y at htk hv0 hv1 hv3 hca7 iv0 iv1 iv2 hv2
            generalize x.kids[j] = z at hz0 hzk hv0 hv1 hv2 hv3 hc3
            obtain ⟨yn, yd, yc, yr⟩ := y
            dsimp only at hv0 hv1 hv3 hca7 iv0 iv1 iv2
            have v0 : wr.cell? ⟨b2, z.toNat * 4, none⟩ = some (.int .i64 yn) := (hbi.cell (p := ⟨b2, z.toNat * 4, none⟩) hb2).trans hv0
            have v1 : wr.cell? ⟨b2, z.toNat * 4 + 1, none⟩ = some (.int .i64 yd) := (hbi.cell (p := ⟨b2, z.toNat * 4 + 1, none⟩) hb2).trans hv1
            have v2 : wr.cell? ⟨b2, z.toNat * 4 + 2, none⟩ = some (.slice A7 n7 c7) := (hbi.cell (p := ⟨b2, z.toNat * 4 + 2, none⟩) hb2).trans hv2
            have v3 : wr.cell? ⟨b2, z.toNat * 4 + 3, none⟩ = some (.int .i64 yr) := (hbi.cell (p := ⟨b2, z.toNat * 4 + 3, none⟩) hb2).trans hv3
            have hbZ : Below wr.heap.size wr (wr.alloc (.cells #[.int .i64 yn, .int .i64 yd, .slice A7 n7 c7, .int .i64 yr] 48)) := (Below.refl _ _).alloc (Nat.le_refl _) _
            have hoZ : OwnV VValue 48 4 (wr.alloc (.cells #[.int .i64 yn, .int .i64 yd, .slice A7 n7 c7, .int .i64 yr] 48)) wo.heap.size (Fx w.heap.size X.heap.size wo (.slice (some ⟨b2, 0, none⟩) k c9)) u11 ((kidVals vals x).take j) := hown2.kept tells_value (only_of_below hbZ none) (by cases u11.ownBlock <;> simp) (fun b hb => ⟨hb, Nat.lt_of_lt_of_le hb.2.1 hbi.size, by simp⟩)
            have hkZ := Blk.new wr 48 #[.int .i64 yn, .int .i64 yd, .slice A7 n7 c7, .int .i64 yr]
            have hvZ : VValue (wr.alloc (.cells #[.int .i64 yn, .int .i64 yd, .slice A7 n7 c7, .int .i64 yr] 48)) (Fx w.heap.size X.heap.size wo (.slice (some ⟨b2, 0, none⟩) k c9)) [.int .i64 yn, .int .i64 yd, .slice A7 n7 c7, .int .i64 yr] ⟨yn, yd, yc, yr⟩ :=
              ⟨A7, n7, c7, rfl, ⟨iv0, iv1, iv2⟩, hn7, hc7, hca7.keep stays_cell (fun _ h => h) (fun b o hb => ((hbi.trans (hbZ.mono hbi.size)).cell (p := ⟨b, o, none⟩) hb.2.1))⟩
            have hlen : ((kidVals vals x).take j).length ≤ 8 := by rw [List.length_take]; omega
            have hzs : wo.heap.size ≤ (wr.alloc (.cells #[.int .i64 yn, .int .i64 yd, .slice A7 n7 c7, .int .i64 yr] 48)).heap.size := (hbi.trans (hbZ.mono hbi.size)).size
            have hSO : ∀ b, Fx w.heap.size X.heap.size wo (.slice (some ⟨b2, 0, none⟩) k c9) b → b < (wr.alloc (.cells #[.int .i64 yn, .int .i64 yd, .slice A7 n7 c7, .int .i64 yr] 48)).heap.size ∧ u11.ownBlock ≠ some b := fun b hb => ⟨Nat.lt_of_lt_of_le hb.2.1 hzs, fun e => by have := (hown2.lt b e).1; have := hb.2.1; omega⟩
            have HO := Lib.hid (And.intro hoZ (And.intro hkZ (And.intro hvZ (And.intro hlen (And.intro (hbi.trans (hbZ.mono hbi.size)) hSO)))))
            have HTK := Lib.hid htk
            have hbL := hown2.lt
            have HBL := Lib.hid hbL
            have hjI : (j : Int) < (kn : Int) := by omega
            clear hx3 hb3 hkv hvn hve htk hv0 hv1 hv2 hv3 hca7 iv0 iv1 iv2 hcc2 hown2 hbi hIi hbZ hoZ hkZ hvZ hlen hn7 hc7 hb2l hb2 hSO hbL
            go_wp2_with (first | (at_builtin; go_loud (refine wpList_append_item rfl _ _ _ rfl rowValues tells_value (v := u11) (xs := (kidVals vals x).take j) (base := wo.heap.size) (S := Fx w.heap.size X.heap.size wo (.slice (some ⟨b2, 0, none⟩) k c9)) rfl HO.out.1 (g := wr.heap.size) (cs := #[.int .i64 yn, .int .i64 yd, .slice A7 n7 c7, .int .i64 yr]) rfl HO.out.2.1 (y := ⟨yn, yd, yc, yr⟩) HO.out.2.2.1 HO.out.2.2.2.2.2 (by have := HO.out.2.2.2.1; unfold maxLen; omega) (by have := HO.out.2.2.2.1; omega) hzs ?_); intro v7 w7 hown7 hgrow7 hat7; have HB7 := Lib.hid (And.intro hown7 (below_then HO.out.2.2.2.2.1 hgrow7 hzs (fun x hx => (HO.out.1.lt x hx).1))); clear hown7 hgrow7 hat7) | fail)
            go_roundw
            case rel => exact ⟨j + 1, by omega, by go_num, by rw [HTK.out]; exact HB7.out.1, HB7.out.2⟩
            case measure => simp [intOf]; omega
          · obtain rfl : kn = j := by omega
            rw [List.take_of_length_le (by simp only [kidVals, List.length_map]; have := HPL.out.2.2.2.1; omega)] at hown2
            have hgA : ∀ g, (Value.slice A9 k c9).ownBlock = some g → X.heap.size ≤ g ∧ g < wo.heap.size := HOW.out.lt
            obtain ⟨A12, c12, he12, hc12, hc12m, hvs⟩ := hown2.reads (E := AtValue) tells_value (fun _ _ _ _ _ h => atV_value h) (S' := fun b => (Fx w.heap.size X.heap.size wo (.slice A9 k c9)) b ∨ (wo.heap.size ≤ b ∧ b < wr.heap.size)) (fun b hb => .inl hb) (fun g hg => .inr (hown2.lt g hg))
            have hvl2 : (kidVals vals x).length = kn := by simp only [kidVals, List.length_map]; exact HPL.out.2.2.2.1
            rw [hvl2] at he12 hvs
            subst he12
            have hXsz : w.heap.size ≤ X.heap.size := HI6.out.below.size
            have hSw : ∀ b, ((Fx w.heap.size X.heap.size wo (.slice A9 k c9)) b ∨ (wo.heap.size ≤ b ∧ b < wr.heap.size)) → b < wr.heap.size := fun b hb => by
              rcases hb with hb | hb
              · exact Nat.lt_of_lt_of_le hb.2.1 hbi.size
              · exact hb.2
            have hBmS : ∀ b, b < w.heap.size → ((Fx w.heap.size X.heap.size wo (.slice A9 k c9)) b ∨ (wo.heap.size ≤ b ∧ b < wr.heap.size)) := fun b hb => .inl ⟨.inl hb, Nat.lt_of_lt_of_le hb HBK.out.2.2.2.below.size, fun e => by have := (hgA b e).1; omega⟩
            have HV : Hid (∀ W, Below wr.heap.size wr W → Calls Tryz.prog 17 #[.agg #[.slice A1 n1 c1, .slice (some ⟨b, off, none⟩) n2 c2, .slice A3 n3 c3], .agg #[.slice AM nm cm], .agg #[.int .i64 x.op, .slice K kn kc, .int .i64 x.n, .int .i64 x.d, .string x.name], .int .i64 so, .slice A12 kn c12] W (ValueP (fun b => (Fx w.heap.size X.heap.size wo (.slice A9 k c9)) b ∨ (wo.heap.size ≤ b ∧ b < wr.heap.size)) W r)) := fun W hW => by
              have hbw0 : Below w.heap.size w W := hIi.below.trans (hW.mono hIi.below.size)
              have := refValue_any (ds := a.decls) (ms := ms) x so (kidVals vals x) A1 (some ⟨b, off, none⟩) A3 n1 c1 n2 c2 n3 c3 AM nm cm K kn kc A12 kn c12 (fun b => (Fx w.heap.size X.heap.size wo (.slice A9 k c9)) b ∨ (wo.heap.size ≤ b ∧ b < wr.heap.size)) w.heap.size W (HRO.out.1.decls.below stays_decl hbw0 hbw0.size) HRO.out.1.m1 (ArrB.below HRO.out.2.1 stays_meaning hbw0 (Nat.le_refl _)) hBmS hbw0.size HM.out.2.1 HPL.out.1 HPL.out.2.1 (hvs.keep stays_value (fun _ h => h) (fun b o h => hW.cell (p := ⟨b, o, none⟩) (hSw b h))) (fun b hb => Nat.lt_of_lt_of_le (hSw b hb) hW.size)
              rw [HPL.out.2.2.2.2.2.1] at this
              exact this
            have a0 : wr.cell? ⟨w.heap.size, 0, none⟩ = some (.slice A1 n1 c1) := hIi.ask.cell 0
            have a1 : wr.cell? ⟨w.heap.size, 1, none⟩ = some (.slice (some ⟨b, off, none⟩) n2 c2) := hIi.ask.cell 1
            have a2 : wr.cell? ⟨w.heap.size, 2, none⟩ = some (.slice A3 n3 c3) := hIi.ask.cell 2
            have a3 : wr.cell? ⟨w.heap.size + 1, 0, none⟩ = some (.slice AM nm cm) := hIi.wld.cell 0
            have a4 : wr.cell? ⟨bs, offs + k, none⟩ = some (.int .i64 so) := (hbi.cell (p := ⟨bs, offs + k, none⟩) HBK.out.2.1).trans HCN.out.2.2.2.2.2
            have a5 : wr.cell? ⟨b, off + k * 5, none⟩ = some (.int .i64 x.op) := (hbi.cell (p := ⟨b, off + k * 5, none⟩) hbow).trans HCN.out.1
            have a6 : wr.cell? ⟨b, off + k * 5 + 1, none⟩ = some (.slice K kn kc) := q1
            have a7 : wr.cell? ⟨b, off + k * 5 + 2, none⟩ = some (.int .i64 x.n) := (hbi.cell (p := ⟨b, off + k * 5 + 2, none⟩) hbow).trans HCN.out.2.2.1
            have a8 : wr.cell? ⟨b, off + k * 5 + 3, none⟩ = some (.int .i64 x.d) := (hbi.cell (p := ⟨b, off + k * 5 + 3, none⟩) hbow).trans HCN.out.2.2.2.1
            have a9 : wr.cell? ⟨b, off + k * 5 + 4, none⟩ = some (.string x.name) := (hbi.cell (p := ⟨b, off + k * 5 + 4, none⟩) hbow).trans HCN.out.2.2.2.2.1
            have z0 : w.heap.size < wr.heap.size := hIi.ask.lt
            have z1 : w.heap.size + 1 < wr.heap.size := hIi.wld.lt
            have z2 : b < wr.heap.size := Nat.lt_of_lt_of_le hbow hbi.size
            have z3 : bs < wr.heap.size := Nat.lt_of_lt_of_le HBK.out.2.1 hbi.size
            have ne0 : wr.heap.size ≠ w.heap.size := by omega
            have ne1 : wr.heap.size ≠ w.heap.size + 1 := by omega
            have ne2 : wr.heap.size ≠ b := by omega
            have ne3 : wr.heap.size ≠ bs := by omega
            have hbXw : Below X.heap.size X wr := HBK.out.2.2.1.trans (hbi.mono HBK.out.2.2.1.size)
            have HH := Lib.hid (And.intro hIi (And.intro (HOW.out.laterx tells_value hbi) hbXw))
            have HSZ := Lib.hid (And.intro hbi.size (And.intro HBK.out.2.2.1.size hXsz))
            have HGA := Lib.hid hgA
            clear hIi hbXw hvs hvl2 hown2 hbi hc12 hc12m hjlt hj hgA hXsz hSw hBmS x1 hzx q1 hbow
            cases r with
            | none =>
              go_upto_region 14 with fail
              go_region_held3 (fun w' => w'.cell? ⟨w.heap.size, 0, none⟩ = some (.slice A1 n1 c1) ∧ w'.cell? ⟨w.heap.size, 1, none⟩ = some (.slice (some ⟨b, off, none⟩) n2 c2) ∧ w'.cell? ⟨w.heap.size, 2, none⟩ = some (.slice A3 n3 c3) ∧ w'.cell? ⟨w.heap.size + 1, 0, none⟩ = some (.slice AM nm cm) ∧ w'.cell? ⟨bs, offs + k, none⟩ = some (.int .i64 so) ∧ w'.cell? ⟨b, off + k * 5, none⟩ = some (.int .i64 x.op) ∧ w'.cell? ⟨b, off + k * 5 + 1, none⟩ = some (.slice K kn kc) ∧ w'.cell? ⟨b, off + k * 5 + 2, none⟩ = some (.int .i64 x.n) ∧ w'.cell? ⟨b, off + k * 5 + 3, none⟩ = some (.int .i64 x.d) ∧ w'.cell? ⟨b, off + k * 5 + 4, none⟩ = some (.string x.name))
                ((try dsimp only) <;> (repeat' apply And.intro) <;> go_keep)
                (first
                  | (go_simp
                     go_at_call 17
                     refine (HV.out _ (by first | exact below_drewN (Below.refl _ _) 1 | exact below_drewN ((Below.refl _ _).alloc (Nat.le_refl _) _) 1)).mono ?_
                     rintro e w8 ⟨hb8, rfl⟩
                     have HB8 : Hid (Below wr.heap.size wr w8) := below_join (by first | exact below_drewN (Below.refl _ _) 1 | exact below_drewN ((Below.refl _ _).alloc (Nat.le_refl _) _) 1) hb8
                     have r0 : w8.cell? ⟨w.heap.size, 0, none⟩ = some (.slice A1 n1 c1) := by rw [HB8.out.cell (p := ⟨w.heap.size, 0, none⟩) z0]; exact a0
                     have r1 : w8.cell? ⟨w.heap.size, 1, none⟩ = some (.slice (some ⟨b, off, none⟩) n2 c2) := by rw [HB8.out.cell (p := ⟨w.heap.size, 1, none⟩) z0]; exact a1
                     have r2 : w8.cell? ⟨w.heap.size, 2, none⟩ = some (.slice A3 n3 c3) := by rw [HB8.out.cell (p := ⟨w.heap.size, 2, none⟩) z0]; exact a2
                     have r3 : w8.cell? ⟨w.heap.size + 1, 0, none⟩ = some (.slice AM nm cm) := by rw [HB8.out.cell (p := ⟨w.heap.size + 1, 0, none⟩) z1]; exact a3
                     have r4 : w8.cell? ⟨bs, offs + k, none⟩ = some (.int .i64 so) := by rw [HB8.out.cell (p := ⟨bs, offs + k, none⟩) z3]; exact a4
                     have r5 : w8.cell? ⟨b, off + k * 5, none⟩ = some (.int .i64 x.op) := by rw [HB8.out.cell (p := ⟨b, off + k * 5, none⟩) z2]; exact a5
                     have r6 : w8.cell? ⟨b, off + k * 5 + 1, none⟩ = some (.slice K kn kc) := by rw [HB8.out.cell (p := ⟨b, off + k * 5 + 1, none⟩) z2]; exact a6
                     have r7 : w8.cell? ⟨b, off + k * 5 + 2, none⟩ = some (.int .i64 x.n) := by rw [HB8.out.cell (p := ⟨b, off + k * 5 + 2, none⟩) z2]; exact a7
                     have r8 : w8.cell? ⟨b, off + k * 5 + 3, none⟩ = some (.int .i64 x.d) := by rw [HB8.out.cell (p := ⟨b, off + k * 5 + 3, none⟩) z2]; exact a8
                     have r9 : w8.cell? ⟨b, off + k * 5 + 4, none⟩ = some (.string x.name) := by rw [HB8.out.cell (p := ⟨b, off + k * 5 + 4, none⟩) z2]; exact a9
                     try
                       have k9 : Blk w8 wr.heap.size 48 #[.int .i64 0, .int .i64 0, .slice none 0 0, .int .i64 0] := (Blk.new wr 48 #[.int .i64 0, .int .i64 0, .slice none 0 0, .int .i64 0]).below (below_of_drew hb8) (by simp)
                       have K9 := Lib.hid k9
                       have g0 : w8.cell? ⟨wr.heap.size, 0, none⟩ = some (.int .i64 0) := k9.cell 0
                       have g1 : w8.cell? ⟨wr.heap.size, 1, none⟩ = some (.int .i64 0) := k9.cell 1
                       have g2 : w8.cell? ⟨wr.heap.size, 2, none⟩ = some (.slice none 0 0) := k9.cell 2
                       have g3 : w8.cell? ⟨wr.heap.size, 3, none⟩ = some (.int .i64 0) := k9.cell 3
                       have f0 : w8.frozen? ⟨wr.heap.size, 0, none⟩ = false := k9.frozen 0
                       have f1 : w8.frozen? ⟨wr.heap.size, 1, none⟩ = false := k9.frozen 1
                       have f2 : w8.frozen? ⟨wr.heap.size, 2, none⟩ = false := k9.frozen 2
                       have f3 : w8.frozen? ⟨wr.heap.size, 3, none⟩ = false := k9.frozen 3
                       have g4 : wr.heap.size < w8.heap.size := k9.lt
                       clear k9
                     clear hb8)
                  | fail)
              all_goals clear a0 a1 a2 a3 a4 a5 a6 a7 a8 a9 ne0 ne1 ne2 ne3 z0 z1 z2 z3 r0 r1 r2 r3 r4 r5 r6 r7 r8 r9
              · have hbZ : Below wr.heap.size wr (w8.alloc (.cells #[.int .i64 0, .int .i64 0, .slice none 0 0, .int .i64 0] 48)) := HB8.out.alloc HB8.out.size _
                generalize w8.alloc (.cells #[.int .i64 0, .int .i64 0, .slice none 0 0, .int .i64 0] 48) = Z at hbZ ⊢
                have hIZ := HH.out.1.keep hbZ
                have hm := hIZ.flt
                have hRe : R = ([], 10, (k : Int)) := HE1.out.symm
                have HRE := Lib.hid hRe
                have m0 : Z.cell? ⟨w.heap.size + 2, 0, none⟩ = some (.int .i64 0) := hm.cell 0
                have m1 : Z.cell? ⟨w.heap.size + 2, 1, none⟩ = some (.int .i64 0) := hm.cell 1
                have u0 : Z.frozen? ⟨w.heap.size + 2, 0, none⟩ = false := hm.frozen 0
                have u1 : Z.frozen? ⟨w.heap.size + 2, 1, none⟩ = false := hm.frozen 1
                have zm : w.heap.size + 2 < Z.heap.size := hm.lt
                have HB := Lib.hid (And.intro hIZ.below hm)
                clear hIZ hm hRe hbZ
                go_wp2_with fail
                clear m0 m1 u0 u1
                have hz1 := two_blk HB.out.2 (.int .i64 10) (.int .i64 k)
                have hz2 : Below w.heap.size w (two Z (w.heap.size + 2) (.int .i64 10) (.int .i64 k)) := two_below (g := w.heap.size + 2) HB.out.1 (Nat.le_add_right _ _) (.int .i64 10) (.int .i64 k)
                have e4 : (Z.setCell ⟨w.heap.size + 1 + 1, 0, none⟩ (.int .i64 10)).setCell ⟨w.heap.size + 1 + 1, 1, none⟩ (.int .i64 k) = two Z (w.heap.size + 2) (.int .i64 10) (.int .i64 k) := rfl
                rw [e4]
                clear e4
                generalize two Z (w.heap.size + 2) (.int .i64 10) (.int .i64 k) = Z2 at hz1 hz2 ⊢
                have d0 := hz1.cell 0
                have d1 := hz1.cell 1
                simp only [List.getElem?_toArray, List.getElem?_cons_zero, List.getElem?_cons_succ] at d0 d1
                refine bodyPost_ret (v := .tuple #[.slice none 0 0, .agg #[.int .i64 10, .int .i64 k]]) (by simp [results, Tryz.results6, go_sem, d0, d1]) rfl ?_
                rw [HR.out, HRE.out]
                exact valuesP_nil hz2 _ _
              · clear g0 g1 g2 g3 f0 f1 f2 f3 g4
                have hbZ : Below wr.heap.size wr (put4 w8 wr.heap.size (.int .i64 0) (.int .i64 0) (.slice none 0 0) (.int .i64 0)) := put4_below HB8.out (Nat.le_refl _) _ _ _ _
                have e5 : (((w8.setCell ⟨wr.heap.size, 0, none⟩ (.int .i64 0)).setCell ⟨wr.heap.size, 1, none⟩ (.int .i64 0)).setCell ⟨wr.heap.size, 2, none⟩ (.slice none 0 0)).setCell ⟨wr.heap.size, 3, none⟩ (.int .i64 0) = put4 w8 wr.heap.size (.int .i64 0) (.int .i64 0) (.slice none 0 0) (.int .i64 0) := rfl
                rw [e5]
                clear e5
                generalize put4 w8 wr.heap.size (.int .i64 0) (.int .i64 0) (.slice none 0 0) (.int .i64 0) = Z at hbZ ⊢
                have hIZ := HH.out.1.keep hbZ
                have hm := hIZ.flt
                have hRe : R = ([], 10, (k : Int)) := HE1.out.symm
                have HRE := Lib.hid hRe
                have m0 : Z.cell? ⟨w.heap.size + 2, 0, none⟩ = some (.int .i64 0) := hm.cell 0
                have m1 : Z.cell? ⟨w.heap.size + 2, 1, none⟩ = some (.int .i64 0) := hm.cell 1
                have u0 : Z.frozen? ⟨w.heap.size + 2, 0, none⟩ = false := hm.frozen 0
                have u1 : Z.frozen? ⟨w.heap.size + 2, 1, none⟩ = false := hm.frozen 1
                have zm : w.heap.size + 2 < Z.heap.size := hm.lt
                have HB := Lib.hid (And.intro hIZ.below hm)
                clear hIZ hm hRe hbZ
                go_wp2_with fail
                clear m0 m1 u0 u1
                have hz1 := two_blk HB.out.2 (.int .i64 10) (.int .i64 k)
                have hz2 : Below w.heap.size w (two Z (w.heap.size + 2) (.int .i64 10) (.int .i64 k)) := two_below (g := w.heap.size + 2) HB.out.1 (Nat.le_add_right _ _) (.int .i64 10) (.int .i64 k)
                have e4 : (Z.setCell ⟨w.heap.size + 1 + 1, 0, none⟩ (.int .i64 10)).setCell ⟨w.heap.size + 1 + 1, 1, none⟩ (.int .i64 k) = two Z (w.heap.size + 2) (.int .i64 10) (.int .i64 k) := rfl
                rw [e4]
                clear e4
                generalize two Z (w.heap.size + 2) (.int .i64 10) (.int .i64 k) = Z2 at hz1 hz2 ⊢
                have d0 := hz1.cell 0
                have d1 := hz1.cell 1
                simp only [List.getElem?_toArray, List.getElem?_cons_zero, List.getElem?_cons_succ] at d0 d1
                refine bodyPost_ret (v := .tuple #[.slice none 0 0, .agg #[.int .i64 10, .int .i64 k]]) (by simp [results, Tryz.results6, go_sem, d0, d1]) rfl ?_
                rw [HR.out, HRE.out]
                exact valuesP_nil hz2 _ _
            | some v =>
              have HGS : Hid (GoodTo ss (vals ++ [v])) := HG.out.snoc (by
                have hgv := valF_good HM.out.2.1 HPL.out.1 HPL.out.2.1 (v := v) HPL.out.2.2.2.2.2.1
                rw [HPL.out.2.2.2.2.2.2, HSO.out]
                exact hgv)
              have HIV : Hid (I64 v.num ∧ I64 v.den ∧ I64 v.rest) := goodV_i64 (s := so) (valF_good HM.out.2.1 HPL.out.1 HPL.out.2.1 (v := v) HPL.out.2.2.2.2.2.1)
              obtain ⟨vn, vd, vc, vr⟩ := v
              go_upto_region 14 with fail
              go_region_held3 (fun w' => w'.cell? ⟨w.heap.size, 0, none⟩ = some (.slice A1 n1 c1) ∧ w'.cell? ⟨w.heap.size, 1, none⟩ = some (.slice (some ⟨b, off, none⟩) n2 c2) ∧ w'.cell? ⟨w.heap.size, 2, none⟩ = some (.slice A3 n3 c3) ∧ w'.cell? ⟨w.heap.size + 1, 0, none⟩ = some (.slice AM nm cm) ∧ w'.cell? ⟨bs, offs + k, none⟩ = some (.int .i64 so) ∧ w'.cell? ⟨b, off + k * 5, none⟩ = some (.int .i64 x.op) ∧ w'.cell? ⟨b, off + k * 5 + 1, none⟩ = some (.slice K kn kc) ∧ w'.cell? ⟨b, off + k * 5 + 2, none⟩ = some (.int .i64 x.n) ∧ w'.cell? ⟨b, off + k * 5 + 3, none⟩ = some (.int .i64 x.d) ∧ w'.cell? ⟨b, off + k * 5 + 4, none⟩ = some (.string x.name))
                ((try dsimp only) <;> (repeat' apply And.intro) <;> go_keep)
                (first
                  | (go_simp
                     go_at_call 17
                     refine (HV.out _ (by first | exact below_drewN (Below.refl _ _) 1 | exact below_drewN ((Below.refl _ _).alloc (Nat.le_refl _) _) 1)).mono ?_
                     rintro e w8 ⟨hb8, A8, c8, rfl, h81, h82, h83⟩
                     have HB8 : Hid (Below wr.heap.size wr w8) := below_join (by first | exact below_drewN (Below.refl _ _) 1 | exact below_drewN ((Below.refl _ _).alloc (Nat.le_refl _) _) 1) hb8
                     have HA8 := Lib.hid (And.intro h81 (And.intro h82 h83))
                     clear h81 h82 h83
                     have r0 : w8.cell? ⟨w.heap.size, 0, none⟩ = some (.slice A1 n1 c1) := by rw [HB8.out.cell (p := ⟨w.heap.size, 0, none⟩) z0]; exact a0
                     have r1 : w8.cell? ⟨w.heap.size, 1, none⟩ = some (.slice (some ⟨b, off, none⟩) n2 c2) := by rw [HB8.out.cell (p := ⟨w.heap.size, 1, none⟩) z0]; exact a1
                     have r2 : w8.cell? ⟨w.heap.size, 2, none⟩ = some (.slice A3 n3 c3) := by rw [HB8.out.cell (p := ⟨w.heap.size, 2, none⟩) z0]; exact a2
                     have r3 : w8.cell? ⟨w.heap.size + 1, 0, none⟩ = some (.slice AM nm cm) := by rw [HB8.out.cell (p := ⟨w.heap.size + 1, 0, none⟩) z1]; exact a3
                     have r4 : w8.cell? ⟨bs, offs + k, none⟩ = some (.int .i64 so) := by rw [HB8.out.cell (p := ⟨bs, offs + k, none⟩) z3]; exact a4
                     have r5 : w8.cell? ⟨b, off + k * 5, none⟩ = some (.int .i64 x.op) := by rw [HB8.out.cell (p := ⟨b, off + k * 5, none⟩) z2]; exact a5
                     have r6 : w8.cell? ⟨b, off + k * 5 + 1, none⟩ = some (.slice K kn kc) := by rw [HB8.out.cell (p := ⟨b, off + k * 5 + 1, none⟩) z2]; exact a6
                     have r7 : w8.cell? ⟨b, off + k * 5 + 2, none⟩ = some (.int .i64 x.n) := by rw [HB8.out.cell (p := ⟨b, off + k * 5 + 2, none⟩) z2]; exact a7
                     have r8 : w8.cell? ⟨b, off + k * 5 + 3, none⟩ = some (.int .i64 x.d) := by rw [HB8.out.cell (p := ⟨b, off + k * 5 + 3, none⟩) z2]; exact a8
                     have r9 : w8.cell? ⟨b, off + k * 5 + 4, none⟩ = some (.string x.name) := by rw [HB8.out.cell (p := ⟨b, off + k * 5 + 4, none⟩) z2]; exact a9
                     try
                       have k9 : Blk w8 wr.heap.size 48 #[.int .i64 0, .int .i64 0, .slice none 0 0, .int .i64 0] := (Blk.new wr 48 #[.int .i64 0, .int .i64 0, .slice none 0 0, .int .i64 0]).below (below_of_drew hb8) (by simp)
                       have K9 := Lib.hid k9
                       have g0 : w8.cell? ⟨wr.heap.size, 0, none⟩ = some (.int .i64 0) := k9.cell 0
                       have g1 : w8.cell? ⟨wr.heap.size, 1, none⟩ = some (.int .i64 0) := k9.cell 1
                       have g2 : w8.cell? ⟨wr.heap.size, 2, none⟩ = some (.slice none 0 0) := k9.cell 2
                       have g3 : w8.cell? ⟨wr.heap.size, 3, none⟩ = some (.int .i64 0) := k9.cell 3
                       have f0 : w8.frozen? ⟨wr.heap.size, 0, none⟩ = false := k9.frozen 0
                       have f1 : w8.frozen? ⟨wr.heap.size, 1, none⟩ = false := k9.frozen 1
                       have f2 : w8.frozen? ⟨wr.heap.size, 2, none⟩ = false := k9.frozen 2
                       have f3 : w8.frozen? ⟨wr.heap.size, 3, none⟩ = false := k9.frozen 3
                       have g4 : wr.heap.size < w8.heap.size := k9.lt
                       clear k9
                     clear hb8)
                  | fail)
              all_goals clear a0 a1 a2 a3 a4 a5 a6 a7 a8 a9 ne0 ne1 ne2 ne3 z0 z1 z2 z3 r0 r1 r2 r3 r4 r5 r6 r7 r8 r9
              · have hcZ0 := HA8.out.2.2
                have hbZ : Below wr.heap.size wr (w8.alloc (.cells #[.int .i64 vn, .int .i64 vd, .slice A8 vc.length c8, .int .i64 vr] 48)) := HB8.out.alloc HB8.out.size _
                have hkZ := Blk.new w8 48 #[.int .i64 vn, .int .i64 vd, .slice A8 vc.length c8, .int .i64 vr]
                have hcZ : Arr AtCell 2 (w8.alloc (.cells #[.int .i64 vn, .int .i64 vd, .slice A8 vc.length c8, .int .i64 vr] 48)) (fun b => (b < w.heap.size ∨ X.heap.size ≤ b) ∧ b < (w8.alloc (.cells #[.int .i64 vn, .int .i64 vd, .slice A8 vc.length c8, .int .i64 vr] 48)).heap.size ∧ (Value.slice A9 k c9).ownBlock ≠ some b) A8 vc.length vc := hcZ0.keep stays_cell (fun b hb => by
                    have h1 := HB8.out.size
                    have h2 := HSZ.out.1
                    have h3 := HSZ.out.2.1
                    rcases hb with (hb | hb) | hb
                    · exact ⟨hb.1, by simp only [World.size_alloc]; have := hb.2.1; omega, hb.2.2⟩
                    · exact ⟨by omega, by simp only [World.size_alloc]; omega, fun e => by have := (HGA.out b e).2; omega⟩
                    · have hb2 : wr.heap.size ≤ b ∧ b < w8.heap.size := hb
                      exact ⟨by omega, by simp only [World.size_alloc]; omega, fun e => by have := (HGA.out b e).2; omega⟩) (fun b o hb => ((Below.refl w8.heap.size w8).alloc (Nat.le_refl _) _).cell (p := ⟨b, o, none⟩) (by
                    have h1 := HB8.out.size
                    have h2 := HSZ.out.1
                    rcases hb with (hb | hb) | hb
                    · show b < w8.heap.size; have := hb.2.1; omega
                    · show b < w8.heap.size; omega
                    · exact hb.2))
                generalize w8.alloc (.cells #[.int .i64 vn, .int .i64 vd, .slice A8 vc.length c8, .int .i64 vr] 48) = Z at hbZ hkZ hcZ ⊢
                clear hcZ0
                have hbQ : Below Z.heap.size Z (Z.alloc (.cells #[.int .i64 vn, .int .i64 vd, .slice A8 vc.length c8, .int .i64 vr] 48)) := (Below.refl _ _).alloc (Nat.le_refl _) _
                have hoQ := HH.out.2.1.laterx tells_value (hbZ.trans (hbQ.mono hbZ.size))
                have hkQ := Blk.new Z 48 #[.int .i64 vn, .int .i64 vd, .slice A8 vc.length c8, .int .i64 vr]
                have hvQ : VValue (Z.alloc (.cells #[.int .i64 vn, .int .i64 vd, .slice A8 vc.length c8, .int .i64 vr] 48)) (Fx w.heap.size X.heap.size (Z.alloc (.cells #[.int .i64 vn, .int .i64 vd, .slice A8 vc.length c8, .int .i64 vr] 48)) (.slice A9 k c9)) [.int .i64 vn, .int .i64 vd, .slice A8 vc.length c8, .int .i64 vr] ⟨vn, vd, vc, vr⟩ :=
                  ⟨A8, vc.length, c8, rfl, HIV.out, HA8.out.1, HA8.out.2.1, hcZ.keep stays_cell (fun b hb => ⟨hb.1, Nat.lt_of_lt_of_le hb.2.1 hbQ.size, hb.2.2⟩) (fun b o hb => hbQ.cell (p := ⟨b, o, none⟩) hb.2.1)⟩
                have hsQ : X.heap.size ≤ (Z.alloc (.cells #[.int .i64 vn, .int .i64 vd, .slice A8 vc.length c8, .int .i64 vr] 48)).heap.size := (HH.out.2.2.trans ((hbZ.trans (hbQ.mono hbZ.size)).mono HH.out.2.2.size)).size
                have HO := Lib.hid (And.intro hoQ (And.intro hkQ (And.intro hvQ (HH.out.2.2.trans ((hbZ.trans (hbQ.mono hbZ.size)).mono HH.out.2.2.size)))))
                have b0 : Z.cell? ⟨w8.heap.size, 0, none⟩ = some (.int .i64 vn) := hkZ.cell 0
                have b1 : Z.cell? ⟨w8.heap.size, 1, none⟩ = some (.int .i64 vd) := hkZ.cell 1
                have b2 : Z.cell? ⟨w8.heap.size, 2, none⟩ = some (.slice A8 vc.length c8) := hkZ.cell 2
                have b3 : Z.cell? ⟨w8.heap.size, 3, none⟩ = some (.int .i64 vr) := hkZ.cell 3
                have hzb : w8.heap.size < Z.heap.size := hkZ.lt
                clear hbQ hoQ hkQ hvQ hbZ hkZ hcZ
                go_wp2_with (first | (at_builtin; go_loud (refine wpList_append_item rfl _ _ _ rfl rowValues tells_value (v := .slice A9 k c9) (xs := vals) (base := X.heap.size) (S := Fx w.heap.size X.heap.size (Z.alloc (.cells #[.int .i64 vn, .int .i64 vd, .slice A8 vc.length c8, .int .i64 vr] 48)) (.slice A9 k c9)) rfl HO.out.1 (g := Z.heap.size) (cs := #[.int .i64 vn, .int .i64 vd, .slice A8 vc.length c8, .int .i64 vr]) rfl HO.out.2.1 (y := ⟨vn, vd, vc, vr⟩) HO.out.2.2.1 fx_out (by have := HPL.out.2.2.2.2.2.2; unfold maxLen; omega) (by have := HPL.out.2.2.2.2.2.2; omega) hsQ ?_); intro v9 w9 hown9 hgrow9 hat9; have HB9 := Lib.hid (And.intro (hown9.weak tells_value (Fx.step hgrow9 hat9)) (below_then HO.out.2.2.2 hgrow9 hsQ (fun x hx => (HO.out.1.lt x hx).1))); clear hown9 hgrow9 hat9) | fail)
                go_roundw
                case rel => exact ⟨k + 1, vals ++ [⟨vn, vd, vc, vr⟩], by omega, by go_num, by rw [List.length_append, HPL.out.2.2.2.2.2.2]; rfl, HGS, HB9.out.1, HB9.out.2, HE1⟩
                case measure => simp [intOf]; omega
              · clear g0 g1 g2 g3 f0 f1 f2 f3 g4
                have hcZ0 := HA8.out.2.2
                have hbZ : Below wr.heap.size wr (put4 w8 wr.heap.size (.int .i64 vn) (.int .i64 vd) (.slice A8 vc.length c8) (.int .i64 vr)) := put4_below HB8.out (Nat.le_refl _) _ _ _ _
                have hkZ := put4_blk K9.out (.int .i64 vn) (.int .i64 vd) (.slice A8 vc.length c8) (.int .i64 vr)
                have hgZ : w8.grownBy (put4 w8 wr.heap.size (.int .i64 vn) (.int .i64 vd) (.slice A8 vc.length c8) (.int .i64 vr)) (some wr.heap.size) := put4_only (only_refl _ _) _ _ _ _
                have hcZ : Arr AtCell 2 (put4 w8 wr.heap.size (.int .i64 vn) (.int .i64 vd) (.slice A8 vc.length c8) (.int .i64 vr)) (fun b => (b < w.heap.size ∨ X.heap.size ≤ b) ∧ b < (put4 w8 wr.heap.size (.int .i64 vn) (.int .i64 vd) (.slice A8 vc.length c8) (.int .i64 vr)).heap.size ∧ (Value.slice A9 k c9).ownBlock ≠ some b) A8 vc.length vc := hcZ0.keep stays_cell (fun b hb => by
                    have h1 := HB8.out.size
                    have h2 := HSZ.out.1
                    have h3 := HSZ.out.2.1
                    have h4 := hgZ.size
                    rcases hb with (hb | hb) | hb
                    · exact ⟨hb.1, by have := hb.2.1; omega, hb.2.2⟩
                    · exact ⟨by omega, by omega, fun e => by have := (HGA.out b e).2; omega⟩
                    · have hb2 : wr.heap.size + 1 ≤ b ∧ b < w8.heap.size := by simpa using hb
                      exact ⟨by omega, by omega, fun e => by have := (HGA.out b e).2; omega⟩) (fun b o hb => only_cell hgZ (by
                    have h1 := HB8.out.size
                    have h2 := HSZ.out.1
                    rcases hb with (hb | hb) | hb
                    · have := hb.2.1; omega
                    · omega
                    · exact hb.2) (fun e => by
                    injection e with e
                    have h2 := HSZ.out.1
                    rcases hb with (hb | hb) | hb
                    · have := hb.2.1; omega
                    · omega
                    · have hb2 : wr.heap.size + 1 ≤ b ∧ b < w8.heap.size := by simpa using hb
                      omega))
                have e5 : (((w8.setCell ⟨wr.heap.size, 0, none⟩ (.int .i64 vn)).setCell ⟨wr.heap.size, 1, none⟩ (.int .i64 vd)).setCell ⟨wr.heap.size, 2, none⟩ (.slice A8 vc.length c8)).setCell ⟨wr.heap.size, 3, none⟩ (.int .i64 vr) = put4 w8 wr.heap.size (.int .i64 vn) (.int .i64 vd) (.slice A8 vc.length c8) (.int .i64 vr) := rfl
                rw [e5]
                clear e5 hgZ
                generalize put4 w8 wr.heap.size (.int .i64 vn) (.int .i64 vd) (.slice A8 vc.length c8) (.int .i64 vr) = Z at hbZ hkZ hcZ ⊢
                clear hcZ0
                have hbQ : Below Z.heap.size Z (Z.alloc (.cells #[.int .i64 vn, .int .i64 vd, .slice A8 vc.length c8, .int .i64 vr] 48)) := (Below.refl _ _).alloc (Nat.le_refl _) _
                have hoQ := HH.out.2.1.laterx tells_value (hbZ.trans (hbQ.mono hbZ.size))
                have hkQ := Blk.new Z 48 #[.int .i64 vn, .int .i64 vd, .slice A8 vc.length c8, .int .i64 vr]
                have hvQ : VValue (Z.alloc (.cells #[.int .i64 vn, .int .i64 vd, .slice A8 vc.length c8, .int .i64 vr] 48)) (Fx w.heap.size X.heap.size (Z.alloc (.cells #[.int .i64 vn, .int .i64 vd, .slice A8 vc.length c8, .int .i64 vr] 48)) (.slice A9 k c9)) [.int .i64 vn, .int .i64 vd, .slice A8 vc.length c8, .int .i64 vr] ⟨vn, vd, vc, vr⟩ :=
                  ⟨A8, vc.length, c8, rfl, HIV.out, HA8.out.1, HA8.out.2.1, hcZ.keep stays_cell (fun b hb => ⟨hb.1, Nat.lt_of_lt_of_le hb.2.1 hbQ.size, hb.2.2⟩) (fun b o hb => hbQ.cell (p := ⟨b, o, none⟩) hb.2.1)⟩
                have hsQ : X.heap.size ≤ (Z.alloc (.cells #[.int .i64 vn, .int .i64 vd, .slice A8 vc.length c8, .int .i64 vr] 48)).heap.size := (HH.out.2.2.trans ((hbZ.trans (hbQ.mono hbZ.size)).mono HH.out.2.2.size)).size
                have HO := Lib.hid (And.intro hoQ (And.intro hkQ (And.intro hvQ (HH.out.2.2.trans ((hbZ.trans (hbQ.mono hbZ.size)).mono HH.out.2.2.size)))))
                have b0 : Z.cell? ⟨wr.heap.size, 0, none⟩ = some (.int .i64 vn) := hkZ.cell 0
                have b1 : Z.cell? ⟨wr.heap.size, 1, none⟩ = some (.int .i64 vd) := hkZ.cell 1
                have b2 : Z.cell? ⟨wr.heap.size, 2, none⟩ = some (.slice A8 vc.length c8) := hkZ.cell 2
                have b3 : Z.cell? ⟨wr.heap.size, 3, none⟩ = some (.int .i64 vr) := hkZ.cell 3
                have hzb : wr.heap.size < Z.heap.size := hkZ.lt
                clear hbQ hoQ hkQ hvQ hbZ hkZ hcZ
                go_wp2_with (first | (at_builtin; go_loud (refine wpList_append_item rfl _ _ _ rfl rowValues tells_value (v := .slice A9 k c9) (xs := vals) (base := X.heap.size) (S := Fx w.heap.size X.heap.size (Z.alloc (.cells #[.int .i64 vn, .int .i64 vd, .slice A8 vc.length c8, .int .i64 vr] 48)) (.slice A9 k c9)) rfl HO.out.1 (g := Z.heap.size) (cs := #[.int .i64 vn, .int .i64 vd, .slice A8 vc.length c8, .int .i64 vr]) rfl HO.out.2.1 (y := ⟨vn, vd, vc, vr⟩) HO.out.2.2.1 fx_out (by have := HPL.out.2.2.2.2.2.2; unfold maxLen; omega) (by have := HPL.out.2.2.2.2.2.2; omega) hsQ ?_); intro v9 w9 hown9 hgrow9 hat9; have HB9 := Lib.hid (And.intro (hown9.weak tells_value (Fx.step hgrow9 hat9)) (below_then HO.out.2.2.2 hgrow9 hsQ (fun x hx => (HO.out.1.lt x hx).1))); clear hown9 hgrow9 hat9) | fail)
                go_roundw
                case rel => exact ⟨k + 1, vals ++ [⟨vn, vd, vc, vr⟩], by omega, by go_num, by rw [List.length_append, HPL.out.2.2.2.2.2.2]; rfl, HGS, HB9.out.1, HB9.out.2, HE1⟩
                case measure => simp [intOf]; omega
      · obtain rfl : n2 = k := by omega
        have e1 := HK.out
        rw [List.drop_of_length_le (by have := HL.out.2.1; omega), valuesF] at e1
        obtain ⟨A9, c9, he9, hc9, hc9m, hvr⟩ := hown.reads (E := AtValue) tells_value (fun _ _ _ _ _ h => atV_value h) (S' := fun b => (b < w.heap.size ∨ X.heap.size ≤ b) ∧ b < wr.heap.size) (fun b hb => ⟨hb.1, hb.2.1⟩) (fun g hg => ⟨.inr (hown.lt g hg).1, (hown.lt g hg).2⟩)
        rw [hvl] at he9 hvr hc9
        subst he9
        have hm := hI.flt
        have HRE := Lib.hid e1
        have m0 : wr.cell? ⟨w.heap.size + 2, 0, none⟩ = some (.int .i64 0) := hm.cell 0
        have m1 : wr.cell? ⟨w.heap.size + 2, 1, none⟩ = some (.int .i64 0) := hm.cell 1
        have u0 : wr.frozen? ⟨w.heap.size + 2, 0, none⟩ = false := hm.frozen 0
        have u1 : wr.frozen? ⟨w.heap.size + 2, 1, none⟩ = false := hm.frozen 1
        have zm : w.heap.size + 2 < wr.heap.size := hm.lt
        have HB := Lib.hid (And.intro hI.below (And.intro hm (And.intro hvr (And.intro hvl (And.intro hc9 hc9m)))))
        have HXZ : Hid (w.heap.size + 2 < X.heap.size) := HI6.out.flt.lt
        clear hI hm hvr hown hbel HK e1 hvl hc9 hc9m
        go_wp2_with fail
        clear m0 m1 u0 u1
        have hz1 := two_blk HB.out.2.1 (.int .i64 0) (.int .i64 0)
        have hz2 : Below w.heap.size w (two wr (w.heap.size + 2) (.int .i64 0) (.int .i64 0)) := two_below (g := w.heap.size + 2) HB.out.1 (Nat.le_add_right _ _) (.int .i64 0) (.int .i64 0)
        have hz3 := two_only wr (w.heap.size + 2) (.int .i64 0) (.int .i64 0)
        have hz4 : Arr AtValue 4 (two wr (w.heap.size + 2) (.int .i64 0) (.int .i64 0)) (fun b => b < (two wr (w.heap.size + 2) (.int .i64 0) (.int .i64 0)).heap.size) A9 n2 vals := HB.out.2.2.1.keep stays_value (fun b hb => Nat.lt_of_lt_of_le hb.2 hz3.size) (fun b o hb => only_cell hz3 hb.2 (fun e => by injection e with e; have := HXZ.out; have := hb.1; omega))
        have e4 : (wr.setCell ⟨w.heap.size + 1 + 1, 0, none⟩ (.int .i64 0)).setCell ⟨w.heap.size + 1 + 1, 1, none⟩ (.int .i64 0) = two wr (w.heap.size + 2) (.int .i64 0) (.int .i64 0) := rfl
        rw [e4]
        clear e4
        generalize two wr (w.heap.size + 2) (.int .i64 0) (.int .i64 0) = Z2 at hz1 hz2 hz4 ⊢
        have d0 := hz1.cell 0
        have d1 := hz1.cell 1
        simp only [List.getElem?_toArray, List.getElem?_cons_zero, List.getElem?_cons_succ] at d0 d1
        refine bodyPost_ret (v := .tuple #[.slice A9 n2 c9, .agg #[.int .i64 0, .int .i64 0]]) (by simp [results, Tryz.results6, go_sem, d0, d1]) rfl ?_
        rw [HR.out, ← HRE.out]
        exact valuesP_of HB.out.2.2.2.1 hz2 HB.out.2.2.2.2.1 HB.out.2.2.2.2.2 hz4
  · have hqb : (qc != 0) = true := by rw [bne_iff_ne]; exact hqc
    have hR : meanValF a ms = ([], qc, qa) := by rw [meanValF, HQ.out, if_pos (by simpa using hqc)]
    have c0 : Y.cell? ⟨w.heap.size + 2, 0, none⟩ = some (.int .i64 0) := hI4.flt.cell 0
    have c1' : Y.cell? ⟨w.heap.size + 2, 1, none⟩ = some (.int .i64 0) := hI4.flt.cell 1
    have z0 : Y.frozen? ⟨w.heap.size + 2, 0, none⟩ = false := hI4.flt.frozen 0
    have z1 : Y.frozen? ⟨w.heap.size + 2, 1, none⟩ = false := hI4.flt.frozen 1
    have hz : w.heap.size + 2 < Y.heap.size := hI4.flt.lt
    have HI4 := Lib.hid hI4
    have HR := Lib.hid hR
    clear hqc hI4 hfx hR
    go_wp2_with fail
    go_region
    go_wp2_with fail
    refine bodyPost_ret (v := .tuple #[.slice none 0 0, .agg #[.int .i64 qc, .int .i64 qa]]) (by simp [results, Tryz.results6, go_sem, c0, c1']) rfl ?_
    rw [HR.out]
    exact valuesP_nil (((HI4.out.below.setCell (p := ⟨w.heap.size + 2, 0, none⟩) (Nat.le_add_right _ _) _).setCell (p := ⟨w.heap.size + 2, 1, none⟩) (Nat.le_add_right _ _) _).drew) _ _
end Go.Proofs.YtggkfepifnfdoaaGreat
