/- Walk: the law MeanSorts. -/
import Derived.Test.YtggkfepifnfdoaaMkJ
import Derived.Test.YtggkfepifnfdoaaMkK
import Derived.Test.YtggkfepifnfdoaaKitFH
import Derived.Deep.RegionHeld3
import Derived.StillTailTactics
namespace Go.Proofs.Ytggkfepifnfdoaa
open Go.RowKit

theorem valuesF_none {ds : List DeclD} {ms : List MeaningD} {ss : List Int} : ∀ (l : List NodeD) (i : Nat) (out : List ValueD), ¬ (valuesF ds ms ss l i out).2.1 = 0 → (valuesF ds ms ss l i out).1 = [] ∧ (valuesF ds ms ss l i out).2.1 = 10
  | [], i, out, h => absurd rfl h
  | x :: r, i, out, h => by
    rw [valuesF] at h ⊢
    cases hv : valF ds ms x (bitsF (ss.getD i 0) (kidSorts ss x)) (kidVals out x) with
    | none => exact ⟨rfl, rfl⟩
    | some v =>
      rw [hv] at h
      exact valuesF_none r (i + 1) _ h
/-- what the values of a made ask are, in any world without a fault -/
theorem made_values {ns : List NodeD} {ss H : List Int} {ms : List MeaningD} (hs : sortsF ⟨declsK, ns, H⟩ = (ss, 0, 0)) (hm : MeansOk declsK ms) : ∃ vs, valuedF (meanValF ⟨declsK, ns, H⟩ ms) ns.length = (vs, true) ∧ GoodTo ss vs ∧ vs.length ≤ ns.length := by
  have h0 : (sortsF ⟨declsK, ns, H⟩).2.1 = 0 := by rw [hs]
  have e : meanValF ⟨declsK, ns, H⟩ ms = valuesF declsK ms ss ns 0 [] := by
    rw [meanValF, means_zero h0 hm, if_neg (by simp), hs]
  rw [e]
  by_cases hz : (valuesF declsK ms ss ns 0 []).2.1 = 0
  · have h1 := valuesF_good h0 hm ns 0 [] (by simp) rfl (GoodTo.nil _) (by rw [hs]; exact hz)
    rw [hs] at h1
    have h2 : (valuesF declsK ms ss ns 0 []).1.length = ns.length := by rw [h1.2]; simp
    exact ⟨_, by rw [valuedF, if_neg (by rw [hz]; simp), h2, hz]; simp, h1.1, by rw [h2]; exact Nat.le_refl _⟩
  · obtain ⟨h1, h2⟩ := valuesF_none ns 0 [] hz
    exact ⟨[], by rw [valuedF, if_pos ⟨h2, by rw [h1]; rfl⟩], GoodTo.nil _, Nat.zero_le _⟩

set_option maxRecDepth 100000 in
set_option maxHeartbeats 4000000 in
theorem meanSorts_any (A : Option Addr) (n c : Nat) (xs : List Int) (A' : Option Addr) (n' c' : Nat) (xs' : List Int) (w : World) (hxs : ArrB AtInt 1 w w.heap.size A n xs) (hn : n ≤ 9223372036854775807) (hxs' : ArrB AtInt 1 w w.heap.size A' n' xs') (hn' : n' ≤ 9223372036854775807) :
    Calls Try.prog 8 #[.slice A n c, .slice A' n' c'] w fun e w' => e = .returned (.bool true) ∧ Below w.heap.size w w' := by
  have HXS := Lib.hid (And.intro hxs (And.intro hn (And.intro hxs' hn')))
  clear hxs hn hxs' hn'
  go_enter Try.func8, Try.ntmps8
  go_wp2_with fail
  refine (askOf_any A n c xs 30 w HXS.out.1 HXS.out.2.1 (by omega)).mono ?_
  rintro e w1 ⟨AD, cD, An, cn, AH, cH, ns, ss, H, rfl, ha, hcD, hcn, hcH, hM, hl, hH, hHs, hb1⟩
  have hs1 := mk_sorts hM (by omega) (by omega) hHs
  have hn120 : ns.length ≤ 120 := by omega
  have HL := Lib.hid (And.intro hs1 (And.intro hcD hM.len))
  have hbx : Below w1.heap.size w1 (w1.alloc (.cells #[.slice AD 14 cD, .slice An ns.length cn, .slice AH H.length cH] 26)) := (Below.refl _ _).alloc (Nat.le_refl _) _
  have hk5 := Blk.new w1 26 #[.slice AD 14 cD, .slice An ns.length cn, .slice AH H.length cH]
  have ha2 := ha.below hbx hbx.size
  have hb2 := hb1.alloc hb1.size (.cells #[.slice AD 14 cD, .slice An ns.length cn, .slice AH H.length cH] 26)
  obtain ⟨X1, hX1⟩ : ∃ X, w1.alloc (.cells #[.slice AD 14 cD, .slice An ns.length cn, .slice AH H.length cH] 26) = X := ⟨_, rfl⟩
  rw [hX1] at hbx hk5 ha2 hb2
  have x0 := hk5.cell 0
  have x1 := hk5.cell 1
  have x2 := hk5.cell 2
  simp only [List.getElem?_toArray, List.getElem?_cons_zero, List.getElem?_cons_succ] at x0 x1 x2
  have zq := hk5.lt
  have H1 := Lib.hid (And.intro ha2 (And.intro hb2 hcn))
  have HX1 := Lib.hid hX1
  clear ha hcn hcH hM hl hH hHs hb1 hs1 hbx hk5 ha2 hb2 hX1 hcD
  go_upto_region 2 with fail
  rw [HX1.out]
  clear HX1
  go_region_held3 (fun w' => w'.cell? ⟨w1.heap.size, 0, none⟩ = some (.slice AD 14 cD) ∧ w'.cell? ⟨w1.heap.size, 1, none⟩ = some (.slice An ns.length cn) ∧ w'.cell? ⟨w1.heap.size, 2, none⟩ = some (.slice AH H.length cH))
    ((try dsimp only) <;> (repeat' apply And.intro) <;> go_keep)
    (first
      | (go_simp
         go_at_call 26
         refine (world_any A' n' c' xs' _ (ArrB.below HXS.out.2.2.1 stays_int (below_drewN H1.out.2.1 1) (Nat.le_trans H1.out.2.1.size (Nat.le_refl _))) HXS.out.2.2.2).mono ?_
         rintro e w3 ⟨AM, cm, ms, rfl, h1, h2, h3, h4, hb3⟩
         have HB3 : Hid (Below X1.heap.size X1 w3) := below_join (below_drewN (Below.refl _ _) 1) hb3
         have r0 : w3.cell? ⟨w1.heap.size, 0, none⟩ = some (.slice AD 14 cD) := (HB3.out.cell (p := ⟨w1.heap.size, 0, none⟩) zq).trans x0
         have r1 : w3.cell? ⟨w1.heap.size, 1, none⟩ = some (.slice An ns.length cn) := (HB3.out.cell (p := ⟨w1.heap.size, 1, none⟩) zq).trans x1
         have r2 : w3.cell? ⟨w1.heap.size, 2, none⟩ = some (.slice AH H.length cH) := (HB3.out.cell (p := ⟨w1.heap.size, 2, none⟩) zq).trans x2
         have HM := Lib.hid (And.intro h3 h4)
         clear h1 h2 h3 h4 hb3)
      | (go_simp
         go_at_call 25
         have hv := valued_any AD An AH 14 cD ns.length cn H.length cH ⟨declsK, ns, H⟩ AM 14 cm ms w3 (H1.out.1.below HB3.out HB3.out.size) HL.out.2.1 (Arr.keep stays_meaning HM.out.1 (fun b hb => hb.2) (fun _ _ _ => rfl))
         obtain ⟨vs, e1, e2, e3⟩ := made_values HL.out.1 HM.out.2
         rw [show (AskD.mk declsK ns H).nodes.length = ns.length from rfl, e1] at hv
         refine hv.mono ?_
         rintro e w4 ⟨AV, cv, rfl, hb4, h5, h6, h7⟩
         clear hv e1
         dsimp only at h5 h7 ⊢
         have HB4 : Hid (Below X1.heap.size X1 w4) := below_join HB3.out hb4
         have q0 : w4.cell? ⟨w1.heap.size, 0, none⟩ = some (.slice AD 14 cD) := (HB4.out.cell (p := ⟨w1.heap.size, 0, none⟩) zq).trans x0
         have q1 : w4.cell? ⟨w1.heap.size, 1, none⟩ = some (.slice An ns.length cn) := (HB4.out.cell (p := ⟨w1.heap.size, 1, none⟩) zq).trans x1
         have q2 : w4.cell? ⟨w1.heap.size, 2, none⟩ = some (.slice AH H.length cH) := (HB4.out.cell (p := ⟨w1.heap.size, 2, none⟩) zq).trans x2
         have HV := Lib.hid (And.intro h7 (And.intro e2 e3))
         clear hb4 h5 h6 h7 e2 e3)
      | fail)
  all_goals
    clear r0 r1 r2 x0 x1 x2 HB3 HM
    have hz4 : w1.heap.size < w4.heap.size := Nat.lt_of_lt_of_le zq HB4.out.size
    have HS := Lib.hid (sorts_any AD An AH 14 cD ns.length cn H.length cH ⟨declsK, ns, H⟩ w4 (H1.out.1.below HB4.out HB4.out.size) HL.out.2.1)
    go_wp2_with fail
    refine HS.out.mono ?_
    rw [HL.out.1]
    rintro e w5 ⟨As, cs, rfl, hb5, hcs, hcsm, harr⟩
    dsimp only at hcs harr ⊢
    rw [HL.out.2.2] at hcs harr ⊢
    have hbf : Below w5.heap.size w5 (w5.alloc (.cells #[.int .i64 0, .int .i64 0] 29)) := (Below.refl _ _).alloc (Nat.le_refl _) _
    have hk9 := Blk.new w5 29 #[.int .i64 0, .int .i64 0]
    have hbx : Below w4.heap.size w4 (w5.alloc (.cells #[.int .i64 0, .int .i64 0] 29)) := hb5.alloc hb5.size _
    have hr5 : Arr AtInt 1 (w5.alloc (.cells #[.int .i64 0, .int .i64 0] 29)) (fun b => b < (w5.alloc (.cells #[.int .i64 0, .int .i64 0] 29)).heap.size) As ns.length ss := harr.keep stays_int (fun b hb => Nat.lt_of_lt_of_le hb.2 hbf.size) (fun b o hb => hbf.cell (p := ⟨b, o, none⟩) hb.2)
    obtain ⟨X5, hX5⟩ : ∃ X, w5.alloc (.cells #[.int .i64 0, .int .i64 0] 29) = X := ⟨_, rfl⟩
    rw [hX5] at hk9 hbx hr5
    have c0 := hk9.cell 0
    simp only [List.getElem?_toArray, List.getElem?_cons_zero] at c0
    have x1 := (hbx.cell (p := ⟨w1.heap.size, 1, none⟩) hz4).trans q1
    have HV5 := Lib.hid (HV.out.1.keep stays_value (S' := fun b => b < X5.heap.size) (w' := X5) (fun b hb => Nat.lt_of_lt_of_le hb hbx.size) (fun b o hb => hbx.cell (p := ⟨b, o, none⟩) hb))
    have H5 := Lib.hid (And.intro (H1.out.2.1.trans ((HB4.out.trans (hbx.mono HB4.out.size)).mono H1.out.2.1.size)) hr5)
    have HX5 := Lib.hid hX5
    have hvl : vs.length ≤ ns.length := HV.out.2.2
    clear hbf hk9 hbx hr5 hX5 hb5 hcs hcsm harr q0 q1 q2 HS
    go_upto_region 4 with fail
    rw [HX5.out]
    clear HX5
    go_wp2_with fail
    go_loopw [10] (fun i wr => ∃ j : Nat, i = .int .i64 (j : Int) ∧ j ≤ vs.length ∧ Hid (Below X5.heap.size X5 wr)) (fun i _ => ((vs.length : Int) - intOf i).toNat)
    case atStart => exact ⟨0, rfl, Nat.zero_le _, Below.refl _ _⟩
    case round =>
      obtain ⟨j, rfl, hj, HB⟩ := hrel
      by_cases hjl : j < vs.length
      · have hjI : (j : Int) < (vs.length : Int) := by omega
        have hjn : j < ns.length := by omega
        obtain ⟨bs, offs, hxs, rfl, hbs, hcs, i0, i1⟩ := ints_get (ArrB.below H5.out.2 stays_int HB.out (Nat.le_refl _)) (i := j) (by omega)
        obtain ⟨bv, offv, hxv, A2, n2, c2, rfl, hbv, v0, v1, v2, v3, hcl, hcn2, hcm2, j0, j1, j2⟩ := values_get (ArrB.below HV5.out stays_value HB.out (Nat.le_refl _)) hjl
        have hgood : goodV (ss.getD j 0) vs[j] = true := HV.out.2.1 j _ (List.getElem?_eq_getElem hxv)
        rw [List.getD_eq_getElem?_getD, List.getElem?_eq_getElem hxs, Option.getD_some] at hgood
        have HGV := Lib.hid (And.intro hgood (And.intro hcl (And.intro hcn2 hcm2)))
        clear hgood hcl hbs hbv i0 i1 j0 j1 j2 hcn2 hcm2
        generalize vs[j] = v at v0 v1 v2 v3 HGV
        generalize ss[j] = sv at hcs HGV
        obtain ⟨vn, vd, vc, vr⟩ := v
        dsimp only at v0 v1 v3
        clear hxs hxv
        go_upto_region 9 with fail
        go_still_tail 8, (by kernel_rfl)
        change wpList _ _ _ _ _ wr.drew
        go_wp2_with fail
        have HQ := Lib.hid (goodValue_any sv vn vd A2 n2 c2 vc vr true wr.drew (Arr.keep stays_cell (S' := fun b => b < wr.drew.heap.size) (w' := wr.drew) HGV.out.2.1 (fun b hb => Nat.lt_of_lt_of_le hb (Nat.le_trans (Nat.le_refl _) HB.out.size)) (fun _ _ _ => rfl)) (by have := HGV.out.2.2; unfold maxLen at this; omega) HGV.out.1)
        refine HQ.out.mono ?_
        rintro e w8 ⟨rfl, hb8⟩
        have HB8 := Lib.hid (HB.out.trans (((below_drewN (Below.refl wr.heap.size wr) 1).trans hb8).mono HB.out.size))
        clear hb8
        go_wp2_with fail
        go_roundw
        case rel => exact ⟨j + 1, by go_num, by omega, HB8⟩
        case measure => simp [intOf]; omega
      · have hjI : ¬ (j : Int) < (vs.length : Int) := by omega
        go_wp2_with fail
        go_ret
        exact ⟨rfl, H5.out.1.trans (HB.out.mono H5.out.1.size)⟩
end Go.Proofs.Ytggkfepifnfdoaa
