/- Walk: the law AskBeginning. -/
import Derived.Test.YtggkfepifnfdoaaMkJ
import Derived.Test.YtggkfepifnfdoaaMkK
import Derived.Deep.RegionHeld3
namespace Go.Proofs.Ytggkfepifnfdoaa
open Go.RowKit

set_option maxRecDepth 100000 in
set_option maxHeartbeats 4000000 in
theorem askBeginning_any (A : Option Addr) (n c : Nat) (xs : List Int) (cut : Int) (w : World) (hxs : ArrB AtInt 1 w w.heap.size A n xs) (hn : n ≤ 9223372036854775807) (hcut : I64 cut) :
    Calls Try.prog 3 #[.slice A n c, .int .i64 cut] w fun e w' => e = .returned (.bool true) ∧ Below w.heap.size w w' := by
  have HXS := Lib.hid (And.intro hxs (And.intro hn hcut))
  clear hxs hn hcut
  go_enter Try.func3, Try.ntmps3
  go_wp2_with fail
  refine (askOf_any A n c xs 30 w HXS.out.1 HXS.out.2.1 (by omega)).mono ?_
  rintro e w1 ⟨AD, cD, An, cn, AH, cH, ns, ss, H, rfl, ha, hcD, hcn, hcH, hM, hl, hH, hHs, hb1⟩
  have hs1 := mk_sorts hM (by omega) (by omega) hHs
  obtain ⟨k, hk, hkl⟩ : ∃ k : Nat, cut % ((ns.length : Int) + 1) = (k : Int) ∧ k ≤ ns.length := by
    have h1 := Int.emod_nonneg cut (show ((ns.length : Int) + 1) ≠ 0 by omega)
    have h2 := Int.emod_lt_of_pos cut (show (0 : Int) < (ns.length : Int) + 1 by omega)
    exact ⟨(cut % ((ns.length : Int) + 1)).toNat, by omega, by omega⟩
  have hs2 := mk_sorts (hM.take k hkl) (H := []) (by simp; omega) (by simp) (by simp)
  have hn120 : ns.length ≤ 120 := by omega
  have hslen := hM.len
  have HcD := Lib.hid hcD
  have HL := Lib.hid (And.intro hs1 (And.intro hs2 (And.intro hk hslen)))
  -- the ask's box
  have hbx : Below w1.heap.size w1 (w1.alloc (.cells #[.slice AD 14 cD, .slice An ns.length cn, .slice AH H.length cH] 26)) := (Below.refl _ _).alloc (Nat.le_refl _) _
  have hk5 := Blk.new w1 26 #[.slice AD 14 cD, .slice An ns.length cn, .slice AH H.length cH]
  have ha2 := ha.below hbx hbx.size
  have hb2 := hb1.alloc hb1.size (.cells #[.slice AD 14 cD, .slice An ns.length cn, .slice AH H.length cH] 26)
  obtain ⟨X1, hX1⟩ : ∃ X, w1.alloc (.cells #[.slice AD 14 cD, .slice An ns.length cn, .slice AH H.length cH] 26) = X := ⟨_, rfl⟩
  rw [hX1] at hbx hk5 ha2 hb2
  have x0 := hk5.cell 0
  have x1 := hk5.cell 1
  have x2 := hk5.cell 2
  simp only [List.getElem?_toArray, List.getElem?_cons_zero, List.getElem?_cons_succ] at x0 x1 x2
  have H1 := Lib.hid (And.intro ha2 (And.intro hb2 (And.intro hk5 hcn)))
  have HX1 := Lib.hid hX1
  have HS1 := Lib.hid (sorts_any AD An AH 14 cD ns.length cn H.length cH ⟨declsK, ns, H⟩ X1 ha2 hcD)
  clear ha hcn hcH hM hl hH hHs hb1 hs1 hs2 hk hslen hbx hk5 ha2 hb2 hX1
  go_wp2_with fail
  rw [HX1.out]
  refine HS1.out.mono ?_
  rw [HL.out.1]
  rintro e w2 ⟨As, cs, rfl, hb3, hcs, hcsm, harr⟩
  dsimp only at hcs harr ⊢
  clear HS1 HX1 x0 x1 x2
  -- the fault's box
  have hbf : Below w2.heap.size w2 (w2.alloc (.cells #[.int .i64 0, .int .i64 0] 29)) := (Below.refl _ _).alloc (Nat.le_refl _) _
  have hk7 := Blk.new w2 29 #[.int .i64 0, .int .i64 0]
  have hbx2 : Below X1.heap.size X1 (w2.alloc (.cells #[.int .i64 0, .int .i64 0] 29)) := hb3.alloc hb3.size _
  have hr2 : Arr AtInt 1 (w2.alloc (.cells #[.int .i64 0, .int .i64 0] 29)) (fun b => b < w2.heap.size) As ss.length ss := harr.keep stays_int (fun b hb => hb.2) (fun b o hb => hbf.cell (p := ⟨b, o, none⟩) hb.2)
  have hz2 : w2.heap.size < (w2.alloc (.cells #[.int .i64 0, .int .i64 0] 29)).heap.size := by simp
  obtain ⟨X2, hX2⟩ : ∃ X, w2.alloc (.cells #[.int .i64 0, .int .i64 0] 29) = X := ⟨_, rfl⟩
  have ha3 := (H1.out.1.below (hX2 ▸ hbx2) (hX2 ▸ hbx2.size))
  rw [hX2] at hbf hk7 hbx2 hr2 hz2
  have hk5 := H1.out.2.2.1.below hbx2 H1.out.2.2.1.lt
  have x0 := hk5.cell 0
  have x1 := hk5.cell 1
  have x2 := hk5.cell 2
  have y0 := hk7.cell 0
  have y1 := hk7.cell 1
  simp only [List.getElem?_toArray, List.getElem?_cons_zero, List.getElem?_cons_succ] at x0 x1 x2 y0 y1
  have hz5 := hk5.lt
  have hz7 := hk7.lt
  have H2 := Lib.hid (And.intro ha3 (And.intro (H1.out.2.1.trans (hbx2.mono H1.out.2.1.size)) (And.intro hk5 (And.intro hk7 (And.intro hr2 hcs)))))
  have HX2 := Lib.hid hX2
  clear hb3 hcs hcsm harr hbf hk7 hbx2 hr2 ha3 hk5 hX2 hz2
  go_upto_region 3 with fail
  rw [HX2.out]
  go_wp2_with fail
  with_reducible refine (picked_any cut ((ns.length : Int) + 1) (k : Int) _ HXS.out.2.2 (by omega) (by omega) HL.out.2.2.1).mono ?_
  rintro e w' ⟨rfl, rfl⟩
  go_upto_region 4 with fail
  have hkc : k ≤ cn := Nat.le_trans hkl H1.out.2.2.2
  go_region
  have hbx3 : Below X2.heap.size X2 (X2.alloc (.cells #[.slice AD 14 cD, .slice An k cn, .slice none 0 0] 26)).drew := ((Below.refl _ _).alloc (Nat.le_refl _) _).drew
  have hk9 : Blk (X2.alloc (.cells #[.slice AD 14 cD, .slice An k cn, .slice none 0 0] 26)).drew X2.heap.size 26 #[.slice AD 14 cD, .slice An k cn, .slice none 0 0] := (Blk.new X2 _ _).drew
  obtain ⟨X3, hX3⟩ : ∃ X, (X2.alloc (.cells #[.slice AD 14 cD, .slice An k cn, .slice none 0 0] 26)).drew = X := ⟨_, rfl⟩
  rw [hX3] at hbx3 hk9 ⊢
  have ha0 := H2.out.1.below hbx3 hbx3.size
  have ha4 : AskIn X3 X3.heap.size AD An none 14 k 0 ⟨declsK, ns.take k, []⟩ := ⟨ha0.decls, ha0.nodes.take hkl, Arr.nil_, ha0.m1, by omega, by omega⟩
  have HS3 := Lib.hid (sorts_any AD An none 14 cD k cn 0 0 ⟨declsK, ns.take k, []⟩ X3 ha4 HcD.out)
  have y0' := (hbx3.cell (p := ⟨w2.heap.size, 0, none⟩) hz7).trans y0
  have x1' := (hbx3.cell (p := ⟨w1.heap.size, 1, none⟩) hz5).trans x1
  have b0 := hk9.cell 0
  have b1 := hk9.cell 1
  have b2 := hk9.cell 2
  simp only [List.getElem?_toArray, List.getElem?_cons_zero, List.getElem?_cons_succ] at b0 b1 b2
  have hz5' : w1.heap.size < X3.heap.size := Nat.lt_of_lt_of_le hz5 hbx3.size
  have hz7' : w2.heap.size < X3.heap.size := Nat.lt_of_lt_of_le hz7 hbx3.size
  have H3 := Lib.hid (And.intro (H2.out.2.1.trans (hbx3.mono H2.out.2.1.size)) (Arr.keep stays_int (S' := fun b => b < X3.heap.size) H2.out.2.2.2.2.1 (fun b hb => Nat.lt_trans hb hz7') (fun b o hb => hbx3.cell (p := ⟨b, o, none⟩) (Nat.lt_trans hb hz7))))
  clear hbx3 hk9 hX3 ha0 ha4 y0 y1 x0 x1 x2 HX2
  go_wp2_with fail
  refine HS3.out.mono ?_
  rw [HL.out.2.1]
  rintro e w4 ⟨Am, cm, rfl, hb5, hcm, hcmm, harr5⟩
  dsimp only at hcm harr5 ⊢
  have htl : (ss.take k).length = k := by rw [List.length_take, HL.out.2.2.2]; omega
  rw [htl] at hcm harr5 ⊢
  clear HS3 b0 b1 b2
  have hbf : Below w4.heap.size w4 (w4.alloc (.cells #[.int .i64 0, .int .i64 0] 29)) := (Below.refl _ _).alloc (Nat.le_refl _) _
  have hk11 := Blk.new w4 29 #[.int .i64 0, .int .i64 0]
  have hbx4 : Below X3.heap.size X3 (w4.alloc (.cells #[.int .i64 0, .int .i64 0] 29)) := hb5.alloc hb5.size _
  have hr5 : Arr AtInt 1 (w4.alloc (.cells #[.int .i64 0, .int .i64 0] 29)) (fun b => b < (w4.alloc (.cells #[.int .i64 0, .int .i64 0] 29)).heap.size) Am k (ss.take k) := harr5.keep stays_int (fun b hb => Nat.lt_of_lt_of_le hb.2 hbf.size) (fun b o hb => hbf.cell (p := ⟨b, o, none⟩) hb.2)
  obtain ⟨X4, hX4⟩ : ∃ X, w4.alloc (.cells #[.int .i64 0, .int .i64 0] 29) = X := ⟨_, rfl⟩
  rw [hX4] at hk11 hbx4 hr5
  have c0 := hk11.cell 0
  simp only [List.getElem?_toArray, List.getElem?_cons_zero] at c0
  have y0 := (hbx4.cell (p := ⟨w2.heap.size, 0, none⟩) hz7').trans y0'
  have x1 := (hbx4.cell (p := ⟨w1.heap.size, 1, none⟩) hz5').trans x1'
  have hz5 : w1.heap.size < X4.heap.size := Nat.lt_of_lt_of_le hz5' hbx4.size
  have hr2 := H3.out.2.keep stays_int (S' := fun b => b < X4.heap.size) (w' := X4) (fun b hb => Nat.lt_of_lt_of_le hb hbx4.size) (fun b o hb => hbx4.cell (p := ⟨b, o, none⟩) hb)
  have H4 := Lib.hid (And.intro (H3.out.1.trans (hbx4.mono H3.out.1.size)) (And.intro (hr2.take (k := k) (by rw [HL.out.2.2.2]; exact hkl)) hr5))
  have HX4 := Lib.hid hX4
  have hcs' : k ≤ cs := Nat.le_trans hkl (by have := H2.out.2.2.2.2.2; rw [HL.out.2.2.2] at this; exact this)
  clear hbf hk11 hbx4 hr5 hX4 hb5 hcm hcmm harr5 hr2 y0' x1'
  have hslen : ss.length = ns.length := HL.out.2.2.2
  go_upto_region 6 with fail
  rw [HX4.out]
  go_wp2_with fail
  refine (askSure_any X4).mono ?_
  rintro e w6 ⟨rfl, hb6⟩
  have x1' := (hb6.cell (p := ⟨w1.heap.size, 1, none⟩) hz5).trans x1
  have h1 := H4.out.2.1.keep stays_int (S' := fun b => b < w6.heap.size) (w' := w6) (fun b hb => Nat.lt_of_lt_of_le hb hb6.size) (fun b o hb => hb6.cell (p := ⟨b, o, none⟩) hb)
  have h2 := H4.out.2.2.keep stays_int (S' := fun b => b < w6.heap.size) (w' := w6) (fun b hb => Nat.lt_of_lt_of_le hb hb6.size) (fun b o hb => hb6.cell (p := ⟨b, o, none⟩) hb)
  have HE := Lib.hid (And.intro (sameInts_any As Am k cs cm (ss.take k) _ _ w6 h1 h2 (by omega)) (H4.out.1.trans (hb6.mono H4.out.1.size)))
  clear hb6 h1 h2 x1
  go_wp2_with fail
  refine HE.out.1.mono ?_
  rintro e w7 ⟨rfl, m, rfl⟩
  go_wp2_with fail
  go_ret
  exact ⟨ret_bool (by simp), below_drewN HE.out.2 _⟩
end Go.Proofs.Ytggkfepifnfdoaa
