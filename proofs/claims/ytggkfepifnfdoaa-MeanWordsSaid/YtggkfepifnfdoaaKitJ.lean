/- Walk: the law MeanWords. -/
import Derived.Test.YtggkfepifnfdoaaKitFH
import Derived.Test.YtggkfepifnfdoaaToldT
import Derived.Deep.RegionHeld3
import Derived.Deep.DeepCutAuto
namespace Go.Proofs.Ytggkfepifnfdoaa
open Go.RowKit

def wordTD (B : Nat) : List TD := [.decls, .node (nameN 118), .node (nameN 119), .row [0, 1], .node (opN 20 [0, 1] 0 0), .row [0, 1], .node (opN 19 [0, 1] 0 0), .row [0, 1], .node (opN 17 [0, 1] 0 0), .row [4], .node (opN 23 [4] 1 0), .row [3, 5], .node (opN 20 [3, 5] 0 0), .row [2, 6], .node (opN 8 [2, 6] 0 0), .row [0], .node (opN 16 [0] 0 0), .row [0, 8], .node (opN 20 [0, 8] 0 0), .node (opN 15 [] 7 3), .row [9, 10], .node (opN 8 [9, 10] 0 0), .node (opN 15 [] 3 3), .row [0, 12], .node (opN 21 [0, 12] 0 0), .row [0], .node (opN 23 [0] 1 0), .row [0, 14], .node (opN 20 [0, 14] 0 0), .row [13, 15], .node (opN 8 [13, 15] 0 0), .nodes wordNodes, .ask wordNodes, .box B, .any]
theorem word_valued {ms : List MeaningD} (hm : MeansOk declsK ms) : ∃ vs, valuedF (meanValF ⟨declsK, wordNodes, []⟩ ms) wordNodes.length = (vs, true) ∧ vs.length = 17 ∧ (kidV vs 7).num = 1 ∧ (kidV vs 11).num = 1 ∧ (kidV vs 16).num = 1 := by
  obtain ⟨vs, e1, e2, e3⟩ := word_law hm
  refine ⟨vs, ?_, e2, e3⟩
  rw [e1, valuedF, if_neg (by simp), e2]
  rfl
/-- the value at a place of a list of values, as the laws read it -/
theorem num_atW {W : World} {A : Option Addr} {n k : Nat} {vs : List ValueD} {x : Int} (h : Arr AtValue 4 W (fun b => b < W.heap.size) A n vs) (hk : k < n) (hx : (kidV vs k).num = x) : ∃ b off, A = some ⟨b, off, none⟩ ∧ b < W.heap.size ∧ W.cell? ⟨b, off + k * 4, none⟩ = some (.int .i64 x) := by
  obtain ⟨b, off, hx2, -, -, -, rfl, hb, h0, -⟩ := values_get h hk
  refine ⟨b, off, rfl, hb, ?_⟩
  rw [h0, ← hx, kidV, List.getD_eq_getElem?_getD, List.getElem?_eq_getElem hx2]
  rfl

set_option maxRecDepth 100000 in
set_option maxHeartbeats 800000 in
theorem meanWords_any (A : Option Addr) (n c : Nat) (xs : List Int) (w : World) (hxs : ArrB AtInt 1 w w.heap.size A n xs) (hn : n ≤ 9223372036854775807) :
    Calls Try.prog 12 #[.slice A n c] w fun e w' => e = .returned (.bool true) ∧ Below w.heap.size w w' := by
  have HXS := Lib.hid (And.intro hxs hn)
  clear hxs hn
  go_enter Try.func12, Try.ntmps12
  go_wp2_with fail
  refine (func2_any _ _).mono ?_
  rintro e w1 ⟨rfl, hb1⟩
  go_wp2_with fail
  refine (func2_any _ _).mono ?_
  rintro e w2 ⟨rfl, hb2⟩
  go_upto_region 3 with fail
  go_cut [5] (fun s4 wx => ArrMade w wordNodes s4 wx)
  case first =>
    clear HXS
    have hk1 := (Blk.new w1 65 #[.int .i64 9, .slice none 0 0, .int .i64 0, .int .i64 0, .string { data := #[118] }]).below hb2 (Blk.new w1 65 #[.int .i64 9, .slice none 0 0, .int .i64 0, .int .i64 0, .string { data := #[118] }]).lt
    have hb3 : Below w.heap.size w w2 := (hb1.alloc hb1.size (.cells #[.int .i64 9, .slice none 0 0, .int .i64 0, .int .i64 0, .string { data := #[118] }] 65)).trans (hb2.mono (hb1.alloc hb1.size (.cells #[.int .i64 9, .slice none 0 0, .int .i64 0, .int .i64 0, .string { data := #[118] }] 65)).size)
    have hk2 := Blk.new w2 65 #[.int .i64 9, .slice none 0 0, .int .i64 0, .int .i64 0, .string { data := #[119] }]
    have hb4 := hb3.alloc hb3.size (.cells #[.int .i64 9, .slice none 0 0, .int .i64 0, .int .i64 0, .string { data := #[119] }] 65)
    have hk3 := hk1.below ((Below.refl _ _).alloc (Nat.le_refl _) (.cells #[.int .i64 9, .slice none 0 0, .int .i64 0, .int .i64 0, .string { data := #[119] }] 65)) hk1.lt
    obtain ⟨X, hX⟩ : ∃ X, w2.alloc (.cells #[.int .i64 9, .slice none 0 0, .int .i64 0, .int .i64 0, .string { data := #[119] }] 65) = X := ⟨_, rfl⟩
    rw [hX] at hb4 hk2 hk3 ⊢
    have HX := Lib.hid (And.intro hb4 (And.intro hk3 hk2))
    clear hX hb1 hb2 hb3 hb4 hk1 hk2 hk3
    refine wp_region_told_lit 35 34 (fun j => (wordTD X.heap.size |>.getD j .any).P) (fun vs W => ArrMade w wordNodes (vs 33) W) _ (by kernel_rfl) (by kernel_rfl) (by kernel_rfl) (fun _ => by kernel_rfl) (fun vs => rfl) (fun j v W W' _ h _ hb => TD.keep h hb) ?_ ?_ ?_
    · refine ⟨?_, ?_, ?_, ?_, ?_, ?_, ?_, ?_, ?_, ?_, ?_, ?_, ?_, ?_, ?_, ?_, ?_, ?_, ?_, ?_, ?_, ?_, ?_, ?_, ?_, ?_, ?_, ?_, ?_, ?_, ?_, ?_, ?_, ?_, ?_, trivial⟩
      · constructor
        rotate_left
        · intro h; exfalso; revert h; decide
        intro _ vs W hb hd K hK
        generalize hA : putFrom vs _ 0 _ = A at hK ⊢
        clear hA
        go_simp
        refine (decls_any W).mono ?_
        rintro e w2 ⟨A2, c2, rfl, d1, d2, d3, hbw⟩
        exact hK _ _ ⟨hbw, A2, c2, rfl, d1, d3.keep stays_decl (fun b hb' => hb'.2) (fun _ _ _ => rfl)⟩
      · constructor
        rotate_left
        · intro h; exfalso; revert h; decide
        intro _ vs W hb hd K hK
        generalize hA : putFrom vs _ 0 _ = A at hK ⊢
        have e3 : A.tmps[3]?.getD undef = .pointer (some ⟨w1.heap.size, 0, none⟩) := by rw [← hA]; kernel_rfl
        have hk := (HX.out.2.1).below hb (HX.out.2.1).lt
        have y0 := hk.cell 0
        have y1 := hk.cell 1
        have y2 := hk.cell 2
        have y3 := hk.cell 3
        have y4 := hk.cell 4
        simp only [List.getElem?_toArray, List.getElem?_cons_zero, List.getElem?_cons_succ] at y0 y1 y2 y3 y4
        clear hA
        go_simp
        exact hK _ _ ⟨Below.refl _ _, node_name W 118⟩
      · constructor
        rotate_left
        · intro h; exfalso; revert h; decide
        intro _ vs W hb hd K hK
        generalize hA : putFrom vs _ 0 _ = A at hK ⊢
        have e4 : A.tmps[4]?.getD undef = .pointer (some ⟨w2.heap.size, 0, none⟩) := by rw [← hA]; kernel_rfl
        have hk := (HX.out.2.2).below hb (HX.out.2.2).lt
        have y0 := hk.cell 0
        have y1 := hk.cell 1
        have y2 := hk.cell 2
        have y3 := hk.cell 3
        have y4 := hk.cell 4
        simp only [List.getElem?_toArray, List.getElem?_cons_zero, List.getElem?_cons_succ] at y0 y1 y2 y3 y4
        clear hA
        go_simp
        exact hK _ _ ⟨Below.refl _ _, node_name W 119⟩
      · constructor
        rotate_left
        · intro h; exfalso; revert h; decide
        intro _ vs W hb hd K hK
        generalize hA : putFrom vs _ 0 _ = A at hK ⊢
        clear hA
        go_simp
        exact hK _ _ (row_new W [0, 1])
      · constructor
        rotate_left
        · intro h; exfalso; revert h; decide
        intro _ vs W hb hd K hK
        generalize hA : putFrom vs _ 0 _ = A at hK ⊢
        obtain ⟨gk, vk, hk⟩ := hd 3 (by kernel_rfl)
        have h9 : NodeTold (opN 20 [0, 1] 0 0) _ W := node_kids ⟨gk, rfl, hk⟩ 20 0 0 (by decide) (by decide) (by decide) (by decide) (by decide)
        have e13 : A.tmps[13]?.getD undef = _ := (show A.tmps[13]?.getD undef = vs 3 by rw [← hA]; kernel_rfl).trans vk
        clear hA vk
        go_simp
        exact hK _ _ ⟨Below.refl _ _, h9⟩
      · constructor
        rotate_left
        · intro h; exfalso; revert h; decide
        intro _ vs W hb hd K hK
        generalize hA : putFrom vs _ 0 _ = A at hK ⊢
        clear hA
        go_simp
        exact hK _ _ (row_new W [0, 1])
      · constructor
        rotate_left
        · intro h; exfalso; revert h; decide
        intro _ vs W hb hd K hK
        generalize hA : putFrom vs _ 0 _ = A at hK ⊢
        obtain ⟨gk, vk, hk⟩ := hd 5 (by kernel_rfl)
        have h9 : NodeTold (opN 19 [0, 1] 0 0) _ W := node_kids ⟨gk, rfl, hk⟩ 19 0 0 (by decide) (by decide) (by decide) (by decide) (by decide)
        have e15 : A.tmps[15]?.getD undef = _ := (show A.tmps[15]?.getD undef = vs 5 by rw [← hA]; kernel_rfl).trans vk
        clear hA vk
        go_simp
        exact hK _ _ ⟨Below.refl _ _, h9⟩
      · constructor
        rotate_left
        · intro h; exfalso; revert h; decide
        intro _ vs W hb hd K hK
        generalize hA : putFrom vs _ 0 _ = A at hK ⊢
        clear hA
        go_simp
        exact hK _ _ (row_new W [0, 1])
      · constructor
        rotate_left
        · intro h; exfalso; revert h; decide
        intro _ vs W hb hd K hK
        generalize hA : putFrom vs _ 0 _ = A at hK ⊢
        obtain ⟨gk, vk, hk⟩ := hd 7 (by kernel_rfl)
        have h9 : NodeTold (opN 17 [0, 1] 0 0) _ W := node_kids ⟨gk, rfl, hk⟩ 17 0 0 (by decide) (by decide) (by decide) (by decide) (by decide)
        have e17 : A.tmps[17]?.getD undef = _ := (show A.tmps[17]?.getD undef = vs 7 by rw [← hA]; kernel_rfl).trans vk
        clear hA vk
        go_simp
        exact hK _ _ ⟨Below.refl _ _, h9⟩
      · constructor
        rotate_left
        · intro h; exfalso; revert h; decide
        intro _ vs W hb hd K hK
        generalize hA : putFrom vs _ 0 _ = A at hK ⊢
        clear hA
        go_simp
        exact hK _ _ (row_new W [4])
      · constructor
        rotate_left
        · intro h; exfalso; revert h; decide
        intro _ vs W hb hd K hK
        generalize hA : putFrom vs _ 0 _ = A at hK ⊢
        obtain ⟨gk, vk, hk⟩ := hd 9 (by kernel_rfl)
        have h9 : NodeTold (opN 23 [4] 1 0) _ W := node_kids ⟨gk, rfl, hk⟩ 23 1 0 (by decide) (by decide) (by decide) (by decide) (by decide)
        have e19 : A.tmps[19]?.getD undef = _ := (show A.tmps[19]?.getD undef = vs 9 by rw [← hA]; kernel_rfl).trans vk
        clear hA vk
        go_simp
        exact hK _ _ ⟨Below.refl _ _, h9⟩
      · constructor
        rotate_left
        · intro h; exfalso; revert h; decide
        intro _ vs W hb hd K hK
        generalize hA : putFrom vs _ 0 _ = A at hK ⊢
        clear hA
        go_simp
        exact hK _ _ (row_new W [3, 5])
      · constructor
        rotate_left
        · intro h; exfalso; revert h; decide
        intro _ vs W hb hd K hK
        generalize hA : putFrom vs _ 0 _ = A at hK ⊢
        obtain ⟨gk, vk, hk⟩ := hd 11 (by kernel_rfl)
        have h9 : NodeTold (opN 20 [3, 5] 0 0) _ W := node_kids ⟨gk, rfl, hk⟩ 20 0 0 (by decide) (by decide) (by decide) (by decide) (by decide)
        have e21 : A.tmps[21]?.getD undef = _ := (show A.tmps[21]?.getD undef = vs 11 by rw [← hA]; kernel_rfl).trans vk
        clear hA vk
        go_simp
        exact hK _ _ ⟨Below.refl _ _, h9⟩
      · constructor
        rotate_left
        · intro h; exfalso; revert h; decide
        intro _ vs W hb hd K hK
        generalize hA : putFrom vs _ 0 _ = A at hK ⊢
        clear hA
        go_simp
        exact hK _ _ (row_new W [2, 6])
      · constructor
        rotate_left
        · intro h; exfalso; revert h; decide
        intro _ vs W hb hd K hK
        generalize hA : putFrom vs _ 0 _ = A at hK ⊢
        obtain ⟨gk, vk, hk⟩ := hd 13 (by kernel_rfl)
        have h9 : NodeTold (opN 8 [2, 6] 0 0) _ W := node_kids ⟨gk, rfl, hk⟩ 8 0 0 (by decide) (by decide) (by decide) (by decide) (by decide)
        have e23 : A.tmps[23]?.getD undef = _ := (show A.tmps[23]?.getD undef = vs 13 by rw [← hA]; kernel_rfl).trans vk
        clear hA vk
        go_simp
        exact hK _ _ ⟨Below.refl _ _, h9⟩
      · constructor
        rotate_left
        · intro h; exfalso; revert h; decide
        intro _ vs W hb hd K hK
        generalize hA : putFrom vs _ 0 _ = A at hK ⊢
        clear hA
        go_simp
        exact hK _ _ (row_new W [0])
      · constructor
        rotate_left
        · intro h; exfalso; revert h; decide
        intro _ vs W hb hd K hK
        generalize hA : putFrom vs _ 0 _ = A at hK ⊢
        obtain ⟨gk, vk, hk⟩ := hd 15 (by kernel_rfl)
        have h9 : NodeTold (opN 16 [0] 0 0) _ W := node_kids ⟨gk, rfl, hk⟩ 16 0 0 (by decide) (by decide) (by decide) (by decide) (by decide)
        have e25 : A.tmps[25]?.getD undef = _ := (show A.tmps[25]?.getD undef = vs 15 by rw [← hA]; kernel_rfl).trans vk
        clear hA vk
        go_simp
        exact hK _ _ ⟨Below.refl _ _, h9⟩
      · constructor
        rotate_left
        · intro h; exfalso; revert h; decide
        intro _ vs W hb hd K hK
        generalize hA : putFrom vs _ 0 _ = A at hK ⊢
        clear hA
        go_simp
        exact hK _ _ (row_new W [0, 8])
      · constructor
        rotate_left
        · intro h; exfalso; revert h; decide
        intro _ vs W hb hd K hK
        generalize hA : putFrom vs _ 0 _ = A at hK ⊢
        obtain ⟨gk, vk, hk⟩ := hd 17 (by kernel_rfl)
        have h9 : NodeTold (opN 20 [0, 8] 0 0) _ W := node_kids ⟨gk, rfl, hk⟩ 20 0 0 (by decide) (by decide) (by decide) (by decide) (by decide)
        have e27 : A.tmps[27]?.getD undef = _ := (show A.tmps[27]?.getD undef = vs 17 by rw [← hA]; kernel_rfl).trans vk
        clear hA vk
        go_simp
        exact hK _ _ ⟨Below.refl _ _, h9⟩
      · constructor
        rotate_left
        · intro h; exfalso; revert h; decide
        intro _ vs W hb hd K hK
        generalize hA : putFrom vs _ 0 _ = A at hK ⊢
        clear hA
        go_simp
        exact hK _ _ ⟨Below.refl _ _, node_plain W 15 7 3 (by decide) (by decide) (by decide)⟩
      · constructor
        rotate_left
        · intro h; exfalso; revert h; decide
        intro _ vs W hb hd K hK
        generalize hA : putFrom vs _ 0 _ = A at hK ⊢
        clear hA
        go_simp
        exact hK _ _ (row_new W [9, 10])
      · constructor
        rotate_left
        · intro h; exfalso; revert h; decide
        intro _ vs W hb hd K hK
        generalize hA : putFrom vs _ 0 _ = A at hK ⊢
        obtain ⟨gk, vk, hk⟩ := hd 20 (by kernel_rfl)
        have h9 : NodeTold (opN 8 [9, 10] 0 0) _ W := node_kids ⟨gk, rfl, hk⟩ 8 0 0 (by decide) (by decide) (by decide) (by decide) (by decide)
        have e30 : A.tmps[30]?.getD undef = _ := (show A.tmps[30]?.getD undef = vs 20 by rw [← hA]; kernel_rfl).trans vk
        clear hA vk
        go_simp
        exact hK _ _ ⟨Below.refl _ _, h9⟩
      · constructor
        rotate_left
        · intro h; exfalso; revert h; decide
        intro _ vs W hb hd K hK
        generalize hA : putFrom vs _ 0 _ = A at hK ⊢
        clear hA
        go_simp
        exact hK _ _ ⟨Below.refl _ _, node_plain W 15 3 3 (by decide) (by decide) (by decide)⟩
      · constructor
        rotate_left
        · intro h; exfalso; revert h; decide
        intro _ vs W hb hd K hK
        generalize hA : putFrom vs _ 0 _ = A at hK ⊢
        clear hA
        go_simp
        exact hK _ _ (row_new W [0, 12])
      · constructor
        rotate_left
        · intro h; exfalso; revert h; decide
        intro _ vs W hb hd K hK
        generalize hA : putFrom vs _ 0 _ = A at hK ⊢
        obtain ⟨gk, vk, hk⟩ := hd 23 (by kernel_rfl)
        have h9 : NodeTold (opN 21 [0, 12] 0 0) _ W := node_kids ⟨gk, rfl, hk⟩ 21 0 0 (by decide) (by decide) (by decide) (by decide) (by decide)
        have e33 : A.tmps[33]?.getD undef = _ := (show A.tmps[33]?.getD undef = vs 23 by rw [← hA]; kernel_rfl).trans vk
        clear hA vk
        go_simp
        exact hK _ _ ⟨Below.refl _ _, h9⟩
      · constructor
        rotate_left
        · intro h; exfalso; revert h; decide
        intro _ vs W hb hd K hK
        generalize hA : putFrom vs _ 0 _ = A at hK ⊢
        clear hA
        go_simp
        exact hK _ _ (row_new W [0])
      · constructor
        rotate_left
        · intro h; exfalso; revert h; decide
        intro _ vs W hb hd K hK
        generalize hA : putFrom vs _ 0 _ = A at hK ⊢
        obtain ⟨gk, vk, hk⟩ := hd 25 (by kernel_rfl)
        have h9 : NodeTold (opN 23 [0] 1 0) _ W := node_kids ⟨gk, rfl, hk⟩ 23 1 0 (by decide) (by decide) (by decide) (by decide) (by decide)
        have e35 : A.tmps[35]?.getD undef = _ := (show A.tmps[35]?.getD undef = vs 25 by rw [← hA]; kernel_rfl).trans vk
        clear hA vk
        go_simp
        exact hK _ _ ⟨Below.refl _ _, h9⟩
      · constructor
        rotate_left
        · intro h; exfalso; revert h; decide
        intro _ vs W hb hd K hK
        generalize hA : putFrom vs _ 0 _ = A at hK ⊢
        clear hA
        go_simp
        exact hK _ _ (row_new W [0, 14])
      · constructor
        rotate_left
        · intro h; exfalso; revert h; decide
        intro _ vs W hb hd K hK
        generalize hA : putFrom vs _ 0 _ = A at hK ⊢
        obtain ⟨gk, vk, hk⟩ := hd 27 (by kernel_rfl)
        have h9 : NodeTold (opN 20 [0, 14] 0 0) _ W := node_kids ⟨gk, rfl, hk⟩ 20 0 0 (by decide) (by decide) (by decide) (by decide) (by decide)
        have e37 : A.tmps[37]?.getD undef = _ := (show A.tmps[37]?.getD undef = vs 27 by rw [← hA]; kernel_rfl).trans vk
        clear hA vk
        go_simp
        exact hK _ _ ⟨Below.refl _ _, h9⟩
      · constructor
        rotate_left
        · intro h; exfalso; revert h; decide
        intro _ vs W hb hd K hK
        generalize hA : putFrom vs _ 0 _ = A at hK ⊢
        clear hA
        go_simp
        exact hK _ _ (row_new W [13, 15])
      · constructor
        rotate_left
        · intro h; exfalso; revert h; decide
        intro _ vs W hb hd K hK
        generalize hA : putFrom vs _ 0 _ = A at hK ⊢
        obtain ⟨gk, vk, hk⟩ := hd 29 (by kernel_rfl)
        have h9 : NodeTold (opN 8 [13, 15] 0 0) _ W := node_kids ⟨gk, rfl, hk⟩ 8 0 0 (by decide) (by decide) (by decide) (by decide) (by decide)
        have e39 : A.tmps[39]?.getD undef = _ := (show A.tmps[39]?.getD undef = vs 29 by rw [← hA]; kernel_rfl).trans vk
        clear hA vk
        go_simp
        exact hK _ _ ⟨Below.refl _ _, h9⟩
      · constructor
        rotate_left
        · intro h; exfalso; revert h; decide
        intro _ vs W hb hd K hK
        generalize hA : putFrom vs _ 0 _ = A at hK ⊢
        obtain ⟨A1, n1, c1, v1, u1⟩ := hd 1 (by kernel_rfl)
        have e11 : A.tmps[11]?.getD undef = _ := (show A.tmps[11]?.getD undef = vs 1 by rw [← hA]; kernel_rfl).trans v1
        obtain ⟨A2, n2, c2, v2, u2⟩ := hd 2 (by kernel_rfl)
        have e12 : A.tmps[12]?.getD undef = _ := (show A.tmps[12]?.getD undef = vs 2 by rw [← hA]; kernel_rfl).trans v2
        obtain ⟨A4, n4, c4, v4, u4⟩ := hd 4 (by kernel_rfl)
        have e14 : A.tmps[14]?.getD undef = _ := (show A.tmps[14]?.getD undef = vs 4 by rw [← hA]; kernel_rfl).trans v4
        obtain ⟨A6, n6, c6, v6, u6⟩ := hd 6 (by kernel_rfl)
        have e16 : A.tmps[16]?.getD undef = _ := (show A.tmps[16]?.getD undef = vs 6 by rw [← hA]; kernel_rfl).trans v6
        obtain ⟨A8, n8, c8, v8, u8⟩ := hd 8 (by kernel_rfl)
        have e18 : A.tmps[18]?.getD undef = _ := (show A.tmps[18]?.getD undef = vs 8 by rw [← hA]; kernel_rfl).trans v8
        obtain ⟨A10, n10, c10, v10, u10⟩ := hd 10 (by kernel_rfl)
        have e20 : A.tmps[20]?.getD undef = _ := (show A.tmps[20]?.getD undef = vs 10 by rw [← hA]; kernel_rfl).trans v10
        obtain ⟨A12, n12, c12, v12, u12⟩ := hd 12 (by kernel_rfl)
        have e22 : A.tmps[22]?.getD undef = _ := (show A.tmps[22]?.getD undef = vs 12 by rw [← hA]; kernel_rfl).trans v12
        obtain ⟨A14, n14, c14, v14, u14⟩ := hd 14 (by kernel_rfl)
        have e24 : A.tmps[24]?.getD undef = _ := (show A.tmps[24]?.getD undef = vs 14 by rw [← hA]; kernel_rfl).trans v14
        obtain ⟨A16, n16, c16, v16, u16⟩ := hd 16 (by kernel_rfl)
        have e26 : A.tmps[26]?.getD undef = _ := (show A.tmps[26]?.getD undef = vs 16 by rw [← hA]; kernel_rfl).trans v16
        obtain ⟨A18, n18, c18, v18, u18⟩ := hd 18 (by kernel_rfl)
        have e28 : A.tmps[28]?.getD undef = _ := (show A.tmps[28]?.getD undef = vs 18 by rw [← hA]; kernel_rfl).trans v18
        obtain ⟨A19, n19, c19, v19, u19⟩ := hd 19 (by kernel_rfl)
        have e29 : A.tmps[29]?.getD undef = _ := (show A.tmps[29]?.getD undef = vs 19 by rw [← hA]; kernel_rfl).trans v19
        obtain ⟨A21, n21, c21, v21, u21⟩ := hd 21 (by kernel_rfl)
        have e31 : A.tmps[31]?.getD undef = _ := (show A.tmps[31]?.getD undef = vs 21 by rw [← hA]; kernel_rfl).trans v21
        obtain ⟨A22, n22, c22, v22, u22⟩ := hd 22 (by kernel_rfl)
        have e32 : A.tmps[32]?.getD undef = _ := (show A.tmps[32]?.getD undef = vs 22 by rw [← hA]; kernel_rfl).trans v22
        obtain ⟨A24, n24, c24, v24, u24⟩ := hd 24 (by kernel_rfl)
        have e34 : A.tmps[34]?.getD undef = _ := (show A.tmps[34]?.getD undef = vs 24 by rw [← hA]; kernel_rfl).trans v24
        obtain ⟨A26, n26, c26, v26, u26⟩ := hd 26 (by kernel_rfl)
        have e36 : A.tmps[36]?.getD undef = _ := (show A.tmps[36]?.getD undef = vs 26 by rw [← hA]; kernel_rfl).trans v26
        obtain ⟨A28, n28, c28, v28, u28⟩ := hd 28 (by kernel_rfl)
        have e38 : A.tmps[38]?.getD undef = _ := (show A.tmps[38]?.getD undef = vs 28 by rw [← hA]; kernel_rfl).trans v28
        obtain ⟨A30, n30, c30, v30, u30⟩ := hd 30 (by kernel_rfl)
        have e40 : A.tmps[40]?.getD undef = _ := (show A.tmps[40]?.getD undef = vs 30 by rw [← hA]; kernel_rfl).trans v30
        have HU : Hid (_) := Lib.hid (nodes_new (w := W) [(nameN 118, A1, n1, c1), (nameN 119, A2, n2, c2), (opN 20 [0, 1] 0 0, A4, n4, c4), (opN 19 [0, 1] 0 0, A6, n6, c6), (opN 17 [0, 1] 0 0, A8, n8, c8), (opN 23 [4] 1 0, A10, n10, c10), (opN 20 [3, 5] 0 0, A12, n12, c12), (opN 8 [2, 6] 0 0, A14, n14, c14), (opN 16 [0] 0 0, A16, n16, c16), (opN 20 [0, 8] 0 0, A18, n18, c18), (opN 15 [] 7 3, A19, n19, c19), (opN 8 [9, 10] 0 0, A21, n21, c21), (opN 15 [] 3 3, A22, n22, c22), (opN 21 [0, 12] 0 0, A24, n24, c24), (opN 23 [0] 1 0, A26, n26, c26), (opN 20 [0, 14] 0 0, A28, n28, c28), (opN 8 [13, 15] 0 0, A30, n30, c30)] (by
            intro p hp
            simp only [List.mem_cons, List.not_mem_nil, or_false] at hp
            rcases hp with rfl | rfl | rfl | rfl | rfl | rfl | rfl | rfl | rfl | rfl | rfl | rfl | rfl | rfl | rfl | rfl | rfl
            · exact u1
            · exact u2
            · exact u4
            · exact u6
            · exact u8
            · exact u10
            · exact u12
            · exact u14
            · exact u16
            · exact u18
            · exact u19
            · exact u21
            · exact u22
            · exact u24
            · exact u26
            · exact u28
            · exact u30))
        clear v1 u1 v2 u2 v4 u4 v6 u6 v8 u8 v10 u10 v12 u12 v14 u14 v16 u16 v18 u18 v19 u19 v21 u21 v22 u22 v24 u24 v26 u26 v28 u28 v30 u30
        clear hA hd hb
        dsimp only [nameN, opN] at e11 e12 e14 e16 e18 e20 e22 e24 e26 e28 e29 e31 e32 e34 e36 e38 e40
        go_simp
        exact hK _ _ HU.out
      · constructor
        rotate_left
        · intro h; exfalso; revert h; decide
        intro _ vs W hb hd K hK
        generalize hA : putFrom vs _ 0 _ = A at hK ⊢
        obtain ⟨AD, cD, vD, hcD, hD⟩ := hd 0 (by kernel_rfl)
        obtain ⟨gN, vN, hN⟩ := hd 31 (by kernel_rfl)
        have e10 : A.tmps[10]?.getD undef = _ := (show A.tmps[10]?.getD undef = vs 0 by rw [← hA]; kernel_rfl).trans vD
        have e41 : A.tmps[41]?.getD undef = _ := (show A.tmps[41]?.getD undef = vs 31 by rw [← hA]; kernel_rfl).trans vN
        clear hA vD vN
        go_simp
        exact hK _ _ ⟨Below.refl _ _, AD, cD, gN, rfl, hcD, hD, hN⟩
      · constructor
        rotate_left
        · intro h; exfalso; revert h; decide
        intro _ vs W hb hd K hK
        generalize hA : putFrom vs _ 0 _ = A at hK ⊢
        have h9 := box_new (w := W) hb.size
        clear hA hb
        go_simp
        exact hK _ _ h9
      · constructor
        · intro h; exfalso; revert h; decide
        intro _ vs W hb hd K hK
        have i19 : 33 < 35 := by decide
        have i18 : 32 < 35 := by decide
        have j19 : 33 ≠ 34 := by decide
        have j18 : 32 ≠ 34 := by decide
        generalize hA : putFrom vs _ 0 _ = A at hK ⊢
        obtain ⟨q, vq, hq, hkq⟩ := hd 33 i19 j19
        obtain ⟨AD, cD, gN, vA, hcD, hD, hN⟩ := hd 32 i18 j18
        have e4 : A.tmps[5]?.getD undef = _ := (show A.tmps[5]?.getD undef = vs 33 by rw [← hA]; kernel_rfl).trans vq
        have e26 : A.tmps[42]?.getD undef = _ := (show A.tmps[42]?.getD undef = vs 32 by rw [← hA]; kernel_rfl).trans vA
        have y0 := hkq.cell 0
        have y1 := hkq.cell 1
        have y2 := hkq.cell 2
        have z0 := hkq.frozen 0
        have z1 := hkq.frozen 1
        have z2 := hkq.frozen 2
        simp only [List.getElem?_toArray, List.getElem?_cons_zero, List.getElem?_cons_succ] at y0 y1 y2
        have hql := hkq.lt
        have HK := Lib.hid (And.intro vq (And.intro hkq (And.intro hq (And.intro hcD (And.intro hD (And.intro hN hb))))))
        clear hA vA vq hcD hD hN hd hkq hq hb
        go_simp
        obtain ⟨vq, hkq, hq, hcD, hD, hN, hb⟩ := HK.out
        exact hK undef _ (ask_made (by decide) HX.out.1 hb vq hq hkq hcD hD hN)
    · exact fun h => absurd h (by decide)
    · intro vs W hE
      simp only [putFrom, Act.put, List.setIfInBounds_toArray, List.set_cons_succ, List.set_cons_zero]
      go_wp2_with fail
      go_meet
      exact hE
  case rest =>
    obtain ⟨A2, c2, B, q, rfl, hc2, hbw, hk, ha⟩ := hcut
    rw [show wordNodes.length = 17 from rfl] at hk ha
    have x0 := hk.cell 0
    have x1 := hk.cell 1
    have x2 := hk.cell 2
    simp only [List.getElem?_toArray, List.getElem?_cons_zero, List.getElem?_cons_succ] at x0 x1 x2
    have HK := Lib.hid (And.intro hbw (And.intro ha (And.intro hc2 hk.lt)))
    have zq : q < wc.heap.size := hk.lt
    clear hb1 hb2 hbw hk ha hc2
    go_upto_region 4 with fail
    go_region_held3 (fun w' => w'.cell? ⟨q, 0, none⟩ = some (.slice A2 14 c2) ∧ w'.cell? ⟨q, 1, none⟩ = some (.slice B 17 17) ∧ w'.cell? ⟨q, 2, none⟩ = some (.slice none 0 0))
      ((try dsimp only) <;> (repeat' apply And.intro) <;> go_keep)
      (first
        | (go_simp
           go_at_call 26
           refine (world_any A n c xs _ (ArrB.below HXS.out.1 stays_int (below_drewN HK.out.1 1) (Nat.le_trans HK.out.1.size (Nat.le_refl _))) HXS.out.2).mono ?_
           rintro e w3 ⟨AM, cm, ms, rfl, h1, h2, h3, h4, hb3⟩
           have HB3 : Hid (Below wc.heap.size wc w3) := below_join (below_drewN (Below.refl _ _) 1) hb3
           have r0 : w3.cell? ⟨q, 0, none⟩ = some (.slice A2 14 c2) := (HB3.out.cell (p := ⟨q, 0, none⟩) zq).trans x0
           have r1 : w3.cell? ⟨q, 1, none⟩ = some (.slice B 17 17) := (HB3.out.cell (p := ⟨q, 1, none⟩) zq).trans x1
           have r2 : w3.cell? ⟨q, 2, none⟩ = some (.slice none 0 0) := (HB3.out.cell (p := ⟨q, 2, none⟩) zq).trans x2
           have HM := Lib.hid (And.intro h3 h4)
           clear h1 h2 h3 h4 hb3)
        | (go_simp
           go_at_call 25
           have hv := valued_any A2 B none 14 c2 17 17 0 0 ⟨declsK, wordNodes, []⟩ AM 14 cm ms w3 (HK.out.2.1.below HB3.out HB3.out.size) HK.out.2.2.1 (Arr.keep stays_meaning HM.out.1 (fun b hb => hb.2) (fun _ _ _ => rfl))
           obtain ⟨vs, e1, e2, e3⟩ := word_valued HM.out.2
           rw [e1] at hv
           refine hv.mono ?_
           rintro e w4 ⟨AV, cv, rfl, hb4, h5, h6, h7⟩
           clear hv e1
           dsimp only at h5 h7 ⊢
           rw [e2] at h5 h7 ⊢
           have HB4 : Hid (Below wc.heap.size wc w4) := below_join HB3.out hb4
           have q0 : w4.cell? ⟨q, 0, none⟩ = some (.slice A2 14 c2) := (HB4.out.cell (p := ⟨q, 0, none⟩) zq).trans x0
           have q1 : w4.cell? ⟨q, 1, none⟩ = some (.slice B 17 17) := (HB4.out.cell (p := ⟨q, 1, none⟩) zq).trans x1
           have q2 : w4.cell? ⟨q, 2, none⟩ = some (.slice none 0 0) := (HB4.out.cell (p := ⟨q, 2, none⟩) zq).trans x2
           have HV := Lib.hid (And.intro h7 e3)
           clear hb4 h5 h6 h7 e2 e3)
        | fail)
    all_goals
      clear q0 q1 q2 r0 r1 r2 x0 x1 x2
      obtain ⟨b9, off9, rfl, hb9, v9⟩ := num_atW HV.out.1 (k := 7) (by omega) HV.out.2.1
      obtain ⟨b11, off11, e11, hb11, v11⟩ := num_atW HV.out.1 (k := 11) (by omega) HV.out.2.2.1
      obtain ⟨b16, off16, e16, hb16, v16⟩ := num_atW HV.out.1 (k := 16) (by omega) HV.out.2.2.2
      cases e11
      cases e16
      have HE : Hid (Below w.heap.size w w4) := HK.out.1.trans (HB4.out.mono HK.out.1.size)
      go_wp2_with fail
      go_ret
      exact ⟨rfl, HE.out⟩
end Go.Proofs.Ytggkfepifnfdoaa
