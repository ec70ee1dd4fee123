/- Walk: the law MeanMorgan. -/
import Derived.Test.YthooecojopfjbaaMkN
import Derived.Test.YthooecojopfjbaaMkO
import Derived.Deep.RegionHeld3
namespace Go.Proofs.Ythooecojopfjbaa
open Go.RowKit

theorem vnode_row {w : World} {S : Nat → Prop} {g : Nat} {t : TypeId} {cs : Array Value} (kids : List Int) (h : Blk w g t cs) (hc : cs.toList = kids.map (Value.int .i64)) (hi : ∀ x ∈ kids, I64 x) (hg : S g) (hl : kids.length ≤ 10) (op : Int) (ho : 0 ≤ op ∧ op ≤ 100) :
    VNode w S [.int .i64 op, .slice (some ⟨g, 0, none⟩) kids.length kids.length, .int .i64 0, .int .i64 0, .string { data := #[] }] (opN op kids 0 0) :=
  ⟨_, _, _, rfl, ⟨by show I64 op; unfold I64; omega, i64_0, i64_0, by show (0 : Nat) ≤ maxLen; exact Nat.zero_le _⟩, Nat.le_refl _, by unfold maxLen; omega, arr_ints h hc hi hg⟩
theorem morgan_eq (N x y : Nat) : morganN N x y = [opN 4 [(x : Int), (y : Int)] 0 0, opN 3 [(N : Int)] 0 0, opN 3 [(x : Int)] 0 0, opN 3 [(y : Int)] 0 0, opN 5 [(N : Int) + 2, (N : Int) + 3] 0 0, opN 6 [(N : Int) + 1, (N : Int) + 4] 0 0] := by simp [morganN, kidsZ]
set_option maxRecDepth 10000 in
theorem morgan_nodes (W : World) (N x y : Nat) (hN : N ≤ 200) (hx : x ≤ 200) (hy : y ≤ 200) :
    ∃ Z, (((((((W.alloc (.cells #[.int .i64 ((x : Int)), .int .i64 ((y : Int))] 3)).alloc (.cells #[.int .i64 ((N : Int))] 3)).alloc (.cells #[.int .i64 ((x : Int))] 3)).alloc (.cells #[.int .i64 ((y : Int))] 3)).alloc (.cells #[.int .i64 ((N : Int) + 2), .int .i64 ((N : Int) + 3)] 3)).alloc (.cells #[.int .i64 ((N : Int) + 1), .int .i64 ((N : Int) + 4)] 3)).alloc (.cells #[.int .i64 4, .slice (some ⟨W.heap.size, 0, none⟩) 2 2, .int .i64 0, .int .i64 0, .string { data := #[] }, .int .i64 3, .slice (some ⟨W.heap.size + 1, 0, none⟩) 1 1, .int .i64 0, .int .i64 0, .string { data := #[] }, .int .i64 3, .slice (some ⟨W.heap.size + 1 + 1, 0, none⟩) 1 1, .int .i64 0, .int .i64 0, .string { data := #[] }, .int .i64 3, .slice (some ⟨W.heap.size + 1 + 1 + 1, 0, none⟩) 1 1, .int .i64 0, .int .i64 0, .string { data := #[] }, .int .i64 5, .slice (some ⟨W.heap.size + 1 + 1 + 1 + 1, 0, none⟩) 2 2, .int .i64 0, .int .i64 0, .string { data := #[] }, .int .i64 6, .slice (some ⟨W.heap.size + 1 + 1 + 1 + 1 + 1, 0, none⟩) 2 2, .int .i64 0, .int .i64 0, .string { data := #[] }] 59)) = Z ∧ Below W.heap.size W Z ∧ Arr AtNode 5 Z (fun b => b < Z.heap.size) (some ⟨W.heap.size + 6, 0, none⟩) 6 (morganN N x y) := by
  have hs := allocs_size 3 [#[.int .i64 ((x : Int)), .int .i64 ((y : Int))], #[.int .i64 ((N : Int))], #[.int .i64 ((x : Int))], #[.int .i64 ((y : Int))], #[.int .i64 ((N : Int) + 2), .int .i64 ((N : Int) + 3)], #[.int .i64 ((N : Int) + 1), .int .i64 ((N : Int) + 4)]] W
  have hb1 := allocs_below 3 [#[.int .i64 ((x : Int)), .int .i64 ((y : Int))], #[.int .i64 ((N : Int))], #[.int .i64 ((x : Int))], #[.int .i64 ((y : Int))], #[.int .i64 ((N : Int) + 2), .int .i64 ((N : Int) + 3)], #[.int .i64 ((N : Int) + 1), .int .i64 ((N : Int) + 4)]] W
  have hk := fun i c h => allocs_blk 3 [#[.int .i64 ((x : Int)), .int .i64 ((y : Int))], #[.int .i64 ((N : Int))], #[.int .i64 ((x : Int))], #[.int .i64 ((y : Int))], #[.int .i64 ((N : Int) + 2), .int .i64 ((N : Int) + 3)], #[.int .i64 ((N : Int) + 1), .int .i64 ((N : Int) + 4)]] W i c h
  refine ⟨_, rfl, ?_⟩
  change Below W.heap.size W ((allocs 3 W [#[.int .i64 ((x : Int)), .int .i64 ((y : Int))], #[.int .i64 ((N : Int))], #[.int .i64 ((x : Int))], #[.int .i64 ((y : Int))], #[.int .i64 ((N : Int) + 2), .int .i64 ((N : Int) + 3)], #[.int .i64 ((N : Int) + 1), .int .i64 ((N : Int) + 4)]]).alloc _) ∧ Arr AtNode 5 ((allocs 3 W [#[.int .i64 ((x : Int)), .int .i64 ((y : Int))], #[.int .i64 ((N : Int))], #[.int .i64 ((x : Int))], #[.int .i64 ((y : Int))], #[.int .i64 ((N : Int) + 2), .int .i64 ((N : Int) + 3)], #[.int .i64 ((N : Int) + 1), .int .i64 ((N : Int) + 4)]]).alloc _) (fun b => b < ((allocs 3 W [#[.int .i64 ((x : Int)), .int .i64 ((y : Int))], #[.int .i64 ((N : Int))], #[.int .i64 ((x : Int))], #[.int .i64 ((y : Int))], #[.int .i64 ((N : Int) + 2), .int .i64 ((N : Int) + 3)], #[.int .i64 ((N : Int) + 1), .int .i64 ((N : Int) + 4)]]).alloc _).heap.size) _ _ _
  generalize hQ : allocs 3 W [#[.int .i64 ((x : Int)), .int .i64 ((y : Int))], #[.int .i64 ((N : Int))], #[.int .i64 ((x : Int))], #[.int .i64 ((y : Int))], #[.int .i64 ((N : Int) + 2), .int .i64 ((N : Int) + 3)], #[.int .i64 ((N : Int) + 1), .int .i64 ((N : Int) + 4)]] = Q at hs hb1 hk ⊢
  have hz : Q.heap.size = W.heap.size + 6 := hs
  have hkn := Blk.new Q 59 #[.int .i64 4, .slice (some ⟨W.heap.size, 0, none⟩) 2 2, .int .i64 0, .int .i64 0, .string { data := #[] }, .int .i64 3, .slice (some ⟨W.heap.size + 1, 0, none⟩) 1 1, .int .i64 0, .int .i64 0, .string { data := #[] }, .int .i64 3, .slice (some ⟨W.heap.size + 1 + 1, 0, none⟩) 1 1, .int .i64 0, .int .i64 0, .string { data := #[] }, .int .i64 3, .slice (some ⟨W.heap.size + 1 + 1 + 1, 0, none⟩) 1 1, .int .i64 0, .int .i64 0, .string { data := #[] }, .int .i64 5, .slice (some ⟨W.heap.size + 1 + 1 + 1 + 1, 0, none⟩) 2 2, .int .i64 0, .int .i64 0, .string { data := #[] }, .int .i64 6, .slice (some ⟨W.heap.size + 1 + 1 + 1 + 1 + 1, 0, none⟩) 2 2, .int .i64 0, .int .i64 0, .string { data := #[] }]
  have hbn : Below Q.heap.size Q (Q.alloc (.cells #[.int .i64 4, .slice (some ⟨W.heap.size, 0, none⟩) 2 2, .int .i64 0, .int .i64 0, .string { data := #[] }, .int .i64 3, .slice (some ⟨W.heap.size + 1, 0, none⟩) 1 1, .int .i64 0, .int .i64 0, .string { data := #[] }, .int .i64 3, .slice (some ⟨W.heap.size + 1 + 1, 0, none⟩) 1 1, .int .i64 0, .int .i64 0, .string { data := #[] }, .int .i64 3, .slice (some ⟨W.heap.size + 1 + 1 + 1, 0, none⟩) 1 1, .int .i64 0, .int .i64 0, .string { data := #[] }, .int .i64 5, .slice (some ⟨W.heap.size + 1 + 1 + 1 + 1, 0, none⟩) 2 2, .int .i64 0, .int .i64 0, .string { data := #[] }, .int .i64 6, .slice (some ⟨W.heap.size + 1 + 1 + 1 + 1 + 1, 0, none⟩) 2 2, .int .i64 0, .int .i64 0, .string { data := #[] }] 59)) := (Below.refl _ _).alloc (Nat.le_refl _) _
  have hbz : Below W.heap.size W (Q.alloc (.cells #[.int .i64 4, .slice (some ⟨W.heap.size, 0, none⟩) 2 2, .int .i64 0, .int .i64 0, .string { data := #[] }, .int .i64 3, .slice (some ⟨W.heap.size + 1, 0, none⟩) 1 1, .int .i64 0, .int .i64 0, .string { data := #[] }, .int .i64 3, .slice (some ⟨W.heap.size + 1 + 1, 0, none⟩) 1 1, .int .i64 0, .int .i64 0, .string { data := #[] }, .int .i64 3, .slice (some ⟨W.heap.size + 1 + 1 + 1, 0, none⟩) 1 1, .int .i64 0, .int .i64 0, .string { data := #[] }, .int .i64 5, .slice (some ⟨W.heap.size + 1 + 1 + 1 + 1, 0, none⟩) 2 2, .int .i64 0, .int .i64 0, .string { data := #[] }, .int .i64 6, .slice (some ⟨W.heap.size + 1 + 1 + 1 + 1 + 1, 0, none⟩) 2 2, .int .i64 0, .int .i64 0, .string { data := #[] }] 59)) := hb1.trans (hbn.mono hb1.size)
  refine ⟨hbz, ?_⟩
  rw [hz] at hkn
  generalize Q.alloc (.cells #[.int .i64 4, .slice (some ⟨W.heap.size, 0, none⟩) 2 2, .int .i64 0, .int .i64 0, .string { data := #[] }, .int .i64 3, .slice (some ⟨W.heap.size + 1, 0, none⟩) 1 1, .int .i64 0, .int .i64 0, .string { data := #[] }, .int .i64 3, .slice (some ⟨W.heap.size + 1 + 1, 0, none⟩) 1 1, .int .i64 0, .int .i64 0, .string { data := #[] }, .int .i64 3, .slice (some ⟨W.heap.size + 1 + 1 + 1, 0, none⟩) 1 1, .int .i64 0, .int .i64 0, .string { data := #[] }, .int .i64 5, .slice (some ⟨W.heap.size + 1 + 1 + 1 + 1, 0, none⟩) 2 2, .int .i64 0, .int .i64 0, .string { data := #[] }, .int .i64 6, .slice (some ⟨W.heap.size + 1 + 1 + 1 + 1 + 1, 0, none⟩) 2 2, .int .i64 0, .int .i64 0, .string { data := #[] }] 59) = Z at hkn hbn hbz ⊢
  refine arr_of_blk (S := fun b => b < Z.heap.size) (xs := morganN N x y) tells_node (fun _ _ _ _ _ h => atV_node h) hkn ?_ hkn.lt
  rw [morgan_eq]
  have h : ∀ i c, ([#[.int .i64 ((x : Int)), .int .i64 ((y : Int))], #[.int .i64 ((N : Int))], #[.int .i64 ((x : Int))], #[.int .i64 ((y : Int))], #[.int .i64 ((N : Int) + 2), .int .i64 ((N : Int) + 3)], #[.int .i64 ((N : Int) + 1), .int .i64 ((N : Int) + 4)]] : List (Array Value))[i]? = some c → Blk Z (W.heap.size + i) 3 c ∧ (fun b => b < Z.heap.size) (W.heap.size + i) := fun i c hi => by
    have hk2 := (hk i c hi).below hbn (hk i c hi).lt
    exact ⟨hk2, hk2.lt⟩
  refine ⟨_, _, rfl, vnode_row [((x : Int)), ((y : Int))] (h 0 _ rfl).1 rfl (by simp; unfold I64; omega) (h 0 _ rfl).2 (by simp) 4 (by omega), ?_⟩
  refine ⟨_, _, rfl, vnode_row [((N : Int))] (h 1 _ rfl).1 rfl (by simp; unfold I64; omega) (h 1 _ rfl).2 (by simp) 3 (by omega), ?_⟩
  refine ⟨_, _, rfl, vnode_row [((x : Int))] (h 2 _ rfl).1 rfl (by simp; unfold I64; omega) (h 2 _ rfl).2 (by simp) 3 (by omega), ?_⟩
  refine ⟨_, _, rfl, vnode_row [((y : Int))] (h 3 _ rfl).1 rfl (by simp; unfold I64; omega) (h 3 _ rfl).2 (by simp) 3 (by omega), ?_⟩
  refine ⟨_, _, rfl, vnode_row [((N : Int) + 2), ((N : Int) + 3)] (h 4 _ rfl).1 rfl (by simp; unfold I64; omega) (h 4 _ rfl).2 (by simp) 5 (by omega), ?_⟩
  refine ⟨_, _, rfl, vnode_row [((N : Int) + 1), ((N : Int) + 4)] (h 5 _ rfl).1 rfl (by simp; unfold I64; omega) (h 5 _ rfl).2 (by simp) 6 (by omega), ?_⟩
  exact rfl

set_option maxRecDepth 100000 in
set_option maxHeartbeats 4000000 in
theorem meanMorgan_any (A : Option Addr) (n c : Nat) (xs : List Int) (A' : Option Addr) (n' c' : Nat) (xs' : List Int) (w : World) (hxs : ArrB AtInt 1 w w.heap.size A n xs) (hn : n ≤ 9223372036854775807) (hxs' : ArrB AtInt 1 w w.heap.size A' n' xs') (hn' : n' ≤ 9223372036854775807) :
    Calls Try.prog 7 #[.slice A n c, .slice A' n' c'] w fun e w' => e = .returned (.bool true) ∧ Below w.heap.size w w' := by
  have HXS := Lib.hid (And.intro hxs (And.intro hn (And.intro hxs' hn')))
  clear hxs hn hxs' hn'
  go_enter Try.func7, Try.ntmps7
  go_wp2_with fail
  refine (askOf_any A n c xs 20 w HXS.out.1 HXS.out.2.1 (by omega)).mono ?_
  rintro e w1 ⟨AD, cD, An, cn, AH, cH, ns, ss, H, rfl, ha, hcD, hcn, hcH, hM, hl, hH, hHs, hb1⟩
  have hs1 := mk_sorts hM (by omega) (by omega) hHs
  have hn80 : ns.length ≤ 80 := by omega
  have HL := Lib.hid (And.intro hs1 (And.intro hcD (And.intro hM.len hM)))
  have hbx : Below w1.heap.size w1 (w1.alloc (.cells #[.slice AD 14 cD, .slice An ns.length cn, .slice AH H.length cH] 26)) := (Below.refl _ _).alloc (Nat.le_refl _) _
  have hk5 := Blk.new w1 26 #[.slice AD 14 cD, .slice An ns.length cn, .slice AH H.length cH]
  have ha2 := ha.below hbx hbx.size
  have hb2 := hb1.alloc hb1.size (.cells #[.slice AD 14 cD, .slice An ns.length cn, .slice AH H.length cH] 26)
  obtain ⟨X1, hX1⟩ : ∃ X, w1.alloc (.cells #[.slice AD 14 cD, .slice An ns.length cn, .slice AH H.length cH] 26) = X := ⟨_, rfl⟩
  rw [hX1] at hbx hk5 ha2 hb2
  have x0 := hk5.cell 0
  have x1 := hk5.cell 1
  have x2 := hk5.cell 2
  simp only [List.getElem?_toArray, List.getElem?_cons_zero, List.getElem?_cons_succ] at x0 x1 x2
  have zq := hk5.lt
  have H1 := Lib.hid (And.intro ha2 (And.intro hb2 hcn))
  have HX1 := Lib.hid hX1
  have HB := Lib.hid (lastBools_any AD An AH 14 cD ns.length cn H.length cH ⟨declsK, ns, H⟩ ss X1 ha2 hcD hs1 hM.len (by omega))
  clear ha hcn hcH hM hl hH hHs hb1 hs1 hbx hk5 ha2 hb2 hX1 hcD
  go_upto_region 2 with fail
  rw [HX1.out]
  clear HX1
  go_wp2_with fail
  refine HB.out.mono ?_
  rintro e w2 ⟨xI, yI, rfl, hT, hb2⟩
  have y0 := (hb2.cell (p := ⟨w1.heap.size, 0, none⟩) zq).trans x0
  have y1 := (hb2.cell (p := ⟨w1.heap.size, 1, none⟩) zq).trans x1
  have y2 := (hb2.cell (p := ⟨w1.heap.size, 2, none⟩) zq).trans x2
  have H2 := Lib.hid (And.intro (H1.out.1.below hb2 hb2.size) (And.intro (H1.out.2.1.trans (hb2.mono H1.out.2.1.size)) hT))
  have hz2 : w1.heap.size < w2.heap.size := Nat.lt_of_lt_of_le zq hb2.size
  clear hb2 hT HB x0 x1 x2
  by_cases hx0 : 0 ≤ xI
  · have hdx : decide (0 ≤ xI) = true := by simpa using hx0
    obtain ⟨hT1, hT2, hT3⟩ := H2.out.2.2
    have hT1' := hT1.resolve_left (by omega)
    have hT2' := hT2.resolve_left (by have := hT3 hx0; omega)
    obtain ⟨x, rfl⟩ : ∃ x : Nat, xI = x := ⟨xI.toNat, by omega⟩
    obtain ⟨y, rfl⟩ : ∃ y : Nat, yI = y := ⟨yI.toNat, by omega⟩
    have hxs : ss[x]? = some 1 := by simpa using hT1'.2
    have hys : ss[y]? = some 1 := by simpa using hT2'.2
    have hx8 : x ≤ 200 := by have := (List.getElem?_eq_some_iff.1 hxs).1; have := HL.out.2.2.1; omega
    have hy8 : y ≤ 200 := by have := (List.getElem?_eq_some_iff.1 hys).1; have := HL.out.2.2.1; omega
    have HXY := Lib.hid (And.intro hxs hys)
    clear hT1 hT2 hT3 hT1' hT2' hxs hys
    go_wp2_with fail
    obtain ⟨Z, hZ, hbZ, hN⟩ := morgan_nodes w2 ns.length x y (by omega) hx8 hy8
    rw [hZ]
    have hL : (ns ++ morganN ns.length x y).length = ns.length + 6 := by rw [List.length_append]; rfl
    have HW := with_any AD An AH (some ⟨w2.heap.size + 6, 0, none⟩) cD cn H.length cH 6 ns (morganN ns.length x y) H Z (H2.out.1.below hbZ hbZ.size) hN (by show ns.length + 6 ≤ 1000; omega)
    clear hN
    refine HW.mono ?_
    rintro e w3 ⟨B, cB, rfl, haB, hcB, hb3⟩
    clear HW
    have HLW := Lib.hid hL
    rw [hL] at haB hcB ⊢
    have hbx3 : Below w3.heap.size w3 (w3.alloc (.cells #[.slice AD 14 cD, .slice B (ns.length + 6) cB, .slice none 0 0] 26)) := (Below.refl _ _).alloc (Nat.le_refl _) _
    have hk3 := Blk.new w3 26 #[.slice AD 14 cD, .slice B (ns.length + 6) cB, .slice none 0 0]
    have ha3 := haB.below hbx3 hbx3.size
    have hb23 : Below w2.heap.size w2 (w3.alloc (.cells #[.slice AD 14 cD, .slice B (ns.length + 6) cB, .slice none 0 0] 26)) := (hbZ.trans (hb3.mono hbZ.size)).trans (hbx3.mono (hbZ.trans (hb3.mono hbZ.size)).size)
    obtain ⟨X3, hX3⟩ : ∃ X, w3.alloc (.cells #[.slice AD 14 cD, .slice B (ns.length + 6) cB, .slice none 0 0] 26) = X := ⟨_, rfl⟩
    rw [hX3] at hk3 ha3 hb23
    have b0 := hk3.cell 0
    have b1 := hk3.cell 1
    have b2 := hk3.cell 2
    simp only [List.getElem?_toArray, List.getElem?_cons_zero, List.getElem?_cons_succ] at b0 b1 b2
    have zb := hk3.lt
    have H3 := Lib.hid (And.intro ha3 (And.intro hcB (H2.out.2.1.trans (hb23.mono H2.out.2.1.size))))
    have HX3 := Lib.hid hX3
    clear hZ hbZ haB hcB hb3 hbx3 hk3 ha3 hb23 hX3 hL y0 y1 y2 H2 hz2 hdx
    go_upto_region 7 with fail
    rw [HX3.out]
    clear HX3
    go_region_held3 (fun w' => w'.cell? ⟨w3.heap.size, 0, none⟩ = some (.slice AD 14 cD) ∧ w'.cell? ⟨w3.heap.size, 1, none⟩ = some (.slice B (ns.length + 6) cB) ∧ w'.cell? ⟨w3.heap.size, 2, none⟩ = some (.slice none 0 0))
      ((try dsimp only) <;> (repeat' apply And.intro) <;> go_keep)
      (first
        | (go_simp
           go_at_call 21
           refine (world_any A' n' c' xs' _ (ArrB.below HXS.out.2.2.1 stays_int (below_drewN H3.out.2.2 1) (Nat.le_trans H3.out.2.2.size (Nat.le_refl _))) HXS.out.2.2.2).mono ?_
           rintro e w4 ⟨AM, cm, ms, rfl, h1, h2, h3, h4, hb4⟩
           have HB4 : Hid (Below X3.heap.size X3 w4) := below_join (below_drewN (Below.refl _ _) 1) hb4
           have r0 : w4.cell? ⟨w3.heap.size, 0, none⟩ = some (.slice AD 14 cD) := (HB4.out.cell (p := ⟨w3.heap.size, 0, none⟩) zb).trans b0
           have r1 : w4.cell? ⟨w3.heap.size, 1, none⟩ = some (.slice B (ns.length + 6) cB) := (HB4.out.cell (p := ⟨w3.heap.size, 1, none⟩) zb).trans b1
           have r2 : w4.cell? ⟨w3.heap.size, 2, none⟩ = some (.slice none 0 0) := (HB4.out.cell (p := ⟨w3.heap.size, 2, none⟩) zb).trans b2
           have HM := Lib.hid (And.intro h3 h4)
           clear h1 h2 h3 h4 hb4)
        | (go_simp
           go_at_call 20
           have hv := valued_any AD B none 14 cD (ns.length + 6) cB 0 0 ⟨declsK, ns ++ morganN ns.length x y, []⟩ AM 14 cm ms w4 (H3.out.1.below HB4.out HB4.out.size) HL.out.2.1 (Arr.keep stays_meaning HM.out.1 (fun b hb => hb.2) (fun _ _ _ => rfl))
           obtain ⟨vs, e1, e2⟩ := morgan_law HL.out.2.2.2 HXY.out.1 HXY.out.2 (by omega) HM.out.2
           rw [show (AskD.mk declsK (ns ++ morganN ns.length x y) []).nodes.length = (ns ++ morganN ns.length x y).length from rfl, e1] at hv
           refine hv.mono ?_
           rintro e w5 ⟨AV, cv, rfl, hb5, h5, h6, h7⟩
           clear hv e1
           dsimp only at h5 h7 ⊢
           have HB5 : Hid (Below X3.heap.size X3 w5) := below_join HB4.out hb5
           have q0 : w5.cell? ⟨w3.heap.size, 0, none⟩ = some (.slice AD 14 cD) := (HB5.out.cell (p := ⟨w3.heap.size, 0, none⟩) zb).trans b0
           have q1 : w5.cell? ⟨w3.heap.size, 1, none⟩ = some (.slice B (ns.length + 6) cB) := (HB5.out.cell (p := ⟨w3.heap.size, 1, none⟩) zb).trans b1
           have q2 : w5.cell? ⟨w3.heap.size, 2, none⟩ = some (.slice none 0 0) := (HB5.out.cell (p := ⟨w3.heap.size, 2, none⟩) zb).trans b2
           have HV := Lib.hid (And.intro h7 e2)
           clear hb5 h5 h6 h7 e2)
        | fail)
    all_goals
      clear r0 r1 r2 b0 b1 b2 q0 q1 q2 HB4 HM
      have HE : Hid (Below w.heap.size w w5) := H3.out.2.2.trans (HB5.out.mono H3.out.2.2.size)
      rcases HV.out.2 with hv0 | ⟨hvl, hvn⟩
      · subst hv0
        dsimp only [List.length_nil]
        go_wp2_with fail
        refine (askSure_any _).mono ?_
        rintro e w6 ⟨rfl, hb6⟩
        have HE6 := Lib.hid (HE.out.trans (hb6.mono HE.out.size))
        clear hb6
        go_wp2_with fail
        go_ret
        exact ⟨rfl, HE6.out⟩
      · obtain ⟨b, off, hx5, -, -, -, hA, hbb, hc5, -⟩ := values_get HV.out.1 (i := ns.length + 5) (by omega)
        subst hA
        have hn5 : vs[ns.length + 5].num = 1 := by rw [← hvn, kidV, List.getD_eq_getElem?_getD, List.getElem?_eq_getElem hx5]; rfl
        rw [hn5] at hc5
        rw [hvl]
        clear hvn hn5 hx5
        go_wp2_with fail
        refine (askSure_any _).mono ?_
        rintro e w6 ⟨rfl, hb6⟩
        have hc6 := (hb6.cell (p := ⟨b, off + (ns.length + 5) * 4, none⟩) hbb).trans hc5
        have HE6 := Lib.hid (HE.out.trans (hb6.mono HE.out.size))
        clear hb6
        go_wp2_with fail
        go_ret
        exact ⟨rfl, HE6.out⟩
  · have hdx : decide (0 ≤ xI) = false := by simpa using hx0
    go_wp2_with fail
    refine (askSure_any w2).mono ?_
    rintro e w3 ⟨rfl, hb3⟩
    have HB3 := Lib.hid (H2.out.2.1.trans (hb3.mono H2.out.2.1.size))
    clear hb3
    go_wp2_with fail
    go_ret
    exact ⟨rfl, HB3.out⟩
end Go.Proofs.Ythooecojopfjbaa
