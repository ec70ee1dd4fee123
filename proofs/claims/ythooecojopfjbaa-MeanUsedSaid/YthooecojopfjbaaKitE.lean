/- Walk: a world that is made of raw numbers. -/
import Derived.Test.YthooecojopfjbaaKitCD
namespace Go.Proofs.Ythooecojopfjbaa
open Go.RowKit

theorem chain1 {wo Z w2 : World} {v u : Value} {a b r : Int} (h : Rest wo Z v a b u r) (c1 c3 : Array Value) (h2 : Below (Z.alloc (.cells c1 3)).heap.size (Z.alloc (.cells c1 3)) w2) :
    Rest wo w2 v a b u r ∧ Rest wo (w2.alloc (.cells c3 91)) v a b u r ∧ Blk (w2.alloc (.cells c3 91)) Z.heap.size 3 c1 ∧ Blk (w2.alloc (.cells c3 91)) w2.heap.size 91 c3 ∧ wo.heap.size < Z.heap.size ∧ wo.heap.size < w2.heap.size := by
  have hk := Blk.new Z 3 c1
  have hr := (h.keep ((Below.refl Z.heap.size Z).alloc (Nat.le_refl _) (.cells c1 3))).keep h2
  have hl := h.lt
  exact ⟨hr, hr.keep ((Below.refl _ _).alloc (Nat.le_refl _) _), (hk.below h2 hk.lt).alloc _, Blk.new _ _ _, hl, hr.lt⟩
theorem chain2 {wo Z w2 w3 : World} {v u : Value} {a b r : Int} (h : Rest wo Z v a b u r) (c1 c2 c3 : Array Value) (h2 : Below (Z.alloc (.cells c1 3)).heap.size (Z.alloc (.cells c1 3)) w2)
    (h3 : Below (w2.alloc (.cells c2 3)).heap.size (w2.alloc (.cells c2 3)) w3) : Rest wo w3 v a b u r ∧ Rest wo (w3.alloc (.cells c3 91)) v a b u r ∧ Blk (w3.alloc (.cells c3 91)) Z.heap.size 3 c1 ∧
    Blk (w3.alloc (.cells c3 91)) w2.heap.size 3 c2 ∧ Blk (w3.alloc (.cells c3 91)) w3.heap.size 91 c3 ∧ wo.heap.size < Z.heap.size ∧ wo.heap.size < w2.heap.size ∧ wo.heap.size < w3.heap.size := by
  have hk := Blk.new Z 3 c1
  have hk2 := hk.below h2 hk.lt
  have hr := (h.keep ((Below.refl Z.heap.size Z).alloc (Nat.le_refl _) (.cells c1 3))).keep h2
  have hl := h.lt
  obtain ⟨e1, e2, e3, e4, e5, e6⟩ := chain1 hr c2 c3 h3
  have hk3 := (hk2.alloc (.cells c2 3))
  exact ⟨e1, e2, (hk3.below h3 hk3.lt).alloc _, e3, e4, hl, e5, e6⟩

set_option maxRecDepth 100000 in
set_option maxHeartbeats 8000000 in
theorem world_own (A : Option Addr) (n c : Nat) (xs : List Int) (w : World) (hxs : ArrB AtInt 1 w w.heap.size A n xs) (hn : n ≤ 9223372036854775807) :
    Calls Try.prog 21 #[.slice A n c] w (WorldQ w) := by
  obtain ⟨hb0, hk0, hm0, hs0⟩ := two_boxes w 47 47 #[.slice none 0 0] #[.slice none 0 0]
  obtain ⟨X0, hX0⟩ : ∃ X0, (w.alloc (.cells #[.slice none 0 0] 47)).alloc (.cells #[.slice none 0 0] 47) = X0 := ⟨_, rfl⟩
  rw [hX0] at hb0 hk0 hm0 hs0
  have HI0 : Hid (WorldI w X0 (.slice none 0 0) []) := ⟨hb0, hk0, hm0, OwnV.none_ _ _ _ _ _ _⟩
  have HX0 := Lib.hid hX0
  have HXS := Lib.hid (And.intro hxs hn)
  clear hb0 hk0 hm0 hs0 hX0 hxs hn
  go_enter Try.func21, Try.ntmps21
  go_wp2_with fail
  rw [HX0.out]
  go_loopw [4] (fun s4 wr => ∃ (k : Nat) (v : Value) (ms : List MeaningD), k ≤ 14 ∧ s4 = .int .i64 k ∧ ms.length = k ∧ Hid (MadeTo ms) ∧ WorldI w wr v ms) (fun s4 _ => 14 - (intOf s4).toNat)
  case atStart => exact ⟨0, .slice none 0 0, [], Nat.zero_le _, rfl, rfl, MadeTo.nil, HI0.out⟩
  case round =>
    clear HI0
    obtain ⟨k, v, ms, hk, rfl, hml, HM, hI⟩ := hrel
    by_cases hlt : k < 14
    · have hkI : (k : Int) < 14 := by omega
      have hat := at_any A n c xs k (fun b => b < w.heap.size) wr (ArrB.below HXS.out.1 stays_int hI.below (Nat.le_refl _)) HXS.out.2
      have HN := Lib.hid (getD_i64 HXS.out.1 k)
      obtain ⟨m, hm⟩ : ∃ m, xs.getD k 0 = m := ⟨_, rfl⟩
      rw [hm] at hat HN
      have HAT := Lib.hid hat
      have HI := Lib.hid hI
      have HML := Lib.hid hml
      have HR0 := Lib.hid (Rest.new wr)
      clear hat hI hml hm
      go_wp2_with fail
      refine HAT.out.mono ?_
      rintro e w9 ⟨rfl, rfl⟩
      obtain ⟨wo, rfl⟩ : ∃ wo : World, wo = wr := ⟨_, rfl⟩
      go_upto_region 8 with fail
      obtain ⟨Y, hY⟩ : ∃ Y, wo.alloc (.cells #[.slice none 0 0, .int .i64 0, .int .i64 0, .slice none 0 0, .int .i64 0] 64) = Y := ⟨_, rfl⟩
      rw [hY] at HR0 ⊢
      clear hY HAT
      by_cases h2 : k < 2
      · have h2I : (k : Int) < 2 := by omega
        obtain ⟨nm, hd⟩ : ∃ nm, declsK[k]? = some ⟨nm, [], 1⟩ := by
          have hk : k = 0 ∨ k = 1 := by omega
          rcases hk with rfl | rfl <;> exact ⟨_, rfl⟩
        have HD := Lib.hid hd
        clear hd
        have HPK := Lib.hid (fun W : World => picked_in m 2 W HN.out (by omega) (by omega))
        go_wp2_with fail
        refine (HPK.out _).mono ?_
        rintro e w9 ⟨p, rfl, rfl, p0, p1⟩
        clear HPK
        go_wp2_with fail
        refine (kwhole_any _ _).mono ?_
        rintro e w1 ⟨rfl, hb1⟩
        have HQ := Lib.hid (HR0.out.keep hb1)
        have a0 := HQ.out.blk.cell 0
        have b0 := HQ.out.blk.frozen 0
        have a1 := HQ.out.blk.cell 1
        have b1 := HQ.out.blk.frozen 1
        have a2 := HQ.out.blk.cell 2
        have b2 := HQ.out.blk.frozen 2
        have a3 := HQ.out.blk.cell 3
        have b3 := HQ.out.blk.frozen 3
        have a4 := HQ.out.blk.cell 4
        have b4 := HQ.out.blk.frozen 4
        have bz := HQ.out.lt
        simp only [List.getElem?_toArray, List.getElem?_cons_zero, List.getElem?_cons_succ] at a0 a1 a2 a3 a4
        go_upto_region 32 with fail
        clear a0 b0 a1 b1 a2 b2 a3 b3 a4 b4 bz
        obtain ⟨Z, hZ⟩ : ∃ Z, ((((w1.setCell ⟨wo.heap.size, 1, none⟩ (.int .i64 p)).setCell ⟨wo.heap.size, 2, none⟩ (.int .i64 1)).setCell ⟨wo.heap.size, 3, none⟩ (.slice none 0 0)).setCell ⟨wo.heap.size, 4, none⟩ (.int .i64 0)) = Z := ⟨_, rfl⟩
        have HPZ := Lib.hid (HQ.out.put (p) (1) (.slice none 0 0) (0))
        rw [hZ] at HPZ ⊢
        clear hZ HQ
        have HMD : Hid (Made wo Z _) := made_plain HPZ.out ⟨by omega, by omega⟩ i64_1 i64_0 (m_bool nm p p0 p1)
        clear HPZ
        obtain ⟨A1, n1, c1, a, b, A2, n2, c2, r, md, hr, hvm, hmd⟩ := HMD.out
        clear HMD
        have hIZ := HI.out.keep hr.below
        have hrow := HI.out.row hr.below (cs := #[.slice A1 n1 c1, .int .i64 a, .int .i64 b, .slice A2 n2 c2, .int .i64 r]) hvm
        have g0 : Z.cell? ⟨w.heap.size + 1, 0, none⟩ = some v := hIZ.box.cell 0
        have gz : w.heap.size + 1 < Z.heap.size := hIZ.box.lt
        have gn : wo.heap.size < Z.heap.size := hr.lt
        have m0 : Z.cell? ⟨wo.heap.size, 0, none⟩ = some (.slice A1 n1 c1) := hr.blk.cell 0
        have m1 : Z.cell? ⟨wo.heap.size, 1, none⟩ = some (.int .i64 a) := hr.blk.cell 1
        have m2 : Z.cell? ⟨wo.heap.size, 2, none⟩ = some (.int .i64 b) := hr.blk.cell 2
        have m3 : Z.cell? ⟨wo.heap.size, 3, none⟩ = some (.slice A2 n2 c2) := hr.blk.cell 3
        have m4 : Z.cell? ⟨wo.heap.size, 4, none⟩ = some (.int .i64 r) := hr.blk.cell 4
        have HX := Lib.hid hrow
        have HD2 := Lib.hid hmd
        clear hIZ hrow hr hvm hmd
        go_wp2_with (at_builtin; go_loud (refine wpList_append_item rfl _ _ _ rfl rowMeanings tells_meaning (v := v) (xs := ms) (base := w.heap.size + 2) (S := Fr (w.heap.size + 2) (Z.alloc (.cells #[.slice A1 n1 c1, .int .i64 a, .int .i64 b, .slice A2 n2 c2, .int .i64 r] 64)) v) rfl HX.out.1.own (g := Z.heap.size) (cs := #[.slice A1 n1 c1, .int .i64 a, .int .i64 b, .slice A2 n2 c2, .int .i64 r]) rfl HX.out.2.2.1 (y := md) HX.out.2.1 fr_out (by have := HML.out; unfold maxLen; omega) (by have := HML.out; omega) HX.out.2.2.2 ?_); intro v7 w7 hown7 hg7 hat7; obtain ⟨A7, c7, rfl, -, -⟩ := hown7.len; have hb7 : Blk w7 (w.heap.size + 1) 47 #[v] := HX.out.1.box.grown hg7 (fun e => by have := (HX.out.1.own.lt _ e.symm).1; omega); have k7 : w7.cell? ⟨w.heap.size + 1, 0, none⟩ = some v := hb7.cell 0; have f7 : w7.frozen? ⟨w.heap.size + 1, 0, none⟩ = false := hb7.frozen 0; have z7 : w.heap.size + 1 < w7.heap.size := hb7.lt; have hp7 := HX.out.1.push hown7 hg7 hat7; rw [show (ms ++ [md]).length = ms.length + 1 from by simp] at hp7; have HP := Lib.hid hp7; clear hp7 hb7 hown7 hg7 hat7 g0 gz gn m0 m1 m2 m3 m4)
        go_roundw
        case rel => exact ⟨k + 1, _, ms ++ [md], by omega, by go_num, by rw [List.length_append, HML.out]; rfl, HM.out.push HML.out HD.out HD2.out, HP.out⟩
        case measure => simp [intOf]; omega
      · have h2I : ¬ (k : Int) < 2 := by omega
        by_cases h4 : k < 4
        · have h4I : (k : Int) < 4 := by omega
          obtain ⟨nm, hd⟩ : ∃ nm, declsK[k]? = some ⟨nm, [], 2⟩ := by
            have hk : k = 2 ∨ k = 3 := by omega
            rcases hk with rfl | rfl <;> exact ⟨_, rfl⟩
          have HD := Lib.hid hd
          clear hd
          have HPK := Lib.hid (fun W : World => picked_in m 7 W HN.out (by omega) (by omega))
          go_wp2_with fail
          refine (HPK.out _).mono ?_
          rintro e w9 ⟨p, rfl, rfl, p0, p1⟩
          clear HPK
          go_wp2_with fail
          refine (kwhole_any _ _).mono ?_
          rintro e w1 ⟨rfl, hb1⟩
          have HQ := Lib.hid (HR0.out.keep hb1)
          have a0 := HQ.out.blk.cell 0
          have b0 := HQ.out.blk.frozen 0
          have a1 := HQ.out.blk.cell 1
          have b1 := HQ.out.blk.frozen 1
          have a2 := HQ.out.blk.cell 2
          have b2 := HQ.out.blk.frozen 2
          have a3 := HQ.out.blk.cell 3
          have b3 := HQ.out.blk.frozen 3
          have a4 := HQ.out.blk.cell 4
          have b4 := HQ.out.blk.frozen 4
          have bz := HQ.out.lt
          simp only [List.getElem?_toArray, List.getElem?_cons_zero, List.getElem?_cons_succ] at a0 a1 a2 a3 a4
          go_upto_region 32 with fail
          clear a0 b0 a1 b1 a2 b2 a3 b3 a4 b4 bz
          obtain ⟨Z, hZ⟩ : ∃ Z, ((((w1.setCell ⟨wo.heap.size, 1, none⟩ (.int .i64 (p - 3))).setCell ⟨wo.heap.size, 2, none⟩ (.int .i64 1)).setCell ⟨wo.heap.size, 3, none⟩ (.slice none 0 0)).setCell ⟨wo.heap.size, 4, none⟩ (.int .i64 0)) = Z := ⟨_, rfl⟩
          have HPZ := Lib.hid (HQ.out.put ((p - 3)) (1) (.slice none 0 0) (0))
          rw [hZ] at HPZ ⊢
          clear hZ HQ
          have HMD : Hid (Made wo Z _) := made_plain HPZ.out ⟨by omega, by omega⟩ i64_1 i64_0 (m_int nm p p0 p1)
          clear HPZ
          obtain ⟨A1, n1, c1, a, b, A2, n2, c2, r, md, hr, hvm, hmd⟩ := HMD.out
          clear HMD
          have hIZ := HI.out.keep hr.below
          have hrow := HI.out.row hr.below (cs := #[.slice A1 n1 c1, .int .i64 a, .int .i64 b, .slice A2 n2 c2, .int .i64 r]) hvm
          have g0 : Z.cell? ⟨w.heap.size + 1, 0, none⟩ = some v := hIZ.box.cell 0
          have gz : w.heap.size + 1 < Z.heap.size := hIZ.box.lt
          have gn : wo.heap.size < Z.heap.size := hr.lt
          have m0 : Z.cell? ⟨wo.heap.size, 0, none⟩ = some (.slice A1 n1 c1) := hr.blk.cell 0
          have m1 : Z.cell? ⟨wo.heap.size, 1, none⟩ = some (.int .i64 a) := hr.blk.cell 1
          have m2 : Z.cell? ⟨wo.heap.size, 2, none⟩ = some (.int .i64 b) := hr.blk.cell 2
          have m3 : Z.cell? ⟨wo.heap.size, 3, none⟩ = some (.slice A2 n2 c2) := hr.blk.cell 3
          have m4 : Z.cell? ⟨wo.heap.size, 4, none⟩ = some (.int .i64 r) := hr.blk.cell 4
          have HX := Lib.hid hrow
          have HD2 := Lib.hid hmd
          clear hIZ hrow hr hvm hmd
          go_wp2_with (at_builtin; go_loud (refine wpList_append_item rfl _ _ _ rfl rowMeanings tells_meaning (v := v) (xs := ms) (base := w.heap.size + 2) (S := Fr (w.heap.size + 2) (Z.alloc (.cells #[.slice A1 n1 c1, .int .i64 a, .int .i64 b, .slice A2 n2 c2, .int .i64 r] 64)) v) rfl HX.out.1.own (g := Z.heap.size) (cs := #[.slice A1 n1 c1, .int .i64 a, .int .i64 b, .slice A2 n2 c2, .int .i64 r]) rfl HX.out.2.2.1 (y := md) HX.out.2.1 fr_out (by have := HML.out; unfold maxLen; omega) (by have := HML.out; omega) HX.out.2.2.2 ?_); intro v7 w7 hown7 hg7 hat7; obtain ⟨A7, c7, rfl, -, -⟩ := hown7.len; have hb7 : Blk w7 (w.heap.size + 1) 47 #[v] := HX.out.1.box.grown hg7 (fun e => by have := (HX.out.1.own.lt _ e.symm).1; omega); have k7 : w7.cell? ⟨w.heap.size + 1, 0, none⟩ = some v := hb7.cell 0; have f7 : w7.frozen? ⟨w.heap.size + 1, 0, none⟩ = false := hb7.frozen 0; have z7 : w.heap.size + 1 < w7.heap.size := hb7.lt; have hp7 := HX.out.1.push hown7 hg7 hat7; rw [show (ms ++ [md]).length = ms.length + 1 from by simp] at hp7; have HP := Lib.hid hp7; clear hp7 hb7 hown7 hg7 hat7 g0 gz gn m0 m1 m2 m3 m4)
          go_roundw
          case rel => exact ⟨k + 1, _, ms ++ [md], by omega, by go_num, by rw [List.length_append, HML.out]; rfl, HM.out.push HML.out HD.out HD2.out, HP.out⟩
          case measure => simp [intOf]; omega
        · have h4I : ¬ (k : Int) < 4 := by omega
          by_cases e4 : k = 4
          · have e4b : ((k : Int) == 4) = true := by rw [beq_iff_eq]; omega
            have HK := Lib.hid e4
            clear e4
            obtain ⟨nm, hd⟩ : ∃ nm, declsK[k]? = some ⟨nm, [], 3⟩ := by rw [HK.out]; exact ⟨_, rfl⟩
            have HD := Lib.hid hd
            clear hd
            have HPK := Lib.hid (fun W : World => picked_in m 4 W HN.out (by omega) (by omega))
            go_wp2_with fail
            refine (HPK.out _).mono ?_
            rintro e w9 ⟨p, rfl, rfl, p0, p1⟩
            clear HPK
            have HQ := Lib.hid (HR0.out)
            have a0 := HQ.out.blk.cell 0
            have b0 := HQ.out.blk.frozen 0
            have a1 := HQ.out.blk.cell 1
            have b1 := HQ.out.blk.frozen 1
            have a2 := HQ.out.blk.cell 2
            have b2 := HQ.out.blk.frozen 2
            have a3 := HQ.out.blk.cell 3
            have b3 := HQ.out.blk.frozen 3
            have a4 := HQ.out.blk.cell 4
            have b4 := HQ.out.blk.frozen 4
            have bz := HQ.out.lt
            simp only [List.getElem?_toArray, List.getElem?_cons_zero, List.getElem?_cons_succ] at a0 a1 a2 a3 a4
            go_upto_region 14 with fail
            clear a0 b0 a1 b1 a2 b2 a3 b3 a4 b4 bz
            obtain ⟨Z, hZ⟩ : ∃ Z, ((((Y.setCell ⟨wo.heap.size, 1, none⟩ (.int .i64 (2 * p - 3))).setCell ⟨wo.heap.size, 2, none⟩ (.int .i64 2)).setCell ⟨wo.heap.size, 3, none⟩ (.slice none 0 0)).setCell ⟨wo.heap.size, 4, none⟩ (.int .i64 0)) = Z := ⟨_, rfl⟩
            have HPZ := Lib.hid (HQ.out.put ((2 * p - 3)) (2) (.slice none 0 0) (0))
            rw [hZ] at HPZ ⊢
            clear hZ HQ
            have HPK := Lib.hid (fun W : World => picked_in m 3 W HN.out (by omega) (by omega))
            go_wp2_with fail
            refine (HPK.out _).mono ?_
            rintro e w9 ⟨q, rfl, rfl, q0, q1⟩
            clear HPK
            by_cases hq : q = 0
            · subst hq
              have HPK := Lib.hid (fun W : World => picked_in (wrap64 (m.tdiv 3)) 5 W (wrap_i64 _) (by omega) (by omega))
              go_wp2_with fail
              refine (HPK.out _).mono ?_
              rintro e w9 ⟨p, rfl, rfl, p0, p1⟩
              clear HPK
              go_wp2_with fail
              refine (kwhole_any _ _).mono ?_
              rintro e w1 ⟨rfl, hb1⟩
              have HQ := Lib.hid (HPZ.out.keep hb1)
              have a0 := HQ.out.blk.cell 0
              have b0 := HQ.out.blk.frozen 0
              have a1 := HQ.out.blk.cell 1
              have b1 := HQ.out.blk.frozen 1
              have a2 := HQ.out.blk.cell 2
              have b2 := HQ.out.blk.frozen 2
              have a3 := HQ.out.blk.cell 3
              have b3 := HQ.out.blk.frozen 3
              have a4 := HQ.out.blk.cell 4
              have b4 := HQ.out.blk.frozen 4
              have bz := HQ.out.lt
              simp only [List.getElem?_toArray, List.getElem?_cons_zero, List.getElem?_cons_succ] at a0 a1 a2 a3 a4
              go_upto_region 32 with fail
              clear a0 b0 a1 b1 a2 b2 a3 b3 a4 b4 bz
              obtain ⟨V, hV⟩ : ∃ Z, ((((w1.setCell ⟨wo.heap.size, 1, none⟩ (.int .i64 (p - 2))).setCell ⟨wo.heap.size, 2, none⟩ (.int .i64 1)).setCell ⟨wo.heap.size, 3, none⟩ (.slice none 0 0)).setCell ⟨wo.heap.size, 4, none⟩ (.int .i64 0)) = Z := ⟨_, rfl⟩
              have HPV := Lib.hid (HQ.out.put ((p - 2)) (1) (.slice none 0 0) (0))
              rw [hV] at HPV ⊢
              clear hV HQ
              clear HPZ
              have HMD : Hid (Made wo V _) := made_plain HPV.out ⟨by omega, by omega⟩ i64_1 i64_0 (m_real nm p p0 p1)
              clear HPV
              obtain ⟨A1, n1, c1, a, b, A2, n2, c2, r, md, hr, hvm, hmd⟩ := HMD.out
              clear HMD
              have hIZ := HI.out.keep hr.below
              have hrow := HI.out.row hr.below (cs := #[.slice A1 n1 c1, .int .i64 a, .int .i64 b, .slice A2 n2 c2, .int .i64 r]) hvm
              have g0 : V.cell? ⟨w.heap.size + 1, 0, none⟩ = some v := hIZ.box.cell 0
              have gz : w.heap.size + 1 < V.heap.size := hIZ.box.lt
              have gn : wo.heap.size < V.heap.size := hr.lt
              have m0 : V.cell? ⟨wo.heap.size, 0, none⟩ = some (.slice A1 n1 c1) := hr.blk.cell 0
              have m1 : V.cell? ⟨wo.heap.size, 1, none⟩ = some (.int .i64 a) := hr.blk.cell 1
              have m2 : V.cell? ⟨wo.heap.size, 2, none⟩ = some (.int .i64 b) := hr.blk.cell 2
              have m3 : V.cell? ⟨wo.heap.size, 3, none⟩ = some (.slice A2 n2 c2) := hr.blk.cell 3
              have m4 : V.cell? ⟨wo.heap.size, 4, none⟩ = some (.int .i64 r) := hr.blk.cell 4
              have HX := Lib.hid hrow
              have HD2 := Lib.hid hmd
              clear hIZ hrow hr hvm hmd
              go_wp2_with (at_builtin; go_loud (refine wpList_append_item rfl _ _ _ rfl rowMeanings tells_meaning (v := v) (xs := ms) (base := w.heap.size + 2) (S := Fr (w.heap.size + 2) (V.alloc (.cells #[.slice A1 n1 c1, .int .i64 a, .int .i64 b, .slice A2 n2 c2, .int .i64 r] 64)) v) rfl HX.out.1.own (g := V.heap.size) (cs := #[.slice A1 n1 c1, .int .i64 a, .int .i64 b, .slice A2 n2 c2, .int .i64 r]) rfl HX.out.2.2.1 (y := md) HX.out.2.1 fr_out (by have := HML.out; unfold maxLen; omega) (by have := HML.out; omega) HX.out.2.2.2 ?_); intro v7 w7 hown7 hg7 hat7; obtain ⟨A7, c7, rfl, -, -⟩ := hown7.len; have hb7 : Blk w7 (w.heap.size + 1) 47 #[v] := HX.out.1.box.grown hg7 (fun e => by have := (HX.out.1.own.lt _ e.symm).1; omega); have k7 : w7.cell? ⟨w.heap.size + 1, 0, none⟩ = some v := hb7.cell 0; have f7 : w7.frozen? ⟨w.heap.size + 1, 0, none⟩ = false := hb7.frozen 0; have z7 : w.heap.size + 1 < w7.heap.size := hb7.lt; have hp7 := HX.out.1.push hown7 hg7 hat7; rw [show (ms ++ [md]).length = ms.length + 1 from by simp] at hp7; have HP := Lib.hid hp7; clear hp7 hb7 hown7 hg7 hat7 g0 gz gn m0 m1 m2 m3 m4)
              go_roundw
              case rel => exact ⟨k + 1, _, ms ++ [md], by omega, by go_num, by rw [List.length_append, HML.out]; rfl, HM.out.push HML.out HD.out HD2.out, HP.out⟩
              case measure => simp [intOf]; omega
            · have hqb : (q == 0) = false := by rw [beq_eq_false_iff_ne]; exact hq
              clear hqb
              go_upto_region 32 with fail
              have HMD : Hid (Made wo Z _) := made_plain HPZ.out ⟨by omega, by omega⟩ ⟨by omega, by omega⟩ i64_0 (m_half nm p p0 p1)
              clear HPZ
              obtain ⟨A1, n1, c1, a, b, A2, n2, c2, r, md, hr, hvm, hmd⟩ := HMD.out
              clear HMD
              have hIZ := HI.out.keep hr.below
              have hrow := HI.out.row hr.below (cs := #[.slice A1 n1 c1, .int .i64 a, .int .i64 b, .slice A2 n2 c2, .int .i64 r]) hvm
              have g0 : Z.cell? ⟨w.heap.size + 1, 0, none⟩ = some v := hIZ.box.cell 0
              have gz : w.heap.size + 1 < Z.heap.size := hIZ.box.lt
              have gn : wo.heap.size < Z.heap.size := hr.lt
              have m0 : Z.cell? ⟨wo.heap.size, 0, none⟩ = some (.slice A1 n1 c1) := hr.blk.cell 0
              have m1 : Z.cell? ⟨wo.heap.size, 1, none⟩ = some (.int .i64 a) := hr.blk.cell 1
              have m2 : Z.cell? ⟨wo.heap.size, 2, none⟩ = some (.int .i64 b) := hr.blk.cell 2
              have m3 : Z.cell? ⟨wo.heap.size, 3, none⟩ = some (.slice A2 n2 c2) := hr.blk.cell 3
              have m4 : Z.cell? ⟨wo.heap.size, 4, none⟩ = some (.int .i64 r) := hr.blk.cell 4
              have HX := Lib.hid hrow
              have HD2 := Lib.hid hmd
              clear hIZ hrow hr hvm hmd
              go_wp2_with (at_builtin; go_loud (refine wpList_append_item rfl _ _ _ rfl rowMeanings tells_meaning (v := v) (xs := ms) (base := w.heap.size + 2) (S := Fr (w.heap.size + 2) (Z.alloc (.cells #[.slice A1 n1 c1, .int .i64 a, .int .i64 b, .slice A2 n2 c2, .int .i64 r] 64)) v) rfl HX.out.1.own (g := Z.heap.size) (cs := #[.slice A1 n1 c1, .int .i64 a, .int .i64 b, .slice A2 n2 c2, .int .i64 r]) rfl HX.out.2.2.1 (y := md) HX.out.2.1 fr_out (by have := HML.out; unfold maxLen; omega) (by have := HML.out; omega) HX.out.2.2.2 ?_); intro v7 w7 hown7 hg7 hat7; obtain ⟨A7, c7, rfl, -, -⟩ := hown7.len; have hb7 : Blk w7 (w.heap.size + 1) 47 #[v] := HX.out.1.box.grown hg7 (fun e => by have := (HX.out.1.own.lt _ e.symm).1; omega); have k7 : w7.cell? ⟨w.heap.size + 1, 0, none⟩ = some v := hb7.cell 0; have f7 : w7.frozen? ⟨w.heap.size + 1, 0, none⟩ = false := hb7.frozen 0; have z7 : w.heap.size + 1 < w7.heap.size := hb7.lt; have hp7 := HX.out.1.push hown7 hg7 hat7; rw [show (ms ++ [md]).length = ms.length + 1 from by simp] at hp7; have HP := Lib.hid hp7; clear hp7 hb7 hown7 hg7 hat7 g0 gz gn m0 m1 m2 m3 m4)
              go_roundw
              case rel => exact ⟨k + 1, _, ms ++ [md], by omega, by go_num, by rw [List.length_append, HML.out]; rfl, HM.out.push HML.out HD.out HD2.out, HP.out⟩
              case measure => simp [intOf]; omega
          · have e4b : ((k : Int) == 4) = false := by rw [beq_eq_false_iff_ne]; omega
            by_cases h8 : k < 8
            · have h8I : (k : Int) < 8 := by omega
              obtain ⟨nm, hd⟩ : ∃ nm, declsK[k]? = some ⟨nm, [], 4⟩ := by
                have hk : k = 5 ∨ k = 6 ∨ k = 7 := by omega
                rcases hk with rfl | rfl | rfl <;> exact ⟨_, rfl⟩
              have HD := Lib.hid hd
              clear hd
              have HPK := Lib.hid (fun W : World => picked_in m 3 W HN.out (by omega) (by omega))
              go_wp2_with fail
              refine (HPK.out _).mono ?_
              rintro e w9 ⟨p, rfl, rfl, p0, p1⟩
              clear HPK
              go_wp2_with fail
              refine (kwhole_any _ _).mono ?_
              rintro e w1 ⟨rfl, hb1⟩
              have HQ := Lib.hid (HR0.out.keep hb1)
              have a0 := HQ.out.blk.cell 0
              have b0 := HQ.out.blk.frozen 0
              have a1 := HQ.out.blk.cell 1
              have b1 := HQ.out.blk.frozen 1
              have a2 := HQ.out.blk.cell 2
              have b2 := HQ.out.blk.frozen 2
              have a3 := HQ.out.blk.cell 3
              have b3 := HQ.out.blk.frozen 3
              have a4 := HQ.out.blk.cell 4
              have b4 := HQ.out.blk.frozen 4
              have bz := HQ.out.lt
              simp only [List.getElem?_toArray, List.getElem?_cons_zero, List.getElem?_cons_succ] at a0 a1 a2 a3 a4
              go_upto_region 32 with fail
              clear a0 b0 a1 b1 a2 b2 a3 b3 a4 b4 bz
              obtain ⟨Z, hZ⟩ : ∃ Z, ((((w1.setCell ⟨wo.heap.size, 1, none⟩ (.int .i64 p)).setCell ⟨wo.heap.size, 2, none⟩ (.int .i64 1)).setCell ⟨wo.heap.size, 3, none⟩ (.slice none 0 0)).setCell ⟨wo.heap.size, 4, none⟩ (.int .i64 0)) = Z := ⟨_, rfl⟩
              have HPZ := Lib.hid (HQ.out.put (p) (1) (.slice none 0 0) (0))
              rw [hZ] at HPZ ⊢
              clear hZ HQ
              have HMD : Hid (Made wo Z _) := made_plain HPZ.out ⟨by omega, by omega⟩ i64_1 i64_0 (m_thing nm p p0 p1)
              clear HPZ
              obtain ⟨A1, n1, c1, a, b, A2, n2, c2, r, md, hr, hvm, hmd⟩ := HMD.out
              clear HMD
              have hIZ := HI.out.keep hr.below
              have hrow := HI.out.row hr.below (cs := #[.slice A1 n1 c1, .int .i64 a, .int .i64 b, .slice A2 n2 c2, .int .i64 r]) hvm
              have g0 : Z.cell? ⟨w.heap.size + 1, 0, none⟩ = some v := hIZ.box.cell 0
              have gz : w.heap.size + 1 < Z.heap.size := hIZ.box.lt
              have gn : wo.heap.size < Z.heap.size := hr.lt
              have m0 : Z.cell? ⟨wo.heap.size, 0, none⟩ = some (.slice A1 n1 c1) := hr.blk.cell 0
              have m1 : Z.cell? ⟨wo.heap.size, 1, none⟩ = some (.int .i64 a) := hr.blk.cell 1
              have m2 : Z.cell? ⟨wo.heap.size, 2, none⟩ = some (.int .i64 b) := hr.blk.cell 2
              have m3 : Z.cell? ⟨wo.heap.size, 3, none⟩ = some (.slice A2 n2 c2) := hr.blk.cell 3
              have m4 : Z.cell? ⟨wo.heap.size, 4, none⟩ = some (.int .i64 r) := hr.blk.cell 4
              have HX := Lib.hid hrow
              have HD2 := Lib.hid hmd
              clear hIZ hrow hr hvm hmd
              go_wp2_with (at_builtin; go_loud (refine wpList_append_item rfl _ _ _ rfl rowMeanings tells_meaning (v := v) (xs := ms) (base := w.heap.size + 2) (S := Fr (w.heap.size + 2) (Z.alloc (.cells #[.slice A1 n1 c1, .int .i64 a, .int .i64 b, .slice A2 n2 c2, .int .i64 r] 64)) v) rfl HX.out.1.own (g := Z.heap.size) (cs := #[.slice A1 n1 c1, .int .i64 a, .int .i64 b, .slice A2 n2 c2, .int .i64 r]) rfl HX.out.2.2.1 (y := md) HX.out.2.1 fr_out (by have := HML.out; unfold maxLen; omega) (by have := HML.out; omega) HX.out.2.2.2 ?_); intro v7 w7 hown7 hg7 hat7; obtain ⟨A7, c7, rfl, -, -⟩ := hown7.len; have hb7 : Blk w7 (w.heap.size + 1) 47 #[v] := HX.out.1.box.grown hg7 (fun e => by have := (HX.out.1.own.lt _ e.symm).1; omega); have k7 : w7.cell? ⟨w.heap.size + 1, 0, none⟩ = some v := hb7.cell 0; have f7 : w7.frozen? ⟨w.heap.size + 1, 0, none⟩ = false := hb7.frozen 0; have z7 : w.heap.size + 1 < w7.heap.size := hb7.lt; have hp7 := HX.out.1.push hown7 hg7 hat7; rw [show (ms ++ [md]).length = ms.length + 1 from by simp] at hp7; have HP := Lib.hid hp7; clear hp7 hb7 hown7 hg7 hat7 g0 gz gn m0 m1 m2 m3 m4)
              go_roundw
              case rel => exact ⟨k + 1, _, ms ++ [md], by omega, by go_num, by rw [List.length_append, HML.out]; rfl, HM.out.push HML.out HD.out HD2.out, HP.out⟩
              case measure => simp [intOf]; omega
            · have h8I : ¬ (k : Int) < 8 := by omega
              by_cases e8 : k = 8
              · have e8b : ((k : Int) == 8) = true := by rw [beq_iff_eq]; omega
                have HK := Lib.hid e8
                clear e8
                obtain ⟨nm, hd⟩ : ∃ nm, declsK[k]? = some ⟨nm, [4], 4⟩ := by rw [HK.out]; exact ⟨_, rfl⟩
                have HD := Lib.hid hd
                clear hd
                have HPK := Lib.hid (fun W : World => picked_in m 3 W HN.out (by omega) (by omega))
                go_wp2_with fail
                refine (HPK.out _).mono ?_
                rintro e w9 ⟨p, rfl, rfl, p0, p1⟩
                clear HPK
                go_wp2_with fail
                refine (kwhole_any _ _).mono ?_
                rintro e w1 ⟨rfl, hb1⟩
                have HQ := Lib.hid (HR0.out.keep hb1)
                have a0 := HQ.out.blk.cell 0
                have b0 := HQ.out.blk.frozen 0
                have a1 := HQ.out.blk.cell 1
                have b1 := HQ.out.blk.frozen 1
                have a2 := HQ.out.blk.cell 2
                have b2 := HQ.out.blk.frozen 2
                have a3 := HQ.out.blk.cell 3
                have b3 := HQ.out.blk.frozen 3
                have a4 := HQ.out.blk.cell 4
                have b4 := HQ.out.blk.frozen 4
                have bz := HQ.out.lt
                simp only [List.getElem?_toArray, List.getElem?_cons_zero, List.getElem?_cons_succ] at a0 a1 a2 a3 a4
                go_upto_region 20 with fail
                clear a0 b0 a1 b1 a2 b2 a3 b3 a4 b4 bz
                obtain ⟨Z, hZ⟩ : ∃ Z, ((((w1.setCell ⟨wo.heap.size, 1, none⟩ (.int .i64 p)).setCell ⟨wo.heap.size, 2, none⟩ (.int .i64 1)).setCell ⟨wo.heap.size, 3, none⟩ (.slice none 0 0)).setCell ⟨wo.heap.size, 4, none⟩ (.int .i64 0)) = Z := ⟨_, rfl⟩
                have HPZ := Lib.hid (HQ.out.put (p) (1) (.slice none 0 0) (0))
                rw [hZ] at HPZ ⊢
                clear hZ HQ
                have HPK := Lib.hid (fun W : World => picked_in (wrap64 (m.tdiv 3)) 3 W (wrap_i64 _) (by omega) (by omega))
                go_wp2_with fail
                refine (HPK.out _).mono ?_
                rintro e w9 ⟨q, rfl, rfl, q0, q1⟩
                clear HPK
                go_wp2_with fail
                refine (kwhole_any _ _).mono ?_
                rintro e w2 ⟨rfl, hb2⟩
                have HPK := Lib.hid (fun W : World => picked_in (wrap64 (m.tdiv 9)) 3 W (wrap_i64 _) (by omega) (by omega))
                go_wp2_with fail
                refine (HPK.out _).mono ?_
                rintro e w9 ⟨s, rfl, rfl, s0, s1⟩
                clear HPK
                go_wp2_with fail
                refine (kwhole_any _ _).mono ?_
                rintro e w3 ⟨rfl, hb3⟩
                obtain ⟨hq1, hq2, hq3, hq4, hq5, z1, z2, z3⟩ := chain2 HPZ.out #[.int .i64 0] #[.int .i64 1] #[.slice (some ⟨Z.heap.size, 0, none⟩) 1 1, .int .i64 q, .int .i64 1, .slice none 0 0, .int .i64 0, .slice (some ⟨w2.heap.size, 0, none⟩) 1 1, .int .i64 s, .int .i64 1, .slice none 0 0, .int .i64 0] hb2 hb3
                have HQ := Lib.hid hq1
                have HE := Lib.hid (And.intro hq2 (And.intro hq3 (And.intro hq4 (And.intro hq5 (And.intro z1 (And.intro z2 z3))))))
                clear hq1 hq2 hq3 hq4 hq5 z1 z2 z3 HPZ
                have a0 := HQ.out.blk.cell 0
                have b0 := HQ.out.blk.frozen 0
                have a1 := HQ.out.blk.cell 1
                have b1 := HQ.out.blk.frozen 1
                have a2 := HQ.out.blk.cell 2
                have b2 := HQ.out.blk.frozen 2
                have a3 := HQ.out.blk.cell 3
                have b3 := HQ.out.blk.frozen 3
                have a4 := HQ.out.blk.cell 4
                have b4 := HQ.out.blk.frozen 4
                have bz := HQ.out.lt
                simp only [List.getElem?_toArray, List.getElem?_cons_zero, List.getElem?_cons_succ] at a0 a1 a2 a3 a4
                go_upto_region 32 with fail
                clear a0 b0 a1 b1 a2 b2 a3 b3 a4 b4 bz
                clear HQ
                obtain ⟨V, hV⟩ : ∃ V, (w3.setCell ⟨wo.heap.size, 0, none⟩ (.slice (some ⟨w3.heap.size, 0, none⟩) 2 2)).alloc (.cells #[.slice (some ⟨Z.heap.size, 0, none⟩) 1 1, .int .i64 q, .int .i64 1, .slice none 0 0, .int .i64 0, .slice (some ⟨w2.heap.size, 0, none⟩) 1 1, .int .i64 s, .int .i64 1, .slice none 0 0, .int .i64 0] 91) = V := ⟨_, rfl⟩
                have HPV : Hid (Made wo V ⟨nm, [4], 4⟩) := by
                  obtain ⟨hq2, hq3, hq4, hq5, z1, z2, z3⟩ := HE.out
                  rw [← hV, ← World.setCell_alloc_past _ _ _ _ z3]
                  exact made_rows (l := [⟨[0], ⟨q, 1, [], 0⟩⟩, ⟨[1], ⟨s, 1, [], 0⟩⟩]) hq2 hq5 ⟨_, _, rfl, ventry_of hq3 rfl (by intro x hx; simp at hx; unfold I64; omega) ⟨z1, hq3.lt⟩ (by simp) q ⟨by omega, by omega⟩, _, _, rfl, ventry_of hq4 rfl (by intro x hx; simp at hx; unfold I64; omega) ⟨z2, hq4.lt⟩ (by simp) s ⟨by omega, by omega⟩, rfl⟩ z3 (by simp) ⟨by omega, by omega⟩ i64_1 i64_0 (m_f nm p q s p0 p1 q0 q1 s0 s1)
                rw [hV]
                clear hV HE
                have HMD : Hid (Made wo V _) := HPV.out
                clear HPV
                obtain ⟨A1, n1, c1, a, b, A2, n2, c2, r, md, hr, hvm, hmd⟩ := HMD.out
                clear HMD
                have hIZ := HI.out.keep hr.below
                have hrow := HI.out.row hr.below (cs := #[.slice A1 n1 c1, .int .i64 a, .int .i64 b, .slice A2 n2 c2, .int .i64 r]) hvm
                have g0 : V.cell? ⟨w.heap.size + 1, 0, none⟩ = some v := hIZ.box.cell 0
                have gz : w.heap.size + 1 < V.heap.size := hIZ.box.lt
                have gn : wo.heap.size < V.heap.size := hr.lt
                have m0 : V.cell? ⟨wo.heap.size, 0, none⟩ = some (.slice A1 n1 c1) := hr.blk.cell 0
                have m1 : V.cell? ⟨wo.heap.size, 1, none⟩ = some (.int .i64 a) := hr.blk.cell 1
                have m2 : V.cell? ⟨wo.heap.size, 2, none⟩ = some (.int .i64 b) := hr.blk.cell 2
                have m3 : V.cell? ⟨wo.heap.size, 3, none⟩ = some (.slice A2 n2 c2) := hr.blk.cell 3
                have m4 : V.cell? ⟨wo.heap.size, 4, none⟩ = some (.int .i64 r) := hr.blk.cell 4
                have HX := Lib.hid hrow
                have HD2 := Lib.hid hmd
                clear hIZ hrow hr hvm hmd
                go_wp2_with (at_builtin; go_loud (refine wpList_append_item rfl _ _ _ rfl rowMeanings tells_meaning (v := v) (xs := ms) (base := w.heap.size + 2) (S := Fr (w.heap.size + 2) (V.alloc (.cells #[.slice A1 n1 c1, .int .i64 a, .int .i64 b, .slice A2 n2 c2, .int .i64 r] 64)) v) rfl HX.out.1.own (g := V.heap.size) (cs := #[.slice A1 n1 c1, .int .i64 a, .int .i64 b, .slice A2 n2 c2, .int .i64 r]) rfl HX.out.2.2.1 (y := md) HX.out.2.1 fr_out (by have := HML.out; unfold maxLen; omega) (by have := HML.out; omega) HX.out.2.2.2 ?_); intro v7 w7 hown7 hg7 hat7; obtain ⟨A7, c7, rfl, -, -⟩ := hown7.len; have hb7 : Blk w7 (w.heap.size + 1) 47 #[v] := HX.out.1.box.grown hg7 (fun e => by have := (HX.out.1.own.lt _ e.symm).1; omega); have k7 : w7.cell? ⟨w.heap.size + 1, 0, none⟩ = some v := hb7.cell 0; have f7 : w7.frozen? ⟨w.heap.size + 1, 0, none⟩ = false := hb7.frozen 0; have z7 : w.heap.size + 1 < w7.heap.size := hb7.lt; have hp7 := HX.out.1.push hown7 hg7 hat7; rw [show (ms ++ [md]).length = ms.length + 1 from by simp] at hp7; have HP := Lib.hid hp7; clear hp7 hb7 hown7 hg7 hat7 g0 gz gn m0 m1 m2 m3 m4)
                go_roundw
                case rel => exact ⟨k + 1, _, ms ++ [md], by omega, by go_num, by rw [List.length_append, HML.out]; rfl, HM.out.push HML.out HD.out HD2.out, HP.out⟩
                case measure => simp [intOf]; omega
              · have e8b : ((k : Int) == 8) = false := by rw [beq_eq_false_iff_ne]; omega
                by_cases e9 : k = 9
                · have e9b : ((k : Int) == 9) = true := by rw [beq_iff_eq]; omega
                  have HK := Lib.hid e9
                  clear e9
                  obtain ⟨nm, hd⟩ : ∃ nm, declsK[k]? = some ⟨nm, [4, 4], 1⟩ := by rw [HK.out]; exact ⟨_, rfl⟩
                  have HD := Lib.hid hd
                  clear hd
                  have HPK := Lib.hid (fun W : World => picked_in m 2 W HN.out (by omega) (by omega))
                  go_wp2_with fail
                  refine (HPK.out _).mono ?_
                  rintro e w9 ⟨p, rfl, rfl, p0, p1⟩
                  clear HPK
                  go_wp2_with fail
                  refine (kwhole_any _ _).mono ?_
                  rintro e w1 ⟨rfl, hb1⟩
                  have HQ := Lib.hid (HR0.out.keep hb1)
                  have a0 := HQ.out.blk.cell 0
                  have b0 := HQ.out.blk.frozen 0
                  have a1 := HQ.out.blk.cell 1
                  have b1 := HQ.out.blk.frozen 1
                  have a2 := HQ.out.blk.cell 2
                  have b2 := HQ.out.blk.frozen 2
                  have a3 := HQ.out.blk.cell 3
                  have b3 := HQ.out.blk.frozen 3
                  have a4 := HQ.out.blk.cell 4
                  have b4 := HQ.out.blk.frozen 4
                  have bz := HQ.out.lt
                  simp only [List.getElem?_toArray, List.getElem?_cons_zero, List.getElem?_cons_succ] at a0 a1 a2 a3 a4
                  go_upto_region 23 with fail
                  clear a0 b0 a1 b1 a2 b2 a3 b3 a4 b4 bz
                  obtain ⟨Z, hZ⟩ : ∃ Z, ((((w1.setCell ⟨wo.heap.size, 1, none⟩ (.int .i64 p)).setCell ⟨wo.heap.size, 2, none⟩ (.int .i64 1)).setCell ⟨wo.heap.size, 3, none⟩ (.slice none 0 0)).setCell ⟨wo.heap.size, 4, none⟩ (.int .i64 0)) = Z := ⟨_, rfl⟩
                  have HPZ := Lib.hid (HQ.out.put (p) (1) (.slice none 0 0) (0))
                  rw [hZ] at HPZ ⊢
                  clear hZ HQ
                  have HPK := Lib.hid (fun W : World => picked_in (wrap64 (m.tdiv 2)) 2 W (wrap_i64 _) (by omega) (by omega))
                  go_wp2_with fail
                  refine (HPK.out _).mono ?_
                  rintro e w9 ⟨q, rfl, rfl, q0, q1⟩
                  clear HPK
                  go_wp2_with fail
                  refine (kwhole_any _ _).mono ?_
                  rintro e w2 ⟨rfl, hb2⟩
                  have HPK := Lib.hid (fun W : World => picked_in (wrap64 (m.tdiv 4)) 2 W (wrap_i64 _) (by omega) (by omega))
                  go_wp2_with fail
                  refine (HPK.out _).mono ?_
                  rintro e w9 ⟨s, rfl, rfl, s0, s1⟩
                  clear HPK
                  go_wp2_with fail
                  refine (kwhole_any _ _).mono ?_
                  rintro e w3 ⟨rfl, hb3⟩
                  obtain ⟨hq1, hq2, hq3, hq4, hq5, z1, z2, z3⟩ := chain2 HPZ.out #[.int .i64 0, .int .i64 1] #[.int .i64 1, .int .i64 1] #[.slice (some ⟨Z.heap.size, 0, none⟩) 2 2, .int .i64 q, .int .i64 1, .slice none 0 0, .int .i64 0, .slice (some ⟨w2.heap.size, 0, none⟩) 2 2, .int .i64 s, .int .i64 1, .slice none 0 0, .int .i64 0] hb2 hb3
                  have HQ := Lib.hid hq1
                  have HE := Lib.hid (And.intro hq2 (And.intro hq3 (And.intro hq4 (And.intro hq5 (And.intro z1 (And.intro z2 z3))))))
                  clear hq1 hq2 hq3 hq4 hq5 z1 z2 z3 HPZ
                  have a0 := HQ.out.blk.cell 0
                  have b0 := HQ.out.blk.frozen 0
                  have a1 := HQ.out.blk.cell 1
                  have b1 := HQ.out.blk.frozen 1
                  have a2 := HQ.out.blk.cell 2
                  have b2 := HQ.out.blk.frozen 2
                  have a3 := HQ.out.blk.cell 3
                  have b3 := HQ.out.blk.frozen 3
                  have a4 := HQ.out.blk.cell 4
                  have b4 := HQ.out.blk.frozen 4
                  have bz := HQ.out.lt
                  simp only [List.getElem?_toArray, List.getElem?_cons_zero, List.getElem?_cons_succ] at a0 a1 a2 a3 a4
                  go_upto_region 32 with fail
                  clear a0 b0 a1 b1 a2 b2 a3 b3 a4 b4 bz
                  clear HQ
                  obtain ⟨V, hV⟩ : ∃ V, (w3.setCell ⟨wo.heap.size, 0, none⟩ (.slice (some ⟨w3.heap.size, 0, none⟩) 2 2)).alloc (.cells #[.slice (some ⟨Z.heap.size, 0, none⟩) 2 2, .int .i64 q, .int .i64 1, .slice none 0 0, .int .i64 0, .slice (some ⟨w2.heap.size, 0, none⟩) 2 2, .int .i64 s, .int .i64 1, .slice none 0 0, .int .i64 0] 91) = V := ⟨_, rfl⟩
                  have HPV : Hid (Made wo V ⟨nm, [4, 4], 1⟩) := by
                    obtain ⟨hq2, hq3, hq4, hq5, z1, z2, z3⟩ := HE.out
                    rw [← hV, ← World.setCell_alloc_past _ _ _ _ z3]
                    exact made_rows (l := [⟨[0, 1], ⟨q, 1, [], 0⟩⟩, ⟨[1, 1], ⟨s, 1, [], 0⟩⟩]) hq2 hq5 ⟨_, _, rfl, ventry_of hq3 rfl (by intro x hx; simp at hx; unfold I64; omega) ⟨z1, hq3.lt⟩ (by simp) q ⟨by omega, by omega⟩, _, _, rfl, ventry_of hq4 rfl (by intro x hx; simp at hx; unfold I64; omega) ⟨z2, hq4.lt⟩ (by simp) s ⟨by omega, by omega⟩, rfl⟩ z3 (by simp) ⟨by omega, by omega⟩ i64_1 i64_0 (m_g nm p q s p0 p1 q0 q1 s0 s1)
                  rw [hV]
                  clear hV HE
                  have HMD : Hid (Made wo V _) := HPV.out
                  clear HPV
                  obtain ⟨A1, n1, c1, a, b, A2, n2, c2, r, md, hr, hvm, hmd⟩ := HMD.out
                  clear HMD
                  have hIZ := HI.out.keep hr.below
                  have hrow := HI.out.row hr.below (cs := #[.slice A1 n1 c1, .int .i64 a, .int .i64 b, .slice A2 n2 c2, .int .i64 r]) hvm
                  have g0 : V.cell? ⟨w.heap.size + 1, 0, none⟩ = some v := hIZ.box.cell 0
                  have gz : w.heap.size + 1 < V.heap.size := hIZ.box.lt
                  have gn : wo.heap.size < V.heap.size := hr.lt
                  have m0 : V.cell? ⟨wo.heap.size, 0, none⟩ = some (.slice A1 n1 c1) := hr.blk.cell 0
                  have m1 : V.cell? ⟨wo.heap.size, 1, none⟩ = some (.int .i64 a) := hr.blk.cell 1
                  have m2 : V.cell? ⟨wo.heap.size, 2, none⟩ = some (.int .i64 b) := hr.blk.cell 2
                  have m3 : V.cell? ⟨wo.heap.size, 3, none⟩ = some (.slice A2 n2 c2) := hr.blk.cell 3
                  have m4 : V.cell? ⟨wo.heap.size, 4, none⟩ = some (.int .i64 r) := hr.blk.cell 4
                  have HX := Lib.hid hrow
                  have HD2 := Lib.hid hmd
                  clear hIZ hrow hr hvm hmd
                  go_wp2_with (at_builtin; go_loud (refine wpList_append_item rfl _ _ _ rfl rowMeanings tells_meaning (v := v) (xs := ms) (base := w.heap.size + 2) (S := Fr (w.heap.size + 2) (V.alloc (.cells #[.slice A1 n1 c1, .int .i64 a, .int .i64 b, .slice A2 n2 c2, .int .i64 r] 64)) v) rfl HX.out.1.own (g := V.heap.size) (cs := #[.slice A1 n1 c1, .int .i64 a, .int .i64 b, .slice A2 n2 c2, .int .i64 r]) rfl HX.out.2.2.1 (y := md) HX.out.2.1 fr_out (by have := HML.out; unfold maxLen; omega) (by have := HML.out; omega) HX.out.2.2.2 ?_); intro v7 w7 hown7 hg7 hat7; obtain ⟨A7, c7, rfl, -, -⟩ := hown7.len; have hb7 : Blk w7 (w.heap.size + 1) 47 #[v] := HX.out.1.box.grown hg7 (fun e => by have := (HX.out.1.own.lt _ e.symm).1; omega); have k7 : w7.cell? ⟨w.heap.size + 1, 0, none⟩ = some v := hb7.cell 0; have f7 : w7.frozen? ⟨w.heap.size + 1, 0, none⟩ = false := hb7.frozen 0; have z7 : w.heap.size + 1 < w7.heap.size := hb7.lt; have hp7 := HX.out.1.push hown7 hg7 hat7; rw [show (ms ++ [md]).length = ms.length + 1 from by simp] at hp7; have HP := Lib.hid hp7; clear hp7 hb7 hown7 hg7 hat7 g0 gz gn m0 m1 m2 m3 m4)
                  go_roundw
                  case rel => exact ⟨k + 1, _, ms ++ [md], by omega, by go_num, by rw [List.length_append, HML.out]; rfl, HM.out.push HML.out HD.out HD2.out, HP.out⟩
                  case measure => simp [intOf]; omega
                · have e9b : ((k : Int) == 9) = false := by rw [beq_eq_false_iff_ne]; omega
                  by_cases e10 : k = 10
                  · have e10b : ((k : Int) == 10) = true := by rw [beq_iff_eq]; omega
                    have HK := Lib.hid e10
                    clear e10
                    obtain ⟨nm, hd⟩ : ∃ nm, declsK[k]? = some ⟨nm, [4], 2⟩ := by rw [HK.out]; exact ⟨_, rfl⟩
                    have HD := Lib.hid hd
                    clear hd
                    have HPK := Lib.hid (fun W : World => picked_in m 5 W HN.out (by omega) (by omega))
                    go_wp2_with fail
                    refine (HPK.out _).mono ?_
                    rintro e w9 ⟨p, rfl, rfl, p0, p1⟩
                    clear HPK
                    go_wp2_with fail
                    refine (kwhole_any _ _).mono ?_
                    rintro e w1 ⟨rfl, hb1⟩
                    have HQ := Lib.hid (HR0.out.keep hb1)
                    have a0 := HQ.out.blk.cell 0
                    have b0 := HQ.out.blk.frozen 0
                    have a1 := HQ.out.blk.cell 1
                    have b1 := HQ.out.blk.frozen 1
                    have a2 := HQ.out.blk.cell 2
                    have b2 := HQ.out.blk.frozen 2
                    have a3 := HQ.out.blk.cell 3
                    have b3 := HQ.out.blk.frozen 3
                    have a4 := HQ.out.blk.cell 4
                    have b4 := HQ.out.blk.frozen 4
                    have bz := HQ.out.lt
                    simp only [List.getElem?_toArray, List.getElem?_cons_zero, List.getElem?_cons_succ] at a0 a1 a2 a3 a4
                    go_upto_region 26 with fail
                    clear a0 b0 a1 b1 a2 b2 a3 b3 a4 b4 bz
                    obtain ⟨Z, hZ⟩ : ∃ Z, ((((w1.setCell ⟨wo.heap.size, 1, none⟩ (.int .i64 (p - 2))).setCell ⟨wo.heap.size, 2, none⟩ (.int .i64 1)).setCell ⟨wo.heap.size, 3, none⟩ (.slice none 0 0)).setCell ⟨wo.heap.size, 4, none⟩ (.int .i64 0)) = Z := ⟨_, rfl⟩
                    have HPZ := Lib.hid (HQ.out.put ((p - 2)) (1) (.slice none 0 0) (0))
                    rw [hZ] at HPZ ⊢
                    clear hZ HQ
                    have HPK := Lib.hid (fun W : World => picked_in (wrap64 (m.tdiv 5)) 5 W (wrap_i64 _) (by omega) (by omega))
                    go_wp2_with fail
                    refine (HPK.out _).mono ?_
                    rintro e w9 ⟨q, rfl, rfl, q0, q1⟩
                    clear HPK
                    go_wp2_with fail
                    refine (kwhole_any _ _).mono ?_
                    rintro e w2 ⟨rfl, hb2⟩
                    obtain ⟨hq1, hq2, hq3, hq5, z1, z3⟩ := chain1 HPZ.out #[.int .i64 2] #[.slice (some ⟨Z.heap.size, 0, none⟩) 1 1, .int .i64 (q - 2), .int .i64 1, .slice none 0 0, .int .i64 0] hb2
                    have HQ := Lib.hid hq1
                    have HE := Lib.hid (And.intro hq2 (And.intro hq3 (And.intro hq5 (And.intro z1 z3))))
                    clear hq1 hq2 hq3 hq5 z1 z3 HPZ
                    have a0 := HQ.out.blk.cell 0
                    have b0 := HQ.out.blk.frozen 0
                    have a1 := HQ.out.blk.cell 1
                    have b1 := HQ.out.blk.frozen 1
                    have a2 := HQ.out.blk.cell 2
                    have b2 := HQ.out.blk.frozen 2
                    have a3 := HQ.out.blk.cell 3
                    have b3 := HQ.out.blk.frozen 3
                    have a4 := HQ.out.blk.cell 4
                    have b4 := HQ.out.blk.frozen 4
                    have bz := HQ.out.lt
                    simp only [List.getElem?_toArray, List.getElem?_cons_zero, List.getElem?_cons_succ] at a0 a1 a2 a3 a4
                    go_upto_region 32 with fail
                    clear a0 b0 a1 b1 a2 b2 a3 b3 a4 b4 bz
                    clear HQ
                    obtain ⟨V, hV⟩ : ∃ V, (w2.setCell ⟨wo.heap.size, 0, none⟩ (.slice (some ⟨w2.heap.size, 0, none⟩) 1 1)).alloc (.cells #[.slice (some ⟨Z.heap.size, 0, none⟩) 1 1, .int .i64 (q - 2), .int .i64 1, .slice none 0 0, .int .i64 0] 91) = V := ⟨_, rfl⟩
                    have HPV : Hid (Made wo V ⟨nm, [4], 2⟩) := by
                      obtain ⟨hq2, hq3, hq5, z1, z3⟩ := HE.out
                      rw [← hV, ← World.setCell_alloc_past _ _ _ _ z3]
                      exact made_rows (l := [⟨[2], ⟨q - 2, 1, [], 0⟩⟩]) hq2 hq5 ⟨_, _, rfl, ventry_of hq3 rfl (by intro x hx; simp at hx; unfold I64; omega) ⟨z1, hq3.lt⟩ (by simp) (q - 2) ⟨by omega, by omega⟩, rfl⟩ z3 (by simp) ⟨by omega, by omega⟩ i64_1 i64_0 (m_h nm p q p0 p1 q0 q1)
                    rw [hV]
                    clear hV HE
                    have HMD : Hid (Made wo V _) := HPV.out
                    clear HPV
                    obtain ⟨A1, n1, c1, a, b, A2, n2, c2, r, md, hr, hvm, hmd⟩ := HMD.out
                    clear HMD
                    have hIZ := HI.out.keep hr.below
                    have hrow := HI.out.row hr.below (cs := #[.slice A1 n1 c1, .int .i64 a, .int .i64 b, .slice A2 n2 c2, .int .i64 r]) hvm
                    have g0 : V.cell? ⟨w.heap.size + 1, 0, none⟩ = some v := hIZ.box.cell 0
                    have gz : w.heap.size + 1 < V.heap.size := hIZ.box.lt
                    have gn : wo.heap.size < V.heap.size := hr.lt
                    have m0 : V.cell? ⟨wo.heap.size, 0, none⟩ = some (.slice A1 n1 c1) := hr.blk.cell 0
                    have m1 : V.cell? ⟨wo.heap.size, 1, none⟩ = some (.int .i64 a) := hr.blk.cell 1
                    have m2 : V.cell? ⟨wo.heap.size, 2, none⟩ = some (.int .i64 b) := hr.blk.cell 2
                    have m3 : V.cell? ⟨wo.heap.size, 3, none⟩ = some (.slice A2 n2 c2) := hr.blk.cell 3
                    have m4 : V.cell? ⟨wo.heap.size, 4, none⟩ = some (.int .i64 r) := hr.blk.cell 4
                    have HX := Lib.hid hrow
                    have HD2 := Lib.hid hmd
                    clear hIZ hrow hr hvm hmd
                    go_wp2_with (at_builtin; go_loud (refine wpList_append_item rfl _ _ _ rfl rowMeanings tells_meaning (v := v) (xs := ms) (base := w.heap.size + 2) (S := Fr (w.heap.size + 2) (V.alloc (.cells #[.slice A1 n1 c1, .int .i64 a, .int .i64 b, .slice A2 n2 c2, .int .i64 r] 64)) v) rfl HX.out.1.own (g := V.heap.size) (cs := #[.slice A1 n1 c1, .int .i64 a, .int .i64 b, .slice A2 n2 c2, .int .i64 r]) rfl HX.out.2.2.1 (y := md) HX.out.2.1 fr_out (by have := HML.out; unfold maxLen; omega) (by have := HML.out; omega) HX.out.2.2.2 ?_); intro v7 w7 hown7 hg7 hat7; obtain ⟨A7, c7, rfl, -, -⟩ := hown7.len; have hb7 : Blk w7 (w.heap.size + 1) 47 #[v] := HX.out.1.box.grown hg7 (fun e => by have := (HX.out.1.own.lt _ e.symm).1; omega); have k7 : w7.cell? ⟨w.heap.size + 1, 0, none⟩ = some v := hb7.cell 0; have f7 : w7.frozen? ⟨w.heap.size + 1, 0, none⟩ = false := hb7.frozen 0; have z7 : w.heap.size + 1 < w7.heap.size := hb7.lt; have hp7 := HX.out.1.push hown7 hg7 hat7; rw [show (ms ++ [md]).length = ms.length + 1 from by simp] at hp7; have HP := Lib.hid hp7; clear hp7 hb7 hown7 hg7 hat7 g0 gz gn m0 m1 m2 m3 m4)
                    go_roundw
                    case rel => exact ⟨k + 1, _, ms ++ [md], by omega, by go_num, by rw [List.length_append, HML.out]; rfl, HM.out.push HML.out HD.out HD2.out, HP.out⟩
                    case measure => simp [intOf]; omega
                  · have e10b : ((k : Int) == 10) = false := by rw [beq_eq_false_iff_ne]; omega
                    by_cases e11 : k = 11
                    · have e11b : ((k : Int) == 11) = true := by rw [beq_iff_eq]; omega
                      have HK := Lib.hid e11
                      clear e11
                      obtain ⟨nm, hd⟩ : ∃ nm, declsK[k]? = some ⟨nm, [], 5⟩ := by rw [HK.out]; exact ⟨_, rfl⟩
                      have HD := Lib.hid hd
                      clear hd
                      have HPK := Lib.hid (fun W : World => picked_in m 3 W HN.out (by omega) (by omega))
                      go_wp2_with fail
                      refine (HPK.out _).mono ?_
                      rintro e w9 ⟨p, rfl, rfl, p0, p1⟩
                      clear HPK
                      have HQ := Lib.hid (HR0.out)
                      have a0 := HQ.out.blk.cell 0
                      have b0 := HQ.out.blk.frozen 0
                      have a1 := HQ.out.blk.cell 1
                      have b1 := HQ.out.blk.frozen 1
                      have a2 := HQ.out.blk.cell 2
                      have b2 := HQ.out.blk.frozen 2
                      have a3 := HQ.out.blk.cell 3
                      have b3 := HQ.out.blk.frozen 3
                      have a4 := HQ.out.blk.cell 4
                      have b4 := HQ.out.blk.frozen 4
                      have bz := HQ.out.lt
                      simp only [List.getElem?_toArray, List.getElem?_cons_zero, List.getElem?_cons_succ] at a0 a1 a2 a3 a4
                      go_upto_region 29 with fail
                      clear a0 b0 a1 b1 a2 b2 a3 b3 a4 b4 bz
                      obtain ⟨Z, hZ⟩ : ∃ Z, ((((Y.setCell ⟨wo.heap.size, 1, none⟩ (.int .i64 0)).setCell ⟨wo.heap.size, 2, none⟩ (.int .i64 0)).setCell ⟨wo.heap.size, 3, none⟩ (.slice none 0 0)).setCell ⟨wo.heap.size, 4, none⟩ (.int .i64 p)) = Z := ⟨_, rfl⟩
                      have HPZ := Lib.hid (HQ.out.put (0) (0) (.slice none 0 0) (p))
                      rw [hZ] at HPZ ⊢
                      clear hZ HQ
                      have HPK := Lib.hid (fun W : World => picked_in (wrap64 (m.tdiv 3)) 3 W (wrap_i64 _) (by omega) (by omega))
                      go_wp2_with fail
                      refine (HPK.out _).mono ?_
                      rintro e w9 ⟨q, rfl, rfl, q0, q1⟩
                      clear HPK
                      have HQ := Lib.hid HPZ.out
                      have a0 := HQ.out.blk.cell 0
                      have b0 := HQ.out.blk.frozen 0
                      have a1 := HQ.out.blk.cell 1
                      have b1 := HQ.out.blk.frozen 1
                      have a2 := HQ.out.blk.cell 2
                      have b2 := HQ.out.blk.frozen 2
                      have a3 := HQ.out.blk.cell 3
                      have b3 := HQ.out.blk.frozen 3
                      have a4 := HQ.out.blk.cell 4
                      have b4 := HQ.out.blk.frozen 4
                      have bz := HQ.out.lt
                      simp only [List.getElem?_toArray, List.getElem?_cons_zero, List.getElem?_cons_succ] at a0 a1 a2 a3 a4
                      by_cases hq : q = p
                      · subst hq
                        go_upto_region 32 with fail
                        clear a0 b0 a1 b1 a2 b2 a3 b3 a4 b4 bz
                        clear HQ
                        have HMD : Hid (Made wo Z _) := made_plain HPZ.out i64_0 i64_0 ⟨by omega, by omega⟩ (m_arr0 nm q q0 q1)
                        clear HPZ
                        obtain ⟨A1, n1, c1, a, b, A2, n2, c2, r, md, hr, hvm, hmd⟩ := HMD.out
                        clear HMD
                        have hIZ := HI.out.keep hr.below
                        have hrow := HI.out.row hr.below (cs := #[.slice A1 n1 c1, .int .i64 a, .int .i64 b, .slice A2 n2 c2, .int .i64 r]) hvm
                        have g0 : Z.cell? ⟨w.heap.size + 1, 0, none⟩ = some v := hIZ.box.cell 0
                        have gz : w.heap.size + 1 < Z.heap.size := hIZ.box.lt
                        have gn : wo.heap.size < Z.heap.size := hr.lt
                        have m0 : Z.cell? ⟨wo.heap.size, 0, none⟩ = some (.slice A1 n1 c1) := hr.blk.cell 0
                        have m1 : Z.cell? ⟨wo.heap.size, 1, none⟩ = some (.int .i64 a) := hr.blk.cell 1
                        have m2 : Z.cell? ⟨wo.heap.size, 2, none⟩ = some (.int .i64 b) := hr.blk.cell 2
                        have m3 : Z.cell? ⟨wo.heap.size, 3, none⟩ = some (.slice A2 n2 c2) := hr.blk.cell 3
                        have m4 : Z.cell? ⟨wo.heap.size, 4, none⟩ = some (.int .i64 r) := hr.blk.cell 4
                        have HX := Lib.hid hrow
                        have HD2 := Lib.hid hmd
                        clear hIZ hrow hr hvm hmd
                        go_wp2_with (at_builtin; go_loud (refine wpList_append_item rfl _ _ _ rfl rowMeanings tells_meaning (v := v) (xs := ms) (base := w.heap.size + 2) (S := Fr (w.heap.size + 2) (Z.alloc (.cells #[.slice A1 n1 c1, .int .i64 a, .int .i64 b, .slice A2 n2 c2, .int .i64 r] 64)) v) rfl HX.out.1.own (g := Z.heap.size) (cs := #[.slice A1 n1 c1, .int .i64 a, .int .i64 b, .slice A2 n2 c2, .int .i64 r]) rfl HX.out.2.2.1 (y := md) HX.out.2.1 fr_out (by have := HML.out; unfold maxLen; omega) (by have := HML.out; omega) HX.out.2.2.2 ?_); intro v7 w7 hown7 hg7 hat7; obtain ⟨A7, c7, rfl, -, -⟩ := hown7.len; have hb7 : Blk w7 (w.heap.size + 1) 47 #[v] := HX.out.1.box.grown hg7 (fun e => by have := (HX.out.1.own.lt _ e.symm).1; omega); have k7 : w7.cell? ⟨w.heap.size + 1, 0, none⟩ = some v := hb7.cell 0; have f7 : w7.frozen? ⟨w.heap.size + 1, 0, none⟩ = false := hb7.frozen 0; have z7 : w.heap.size + 1 < w7.heap.size := hb7.lt; have hp7 := HX.out.1.push hown7 hg7 hat7; rw [show (ms ++ [md]).length = ms.length + 1 from by simp] at hp7; have HP := Lib.hid hp7; clear hp7 hb7 hown7 hg7 hat7 g0 gz gn m0 m1 m2 m3 m4)
                        go_roundw
                        case rel => exact ⟨k + 1, _, ms ++ [md], by omega, by go_num, by rw [List.length_append, HML.out]; rfl, HM.out.push HML.out HD.out HD2.out, HP.out⟩
                        case measure => simp [intOf]; omega
                      · have hqb : (q != p) = true := by simp [hq]
                        have HPK := Lib.hid (fun W : World => picked_in (wrap64 (m.tdiv 9)) 3 W (wrap_i64 _) (by omega) (by omega))
                        go_wp2_with fail
                        refine (HPK.out _).mono ?_
                        rintro e w9 ⟨s, rfl, rfl, s0, s1⟩
                        clear HPK
                        go_upto_region 32 with fail
                        clear a0 b0 a1 b1 a2 b2 a3 b3 a4 b4 bz
                        clear HQ hqb
                        have hal := Below.alloc (Below.refl Z.heap.size Z) (Nat.le_refl _) (.cells #[.int .i64 s, .int .i64 q] 93)
                        have hbk := Blk.new Z 93 #[.int .i64 s, .int .i64 q]
                        obtain ⟨V, hV⟩ : ∃ V, (Z.setCell ⟨wo.heap.size, 3, none⟩ (.slice (some ⟨Z.heap.size, 0, none⟩) 1 1)).alloc (.cells #[.int .i64 s, .int .i64 q] 93) = V := ⟨_, rfl⟩
                        have HPV : Hid (Made wo V ⟨nm, [], 5⟩) := by
                          rw [← hV, ← World.setCell_alloc_past _ _ _ _ HPZ.out.lt]
                          exact made_cells (HPZ.out.keep hal) hbk HPZ.out.lt ⟨by omega, by omega⟩ ⟨by omega, by omega⟩ ⟨by omega, by omega⟩ (m_arr1 nm p q s p0 p1 q0 q1 s0 s1 hq)
                        rw [hV]
                        clear hV hal hbk HPZ
                        have HMD : Hid (Made wo V _) := HPV.out
                        clear HPV
                        obtain ⟨A1, n1, c1, a, b, A2, n2, c2, r, md, hr, hvm, hmd⟩ := HMD.out
                        clear HMD
                        have hIZ := HI.out.keep hr.below
                        have hrow := HI.out.row hr.below (cs := #[.slice A1 n1 c1, .int .i64 a, .int .i64 b, .slice A2 n2 c2, .int .i64 r]) hvm
                        have g0 : V.cell? ⟨w.heap.size + 1, 0, none⟩ = some v := hIZ.box.cell 0
                        have gz : w.heap.size + 1 < V.heap.size := hIZ.box.lt
                        have gn : wo.heap.size < V.heap.size := hr.lt
                        have m0 : V.cell? ⟨wo.heap.size, 0, none⟩ = some (.slice A1 n1 c1) := hr.blk.cell 0
                        have m1 : V.cell? ⟨wo.heap.size, 1, none⟩ = some (.int .i64 a) := hr.blk.cell 1
                        have m2 : V.cell? ⟨wo.heap.size, 2, none⟩ = some (.int .i64 b) := hr.blk.cell 2
                        have m3 : V.cell? ⟨wo.heap.size, 3, none⟩ = some (.slice A2 n2 c2) := hr.blk.cell 3
                        have m4 : V.cell? ⟨wo.heap.size, 4, none⟩ = some (.int .i64 r) := hr.blk.cell 4
                        have HX := Lib.hid hrow
                        have HD2 := Lib.hid hmd
                        clear hIZ hrow hr hvm hmd
                        go_wp2_with (at_builtin; go_loud (refine wpList_append_item rfl _ _ _ rfl rowMeanings tells_meaning (v := v) (xs := ms) (base := w.heap.size + 2) (S := Fr (w.heap.size + 2) (V.alloc (.cells #[.slice A1 n1 c1, .int .i64 a, .int .i64 b, .slice A2 n2 c2, .int .i64 r] 64)) v) rfl HX.out.1.own (g := V.heap.size) (cs := #[.slice A1 n1 c1, .int .i64 a, .int .i64 b, .slice A2 n2 c2, .int .i64 r]) rfl HX.out.2.2.1 (y := md) HX.out.2.1 fr_out (by have := HML.out; unfold maxLen; omega) (by have := HML.out; omega) HX.out.2.2.2 ?_); intro v7 w7 hown7 hg7 hat7; obtain ⟨A7, c7, rfl, -, -⟩ := hown7.len; have hb7 : Blk w7 (w.heap.size + 1) 47 #[v] := HX.out.1.box.grown hg7 (fun e => by have := (HX.out.1.own.lt _ e.symm).1; omega); have k7 : w7.cell? ⟨w.heap.size + 1, 0, none⟩ = some v := hb7.cell 0; have f7 : w7.frozen? ⟨w.heap.size + 1, 0, none⟩ = false := hb7.frozen 0; have z7 : w.heap.size + 1 < w7.heap.size := hb7.lt; have hp7 := HX.out.1.push hown7 hg7 hat7; rw [show (ms ++ [md]).length = ms.length + 1 from by simp] at hp7; have HP := Lib.hid hp7; clear hp7 hb7 hown7 hg7 hat7 g0 gz gn m0 m1 m2 m3 m4)
                        go_roundw
                        case rel => exact ⟨k + 1, _, ms ++ [md], by omega, by go_num, by rw [List.length_append, HML.out]; rfl, HM.out.push HML.out HD.out HD2.out, HP.out⟩
                        case measure => simp [intOf]; omega
                    · have e11b : ((k : Int) == 11) = false := by rw [beq_eq_false_iff_ne]; omega
                      obtain ⟨nm, hd⟩ : ∃ nm, declsK[k]? = some ⟨nm, [], 13⟩ := by
                        have hk : k = 12 ∨ k = 13 := by omega
                        rcases hk with rfl | rfl <;> exact ⟨_, rfl⟩
                      have HD := Lib.hid hd
                      clear hd
                      have HPK := Lib.hid (fun W : World => picked_in m 8 W HN.out (by omega) (by omega))
                      go_wp2_with fail
                      refine (HPK.out _).mono ?_
                      rintro e w9 ⟨p, rfl, rfl, p0, p1⟩
                      clear HPK
                      go_wp2_with fail
                      refine (kwhole_any _ _).mono ?_
                      rintro e w1 ⟨rfl, hb1⟩
                      have HQ := Lib.hid (HR0.out.keep hb1)
                      have a0 := HQ.out.blk.cell 0
                      have b0 := HQ.out.blk.frozen 0
                      have a1 := HQ.out.blk.cell 1
                      have b1 := HQ.out.blk.frozen 1
                      have a2 := HQ.out.blk.cell 2
                      have b2 := HQ.out.blk.frozen 2
                      have a3 := HQ.out.blk.cell 3
                      have b3 := HQ.out.blk.frozen 3
                      have a4 := HQ.out.blk.cell 4
                      have b4 := HQ.out.blk.frozen 4
                      have bz := HQ.out.lt
                      simp only [List.getElem?_toArray, List.getElem?_cons_zero, List.getElem?_cons_succ] at a0 a1 a2 a3 a4
                      go_upto_region 32 with fail
                      clear a0 b0 a1 b1 a2 b2 a3 b3 a4 b4 bz
                      obtain ⟨Z, hZ⟩ : ∃ Z, ((((w1.setCell ⟨wo.heap.size, 1, none⟩ (.int .i64 p)).setCell ⟨wo.heap.size, 2, none⟩ (.int .i64 1)).setCell ⟨wo.heap.size, 3, none⟩ (.slice none 0 0)).setCell ⟨wo.heap.size, 4, none⟩ (.int .i64 0)) = Z := ⟨_, rfl⟩
                      have HPZ := Lib.hid (HQ.out.put (p) (1) (.slice none 0 0) (0))
                      rw [hZ] at HPZ ⊢
                      clear hZ HQ
                      have HMD : Hid (Made wo Z _) := made_plain HPZ.out ⟨by omega, by omega⟩ i64_1 i64_0 (m_word nm p p0 p1)
                      clear HPZ
                      obtain ⟨A1, n1, c1, a, b, A2, n2, c2, r, md, hr, hvm, hmd⟩ := HMD.out
                      clear HMD
                      have hIZ := HI.out.keep hr.below
                      have hrow := HI.out.row hr.below (cs := #[.slice A1 n1 c1, .int .i64 a, .int .i64 b, .slice A2 n2 c2, .int .i64 r]) hvm
                      have g0 : Z.cell? ⟨w.heap.size + 1, 0, none⟩ = some v := hIZ.box.cell 0
                      have gz : w.heap.size + 1 < Z.heap.size := hIZ.box.lt
                      have gn : wo.heap.size < Z.heap.size := hr.lt
                      have m0 : Z.cell? ⟨wo.heap.size, 0, none⟩ = some (.slice A1 n1 c1) := hr.blk.cell 0
                      have m1 : Z.cell? ⟨wo.heap.size, 1, none⟩ = some (.int .i64 a) := hr.blk.cell 1
                      have m2 : Z.cell? ⟨wo.heap.size, 2, none⟩ = some (.int .i64 b) := hr.blk.cell 2
                      have m3 : Z.cell? ⟨wo.heap.size, 3, none⟩ = some (.slice A2 n2 c2) := hr.blk.cell 3
                      have m4 : Z.cell? ⟨wo.heap.size, 4, none⟩ = some (.int .i64 r) := hr.blk.cell 4
                      have HX := Lib.hid hrow
                      have HD2 := Lib.hid hmd
                      clear hIZ hrow hr hvm hmd
                      go_wp2_with (at_builtin; go_loud (refine wpList_append_item rfl _ _ _ rfl rowMeanings tells_meaning (v := v) (xs := ms) (base := w.heap.size + 2) (S := Fr (w.heap.size + 2) (Z.alloc (.cells #[.slice A1 n1 c1, .int .i64 a, .int .i64 b, .slice A2 n2 c2, .int .i64 r] 64)) v) rfl HX.out.1.own (g := Z.heap.size) (cs := #[.slice A1 n1 c1, .int .i64 a, .int .i64 b, .slice A2 n2 c2, .int .i64 r]) rfl HX.out.2.2.1 (y := md) HX.out.2.1 fr_out (by have := HML.out; unfold maxLen; omega) (by have := HML.out; omega) HX.out.2.2.2 ?_); intro v7 w7 hown7 hg7 hat7; obtain ⟨A7, c7, rfl, -, -⟩ := hown7.len; have hb7 : Blk w7 (w.heap.size + 1) 47 #[v] := HX.out.1.box.grown hg7 (fun e => by have := (HX.out.1.own.lt _ e.symm).1; omega); have k7 : w7.cell? ⟨w.heap.size + 1, 0, none⟩ = some v := hb7.cell 0; have f7 : w7.frozen? ⟨w.heap.size + 1, 0, none⟩ = false := hb7.frozen 0; have z7 : w.heap.size + 1 < w7.heap.size := hb7.lt; have hp7 := HX.out.1.push hown7 hg7 hat7; rw [show (ms ++ [md]).length = ms.length + 1 from by simp] at hp7; have HP := Lib.hid hp7; clear hp7 hb7 hown7 hg7 hat7 g0 gz gn m0 m1 m2 m3 m4)
                      go_roundw
                      case rel => exact ⟨k + 1, _, ms ++ [md], by omega, by go_num, by rw [List.length_append, HML.out]; rfl, HM.out.push HML.out HD.out HD2.out, HP.out⟩
                      case measure => simp [intOf]; omega
    · obtain rfl : k = 14 := by omega
      obtain ⟨A9, c9, he9, hc9, hc9m, hvr⟩ := hI.own.reads (E := AtMeaning) tells_meaning (fun _ _ _ _ _ h => atV_meaning h) (S' := fun b => w.heap.size < b ∧ b < wr.heap.size) (fun b hb => ⟨by have := hb.1; omega, hb.2.1⟩) (fun g hg => ⟨by have := (hI.own.lt g hg).1; omega, (hI.own.lt g hg).2⟩)
      rw [hml] at he9 hvr hc9
      subst he9
      have hrz : Blk (wr.setCell ⟨w.heap.size, 0, none⟩ (.slice A9 14 c9)) w.heap.size 47 #[.slice A9 14 c9] := hI.ret.set_ 0 _
      have HO : Hid (WorldQ w (.returned (.agg #[.slice A9 14 c9])) (wr.setCell ⟨w.heap.size, 0, none⟩ (.slice A9 14 c9))) := worldQ_of hI hc9 hc9m ⟨hml, HM.out⟩
      have HC := Lib.hid (hrz.cell 0)
      have g0 : wr.cell? ⟨w.heap.size + 1, 0, none⟩ = some (.slice A9 14 c9) := hI.box.cell 0
      have g1 : wr.cell? ⟨w.heap.size, 0, none⟩ = some (.slice none 0 0) := hI.ret.cell 0
      have g2 : wr.frozen? ⟨w.heap.size, 0, none⟩ = false := hI.ret.frozen 0
      have g3 : w.heap.size + 1 < wr.heap.size := hI.box.lt
      clear hI hvr hrz hml HM hc9 hc9m
      go_wp2_with fail
      have d0 := HC.out
      simp only [List.getElem?_toArray, List.getElem?_cons_zero] at d0
      exact bodyPost_ret (v := .agg #[.slice A9 14 c9]) (by simp [results, Try.results21, go_sem, d0]) rfl HO.out
theorem world_any (A : Option Addr) (n c : Nat) (xs : List Int) (w : World) (hxs : ArrB AtInt 1 w w.heap.size A n xs) (hn : n ≤ 9223372036854775807) :
    Calls Try.prog 21 #[.slice A n c] w (WorldP w) := (world_own A n c xs w hxs hn).mono fun _ _ h => h.p
end Go.Proofs.Ythooecojopfjbaa
