/- Walk: JudgeSame, region 22 (printed by genJuB8.py). -/
import Derived.Test.YtdncchlfeanlmaaJuB7
namespace Go.Proofs.Ytdncchlfeanlmaa
open Go.RowKit

set_option maxRecDepth 100000 in
set_option maxHeartbeats 60000000 in
theorem same22 (w Z2 : World) (n : Nat) (A6 A7 A8 AF : Option Addr) (c6 c7 c8 cF M : Nat) (hn2 : 2 ≤ n) (hn9 : n ≤ 9) (hM8 : M ≤ 16) (H2 : Hid (FormB Z2 Z2.heap.size A6 none A7 A8 (n + 2) 0 n n (sameForm n) ∧ Below w.heap.size w Z2 ∧ Blk Z2 w.heap.size 27 #[.slice A6 (n + 2) c6, .slice none 0 0, .slice A7 n c7, .slice A8 n c8] ∧ n + 2 ≤ c6 ∧ n ≤ c7 ∧ c7 ≤ maxLen)) (zG2 : w.heap.size < Z2.heap.size) (wb : World) (few : List Int) (e13 : Nat) (he13 : e13 < wb.heap.size) (hc13 : wb.cell? ⟨e13, 0, none⟩ = some (.int .i64 0)) (hfl : few.length = M) (HLAW : Hid (whyJ (sameForm n) (sameSteps (few ++ [(n : Int)])) = (0, 0, 0))) (HCUT2 : Hid (Below Z2.heap.size Z2 wb ∧ OwnV VInt 3 1 wb Z2.heap.size (fun _ => False) (.slice AF M cF) few ∧ (Value.slice AF M cF).ownBlock ≠ some e13)) (HKG : Hid (Blk wb w.heap.size 27 #[.slice A6 (n + 2) c6, .slice none 0 0, .slice A7 n c7, .slice A8 n c8])) (HLF : Hid (∀ x, (Value.slice AF M cF).ownBlock = some x → Z2.heap.size ≤ x ∧ x < wb.heap.size)) (hzb : Z2.heap.size ≤ wb.heap.size) (u0 u1 u2 u3 u4 u7 u8 u9 u10 u12 u13 u14 u15 u16 u17 u18 u19 u20 u21 u22 u23 u24 u25 u26 u27 u28 u29 u30 u31 u32 u33 u34 u35 u36 u37 u38 u39 u40 u41 u42 u43 u44 u45 u46 u47 u48 u49 u50 u51 u52 u53 u54 u55 u56 u57 u58 u59 u60 u61 u62 u63 u64 u65 u66 u67 u68 u69 u70 u71 u72 u73 u74 u75 u76 u77 u78 u79 u80 u81 u82 u83 u84 u85 u86 u87 u88 u89 u90 u91 u92 u93 u94 u95 u96 u97 u98 u99 u100 u101 u102 u103 u104 u105 u106 u107 u108 u109 u110 u111 u112 u113 u114 u115 u116 u117 u118 u119 u120 u121 u122 u123 u124 u125 u126 u127 u128 u129 u130 u131 u132 u133 u134 u135 u136 u137 u138 u139 u140 u141 u142 u143 u144 u145 u146 : Value) :
    Code.wp Try.prog code22 (Exit.then (fun a2 wx => ∃ (e15 : Nat) (v120 v121 v122 v123 v124 v125 v126 v127 v128 v129 v130 v131 : Value), (e15 < wx.heap.size ∧ wx.cell? ⟨e15, 0, none⟩ = some (.int .i64 0) ∧ wx.cell? ⟨e13, 0, none⟩ = some (.int .i64 0) ∧ e13 < wx.heap.size ∧ Hid (Below Z2.heap.size Z2 wx)) ∧ a2 = ⟨#[u0, u1, u2, u3, u4, .int .i64 (n : Int), .pointer (some ⟨w.heap.size, 0, none⟩), u7, u8, u9, u10, .slice AF M cF, u12, u13, .int .i64 0, .pointer (some ⟨e15, 0, none⟩), u16, u17, u18, u19, u20, u21, u22, u23, u24, u25, u26, u27, u28, u29, u30, u31, u32, u33, u34, u35, u36, u37, u38, u39, u40, u41, u42, u43, u44, u45, u46, u47, u48, u49, u50, u51, u52, u53, u54, u55, u56, u57, u58, u59, u60, u61, u62, u63, u64, u65, u66, u67, u68, u69, u70, u71, u72, u73, u74, u75, u76, u77, u78, u79, u80, u81, u82, u83, u84, u85, u86, u87, u88, u89, u90, u91, u92, u93, u94, u95, u96, u97, u98, u99, u100, u101, u102, u103, u104, u105, u106, u107, u108, u109, u110, u111, u112, u113, u114, u115, u116, u117, u118, u119, v120, v121, v122, v123, v124, v125, v126, v127, v128, v129, v130, v131, u132, u133, u134, u135, u136, u137, u138, u139, u140, u141, u142, u143, u144, u145, u146], []⟩) (fun _ _ _ => False)) ⟨#[u0, u1, u2, u3, u4, .int .i64 (n : Int), .pointer (some ⟨w.heap.size, 0, none⟩), u7, u8, u9, u10, .slice AF M cF, u12, u13, u14, u15, u16, u17, u18, u19, u20, u21, u22, u23, u24, u25, u26, u27, u28, u29, u30, u31, u32, u33, u34, u35, u36, u37, u38, u39, u40, u41, u42, u43, u44, u45, u46, u47, u48, u49, u50, u51, u52, u53, u54, u55, u56, u57, u58, u59, u60, u61, u62, u63, u64, u65, u66, u67, u68, u69, u70, u71, u72, u73, u74, u75, u76, u77, u78, u79, u80, u81, u82, u83, u84, u85, u86, u87, u88, u89, u90, u91, u92, u93, u94, u95, u96, u97, u98, u99, u100, u101, u102, u103, u104, u105, u106, u107, u108, u109, u110, u111, u112, u113, u114, u115, u116, u117, u118, u119, u120, u121, u122, u123, u124, u125, u126, u127, u128, u129, u130, u131, u132, u133, u134, u135, u136, u137, u138, u139, u140, u141, u142, u143, u144, u145, u146], []⟩ wb := by
  conv => arg 2; whnf
  have hk0 := HKG.out
  have g0 : wb.cell? ⟨w.heap.size, 0, none⟩ = some (.slice A6 (n + 2) c6) := hk0.cell 0
  have g1 : wb.cell? ⟨w.heap.size, 1, none⟩ = some (.slice none 0 0) := hk0.cell 1
  have g2 : wb.cell? ⟨w.heap.size, 2, none⟩ = some (.slice A7 n c7) := hk0.cell 2
  have g3 : wb.cell? ⟨w.heap.size, 3, none⟩ = some (.slice A8 n c8) := hk0.cell 3
  have zG : w.heap.size < wb.heap.size := hk0.lt
  have HOWN := Lib.hid (HCUT2.out.2.1)
  have hN8' := hfl
  clear hk0
  go_region_law (first
    | ((refine step_append_item (by rfl) _ _ _ (by rfl) rowInts tells_int (v := .slice AF M cF) (xs := few) (base := Z2.heap.size) (S := fun _ => False) (by rfl) (.inl (HOWN.out.kept tells_int (row := none) (S' := fun _ => False) (by (repeat (first | exact only_refl _ _ | refine only_drew ?_ | refine only_alloc ?_ _))) (by cases AF <;> simp [Value.ownBlock]) (fun b hb => False.elim hb))) (g := _) (cs := #[.int .i64 (n : Int)]) (by rfl) (by first | exact Blk.new _ _ _ | exact Blk.drew (Blk.new _ _ _) | exact blk_second | exact Blk.drew blk_second | exact (Blk.new _ _ _).alloc _ | exact Blk.drew ((Blk.new _ _ _).alloc _) | fail) (y := (n : Int)) ⟨rfl, i64_small (by omega)⟩ (fun b h => False.elim h) (by unfold maxLen; omega) (by omega) (by simp; omega) ?_)
       intro ga ca w8 hown8 hgrow8 hat8 hlt8
       have hg78 : wb.grownBy w8 (Value.slice AF M cF).ownBlock := only_trans (by (repeat (first | exact only_refl _ _ | refine only_drew ?_ | refine only_alloc ?_ _))) hgrow8
       have hol8 := hown8.lt
       obtain ⟨A10, c10, e10, h10c, h10m, har10⟩ := hown8.reads tells_int (E := AtInt) (S' := fun b => b < w8.heap.size) (fun _ _ _ _ _ h => atV_int.1 h) (fun b hb => False.elim hb) (fun g hg => (hol8 g hg).2)
       have hlx : (few ++ [(n : Int)]).length = M + 1 := by rw [List.length_append, hN8']; rfl
       rw [hN8'] at e10
       rw [hlx] at e10 h10c har10
       injection e10 with e11 e12 e13
       subst e11 e13
       clear e12
       have hk8 := HKG.out.grown hg78 (by intro e; have := (HLF.out _ e.symm).1; omega)
       have x0 : w8.cell? ⟨w.heap.size, 0, none⟩ = some (.slice A6 (n + 2) c6) := hk8.cell 0
       have x1 : w8.cell? ⟨w.heap.size, 1, none⟩ = some (.slice none 0 0) := hk8.cell 1
       have x2 : w8.cell? ⟨w.heap.size, 2, none⟩ = some (.slice A7 n c7) := hk8.cell 2
       have x3 : w8.cell? ⟨w.heap.size, 3, none⟩ = some (.slice A8 n c8) := hk8.cell 3
       have zG8 : w.heap.size < w8.heap.size := hk8.lt
       have hzz8 : wb.heap.size ≤ w8.heap.size := hg78.size
       have HTk := Lib.hid (fun (W : World) (gs : Nat) (h1 : w8.grownBy W none) (h2 : Blk W gs 44 #[.int .i64 3, .slice (some ⟨ga, 0, none⟩) (M + 1) ca, .slice none 0 0, .int .i64 0, .int .i64 0, .int .i64 0, .slice none 0 0, .int .i64 0, .int .i64 0, .int .i64 1, .slice none 0 0, .slice none 0 0, .int .i64 0, .int .i64 0, .int .i64 0, .slice none 0 0, .int .i64 0, .int .i64 0]) => (why_any A6 none A7 A8 (n + 2) c6 0 0 n c7 n c8 (sameForm n) (some ⟨gs, 0, none⟩) 2 2 (sameSteps (few ++ [(n : Int)])) 0 0 0 W (H2.out.1.below (below_then (below_then HCUT2.out.1 hg78 hzb (fun x hx => (HLF.out x hx).1)) h1 (by omega) (fun x hx => by cases hx)) (by have := h1.size; omega)) H2.out.2.2.2.1 H2.out.2.2.2.2.1 H2.out.2.2.2.2.2 (sameSteps_laid h2 (har10.keep stays_int (fun b hb => Nat.lt_of_lt_of_le hb h1.size) (fun b o hb => only_cell h1 hb (by simp))) h10c h10m h2.lt) HLAW.out))
       have HG8 := Lib.hid (And.intro hg78 hgrow8)
       first
       | (have kE : Blk w8 wb.heap.size 29 #[.int .i64 0, .int .i64 0] := Blk.grown (by first | exact (Blk.new _ _ _).alloc _ | exact Blk.drew ((Blk.new _ _ _).alloc _) | fail) (show World.grownBy _ _ (Value.slice AF M cF).ownBlock from hgrow8) (by intro e; have := (HLF.out _ e.symm).2; omega)
          have HE := Lib.hid kE
          clear kE)
       | (have kE : Blk w8 (wb.heap.size + 1) 29 #[.int .i64 0, .int .i64 0] := Blk.grown (by first | exact blk_second | exact Blk.drew blk_second | fail) (show World.grownBy _ _ (Value.slice AF M cF).ownBlock from hgrow8) (by intro e; have := (HLF.out _ e.symm).2; omega)
          have HE := Lib.hid kE
          clear kE)
       | skip
       clear hown8 hgrow8 hat8 hg78 hol8 h10c h10m har10 hlx hk8)
    | (go_simp
       go_at_call 9
       refine (HTk.out _ _ (by (repeat (first | exact only_refl _ _ | refine only_drew ?_ | refine only_alloc ?_ _))) (by first | exact Blk.new _ _ _ | exact Blk.drew (Blk.new _ _ _) | exact blk_second | exact Blk.drew blk_second | exact (Blk.new _ _ _).alloc _ | exact Blk.drew ((Blk.new _ _ _).alloc _) | fail)).mono ?_
       rintro e w9 ⟨rfl, hb9⟩
       have hz9 := hb9.size
       have hg89 : w8.grownBy w9 none := only_trans (by (repeat (first | exact only_refl _ _ | refine only_drew ?_ | refine only_alloc ?_ _))) (only_of_below hb9 none)
       have hzz9 : w8.heap.size ≤ w9.heap.size := hg89.size
       first
       | (have kE9 := HE.out.grown hg89 (by simp)
          have HE9 := Lib.hid kE9
          have c0 := kE9.cell 0
          have c1 := kE9.cell 1
          have c2 := kE9.frozen 0
          have c3 := kE9.frozen 1
          have c4 := kE9.lt
          simp only [List.getElem?_toArray, List.getElem?_cons_zero, List.getElem?_cons_succ] at c0 c1
          clear kE9)
       | (have kE9 : Blk w9 w8.heap.size 29 #[.int .i64 0, .int .i64 0] := Blk.below (by first | exact (Blk.new _ _ _).alloc _ | exact Blk.drew ((Blk.new _ _ _).alloc _) | fail) hb9 (by simp; omega)
          have HE9 := Lib.hid kE9
          have c0 : w9.cell? ⟨w8.heap.size, 0, none⟩ = some (.int .i64 0) := kE9.cell 0
          have c1 : w9.cell? ⟨w8.heap.size, 1, none⟩ = some (.int .i64 0) := kE9.cell 1
          have c2 := kE9.frozen 0
          have c3 := kE9.frozen 1
          have c4 := kE9.lt
          clear kE9)
       | (have kE9 : Blk w9 (w8.heap.size + 1) 29 #[.int .i64 0, .int .i64 0] := Blk.below (by first | exact blk_second | exact Blk.drew blk_second | fail) hb9 (by simp)
          have HE9 := Lib.hid kE9
          have c0 : w9.cell? ⟨w8.heap.size + 1, 0, none⟩ = some (.int .i64 0) := kE9.cell 0
          have c1 : w9.cell? ⟨w8.heap.size + 1, 1, none⟩ = some (.int .i64 0) := kE9.cell 1
          have c2 := kE9.frozen 0
          have c3 := kE9.frozen 1
          have c4 := kE9.lt
          clear kE9)
       | skip
       have HB9 := Lib.hid (only_trans HG8.out.1 (grown_some hg89))
       clear hb9 hg89)
    | fail)
  all_goals go_wp2_with fail
  all_goals first
    | exact same_fin2 HCUT2.out.1 hc13 he13 (fun x hx => (HLF.out x hx).1) HCUT2.out.2.2 (grown_set_new (grown_set_new HB9.out (by omega)) (by omega)) (by omega)
    | exact same_fin2 HCUT2.out.1 hc13 he13 (fun x hx => (HLF.out x hx).1) HCUT2.out.2.2 (only_alloc HB9.out _) (by have := HB9.out.size; omega)
    | exact ⟨_, _, _, _, _, _, _, _, _, _, _, _, _, ⟨((HE9.out.set_ 0 _).set_ 1 _).lt, ((HE9.out.set_ 0 _).set_ 1 _).cell 0, same_fin2 HCUT2.out.1 hc13 he13 (fun x hx => (HLF.out x hx).1) HCUT2.out.2.2 (grown_set_new (grown_set_new HB9.out (by omega)) (by omega)) (by omega)⟩, rfl⟩
    | exact ⟨_, _, _, _, _, _, _, _, _, _, _, _, _, ⟨by simp, by simp, same_fin2 HCUT2.out.1 hc13 he13 (fun x hx => (HLF.out x hx).1) HCUT2.out.2.2 (only_alloc HB9.out _) (by have := HB9.out.size; omega)⟩, rfl⟩
    | fail
end Go.Proofs.Ytdncchlfeanlmaa
