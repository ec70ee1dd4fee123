/- Walk: the law JudgeGap (printed by genJgB.py). -/
import Derived.Test.YtfogiljgecmakaaGreatEWT
import Derived.Test.YtfogiljgecmakaaGreatJgAP
import Derived.Test.YtfogiljgecmakaaGreatOuO
import Derived.Test.YtfogiljgecmakaaGreatFuFr
namespace Go.Proofs.YtfogiljgecmakaaGreat
open Go.RowKit

def VFracJ : Val FracD := fun _ _ cs x => cs = [.int .i64 x.num, .int .i64 x.den] ∧ I64 x.num ∧ I64 x.den
theorem tells_fracJ : Tells VFracJ 2 := ⟨fun _ _ _ _ _ _ _ _ h => h, fun _ _ _ _ h => by rw [h.1]; rfl, fun _ _ _ _ h u hu => by rw [h.1] at hu; simp only [List.mem_cons, List.not_mem_nil, or_false] at hu; rcases hu with rfl | rfl <;> rfl⟩
theorem atV_fracJ {w : World} {S : Nat → Prop} {b o : Nat} {x : FracD} (h : AtV VFracJ w S b o x) : AtFrac w S b o x := by
  obtain ⟨cs, ⟨rfl, i1, i2⟩, hc⟩ := h
  exact ⟨⟨hc 0 _ rfl, i1⟩, hc 1 _ rfl, i2⟩
/-- a new atom with a row of one number: what an append is to know -/
theorem atom_made {e : TypeId} {W0 wr : World} {G : Nat} {v : Value} {xs : List AtomD} {x p : Int} (hout : Out VAtom e 6 W0 wr G v xs) (hx : I64 x) (hp : I64 p) {t t' : TypeId} {c1 c2 : Array Value} (h1 : c1 = #[.int .i64 x]) (h2 : c2 = #[.int .i64 3, .int .i64 0, .int .i64 0, .slice (some ⟨wr.heap.size, 0, none⟩) 1 1, .int .i64 1, .int .i64 p]) {Y : World} (hY : (wr.alloc (.cells c1 t)).alloc (.cells c2 t') = Y) :
    Below wr.heap.size wr Y ∧ Out VAtom e 6 W0 Y G v xs ∧ Blk Y (wr.heap.size + 1) t' c2 ∧ VAtom Y (SO W0.heap.size Y v) c2.toList ⟨3, 0, 0, ⟨[x], 1, p⟩⟩ ∧ Y.heap.size = wr.heap.size + 2 := by
  subst h1 h2
  obtain ⟨hb, hk1, hk2, hs⟩ := two_boxes wr t t' #[.int .i64 x] #[.int .i64 3, .int .i64 0, .int .i64 0, .slice (some ⟨wr.heap.size, 0, none⟩) 1 1, .int .i64 1, .int .i64 p]
  rw [hY] at hb hk1 hk2 hs
  have hlt := hout.own.lt
  have hz := hout.only.size
  refine ⟨hb, hout.step tells_atom hb, hk2, ⟨some ⟨wr.heap.size, 0, none⟩, 1, 1, rfl, ⟨(show I64 3 from i64_small (by omega)), i64_0, i64_0, i64_1, hp⟩, Nat.le_refl _, by decide, ?_⟩, hs⟩
  exact row_ints (xs := [x]) hk1 rfl (by intro y hy; rw [List.mem_singleton] at hy; subst hy; exact hx) ⟨hz, by omega, fun e => by have := (hlt _ e).2; omega⟩

def gstep (g : Nat) : Array Value := #[.int .i64 6, .slice (some ⟨g, 0, none⟩) 2 2, .slice none 0 0, .int .i64 0, .int .i64 0, .int .i64 0, .slice none 0 0, .int .i64 0, .int .i64 0, .int .i64 1, .slice none 0 0, .slice none 0 0, .int .i64 0, .int .i64 0, .int .i64 0, .slice none 0 0, .int .i64 0, .int .i64 0]
theorem gapSteps_laid {w : World} {B g1 g3 : Nat} {t1 t3 : TypeId} (h1 : Blk w g1 t1 #[.int .i64 1, .int .i64 2]) (h3 : Blk w g3 t3 (gstep g1)) (b1 : g1 < B) (b3 : g3 < B) : ArrB AtStep 9 w B (some ⟨g3, 0, none⟩) 2 gapSteps := by
  have hi : IntsB w B (some ⟨g1, 0, none⟩) 2 [1, 2] := row_ints (xs := [1, 2]) h1 rfl (by intro y hy; simp only [List.mem_cons, List.not_mem_nil, or_false] at hy; rcases hy with rfl | rfl <;> exact i64_small (by omega)) b1
  exact row_two tells_step (fun _ _ _ _ _ h => atV_step h) h3 (c0 := [.int .i64 6, .slice (some ⟨g1, 0, none⟩) 2 2, .slice none 0 0, .int .i64 0, .int .i64 0, .int .i64 0, .slice none 0 0, .int .i64 0, .int .i64 0]) (c1 := [.int .i64 1, .slice none 0 0, .slice none 0 0, .int .i64 0, .int .i64 0, .int .i64 0, .slice none 0 0, .int .i64 0, .int .i64 0]) rfl
    (vstep_plain (i64_small (by omega)) (Nat.le_refl _) (by decide) (Nat.le_refl _) (Nat.zero_le _) hi Arr.nil_) (vstep_plain i64_1 (Nat.le_refl _) (Nat.zero_le _) (Nat.le_refl _) (Nat.zero_le _) Arr.nil_ Arr.nil_) b3

set_option maxRecDepth 100000 in
set_option maxHeartbeats 8000000 in
theorem judgeGap_any (kk : Int) (b : Bool) (w : World) (hk1 : I64 kk) :
    Calls Tryz.prog 5 #[.int .i64 kk, .bool b] w fun e w' => e = .returned (.bool true) ∧ Below w.heap.size w w' := by
  obtain ⟨X, hX⟩ : ∃ X, (((((w.alloc (.cells #[.bool b] 4)).alloc (.cells #[.int .i64 (-1)] 3)).alloc (.cells #[.int .i64 (-2)] 3)).alloc (.cells #[.slice (some ⟨w.heap.size + 1, 0, none⟩) 1 1, .slice (some ⟨w.heap.size + 1 + 1, 0, none⟩) 1 1] 28)).alloc (.cells #[.slice none 0 0, .slice (some ⟨w.heap.size, 0, none⟩) 1 1, .slice none 0 0, .slice (some ⟨w.heap.size + 1 + 1 + 1, 0, none⟩) 2 2] 27)) = X := ⟨_, rfl⟩
  have hs := lay_size [(4, #[.bool b]), (3, #[.int .i64 (-1)]), (3, #[.int .i64 (-2)]), (28, #[.slice (some ⟨w.heap.size + 1, 0, none⟩) 1 1, .slice (some ⟨w.heap.size + 1 + 1, 0, none⟩) 1 1]), (27, #[.slice none 0 0, .slice (some ⟨w.heap.size, 0, none⟩) 1 1, .slice none 0 0, .slice (some ⟨w.heap.size + 1 + 1 + 1, 0, none⟩) 2 2])] w
  have hbw := lay_below [(4, #[.bool b]), (3, #[.int .i64 (-1)]), (3, #[.int .i64 (-2)]), (28, #[.slice (some ⟨w.heap.size + 1, 0, none⟩) 1 1, .slice (some ⟨w.heap.size + 1 + 1, 0, none⟩) 1 1]), (27, #[.slice none 0 0, .slice (some ⟨w.heap.size, 0, none⟩) 1 1, .slice none 0 0, .slice (some ⟨w.heap.size + 1 + 1 + 1, 0, none⟩) 2 2])] w
  have hk := fun i t c h => lay_blk [(4, #[.bool b]), (3, #[.int .i64 (-1)]), (3, #[.int .i64 (-2)]), (28, #[.slice (some ⟨w.heap.size + 1, 0, none⟩) 1 1, .slice (some ⟨w.heap.size + 1 + 1, 0, none⟩) 1 1]), (27, #[.slice none 0 0, .slice (some ⟨w.heap.size, 0, none⟩) 1 1, .slice none 0 0, .slice (some ⟨w.heap.size + 1 + 1 + 1, 0, none⟩) 2 2])] w i t c h
  rw [show lay w [(4, #[.bool b]), (3, #[.int .i64 (-1)]), (3, #[.int .i64 (-2)]), (28, #[.slice (some ⟨w.heap.size + 1, 0, none⟩) 1 1, .slice (some ⟨w.heap.size + 1 + 1, 0, none⟩) 1 1]), (27, #[.slice none 0 0, .slice (some ⟨w.heap.size, 0, none⟩) 1 1, .slice none 0 0, .slice (some ⟨w.heap.size + 1 + 1 + 1, 0, none⟩) 2 2])] = X from hX] at hs hbw hk
  simp only [List.length_cons, List.length_nil] at hs
  have hI : ArrB AtBool 1 X (w.heap.size + 1 + 1 + 1 + 1) (some ⟨w.heap.size, 0, none⟩) 1 [b] := row_one tells_bool (fun _ _ _ _ _ h => atV_bool.1 h) (hk 0 _ _ rfl) rfl (by show _ < _; omega)
  have hC : ArrB (AtArr AtInt 1) 1 X (w.heap.size + 1 + 1 + 1 + 1) (some ⟨w.heap.size + 1 + 1 + 1, 0, none⟩) 2 [[-1], [-2]] := row_two (tells_arr stays_int) atArr_of (hk 3 _ _ rfl) (c0 := [.slice (some ⟨w.heap.size + 1, 0, none⟩) 1 1]) (c1 := [.slice (some ⟨w.heap.size + 1 + 1, 0, none⟩) 1 1]) rfl
      (varr_of (row_ints (xs := [-1]) (hk 1 _ _ rfl) rfl (by intro x hx; rw [List.mem_singleton] at hx; subst hx; exact i64_small (by omega)) (by show _ < _; omega)) (Nat.le_refl _) (by decide)) (varr_of (row_ints (xs := [-2]) (hk 2 _ _ rfl) rfl (by intro x hx; rw [List.mem_singleton] at hx; subst hx; exact i64_small (by omega)) (by show _ < _; omega)) (Nat.le_refl _) (by decide)) (by show _ < _; omega)
  have hG : Blk X (w.heap.size + 1 + 1 + 1 + 1) 27 #[.slice none 0 0, .slice (some ⟨w.heap.size, 0, none⟩) 1 1, .slice none 0 0, .slice (some ⟨w.heap.size + 1 + 1 + 1, 0, none⟩) 2 2] := hk 4 _ _ rfl
  have HX := Lib.hid hX
  have H := Lib.hid (And.intro hbw (And.intro hI (And.intro hC hG)))
  have hsX : w.heap.size + 5 = X.heap.size := hs.symm
  clear hX hs hbw hk hI hC hG
  go_enter Tryz.func5, Tryz.ntmps5
  go_wp2_with fail
  refine (picked_in kk 2001 _ hk1 (by omega) (by omega)).mono ?_
  rintro e w9 ⟨p, rfl, rfl, p0, p1⟩
  clear hk1
  go_upto_region 3 with fail
  rw [HX.out]
  clear HX
  generalize hP : p - 1000 = P
  have hP0 : -1000 ≤ P := by omega
  have hP1 : P ≤ 1000 := by omega
  have hv1 : IntKind.i64.wrap (-P) = -P := by rw [IntKind.wrap_i64]; omega
  have hv2 : IntKind.i64.wrap (-P - 1) = -P - 1 := by rw [IntKind.wrap_i64]; omega
  have hv3 : IntKind.i64.wrap (2 * P) = 2 * P := by rw [IntKind.wrap_i64]; omega
  have hv4 : IntKind.i64.wrap (2 * P + 1) = 2 * P + 1 := by rw [IntKind.wrap_i64]; omega
  clear hP p0 p1
  have HO0 : Hid (Out VAtom 47 6 X X (w.heap.size + 1 + 1 + 1 + 1) (.slice none 0 0) [] ∧ Blk X (w.heap.size + 1 + 1 + 1 + 1) 27 #[.slice none 0 0, .slice (some ⟨w.heap.size, 0, none⟩) 1 1, .slice none 0 0, .slice (some ⟨w.heap.size + 1 + 1 + 1, 0, none⟩) 2 2]) := ⟨Out.start VAtom 47 6 X (by omega), H.out.2.2.2⟩
  have hmade := atom_made (t := 3) (t' := 47) HO0.out.1 (show I64 1 from i64_small (by omega)) (show I64 P from i64_small (by omega)) rfl rfl (rfl : ((X.alloc (.cells #[.int .i64 1] 3)).alloc (.cells #[.int .i64 3, .int .i64 0, .int .i64 0, .slice (some ⟨X.heap.size, 0, none⟩) 1 1, .int .i64 1, .int .i64 P] 47)) = ((X.alloc (.cells #[.int .i64 1] 3)).alloc (.cells #[.int .i64 3, .int .i64 0, .int .i64 0, .slice (some ⟨X.heap.size, 0, none⟩) 1 1, .int .i64 1, .int .i64 P] 47)))
  have hgf : Blk ((X.alloc (.cells #[.int .i64 1] 3)).alloc (.cells #[.int .i64 3, .int .i64 0, .int .i64 0, .slice (some ⟨X.heap.size, 0, none⟩) 1 1, .int .i64 1, .int .i64 P] 47)) (w.heap.size + 1 + 1 + 1 + 1) 27 #[.slice none 0 0, .slice (some ⟨w.heap.size, 0, none⟩) 1 1, .slice none 0 0, .slice (some ⟨w.heap.size + 1 + 1 + 1, 0, none⟩) 2 2] := HO0.out.2.below hmade.1 HO0.out.2.lt
  have HMa := Lib.hid (And.intro hmade hgf)
  have u0 : X.cell? ⟨w.heap.size + 1 + 1 + 1 + 1, 2, none⟩ = some (.slice none 0 0) := HO0.out.2.cell 2
  have za : w.heap.size + 1 + 1 + 1 + 1 < X.heap.size := HO0.out.2.lt
  have zya : X.heap.size ≤ X.heap.size := HO0.out.1.only.size
  have HLTa := Lib.hid HO0.out.1.own.lt
  clear hmade hgf
  go_upto_region 4 with (at_builtin; go_loud (refine wpList_append_item rfl _ _ _ rfl rowAtoms tells_atom (v := .slice none 0 0) (xs := ([] : List AtomD)) (base := X.heap.size) (S := SO X.heap.size ((X.alloc (.cells #[.int .i64 1] 3)).alloc (.cells #[.int .i64 3, .int .i64 0, .int .i64 0, .slice (some ⟨X.heap.size, 0, none⟩) 1 1, .int .i64 1, .int .i64 P] 47)) (.slice none 0 0)) rfl HMa.out.1.2.1.own (g := X.heap.size + 1) (cs := #[.int .i64 3, .int .i64 0, .int .i64 0, .slice (some ⟨X.heap.size, 0, none⟩) 1 1, .int .i64 1, .int .i64 P]) rfl HMa.out.1.2.2.1 (y := ⟨3, 0, 0, ⟨[1], 1, P⟩⟩) HMa.out.1.2.2.2.1 (fun b h => ⟨h.2.1, h.2.2⟩) (by show 0 + 1 ≤ maxLen; decide) (by show (0 + 1) * 64 ≤ 140737488355328; decide) (by rw [HMa.out.1.2.2.2.2]; omega) ?_); intro v' w6 hown6 hgrow6 hat6; obtain ⟨A6, c6, rfl, hc6, hc6m⟩ := hown6.len; (have hl6 : ((([] : List AtomD) : List AtomD) ++ [(⟨3, 0, 0, ⟨[1], 1, P⟩⟩ : AtomD)]).length = 1 := rfl); rw [hl6] at hown6 hat6 hc6 ⊢; (have hgb6 : Blk w6 (w.heap.size + 1 + 1 + 1 + 1) 27 #[.slice none 0 0, .slice (some ⟨w.heap.size, 0, none⟩) 1 1, .slice none 0 0, .slice (some ⟨w.heap.size + 1 + 1 + 1, 0, none⟩) 2 2] := HMa.out.2.grown hgrow6 (fun e => by have := (HLTa.out _ e.symm).1; omega)); (have u6 : w6.cell? ⟨w.heap.size + 1 + 1 + 1 + 1, 2, none⟩ = some (.slice none 0 0) := hgb6.cell 2); (have f6 : w6.frozen? ⟨w.heap.size + 1 + 1 + 1 + 1, 2, none⟩ = false := hgb6.frozen 2); (have z6 : w.heap.size + 1 + 1 + 1 + 1 < w6.heap.size := hgb6.lt); (have HB6 := Lib.hid (And.intro hgb6 (And.intro hown6 (And.intro hgrow6 hat6)))); clear hgb6 hown6 hgrow6 hat6 hl6)
  obtain ⟨Z1, hZ⟩ : ∃ Z, w6.setCell ⟨w.heap.size + 1 + 1 + 1 + 1, 2, none⟩ (.slice A6 1 c6) = Z := ⟨_, rfl⟩
  have HO1 : Hid (Out VAtom 47 6 X Z1 (w.heap.size + 1 + 1 + 1 + 1) (.slice A6 1 c6) [⟨3, 0, 0, ⟨[1], 1, P⟩⟩] ∧ Blk Z1 (w.heap.size + 1 + 1 + 1 + 1) 27 #[.slice none 0 0, .slice (some ⟨w.heap.size, 0, none⟩) 1 1, .slice A6 1 c6, .slice (some ⟨w.heap.size + 1 + 1 + 1, 0, none⟩) 2 2]) := by
    rw [← hZ]
    exact ⟨Out.push tells_atom HMa.out.1.2.1 HB6.out.2.1 HB6.out.2.2.1 HB6.out.2.2.2 2 _, HB6.out.1.set_ 2 _⟩
  rw [hZ]
  have HCa := Lib.hid (And.intro hc6 hc6m)
  clear hZ HB6 u6 f6 z6 u0 za HMa HLTa hc6 hc6m
  have hmade := atom_made (t := 3) (t' := 47) HO1.out.1 (show I64 (-1) from i64_small (by omega)) (show I64 (-P - 1) from i64_small (by omega)) rfl rfl (rfl : ((Z1.alloc (.cells #[.int .i64 (-1)] 3)).alloc (.cells #[.int .i64 3, .int .i64 0, .int .i64 0, .slice (some ⟨Z1.heap.size, 0, none⟩) 1 1, .int .i64 1, .int .i64 (-P - 1)] 47)) = ((Z1.alloc (.cells #[.int .i64 (-1)] 3)).alloc (.cells #[.int .i64 3, .int .i64 0, .int .i64 0, .slice (some ⟨Z1.heap.size, 0, none⟩) 1 1, .int .i64 1, .int .i64 (-P - 1)] 47)))
  have hgf : Blk ((Z1.alloc (.cells #[.int .i64 (-1)] 3)).alloc (.cells #[.int .i64 3, .int .i64 0, .int .i64 0, .slice (some ⟨Z1.heap.size, 0, none⟩) 1 1, .int .i64 1, .int .i64 (-P - 1)] 47)) (w.heap.size + 1 + 1 + 1 + 1) 27 #[.slice none 0 0, .slice (some ⟨w.heap.size, 0, none⟩) 1 1, .slice A6 1 c6, .slice (some ⟨w.heap.size + 1 + 1 + 1, 0, none⟩) 2 2] := HO1.out.2.below hmade.1 HO1.out.2.lt
  have HMb := Lib.hid (And.intro hmade hgf)
  have u0 : Z1.cell? ⟨w.heap.size + 1 + 1 + 1 + 1, 2, none⟩ = some (.slice A6 1 c6) := HO1.out.2.cell 2
  have zb : w.heap.size + 1 + 1 + 1 + 1 < Z1.heap.size := HO1.out.2.lt
  have zyb : X.heap.size ≤ Z1.heap.size := HO1.out.1.only.size
  have HLTb := Lib.hid HO1.out.1.own.lt
  clear hmade hgf
  go_upto_region 5 with (at_builtin; go_loud (refine wpList_append_item rfl _ _ _ rfl rowAtoms tells_atom (v := .slice A6 1 c6) (xs := [⟨3, 0, 0, ⟨[1], 1, P⟩⟩]) (base := X.heap.size) (S := SO X.heap.size ((Z1.alloc (.cells #[.int .i64 (-1)] 3)).alloc (.cells #[.int .i64 3, .int .i64 0, .int .i64 0, .slice (some ⟨Z1.heap.size, 0, none⟩) 1 1, .int .i64 1, .int .i64 (-P - 1)] 47)) (.slice A6 1 c6)) rfl HMb.out.1.2.1.own (g := Z1.heap.size + 1) (cs := #[.int .i64 3, .int .i64 0, .int .i64 0, .slice (some ⟨Z1.heap.size, 0, none⟩) 1 1, .int .i64 1, .int .i64 (-P - 1)]) rfl HMb.out.1.2.2.1 (y := ⟨3, 0, 0, ⟨[-1], 1, (-P - 1)⟩⟩) HMb.out.1.2.2.2.1 (fun b h => ⟨h.2.1, h.2.2⟩) (by show 1 + 1 ≤ maxLen; decide) (by show (1 + 1) * 64 ≤ 140737488355328; decide) (by rw [HMb.out.1.2.2.2.2]; omega) ?_); intro v' w6 hown6 hgrow6 hat6; obtain ⟨A7, c7, rfl, hc6, hc6m⟩ := hown6.len; (have hl6 : (([⟨3, 0, 0, ⟨[1], 1, P⟩⟩] : List AtomD) ++ [(⟨3, 0, 0, ⟨[-1], 1, (-P - 1)⟩⟩ : AtomD)]).length = 2 := rfl); rw [hl6] at hown6 hat6 hc6 ⊢; (have hgb6 : Blk w6 (w.heap.size + 1 + 1 + 1 + 1) 27 #[.slice none 0 0, .slice (some ⟨w.heap.size, 0, none⟩) 1 1, .slice A6 1 c6, .slice (some ⟨w.heap.size + 1 + 1 + 1, 0, none⟩) 2 2] := HMb.out.2.grown hgrow6 (fun e => by have := (HLTb.out _ e.symm).1; omega)); (have u6 : w6.cell? ⟨w.heap.size + 1 + 1 + 1 + 1, 2, none⟩ = some (.slice A6 1 c6) := hgb6.cell 2); (have f6 : w6.frozen? ⟨w.heap.size + 1 + 1 + 1 + 1, 2, none⟩ = false := hgb6.frozen 2); (have z6 : w.heap.size + 1 + 1 + 1 + 1 < w6.heap.size := hgb6.lt); (have HB6 := Lib.hid (And.intro hgb6 (And.intro hown6 (And.intro hgrow6 hat6)))); clear hgb6 hown6 hgrow6 hat6 hl6)
  obtain ⟨Z2, hZ⟩ : ∃ Z, w6.setCell ⟨w.heap.size + 1 + 1 + 1 + 1, 2, none⟩ (.slice A7 2 c7) = Z := ⟨_, rfl⟩
  have HO2 : Hid (Out VAtom 47 6 X Z2 (w.heap.size + 1 + 1 + 1 + 1) (.slice A7 2 c7) [⟨3, 0, 0, ⟨[1], 1, P⟩⟩, ⟨3, 0, 0, ⟨[-1], 1, (-P - 1)⟩⟩] ∧ Blk Z2 (w.heap.size + 1 + 1 + 1 + 1) 27 #[.slice none 0 0, .slice (some ⟨w.heap.size, 0, none⟩) 1 1, .slice A7 2 c7, .slice (some ⟨w.heap.size + 1 + 1 + 1, 0, none⟩) 2 2]) := by
    rw [← hZ]
    exact ⟨Out.push tells_atom HMb.out.1.2.1 HB6.out.2.1 HB6.out.2.2.1 HB6.out.2.2.2 2 _, HB6.out.1.set_ 2 _⟩
  rw [hZ]
  have HCb := Lib.hid (And.intro hc6 hc6m)
  clear hZ HB6 u6 f6 z6 u0 zb HMb HLTb hc6 hc6m
  obtain ⟨A8, c8, e8, hc8, hc8m, hat⟩ := HO2.out.1.done tells_atom (E := AtAtom) (fun _ _ _ _ _ h => atV_atom h)
  injection e8 with e1 e2 e3
  subst e1 e3
  have hgX := HO2.out.1.only
  have hzX := hgX.size
  have hFZ : FormB Z2 Z2.heap.size none (some ⟨w.heap.size, 0, none⟩) A7 (some ⟨w.heap.size + 1 + 1 + 1, 0, none⟩) 0 1 2 2 (gapForm P b) := ⟨Arr.nil_, H.out.2.1.keep stays_bool (fun b hb => by omega) (fun b o hb => only_cell hgX (by omega) (by intro e; injection e with e; omega)), hat.keep stays_atom (fun b hb => hb.2) (fun _ _ _ => rfl), H.out.2.2.1.keep (stays_arr stays_int) (fun b hb => by omega) (fun b o hb => only_cell hgX (by omega) (by intro e; injection e with e; omega)), by decide, by decide, by decide, by decide⟩
  have hbZ : Below w.heap.size w Z2 := below_then H.out.1 hgX (by omega) (fun x hx => by injection hx; omega)
  have hkG := HO2.out.2
  have HF := Lib.hid (And.intro hFZ (And.intro hbZ (And.intro hkG (And.intro hc8 hc8m))))
  have g0 : Z2.cell? ⟨w.heap.size + 1 + 1 + 1 + 1, 0, none⟩ = some (.slice none 0 0) := hkG.cell 0
  have g1 : Z2.cell? ⟨w.heap.size + 1 + 1 + 1 + 1, 1, none⟩ = some (.slice (some ⟨w.heap.size, 0, none⟩) 1 1) := hkG.cell 1
  have g2 : Z2.cell? ⟨w.heap.size + 1 + 1 + 1 + 1, 2, none⟩ = some (.slice A7 2 c7) := hkG.cell 2
  have g3 : Z2.cell? ⟨w.heap.size + 1 + 1 + 1 + 1, 3, none⟩ = some (.slice (some ⟨w.heap.size + 1 + 1 + 1, 0, none⟩) 2 2) := hkG.cell 3
  have zZ : w.heap.size + 1 + 1 + 1 + 1 < Z2.heap.size := hkG.lt
  clear hat e2 hc8 hc8m hFZ hbZ hkG hgX HO0 HO1 HO2 HCa HCb zya zyb hzX
  obtain ⟨Y8, hY8⟩ : ∃ Y, ((Z2.alloc (.cells #[.int .i64 1, .int .i64 2] 3)).alloc (.cells #[.int .i64 6, .slice (some ⟨Z2.heap.size, 0, none⟩) 2 2, .slice none 0 0, .int .i64 0, .int .i64 0, .int .i64 0, .slice none 0 0, .int .i64 0, .int .i64 0, .int .i64 1, .slice none 0 0, .slice none 0 0, .int .i64 0, .int .i64 0, .int .i64 0, .slice none 0 0, .int .i64 0, .int .i64 0] 49)) = Y := ⟨_, rfl⟩
  have hs8 := lay_size [(3, #[.int .i64 1, .int .i64 2]), (49, #[.int .i64 6, .slice (some ⟨Z2.heap.size, 0, none⟩) 2 2, .slice none 0 0, .int .i64 0, .int .i64 0, .int .i64 0, .slice none 0 0, .int .i64 0, .int .i64 0, .int .i64 1, .slice none 0 0, .slice none 0 0, .int .i64 0, .int .i64 0, .int .i64 0, .slice none 0 0, .int .i64 0, .int .i64 0])] Z2
  have hb8 := lay_below [(3, #[.int .i64 1, .int .i64 2]), (49, #[.int .i64 6, .slice (some ⟨Z2.heap.size, 0, none⟩) 2 2, .slice none 0 0, .int .i64 0, .int .i64 0, .int .i64 0, .slice none 0 0, .int .i64 0, .int .i64 0, .int .i64 1, .slice none 0 0, .slice none 0 0, .int .i64 0, .int .i64 0, .int .i64 0, .slice none 0 0, .int .i64 0, .int .i64 0])] Z2
  have hk8 := fun i t c h => lay_blk [(3, #[.int .i64 1, .int .i64 2]), (49, #[.int .i64 6, .slice (some ⟨Z2.heap.size, 0, none⟩) 2 2, .slice none 0 0, .int .i64 0, .int .i64 0, .int .i64 0, .slice none 0 0, .int .i64 0, .int .i64 0, .int .i64 1, .slice none 0 0, .slice none 0 0, .int .i64 0, .int .i64 0, .int .i64 0, .slice none 0 0, .int .i64 0, .int .i64 0])] Z2 i t c h
  rw [show lay Z2 [(3, #[.int .i64 1, .int .i64 2]), (49, #[.int .i64 6, .slice (some ⟨Z2.heap.size, 0, none⟩) 2 2, .slice none 0 0, .int .i64 0, .int .i64 0, .int .i64 0, .slice none 0 0, .int .i64 0, .int .i64 0, .int .i64 1, .slice none 0 0, .slice none 0 0, .int .i64 0, .int .i64 0, .int .i64 0, .slice none 0 0, .int .i64 0, .int .i64 0])] = Y8 from hY8] at hs8 hb8 hk8
  simp only [List.length_cons, List.length_nil] at hs8
  have hst := gapSteps_laid (B := Y8.heap.size) (hk8 0 _ _ rfl) (hk8 1 _ _ rfl) (by omega) (by omega)
  have hT1 : Calls Tryz.prog 10 #[.agg #[.slice none 0 0, .slice (some ⟨w.heap.size, 0, none⟩) 1 1, .slice A7 2 c7, .slice (some ⟨w.heap.size + 1 + 1 + 1, 0, none⟩) 2 2], .slice (some ⟨Z2.heap.size + 1, 0, none⟩) 2 2] Y8 fun e w' => e = .returned (.tuple #[.bool b, .agg #[.int .i64 0, .int .i64 0]]) ∧ Below Y8.heap.size Y8 w' :=
    (take_any none (some ⟨w.heap.size, 0, none⟩) A7 (some ⟨w.heap.size + 1 + 1 + 1, 0, none⟩) 0 0 1 1 2 c7 2 2 (gapForm P b) (some ⟨Z2.heap.size + 1, 0, none⟩) 2 2 gapSteps _ 0 0 Y8 (HF.out.1.below hb8 hb8.size) (Nat.le_refl _) HF.out.2.2.2.1 HF.out.2.2.2.2 hst (gap_law ⟨hP0, hP1⟩)).mono fun e w' h => ⟨by
      rw [h.1]
      cases b <;> rfl, h.2⟩
  have HT1 := Lib.hid hT1
  have HY8 := Lib.hid hY8
  have H8 := Lib.hid hb8
  have zY8 : Z2.heap.size + 2 = Y8.heap.size := hs8.symm
  clear hT1 hY8 hb8 hk8 hst hs8
  go_wp2_with fail
  rw [HY8.out]
  refine HT1.out.mono ?_
  rintro e w8 ⟨rfl, hb8⟩
  have hbZ8 : Below Z2.heap.size Z2 w8 := H8.out.trans (hb8.mono H8.out.size)
  have kG8 : Blk w8 (w.heap.size + 1 + 1 + 1 + 1) 27 _ := HF.out.2.2.1.below hbZ8 zZ
  have h0 : w8.cell? ⟨w.heap.size + 1 + 1 + 1 + 1, 0, none⟩ = some (.slice none 0 0) := kG8.cell 0
  have h1 : w8.cell? ⟨w.heap.size + 1 + 1 + 1 + 1, 1, none⟩ = some (.slice (some ⟨w.heap.size, 0, none⟩) 1 1) := kG8.cell 1
  have h2 : w8.cell? ⟨w.heap.size + 1 + 1 + 1 + 1, 2, none⟩ = some (.slice A7 2 c7) := kG8.cell 2
  have h3 : w8.cell? ⟨w.heap.size + 1 + 1 + 1 + 1, 3, none⟩ = some (.slice (some ⟨w.heap.size + 1 + 1 + 1, 0, none⟩) 2 2) := kG8.cell 3
  have zG8 : w.heap.size + 1 + 1 + 1 + 1 < w8.heap.size := kG8.lt
  have hb80 : Below w.heap.size w w8 := HF.out.2.1.trans (hbZ8.mono (by have := HF.out.2.1.size; omega))
  have hF8 := HF.out.1.below hbZ8 hbZ8.size
  obtain ⟨Y9, hY9⟩ : ∃ Y, ((((w8.alloc (.cells #[.int .i64 0, .int .i64 0] 33)).alloc (.cells #[.bool false, .bool false] 4)).alloc (.cells #[.int .i64 (2 * P + 1), .int .i64 2] 51)).alloc (.cells #[.slice (some ⟨w8.heap.size + 1, 0, none⟩) 2 2, .slice none 0 0, .slice (some ⟨w8.heap.size + 1 + 1, 0, none⟩) 1 1] 31)) = Y := ⟨_, rfl⟩
  have hs9 := lay_size [(33, #[.int .i64 0, .int .i64 0]), (4, #[.bool false, .bool false]), (51, #[.int .i64 (2 * P + 1), .int .i64 2]), (31, #[.slice (some ⟨w8.heap.size + 1, 0, none⟩) 2 2, .slice none 0 0, .slice (some ⟨w8.heap.size + 1 + 1, 0, none⟩) 1 1])] w8
  have hb9 := lay_below [(33, #[.int .i64 0, .int .i64 0]), (4, #[.bool false, .bool false]), (51, #[.int .i64 (2 * P + 1), .int .i64 2]), (31, #[.slice (some ⟨w8.heap.size + 1, 0, none⟩) 2 2, .slice none 0 0, .slice (some ⟨w8.heap.size + 1 + 1, 0, none⟩) 1 1])] w8
  have hk9 := fun i t c h => lay_blk [(33, #[.int .i64 0, .int .i64 0]), (4, #[.bool false, .bool false]), (51, #[.int .i64 (2 * P + 1), .int .i64 2]), (31, #[.slice (some ⟨w8.heap.size + 1, 0, none⟩) 2 2, .slice none 0 0, .slice (some ⟨w8.heap.size + 1 + 1, 0, none⟩) 1 1])] w8 i t c h
  rw [show lay w8 [(33, #[.int .i64 0, .int .i64 0]), (4, #[.bool false, .bool false]), (51, #[.int .i64 (2 * P + 1), .int .i64 2]), (31, #[.slice (some ⟨w8.heap.size + 1, 0, none⟩) 2 2, .slice none 0 0, .slice (some ⟨w8.heap.size + 1 + 1, 0, none⟩) 1 1])] = Y9 from hY9] at hs9 hb9 hk9
  simp only [List.length_cons, List.length_nil] at hs9
  have hM9 : ModelB Y9 Y9.heap.size (some ⟨w8.heap.size + 1, 0, none⟩) none (some ⟨w8.heap.size + 1 + 1, 0, none⟩) 2 0 1 ⟨[false, false], [], [⟨2 * P + 1, 2⟩]⟩ :=
    ⟨row_two tells_bool (fun _ _ _ _ _ h => atV_bool.1 h) (hk9 1 _ _ rfl) (c0 := [.bool false]) (c1 := [.bool false]) rfl rfl rfl (by show _ < _; omega), Arr.nil_, row_one tells_fracJ (fun _ _ _ _ _ h => atV_fracJ h) (hk9 2 _ _ rfl) ⟨rfl, (show I64 (2 * P + 1) by unfold I64; omega), (show I64 2 by unfold I64; omega)⟩ (by show _ < _; omega), by decide, by decide, by decide⟩
  have hT2 : Calls Tryz.prog 6 #[.agg #[.slice none 0 0, .slice (some ⟨w.heap.size, 0, none⟩) 1 1, .slice A7 2 c7, .slice (some ⟨w.heap.size + 1 + 1 + 1, 0, none⟩) 2 2], .agg #[.slice (some ⟨w8.heap.size + 1, 0, none⟩) 2 2, .slice none 0 0, .slice (some ⟨w8.heap.size + 1 + 1, 0, none⟩) 1 1]] Y9 fun e w' => e = .returned (.tuple #[.bool (!b), .agg #[.int .i64 0, .int .i64 0]]) ∧ Below Y9.heap.size Y9 w' :=
    (holds_any none (some ⟨w.heap.size, 0, none⟩) A7 (some ⟨w.heap.size + 1 + 1 + 1, 0, none⟩) 0 0 1 1 2 c7 2 2 (some ⟨w8.heap.size + 1, 0, none⟩) none (some ⟨w8.heap.size + 1 + 1, 0, none⟩) 2 2 0 0 1 1 (gapForm P b) ⟨[false, false], [], [⟨2 * P + 1, 2⟩]⟩ Y9 (hF8.below hb9 hb9.size) hM9 (Nat.le_refl _)).mono fun e w' h => ⟨by
      rw [h.1, gap_holds ⟨hP0, hP1⟩], h.2⟩
  have HT2 := Lib.hid hT2
  have HY9 := Lib.hid hY9
  have H9 := Lib.hid (And.intro hb9 (And.intro (hk9 0 _ _ rfl) hb80))
  have zY9 : w8.heap.size + 4 = Y9.heap.size := hs9.symm
  have kG9 : Blk Y9 (w.heap.size + 1 + 1 + 1 + 1) 27 _ := kG8.below hb9 kG8.lt
  have kM9 : Blk Y9 (w8.heap.size + 1 + 1 + 1) 31 #[.slice (some ⟨w8.heap.size + 1, 0, none⟩) 2 2, .slice none 0 0, .slice (some ⟨w8.heap.size + 1 + 1, 0, none⟩) 1 1] := hk9 3 _ _ rfl
  have y0 : Y9.cell? ⟨w.heap.size + 1 + 1 + 1 + 1, 0, none⟩ = some (.slice none 0 0) := kG9.cell 0
  have y1 : Y9.cell? ⟨w.heap.size + 1 + 1 + 1 + 1, 1, none⟩ = some (.slice (some ⟨w.heap.size, 0, none⟩) 1 1) := kG9.cell 1
  have y2 : Y9.cell? ⟨w.heap.size + 1 + 1 + 1 + 1, 2, none⟩ = some (.slice A7 2 c7) := kG9.cell 2
  have y3 : Y9.cell? ⟨w.heap.size + 1 + 1 + 1 + 1, 3, none⟩ = some (.slice (some ⟨w.heap.size + 1 + 1 + 1, 0, none⟩) 2 2) := kG9.cell 3
  have m0 : Y9.cell? ⟨w8.heap.size + 1 + 1 + 1, 0, none⟩ = some (.slice (some ⟨w8.heap.size + 1, 0, none⟩) 2 2) := kM9.cell 0
  have m1 : Y9.cell? ⟨w8.heap.size + 1 + 1 + 1, 1, none⟩ = some (.slice none 0 0) := kM9.cell 1
  have m2 : Y9.cell? ⟨w8.heap.size + 1 + 1 + 1, 2, none⟩ = some (.slice (some ⟨w8.heap.size + 1 + 1, 0, none⟩) 1 1) := kM9.cell 2
  have zG9 := kG9.lt
  have zM9 := kM9.lt
  clear hT2 hY9 hb9 hk9 hs9 hb80 hF8 kG8 hbZ8 hb8 HT1 HY8 H8 HF g0 g1 g2 g3 hM9 kG9 kM9
  go_upto_region 7 with fail
  rw [HY9.out]
  clear h0 h1 h2 h3
  go_wp2_with fail
  refine HT2.out.mono ?_
  rintro e w5 ⟨rfl, hb5⟩
  have kf : Blk w5 w8.heap.size 33 #[.int .i64 0, .int .i64 0] := H9.out.2.1.below hb5 (by omega)
  have d0 : w5.cell? ⟨w8.heap.size, 0, none⟩ = some (.int .i64 0) := kf.cell 0
  have zd : w8.heap.size < w5.heap.size := kf.lt
  have hb50 : Below w.heap.size w w5 := H9.out.2.2.trans ((H9.out.1.trans (hb5.mono (by omega))).mono H9.out.2.2.size)
  have HB5 := Lib.hid hb50
  clear hb50 hb5 kf HT2 HY9 H9 H y0 y1 y2 y3 m0 m1 m2
  cases b
  all_goals
    go_wp2_with fail
    refine (judgeSure_any _).mono ?_
    rintro e w4 ⟨rfl, hb4⟩
    have HB4 := Lib.hid hb4
    clear hb4
    go_wp2_with fail
    go_ret
    exact ⟨rfl, (HB5.out.alloc HB5.out.size _).trans (HB4.out.mono (by have := HB5.out.size; simp; omega))⟩
end Go.Proofs.YtfogiljgecmakaaGreat
