/- Walk: the law JudgeRows (printed by genJuB2.py). -/
import Derived.Test.YthjfiomcpihlaaaJuTS
import Derived.Test.YthjfiomcpihlaaaJuPB
import Derived.Test.YthjfiomcpihlaaaKitAB
namespace Go.Proofs.Ythjfiomcpihlaaa
open Go.RowKit

def VFracJ : Val FracD := fun _ _ cs x => cs = [.int .i64 x.num, .int .i64 x.den] ∧ I64 x.num ∧ I64 x.den
theorem tells_fracJ : Tells VFracJ 2 := ⟨fun _ _ _ _ _ _ _ _ h => h, fun _ _ _ _ h => by rw [h.1]; rfl, fun _ _ _ _ h u hu => by rw [h.1] at hu; simp only [List.mem_cons, List.not_mem_nil, or_false] at hu; rcases hu with rfl | rfl <;> rfl⟩
theorem atV_fracJ {w : World} {S : Nat → Prop} {b o : Nat} {x : FracD} (h : AtV VFracJ w S b o x) : AtFrac w S b o x := by
  obtain ⟨cs, ⟨rfl, i1, i2⟩, hc⟩ := h
  exact ⟨⟨hc 0 _ rfl, i1⟩, hc 1 _ rfl, i2⟩
/-- a new atom with a row of one number: what an append is to know -/
theorem atom_made {e : TypeId} {W0 wr : World} {G : Nat} {v : Value} {xs : List AtomD} {x p : Int} (hout : Out VAtom e 6 W0 wr G v xs) (hx : I64 x) (hp : I64 p) {t t' : TypeId} {c1 c2 : Array Value} (h1 : c1 = #[.int .i64 x]) (h2 : c2 = #[.int .i64 3, .int .i64 0, .int .i64 0, .slice (some ⟨wr.heap.size, 0, none⟩) 1 1, .int .i64 1, .int .i64 p]) {Y : World} (hY : (wr.alloc (.cells c1 t)).alloc (.cells c2 t') = Y) :
    Below wr.heap.size wr Y ∧ Out VAtom e 6 W0 Y G v xs ∧ Blk Y (wr.heap.size + 1) t' c2 ∧ VAtom Y (SO W0.heap.size Y v) c2.toList ⟨3, 0, 0, ⟨[x], 1, p⟩⟩ ∧ Y.heap.size = wr.heap.size + 2 := by
  subst h1 h2
  obtain ⟨hb, hk1, hk2, hs⟩ := two_boxes wr t t' #[.int .i64 x] #[.int .i64 3, .int .i64 0, .int .i64 0, .slice (some ⟨wr.heap.size, 0, none⟩) 1 1, .int .i64 1, .int .i64 p]
  rw [hY] at hb hk1 hk2 hs
  have hlt := hout.own.lt
  have hz := hout.only.size
  refine ⟨hb, hout.step tells_atom hb, hk2, ⟨some ⟨wr.heap.size, 0, none⟩, 1, 1, rfl, ⟨(show I64 3 from i64_small (by omega)), i64_0, i64_0, i64_1, hp⟩, Nat.le_refl _, by decide, ?_⟩, hs⟩
  exact row_ints (xs := [x]) hk1 rfl (by intro y hy; rw [List.mem_singleton] at hy; subst hy; exact hx) ⟨hz, by omega, fun e => by have := (hlt _ e).2; omega⟩

theorem rowsSteps_laid {w : World} {B g1 g2 g3 : Nat} {t1 t2 t3 : TypeId} {k m : Int} (hk : I64 k) (hm : I64 m) (h1 : Blk w g1 t1 #[.int .i64 (-1), .int .i64 (-2)]) (h2 : Blk w g2 t2 #[.int .i64 k, .int .i64 1, .int .i64 m, .int .i64 1])
    (h3 : Blk w g3 t3 #[.int .i64 4, .slice (some ⟨g1, 0, none⟩) 2 2, .slice (some ⟨g2, 0, none⟩) 2 2, .int .i64 0, .int .i64 0, .int .i64 0, .slice none 0 0, .int .i64 0, .int .i64 0, .int .i64 1, .slice none 0 0, .slice none 0 0, .int .i64 0, .int .i64 0, .int .i64 0, .slice none 0 0, .int .i64 0, .int .i64 0])
    (b1 : g1 < B) (b2 : g2 < B) (b3 : g3 < B) : ArrB AtStep 9 w B (some ⟨g3, 0, none⟩) 2 (rowsSteps k m) := by
  have hi : IntsB w B (some ⟨g1, 0, none⟩) 2 [-1, -2] := row_ints (xs := [-1, -2]) h1 rfl (by intro y hy; simp only [List.mem_cons, List.not_mem_nil, or_false] at hy; rcases hy with rfl | rfl <;> exact i64_small (by omega)) b1
  have hf : ArrB AtFrac 2 w B (some ⟨g2, 0, none⟩) 2 [⟨k, 1⟩, ⟨m, 1⟩] := row_two tells_fracJ (fun _ _ _ _ _ h => atV_fracJ h) h2 (c0 := [.int .i64 k, .int .i64 1]) (c1 := [.int .i64 m, .int .i64 1]) rfl ⟨rfl, hk, i64_1⟩ ⟨rfl, hm, i64_1⟩ b2
  exact row_two tells_step (fun _ _ _ _ _ h => atV_step h) h3 (c0 := [.int .i64 4, .slice (some ⟨g1, 0, none⟩) 2 2, .slice (some ⟨g2, 0, none⟩) 2 2, .int .i64 0, .int .i64 0, .int .i64 0, .slice none 0 0, .int .i64 0, .int .i64 0]) (c1 := [.int .i64 1, .slice none 0 0, .slice none 0 0, .int .i64 0, .int .i64 0, .int .i64 0, .slice none 0 0, .int .i64 0, .int .i64 0]) rfl
    (vstep_plain (i64_small (by omega)) (Nat.le_refl _) (by decide) (Nat.le_refl _) (by decide) hi hf) (vstep_plain i64_1 (Nat.le_refl _) (Nat.zero_le _) (Nat.le_refl _) (Nat.zero_le _) Arr.nil_ Arr.nil_) b3

set_option maxRecDepth 100000 in
set_option maxHeartbeats 8000000 in
theorem judgeRows_any (a b m : Int) (w : World) (ha : I64 a) (hb : I64 b) (hm : I64 m) :
    Calls Try.prog 8 #[.int .i64 a, .int .i64 b, .int .i64 m] w fun e w' => e = .returned (.bool true) ∧ Below w.heap.size w w' := by
  obtain ⟨X, hX⟩ : ∃ X, (((((w.alloc (.cells #[.bool false] 4)).alloc (.cells #[.int .i64 1] 3)).alloc (.cells #[.int .i64 2] 3)).alloc (.cells #[.slice (some ⟨w.heap.size + 1, 0, none⟩) 1 1, .slice (some ⟨w.heap.size + 1 + 1, 0, none⟩) 1 1] 31)).alloc (.cells #[.slice none 0 0, .slice (some ⟨w.heap.size, 0, none⟩) 1 1, .slice none 0 0, .slice (some ⟨w.heap.size + 1 + 1 + 1, 0, none⟩) 2 2] 27)) = X := ⟨_, rfl⟩
  have hs := lay_size [(4, #[.bool false]), (3, #[.int .i64 1]), (3, #[.int .i64 2]), (31, #[.slice (some ⟨w.heap.size + 1, 0, none⟩) 1 1, .slice (some ⟨w.heap.size + 1 + 1, 0, none⟩) 1 1]), (27, #[.slice none 0 0, .slice (some ⟨w.heap.size, 0, none⟩) 1 1, .slice none 0 0, .slice (some ⟨w.heap.size + 1 + 1 + 1, 0, none⟩) 2 2])] w
  have hbw := lay_below [(4, #[.bool false]), (3, #[.int .i64 1]), (3, #[.int .i64 2]), (31, #[.slice (some ⟨w.heap.size + 1, 0, none⟩) 1 1, .slice (some ⟨w.heap.size + 1 + 1, 0, none⟩) 1 1]), (27, #[.slice none 0 0, .slice (some ⟨w.heap.size, 0, none⟩) 1 1, .slice none 0 0, .slice (some ⟨w.heap.size + 1 + 1 + 1, 0, none⟩) 2 2])] w
  have hk := fun i t c h => lay_blk [(4, #[.bool false]), (3, #[.int .i64 1]), (3, #[.int .i64 2]), (31, #[.slice (some ⟨w.heap.size + 1, 0, none⟩) 1 1, .slice (some ⟨w.heap.size + 1 + 1, 0, none⟩) 1 1]), (27, #[.slice none 0 0, .slice (some ⟨w.heap.size, 0, none⟩) 1 1, .slice none 0 0, .slice (some ⟨w.heap.size + 1 + 1 + 1, 0, none⟩) 2 2])] w i t c h
  rw [show lay w [(4, #[.bool false]), (3, #[.int .i64 1]), (3, #[.int .i64 2]), (31, #[.slice (some ⟨w.heap.size + 1, 0, none⟩) 1 1, .slice (some ⟨w.heap.size + 1 + 1, 0, none⟩) 1 1]), (27, #[.slice none 0 0, .slice (some ⟨w.heap.size, 0, none⟩) 1 1, .slice none 0 0, .slice (some ⟨w.heap.size + 1 + 1 + 1, 0, none⟩) 2 2])] = X from hX] at hs hbw hk
  simp only [List.length_cons, List.length_nil] at hs
  have hI : ArrB AtBool 1 X (w.heap.size + 1 + 1 + 1 + 1) (some ⟨w.heap.size, 0, none⟩) 1 [false] := row_one tells_bool (fun _ _ _ _ _ h => atV_bool.1 h) (hk 0 _ _ rfl) rfl (by show _ < _; omega)
  have hC : ArrB (AtArr AtInt 1) 1 X (w.heap.size + 1 + 1 + 1 + 1) (some ⟨w.heap.size + 1 + 1 + 1, 0, none⟩) 2 [[1], [2]] := row_two (tells_arr stays_int) atArr_of (hk 3 _ _ rfl) (c0 := [.slice (some ⟨w.heap.size + 1, 0, none⟩) 1 1]) (c1 := [.slice (some ⟨w.heap.size + 1 + 1, 0, none⟩) 1 1]) rfl
      (varr_of (row_ints (xs := [1]) (hk 1 _ _ rfl) rfl (by intro x hx; rw [List.mem_singleton] at hx; subst hx; exact i64_1) (by show _ < _; omega)) (Nat.le_refl _) (by decide)) (varr_of (row_ints (xs := [2]) (hk 2 _ _ rfl) rfl (by intro x hx; rw [List.mem_singleton] at hx; subst hx; exact i64_small (by omega)) (by show _ < _; omega)) (Nat.le_refl _) (by decide)) (by show _ < _; omega)
  have hG : Blk X (w.heap.size + 1 + 1 + 1 + 1) 27 #[.slice none 0 0, .slice (some ⟨w.heap.size, 0, none⟩) 1 1, .slice none 0 0, .slice (some ⟨w.heap.size + 1 + 1 + 1, 0, none⟩) 2 2] := hk 4 _ _ rfl
  have HX := Lib.hid hX
  have H := Lib.hid (And.intro hbw (And.intro hI (And.intro hC hG)))
  have hsX : w.heap.size + 5 = X.heap.size := hs.symm
  clear hX hs hbw hk hI hC hG
  go_enter Try.func8, Try.ntmps8
  go_wp2_with fail
  refine (picked_in a 200 _ ha (by omega) (by omega)).mono ?_
  rintro e w9 ⟨p, rfl, rfl, p0, p1⟩
  go_wp2_with fail
  refine (picked_in b 200 _ hb (by omega) (by omega)).mono ?_
  rintro e w9 ⟨q, rfl, rfl, q0, q1⟩
  go_wp2_with fail
  refine (picked_in m 50 _ hm (by omega) (by omega)).mono ?_
  rintro e w9 ⟨r, rfl, rfl, r0, r1⟩
  clear ha hb hm
  go_upto_region 5 with fail
  rw [HX.out]
  clear HX
  generalize hP : p - 100 = P
  generalize hQ : q - 100 = Q
  generalize hK : 1 + r = k
  have hPb : -100 ≤ P ∧ P ≤ 100 := by omega
  have hQb : -100 ≤ Q ∧ Q ≤ 100 := by omega
  have hKb : 1 ≤ k ∧ k ≤ 50 := by omega
  clear hP hQ hK p0 p1 q0 q1 r0 r1
  have HO0 : Hid (Out VAtom 35 6 X X (w.heap.size + 1 + 1 + 1 + 1) (.slice none 0 0) [] ∧ Blk X (w.heap.size + 1 + 1 + 1 + 1) 27 #[.slice none 0 0, .slice (some ⟨w.heap.size, 0, none⟩) 1 1, .slice none 0 0, .slice (some ⟨w.heap.size + 1 + 1 + 1, 0, none⟩) 2 2]) := ⟨Out.start VAtom 35 6 X (by omega), H.out.2.2.2⟩
  have hmade := atom_made (t := 3) (t' := 35) HO0.out.1 (show I64 1 from i64_small (by omega)) (show I64 P from i64_small (by omega)) rfl rfl (rfl : ((X.alloc (.cells #[.int .i64 1] 3)).alloc (.cells #[.int .i64 3, .int .i64 0, .int .i64 0, .slice (some ⟨X.heap.size, 0, none⟩) 1 1, .int .i64 1, .int .i64 P] 35)) = ((X.alloc (.cells #[.int .i64 1] 3)).alloc (.cells #[.int .i64 3, .int .i64 0, .int .i64 0, .slice (some ⟨X.heap.size, 0, none⟩) 1 1, .int .i64 1, .int .i64 P] 35)))
  have hgf : Blk ((X.alloc (.cells #[.int .i64 1] 3)).alloc (.cells #[.int .i64 3, .int .i64 0, .int .i64 0, .slice (some ⟨X.heap.size, 0, none⟩) 1 1, .int .i64 1, .int .i64 P] 35)) (w.heap.size + 1 + 1 + 1 + 1) 27 #[.slice none 0 0, .slice (some ⟨w.heap.size, 0, none⟩) 1 1, .slice none 0 0, .slice (some ⟨w.heap.size + 1 + 1 + 1, 0, none⟩) 2 2] := HO0.out.2.below hmade.1 HO0.out.2.lt
  have HMa := Lib.hid (And.intro hmade hgf)
  have u0 : X.cell? ⟨w.heap.size + 1 + 1 + 1 + 1, 2, none⟩ = some (.slice none 0 0) := HO0.out.2.cell 2
  have za : w.heap.size + 1 + 1 + 1 + 1 < X.heap.size := HO0.out.2.lt
  have zya : X.heap.size ≤ X.heap.size := HO0.out.1.only.size
  have HLTa := Lib.hid HO0.out.1.own.lt
  clear hmade hgf
  go_upto_region 6 with (at_builtin; go_loud (refine wpList_append_item rfl _ _ _ rfl rowAtoms tells_atom (v := .slice none 0 0) (xs := ([] : List AtomD)) (base := X.heap.size) (S := SO X.heap.size ((X.alloc (.cells #[.int .i64 1] 3)).alloc (.cells #[.int .i64 3, .int .i64 0, .int .i64 0, .slice (some ⟨X.heap.size, 0, none⟩) 1 1, .int .i64 1, .int .i64 P] 35)) (.slice none 0 0)) rfl HMa.out.1.2.1.own (g := X.heap.size + 1) (cs := #[.int .i64 3, .int .i64 0, .int .i64 0, .slice (some ⟨X.heap.size, 0, none⟩) 1 1, .int .i64 1, .int .i64 P]) rfl HMa.out.1.2.2.1 (y := ⟨3, 0, 0, ⟨[1], 1, P⟩⟩) HMa.out.1.2.2.2.1 (fun b h => ⟨h.2.1, h.2.2⟩) (by show 0 + 1 ≤ maxLen; decide) (by show (0 + 1) * 64 ≤ 140737488355328; decide) (by rw [HMa.out.1.2.2.2.2]; omega) ?_); intro v' w6 hown6 hgrow6 hat6; obtain ⟨A6, c6, rfl, hc6, hc6m⟩ := hown6.len; (have hl6 : ((([] : List AtomD) : List AtomD) ++ [(⟨3, 0, 0, ⟨[1], 1, P⟩⟩ : AtomD)]).length = 1 := rfl); rw [hl6] at hown6 hat6 hc6 ⊢; (have hgb6 : Blk w6 (w.heap.size + 1 + 1 + 1 + 1) 27 #[.slice none 0 0, .slice (some ⟨w.heap.size, 0, none⟩) 1 1, .slice none 0 0, .slice (some ⟨w.heap.size + 1 + 1 + 1, 0, none⟩) 2 2] := HMa.out.2.grown hgrow6 (fun e => by have := (HLTa.out _ e.symm).1; omega)); (have u6 : w6.cell? ⟨w.heap.size + 1 + 1 + 1 + 1, 2, none⟩ = some (.slice none 0 0) := hgb6.cell 2); (have f6 : w6.frozen? ⟨w.heap.size + 1 + 1 + 1 + 1, 2, none⟩ = false := hgb6.frozen 2); (have z6 : w.heap.size + 1 + 1 + 1 + 1 < w6.heap.size := hgb6.lt); (have HB6 := Lib.hid (And.intro hgb6 (And.intro hown6 (And.intro hgrow6 hat6)))); clear hgb6 hown6 hgrow6 hat6 hl6)
  obtain ⟨Z1, hZ⟩ : ∃ Z, w6.setCell ⟨w.heap.size + 1 + 1 + 1 + 1, 2, none⟩ (.slice A6 1 c6) = Z := ⟨_, rfl⟩
  have HO1 : Hid (Out VAtom 35 6 X Z1 (w.heap.size + 1 + 1 + 1 + 1) (.slice A6 1 c6) [⟨3, 0, 0, ⟨[1], 1, P⟩⟩] ∧ Blk Z1 (w.heap.size + 1 + 1 + 1 + 1) 27 #[.slice none 0 0, .slice (some ⟨w.heap.size, 0, none⟩) 1 1, .slice A6 1 c6, .slice (some ⟨w.heap.size + 1 + 1 + 1, 0, none⟩) 2 2]) := by
    rw [← hZ]
    exact ⟨Out.push tells_atom HMa.out.1.2.1 HB6.out.2.1 HB6.out.2.2.1 HB6.out.2.2.2 2 _, HB6.out.1.set_ 2 _⟩
  rw [hZ]
  have HCa := Lib.hid (And.intro hc6 hc6m)
  clear hZ HB6 u6 f6 z6 u0 za HMa HLTa hc6 hc6m
  have hmade := atom_made (t := 3) (t' := 35) HO1.out.1 (show I64 (-1) from i64_small (by omega)) (show I64 Q from i64_small (by omega)) rfl rfl (rfl : ((Z1.alloc (.cells #[.int .i64 (-1)] 3)).alloc (.cells #[.int .i64 3, .int .i64 0, .int .i64 0, .slice (some ⟨Z1.heap.size, 0, none⟩) 1 1, .int .i64 1, .int .i64 Q] 35)) = ((Z1.alloc (.cells #[.int .i64 (-1)] 3)).alloc (.cells #[.int .i64 3, .int .i64 0, .int .i64 0, .slice (some ⟨Z1.heap.size, 0, none⟩) 1 1, .int .i64 1, .int .i64 Q] 35)))
  have hgf : Blk ((Z1.alloc (.cells #[.int .i64 (-1)] 3)).alloc (.cells #[.int .i64 3, .int .i64 0, .int .i64 0, .slice (some ⟨Z1.heap.size, 0, none⟩) 1 1, .int .i64 1, .int .i64 Q] 35)) (w.heap.size + 1 + 1 + 1 + 1) 27 #[.slice none 0 0, .slice (some ⟨w.heap.size, 0, none⟩) 1 1, .slice A6 1 c6, .slice (some ⟨w.heap.size + 1 + 1 + 1, 0, none⟩) 2 2] := HO1.out.2.below hmade.1 HO1.out.2.lt
  have HMb := Lib.hid (And.intro hmade hgf)
  have u0 : Z1.cell? ⟨w.heap.size + 1 + 1 + 1 + 1, 2, none⟩ = some (.slice A6 1 c6) := HO1.out.2.cell 2
  have zb : w.heap.size + 1 + 1 + 1 + 1 < Z1.heap.size := HO1.out.2.lt
  have zyb : X.heap.size ≤ Z1.heap.size := HO1.out.1.only.size
  have HLTb := Lib.hid HO1.out.1.own.lt
  clear hmade hgf
  go_upto_region 7 with (at_builtin; go_loud (refine wpList_append_item rfl _ _ _ rfl rowAtoms tells_atom (v := .slice A6 1 c6) (xs := [⟨3, 0, 0, ⟨[1], 1, P⟩⟩]) (base := X.heap.size) (S := SO X.heap.size ((Z1.alloc (.cells #[.int .i64 (-1)] 3)).alloc (.cells #[.int .i64 3, .int .i64 0, .int .i64 0, .slice (some ⟨Z1.heap.size, 0, none⟩) 1 1, .int .i64 1, .int .i64 Q] 35)) (.slice A6 1 c6)) rfl HMb.out.1.2.1.own (g := Z1.heap.size + 1) (cs := #[.int .i64 3, .int .i64 0, .int .i64 0, .slice (some ⟨Z1.heap.size, 0, none⟩) 1 1, .int .i64 1, .int .i64 Q]) rfl HMb.out.1.2.2.1 (y := ⟨3, 0, 0, ⟨[-1], 1, Q⟩⟩) HMb.out.1.2.2.2.1 (fun b h => ⟨h.2.1, h.2.2⟩) (by show 1 + 1 ≤ maxLen; decide) (by show (1 + 1) * 64 ≤ 140737488355328; decide) (by rw [HMb.out.1.2.2.2.2]; omega) ?_); intro v' w6 hown6 hgrow6 hat6; obtain ⟨A7, c7, rfl, hc6, hc6m⟩ := hown6.len; (have hl6 : (([⟨3, 0, 0, ⟨[1], 1, P⟩⟩] : List AtomD) ++ [(⟨3, 0, 0, ⟨[-1], 1, Q⟩⟩ : AtomD)]).length = 2 := rfl); rw [hl6] at hown6 hat6 hc6 ⊢; (have hgb6 : Blk w6 (w.heap.size + 1 + 1 + 1 + 1) 27 #[.slice none 0 0, .slice (some ⟨w.heap.size, 0, none⟩) 1 1, .slice A6 1 c6, .slice (some ⟨w.heap.size + 1 + 1 + 1, 0, none⟩) 2 2] := HMb.out.2.grown hgrow6 (fun e => by have := (HLTb.out _ e.symm).1; omega)); (have u6 : w6.cell? ⟨w.heap.size + 1 + 1 + 1 + 1, 2, none⟩ = some (.slice A6 1 c6) := hgb6.cell 2); (have f6 : w6.frozen? ⟨w.heap.size + 1 + 1 + 1 + 1, 2, none⟩ = false := hgb6.frozen 2); (have z6 : w.heap.size + 1 + 1 + 1 + 1 < w6.heap.size := hgb6.lt); (have HB6 := Lib.hid (And.intro hgb6 (And.intro hown6 (And.intro hgrow6 hat6)))); clear hgb6 hown6 hgrow6 hat6 hl6)
  obtain ⟨Z2, hZ⟩ : ∃ Z, w6.setCell ⟨w.heap.size + 1 + 1 + 1 + 1, 2, none⟩ (.slice A7 2 c7) = Z := ⟨_, rfl⟩
  have HO2 : Hid (Out VAtom 35 6 X Z2 (w.heap.size + 1 + 1 + 1 + 1) (.slice A7 2 c7) [⟨3, 0, 0, ⟨[1], 1, P⟩⟩, ⟨3, 0, 0, ⟨[-1], 1, Q⟩⟩] ∧ Blk Z2 (w.heap.size + 1 + 1 + 1 + 1) 27 #[.slice none 0 0, .slice (some ⟨w.heap.size, 0, none⟩) 1 1, .slice A7 2 c7, .slice (some ⟨w.heap.size + 1 + 1 + 1, 0, none⟩) 2 2]) := by
    rw [← hZ]
    exact ⟨Out.push tells_atom HMb.out.1.2.1 HB6.out.2.1 HB6.out.2.2.1 HB6.out.2.2.2 2 _, HB6.out.1.set_ 2 _⟩
  rw [hZ]
  have HCb := Lib.hid (And.intro hc6 hc6m)
  clear hZ HB6 u6 f6 z6 u0 zb HMb HLTb hc6 hc6m
  obtain ⟨A8, c8, e8, hc8, hc8m, hat⟩ := HO2.out.1.done tells_atom (E := AtAtom) (fun _ _ _ _ _ h => atV_atom h)
  injection e8 with e1 e2 e3
  subst e1 e3
  have hgX := HO2.out.1.only
  have hzX := hgX.size
  have hFZ : FormB Z2 Z2.heap.size none (some ⟨w.heap.size, 0, none⟩) A7 (some ⟨w.heap.size + 1 + 1 + 1, 0, none⟩) 0 1 2 2 (rowsForm P Q) := ⟨Arr.nil_, H.out.2.1.keep stays_bool (fun b hb => by omega) (fun b o hb => only_cell hgX (by omega) (by intro e; injection e with e; omega)), hat.keep stays_atom (fun b hb => hb.2) (fun _ _ _ => rfl), H.out.2.2.1.keep (stays_arr stays_int) (fun b hb => by omega) (fun b o hb => only_cell hgX (by omega) (by intro e; injection e with e; omega)), by decide, by decide, by decide, by decide⟩
  have hbZ : Below w.heap.size w Z2 := below_then H.out.1 hgX (by omega) (fun x hx => by injection hx; omega)
  have hkG := HO2.out.2
  have HF := Lib.hid (And.intro hFZ (And.intro hbZ (And.intro hkG (And.intro hc8 hc8m))))
  have g0 : Z2.cell? ⟨w.heap.size + 1 + 1 + 1 + 1, 0, none⟩ = some (.slice none 0 0) := hkG.cell 0
  have g1 : Z2.cell? ⟨w.heap.size + 1 + 1 + 1 + 1, 1, none⟩ = some (.slice (some ⟨w.heap.size, 0, none⟩) 1 1) := hkG.cell 1
  have g2 : Z2.cell? ⟨w.heap.size + 1 + 1 + 1 + 1, 2, none⟩ = some (.slice A7 2 c7) := hkG.cell 2
  have g3 : Z2.cell? ⟨w.heap.size + 1 + 1 + 1 + 1, 3, none⟩ = some (.slice (some ⟨w.heap.size + 1 + 1 + 1, 0, none⟩) 2 2) := hkG.cell 3
  have zZ : w.heap.size + 1 + 1 + 1 + 1 < Z2.heap.size := hkG.lt
  clear hat e2 hc8 hc8m hFZ hbZ hkG hgX HO0 HO1 HO2 HCa HCb zya zyb hzX
  obtain ⟨Y8, hY8⟩ : ∃ Y, ((((Z2.alloc (.cells #[.int .i64 k, .int .i64 1] 60)).alloc (.cells #[.int .i64 (-1), .int .i64 (-2)] 3)).alloc (.cells #[.int .i64 k, .int .i64 1, .int .i64 k, .int .i64 1] 60)).alloc (.cells #[.int .i64 4, .slice (some ⟨Z2.heap.size + 1, 0, none⟩) 2 2, .slice (some ⟨Z2.heap.size + 1 + 1, 0, none⟩) 2 2, .int .i64 0, .int .i64 0, .int .i64 0, .slice none 0 0, .int .i64 0, .int .i64 0, .int .i64 1, .slice none 0 0, .slice none 0 0, .int .i64 0, .int .i64 0, .int .i64 0, .slice none 0 0, .int .i64 0, .int .i64 0] 47)) = Y := ⟨_, rfl⟩
  have hs8 := lay_size [(60, #[.int .i64 k, .int .i64 1]), (3, #[.int .i64 (-1), .int .i64 (-2)]), (60, #[.int .i64 k, .int .i64 1, .int .i64 k, .int .i64 1]), (47, #[.int .i64 4, .slice (some ⟨Z2.heap.size + 1, 0, none⟩) 2 2, .slice (some ⟨Z2.heap.size + 1 + 1, 0, none⟩) 2 2, .int .i64 0, .int .i64 0, .int .i64 0, .slice none 0 0, .int .i64 0, .int .i64 0, .int .i64 1, .slice none 0 0, .slice none 0 0, .int .i64 0, .int .i64 0, .int .i64 0, .slice none 0 0, .int .i64 0, .int .i64 0])] Z2
  have hb8 := lay_below [(60, #[.int .i64 k, .int .i64 1]), (3, #[.int .i64 (-1), .int .i64 (-2)]), (60, #[.int .i64 k, .int .i64 1, .int .i64 k, .int .i64 1]), (47, #[.int .i64 4, .slice (some ⟨Z2.heap.size + 1, 0, none⟩) 2 2, .slice (some ⟨Z2.heap.size + 1 + 1, 0, none⟩) 2 2, .int .i64 0, .int .i64 0, .int .i64 0, .slice none 0 0, .int .i64 0, .int .i64 0, .int .i64 1, .slice none 0 0, .slice none 0 0, .int .i64 0, .int .i64 0, .int .i64 0, .slice none 0 0, .int .i64 0, .int .i64 0])] Z2
  have hk8 := fun i t c h => lay_blk [(60, #[.int .i64 k, .int .i64 1]), (3, #[.int .i64 (-1), .int .i64 (-2)]), (60, #[.int .i64 k, .int .i64 1, .int .i64 k, .int .i64 1]), (47, #[.int .i64 4, .slice (some ⟨Z2.heap.size + 1, 0, none⟩) 2 2, .slice (some ⟨Z2.heap.size + 1 + 1, 0, none⟩) 2 2, .int .i64 0, .int .i64 0, .int .i64 0, .slice none 0 0, .int .i64 0, .int .i64 0, .int .i64 1, .slice none 0 0, .slice none 0 0, .int .i64 0, .int .i64 0, .int .i64 0, .slice none 0 0, .int .i64 0, .int .i64 0])] Z2 i t c h
  rw [show lay Z2 [(60, #[.int .i64 k, .int .i64 1]), (3, #[.int .i64 (-1), .int .i64 (-2)]), (60, #[.int .i64 k, .int .i64 1, .int .i64 k, .int .i64 1]), (47, #[.int .i64 4, .slice (some ⟨Z2.heap.size + 1, 0, none⟩) 2 2, .slice (some ⟨Z2.heap.size + 1 + 1, 0, none⟩) 2 2, .int .i64 0, .int .i64 0, .int .i64 0, .slice none 0 0, .int .i64 0, .int .i64 0, .int .i64 1, .slice none 0 0, .slice none 0 0, .int .i64 0, .int .i64 0, .int .i64 0, .slice none 0 0, .int .i64 0, .int .i64 0])] = Y8 from hY8] at hs8 hb8 hk8
  simp only [List.length_cons, List.length_nil] at hs8
  have hst := rowsSteps_laid (B := Y8.heap.size) (k := k) (m := k) (by unfold I64; omega) (by unfold I64; omega) (hk8 1 _ _ rfl) (hk8 2 _ _ rfl) (hk8 3 _ _ rfl) (by omega) (by omega) (by omega)
  have hT1 : Calls Try.prog 19 #[.agg #[.slice none 0 0, .slice (some ⟨w.heap.size, 0, none⟩) 1 1, .slice A7 2 c7, .slice (some ⟨w.heap.size + 1 + 1 + 1, 0, none⟩) 2 2], .slice (some ⟨Z2.heap.size + 1 + 1 + 1, 0, none⟩) 2 2] Y8 fun e w' => e = .returned (.tuple #[.bool (decide (P + Q < 0)), .agg #[.int .i64 0, .int .i64 0]]) ∧ Below Y8.heap.size Y8 w' :=
    (take_any none (some ⟨w.heap.size, 0, none⟩) A7 (some ⟨w.heap.size + 1 + 1 + 1, 0, none⟩) 0 0 1 1 2 c7 2 2 (rowsForm P Q) (some ⟨Z2.heap.size + 1 + 1 + 1, 0, none⟩) 2 2 (rowsSteps k k) _ 0 0 Y8 (HF.out.1.below hb8 hb8.size) (Nat.le_refl _) HF.out.2.2.2.1 HF.out.2.2.2.2 hst (rows_law hPb hQb hKb (.inl rfl))).mono fun e w' h => ⟨by
      rw [h.1]
      by_cases hs : P + Q < 0
      · rw [if_pos ⟨rfl, hs⟩, decide_eq_true hs]; rfl
      · rw [if_neg (fun e => hs e.2), decide_eq_false hs]; rfl, h.2⟩
  have HT1 := Lib.hid hT1
  have HY8 := Lib.hid hY8
  have H8 := Lib.hid (And.intro hb8 (hk8 0 _ _ rfl))
  have zY8 : Z2.heap.size + 4 = Y8.heap.size := hs8.symm
  clear hT1 hY8 hb8 hk8 hst hs8
  go_upto_region 7 with fail
  go_wp2_with fail
  rw [HY8.out]
  refine HT1.out.mono ?_
  rintro e w8 ⟨rfl, hb8⟩
  have hbZ8 : Below Z2.heap.size Z2 w8 := H8.out.1.trans (hb8.mono H8.out.1.size)
  have kG8 : Blk w8 (w.heap.size + 1 + 1 + 1 + 1) 27 _ := HF.out.2.2.1.below hbZ8 zZ
  have kt8 : Blk w8 Z2.heap.size 60 #[.int .i64 k, .int .i64 1] := H8.out.2.below hb8 (by omega)
  have h0 : w8.cell? ⟨w.heap.size + 1 + 1 + 1 + 1, 0, none⟩ = some (.slice none 0 0) := kG8.cell 0
  have h1 : w8.cell? ⟨w.heap.size + 1 + 1 + 1 + 1, 1, none⟩ = some (.slice (some ⟨w.heap.size, 0, none⟩) 1 1) := kG8.cell 1
  have h2 : w8.cell? ⟨w.heap.size + 1 + 1 + 1 + 1, 2, none⟩ = some (.slice A7 2 c7) := kG8.cell 2
  have h3 : w8.cell? ⟨w.heap.size + 1 + 1 + 1 + 1, 3, none⟩ = some (.slice (some ⟨w.heap.size + 1 + 1 + 1, 0, none⟩) 2 2) := kG8.cell 3
  have t0 : w8.cell? ⟨Z2.heap.size, 0, none⟩ = some (.int .i64 k) := kt8.cell 0
  have t1 : w8.cell? ⟨Z2.heap.size, 1, none⟩ = some (.int .i64 1) := kt8.cell 1
  have z8 : Z2.heap.size < w8.heap.size := kt8.lt
  have zG8 : w.heap.size + 1 + 1 + 1 + 1 < w8.heap.size := kG8.lt
  have hb80 : Below w.heap.size w w8 := HF.out.2.1.trans (hbZ8.mono (by have := HF.out.2.1.size; omega))
  have hF8 := HF.out.1.below hbZ8 hbZ8.size
  obtain ⟨Y9, hY9⟩ : ∃ Y, ((((w8.alloc (.cells #[.int .i64 0, .int .i64 0] 29)).alloc (.cells #[.int .i64 (-1), .int .i64 (-2)] 3)).alloc (.cells #[.int .i64 k, .int .i64 1, .int .i64 (k + 1), .int .i64 1] 60)).alloc (.cells #[.int .i64 4, .slice (some ⟨w8.heap.size + 1, 0, none⟩) 2 2, .slice (some ⟨w8.heap.size + 1 + 1, 0, none⟩) 2 2, .int .i64 0, .int .i64 0, .int .i64 0, .slice none 0 0, .int .i64 0, .int .i64 0, .int .i64 1, .slice none 0 0, .slice none 0 0, .int .i64 0, .int .i64 0, .int .i64 0, .slice none 0 0, .int .i64 0, .int .i64 0] 47)) = Y := ⟨_, rfl⟩
  have hs9 := lay_size [(29, #[.int .i64 0, .int .i64 0]), (3, #[.int .i64 (-1), .int .i64 (-2)]), (60, #[.int .i64 k, .int .i64 1, .int .i64 (k + 1), .int .i64 1]), (47, #[.int .i64 4, .slice (some ⟨w8.heap.size + 1, 0, none⟩) 2 2, .slice (some ⟨w8.heap.size + 1 + 1, 0, none⟩) 2 2, .int .i64 0, .int .i64 0, .int .i64 0, .slice none 0 0, .int .i64 0, .int .i64 0, .int .i64 1, .slice none 0 0, .slice none 0 0, .int .i64 0, .int .i64 0, .int .i64 0, .slice none 0 0, .int .i64 0, .int .i64 0])] w8
  have hb9 := lay_below [(29, #[.int .i64 0, .int .i64 0]), (3, #[.int .i64 (-1), .int .i64 (-2)]), (60, #[.int .i64 k, .int .i64 1, .int .i64 (k + 1), .int .i64 1]), (47, #[.int .i64 4, .slice (some ⟨w8.heap.size + 1, 0, none⟩) 2 2, .slice (some ⟨w8.heap.size + 1 + 1, 0, none⟩) 2 2, .int .i64 0, .int .i64 0, .int .i64 0, .slice none 0 0, .int .i64 0, .int .i64 0, .int .i64 1, .slice none 0 0, .slice none 0 0, .int .i64 0, .int .i64 0, .int .i64 0, .slice none 0 0, .int .i64 0, .int .i64 0])] w8
  have hk9 := fun i t c h => lay_blk [(29, #[.int .i64 0, .int .i64 0]), (3, #[.int .i64 (-1), .int .i64 (-2)]), (60, #[.int .i64 k, .int .i64 1, .int .i64 (k + 1), .int .i64 1]), (47, #[.int .i64 4, .slice (some ⟨w8.heap.size + 1, 0, none⟩) 2 2, .slice (some ⟨w8.heap.size + 1 + 1, 0, none⟩) 2 2, .int .i64 0, .int .i64 0, .int .i64 0, .slice none 0 0, .int .i64 0, .int .i64 0, .int .i64 1, .slice none 0 0, .slice none 0 0, .int .i64 0, .int .i64 0, .int .i64 0, .slice none 0 0, .int .i64 0, .int .i64 0])] w8 i t c h
  rw [show lay w8 [(29, #[.int .i64 0, .int .i64 0]), (3, #[.int .i64 (-1), .int .i64 (-2)]), (60, #[.int .i64 k, .int .i64 1, .int .i64 (k + 1), .int .i64 1]), (47, #[.int .i64 4, .slice (some ⟨w8.heap.size + 1, 0, none⟩) 2 2, .slice (some ⟨w8.heap.size + 1 + 1, 0, none⟩) 2 2, .int .i64 0, .int .i64 0, .int .i64 0, .slice none 0 0, .int .i64 0, .int .i64 0, .int .i64 1, .slice none 0 0, .slice none 0 0, .int .i64 0, .int .i64 0, .int .i64 0, .slice none 0 0, .int .i64 0, .int .i64 0])] = Y9 from hY9] at hs9 hb9 hk9
  simp only [List.length_cons, List.length_nil] at hs9
  have hst := rowsSteps_laid (B := Y9.heap.size) (k := k) (m := k + 1) (by unfold I64; omega) (by unfold I64; omega) (hk9 1 _ _ rfl) (hk9 2 _ _ rfl) (hk9 3 _ _ rfl) (by omega) (by omega) (by omega)
  have hT2 : Calls Try.prog 19 #[.agg #[.slice none 0 0, .slice (some ⟨w.heap.size, 0, none⟩) 1 1, .slice A7 2 c7, .slice (some ⟨w.heap.size + 1 + 1 + 1, 0, none⟩) 2 2], .slice (some ⟨w8.heap.size + 1 + 1 + 1, 0, none⟩) 2 2] Y9 fun e w' => e = .returned (.tuple #[.bool false, .agg #[.int .i64 0, .int .i64 0]]) ∧ Below Y9.heap.size Y9 w' :=
    (take_any none (some ⟨w.heap.size, 0, none⟩) A7 (some ⟨w.heap.size + 1 + 1 + 1, 0, none⟩) 0 0 1 1 2 c7 2 2 (rowsForm P Q) (some ⟨w8.heap.size + 1 + 1 + 1, 0, none⟩) 2 2 (rowsSteps k (k + 1)) _ 0 0 Y9 (hF8.below hb9 hb9.size) (Nat.le_refl _) HF.out.2.2.2.1 HF.out.2.2.2.2 hst (rows_law hPb hQb hKb (.inr rfl))).mono fun e w' h => ⟨by
      rw [h.1, if_neg (fun e => by omega)]; rfl, h.2⟩
  have HT2 := Lib.hid hT2
  have HY9 := Lib.hid hY9
  have H9 := Lib.hid (And.intro hb9 (And.intro (hk9 0 _ _ rfl) hb80))
  have zY9 : w8.heap.size + 4 = Y9.heap.size := hs9.symm
  clear hT2 hY9 hb9 hk9 hst hs9 hb80 hF8 kt8 kG8 hbZ8 hb8 HT1 HY8 H8 HF g0 g1 g2 g3
  go_wp2_with fail
  rw [HY9.out]
  refine HT2.out.mono ?_
  rintro e w5 ⟨rfl, hb5⟩
  have kf : Blk w5 w8.heap.size 29 #[.int .i64 0, .int .i64 0] := H9.out.2.1.below hb5 (by omega)
  have d0 : w5.cell? ⟨w8.heap.size, 0, none⟩ = some (.int .i64 0) := kf.cell 0
  have zd : w8.heap.size < w5.heap.size := kf.lt
  have hb50 : Below w.heap.size w w5 := H9.out.2.2.trans ((H9.out.1.trans (hb5.mono (by omega))).mono H9.out.2.2.size)
  have HB5 := Lib.hid hb50
  clear hb50 hb5 kf HT2 HY9 H9 h0 h1 h2 h3 t0 t1
  go_wp2_with fail
  refine (judgeSure_any _).mono ?_
  rintro e w4 ⟨rfl, hb4⟩
  have HB4 := Lib.hid hb4
  clear hb4
  go_wp2_with fail
  go_ret
  exact ⟨rfl, (HB5.out.alloc HB5.out.size _).trans (HB4.out.mono (by have := HB5.out.size; simp; omega))⟩
end Go.Proofs.Ythjfiomcpihlaaa
