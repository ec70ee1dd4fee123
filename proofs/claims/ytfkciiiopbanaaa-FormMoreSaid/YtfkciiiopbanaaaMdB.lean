/- Walk: formSure of the laws about forms. -/
import Derived.Test.YtfkciiiopbanaaaLhTW
import Derived.Test.YtfkciiiopbanaaaOwnA
namespace Go.Proofs.Ytfkciiiopbanaaa
open Go.RowKit

set_option maxRecDepth 100000 in
set_option maxHeartbeats 4000000 in
theorem formSure_any (w : World) : Calls Try.prog 13 #[] w fun e w' => e = .returned (.bool true) ∧ Below w.heap.size w w' := by
  obtain ⟨X, hX0⟩ : ∃ X, ((((w.alloc (.cells #[.int .i64 1, .int .i64 0, .int .i64 0, .slice none 0 0, .int .i64 0, .int .i64 0] 35)).alloc (.cells #[.int .i64 1] 3)).alloc (.cells #[.slice (some ⟨w.heap.size + 1, 0, none⟩) 1 1] 31)).alloc (.cells #[.slice none 0 0, .slice none 0 0, .slice (some ⟨w.heap.size, 0, none⟩) 1 1, .slice (some ⟨w.heap.size + 1 + 1, 0, none⟩) 1 1] 27)).alloc (.cells #[.bool true] 4) = X := ⟨_, rfl⟩
  have hs0 := lay_size [(35, #[.int .i64 1, .int .i64 0, .int .i64 0, .slice none 0 0, .int .i64 0, .int .i64 0]), (3, #[.int .i64 1]), (31, #[.slice (some ⟨w.heap.size + 1, 0, none⟩) 1 1]), (27, #[.slice none 0 0, .slice none 0 0, .slice (some ⟨w.heap.size, 0, none⟩) 1 1, .slice (some ⟨w.heap.size + 1 + 1, 0, none⟩) 1 1]), (4, #[.bool true])] w
  have hb0 := lay_below [(35, #[.int .i64 1, .int .i64 0, .int .i64 0, .slice none 0 0, .int .i64 0, .int .i64 0]), (3, #[.int .i64 1]), (31, #[.slice (some ⟨w.heap.size + 1, 0, none⟩) 1 1]), (27, #[.slice none 0 0, .slice none 0 0, .slice (some ⟨w.heap.size, 0, none⟩) 1 1, .slice (some ⟨w.heap.size + 1 + 1, 0, none⟩) 1 1]), (4, #[.bool true])] w
  have hk0 := fun i t c h => lay_blk [(35, #[.int .i64 1, .int .i64 0, .int .i64 0, .slice none 0 0, .int .i64 0, .int .i64 0]), (3, #[.int .i64 1]), (31, #[.slice (some ⟨w.heap.size + 1, 0, none⟩) 1 1]), (27, #[.slice none 0 0, .slice none 0 0, .slice (some ⟨w.heap.size, 0, none⟩) 1 1, .slice (some ⟨w.heap.size + 1 + 1, 0, none⟩) 1 1]), (4, #[.bool true])] w i t c h
  rw [show lay w [(35, #[.int .i64 1, .int .i64 0, .int .i64 0, .slice none 0 0, .int .i64 0, .int .i64 0]), (3, #[.int .i64 1]), (31, #[.slice (some ⟨w.heap.size + 1, 0, none⟩) 1 1]), (27, #[.slice none 0 0, .slice none 0 0, .slice (some ⟨w.heap.size, 0, none⟩) 1 1, .slice (some ⟨w.heap.size + 1 + 1, 0, none⟩) 1 1]), (4, #[.bool true])] = X from hX0] at hs0 hb0 hk0
  simp only [List.length_cons, List.length_nil] at hs0
  have HX0 := Lib.hid hX0
  clear hX0
  have hF : FormB X X.heap.size none none (some ⟨w.heap.size, 0, none⟩) (some ⟨w.heap.size + 1 + 1, 0, none⟩) 0 0 1 1 sureF :=
    ⟨Arr.nil_, Arr.nil_, row_one tells_atom (fun _ _ _ _ _ h => atV_atom h) (hk0 0 _ _ rfl) ⟨none, 0, 0, rfl, ⟨(show I64 1 by unfold I64; omega), (show I64 0 by unfold I64; omega), (show I64 0 by unfold I64; omega), (show I64 0 by unfold I64; omega), (show I64 0 by unfold I64; omega)⟩, Nat.le_refl _, by decide, Arr.nil_⟩ (by show _ < _; omega),
      row_one (tells_arr stays_int) atArr_of (hk0 2 _ _ rfl) (varr_of (row_ints (xs := [1]) (hk0 1 _ _ rfl) rfl (by intro x hx; rw [List.mem_singleton] at hx; subst hx; unfold I64; omega) (by show _ < _; omega)) (Nat.le_refl _) (by decide)) (by show _ < _; omega), by decide, by decide, by decide, by decide⟩
  have hM : ModelB X X.heap.size (some ⟨w.heap.size + 1 + 1 + 1 + 1, 0, none⟩) none none 1 0 0 ⟨[true], [], []⟩ := ⟨row_one tells_bool (fun _ _ _ _ _ h => atV_bool.1 h) (hk0 4 _ _ rfl) rfl (by show _ < _; omega), Arr.nil_, Arr.nil_, by decide, by decide, by decide⟩
  have HT1 : Hid (Calls Try.prog 12 #[.agg #[.slice none 0 0, .slice none 0 0, .slice (some ⟨w.heap.size, 0, none⟩) 1 1, .slice (some ⟨w.heap.size + 1 + 1, 0, none⟩) 1 1], .agg #[.slice (some ⟨w.heap.size + 1 + 1 + 1 + 1, 0, none⟩) 1 1, .slice none 0 0, .slice none 0 0]] X fun e w' => e = .returned (.tuple #[.bool true, .agg #[.int .i64 0, .int .i64 0]]) ∧ Below X.heap.size X w') :=
    (holds_any none none (some ⟨w.heap.size, 0, none⟩) (some ⟨w.heap.size + 1 + 1, 0, none⟩) 0 0 0 0 1 1 1 1 (some ⟨w.heap.size + 1 + 1 + 1 + 1, 0, none⟩) none none 1 1 0 0 0 0 sureF ⟨[true], [], []⟩ X hF hM (Nat.le_refl _)).mono fun e w' h => ⟨by rw [h.1, sure_holds], h.2⟩
  have hG : Blk X (w.heap.size + 1 + 1 + 1) 27 #[.slice none 0 0, .slice none 0 0, .slice (some ⟨w.heap.size, 0, none⟩) 1 1, .slice (some ⟨w.heap.size + 1 + 1, 0, none⟩) 1 1] := hk0 3 _ _ rfl
  have H := Lib.hid (And.intro hb0 (And.intro hF hG))
  have hsX : w.heap.size + 5 = X.heap.size := hs0.symm
  clear hs0 hb0 hk0 hF hM hG
  go_enter Try.func13, Try.ntmps13
  go_wp2_with fail
  rw [HX0.out]
  clear HX0
  refine HT1.out.mono ?_
  rintro e w1 ⟨rfl, hb1⟩
  obtain ⟨Y, hX2⟩ : ∃ X, (w1.alloc (.cells #[.int .i64 0, .int .i64 0] 29)).alloc (.cells #[.bool false] 4) = X := ⟨_, rfl⟩
  have hs2 := lay_size [(29, #[.int .i64 0, .int .i64 0]), (4, #[.bool false])] w1
  have hb2 := lay_below [(29, #[.int .i64 0, .int .i64 0]), (4, #[.bool false])] w1
  have hk2 := fun i t c h => lay_blk [(29, #[.int .i64 0, .int .i64 0]), (4, #[.bool false])] w1 i t c h
  rw [show lay w1 [(29, #[.int .i64 0, .int .i64 0]), (4, #[.bool false])] = Y from hX2] at hs2 hb2 hk2
  simp only [List.length_cons, List.length_nil] at hs2
  have HX2 := Lib.hid hX2
  clear hX2
  have hbY : Below X.heap.size X Y := hb1.trans (hb2.mono hb1.size)
  have hF2 := H.out.2.1.below hbY hbY.size
  have hM2 : ModelB Y Y.heap.size (some ⟨w1.heap.size + 1, 0, none⟩) none none 1 0 0 ⟨[false], [], []⟩ := ⟨row_one tells_bool (fun _ _ _ _ _ h => atV_bool.1 h) (hk2 1 _ _ rfl) rfl (by show _ < _; omega), Arr.nil_, Arr.nil_, by decide, by decide, by decide⟩
  have HT2 : Hid (Calls Try.prog 12 #[.agg #[.slice none 0 0, .slice none 0 0, .slice (some ⟨w.heap.size, 0, none⟩) 1 1, .slice (some ⟨w.heap.size + 1 + 1, 0, none⟩) 1 1], .agg #[.slice (some ⟨w1.heap.size + 1, 0, none⟩) 1 1, .slice none 0 0, .slice none 0 0]] Y fun e w' => e = .returned (.tuple #[.bool false, .agg #[.int .i64 0, .int .i64 0]]) ∧ Below Y.heap.size Y w') :=
    (holds_any none none (some ⟨w.heap.size, 0, none⟩) (some ⟨w.heap.size + 1 + 1, 0, none⟩) 0 0 0 0 1 1 1 1 (some ⟨w1.heap.size + 1, 0, none⟩) none none 1 1 0 0 0 0 sureF ⟨[false], [], []⟩ Y hF2 hM2 (Nat.le_refl _)).mono fun e w' h => ⟨by rw [h.1, sure_holds], h.2⟩
  have kG : Blk w1 (w.heap.size + 1 + 1 + 1) 27 #[.slice none 0 0, .slice none 0 0, .slice (some ⟨w.heap.size, 0, none⟩) 1 1, .slice (some ⟨w.heap.size + 1 + 1, 0, none⟩) 1 1] := H.out.2.2.below hb1 (by omega)
  have g0 : w1.cell? ⟨w.heap.size + 1 + 1 + 1, 0, none⟩ = some (.slice none 0 0) := kG.cell 0
  have g1 : w1.cell? ⟨w.heap.size + 1 + 1 + 1, 1, none⟩ = some (.slice none 0 0) := kG.cell 1
  have g2 : w1.cell? ⟨w.heap.size + 1 + 1 + 1, 2, none⟩ = some (.slice (some ⟨w.heap.size, 0, none⟩) 1 1) := kG.cell 2
  have g3 : w1.cell? ⟨w.heap.size + 1 + 1 + 1, 3, none⟩ = some (.slice (some ⟨w.heap.size + 1 + 1, 0, none⟩) 1 1) := kG.cell 3
  have zG : w.heap.size + 1 + 1 + 1 < w1.heap.size := kG.lt
  have hsY : w1.heap.size + 2 = Y.heap.size := hs2.symm
  have HK := Lib.hid (And.intro (hk2 0 _ _ rfl) (H.out.1.trans (hbY.mono (by omega))))
  clear hs2 hb2 hk2 hF2 hM2 kG hb1 hbY HT1
  go_wp2_with fail
  rw [HX2.out]
  clear HX2 g0 g1 g2 g3
  refine HT2.out.mono ?_
  rintro e w3 ⟨rfl, hb3⟩
  have kf : Blk w3 w1.heap.size 29 #[.int .i64 0, .int .i64 0] := HK.out.1.below hb3 (by omega)
  have d0 : w3.cell? ⟨w1.heap.size, 0, none⟩ = some (.int .i64 0) := kf.cell 0
  have zd : w1.heap.size < w3.heap.size := kf.lt
  have HB := Lib.hid (HK.out.2.trans (hb3.mono (by have := HK.out.2.size; omega)))
  clear hb3 kf
  go_wp2_with fail
  go_ret
  exact ⟨rfl, HB.out.alloc HB.out.size _⟩
end Go.Proofs.Ytfkciiiopbanaaa
