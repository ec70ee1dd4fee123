/- Plain: what an ask that has been made answers; walks: umpiragelaw1.askSure. -/
import Derived.Test.YtggkfepifnfdoaaMkPQ
import Derived.Test.YtggkfepifnfdoaaKitFH
import Derived.Test.YtggkfepifnfdoaaAskOU
import Derived.Test.YtggkfepifnfdoaaSameB
namespace Go.Proofs.Ytggkfepifnfdoaa
open Go.RowKit

theorem declsK_ok : declsF declsK = (0, 0) := by kernel_rfl
theorem mk_sorts {ns : List NodeD} {ss H : List Int} (hM : Mk ns ss) (hn : ns.length ≤ 200) (hh : H.length ≤ 200) (hH : ∀ k ∈ H, 0 ≤ k ∧ ss[k.toNat]? = some 1) : sortsF ⟨declsK, ns, H⟩ = (ss, 0, 0) := by
  have h0 : holdF ss H = (0, 0) := by
    rw [holdF, if_neg (by omega)]
    refine firstBad_all fun j k hk => ?_
    obtain ⟨h1, h2⟩ := hH k (List.mem_of_getElem? hk)
    have h3 : k.toNat < ss.length := (List.getElem?_eq_some_iff.1 h2).1
    rw [holdCode, if_neg (by omega), if_pos (by rw [List.getD_eq_getElem?_getD, h2]; rfl)]
  unfold Mk at hM
  rw [sortsF, if_neg (by rw [declsK_ok]; simp), if_neg (by show ¬ 200 < ns.length; omega), if_neg (by rw [hM]; simp), hM, if_neg (by rw [h0]; simp)]

theorem sure_sorts : sortsF ⟨[], [⟨1, [], 0, 0, .empty⟩, ⟨10, [], 1, 2, .empty⟩], []⟩ = ([1, 3], 0, 0) := by kernel_rfl

set_option maxRecDepth 100000 in
set_option maxHeartbeats 4000000 in
theorem askSure_any (w : World) : Calls Try.prog 16 #[] w fun e w' => e = .returned (.bool true) ∧ Below w.heap.size w w' := by
  have hb0 : Below w.heap.size w (w.alloc (.cells #[.int .i64 1, .slice none 0 0, .int .i64 0, .int .i64 0, .string { data := #[] }, .int .i64 10, .slice none 0 0, .int .i64 1, .int .i64 2, .string { data := #[] }] 65)) := (Below.refl _ _).alloc (Nat.le_refl _) _
  have hk := Blk.new w 65 #[.int .i64 1, .slice none 0 0, .int .i64 0, .int .i64 0, .string { data := #[] }, .int .i64 10, .slice none 0 0, .int .i64 1, .int .i64 2, .string { data := #[] }]
  obtain ⟨X, hX⟩ : ∃ X, w.alloc (.cells #[.int .i64 1, .slice none 0 0, .int .i64 0, .int .i64 0, .string { data := #[] }, .int .i64 10, .slice none 0 0, .int .i64 1, .int .i64 2, .string { data := #[] }] 65) = X := ⟨_, rfl⟩
  rw [hX] at hb0 hk
  have hi : ∀ n : Int, 0 ≤ n → n ≤ 100 → I64 n := fun n h1 h2 => by unfold I64; omega
  have hN : Arr AtNode 5 X (fun b => b < X.heap.size) (some ⟨w.heap.size, 0, none⟩) 2 [⟨1, [], 0, 0, .empty⟩, ⟨10, [], 1, 2, .empty⟩] := by
    refine arr_of_blk (S := fun b => b < X.heap.size) (xs := [⟨1, [], 0, 0, .empty⟩, ⟨10, [], 1, 2, .empty⟩]) tells_node (fun _ _ _ _ _ h => atV_node h) hk ?_ hk.lt
    exact ⟨_, _, rfl, vnode_plain 1 0 0 (hi _ (by decide) (by decide)) (hi _ (by decide) (by decide)) (hi _ (by decide) (by decide)), _, _, rfl, vnode_plain 10 1 2 (hi _ (by decide) (by decide)) (hi _ (by decide) (by decide)) (hi _ (by decide) (by decide)), rfl⟩
  have hA : AskIn X X.heap.size none (some ⟨w.heap.size, 0, none⟩) none 0 2 0 ⟨[], [⟨1, [], 0, 0, .empty⟩, ⟨10, [], 1, 2, .empty⟩], []⟩ := ⟨Arr.nil_, hN, Arr.nil_, by omega, by omega, by omega⟩
  have HS := Lib.hid (sorts_any none (some ⟨w.heap.size, 0, none⟩) none 0 0 2 2 0 0 ⟨[], [⟨1, [], 0, 0, .empty⟩, ⟨10, [], 1, 2, .empty⟩], []⟩ X hA (Nat.le_refl _))
  have HX := Lib.hid (And.intro hX hb0)
  clear hX hb0 hk hN hi hA
  go_enter Try.func16, Try.ntmps16
  go_wp2_with fail
  rw [HX.out.1]
  refine HS.out.mono ?_
  rw [sure_sorts]
  rintro e w2 ⟨A, c, rfl, hb, hc, hcm, harr⟩
  dsimp only at hc harr ⊢
  have hbf : Below w.heap.size w (w2.alloc (.cells #[.int .i64 0, .int .i64 0] 29)) := (HX.out.2.trans (hb.mono HX.out.2.size)).alloc (Nat.le_trans HX.out.2.size hb.size) _
  have h1 := Arr.keep stays_int (S' := fun b => b < w2.heap.size) harr (fun b hb => hb.2) (fun _ _ _ => rfl)
  have hbq : Below w2.heap.size w2 ((w2.alloc (.cells #[.int .i64 0, .int .i64 0] 29)).alloc (.cells #[.int .i64 1, .int .i64 3] 3)) := ((Below.refl _ _).alloc (Nat.le_refl _) _).alloc (by simp) _
  have h2 := ArrB.below h1 stays_int hbq (Nat.le_refl _)
  have hkn := Blk.new (w2.alloc (.cells #[.int .i64 0, .int .i64 0] 29)) 3 #[.int .i64 1, .int .i64 3]
  have h3 := arr_ints (S := fun b => b < ((w2.alloc (.cells #[.int .i64 0, .int .i64 0] 29)).alloc (.cells #[.int .i64 1, .int .i64 3] 3)).heap.size) (xs := [1, 3]) hkn rfl (fun x hx => by simp at hx; unfold I64; omega) hkn.lt
  rw [show (w2.alloc (.cells #[.int .i64 0, .int .i64 0] 29)).heap.size = w2.heap.size + 1 from by simp] at h3
  have HE := Lib.hid (And.intro (sameInts_any A (some ⟨w2.heap.size + 1, 0, none⟩) 2 c 2 [1, 3] _ _ _ h2 h3 (by omega)) (hbf.alloc hbf.size (.cells #[.int .i64 1, .int .i64 3] 3)))
  clear hb hc hcm harr hbf h1 hbq h2 hkn h3
  go_wp2_with fail
  refine HE.out.1.mono ?_
  rintro e w7 ⟨rfl, m, rfl⟩
  go_wp2_with fail
  go_ret
  exact ⟨rfl, below_drewN HE.out.2 _⟩
end Go.Proofs.Ytggkfepifnfdoaa
