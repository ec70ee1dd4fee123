/- Walk: the law AskCheckSays. -/
import Derived.Test.YtggkfepifnfdoaaAskW
import Derived.Deep.RegionHeld3
namespace Go.Proofs.Ytggkfepifnfdoaa
open Go.RowKit

theorem bad_sorts : (sortsF ⟨[], [], [0]⟩).2 = (3, 0) := by decide
theorem bad_ask {w : World} {g : Nat} (h : Blk w g 3 #[.int .i64 0]) : AskIn w w.heap.size none none (some ⟨g, 0, none⟩) 0 0 1 ⟨[], [], [0]⟩ :=
  ⟨Arr.nil_, Arr.nil_, ⟨rfl, fun i x hx => by
    rcases i with _ | i
    · simp only [List.getElem?_cons_zero, Option.some.injEq] at hx
      subst hx
      exact ⟨g, 0, rfl, h.lt, h.cell 0, by unfold I64; omega⟩
    · simp at hx⟩, by omega, by omega, by omega⟩

set_option maxRecDepth 100000 in
set_option maxHeartbeats 8000000 in
theorem askCheckSays_any (A1 A2 A3 : Option Addr) (n1 c1 n2 c2 n3 c3 : Nat) (a : AskD) (w : World) (ha : AskIn w w.heap.size A1 A2 A3 n1 n2 n3 a) (hc1 : n1 ≤ c1) :
    Calls Try.prog 5 #[.agg #[.slice A1 n1 c1, .slice A2 n2 c2, .slice A3 n3 c3]] w fun e w' => e = .returned (.bool true) ∧ Below w.heap.size w w' := by
  have hb0 : Below w.heap.size w (w.alloc (.cells #[.slice A1 n1 c1, .slice A2 n2 c2, .slice A3 n3 c3] 26)) := (Below.refl _ _).alloc (Nat.le_refl _) _
  have hk0 := Blk.new w 26 #[.slice A1 n1 c1, .slice A2 n2 c2, .slice A3 n3 c3]
  have hs0 : (w.alloc (.cells #[.slice A1 n1 c1, .slice A2 n2 c2, .slice A3 n3 c3] 26)).heap.size = w.heap.size + 1 := by simp
  have hq : ∃ ss qc qa, sortsF a = (ss, qc, qa) := ⟨_, _, _, rfl⟩
  obtain ⟨ss, qc, qa, hq⟩ := hq
  have HR := Lib.hid (askSorts_any A1 A2 A3 n1 c1 n2 c2 n3 c3 a _ (ha.below hb0 hb0.size))
  have HC := Lib.hid (fun (W : World) (hW : Below w.heap.size w W) => check_any A1 A2 A3 n1 c1 n2 c2 n3 c3 a qc qa W (ha.below hW hW.size) hc1 (by rw [hq]))
  have HQ := Lib.hid hq
  have HX := Lib.hid (And.intro hb0 (And.intro hk0 hs0))
  clear ha hq hb0 hk0 hs0
  go_enter Try.func5, Try.ntmps5
  go_wp2_with fail
  refine HR.out.mono ?_
  rintro e w3 ⟨A, c, rfl, hb3, -, -, -⟩
  rw [HQ.out]
  dsimp only
  obtain ⟨hb0, hk0, hs0⟩ := HX.out
  have hbel : Below w.heap.size w w3 := hb0.trans (hb3.mono (by omega))
  have hk3 := hk0.below hb3 (by omega)
  have hb4 : Below w.heap.size w (w3.alloc (.cells #[.int .i64 qc, .int .i64 qa] 29)) := hbel.alloc hbel.size _
  have hk4 := hk3.alloc (.cells #[.int .i64 qc, .int .i64 qa] 29)
  have hf4 := Blk.new w3 29 #[.int .i64 qc, .int .i64 qa]
  clear hb0 hk0 hs0 hbel hk3 hb3 HR HX
  go_upto_region 2 with fail
  have hz3 : w3.heap.size < (w3.alloc (.cells #[.int .i64 qc, .int .i64 qa] 29)).heap.size := by simp
  generalize w3.alloc (.cells #[.int .i64 qc, .int .i64 qa] 29) = X at hb4 hk4 hf4 hz3 ⊢
  generalize w3.heap.size = G at hf4 hz3 ⊢
  have hbx : Below X.heap.size X (X.alloc (.cells #[.int .i64 0] 3)) := (Below.refl _ _).alloc (Nat.le_refl _) _
  have hbn := Blk.new X 3 #[.int .i64 0]
  have HE := Lib.hid (check_any none none (some ⟨X.heap.size, 0, none⟩) 0 0 0 0 1 1 ⟨[], [], [0]⟩ 3 0 _ (bad_ask hbn) (Nat.le_refl _) bad_sorts)
  have HX := Lib.hid (And.intro hb4 (And.intro hk4 (And.intro hf4 hbx)))
  clear hb4 hk4 hf4 hbx hbn
  go_wp2_with fail
  refine HE.out.mono ?_
  rintro e w5 ⟨rfl, hb5⟩
  obtain ⟨hb4, hk4, hf4, hbx⟩ := HX.out
  have hx5 : Below X.heap.size X w5 := hbx.trans (hb5.mono hbx.size)
  have hx6 : Below X.heap.size X (w5.alloc (.cells #[.int .i64 3, .int .i64 0] 29)) := hx5.alloc hx5.size _
  have hb6 := hb4.trans (hx6.mono hb4.size)
  have hk6 := hk4.below hx6 (hk4.lt)
  have hf6 := hf4.below hx6 hz3
  have hg6 := Blk.new w5 29 #[.int .i64 3, .int .i64 0]
  have hz5 : w5.heap.size < (w5.alloc (.cells #[.int .i64 3, .int .i64 0] 29)).heap.size := by simp
  clear hb4 hk4 hf4 hbx hx5 hx6 hb5 HE HX
  go_upto_region 3 with fail
  generalize w5.alloc (.cells #[.int .i64 3, .int .i64 0] 29) = Y at hb6 hk6 hf6 hg6 hz5 ⊢
  generalize w5.heap.size = G2 at hg6 hz5 ⊢
  have k0 : Y.cell? ⟨w.heap.size, 0, none⟩ = some (.slice A1 n1 c1) := hk6.cell 0
  have k1 : Y.cell? ⟨w.heap.size, 1, none⟩ = some (.slice A2 n2 c2) := hk6.cell 1
  have k2 : Y.cell? ⟨w.heap.size, 2, none⟩ = some (.slice A3 n3 c3) := hk6.cell 2
  have f0 : Y.cell? ⟨G, 0, none⟩ = some (.int .i64 qc) := hf6.cell 0
  have f1 : Y.cell? ⟨G, 1, none⟩ = some (.int .i64 qa) := hf6.cell 1
  have e0 : Y.cell? ⟨G2, 0, none⟩ = some (.int .i64 3) := hg6.cell 0
  have hzw : w.heap.size < Y.heap.size := hk6.lt
  have hzG : G < Y.heap.size := hf6.lt
  have HB0 : Hid (Below w.heap.size w Y.drew) := below_drewN hb6 1
  clear hb6 hk6 hf6 hg6 hz3
  go_region_held3 (fun w' => w'.cell? ⟨w.heap.size, 0, none⟩ = some (.slice A1 n1 c1) ∧ w'.cell? ⟨w.heap.size, 1, none⟩ = some (.slice A2 n2 c2) ∧ w'.cell? ⟨w.heap.size, 2, none⟩ = some (.slice A3 n3 c3) ∧ w'.cell? ⟨G, 0, none⟩ = some (.int .i64 qc) ∧ w'.cell? ⟨G, 1, none⟩ = some (.int .i64 qa) ∧ w'.cell? ⟨G2, 0, none⟩ = some (.int .i64 3))
    (go_keep)
    (first
      | (go_simp
         go_at_call 19
         refine (HC.out _ HB0.out).mono ?_
         rintro e w1 ⟨rfl, hb1⟩
         have B1 : Below w.heap.size w w1 := HB0.out.trans (hb1.mono HB0.out.size)
         have pk0 : w1.cell? ⟨w.heap.size, 0, none⟩ = some (.slice A1 n1 c1) := by rw [hb1.cell (p := ⟨w.heap.size, 0, none⟩) hzw]; exact k0
         have pk1 : w1.cell? ⟨w.heap.size, 1, none⟩ = some (.slice A2 n2 c2) := by rw [hb1.cell (p := ⟨w.heap.size, 1, none⟩) hzw]; exact k1
         have pk2 : w1.cell? ⟨w.heap.size, 2, none⟩ = some (.slice A3 n3 c3) := by rw [hb1.cell (p := ⟨w.heap.size, 2, none⟩) hzw]; exact k2
         have pf0 : w1.cell? ⟨G, 0, none⟩ = some (.int .i64 qc) := by rw [hb1.cell (p := ⟨G, 0, none⟩) hzG]; exact f0
         have pf1 : w1.cell? ⟨G, 1, none⟩ = some (.int .i64 qa) := by rw [hb1.cell (p := ⟨G, 1, none⟩) hzG]; exact f1
         have pe0 : w1.cell? ⟨G2, 0, none⟩ = some (.int .i64 3) := by rw [hb1.cell (p := ⟨G2, 0, none⟩) hz5]; exact e0)
      | fail)
  all_goals
    go_wp2_with fail
    go_ret
    exact ⟨ret_bool (by simp), B1⟩
end Go.Proofs.Ytggkfepifnfdoaa
