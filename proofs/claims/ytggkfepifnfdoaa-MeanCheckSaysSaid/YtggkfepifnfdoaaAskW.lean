/- Walks: ask.Check; the law AskSortsSays. -/
import Derived.Test.YtggkfepifnfdoaaAskV
import Derived.Test.YtggkfepifnfdoaaSameB
namespace Go.Proofs.Ytggkfepifnfdoaa
open Go.RowKit

set_option maxRecDepth 100000 in
set_option maxHeartbeats 4000000 in
theorem check_any (A1 A2 A3 : Option Addr) (n1 c1 n2 c2 n3 c3 : Nat) (a : AskD) (qc qa : Int) (w : World) (ha : AskIn w w.heap.size A1 A2 A3 n1 n2 n3 a) (hc1 : n1 ≤ c1) (hq : (sortsF a).2 = (qc, qa)) :
    Calls Try.prog 19 #[.agg #[.slice A1 n1 c1, .slice A2 n2 c2, .slice A3 n3 c3]] w fun e w' => e = .returned (.agg #[.int .i64 qc, .int .i64 qa]) ∧ Below w.heap.size w w' := by
  obtain ⟨hb0, hk0, hf0, hs0⟩ := two_boxes w 26 29 #[.slice A1 n1 c1, .slice A2 n2 c2, .slice A3 n3 c3] #[.int .i64 0, .int .i64 0]
  have HC := Lib.hid (sorts_any A1 A2 A3 n1 c1 n2 c2 n3 c3 a _ (ha.below hb0 hb0.size) hc1)
  have HQ := Lib.hid hq
  have HX := Lib.hid (And.intro hb0 (And.intro hf0 hs0))
  clear ha hq hb0 hk0 hf0 hs0
  go_enter Try.func19, Try.ntmps19
  go_wp2_with fail
  refine HC.out.mono ?_
  rintro e w3 ⟨A, c, rfl, hb3, -⟩
  rw [HQ.out]
  dsimp only
  generalize (sortsF a).1.length = ln
  obtain ⟨hb0, hf0, hs0⟩ := HX.out
  have hbel : Below w.heap.size w w3 := hb0.trans (hb3.mono (by omega))
  have hf3 := hf0.below hb3 (by omega)
  have hz : w.heap.size + 1 < w3.heap.size := hf3.lt
  have g0 : w3.cell? ⟨w.heap.size + 1, 0, none⟩ = some (.int .i64 0) := hf3.cell 0
  have g1 : w3.cell? ⟨w.heap.size + 1, 1, none⟩ = some (.int .i64 0) := hf3.cell 1
  have y0 : w3.frozen? ⟨w.heap.size + 1, 0, none⟩ = false := hf3.frozen 0
  have y1 : w3.frozen? ⟨w.heap.size + 1, 1, none⟩ = false := hf3.frozen 1
  have HB := Lib.hid (And.intro hbel hf3)
  clear hb0 hf0 hs0 hbel hf3 hb3 HC HX
  go_wp2_with fail
  clear g0 g1 y0 y1
  have hz1 := (two_blk HB.out.2 (.int .i64 qc) (.int .i64 qa)).alloc (.cells #[.int .i64 qc, .int .i64 qa] 29)
  have hz2 : Below w.heap.size w ((two w3 (w.heap.size + 1) (.int .i64 qc) (.int .i64 qa)).alloc (.cells #[.int .i64 qc, .int .i64 qa] 29)) := (two_below (g := w.heap.size + 1) HB.out.1 (Nat.le_succ _) (.int .i64 qc) (.int .i64 qa)).alloc (by have := (two_below (g := w.heap.size + 1) HB.out.1 (Nat.le_succ _) (.int .i64 qc) (.int .i64 qa)).size; exact this) _
  have e4 : ((w3.setCell ⟨w.heap.size + 1, 0, none⟩ (.int .i64 qc)).setCell ⟨w.heap.size + 1, 1, none⟩ (.int .i64 qa)).alloc (.cells #[.int .i64 qc, .int .i64 qa] 29) = (two w3 (w.heap.size + 1) (.int .i64 qc) (.int .i64 qa)).alloc (.cells #[.int .i64 qc, .int .i64 qa] 29) := rfl
  rw [e4]
  clear e4
  generalize (two w3 (w.heap.size + 1) (.int .i64 qc) (.int .i64 qa)).alloc (.cells #[.int .i64 qc, .int .i64 qa] 29) = Z at hz1 hz2 ⊢
  have d0 := hz1.cell 0
  have d1 := hz1.cell 1
  simp only [List.getElem?_toArray, List.getElem?_cons_zero, List.getElem?_cons_succ] at d0 d1
  exact bodyPost_ret (v := .agg #[.int .i64 qc, .int .i64 qa]) (by simp [results, Try.results19, go_sem, d0, d1]) rfl ⟨rfl, hz2⟩

set_option maxRecDepth 100000 in
set_option maxHeartbeats 4000000 in
theorem askSortsSays_any (A1 A2 A3 : Option Addr) (n1 c1 n2 c2 n3 c3 : Nat) (a : AskD) (w : World) (ha : AskIn w w.heap.size A1 A2 A3 n1 n2 n3 a) (hc1 : n1 ≤ c1) :
    Calls Try.prog 4 #[.agg #[.slice A1 n1 c1, .slice A2 n2 c2, .slice A3 n3 c3]] w fun e w' => e = .returned (.bool true) ∧ Below w.heap.size w w' := by
  have hb0 : Below w.heap.size w (w.alloc (.cells #[.slice A1 n1 c1, .slice A2 n2 c2, .slice A3 n3 c3] 26)) := (Below.refl _ _).alloc (Nat.le_refl _) _
  have hk0 := Blk.new w 26 #[.slice A1 n1 c1, .slice A2 n2 c2, .slice A3 n3 c3]
  have hs0 : (w.alloc (.cells #[.slice A1 n1 c1, .slice A2 n2 c2, .slice A3 n3 c3] 26)).heap.size = w.heap.size + 1 := by simp
  have hq : ∃ ss qc qa, sortsF a = (ss, qc, qa) := ⟨_, _, _, rfl⟩
  obtain ⟨ss, qc, qa, hq⟩ := hq
  have HC := Lib.hid (sorts_any A1 A2 A3 n1 c1 n2 c2 n3 c3 a _ (ha.below hb0 hb0.size) hc1)
  have HR := Lib.hid (fun (W : World) (hW : Below w.heap.size w W) => askSorts_any A1 A2 A3 n1 c1 n2 c2 n3 c3 a W (ha.below hW hW.size))
  have HQ := Lib.hid hq
  have HX := Lib.hid (And.intro hb0 (And.intro hk0 hs0))
  clear ha hq hb0 hk0 hs0
  go_enter Try.func4, Try.ntmps4
  go_wp2_with fail
  refine HC.out.mono ?_
  rintro e w3 ⟨A, c, rfl, hb3, hlc, hcm, harr⟩
  rw [HQ.out] at hlc harr ⊢
  dsimp only at hlc harr ⊢
  obtain ⟨hb0, hk0, hs0⟩ := HX.out
  have hbel : Below w.heap.size w w3 := hb0.trans (hb3.mono (by omega))
  have hk3 := hk0.below hb3 (by omega)
  have hb4 : Below w.heap.size w (w3.alloc (.cells #[.int .i64 qc, .int .i64 qa] 29)) := hbel.alloc hbel.size _
  have hx4 : Below w3.heap.size w3 (w3.alloc (.cells #[.int .i64 qc, .int .i64 qa] 29)) := (Below.refl _ _).alloc (Nat.le_refl _) _
  have hk4 := hk3.alloc (.cells #[.int .i64 qc, .int .i64 qa] 29)
  have hf4 := Blk.new w3 29 #[.int .i64 qc, .int .i64 qa]
  have harr4 : Arr AtInt 1 (w3.alloc (.cells #[.int .i64 qc, .int .i64 qa] 29)) (fun b => b < w3.heap.size) A ss.length ss := harr.keep stays_int (fun b hb => hb.2) (fun b o hb => hx4.cell (p := ⟨b, o, none⟩) hb.2)
  clear hb0 hk0 hs0 hbel hk3 hb3 HC HX harr hx4
  go_upto_region 2 with fail
  have hz3 : w3.heap.size < (w3.alloc (.cells #[.int .i64 qc, .int .i64 qa] 29)).heap.size := by simp
  generalize w3.alloc (.cells #[.int .i64 qc, .int .i64 qa] 29) = X at hb4 hk4 hf4 harr4 hz3 ⊢
  generalize w3.heap.size = G at hf4 harr4 hz3 ⊢
  have k0 : X.cell? ⟨w.heap.size, 0, none⟩ = some (.slice A1 n1 c1) := hk4.cell 0
  have k1 : X.cell? ⟨w.heap.size, 1, none⟩ = some (.slice A2 n2 c2) := hk4.cell 1
  have k2 : X.cell? ⟨w.heap.size, 2, none⟩ = some (.slice A3 n3 c3) := hk4.cell 2
  have HX := Lib.hid (And.intro hb4 (And.intro hf4 harr4))
  clear hb4 hk4 hf4 harr4
  go_wp2_with fail
  refine (HR.out X HX.out.1).mono ?_
  rintro e w5 ⟨A', c', rfl, hb5, hlc', hcm', harr'⟩
  rw [HQ.out] at hlc' harr' ⊢
  dsimp only at hlc' harr' ⊢
  obtain ⟨hb4, hf4, harr4⟩ := HX.out
  have hb6 : Below w.heap.size w (w5.alloc (.cells #[.int .i64 qc, .int .i64 qa] 29)) := (hb4.trans (hb5.mono hb4.size)).alloc (hb4.trans (hb5.mono hb4.size)).size _
  have hx6 : Below w5.heap.size w5 (w5.alloc (.cells #[.int .i64 qc, .int .i64 qa] 29)) := (Below.refl _ _).alloc (Nat.le_refl _) _
  have hx7 : Below X.heap.size X (w5.alloc (.cells #[.int .i64 qc, .int .i64 qa] 29)) := hb5.trans (hx6.mono hb5.size)
  have hf6 := Blk.new w5 29 #[.int .i64 qc, .int .i64 qa]
  have hg6 := hf4.below hx7 hz3
  have ha6 : Arr AtInt 1 (w5.alloc (.cells #[.int .i64 qc, .int .i64 qa] 29)) (fun b => b < w5.heap.size) A' ss.length ss := harr'.keep stays_int (fun b hb => hb.2) (fun b o hb => hx6.cell (p := ⟨b, o, none⟩) hb.2)
  have hc6 : Arr AtInt 1 (w5.alloc (.cells #[.int .i64 qc, .int .i64 qa] 29)) (fun b => b < X.heap.size) A ss.length ss := harr4.keep stays_int (fun b hb => Nat.lt_trans hb hz3) (fun b o hb => hx7.cell (p := ⟨b, o, none⟩) (Nat.lt_trans hb hz3))
  clear hb4 hf4 harr4 hb5 harr' hx6 hx7 HX k0 k1 k2
  go_upto_region 3 with fail
  generalize w5.alloc (.cells #[.int .i64 qc, .int .i64 qa] 29) = Y at hb6 hf6 hg6 ha6 hc6 ⊢
  generalize w5.heap.size = G2 at hf6 ha6 ⊢
  have p0 : Y.cell? ⟨G, 0, none⟩ = some (.int .i64 qc) := hg6.cell 0
  have p1 : Y.cell? ⟨G, 1, none⟩ = some (.int .i64 qa) := hg6.cell 1
  have q0 : Y.cell? ⟨G2, 0, none⟩ = some (.int .i64 qc) := hf6.cell 0
  have q1 : Y.cell? ⟨G2, 1, none⟩ = some (.int .i64 qa) := hf6.cell 1
  have HS := Lib.hid (sameInts_any A A' ss.length c c' ss _ _ Y hc6 ha6 (by unfold maxLen at hcm; omega))
  have HB := Lib.hid hb6
  clear hb6 hf6 hg6 ha6 hc6
  go_wp2_with fail
  refine HS.out.mono ?_
  rintro e w7 ⟨rfl, m, rfl⟩
  go_wp2_with fail
  go_ret
  exact ⟨ret_bool (by simp), below_drewN HB.out _⟩
end Go.Proofs.Ytggkfepifnfdoaa
