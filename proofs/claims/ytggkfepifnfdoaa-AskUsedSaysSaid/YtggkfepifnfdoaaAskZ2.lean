/- Walk: the law AskUsedSays. -/
import Derived.Test.YtggkfepifnfdoaaAskZ
namespace Go.Proofs.Ytggkfepifnfdoaa
open Go.RowKit

set_option maxRecDepth 100000 in
set_option maxHeartbeats 8000000 in
theorem askUsedSays_any (A1 A2 A3 : Option Addr) (n1 c1 n2 c2 n3 c3 : Nat) (a : AskD) (w : World) (ha : AskIn w w.heap.size A1 A2 A3 n1 n2 n3 a) (hc1 : n1 ≤ c1) :
    Calls Try.prog 6 #[.agg #[.slice A1 n1 c1, .slice A2 n2 c2, .slice A3 n3 c3]] w fun e w' => e = .returned (.bool true) ∧ Below w.heap.size w w' := by
  have hb0 : Below w.heap.size w (w.alloc (.cells #[.slice A1 n1 c1, .slice A2 n2 c2, .slice A3 n3 c3] 26)) := (Below.refl _ _).alloc (Nat.le_refl _) _
  have hk0 := Blk.new w 26 #[.slice A1 n1 c1, .slice A2 n2 c2, .slice A3 n3 c3]
  have hs0 : (w.alloc (.cells #[.slice A1 n1 c1, .slice A2 n2 c2, .slice A3 n3 c3] 26)).heap.size = w.heap.size + 1 := by simp
  have hq : ∃ ss qc qa, sortsF a = (ss, qc, qa) := ⟨_, _, _, rfl⟩
  obtain ⟨ss, qc, qa, hq⟩ := hq
  have HR := Lib.hid (fun (W : World) (hW : Below w.heap.size w W) => askSorts_any A1 A2 A3 n1 c1 n2 c2 n3 c3 a W (ha.below hW hW.size))
  have HQ := Lib.hid hq
  by_cases hqc : qc = 0
  · have hok := sortsF_ok (a := a) (by rw [hq]; exact hqc)
    obtain ⟨h2, -, hlow, hhold, h200, h200', -⟩ := hok
    have hqa : qc = 0 ∧ qa = 0 := by rw [hq] at h2; simpa using h2
    obtain ⟨rfl, rfl⟩ := hqa
    have hl2 := ha.nodes.len
    have hue : passes a.nodes a.nodes.length (markAll a.hold (List.replicate n2 false)) = downM a.nodes a.nodes.length (markAll a.hold (List.replicate n2 false)) := used_eq hlow (by rw [markAll_len, List.length_replicate, hl2])
    have HU := Lib.hid (used_good A1 A2 A3 n1 c1 n2 c2 n3 c3 a _ (ha.below hb0 hb0.size) hc1 (by rw [hq]))
    have HV := Lib.hid (fun (W : World) (hW : Below w.heap.size w W) => askUsed_any A1 A2 A3 n1 c1 n2 c2 n3 c3 a W (ha.below hW hW.size) hlow hhold h200 h200')
    have HX := Lib.hid (And.intro hb0 (And.intro hk0 (And.intro hs0 hue)))
    have hn2 : n2 ≤ 200 := by omega
    clear ha hq hb0 hk0 hs0 hue hlow hhold h200 h200' h2 hl2 hqc
    go_enter Try.func6, Try.ntmps6
    go_wp2_with fail
    refine HU.out.mono ?_
    rintro e w3 ⟨g, rfl, hb3, hg3, hm3, hF3⟩
    obtain ⟨hb0, hk0, hs0, hue⟩ := HX.out
    rw [hue] at HV
    generalize downM a.nodes a.nodes.length (markAll a.hold (List.replicate n2 false)) = F at HV hm3 hF3
    have hbel : Below w.heap.size w w3 := hb0.trans (hb3.mono (by omega))
    have hk3 := hk0.below hb3 (by omega)
    have hgl : g < w3.heap.size := hm3.lt
    have hb4 : Below w.heap.size w (w3.alloc (.cells #[.int .i64 0, .int .i64 0] 29)) := hbel.alloc hbel.size _
    have hk4 := hk3.alloc (.cells #[.int .i64 0, .int .i64 0] 29)
    have hm4 := hm3.alloc (.cells #[.int .i64 0, .int .i64 0] 29)
    have hf4 := Blk.new w3 29 #[.int .i64 0, .int .i64 0]
    have hz3 : w3.heap.size < (w3.alloc (.cells #[.int .i64 0, .int .i64 0] 29)).heap.size := by simp
    have hgz : g < (w3.alloc (.cells #[.int .i64 0, .int .i64 0] 29)).heap.size := by simp; omega
    clear hb0 hk0 hs0 hue hbel hk3 hb3 hm3 HX hgl
    go_upto_region 2 with fail
    generalize w3.alloc (.cells #[.int .i64 0, .int .i64 0] 29) = X at hb4 hk4 hm4 hf4 hz3 hgz ⊢
    generalize w3.heap.size = G at hf4 hz3 ⊢
    have k0 : X.cell? ⟨w.heap.size, 0, none⟩ = some (.slice A1 n1 c1) := hk4.cell 0
    have k1 : X.cell? ⟨w.heap.size, 1, none⟩ = some (.slice A2 n2 c2) := hk4.cell 1
    have k2 : X.cell? ⟨w.heap.size, 2, none⟩ = some (.slice A3 n3 c3) := hk4.cell 2
    have HX := Lib.hid (And.intro hb4 (And.intro hk4 (And.intro hm4 hf4)))
    clear hb4 hk4 hm4 hf4
    go_wp2_with fail
    refine (HR.out X HX.out.1).mono ?_
    rintro e w5 ⟨A', c', rfl, hb5, -, -, -⟩
    rw [HQ.out]
    dsimp only
    obtain ⟨hb4, hk4, hm4, hf4⟩ := HX.out
    have hx6 : Below X.heap.size X (w5.alloc (.cells #[.int .i64 0, .int .i64 0] 29)) := hb5.alloc hb5.size _
    have hb6 := hb4.trans (hx6.mono hb4.size)
    have hk6 := hk4.below hx6 hk4.lt
    have hm6 := hm4.below hx6 hgz
    have hf6 := hf4.below hx6 hz3
    have hg6 := Blk.new w5 29 #[.int .i64 0, .int .i64 0]
    clear hb4 hk4 hm4 hf4 hx6 hb5 HX k0 k1 k2 hz3 hgz
    go_upto_region 3 with fail
    generalize w5.alloc (.cells #[.int .i64 0, .int .i64 0] 29) = Y at hb6 hk6 hm6 hf6 hg6 ⊢
    generalize w5.heap.size = G2 at hg6 ⊢
    have k0 : Y.cell? ⟨w.heap.size, 0, none⟩ = some (.slice A1 n1 c1) := hk6.cell 0
    have k1 : Y.cell? ⟨w.heap.size, 1, none⟩ = some (.slice A2 n2 c2) := hk6.cell 1
    have k2 : Y.cell? ⟨w.heap.size, 2, none⟩ = some (.slice A3 n3 c3) := hk6.cell 2
    have p0 : Y.cell? ⟨G, 0, none⟩ = some (.int .i64 0) := hf6.cell 0
    have p1 : Y.cell? ⟨G, 1, none⟩ = some (.int .i64 0) := hf6.cell 1
    have q0 : Y.cell? ⟨G2, 0, none⟩ = some (.int .i64 0) := hg6.cell 0
    have q1 : Y.cell? ⟨G2, 1, none⟩ = some (.int .i64 0) := hg6.cell 1
    have HY := Lib.hid (And.intro hb6 (And.intro hm6 hF3))
    clear hb6 hk6 hm6 hf6 hg6 hF3
    go_wp2_with fail
    refine (HV.out Y HY.out.1).mono ?_
    rintro e w7 ⟨g7, rfl, hb7, hg7, hm7, hF7⟩
    have hm8 := HY.out.2.1.below hb7 HY.out.2.1.lt
    have ha7 := marks_arr hm7 (S := fun _ => True) trivial
    have ha8 := marks_arr hm8 (S := fun _ => True) trivial
    rw [hF7] at ha7 ha8
    have HS := Lib.hid (sameBools_any (some ⟨g, 0, none⟩) (some ⟨g7, 0, none⟩) n2 n2 n2 F _ _ w7 ha8 ha7 (by omega))
    have HB : Hid (Below w.heap.size w w7) := HY.out.1.trans (hb7.mono HY.out.1.size)
    clear hm8 ha7 ha8 hm7 hb7 hF7 k0 k1 k2 p0 p1 q0 q1
    go_wp2_with fail
    refine HS.out.mono ?_
    rintro e w9 ⟨rfl, m, rfl⟩
    go_wp2_with fail
    go_ret
    exact ⟨rfl, below_drewN HB.out _⟩
  · have hqb : (qc != 0) = true := by rw [bne_iff_ne]; exact hqc
    have HU := Lib.hid (used_bad A1 A2 A3 n1 c1 n2 c2 n3 c3 a qc qa _ (ha.below hb0 hb0.size) hc1 (by rw [hq]) hqc)
    have HX := Lib.hid (And.intro hb0 (And.intro hk0 hs0))
    clear ha hq hb0 hk0 hs0 hqc
    go_enter Try.func6, Try.ntmps6
    go_wp2_with fail
    refine HU.out.mono ?_
    rintro e w3 ⟨rfl, hb3⟩
    obtain ⟨hb0, hk0, hs0⟩ := HX.out
    have hbel : Below w.heap.size w w3 := hb0.trans (hb3.mono (by omega))
    have hk3 := hk0.below hb3 (by omega)
    have hb4 : Below w.heap.size w (w3.alloc (.cells #[.int .i64 qc, .int .i64 qa] 29)) := hbel.alloc hbel.size _
    have hk4 := hk3.alloc (.cells #[.int .i64 qc, .int .i64 qa] 29)
    have hf4 := Blk.new w3 29 #[.int .i64 qc, .int .i64 qa]
    have hz3 : w3.heap.size < (w3.alloc (.cells #[.int .i64 qc, .int .i64 qa] 29)).heap.size := by simp
    clear hb0 hk0 hs0 hbel hk3 hb3 HX
    go_upto_region 2 with fail
    generalize w3.alloc (.cells #[.int .i64 qc, .int .i64 qa] 29) = X at hb4 hk4 hf4 hz3 ⊢
    generalize w3.heap.size = G at hf4 hz3 ⊢
    have k0 : X.cell? ⟨w.heap.size, 0, none⟩ = some (.slice A1 n1 c1) := hk4.cell 0
    have k1 : X.cell? ⟨w.heap.size, 1, none⟩ = some (.slice A2 n2 c2) := hk4.cell 1
    have k2 : X.cell? ⟨w.heap.size, 2, none⟩ = some (.slice A3 n3 c3) := hk4.cell 2
    have HX := Lib.hid (And.intro hb4 hf4)
    clear hb4 hk4 hf4
    go_wp2_with fail
    refine (HR.out X HX.out.1).mono ?_
    rintro e w5 ⟨A', c', rfl, hb5, -, -, -⟩
    rw [HQ.out]
    dsimp only
    obtain ⟨hb4, hf4⟩ := HX.out
    have hx6 : Below X.heap.size X (w5.alloc (.cells #[.int .i64 qc, .int .i64 qa] 29)) := hb5.alloc hb5.size _
    have hb6 := hb4.trans (hx6.mono hb4.size)
    have hf6 := hf4.below hx6 hz3
    have hg6 := Blk.new w5 29 #[.int .i64 qc, .int .i64 qa]
    clear hb4 hf4 hx6 hb5 HX k0 k1 k2 hz3
    go_upto_region 3 with fail
    generalize w5.alloc (.cells #[.int .i64 qc, .int .i64 qa] 29) = Y at hb6 hf6 hg6 ⊢
    generalize w5.heap.size = G2 at hg6 ⊢
    have p0 : Y.cell? ⟨G, 0, none⟩ = some (.int .i64 qc) := hf6.cell 0
    have p1 : Y.cell? ⟨G, 1, none⟩ = some (.int .i64 qa) := hf6.cell 1
    have q0 : Y.cell? ⟨G2, 0, none⟩ = some (.int .i64 qc) := hg6.cell 0
    have q1 : Y.cell? ⟨G2, 1, none⟩ = some (.int .i64 qa) := hg6.cell 1
    have HB := Lib.hid hb6
    clear hb6 hf6 hg6
    go_wp2_with fail
    go_ret
    exact ⟨ret_bool (by simp), HB.out⟩
end Go.Proofs.Ytggkfepifnfdoaa
