/- Walk: the law JudgeTakeSays (printed by genJwX.py). -/
import Derived.Test.YthjfiomcpihlaaaGreatJwUV
import Derived.Test.YthjfiomcpihlaaaGreatJuTS
namespace Go.Proofs.YthjfiomcpihlaaaGreat
open Go.RowKit

set_option maxRecDepth 100000 in
set_option maxHeartbeats 8000000 in
theorem judgeTakeSays_any (A1 A2 A3 A4 : Option Addr) (n1 c1 n2 c2 n3 c3 n4 c4 : Nat) (F : FormD) (A : Option Addr) (n c : Nat) (l : List StepD) (w : World) (hF : FormB w w.heap.size A1 A2 A3 A4 n1 n2 n3 n4 F) (hc1 : n1 ≤ c1) (hc3 : n3 ≤ c3) (hc3m : c3 ≤ maxLen) (hc4 : n4 ≤ c4) (hc4m : c4 ≤ maxLen)
    (hl : ArrB AtStep 9 w w.heap.size A n l) :
    Calls Tryz.prog 4 #[.agg #[.slice A1 n1 c1, .slice A2 n2 c2, .slice A3 n3 c3, .slice A4 n4 c4], .slice A n c] w fun e w' => e = .returned (.bool true) ∧ Below w.heap.size w w' := by
  rcases hR : whyJ F l with ⟨q, qc, qa⟩
  have hb0 : Below w.heap.size w (w.alloc (.cells #[.slice A1 n1 c1, .slice A2 n2 c2, .slice A3 n3 c3, .slice A4 n4 c4] 27)) := (Below.refl _ _).alloc (Nat.le_refl _) _
  have hk0 := Blk.new w 27 #[.slice A1 n1 c1, .slice A2 n2 c2, .slice A3 n3 c3, .slice A4 n4 c4]
  have HC := Lib.hid (fun (W : World) (hbW : Below w.heap.size w W) => take_any A1 A2 A3 A4 n1 c1 n2 c2 n3 c3 n4 c4 F A n c l q qc qa W (hF.below hbW hbW.size) hc1 hc3 hc3m (hl.below stays_step hbW hbW.size) hR)
  have HD := Lib.hid (fun (W : World) (hbW : Below w.heap.size w W) => refWhy_any A1 A2 A3 A4 n1 c1 n2 c2 n3 c3 n4 c4 F A n c l q qc qa W (hF.below hbW hbW.size) hc1 hc3 hc3m hc4 hc4m (hl.below stays_step hbW hbW.size) hR)
  have hq0 : ¬ qc = 0 → q = 0 := fun h => by have := whyJ_faulty (F := F) (l := l) (by rw [hR]; exact h); rw [hR] at this; exact this
  obtain ⟨b1, hb1⟩ : ∃ b, (qc == 0) = b := ⟨_, rfl⟩
  obtain ⟨b2, hb2⟩ : ∃ b, decide (q = -1) = b := ⟨_, rfl⟩
  have hb3 : (q == -1) = b2 := by rw [← hb2, Bool.eq_iff_iff]; simp
  have HQ : Hid (b1 = false → b2 = false) := fun h => by
    rw [← hb1] at h
    have h1 : ¬ qc = 0 := by simpa using h
    rw [← hb2, hq0 h1]
    rfl
  have HB := Lib.hid (And.intro hb1 (And.intro hb2 hb3))
  clear hq0 hb1 hb2 hb3
  have HW := Lib.hid (And.intro hb0 hk0)
  clear hF hl hR hb0 hk0 hc1 hc3 hc3m hc4 hc4m
  go_enter Tryz.func4, Tryz.ntmps4
  by_cases hmid : 60 < n ∧ n ≤ 3000
  · obtain ⟨h1, h2⟩ := hmid
    have h1I : (60 : Int) < (n : Int) := by omega
    have h2I : (n : Int) ≤ (3000 : Int) := by omega
    go_wp2_with fail
    go_ret
    exact ⟨rfl, HW.out.1⟩
  · obtain ⟨X0, hX0⟩ : ∃ X, w.alloc (.cells #[.slice A1 n1 c1, .slice A2 n2 c2, .slice A3 n3 c3, .slice A4 n4 c4] 27) = X := ⟨_, rfl⟩
    rw [hX0] at HW
    have HX0 := Lib.hid hX0
    clear hX0
    have hT : ((60 : Int) < (n : Int) ∧ ¬ (n : Int) ≤ (3000 : Int)) ∨ ¬ (60 : Int) < (n : Int) := by omega
    clear hmid
    go_upto_region 1 with fail
    rw [HX0.out]
    clear HX0
    go_cut [16] (fun s16 wx => s16 = .bool false ∧ wx = X0)
    case first =>
      rcases hT with ⟨h1, h2⟩ | h1
      · go_wp2_with fail
        go_meet
        exact ⟨rfl, rfl⟩
      · go_wp2_with fail
        go_meet
        exact ⟨rfl, rfl⟩
    case rest =>
      obtain ⟨rfl, rfl⟩ := hcut
      obtain ⟨X0, rfl⟩ : ∃ X : World, X = wc := ⟨_, rfl⟩
      clear hT
      have e0 : X0.cell? ⟨w.heap.size, 0, none⟩ = some (.slice A1 n1 c1) := HW.out.2.cell 0
      have e1 : X0.cell? ⟨w.heap.size, 1, none⟩ = some (.slice A2 n2 c2) := HW.out.2.cell 1
      have e2 : X0.cell? ⟨w.heap.size, 2, none⟩ = some (.slice A3 n3 c3) := HW.out.2.cell 2
      have e3 : X0.cell? ⟨w.heap.size, 3, none⟩ = some (.slice A4 n4 c4) := HW.out.2.cell 3
      go_wp2_with fail
      refine (HC.out _ HW.out.1).mono ?_
      rintro e w1 ⟨rfl, hb1⟩
      obtain ⟨X1, hX1⟩ : ∃ X, w1.alloc (.cells #[.int .i64 qc, .int .i64 qa] 30) = X := ⟨_, rfl⟩
      have hbX1 : Below X0.heap.size X0 X1 := by rw [← hX1]; exact hb1.alloc hb1.size _
      have hk1 : Blk X1 w1.heap.size 30 #[.int .i64 qc, .int .i64 qa] := by rw [← hX1]; exact Blk.new w1 _ _
      obtain ⟨g1, hg1⟩ : ∃ g, w1.heap.size = g := ⟨_, rfl⟩
      rw [hg1] at hk1
      have H1 : Hid (Below w.heap.size w X1 ∧ Blk X1 w.heap.size 27 #[.slice A1 n1 c1, .slice A2 n2 c2, .slice A3 n3 c3, .slice A4 n4 c4] ∧ Blk X1 g1 30 #[.int .i64 qc, .int .i64 qa]) := ⟨HW.out.1.trans (hbX1.mono HW.out.1.size), HW.out.2.below hbX1 HW.out.2.lt, hk1⟩
      have HX1 := Lib.hid (And.intro hX1 hg1)
      clear hX1 hg1 hb1 hbX1 hk1 e0 e1 e2 e3 HC HW
      have e0 : X1.cell? ⟨w.heap.size, 0, none⟩ = some (.slice A1 n1 c1) := H1.out.2.1.cell 0
      have e1 : X1.cell? ⟨w.heap.size, 1, none⟩ = some (.slice A2 n2 c2) := H1.out.2.1.cell 1
      have e2 : X1.cell? ⟨w.heap.size, 2, none⟩ = some (.slice A3 n3 c3) := H1.out.2.1.cell 2
      have e3 : X1.cell? ⟨w.heap.size, 3, none⟩ = some (.slice A4 n4 c4) := H1.out.2.1.cell 3
      go_upto_region 4 with fail
      rw [HX1.out.1, HX1.out.2]
      clear HX1
      go_wp2_with fail
      refine (HD.out _ H1.out.1).mono ?_
      rintro e w2 ⟨rfl, hb2⟩
      obtain ⟨X2, hX2⟩ : ∃ X, w2.alloc (.cells #[.int .i64 qc, .int .i64 qa] 30) = X := ⟨_, rfl⟩
      have hbX2 : Below X1.heap.size X1 X2 := by rw [← hX2]; exact hb2.alloc hb2.size _
      have hk2 : Blk X2 w2.heap.size 30 #[.int .i64 qc, .int .i64 qa] := by rw [← hX2]; exact Blk.new w2 _ _
      obtain ⟨g2, hg2⟩ : ∃ g, w2.heap.size = g := ⟨_, rfl⟩
      rw [hg2] at hk2
      have H2 : Hid (Below w.heap.size w X2 ∧ Blk X2 g1 30 #[.int .i64 qc, .int .i64 qa] ∧ Blk X2 g2 30 #[.int .i64 qc, .int .i64 qa]) := ⟨H1.out.1.trans (hbX2.mono H1.out.1.size), H1.out.2.2.below hbX2 H1.out.2.2.lt, hk2⟩
      have HX2 := Lib.hid (And.intro hX2 hg2)
      clear hX2 hg2 hb2 hbX2 hk2 e0 e1 e2 e3 HD H1
      go_upto_region 5 with fail
      rw [HX2.out.1, HX2.out.2]
      clear HX2
      have f10 : X2.cell? ⟨g1, 0, none⟩ = some (.int .i64 qc) := H2.out.2.1.cell 0
      have f11 : X2.cell? ⟨g1, 1, none⟩ = some (.int .i64 qa) := H2.out.2.1.cell 1
      have f20 : X2.cell? ⟨g2, 0, none⟩ = some (.int .i64 qc) := H2.out.2.2.cell 0
      have f21 : X2.cell? ⟨g2, 1, none⟩ = some (.int .i64 qa) := H2.out.2.2.cell 1
      obtain ⟨hb1, hb2, hb3⟩ := HB.out
      cases b1 with
      | false =>
        obtain rfl := HQ.out rfl
        go_wp2_with fail
        refine (judgeSure_any _).mono ?_
        rintro e w4 ⟨rfl, hb4⟩
        have HB4 := Lib.hid (H2.out.1.trans (hb4.mono H2.out.1.size))
        clear hb4
        go_wp2_with fail
        go_ret
        exact ⟨rfl, HB4.out⟩
      | true =>
        cases b2
        all_goals
          go_wp2_with fail
          refine (judgeSure_any _).mono ?_
          rintro e w4 ⟨rfl, hb4⟩
          have HB4 := Lib.hid (H2.out.1.trans (hb4.mono H2.out.1.size))
          clear hb4
          go_wp2_with fail
          go_ret
          exact ⟨rfl, HB4.out⟩
end Go.Proofs.YthjfiomcpihlaaaGreat
