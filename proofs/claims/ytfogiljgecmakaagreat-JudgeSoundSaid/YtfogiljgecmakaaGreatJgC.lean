/- Walk: the law JudgeSound (printed by genJgC.py). -/
import Derived.Test.YtfogiljgecmakaaGreatEWT
import Derived.Test.YtfogiljgecmakaaGreatJgRS
import Derived.Test.YtfogiljgecmakaaGreatOuO
namespace Go.Proofs.YtfogiljgecmakaaGreat
open Go.RowKit

theorem holdsF_fault {F : FormD} {M : ModelD} {b : Bool} {c a : Int} (h : holdsF F M = (b, c, a)) (hc : ¬ c = 0) : b = false := by
  unfold holdsF at h
  split at h
  · exact absurd (Prod.mk.inj (Prod.mk.inj h).2).1.symm hc
  · exact (Prod.mk.inj h).1.symm
theorem holdsF_fine {F : FormD} {M : ModelD} {b : Bool} {a : Int} (h : holdsF F M = (b, 0, a)) : a = 0 := by
  unfold holdsF at h
  split at h
  · exact (Prod.mk.inj (Prod.mk.inj h).2).2.symm
  · rename_i hn
    exact absurd (Prod.mk.inj (Prod.mk.inj h).2).1 hn

set_option maxRecDepth 100000 in
set_option maxHeartbeats 8000000 in
theorem judgeSound_any (A1 A2 A3 A4 : Option Addr) (n1 c1 n2 c2 n3 c3 n4 c4 : Nat) (F : FormD) (B1 B2 B3 : Option Addr) (k1 e1 k2 e2 k3 e3 : Nat) (M : ModelD) (A : Option Addr) (n c : Nat) (l : List StepD) (w : World)
    (hF : FormB w w.heap.size A1 A2 A3 A4 n1 n2 n3 n4 F) (hc1 : n1 ≤ c1) (hc3 : n3 ≤ c3) (hc3m : c3 ≤ maxLen) (hM : ModelB w w.heap.size B1 B2 B3 k1 k2 k3 M) (hl : ArrB AtStep 9 w w.heap.size A n l) :
    Calls Tryz.prog 4 #[.agg #[.slice A1 n1 c1, .slice A2 n2 c2, .slice A3 n3 c3, .slice A4 n4 c4], .agg #[.slice B1 k1 e1, .slice B2 k2 e2, .slice B3 k3 e3], .slice A n c] w fun e w' => e = .returned (.bool true) ∧ Below w.heap.size w w' := by
  obtain ⟨hb, hc, ha, hH⟩ : ∃ (b : Bool) (c a : Int), holdsF F M = (b, c, a) := ⟨_, _, _, rfl⟩
  obtain ⟨q, qc, qa, hW⟩ : ∃ (q qc qa : Int), whyJ F l = (q, qc, qa) := ⟨_, _, _, rfl⟩
  have hx := holdsF_fault hH
  have hy : ¬ qc = 0 → q = 0 := fun h => by have := whyJ_faulty (F := F) (l := l) (by rw [hW]; exact h); rw [hW] at this; exact this
  have hz : hc = 0 → qc = 0 → hb = true → ¬ q = -1 := fun h1 h2 h3 => by
    subst h1 h2 h3
    have h4 := holdsF_fine hH
    subst h4
    rcases sound_law (l := l) hH with h5 | h5
    · rw [hW] at h5; exact absurd rfl h5
    · rwa [hW] at h5
  have HQ := Lib.hid (And.intro hx (And.intro hy hz))
  clear hx hy hz
  obtain ⟨X, hXa⟩ : ∃ X, (w.alloc (.cells #[.slice A1 n1 c1, .slice A2 n2 c2, .slice A3 n3 c3, .slice A4 n4 c4] 27)).alloc (.cells #[.slice B1 k1 e1, .slice B2 k2 e2, .slice B3 k3 e3] 31) = X := ⟨_, rfl⟩
  have hsa := lay_size [(27, #[.slice A1 n1 c1, .slice A2 n2 c2, .slice A3 n3 c3, .slice A4 n4 c4]), (31, #[.slice B1 k1 e1, .slice B2 k2 e2, .slice B3 k3 e3])] w
  have hba := lay_below [(27, #[.slice A1 n1 c1, .slice A2 n2 c2, .slice A3 n3 c3, .slice A4 n4 c4]), (31, #[.slice B1 k1 e1, .slice B2 k2 e2, .slice B3 k3 e3])] w
  have hka := fun i t c h => lay_blk [(27, #[.slice A1 n1 c1, .slice A2 n2 c2, .slice A3 n3 c3, .slice A4 n4 c4]), (31, #[.slice B1 k1 e1, .slice B2 k2 e2, .slice B3 k3 e3])] w i t c h
  rw [show lay w [(27, #[.slice A1 n1 c1, .slice A2 n2 c2, .slice A3 n3 c3, .slice A4 n4 c4]), (31, #[.slice B1 k1 e1, .slice B2 k2 e2, .slice B3 k3 e3])] = X from hXa] at hsa hba hka
  simp only [List.length_cons, List.length_nil] at hsa
  have HXa := Lib.hid hXa
  clear hXa
  have hF1 := hF.below hba hba.size
  have HT1 : Hid (Calls Tryz.prog 6 #[.agg #[.slice A1 n1 c1, .slice A2 n2 c2, .slice A3 n3 c3, .slice A4 n4 c4], .agg #[.slice B1 k1 e1, .slice B2 k2 e2, .slice B3 k3 e3]] X fun e w' => e = .returned (.tuple #[.bool hb, .agg #[.int .i64 hc, .int .i64 ha]]) ∧ Below X.heap.size X w') :=
    (holds_any A1 A2 A3 A4 n1 c1 n2 c2 n3 c3 n4 c4 B1 B2 B3 k1 e1 k2 e2 k3 e3 F M X hF1 (hM.below hba hba.size) hc1).mono fun e w' h => ⟨by rw [h.1, hH], h.2⟩
  have H1 := Lib.hid (And.intro hba (And.intro hF1 (And.intro (hl.below stays_step hba hba.size) (hka 0 _ _ rfl : Blk X w.heap.size 27 #[.slice A1 n1 c1, .slice A2 n2 c2, .slice A3 n3 c3, .slice A4 n4 c4]))))
  have hszX : w.heap.size + 2 = X.heap.size := hsa.symm
  clear hsa hba hka hF1 hF hM hl hH
  go_enter Tryz.func4, Tryz.ntmps4
  go_wp2_with fail
  rw [HXa.out]
  clear HXa
  refine HT1.out.mono ?_
  rintro e w1 ⟨rfl, hb1⟩
  clear HT1
  obtain ⟨E1, hXb⟩ : ∃ X, w1.alloc (.cells #[.int .i64 hc, .int .i64 ha] 33) = X := ⟨_, rfl⟩
  have hsb := lay_size [(33, #[.int .i64 hc, .int .i64 ha])] w1
  have hbb := lay_below [(33, #[.int .i64 hc, .int .i64 ha])] w1
  have hkb := fun i t c h => lay_blk [(33, #[.int .i64 hc, .int .i64 ha])] w1 i t c h
  rw [show lay w1 [(33, #[.int .i64 hc, .int .i64 ha])] = E1 from hXb] at hsb hbb hkb
  simp only [List.length_cons, List.length_nil] at hsb
  have HXb := Lib.hid hXb
  clear hXb
  have hbE : Below X.heap.size X E1 := hb1.trans (hbb.mono hb1.size)
  have hW2 : Hid (Calls Tryz.prog 10 #[.agg #[.slice A1 n1 c1, .slice A2 n2 c2, .slice A3 n3 c3, .slice A4 n4 c4], .slice A n c] E1 fun e w' => e = .returned (.tuple #[.bool (decide (q = -1)), .agg #[.int .i64 qc, .int .i64 qa]]) ∧ Below E1.heap.size E1 w') :=
    take_any A1 A2 A3 A4 n1 c1 n2 c2 n3 c3 n4 c4 F A n c l q qc qa E1 (H1.out.2.1.below hbE hbE.size) hc1 hc3 hc3m (H1.out.2.2.1.below stays_step hbE hbE.size) hW
  have kf : Blk w1 w.heap.size 27 #[.slice A1 n1 c1, .slice A2 n2 c2, .slice A3 n3 c3, .slice A4 n4 c4] := H1.out.2.2.2.below hb1 (by omega)
  have g0 : w1.cell? ⟨w.heap.size, 0, none⟩ = some (.slice A1 n1 c1) := kf.cell 0
  have g1 : w1.cell? ⟨w.heap.size, 1, none⟩ = some (.slice A2 n2 c2) := kf.cell 1
  have g2 : w1.cell? ⟨w.heap.size, 2, none⟩ = some (.slice A3 n3 c3) := kf.cell 2
  have g3 : w1.cell? ⟨w.heap.size, 3, none⟩ = some (.slice A4 n4 c4) := kf.cell 3
  have gz : w.heap.size < w1.heap.size := kf.lt
  have H2 := Lib.hid (And.intro (H1.out.1.trans (hbE.mono H1.out.1.size)) (hkb 0 _ _ rfl : Blk E1 w1.heap.size 33 #[.int .i64 hc, .int .i64 ha]))
  have hszE : w1.heap.size + 1 = E1.heap.size := hsb.symm
  clear hsb hbb hkb hbE kf hb1 H1 hW
  go_wp2_with fail
  rw [HXb.out]
  clear HXb g0 g1 g2 g3 gz
  refine hW2.out.mono ?_
  rintro e w2 ⟨rfl, hb2⟩
  clear hW2
  obtain ⟨E2, hXc⟩ : ∃ X, w2.alloc (.cells #[.int .i64 qc, .int .i64 qa] 33) = X := ⟨_, rfl⟩
  have hsc := lay_size [(33, #[.int .i64 qc, .int .i64 qa])] w2
  have hbc := lay_below [(33, #[.int .i64 qc, .int .i64 qa])] w2
  have hkc := fun i t c h => lay_blk [(33, #[.int .i64 qc, .int .i64 qa])] w2 i t c h
  rw [show lay w2 [(33, #[.int .i64 qc, .int .i64 qa])] = E2 from hXc] at hsc hbc hkc
  simp only [List.length_cons, List.length_nil] at hsc
  have HXc := Lib.hid hXc
  clear hXc
  have ka : Blk w2 w1.heap.size 33 #[.int .i64 hc, .int .i64 ha] := H2.out.2.below hb2 (by omega)
  have d0 : w2.cell? ⟨w1.heap.size, 0, none⟩ = some (.int .i64 hc) := ka.cell 0
  have dz : w1.heap.size < w2.heap.size := ka.lt
  have hwE := H2.out.1.trans ((hb2.trans (hbc.mono hb2.size)).mono (by have := H2.out.1.size; omega))
  have H3 := Lib.hid (And.intro hwE (And.intro (ka.below hbc (by omega)) (hkc 0 _ _ rfl : Blk E2 w2.heap.size 33 #[.int .i64 qc, .int .i64 qa])))
  have hszF : w2.heap.size + 1 = E2.heap.size := hsc.symm
  clear hsc hbc hkc ka hwE hb2 H2
  generalize hbq : decide (q = -1) = b
  have hbq1 : b = true → q = -1 := fun e => by rw [e] at hbq; exact of_decide_eq_true hbq
  by_cases hc0 : hc = 0
  · subst hc0
    by_cases hq0 : qc = 0
    · subst hq0
      have hno : ¬ (hb = true ∧ b = true) := fun h => HQ.out.2.2 rfl rfl h.1 (hbq1 h.2)
      clear HQ hbq1 hbq
      cases hb <;> cases b
      · go_wp2_with fail
        rw [HXc.out]
        refine (judgeSure_any _).mono ?_
        rintro e w3 ⟨rfl, hb3⟩
        have f0 : w3.cell? ⟨w1.heap.size, 0, none⟩ = some (.int .i64 0) := (H3.out.2.1.below hb3 (by omega)).cell 0
        have f1 : w3.cell? ⟨w2.heap.size, 0, none⟩ = some (.int .i64 0) := (H3.out.2.2.below hb3 (by omega)).cell 0
        have HB := Lib.hid (H3.out.1.trans (hb3.mono H3.out.1.size))
        clear hb3 H3
        go_wp2_with fail
        go_ret
        exact ⟨rfl, HB.out⟩
      · go_wp2_with fail
        rw [HXc.out]
        refine (judgeSure_any _).mono ?_
        rintro e w3 ⟨rfl, hb3⟩
        have f0 : w3.cell? ⟨w1.heap.size, 0, none⟩ = some (.int .i64 0) := (H3.out.2.1.below hb3 (by omega)).cell 0
        have f1 : w3.cell? ⟨w2.heap.size, 0, none⟩ = some (.int .i64 0) := (H3.out.2.2.below hb3 (by omega)).cell 0
        have HB := Lib.hid (H3.out.1.trans (hb3.mono H3.out.1.size))
        clear hb3 H3
        go_wp2_with fail
        go_ret
        exact ⟨rfl, HB.out⟩
      · go_wp2_with fail
        rw [HXc.out]
        refine (judgeSure_any _).mono ?_
        rintro e w3 ⟨rfl, hb3⟩
        have f0 : w3.cell? ⟨w1.heap.size, 0, none⟩ = some (.int .i64 0) := (H3.out.2.1.below hb3 (by omega)).cell 0
        have f1 : w3.cell? ⟨w2.heap.size, 0, none⟩ = some (.int .i64 0) := (H3.out.2.2.below hb3 (by omega)).cell 0
        have HB := Lib.hid (H3.out.1.trans (hb3.mono H3.out.1.size))
        clear hb3 H3
        go_wp2_with fail
        go_ret
        exact ⟨rfl, HB.out⟩
      · exact absurd ⟨rfl, rfl⟩ hno
    · have hb0 : b = false := by
        cases b with
        | false => rfl
        | true => have h1 := HQ.out.2.1 hq0; have h2 := hbq1 rfl; omega
      subst hb0
      have hqb : (qc != 0) = true := by rw [bne_iff_ne]; exact hq0
      clear HQ hbq1 hbq hq0
      cases hb
      · go_wp2_with fail
        rw [HXc.out]
        refine (judgeSure_any _).mono ?_
        rintro e w3 ⟨rfl, hb3⟩
        have f0 : w3.cell? ⟨w1.heap.size, 0, none⟩ = some (.int .i64 0) := (H3.out.2.1.below hb3 (by omega)).cell 0
        have f1 : w3.cell? ⟨w2.heap.size, 0, none⟩ = some (.int .i64 qc) := (H3.out.2.2.below hb3 (by omega)).cell 0
        have HB := Lib.hid (H3.out.1.trans (hb3.mono H3.out.1.size))
        clear hb3 H3
        go_wp2_with fail
        go_ret
        exact ⟨rfl, HB.out⟩
      · go_wp2_with fail
        rw [HXc.out]
        refine (judgeSure_any _).mono ?_
        rintro e w3 ⟨rfl, hb3⟩
        have f0 : w3.cell? ⟨w1.heap.size, 0, none⟩ = some (.int .i64 0) := (H3.out.2.1.below hb3 (by omega)).cell 0
        have f1 : w3.cell? ⟨w2.heap.size, 0, none⟩ = some (.int .i64 qc) := (H3.out.2.2.below hb3 (by omega)).cell 0
        have HB := Lib.hid (H3.out.1.trans (hb3.mono H3.out.1.size))
        clear hb3 H3
        go_wp2_with fail
        go_ret
        exact ⟨rfl, HB.out⟩
  · have hf := HQ.out.1 hc0
    subst hf
    have hcb : (hc != 0) = true := by rw [bne_iff_ne]; exact hc0
    cases b with
    | false =>
      clear HQ hbq1 hbq hc0
      go_wp2_with fail
      rw [HXc.out]
      refine (judgeSure_any _).mono ?_
      rintro e w3 ⟨rfl, hb3⟩
      have f0 : w3.cell? ⟨w1.heap.size, 0, none⟩ = some (.int .i64 hc) := (H3.out.2.1.below hb3 (by omega)).cell 0
      have f1 : w3.cell? ⟨w2.heap.size, 0, none⟩ = some (.int .i64 qc) := (H3.out.2.2.below hb3 (by omega)).cell 0
      have HB := Lib.hid (H3.out.1.trans (hb3.mono H3.out.1.size))
      clear hb3 H3
      go_wp2_with fail
      go_ret
      exact ⟨rfl, HB.out⟩
    | true =>
      have hqc : qc = 0 := Decidable.byContradiction fun e => by have h1 := HQ.out.2.1 e; have h2 := hbq1 rfl; omega
      subst hqc
      clear HQ hbq1 hbq hc0
      go_wp2_with fail
      rw [HXc.out]
      refine (judgeSure_any _).mono ?_
      rintro e w3 ⟨rfl, hb3⟩
      have f0 : w3.cell? ⟨w1.heap.size, 0, none⟩ = some (.int .i64 hc) := (H3.out.2.1.below hb3 (by omega)).cell 0
      have f1 : w3.cell? ⟨w2.heap.size, 0, none⟩ = some (.int .i64 0) := (H3.out.2.2.below hb3 (by omega)).cell 0
      have HB := Lib.hid (H3.out.1.trans (hb3.mono H3.out.1.size))
      clear hb3 H3
      go_wp2_with fail
      go_ret
      exact ⟨rfl, HB.out⟩
end Go.Proofs.YtfogiljgecmakaaGreat
