/- Walk: the reference's Step, whatever kind (JudgeWhySays). · Walk: the reference's JudgeWhy: what whyJ says (JudgeWhySays; printed by genJwV.py). -/
import Derived.Test.YthjfiomcpihlaaaGreatJwT02
import Derived.Test.YthjfiomcpihlaaaGreatJwT1
import Derived.Test.YthjfiomcpihlaaaGreatJwT36
import Derived.Test.YthjfiomcpihlaaaGreatJwT4
import Derived.Test.YthjfiomcpihlaaaGreatJwT5
import Derived.Test.YthjfiomcpihlaaaGreatEEWh
import Derived.Test.YthjfiomcpihlaaaGreatCFB
namespace Go.Proofs.YthjfiomcpihlaaaGreat
open Go.RowKit

theorem refStep_any (G : Nat) (A1 : Option Addr) (c1 : Nat) (A2 : Option Addr) (c2 : Nat) (v2 v3 : Value) (A4 : Option Addr) (c4 : Nat) (A5 : Option Addr) (c5 : Nat) (ts : List TermD) (ints : List Bool) (s : JSt) (m0 : Nat) (v : Value) (x : StepD) (B : Nat) (w : World)
    (h : RefM w G A1 c1 A2 c2 v2 v3 A4 c4 A5 c5 ts ints s) (hinv : JInv ts ints s m0) (hm0 : m0 ≤ 4000) (hin : StepIn w B v x) (hk : I64 x.kind) (hB : B ≤ G) :
    Calls Tryz.prog 15 #[.pointer (some ⟨G, 0, none⟩), v] w (StepQ G A1 c1 A2 c2 v2 v3 ts ints (stepJ ts ints s x) w) := by
  obtain ⟨⟨L, nl, cl, M, nm, cm, O, no, co, rfl, h1, h2, h3, h4, h5, h6, h7⟩, hi⟩ := hin
  have hG := h.blk.lt
  have hS : ∀ b, b < B → b < w.heap.size ∧ b ≠ G := fun b hb => ⟨by omega, by omega⟩
  have k1 := h1.keep stays_int hS (fun _ _ _ => rfl)
  have k4 := h4.keep stays_frac hS (fun _ _ _ => rfl)
  have k5 := h5.keep stays_int hS (fun _ _ _ => rfl)
  have hr := stepR_eq ts ints s x
  by_cases e1 : x.kind = 1
  · exact refStep1_any G A1 c1 A2 c2 v2 v3 A4 c4 A5 c5 ts ints s L nl cl M nm cm O no co x w m0 _ h k1 k4 k5 hinv hm0 h2 h3 h6 h7 ⟨hk, hi⟩ hr e1
  by_cases e2 : x.kind = 2
  · exact refStep2_any G A1 c1 A2 c2 v2 v3 A4 c4 A5 c5 ts ints s L nl cl M nm cm O no co x w m0 _ h k1 k4 k5 hinv hm0 h2 h3 h6 h7 ⟨hk, hi⟩ hr e2
  by_cases e3 : x.kind = 3
  · exact refStep3_any G A1 c1 A2 c2 v2 v3 A4 c4 A5 c5 ts ints s L nl cl M nm cm O no co x w m0 _ h k1 k4 k5 hinv hm0 h2 h3 h6 h7 ⟨hk, hi⟩ hr e3
  by_cases e4 : x.kind = 4
  · exact refStep4_any G A1 c1 A2 c2 v2 v3 A4 c4 A5 c5 ts ints s L nl cl M nm cm O no co x w m0 _ h k1 k4 k5 hinv hm0 h2 h3 h6 h7 ⟨hk, hi⟩ hr e4
  by_cases e5 : x.kind = 5
  · exact refStep5_any G A1 c1 A2 c2 v2 v3 A4 c4 A5 c5 ts ints s L nl cl M nm cm O no co x w m0 _ h k1 k4 k5 hinv hm0 h2 h3 h6 h7 ⟨hk, hi⟩ hr e5
  by_cases e6 : x.kind = 6
  · exact refStep6_any G A1 c1 A2 c2 v2 v3 A4 c4 A5 c5 ts ints s L nl cl M nm cm O no co x w m0 _ h k1 k4 k5 hinv hm0 h2 h3 h6 h7 ⟨hk, hi⟩ hr e6
  exact refStep0_any G A1 c1 A2 c2 v2 v3 A4 c4 A5 c5 ts ints s L nl cl M nm cm O no co x w m0 _ h k1 k4 k5 hinv hm0 h2 h3 h6 h7 ⟨hk, hi⟩ hr ⟨e1, e2, e3, e4, e5, e6⟩
end Go.Proofs.YthjfiomcpihlaaaGreat
namespace Go.Proofs.YthjfiomcpihlaaaGreat
open Go.RowKit

set_option maxRecDepth 100000 in
set_option maxHeartbeats 16000000 in
theorem refWhy_any (A1 A2 A3 A4 : Option Addr) (n1 c1 n2 c2 n3 c3 n4 c4 : Nat) (F : FormD) (A : Option Addr) (n c : Nat) (l : List StepD) (q qc qa : Int) (w : World) (hF : FormB w w.heap.size A1 A2 A3 A4 n1 n2 n3 n4 F) (hc1 : n1 ≤ c1) (hc3 : n3 ≤ c3) (hc3m : c3 ≤ maxLen) (hc4 : n4 ≤ c4) (hc4m : c4 ≤ maxLen)
    (hl : ArrB AtStep 9 w w.heap.size A n l) (hR : whyJ F l = (q, qc, qa)) :
    Calls Tryz.prog 6 #[.agg #[.slice A1 n1 c1, .slice A2 n2 c2, .slice A3 n3 c3, .slice A4 n4 c4], .slice A n c] w fun e w' => e = .returned (.tuple #[.int .i64 q, .agg #[.int .i64 qc, .int .i64 qa]]) ∧ Below w.heap.size w w' := by
  have hlen := hl.len
  rcases hf : formF F with ⟨fc, fa⟩
  obtain ⟨hb0, hbk0, hbf0, hs0⟩ := two_boxes w 27 30 #[.slice A1 n1 c1, .slice A2 n2 c2, .slice A3 n3 c3, .slice A4 n4 c4] #[.int .i64 0, .int .i64 0]
  have HC := Lib.hid (fun W (hbW : Below w.heap.size w W) => formFault_any A1 A2 A3 A4 n1 c1 n2 c2 n3 c3 n4 c4 F fc fa W (hF.below hbW hbW.size) hf)
  have hR1 : ¬ fc = 0 → q = 0 ∧ qc = fc ∧ qa = fa := fun h => by rw [whyJ, hf, if_pos h] at hR; simp only [Prod.mk.injEq] at hR; exact ⟨hR.1.symm, hR.2.1.symm, hR.2.2.symm⟩
  have hR2 : fc = 0 → 3000 < n → q = 0 ∧ qc = 2 ∧ qa = -1 := fun h h2 => by rw [whyJ, hf, if_neg (by simp [h]), hlen, if_pos h2] at hR; simp only [Prod.mk.injEq] at hR; exact ⟨hR.1.symm, hR.2.1.symm, hR.2.2.symm⟩
  have hR3 : fc = 0 → ¬ 3000 < n → runJ F.terms F.ints ⟨F.atoms, F.clauses⟩ l 0 = q ∧ qc = 0 ∧ qa = 0 := fun h h2 => by rw [whyJ, hf, if_neg (by simp [h]), hlen, if_neg h2] at hR; simp only [Prod.mk.injEq] at hR; exact ⟨hR.1, hR.2.1.symm, hR.2.2.symm⟩
  have H1 := Lib.hid hR1
  have H2 := Lib.hid hR2
  have H3 := Lib.hid hR3
  have HF := Lib.hid (And.intro hF (And.intro hc1 (And.intro (And.intro hc3 hc3m) (And.intro (And.intro hc4 hc4m) (And.intro hl hf)))))
  have HW := Lib.hid (And.intro hb0 (And.intro hbk0 (And.intro hbf0 hs0)))
  clear hR hR1 hR2 hR3 hF hl hb0 hbk0 hbf0 hs0 hf hlen
  go_enter Tryz.func6, Tryz.ntmps6
  go_wp2_with fail
  refine (HC.out _ HW.out.1).mono ?_
  rintro e w1 ⟨rfl, hb1⟩
  have hz1 := hb1.size
  have hz0 := HW.out.2.2.2
  rw [hz0] at hz1
  have hbw1 : Below w.heap.size w w1 := HW.out.1.trans (hb1.mono (by rw [hz0]; omega))
  have k1 : Blk w1 w.heap.size 27 #[.slice A1 n1 c1, .slice A2 n2 c2, .slice A3 n3 c3, .slice A4 n4 c4] := HW.out.2.1.below hb1 (by rw [hz0]; omega)
  have k2 : Blk w1 (w.heap.size + 1) 30 #[.int .i64 0, .int .i64 0] := HW.out.2.2.1.below hb1 (by rw [hz0]; omega)
  have HB1 := Lib.hid (And.intro hbw1 (And.intro k1 k2))
  have f0 : w1.cell? ⟨w.heap.size + 1, 0, none⟩ = some (.int .i64 0) := k2.cell 0
  have f1 : w1.cell? ⟨w.heap.size + 1, 1, none⟩ = some (.int .i64 0) := k2.cell 1
  have f2 : w1.frozen? ⟨w.heap.size + 1, 0, none⟩ = false := k2.frozen 0
  have f3 : w1.frozen? ⟨w.heap.size + 1, 1, none⟩ = false := k2.frozen 1
  have e0 : w1.cell? ⟨w.heap.size, 0, none⟩ = some (.slice A1 n1 c1) := k1.cell 0
  have e1 : w1.cell? ⟨w.heap.size, 1, none⟩ = some (.slice A2 n2 c2) := k1.cell 1
  have e2 : w1.cell? ⟨w.heap.size, 2, none⟩ = some (.slice A3 n3 c3) := k1.cell 2
  have e3 : w1.cell? ⟨w.heap.size, 3, none⟩ = some (.slice A4 n4 c4) := k1.cell 3
  have z1 : w.heap.size + 1 < w1.heap.size := k2.lt
  have z0 : w.heap.size < w1.heap.size := k1.lt
  clear hb1 hbw1 k1 k2 hz0
  by_cases hfc : fc = 0
  · subst hfc
    by_cases hmany : 3000 < n
    · obtain ⟨rfl, rfl, rfl⟩ := H2.out rfl hmany
      have hmI : (3000 : Int) < (n : Int) := by omega
      go_wp2_with fail
      refine bodyPost_ret (v := .tuple #[.int .i64 0, .agg #[.int .i64 2, .int .i64 (-1)]]) (by simp [results, Tryz.results6, go_sem, f0, f1, z1]) rfl ⟨rfl, ?_⟩
      exact ((HB1.out.1.setCell (p := ⟨w.heap.size + 1, 0, none⟩) (by simp) _).setCell (p := ⟨w.heap.size + 1, 1, none⟩) (by simp) _).alloc (by simp; omega) _
    · have hmI : ¬ (3000 : Int) < (n : Int) := by omega
      obtain ⟨hrun, rfl, rfl⟩ := H3.out rfl hmany
      have hinv : JInv F.terms F.ints ⟨F.atoms, F.clauses⟩ 400 := JInv.of_form (by rw [HF.out.2.2.2.2.2])
      have HI := Lib.hid (And.intro hinv hrun)
      have HN3 : Hid (n ≤ 3000) := Nat.le_of_not_lt hmany
      clear hinv hrun
      go_upto_region 7 with fail
      obtain ⟨X2, hX2⟩ : ∃ X, (w1.alloc (.cells #[.int .i64 0, .int .i64 fa] 30)).alloc (.cells #[.slice A1 n1 c1, .slice A2 n2 c2, .slice A3 n3 c3, .slice A4 n4 c4, .slice A3 n3 c3, .slice A4 n4 c4] 55) = X := ⟨_, rfl⟩
      have hbX : Below w1.heap.size w1 X2 := by rw [← hX2]; exact ((Below.refl _ _).alloc (Nat.le_refl _) _).alloc (by simp) _
      have hkG : Blk X2 (w1.heap.size + 1) 55 #[.slice A1 n1 c1, .slice A2 n2 c2, .slice A3 n3 c3, .slice A4 n4 c4, .slice A3 n3 c3, .slice A4 n4 c4] := by
        rw [← hX2]
        have := Blk.new (w1.alloc (.cells #[.int .i64 0, .int .i64 fa] 30)) 55 #[.slice A1 n1 c1, .slice A2 n2 c2, .slice A3 n3 c3, .slice A4 n4 c4, .slice A3 n3 c3, .slice A4 n4 c4]
        rwa [World.size_alloc] at this
      have hbw2 : Below w.heap.size w X2 := HB1.out.1.trans (hbX.mono (by omega))
      have hsz := hbw2.size
      have hS : ∀ b, b < w.heap.size → b < X2.heap.size ∧ b ≠ w1.heap.size + 1 := fun b hb => ⟨by omega, by omega⟩
      have hM : RefM X2 (w1.heap.size + 1) A1 c1 A2 c2 (.slice A3 n3 c3) (.slice A4 n4 c4) A3 c3 A4 c4 F.terms F.ints ⟨F.atoms, F.clauses⟩ := by
        have hF2 := HF.out.1.below hbw2 (Nat.le_refl _)
        have l1 := hF2.terms.len
        have l2 := hF2.ints.len
        have l3 := hF2.atoms.len
        have l4 := hF2.clauses.len
        exact ⟨by rw [l1, l2]; dsimp only; rw [l3, l4]; exact hkG, by rw [l1]; exact hF2.terms.keep stays_term hS (fun _ _ _ => rfl), by rw [l2]; exact hF2.ints.keep stays_bool hS (fun _ _ _ => rfl), by dsimp only; rw [l3]; exact hF2.atoms.keep stays_atom hS (fun _ _ _ => rfl), by dsimp only; rw [l4]; exact hF2.clauses.keep (stays_arr stays_int) hS (fun _ _ _ => rfl), by rw [l1]; exact HF.out.2.1, by dsimp only; rw [l3]; exact HF.out.2.2.1, by dsimp only; rw [l4]; exact HF.out.2.2.2.1, HI.out.1.la⟩
      have HJ := Lib.hid (And.intro hM (And.intro hbw2 (HB1.out.2.2.below hbX z1)))
      have HX2 := Lib.hid hX2
      have hw1 : w.heap.size + 1 < w1.heap.size := z1
      clear hX2 hbX hkG hbw2 hsz hS hM H1 H2 H3 HB1 f0 f1 f2 f3 e0 e1 e2 e3 z1 z0 hmI HC HW hz1 hmany
      rw [HX2.out]
      clear HX2
      go_wp2_with fail
      go_loopw [8] (fun s8 wr => ∃ (k : Nat) (s' : JSt) (A5 : Option Addr) (c5 : Nat) (A6 : Option Addr) (c6 : Nat), s8 = .int .i64 (k : Int) ∧ k ≤ n ∧ Hid (RefM wr (w1.heap.size + 1) A1 c1 A2 c2 (.slice A3 n3 c3) (.slice A4 n4 c4) A5 c5 A6 c6 F.terms F.ints s' ∧ JInv F.terms F.ints s' (400 + k) ∧ runJ F.terms F.ints s' (l.drop k) k = q ∧ Below w.heap.size w wr ∧ Blk wr (w.heap.size + 1) 30 #[.int .i64 0, .int .i64 0])) (fun s8 _ => n - (intOf s8).toNat)
      case atStart => exact ⟨0, _, _, _, _, _, rfl, Nat.zero_le _, HJ.out.1, HI.out.1, HI.out.2, HJ.out.2.1, HJ.out.2.2⟩
      case round =>
        clear HJ HI
        obtain ⟨k, s', A5, c5, A6, c6, rfl, hk, HR⟩ := hrel
        have hG := HR.out.1.blk.lt
        have zf : w.heap.size + 1 < wr.heap.size := HR.out.2.2.2.2.lt
        by_cases hlt : k < n
        · have hltI : (k : Int) < (n : Int) := by omega
          have hln := HF.out.2.2.2.2.1.len
          obtain ⟨b, off, hx, L, nl, cl, M, nm, cm, O, no, co, rfl, hb, q0, q1, q2, q3, q4, q5, q6, q7, q8, hin⟩ := steps_get (HF.out.2.2.2.2.1.below stays_step HR.out.2.2.2.1 (Nat.le_refl _)) hlt
          have hki : I64 l[k].kind := by
            obtain ⟨b', off', -, -, ⟨-, h⟩, -⟩ := HF.out.2.2.2.2.1.at_ k l[k] (List.getElem?_eq_getElem hx)
            exact h
          have hrun := HR.out.2.2.1
          rw [drop_cons hx] at hrun
          generalize l[k] = x at hrun q0 q1 q2 q3 q4 q5 q6 q7 q8 hin hki
          have hbs : b < wr.heap.size := by omega
          have hk3 : k ≤ 3000 := Nat.le_trans hk HN3.out
          have HS := Lib.hid (refStep_any (w1.heap.size + 1) A1 c1 A2 c2 (.slice A3 n3 c3) (.slice A4 n4 c4) A5 c5 A6 c6 F.terms F.ints s' (400 + k) _ x w.heap.size wr HR.out.1 HR.out.2.1 (by omega) hin hki (by omega))
          have HRUN := Lib.hid hrun
          clear hrun hin hki hk3
          go_wp2_with fail
          refine HS.out.mono ?_
          rintro e w' ⟨hg', hno, hyes⟩
          have hbw' : Below w.heap.size w w' := below_then HR.out.2.2.2.1 hg' (by omega) (fun y hy => by injection hy with hy; omega)
          have hkf : Blk w' (w.heap.size + 1) 30 #[.int .i64 0, .int .i64 0] := HR.out.2.2.2.2.grown hg' (fun e => by injection e with e; omega)
          have f0 : w'.cell? ⟨w.heap.size + 1, 0, none⟩ = some (.int .i64 0) := hkf.cell 0
          have f1 : w'.cell? ⟨w.heap.size + 1, 1, none⟩ = some (.int .i64 0) := hkf.cell 1
          have f2 : w'.frozen? ⟨w.heap.size + 1, 0, none⟩ = false := hkf.frozen 0
          have f3 : w'.frozen? ⟨w.heap.size + 1, 1, none⟩ = false := hkf.frozen 1
          have zf' : w.heap.size + 1 < w'.heap.size := hkf.lt
          have HK := Lib.hid (And.intro hbw' hkf)
          clear hg' hbw' hkf
          cases hst : stepJ F.terms F.ints s' x with
          | none =>
            obtain rfl := hno hst
            have hq : q = k := by have := HRUN.out; rw [runJ, hst] at this; exact this.symm
            clear hst hno hyes
            go_wp2_with fail
            refine bodyPost_ret (v := .tuple #[.int .i64 k, .agg #[.int .i64 0, .int .i64 0]]) (by simp [results, Tryz.results6, go_sem, f0, f1]) rfl ⟨by rw [hq], ?_⟩
            exact (HK.out.1.setCell (p := ⟨w.heap.size + 1, 0, none⟩) (by simp) _).setCell (p := ⟨w.heap.size + 1, 1, none⟩) (by simp) _
          | some s2 =>
            obtain ⟨rfl, A7, c7, A8, c8, hm2⟩ := hyes s2 hst
            have hnext : Hid (RefM w' (w1.heap.size + 1) A1 c1 A2 c2 (.slice A3 n3 c3) (.slice A4 n4 c4) A7 c7 A8 c8 F.terms F.ints s2 ∧ JInv F.terms F.ints s2 (400 + (k + 1)) ∧ runJ F.terms F.ints s2 (l.drop (k + 1)) ((k + 1 : Nat) : Int) = q ∧ Below w.heap.size w w' ∧ Blk w' (w.heap.size + 1) 30 #[.int .i64 0, .int .i64 0]) :=
              ⟨hm2, HR.out.2.1.step hst, by have := HRUN.out; rw [runJ, hst] at this; rw [Int.natCast_add]; exact this, HK.out⟩
            clear hm2 hst hno hyes f0 f1 f2 f3
            go_wp2_with fail
            go_roundw
            case rel => exact ⟨k + 1, s2, A7, c7, A8, c8, by go_num, by omega, hnext⟩
            case measure => simp [intOf]; omega
        · obtain rfl : n = k := by omega
          have hrun := HR.out.2.2.1
          rw [List.drop_of_length_le (by have := HF.out.2.2.2.2.1.len; omega), runJ] at hrun
          have q5 : wr.cell? ⟨w1.heap.size + 1, 5, none⟩ = some (.slice A6 s'.cls.length c6) := HR.out.1.blk.cell 5
          have hcw := HR.out.1.cls_
          have hl5 := HR.out.1.l5
          have f0 : wr.cell? ⟨w.heap.size + 1, 0, none⟩ = some (.int .i64 0) := HR.out.2.2.2.2.cell 0
          have f1 : wr.cell? ⟨w.heap.size + 1, 1, none⟩ = some (.int .i64 0) := HR.out.2.2.2.2.cell 1
          have f2 : wr.frozen? ⟨w.heap.size + 1, 0, none⟩ = false := HR.out.2.2.2.2.frozen 0
          have f3 : wr.frozen? ⟨w.heap.size + 1, 1, none⟩ = false := HR.out.2.2.2.2.frozen 1
          have HBW := Lib.hid HR.out.2.2.2.1
          obtain ⟨nc, hnc⟩ : ∃ nc, s'.cls.length = nc := ⟨_, rfl⟩
          rw [hnc] at q5 hcw hl5
          have HCW := Lib.hid hcw
          have hnc6 : nc ≤ c6 := hl5.1
          have hnc7 : nc ≤ 4000 := by have := HR.out.2.1.lc; rw [hnc] at this; have := HN3.out; omega
          obtain ⟨rr, hrr⟩ : ∃ b, (s'.cls.any fun c => decide (c.length = 0)) = b := ⟨_, rfl⟩
          rw [hrr] at hrun
          have HRUN := Lib.hid hrun
          have HRR := Lib.hid hrr
          clear hrun hcw hl5 hnc hrr HR hlt
          go_wp2_with fail
          go_loop [9] (fun s9 => ∃ k2 : Nat, s9 = .int .i64 (k2 : Int) ∧ k2 ≤ nc ∧ Hid (((s'.cls.drop k2).any fun c => decide (c.length = 0)) = rr)) (fun s9 => nc - (intOf s9).toNat)
          case atStart => exact ⟨0, rfl, Nat.zero_le _, HRR⟩
          case round =>
            obtain ⟨k2, rfl, hk2, HK2⟩ := hrel
            by_cases hlt2 : k2 < nc
            · have hlt2I : (k2 : Int) < (nc : Int) := by omega
              obtain ⟨b3, off3, hx3, A9, n9, c9, rfl, hb3, hc3', hnc9, hcm9, har9⟩ := arrs_get HCW.out hlt2
              have e1 := HK2.out
              rw [drop_cons hx3, List.any_cons, har9.len] at e1
              have HE := Lib.hid e1
              clear e1 har9 hx3
              by_cases h9 : n9 = 0
              · have h9b : ((n9 : Int) == 0) = true := by simp; omega
                have h9c : (n9 == 0) = true := by simp; omega
                have hrt : rr = true := by have h1 := HE.out; rw [decide_eq_true h9, Bool.true_or] at h1; exact h1.symm
                have hq : q = -1 := by have := HRUN.out; rw [hrt, if_pos rfl] at this; exact this.symm
                have HQ := Lib.hid hq
                clear h9 hrt hq
                go_wp2_with fail
                refine bodyPost_ret (v := .tuple #[.int .i64 (-1), .agg #[.int .i64 0, .int .i64 0]]) (by simp [results, Tryz.results6, go_sem, f0, f1]) rfl ⟨by rw [HQ.out], ?_⟩
                exact (HBW.out.setCell (p := ⟨w.heap.size + 1, 0, none⟩) (by simp) _).setCell (p := ⟨w.heap.size + 1, 1, none⟩) (by simp) _
              · have h9b : ((n9 : Int) == 0) = false := by simp; omega
                have h9c : (n9 == 0) = false := by simp; omega
                have h1 := HE.out
                rw [decide_eq_false h9, Bool.false_or] at h1
                have HE2 := Lib.hid h1
                clear h1 h9
                go_wp2_with fail
                go_round
                case rel => exact ⟨k2 + 1, by go_num, by omega, HE2⟩
                case measure => simp [intOf]; omega
            · obtain rfl : nc = k2 := by omega
              have e1 := HK2.out
              rw [List.drop_of_length_le (by have := HCW.out.len; omega), List.any_nil] at e1
              have hq : q = n := by have := HRUN.out; rw [← e1, if_neg (by simp)] at this; exact this.symm
              have HQ := Lib.hid hq
              clear hq e1
              go_wp2_with fail
              refine bodyPost_ret (v := .tuple #[.int .i64 n, .agg #[.int .i64 0, .int .i64 0]]) (by simp [results, Tryz.results6, go_sem, f0, f1]) rfl ⟨by rw [HQ.out], ?_⟩
              exact (HBW.out.setCell (p := ⟨w.heap.size + 1, 0, none⟩) (by simp) _).setCell (p := ⟨w.heap.size + 1, 1, none⟩) (by simp) _
  · obtain ⟨rfl, rfl, rfl⟩ := H1.out hfc
    have hq : (qc != 0) = true := by simpa using hfc
    clear hfc
    go_wp2_with fail
    go_region
    all_goals go_wp2_with fail
    all_goals refine bodyPost_ret (v := .tuple #[.int .i64 0, .agg #[.int .i64 qc, .int .i64 qa]]) (by simp [results, Tryz.results6, go_sem, f0, f1, z1]) rfl ⟨rfl, ?_⟩
    all_goals exact below_drawn (((HB1.out.1.setCell (p := ⟨w.heap.size + 1, 0, none⟩) (by simp) _).setCell (p := ⟨w.heap.size + 1, 1, none⟩) (by simp) _).alloc (by simp; omega) _)
end Go.Proofs.YthjfiomcpihlaaaGreat
