/- Walk: judge.Why: what whyJ says. -/
import Derived.Test.YtdncchlfeanlmaaJuEE
import Derived.Test.YtdncchlfeanlmaaForm
namespace Go.Proofs.Ytdncchlfeanlmaa
open Go.RowKit

def AtStep : Ent StepD := fun w S b o x => AtInt w S b o x.kind ∧ AtArr AtInt 1 w S b (o + 1) x.lits ∧ AtArr AtFrac 2 w S b (o + 2) x.nums ∧ AtAtom w S b (o + 3) x.atom
theorem stays_step : Stays AtStep := fun _ _ _ _ _ _ _ hS hk hb h => ⟨stays_int _ _ _ _ _ _ _ hS hk hb h.1, stays_arr stays_int _ _ _ _ _ _ _ hS hk hb h.2.1, stays_arr stays_frac _ _ _ _ _ _ _ hS hk hb h.2.2.1, stays_atom _ _ _ _ _ _ _ hS hk hb h.2.2.2⟩
theorem steps_get {w : World} {B : Nat} {A : Option Addr} {n : Nat} {xs : List StepD} (h : ArrB AtStep 9 w B A n xs) {i : Nat} (hi : i < n) :
    ∃ (b off : Nat) (hx : i < xs.length) (L : Option Addr) (nl cl : Nat) (M : Option Addr) (nm cm : Nat) (O : Option Addr) (no co : Nat), A = some ⟨b, off, none⟩ ∧ b < B ∧ w.cell? ⟨b, off + i * 9, none⟩ = some (.int .i64 xs[i].kind) ∧ w.cell? ⟨b, off + i * 9 + 1, none⟩ = some (.slice L nl cl) ∧ w.cell? ⟨b, off + i * 9 + 2, none⟩ = some (.slice M nm cm) ∧
      w.cell? ⟨b, off + i * 9 + 3, none⟩ = some (.int .i64 xs[i].atom.kind) ∧ w.cell? ⟨b, off + i * 9 + 4, none⟩ = some (.int .i64 xs[i].atom.a) ∧ w.cell? ⟨b, off + i * 9 + 5, none⟩ = some (.int .i64 xs[i].atom.b) ∧
      w.cell? ⟨b, off + i * 9 + 6, none⟩ = some (.slice O no co) ∧ w.cell? ⟨b, off + i * 9 + 7, none⟩ = some (.int .i64 xs[i].atom.row.kind) ∧ w.cell? ⟨b, off + i * 9 + 8, none⟩ = some (.int .i64 xs[i].atom.row.to_) ∧
      StepIn w B (.agg #[.int .i64 xs[i].kind, .slice L nl cl, .slice M nm cm, .int .i64 xs[i].atom.kind, .int .i64 xs[i].atom.a, .int .i64 xs[i].atom.b, .slice O no co, .int .i64 xs[i].atom.row.kind, .int .i64 xs[i].atom.row.to_]) xs[i] := by
  obtain ⟨b, off, hx, e, hb, ⟨k1, i1⟩, ⟨L, nl, cl, k2, h21, h22, h23⟩, ⟨M, nm, cm, k3, h31, h32, h33⟩, ⟨k4, i4⟩, ⟨k5, i5⟩, ⟨k6, i6⟩, ⟨O, no, co, k7, h71, h72, h73⟩, ⟨k8, i8⟩, k9, i9⟩ := Arr.get h hi
  exact ⟨b, off, hx, L, nl, cl, M, nm, cm, O, no, co, e, hb, k1, k2, k3, k4, k5, k6, k7, k8, k9, ⟨⟨L, nl, cl, M, nm, cm, O, no, co, rfl, h23, h21, h22, h33, h73, h71, h72⟩, i4, i5, i6, i8, i9⟩⟩

theorem below_drawn {B : Nat} {a w : World} (h : Below B a w) : Below B a w.drew := ⟨h.os, h.tape, h.output, h.size, h.block⟩
theorem why1_any (A : Option Addr) (n c : Nat) (w : World) :
    Calls Try.prog 20 #[.slice A n c] w fun e w' => e = .returned (.bool (decide (n = 0))) ∧ w' = w := by
  go_enter Try.func20, Try.ntmps20
  go_wp2
  go_ret
  refine ⟨ret_bool ?_, rfl⟩
  rw [Bool.eq_iff_iff]
  simp

theorem judgeM_new {w2 : World} {B : Nat} {A1 A2 A3 A4 A5 : Option Addr} {n1 c1 n2 c2 n3 c3 n4 c4 m c5 : Nat} {F : FormD} (hF : FormB w2 B A1 A2 A3 A4 n1 n2 n3 n4 F) (hc1 : n1 ≤ c1) (hc3 : n3 ≤ c3) (hc3m : c3 ≤ maxLen) (hl3 : F.atoms.length ≤ 120) (hB : B ≤ w2.heap.size)
    (hown : OwnV (VArr AtInt 1) 31 1 w2 B (fun b => b < B) (.slice A5 m c5) F.clauses) :
    JudgeM (w2.alloc (.cells #[.slice A1 n1 c1, .slice A2 n2 c2, .slice A3 n3 c3, .slice A4 n4 c4, .slice A5 m c5] 60)) B w2.heap.size A1 c1 A2 c2 (.slice A4 n4 c4) (.slice A3 n3 c3) (.slice A5 m c5) F.terms F.ints ⟨F.atoms, F.clauses⟩ := by
  have h1 := hF.terms.len
  have h2 := hF.ints.len
  have h3 := hF.atoms.len
  subst h1 h2 h3
  have hb : Below w2.heap.size w2 (w2.alloc (.cells #[.slice A1 F.terms.length c1, .slice A2 F.ints.length c2, .slice A3 F.atoms.length c3, .slice A4 n4 c4, .slice A5 m c5] 60)) := (Below.refl _ _).alloc (Nat.le_refl _) _
  have ht := hF.terms.below stays_term (hb.mono hB) (Nat.le_refl _)
  have hi := hF.ints.below stays_bool (hb.mono hB) (Nat.le_refl _)
  have ha := hF.atoms.below stays_atom (hb.mono hB) (Nat.le_refl _)
  exact ⟨Blk.new _ _ _, ht, hi, hc1, hB, .inl ⟨A3, c3, rfl, hc3, hc3m, ha⟩, hl3, hown.kept (tells_arr stays_int) (only_of_below hb none) (by cases A5 <;> simp [Value.ownBlock]) (fun b hb' => ⟨hb', by omega, by simp⟩), fun e => by have := (hown.lt _ e).2; omega⟩

set_option maxRecDepth 100000 in
set_option maxHeartbeats 8000000 in
theorem why_any (A1 A2 A3 A4 : Option Addr) (n1 c1 n2 c2 n3 c3 n4 c4 : Nat) (F : FormD) (A : Option Addr) (n c : Nat) (l : List StepD) (q qc qa : Int) (w : World) (hF : FormB w w.heap.size A1 A2 A3 A4 n1 n2 n3 n4 F) (hc1 : n1 ≤ c1) (hc3 : n3 ≤ c3) (hc3m : c3 ≤ maxLen)
    (hl : ArrB AtStep 9 w w.heap.size A n l) (hR : whyJ F l = (q, qc, qa)) :
    Calls Try.prog 9 #[.agg #[.slice A1 n1 c1, .slice A2 n2 c2, .slice A3 n3 c3, .slice A4 n4 c4], .slice A n c] w fun e w' => e = .returned (.tuple #[.int .i64 q, .agg #[.int .i64 qc, .int .i64 qa]]) ∧ Below w.heap.size w w' := by
  have hlen := hl.len
  rcases hf : formF F with ⟨fc, fa⟩
  obtain ⟨hb0, hbk0, hbf0, hs0⟩ := two_boxes w 27 29 #[.slice A1 n1 c1, .slice A2 n2 c2, .slice A3 n3 c3, .slice A4 n4 c4] #[.int .i64 0, .int .i64 0]
  have HC := Lib.hid (fun W (hbW : Below w.heap.size w W) => formCheck_any A1 A2 A3 A4 n1 c1 n2 c2 n3 c3 n4 c4 F fc fa W (hF.below hbW hbW.size) hf)
  have hR1 : ¬ fc = 0 → q = 0 ∧ qc = fc ∧ qa = fa := fun h => by rw [whyJ, hf, if_pos h] at hR; simp only [Prod.mk.injEq] at hR; exact ⟨hR.1.symm, hR.2.1.symm, hR.2.2.symm⟩
  have hR2 : fc = 0 → 3000 < n → q = 0 ∧ qc = 2 ∧ qa = -1 := fun h h2 => by rw [whyJ, hf, if_neg (by simp [h]), hlen, if_pos h2] at hR; simp only [Prod.mk.injEq] at hR; exact ⟨hR.1.symm, hR.2.1.symm, hR.2.2.symm⟩
  have hR3 : fc = 0 → ¬ 3000 < n → runJ F.terms F.ints ⟨F.atoms, F.clauses⟩ l 0 = q ∧ qc = 0 ∧ qa = 0 := fun h h2 => by rw [whyJ, hf, if_neg (by simp [h]), hlen, if_neg h2] at hR; simp only [Prod.mk.injEq] at hR; exact ⟨hR.1, hR.2.1.symm, hR.2.2.symm⟩
  have H1 := Lib.hid hR1
  have H2 := Lib.hid hR2
  have H3 := Lib.hid hR3
  have HF := Lib.hid (And.intro hF (And.intro hc1 (And.intro hc3 (And.intro hc3m (And.intro hl hf)))))
  have HW := Lib.hid (And.intro hb0 (And.intro hbk0 (And.intro hbf0 hs0)))
  clear hR hR1 hR2 hR3 hF hl hb0 hbk0 hbf0 hs0 hf hlen
  go_enter Try.func9, Try.ntmps9
  go_wp2_with fail
  refine (HC.out _ HW.out.1).mono ?_
  rintro e w1 ⟨rfl, hb1⟩
  have hz1 := hb1.size
  have hz0 := HW.out.2.2.2
  rw [hz0] at hz1
  have hbw1 : Below w.heap.size w w1 := HW.out.1.trans (hb1.mono (by rw [hz0]; omega))
  have k1 : Blk w1 w.heap.size 27 #[.slice A1 n1 c1, .slice A2 n2 c2, .slice A3 n3 c3, .slice A4 n4 c4] := HW.out.2.1.below hb1 (by rw [hz0]; omega)
  have k2 : Blk w1 (w.heap.size + 1) 29 #[.int .i64 0, .int .i64 0] := HW.out.2.2.1.below hb1 (by rw [hz0]; omega)
  have HB1 := Lib.hid (And.intro hbw1 (And.intro k1 k2))
  have f0 : w1.cell? ⟨w.heap.size + 1, 0, none⟩ = some (.int .i64 0) := k2.cell 0
  have f1 : w1.cell? ⟨w.heap.size + 1, 1, none⟩ = some (.int .i64 0) := k2.cell 1
  have f2 : w1.frozen? ⟨w.heap.size + 1, 0, none⟩ = false := k2.frozen 0
  have f3 : w1.frozen? ⟨w.heap.size + 1, 1, none⟩ = false := k2.frozen 1
  have e0 : w1.cell? ⟨w.heap.size, 0, none⟩ = some (.slice A1 n1 c1) := k1.cell 0
  have e1 : w1.cell? ⟨w.heap.size, 1, none⟩ = some (.slice A2 n2 c2) := k1.cell 1
  have e2 : w1.cell? ⟨w.heap.size, 2, none⟩ = some (.slice A3 n3 c3) := k1.cell 2
  have e3 : w1.cell? ⟨w.heap.size, 3, none⟩ = some (.slice A4 n4 c4) := k1.cell 3
  have z1 : w.heap.size + 1 < w1.heap.size := k2.lt
  have z0 : w.heap.size < w1.heap.size := k1.lt
  clear hb1 hbw1 k1 k2 hz0
  by_cases hfc : fc = 0
  · subst hfc
    by_cases hmany : 3000 < n
    · obtain ⟨rfl, rfl, rfl⟩ := H2.out rfl hmany
      have hmI : (3000 : Int) < (n : Int) := by omega
      go_wp2_with fail
      refine bodyPost_ret (v := .tuple #[.int .i64 0, .agg #[.int .i64 2, .int .i64 (-1)]]) (by simp [results, Try.results9, go_sem, f0, f1, z1]) rfl ⟨rfl, ?_⟩
      exact ((HB1.out.1.setCell (p := ⟨w.heap.size + 1, 0, none⟩) (by simp) _).setCell (p := ⟨w.heap.size + 1, 1, none⟩) (by simp) _).alloc (by simp; omega) _
    · have hmI : ¬ (3000 : Int) < (n : Int) := by omega
      obtain ⟨hrun, rfl, rfl⟩ := H3.out rfl hmany
      have hinv : JInv F.terms F.ints ⟨F.atoms, F.clauses⟩ 400 := JInv.of_form (by rw [HF.out.2.2.2.2.2])
      have hn4 := HF.out.1.clauses.len
      have hc4 : n4 ≤ 400 := by have := hinv.lc; dsimp only at this; omega
      have HCL := Lib.hid (fun W (hbW : Below w.heap.size w W) => cloneCls_any A4 n4 c4 F.clauses W (HF.out.1.clauses.below (stays_arr stays_int) hbW hbW.size) (by omega))
      have HI := Lib.hid (And.intro hinv hrun)
      clear hinv hrun hn4
      go_upto_region 6 with fail
      have HX := Lib.hid (HCL.out (w1.alloc (.cells #[.int .i64 0, .int .i64 fa] 29)).drew (below_drawn (HB1.out.1.alloc (Nat.le_of_lt z0) _)))
      go_region_law (first
        | (go_simp
           go_at_call 17
           refine HX.out.mono ?_
           rintro e w2 ⟨vC, rfl, hown, hb2⟩
           have g0 : w2.cell? ⟨w.heap.size, 0, none⟩ = some (.slice A1 n1 c1) := (hb2.cell (p := ⟨w.heap.size, 0, none⟩) (by simp; omega)).trans ((HB1.out.2.1.alloc _).cell 0)
           have g1 : w2.cell? ⟨w.heap.size, 1, none⟩ = some (.slice A2 n2 c2) := (hb2.cell (p := ⟨w.heap.size, 1, none⟩) (by simp; omega)).trans ((HB1.out.2.1.alloc _).cell 1)
           have g2 : w2.cell? ⟨w.heap.size, 2, none⟩ = some (.slice A3 n3 c3) := (hb2.cell (p := ⟨w.heap.size, 2, none⟩) (by simp; omega)).trans ((HB1.out.2.1.alloc _).cell 2)
           have g3 : w2.cell? ⟨w.heap.size, 3, none⟩ = some (.slice A4 n4 c4) := (hb2.cell (p := ⟨w.heap.size, 3, none⟩) (by simp; omega)).trans ((HB1.out.2.1.alloc _).cell 3)
           obtain ⟨A5, c5, rfl, -, -⟩ := hown.len
           have HO := Lib.hid (And.intro hown hb2)
           clear hown hb2)
        | fail)
      all_goals
        have hsz : ((w1.alloc (.cells #[.int .i64 0, .int .i64 fa] 29)).drew).heap.size = w1.heap.size + 1 := by simp
        obtain ⟨hown, hb2⟩ := HO.out
        rw [hsz] at hown hb2
        have hz2 : w1.heap.size + 1 ≤ w2.heap.size := by have := hb2.size; rw [hsz] at this; exact this
        have hb1w : Below w.heap.size w ((w1.alloc (.cells #[.int .i64 0, .int .i64 fa] 29)).drew) := below_drawn (HB1.out.1.alloc (Nat.le_of_lt z0) _)
        have hbw2 : Below w.heap.size w w2 := hb1w.trans (hb2.mono (by omega))
        have hJ := judgeM_new (F := F) (c2 := c2) (c4 := c4) (B := w1.heap.size + 1) ((HF.out.1.below hbw2 (Nat.le_refl _)).below (Below.refl _ _) (by omega)) hc1 hc3 hc3m (by have := HI.out.1.la; exact this) hz2 hown
        have k2 : Blk w2 (w.heap.size + 1) 29 #[.int .i64 0, .int .i64 0] := ((HB1.out.2.2.alloc _).drew).below hb2 (by omega)
        obtain ⟨X2, hX2⟩ : ∃ X, w2.alloc (.cells #[.slice A1 n1 c1, .slice A2 n2 c2, .slice A3 n3 c3, .slice A4 n4 c4, .slice A5 F.clauses.length c5] 60) = X := ⟨_, rfl⟩
        have hbX : Below w2.heap.size w2 X2 := by rw [← hX2]; exact (Below.refl _ _).alloc (Nat.le_refl _) _
        rw [hX2] at hJ
        have HJ := Lib.hid (And.intro hJ (And.intro (hbw2.trans (hbX.mono hbw2.size)) (k2.below hbX (by omega))))
        have HXX := Lib.hid hX2
        have zG : w1.heap.size + 1 ≤ w2.heap.size := hz2
        clear hsz hown hb2 hz2 hb1w hbw2 hJ k2 hbX hX2 HO HX HCL HW H1 H2 H3 HB1 f0 f1 f2 f3 e0 e1 e2 e3 g0 g1 g2 g3 hmI HC
        go_upto_region 7 with fail
        rw [HXX.out]
        clear HXX
        go_wp2_with fail
        go_loopw [28] (fun s wr => ∃ (k : Nat) (s' : JSt) (vA vC : Value), s = .int .i64 k ∧ k ≤ n ∧ Hid (JudgeM wr (w1.heap.size + 1) w2.heap.size A1 c1 A2 c2 (.slice A4 n4 c4) vA vC F.terms F.ints s' ∧ JInv F.terms F.ints s' (400 + k) ∧ runJ F.terms F.ints s' (l.drop k) k = q ∧ Below w.heap.size w wr ∧ Blk wr (w.heap.size + 1) 29 #[.int .i64 0, .int .i64 0])) (fun s _ => n - (intOf s).toNat)
        case atStart => exact ⟨0, _, _, _, rfl, Nat.zero_le _, HJ.out.1, HI.out.1, HI.out.2, HJ.out.2.1, HJ.out.2.2⟩
        case round =>
          obtain ⟨k, s', vA, vC, rfl, hk, HR⟩ := hrel
          have hG := HR.out.1.blk.lt
          have zf : w.heap.size + 1 < wr.heap.size := HR.out.2.2.2.2.lt
          by_cases hlt : k < n
          · have hltI : (k : Int) < (n : Int) := by omega
            obtain ⟨b, off, hx, L, nl, cl, M, nm, cm, O, no, co, rfl, hb, q0, q1, q2, q3, q4, q5, q6, q7, q8, hin⟩ := steps_get (HF.out.2.2.2.2.1.below stays_step HR.out.2.2.2.1 (Nat.le_refl _)) hlt
            have hrun := HR.out.2.2.1
            rw [drop_cons hx] at hrun
            generalize l[k] = x at hrun q0 q1 q2 q3 q4 q5 q6 q7 q8 hin
            have hbs : b < wr.heap.size := by omega
            have HS := Lib.hid (fun (W : World) (hbW : Below wr.heap.size wr W) => step_any (w1.heap.size + 1) w2.heap.size A1 c1 A2 c2 (.slice A4 n4 c4) vA vC F.terms F.ints s' (400 + k) _ x W (HR.out.1.later hbW) HR.out.2.1 (by omega) ((hin.below (hbW.mono (by omega))).mono (by omega)) ⟨_, _, _, rfl⟩)
            have HRUN := Lib.hid hrun
            clear hrun hin
            go_wp2_with fail
            refine (HS.out _ ((Below.refl _ _).alloc (Nat.le_refl _) _)).mono ?_
            rintro e w' ⟨hb', hcase⟩
            have hbb : Below wr.heap.size wr (wr.alloc (.cells #[.int .i64 x.kind, .slice L nl cl, .slice M nm cm, .int .i64 x.atom.kind, .int .i64 x.atom.a, .int .i64 x.atom.b, .slice O no co, .int .i64 x.atom.row.kind, .int .i64 x.atom.row.to_] 44)) := (Below.refl _ _).alloc (Nat.le_refl _) _
            have hbw' : Below w.heap.size w w' := HR.out.2.2.2.1.trans ((hbb.mono (by omega)).trans (hb'.mono (by omega)))
            have hkf : Blk w' (w.heap.size + 1) 29 #[.int .i64 0, .int .i64 0] := ((hb'.block _ (by omega)).trans (HR.out.2.2.2.2.below hbb zf))
            have f0 : w'.cell? ⟨w.heap.size + 1, 0, none⟩ = some (.int .i64 0) := hkf.cell 0
            have f1 : w'.cell? ⟨w.heap.size + 1, 1, none⟩ = some (.int .i64 0) := hkf.cell 1
            have f2 : w'.frozen? ⟨w.heap.size + 1, 0, none⟩ = false := hkf.frozen 0
            have f3 : w'.frozen? ⟨w.heap.size + 1, 1, none⟩ = false := hkf.frozen 1
            have zf' : w.heap.size + 1 < w'.heap.size := hkf.lt
            have HK := Lib.hid (And.intro hbw' hkf)
            clear hb' hbw' hkf hbb
            rcases hcase with ⟨hn, rfl⟩ | ⟨s2, vA2, vC2, hs2, rfl, hj2⟩
            · have hq : q = k := by have := HRUN.out; rw [runJ, hn] at this; exact this.symm
              clear hn
              go_wp2_with fail
              refine bodyPost_ret (v := .tuple #[.int .i64 k, .agg #[.int .i64 0, .int .i64 0]]) (by simp [results, Try.results9, go_sem, f0, f1]) rfl ⟨by rw [hq], ?_⟩
              exact (HK.out.1.setCell (p := ⟨w.heap.size + 1, 0, none⟩) (by simp) _).setCell (p := ⟨w.heap.size + 1, 1, none⟩) (by simp) _
            · have hnext : Hid (JudgeM w' (w1.heap.size + 1) w2.heap.size A1 c1 A2 c2 (.slice A4 n4 c4) vA2 vC2 F.terms F.ints s2 ∧ JInv F.terms F.ints s2 (400 + (k + 1)) ∧ runJ F.terms F.ints s2 (l.drop (k + 1)) ((k + 1 : Nat) : Int) = q ∧ Below w.heap.size w w' ∧ Blk w' (w.heap.size + 1) 29 #[.int .i64 0, .int .i64 0]) :=
                ⟨hj2, HR.out.2.1.step hs2, by have := HRUN.out; rw [runJ, hs2] at this; rw [Int.natCast_add]; exact this, HK.out⟩
              clear hj2 hs2 f0 f1 f2 f3
              go_wp2_with fail
              go_roundw
              case rel => exact ⟨k + 1, s2, vA2, vC2, by go_num, by omega, hnext⟩
              case measure => simp [intOf]; omega
          · obtain rfl : k = n := by omega
            have hrun := HR.out.2.2.1
            rw [List.drop_of_length_le (by have := HF.out.2.2.2.2.1.len; omega), runJ] at hrun
            obtain ⟨A6, c6, hvC, hc6, hc6m, har⟩ := HR.out.1.clauses
            have q4 : wr.cell? ⟨w2.heap.size, 4, none⟩ = some (.slice A6 s'.cls.length c6) := by rw [← hvC]; exact HR.out.1.blk.cell 4
            have eg := enters_of Try.func20 (by kernel_rfl) rfl
            have HCT := Lib.hid (containsCls_any 20 #[] eg (fun c => decide (c.length = 0)) A6 s'.cls.length c6 s'.cls _ wr har (by have := HR.out.2.1.lc; omega) (fun W A n c x _ hb hxs _ => (why1_any A n c W).mono fun _ _ ⟨h1, h2⟩ => ⟨by rw [h1, ← hxs.len], by rw [h2]; exact hb⟩) rfl)
            clear hvC hc6 hc6m har eg
            generalize (s'.cls.any fun c => decide (c.length = 0)) = r at hrun HCT
            have HRUN := Lib.hid hrun
            clear hrun
            go_wp2_with fail
            refine HCT.out.mono ?_
            rintro e w' ⟨rfl, hb'⟩
            have hbw' : Below w.heap.size w w' := HR.out.2.2.2.1.trans (hb'.mono (by omega))
            have hkf : Blk w' (w.heap.size + 1) 29 #[.int .i64 0, .int .i64 0] := HR.out.2.2.2.2.below hb' zf
            have f0 : w'.cell? ⟨w.heap.size + 1, 0, none⟩ = some (.int .i64 0) := hkf.cell 0
            have f1 : w'.cell? ⟨w.heap.size + 1, 1, none⟩ = some (.int .i64 0) := hkf.cell 1
            have f2 : w'.frozen? ⟨w.heap.size + 1, 0, none⟩ = false := hkf.frozen 0
            have f3 : w'.frozen? ⟨w.heap.size + 1, 1, none⟩ = false := hkf.frozen 1
            have HK := Lib.hid hbw'
            clear hb' hbw' hkf
            cases r with
            | true =>
              have hq : q = -1 := by have := HRUN.out; rw [if_pos rfl] at this; exact this.symm
              go_wp2_with fail
              refine bodyPost_ret (v := .tuple #[.int .i64 (-1), .agg #[.int .i64 0, .int .i64 0]]) (by simp [results, Try.results9, go_sem, f0, f1]) rfl ⟨by rw [hq], ?_⟩
              exact (HK.out.setCell (p := ⟨w.heap.size + 1, 0, none⟩) (by simp) _).setCell (p := ⟨w.heap.size + 1, 1, none⟩) (by simp) _
            | false =>
              have hq : q = k := by have := HRUN.out; rw [if_neg (by simp)] at this; exact this.symm
              go_wp2_with fail
              refine bodyPost_ret (v := .tuple #[.int .i64 k, .agg #[.int .i64 0, .int .i64 0]]) (by simp [results, Try.results9, go_sem, f0, f1]) rfl ⟨by rw [hq], ?_⟩
              exact (HK.out.setCell (p := ⟨w.heap.size + 1, 0, none⟩) (by simp) _).setCell (p := ⟨w.heap.size + 1, 1, none⟩) (by simp) _
  · obtain ⟨rfl, rfl, rfl⟩ := H1.out hfc
    have hq : (qc != 0) = true := by simpa using hfc
    clear hfc
    go_wp2_with fail
    go_region
    all_goals go_wp2_with fail
    all_goals refine bodyPost_ret (v := .tuple #[.int .i64 0, .agg #[.int .i64 qc, .int .i64 qa]]) (by simp [results, Try.results9, go_sem, f0, f1, z1]) rfl ⟨rfl, ?_⟩
    all_goals exact below_drawn (((HB1.out.1.setCell (p := ⟨w.heap.size + 1, 0, none⟩) (by simp) _).setCell (p := ⟨w.heap.size + 1, 1, none⟩) (by simp) _).alloc (by simp; omega) _)
end Go.Proofs.Ytdncchlfeanlmaa
