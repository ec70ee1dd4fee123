/- Walk: the reference's Step at kind 5 (JudgeWhySays; printed by genJwS.py). -/
import Derived.Test.YthjfiomcpihlaaaGreatJwRS
import Derived.Test.YthjfiomcpihlaaaGreatJwDEF
import Derived.Test.YthjfiomcpihlaaaGreatClRA
import Derived.Test.YthjfiomcpihlaaaGreatJwGH
import Derived.Deep.RegionLaw
import Derived.Deep.DeepCutAuto
import Derived.Lib.QuietBelow
namespace Go.Proofs.YthjfiomcpihlaaaGreat
open Go.RowKit

theorem vatom_of {w : World} {S : Nat → Prop} {b o : Nat} {x : AtomD} (h : AtAtom w S b o x) : AtV VAtom w S b o x := by
  obtain ⟨⟨k0, i0⟩, ⟨k1, i1⟩, ⟨k2, i2⟩, ⟨A, n, c, k3, h1, h2, h3⟩, ⟨k4, i4⟩, k5, i5⟩ := h
  refine ⟨[.int .i64 x.kind, .int .i64 x.a, .int .i64 x.b, .slice A n c, .int .i64 x.row.kind, .int .i64 x.row.to_], ⟨A, n, c, rfl, ⟨i0, i1, i2, i4, i5⟩, h1, h2, h3⟩, fun j u hj => ?_⟩
  match j, hj with
  | 0, hj => simp at hj; subst hj; exact k0
  | 1, hj => simp at hj; subst hj; exact k1
  | 2, hj => simp at hj; subst hj; exact k2
  | 3, hj => simp at hj; subst hj; exact k3
  | 4, hj => simp at hj; subst hj; exact k4
  | 5, hj => simp at hj; subst hj; exact k5
  | j + 6, hj => simp at hj
set_option maxRecDepth 100000 in
set_option maxHeartbeats 16000000 in
theorem refStep5_any (G : Nat) (A1 : Option Addr) (c1 : Nat) (A2 : Option Addr) (c2 : Nat) (v2 v3 : Value) (A4 : Option Addr) (c4 : Nat) (A5 : Option Addr) (c5 : Nat) (ts : List TermD) (ints : List Bool) (s : JSt) (L : Option Addr) (nl cl : Nat) (M : Option Addr) (nm cm : Nat) (O : Option Addr) (no co : Nat) (x : StepD) (w : World) (m0 : Nat) (r : Option JSt)
    (h : RefM w G A1 c1 A2 c2 v2 v3 A4 c4 A5 c5 ts ints s) (hlits : Arr AtInt 1 w (fun b => b < w.heap.size ∧ b ≠ G) L nl x.lits) (hnums : Arr AtFrac 2 w (fun b => b < w.heap.size ∧ b ≠ G) M nm x.nums) (hof : Arr AtInt 1 w (fun b => b < w.heap.size ∧ b ≠ G) O no x.atom.row.of_)
    (hinv : JInv ts ints s m0) (_ : m0 ≤ 4000) (hnl : nl ≤ cl) (hcl : cl ≤ maxLen) (hno : no ≤ co) (hco : co ≤ maxLen) (hki : I64 x.kind ∧ I64 x.atom.kind ∧ I64 x.atom.a ∧ I64 x.atom.b ∧ I64 x.atom.row.kind ∧ I64 x.atom.row.to_) (hr : stepR ts ints s x = r) (hk : x.kind = 5) :
    Calls Tryz.prog 15 #[.pointer (some ⟨G, 0, none⟩), .agg #[.int .i64 x.kind, .slice L nl cl, .slice M nm cm, .int .i64 x.atom.kind, .int .i64 x.atom.a, .int .i64 x.atom.b, .slice O no co, .int .i64 x.atom.row.kind, .int .i64 x.atom.row.to_]] w (StepQ G A1 c1 A2 c2 v2 v3 ts ints r w) := by
  have hI : ∀ l ∈ x.lits, I64 l := fun l hl => by
    obtain ⟨i, hi, e⟩ := List.getElem_of_mem hl
    obtain ⟨b, off, -, -, -, h2⟩ := hlits.at_ i l (by rw [← e]; exact List.getElem?_eq_getElem hi)
    exact h2
  obtain ⟨ri, rc, hbl⟩ : ∃ ri rc, badL s.atoms.length [] x.lits 0 = (ri, rc) := ⟨_, _, rfl⟩
  have HI := Lib.hid (step_start w (cl := cl) (cm := cm) (co := co) h hlits hnums hof)
  have HP := Lib.hid (And.intro hI (And.intro hbl (And.intro hinv (And.intro hnl (And.intro hcl (And.intro hno (And.intro hco (And.intro hki hr))))))))
  have HK := Lib.hid hk
  have e1 : (x.kind == 1) = false := by rw [beq_eq_false_iff_ne]; omega
  have e2 : (x.kind == 2) = false := by rw [beq_eq_false_iff_ne]; omega
  have e3 : (x.kind == 3) = false := by rw [beq_eq_false_iff_ne]; omega
  have e4 : (x.kind == 4) = false := by rw [beq_eq_false_iff_ne]; omega
  have e5 : (x.kind == 5) = true := by rw [beq_iff_eq]; exact hk
  have e6 : (x.kind == 6) = false := by rw [beq_eq_false_iff_ne]; omega
  have e4n : (x.kind != 4) = true := by simp; omega
  clear hk
  unfold maxLen at hcl hco
  clear h hlits hnums hof hI hbl hinv hki hr
  go_enter Tryz.func15, Tryz.ntmps15
  go_upto_region 2 with fail
  obtain ⟨X, hX⟩ : ∃ X, (w.alloc (.cells #[.int .i64 x.kind, .slice L nl cl, .slice M nm cm, .int .i64 x.atom.kind, .int .i64 x.atom.a, .int .i64 x.atom.b, .slice O no co, .int .i64 x.atom.row.kind, .int .i64 x.atom.row.to_] 49)).alloc (.cells #[.int .i64 x.atom.kind, .int .i64 x.atom.a, .int .i64 x.atom.b, .slice O no co, .int .i64 x.atom.row.kind, .int .i64 x.atom.row.to_] 47) = X := ⟨_, rfl⟩
  rw [hX] at HI
  rw [hX]
  clear hX
  have a0 : X.cell? ⟨w.heap.size + 1, 0, none⟩ = some (.int .i64 x.atom.kind) := HI.out.k1.cell 0
  have a1 : X.cell? ⟨w.heap.size + 1, 1, none⟩ = some (.int .i64 x.atom.a) := HI.out.k1.cell 1
  have a2 : X.cell? ⟨w.heap.size + 1, 2, none⟩ = some (.int .i64 x.atom.b) := HI.out.k1.cell 2
  have a3 : X.cell? ⟨w.heap.size + 1, 3, none⟩ = some (.slice O no co) := HI.out.k1.cell 3
  have a4 : X.cell? ⟨w.heap.size + 1, 4, none⟩ = some (.int .i64 x.atom.row.kind) := HI.out.k1.cell 4
  have a5 : X.cell? ⟨w.heap.size + 1, 5, none⟩ = some (.int .i64 x.atom.row.to_) := HI.out.k1.cell 5
  obtain ⟨ez, hez⟩ : ∃ b, zeroA x.atom = b := ⟨_, rfl⟩
  have HEZ := Lib.hid hez
  have HOL := Lib.hid HI.out.of_.len
  clear hez
  go_cut [6] (fun s6 wx => s6 = .bool ez ∧ wx = X)
  case first =>
    unfold zeroA at HEZ
    by_cases hz0 : x.atom.kind = 0
    case neg =>
      have hb0 : (x.atom.kind == 0) = false := by simpa using hz0
      have HE : Hid (ez = false) := by show _ = _; rw [← HEZ.out]; exact decide_eq_false (by rintro ⟨e0, e1, e2, e3, e4, e5⟩; first | exact hz0 e0 | exact hz0 e1 | exact hz0 e2 | exact hz0 e4 | exact hz0 e5)
      clear hz0
      go_wp2_with fail
      go_meet
      exact ⟨by rw [HE.out], rfl⟩
    case pos =>
      have hb0 : (x.atom.kind == 0) = true := by simpa using hz0
      by_cases hz1 : x.atom.a = 0
      case neg =>
        have hb1 : (x.atom.a == 0) = false := by simpa using hz1
        have HE : Hid (ez = false) := by show _ = _; rw [← HEZ.out]; exact decide_eq_false (by rintro ⟨e0, e1, e2, e3, e4, e5⟩; first | exact hz1 e0 | exact hz1 e1 | exact hz1 e2 | exact hz1 e4 | exact hz1 e5)
        clear hz0 hz1
        go_wp2_with fail
        go_meet
        exact ⟨by rw [HE.out], rfl⟩
      case pos =>
        have hb1 : (x.atom.a == 0) = true := by simpa using hz1
        by_cases hz2 : x.atom.b = 0
        case neg =>
          have hb2 : (x.atom.b == 0) = false := by simpa using hz2
          have HE : Hid (ez = false) := by show _ = _; rw [← HEZ.out]; exact decide_eq_false (by rintro ⟨e0, e1, e2, e3, e4, e5⟩; first | exact hz2 e0 | exact hz2 e1 | exact hz2 e2 | exact hz2 e4 | exact hz2 e5)
          clear hz0 hz1 hz2
          go_wp2_with fail
          go_meet
          exact ⟨by rw [HE.out], rfl⟩
        case pos =>
          have hb2 : (x.atom.b == 0) = true := by simpa using hz2
          by_cases hz3 : x.atom.row.kind = 0
          case neg =>
            have hb3 : (x.atom.row.kind == 0) = false := by simpa using hz3
            have HE : Hid (ez = false) := by show _ = _; rw [← HEZ.out]; exact decide_eq_false (by rintro ⟨e0, e1, e2, e3, e4, e5⟩; first | exact hz3 e0 | exact hz3 e1 | exact hz3 e2 | exact hz3 e4 | exact hz3 e5)
            clear hz0 hz1 hz2 hz3
            go_wp2_with fail
            go_meet
            exact ⟨by rw [HE.out], rfl⟩
          case pos =>
            have hb3 : (x.atom.row.kind == 0) = true := by simpa using hz3
            by_cases hz4 : x.atom.row.to_ = 0
            case neg =>
              have hb4 : (x.atom.row.to_ == 0) = false := by simpa using hz4
              have HE : Hid (ez = false) := by show _ = _; rw [← HEZ.out]; exact decide_eq_false (by rintro ⟨e0, e1, e2, e3, e4, e5⟩; first | exact hz4 e0 | exact hz4 e1 | exact hz4 e2 | exact hz4 e4 | exact hz4 e5)
              clear hz0 hz1 hz2 hz3 hz4
              go_wp2_with fail
              go_meet
              exact ⟨by rw [HE.out], rfl⟩
            case pos =>
              have hb4 : (x.atom.row.to_ == 0) = true := by simpa using hz4
              by_cases hz5 : no = 0
              case pos =>
                have HE : Hid (ez = true) := by show _ = _; rw [← HEZ.out]; exact decide_eq_true ⟨hz0, hz1, hz2, by rw [HOL.out]; exact hz5, hz3, hz4⟩
                have hbI : ((no : Int) == 0) = true := by simp; omega
                have hbN : (no == 0) = true := by simp; omega
                clear hz0 hz1 hz2 hz3 hz4 hz5
                go_wp2_with fail
                go_meet
                exact ⟨by rw [HE.out], rfl⟩
              case neg =>
                have HE : Hid (ez = false) := by show _ = _; rw [← HEZ.out]; exact decide_eq_false (by rintro ⟨e0, e1, e2, e3, e4, e5⟩; rw [HOL.out] at e3; exact hz5 e3)
                have hbI : ((no : Int) == 0) = false := by simp; omega
                have hbN : (no == 0) = false := by simp; omega
                clear hz0 hz1 hz2 hz3 hz4 hz5
                go_wp2_with fail
                go_meet
                exact ⟨by rw [HE.out], rfl⟩
  case rest =>
    obtain ⟨rfl, rfl⟩ := hcut
    obtain ⟨X, rfl⟩ : ∃ X : World, X = wc := ⟨_, rfl⟩
    clear a0 a1 a2 a3 a4 a5
    have b1 : X.cell? ⟨w.heap.size, 1, none⟩ = some (.slice L nl cl) := HI.out.k0.cell 1
    have HGB : Hid (w.grownBy X (some G)) := only_of_below HI.out.bel _
    have hLO := refLitsOk_any G _ _ _ _ _ A4 s.atoms.length c4 L nl cl x.lits ri rc X HI.out.m.blk HI.out.litsB HP.out.1 hnl (by omega) (by have := HI.out.m.la; omega) HP.out.2.1
    by_cases hrc : rc = 0
    case neg =>
      rw [decide_eq_false hrc] at hLO
      have HN : Hid (r = none) := by
        rw [← HP.out.2.2.2.2.2.2.2.2]
        exact stepR_bad (by rw [HP.out.2.1]; exact hrc)
      have HLO := Lib.hid hLO
      clear hLO hrc
      go_wp2_with fail
      refine HLO.out.mono ?_
      rintro e w3 ⟨rfl, hb3⟩
      have HB3 := Lib.hid (only_of_below (row := some G) hb3)
      clear hb3
      go_wp2_with fail
      go_ret
      exact stepQ_no (only_trans HGB.out HB3.out) HN.out rfl
    case pos =>
      rw [decide_eq_true hrc] at hLO
      have HLO := Lib.hid hLO
      have HGC : Hid (GoodC s.atoms.length x.lits) := goodC_of (by rw [HP.out.2.1]; exact hrc)
      have HBZ : Hid ((badL s.atoms.length [] x.lits 0).2 = 0) := by show _ = _; rw [HP.out.2.1]; exact hrc
      clear hLO hrc
      go_wp2_with fail
      refine HLO.out.mono ?_
      rintro e w3 ⟨rfl, hb3⟩
      have HB3 := Lib.hid hb3
      clear hb3
      go_upto_region 5 with fail
      have HI3 := Lib.hid (HI.out.later HB3.out)
      have HG3 : Hid (w.grownBy w3 (some G)) := only_of_below HI3.out.bel _
      have hnl2 : nl ≤ 120 := by have h1 := HGC.out.len; have h2 := HI3.out.lits.len; have h3 := HI3.out.m.la; omega
      have d0 : w3.cell? ⟨w.heap.size, 0, none⟩ = some (.int .i64 x.kind) := HI3.out.k0.cell 0
      have d1 : w3.cell? ⟨w.heap.size, 1, none⟩ = some (.slice L nl cl) := HI3.out.k0.cell 1
      have d2 : w3.cell? ⟨w.heap.size, 2, none⟩ = some (.slice M nm cm) := HI3.out.k0.cell 2
      clear b1 HI HLO HB3 HGB
      have b0 : w3.cell? ⟨w.heap.size + 1, 0, none⟩ = some (.int .i64 x.atom.kind) := HI3.out.k1.cell 0
      have b1 : w3.cell? ⟨w.heap.size + 1, 1, none⟩ = some (.int .i64 x.atom.a) := HI3.out.k1.cell 1
      have b2 : w3.cell? ⟨w.heap.size + 1, 2, none⟩ = some (.int .i64 x.atom.b) := HI3.out.k1.cell 2
      have b3 : w3.cell? ⟨w.heap.size + 1, 3, none⟩ = some (.slice O no co) := HI3.out.k1.cell 3
      have b4 : w3.cell? ⟨w.heap.size + 1, 4, none⟩ = some (.int .i64 x.atom.row.kind) := HI3.out.k1.cell 4
      have b5 : w3.cell? ⟨w.heap.size + 1, 5, none⟩ = some (.int .i64 x.atom.row.to_) := HI3.out.k1.cell 5
      have q1 : w3.cell? ⟨G, 1, none⟩ = some (.slice A2 ints.length c2) := HI3.out.m.blk.cell 1
      have q4 : w3.cell? ⟨G, 4, none⟩ = some (.slice A4 s.atoms.length c4) := HI3.out.m.blk.cell 4
      have HST : Hid (stepR ts ints s x = if 0 < x.lits.length ∨ 0 < x.nums.length ∨ ¬ x.atom.kind = 3 ∨ ¬ x.atom.a = 0 ∨ ¬ x.atom.b = 0 ∨ 120 ≤ s.atoms.length ∨ ¬ rowCode x.atom.row ints.length = 0 then none else some ⟨s.atoms ++ [x.atom], s.cls⟩) := stepR_5 HBZ.out HK.out
      have HLL : Hid (x.lits.length = nl ∧ x.nums.length = nm) := ⟨HI3.out.lits.len, HI3.out.nums.len⟩
      obtain ⟨rr, hrr⟩ : ∃ c, rowCode x.atom.row ints.length = c := ⟨_, rfl⟩
      have HRF : Hid (∀ W, Below w3.heap.size w3 W → Calls Tryz.prog 32 #[.agg #[.slice O no co, .int .i64 x.atom.row.kind, .int .i64 x.atom.row.to_], .int .i64 (ints.length : Int)] W fun e w' => e = .returned (.int .i64 rr) ∧ Below W.heap.size W w') := fun W hW =>
        rowFault_any O no co x.atom.row ints.length rr W ((HI3.out.later hW).ofB) (by unfold maxLen; omega) (by omega) (by have := HP.out.2.2.1.li; omega) hrr
      have HRC := Lib.hid hrr
      clear hrr
      by_cases hc0 : 0 < nl
      case pos =>
        have hc0I : (0 : Int) < (nl : Int) := by omega
        have HC0 : Hid (0 < nl) := hc0
        have HN : Hid (r = none) := by
          show _ = _
          rw [← HP.out.2.2.2.2.2.2.2.2, HST.out, if_pos (.inl (by rw [HLL.out.1]; exact HC0.out))]
        go_upto_region 6 with fail
        have rd0 := cell_regrown d0
        have rd1 := cell_regrown d1
        have rd2 := cell_regrown d2
        have rb0 := cell_regrown b0
        have rb1 := cell_regrown b1
        have rb2 := cell_regrown b2
        have rb3 := cell_regrown b3
        have rb4 := cell_regrown b4
        have rb5 := cell_regrown b5
        have rq1 := cell_regrown q1
        have rq4 := cell_regrown q4
        refine wp_region_quiet_below (by kernel_rfl) (by kernel_rfl) ?_
        repeat (with_reducible refine wpQuiet_step (fun K hK => ?_); go_simp; first | (with_reducible refine hK _ ?_; clear hK K) | (apply Exists.intro; with_reducible refine ⟨fun _ => ?_, hK _ ?_⟩; (first | (go_at_call 32; with_reducible exact Calls.regrown_of (HRF.out _ (below_regrown w3 _ _)))); clear hK K))
        with_reducible refine wpQuiet_nil ?_
        intro _ hw'
        obtain ⟨⟨dq, osq⟩, hw''⟩ := hw'
        subst hw''
        go_wp2_with fail
        go_ret
        exact stepQ_no (only_trans HG3.out (only_of_below (below_regrown w3 dq osq) _)) HN.out rfl
      case neg =>
        have hc0I : ¬ (0 : Int) < (nl : Int) := by omega
        by_cases hc1 : 0 < nm
        case pos =>
          have hc1I : (0 : Int) < (nm : Int) := by omega
          have HC1 : Hid (0 < nm) := hc1
          have HN : Hid (r = none) := by
            show _ = _
            rw [← HP.out.2.2.2.2.2.2.2.2, HST.out, if_pos (.inr (.inl (by rw [HLL.out.2]; exact HC1.out)))]
          go_upto_region 6 with fail
          have rd0 := cell_regrown d0
          have rd1 := cell_regrown d1
          have rd2 := cell_regrown d2
          have rb0 := cell_regrown b0
          have rb1 := cell_regrown b1
          have rb2 := cell_regrown b2
          have rb3 := cell_regrown b3
          have rb4 := cell_regrown b4
          have rb5 := cell_regrown b5
          have rq1 := cell_regrown q1
          have rq4 := cell_regrown q4
          refine wp_region_quiet_below (by kernel_rfl) (by kernel_rfl) ?_
          repeat (with_reducible refine wpQuiet_step (fun K hK => ?_); go_simp; first | (with_reducible refine hK _ ?_; clear hK K) | (apply Exists.intro; with_reducible refine ⟨fun _ => ?_, hK _ ?_⟩; (first | (go_at_call 32; with_reducible exact Calls.regrown_of (HRF.out _ (below_regrown w3 _ _)))); clear hK K))
          with_reducible refine wpQuiet_nil ?_
          intro _ hw'
          obtain ⟨⟨dq, osq⟩, hw''⟩ := hw'
          subst hw''
          go_wp2_with fail
          go_ret
          exact stepQ_no (only_trans HG3.out (only_of_below (below_regrown w3 dq osq) _)) HN.out rfl
        case neg =>
          have hc1I : ¬ (0 : Int) < (nm : Int) := by omega
          by_cases hc2 : ¬ x.atom.kind = 3
          case pos =>
            have hc2b : (x.atom.kind != 3) = true := by simpa using hc2
            have HC2 : Hid (¬ x.atom.kind = 3) := hc2
            have HN : Hid (r = none) := by
              show _ = _
              rw [← HP.out.2.2.2.2.2.2.2.2, HST.out, if_pos (.inr (.inr (.inl HC2.out)))]
            clear hc2
            go_upto_region 6 with fail
            have rd0 := cell_regrown d0
            have rd1 := cell_regrown d1
            have rd2 := cell_regrown d2
            have rb0 := cell_regrown b0
            have rb1 := cell_regrown b1
            have rb2 := cell_regrown b2
            have rb3 := cell_regrown b3
            have rb4 := cell_regrown b4
            have rb5 := cell_regrown b5
            have rq1 := cell_regrown q1
            have rq4 := cell_regrown q4
            refine wp_region_quiet_below (by kernel_rfl) (by kernel_rfl) ?_
            repeat (with_reducible refine wpQuiet_step (fun K hK => ?_); go_simp; first | (with_reducible refine hK _ ?_; clear hK K) | (apply Exists.intro; with_reducible refine ⟨fun _ => ?_, hK _ ?_⟩; (first | (go_at_call 32; with_reducible exact Calls.regrown_of (HRF.out _ (below_regrown w3 _ _)))); clear hK K))
            with_reducible refine wpQuiet_nil ?_
            intro _ hw'
            obtain ⟨⟨dq, osq⟩, hw''⟩ := hw'
            subst hw''
            go_wp2_with fail
            go_ret
            exact stepQ_no (only_trans HG3.out (only_of_below (below_regrown w3 dq osq) _)) HN.out rfl
          case neg =>
            have hc2b : (x.atom.kind != 3) = false := by simpa using hc2
            by_cases hc3 : ¬ x.atom.a = 0
            case pos =>
              have hc3b : (x.atom.a != 0) = true := by simpa using hc3
              have HC3 : Hid (¬ x.atom.a = 0) := hc3
              have HN : Hid (r = none) := by
                show _ = _
                rw [← HP.out.2.2.2.2.2.2.2.2, HST.out, if_pos (.inr (.inr (.inr (.inl HC3.out))))]
              clear hc2 hc3
              go_upto_region 6 with fail
              have rd0 := cell_regrown d0
              have rd1 := cell_regrown d1
              have rd2 := cell_regrown d2
              have rb0 := cell_regrown b0
              have rb1 := cell_regrown b1
              have rb2 := cell_regrown b2
              have rb3 := cell_regrown b3
              have rb4 := cell_regrown b4
              have rb5 := cell_regrown b5
              have rq1 := cell_regrown q1
              have rq4 := cell_regrown q4
              refine wp_region_quiet_below (by kernel_rfl) (by kernel_rfl) ?_
              repeat (with_reducible refine wpQuiet_step (fun K hK => ?_); go_simp; first | (with_reducible refine hK _ ?_; clear hK K) | (apply Exists.intro; with_reducible refine ⟨fun _ => ?_, hK _ ?_⟩; (first | (go_at_call 32; with_reducible exact Calls.regrown_of (HRF.out _ (below_regrown w3 _ _)))); clear hK K))
              with_reducible refine wpQuiet_nil ?_
              intro _ hw'
              obtain ⟨⟨dq, osq⟩, hw''⟩ := hw'
              subst hw''
              go_wp2_with fail
              go_ret
              exact stepQ_no (only_trans HG3.out (only_of_below (below_regrown w3 dq osq) _)) HN.out rfl
            case neg =>
              have hc3b : (x.atom.a != 0) = false := by simpa using hc3
              by_cases hc4 : ¬ x.atom.b = 0
              case pos =>
                have hc4b : (x.atom.b != 0) = true := by simpa using hc4
                have HC4 : Hid (¬ x.atom.b = 0) := hc4
                have HN : Hid (r = none) := by
                  show _ = _
                  rw [← HP.out.2.2.2.2.2.2.2.2, HST.out, if_pos (.inr (.inr (.inr (.inr (.inl HC4.out)))))]
                clear hc2 hc3 hc4
                go_upto_region 6 with fail
                have rd0 := cell_regrown d0
                have rd1 := cell_regrown d1
                have rd2 := cell_regrown d2
                have rb0 := cell_regrown b0
                have rb1 := cell_regrown b1
                have rb2 := cell_regrown b2
                have rb3 := cell_regrown b3
                have rb4 := cell_regrown b4
                have rb5 := cell_regrown b5
                have rq1 := cell_regrown q1
                have rq4 := cell_regrown q4
                refine wp_region_quiet_below (by kernel_rfl) (by kernel_rfl) ?_
                repeat (with_reducible refine wpQuiet_step (fun K hK => ?_); go_simp; first | (with_reducible refine hK _ ?_; clear hK K) | (apply Exists.intro; with_reducible refine ⟨fun _ => ?_, hK _ ?_⟩; (first | (go_at_call 32; with_reducible exact Calls.regrown_of (HRF.out _ (below_regrown w3 _ _)))); clear hK K))
                with_reducible refine wpQuiet_nil ?_
                intro _ hw'
                obtain ⟨⟨dq, osq⟩, hw''⟩ := hw'
                subst hw''
                go_wp2_with fail
                go_ret
                exact stepQ_no (only_trans HG3.out (only_of_below (below_regrown w3 dq osq) _)) HN.out rfl
              case neg =>
                have hc4b : (x.atom.b != 0) = false := by simpa using hc4
                by_cases hc5 : 120 ≤ s.atoms.length
                case pos =>
                  have hc5I : (120 : Int) ≤ (s.atoms.length : Int) := by omega
                  have HC5 : Hid (120 ≤ s.atoms.length) := hc5
                  have HN : Hid (r = none) := by
                    show _ = _
                    rw [← HP.out.2.2.2.2.2.2.2.2, HST.out, if_pos (.inr (.inr (.inr (.inr (.inr (.inl HC5.out))))))]
                  clear hc2 hc3 hc4
                  go_upto_region 6 with fail
                  have rd0 := cell_regrown d0
                  have rd1 := cell_regrown d1
                  have rd2 := cell_regrown d2
                  have rb0 := cell_regrown b0
                  have rb1 := cell_regrown b1
                  have rb2 := cell_regrown b2
                  have rb3 := cell_regrown b3
                  have rb4 := cell_regrown b4
                  have rb5 := cell_regrown b5
                  have rq1 := cell_regrown q1
                  have rq4 := cell_regrown q4
                  refine wp_region_quiet_below (by kernel_rfl) (by kernel_rfl) ?_
                  repeat (with_reducible refine wpQuiet_step (fun K hK => ?_); go_simp; first | (with_reducible refine hK _ ?_; clear hK K) | (apply Exists.intro; with_reducible refine ⟨fun _ => ?_, hK _ ?_⟩; (first | (go_at_call 32; with_reducible exact Calls.regrown_of (HRF.out _ (below_regrown w3 _ _)))); clear hK K))
                  with_reducible refine wpQuiet_nil ?_
                  intro _ hw'
                  obtain ⟨⟨dq, osq⟩, hw''⟩ := hw'
                  subst hw''
                  go_wp2_with fail
                  go_ret
                  exact stepQ_no (only_trans HG3.out (only_of_below (below_regrown w3 dq osq) _)) HN.out rfl
                case neg =>
                  have hc5I : ¬ (120 : Int) ≤ (s.atoms.length : Int) := by omega
                  by_cases hc6 : ¬ rr = 0
                  case pos =>
                    have hc6b : (rr != 0) = true := by simpa using hc6
                    have HC6 : Hid (¬ rr = 0) := hc6
                    have HN : Hid (r = none) := by
                      show _ = _
                      rw [← HP.out.2.2.2.2.2.2.2.2, HST.out, if_pos (.inr (.inr (.inr (.inr (.inr (.inr (by rw [HRC.out]; exact HC6.out)))))))]
                    clear hc2 hc3 hc4 hc6
                    go_upto_region 6 with fail
                    have rd0 := cell_regrown d0
                    have rd1 := cell_regrown d1
                    have rd2 := cell_regrown d2
                    have rb0 := cell_regrown b0
                    have rb1 := cell_regrown b1
                    have rb2 := cell_regrown b2
                    have rb3 := cell_regrown b3
                    have rb4 := cell_regrown b4
                    have rb5 := cell_regrown b5
                    have rq1 := cell_regrown q1
                    have rq4 := cell_regrown q4
                    refine wp_region_quiet_below (by kernel_rfl) (by kernel_rfl) ?_
                    repeat (with_reducible refine wpQuiet_step (fun K hK => ?_); go_simp; first | (with_reducible refine hK _ ?_; clear hK K) | (apply Exists.intro; with_reducible refine ⟨fun _ => ?_, hK _ ?_⟩; (first | (go_at_call 32; with_reducible exact Calls.regrown_of (HRF.out _ (below_regrown w3 _ _)))); clear hK K))
                    with_reducible refine wpQuiet_nil ?_
                    intro _ hw'
                    obtain ⟨⟨dq, osq⟩, hw''⟩ := hw'
                    subst hw''
                    go_wp2_with fail
                    go_ret
                    exact stepQ_no (only_trans HG3.out (only_of_below (below_regrown w3 dq osq) _)) HN.out rfl
                  case neg =>
                    have hc6b : (rr != 0) = false := by simpa using hc6
                    have HRS : Hid (r = some ⟨s.atoms ++ [x.atom], s.cls⟩) := by
                      show _ = _
                      rw [← HP.out.2.2.2.2.2.2.2.2, HST.out, if_neg (by rw [HLL.out.1, HLL.out.2, HRC.out]; rintro (e | e | e | e | e | e | e); exact hc0 e; exact hc1 e; exact hc2 e; exact hc3 e; exact hc4 e; exact hc5 e; exact hc6 e)]
                    have HNA : Hid (s.atoms.length < 120) := Nat.lt_of_not_le hc5
                    clear hc2 hc3 hc4 hc6
                    go_upto_region 6 with fail
                    have rd0 := cell_regrown d0
                    have rd1 := cell_regrown d1
                    have rd2 := cell_regrown d2
                    have rb0 := cell_regrown b0
                    have rb1 := cell_regrown b1
                    have rb2 := cell_regrown b2
                    have rb3 := cell_regrown b3
                    have rb4 := cell_regrown b4
                    have rb5 := cell_regrown b5
                    have rq1 := cell_regrown q1
                    have rq4 := cell_regrown q4
                    refine wp_region_quiet_below (by kernel_rfl) (by kernel_rfl) ?_
                    repeat (with_reducible refine wpQuiet_step (fun K hK => ?_); go_simp; first | (with_reducible refine hK _ ?_; clear hK K) | (apply Exists.intro; with_reducible refine ⟨fun _ => ?_, hK _ ?_⟩; (first | (go_at_call 32; with_reducible exact Calls.regrown_of (HRF.out _ (below_regrown w3 _ _)))); clear hK K))
                    with_reducible refine wpQuiet_nil ?_
                    intro _ hw'
                    obtain ⟨⟨dq, osq⟩, hw''⟩ := hw'
                    subst hw''
                    obtain ⟨wz, hwz⟩ : ∃ wz, Go.Sort.grow (redrawn w3 dq) osq = wz := ⟨_, rfl⟩
                    have hb4 : Below w3.heap.size w3 wz := by rw [← hwz]; exact below_regrown w3 dq osq
                    rw [hwz]
                    have HI4 := Lib.hid (HI3.out.later hb4)
                    have HG4 : Hid (w.grownBy wz (some G)) := only_trans HG3.out (only_of_below hb4 _)
                    clear hwz hb4 d0 d1 d2 b0 b1 b2 b3 b4 b5 q1 q4 rd0 rd1 rd2 rb0 rb1 rb2 rb3 rb4 rb5 rq1 rq4
                    go_upto_region 8 with fail
                    have q5 : wz.cell? ⟨G, 4, none⟩ = some (.slice A4 s.atoms.length c4) := HI4.out.m.blk.cell 4
                    have f5 : wz.frozen? ⟨G, 4, none⟩ = false := HI4.out.m.blk.frozen 4
                    have hG : G < wz.heap.size := HI4.out.m.blk.lt
                    have hS : w.heap.size + 1 < wz.heap.size := HI4.out.k1.lt
                    have p0 : wz.cell? ⟨w.heap.size + 1, 0, none⟩ = some (.int .i64 x.atom.kind) := HI4.out.k1.cell 0
                    have p1 : wz.cell? ⟨w.heap.size + 1, 1, none⟩ = some (.int .i64 x.atom.a) := HI4.out.k1.cell 1
                    have p2 : wz.cell? ⟨w.heap.size + 1, 2, none⟩ = some (.int .i64 x.atom.b) := HI4.out.k1.cell 2
                    have p3 : wz.cell? ⟨w.heap.size + 1, 3, none⟩ = some (.slice O no co) := HI4.out.k1.cell 3
                    have p4 : wz.cell? ⟨w.heap.size + 1, 4, none⟩ = some (.int .i64 x.atom.row.kind) := HI4.out.k1.cell 4
                    have p5 : wz.cell? ⟨w.heap.size + 1, 5, none⟩ = some (.int .i64 x.atom.row.to_) := HI4.out.k1.cell 5
                    have HCW : Hid (∀ W, Below wz.heap.size wz W → Arr AtAtom 6 W (fun b => b < wz.heap.size ∧ b ≠ G) A4 s.atoms.length s.atoms) := fun W hW => HI4.out.m.a.keep stays_atom (fun _ h => h) (fun b o hb => hW.cell (p := ⟨b, o, none⟩) hb.1)
                    have HLW : Hid (∀ W, Below wz.heap.size wz W → VAtom W (fun b => b < wz.heap.size ∧ b ≠ G) (#[.int .i64 x.atom.kind, .int .i64 x.atom.a, .int .i64 x.atom.b, .slice O no co, .int .i64 x.atom.row.kind, .int .i64 x.atom.row.to_] : Array Value).toList x.atom) := fun W hW => ⟨O, no, co, rfl, HP.out.2.2.2.2.2.2.2.1.2, HP.out.2.2.2.2.2.1, HP.out.2.2.2.2.2.2.1, HI4.out.of_.keep stays_int (fun _ h => h) (fun b o hb => hW.cell (p := ⟨b, o, none⟩) hb.1)⟩
                    obtain ⟨nc, hnc⟩ : ∃ nc, s.atoms.length = nc := ⟨_, rfl⟩
                    rw [hnc] at q5 HCW
                    have HNQ := Lib.hid hnc
                    clear hnc
                    go_region_law (first
                      | (refine step_append_item (by rfl) _ _ _ (by rfl) rowAtoms tells_atom (v := v5) (xs := ([] : List AtomD) ++ s.atoms) (base := wz.heap.size) (S := fun b => b < wz.heap.size ∧ b ≠ G) (by rfl) (.inl HO5.out) (g := wz.heap.size) (cs := #[.int .i64 x.atom.kind, .int .i64 x.atom.a, .int .i64 x.atom.b, .slice O no co, .int .i64 x.atom.row.kind, .int .i64 x.atom.row.to_]) (by rfl) HLIT.out (y := x.atom) (HLW.out _ HB5.out) (fun b hb => ⟨by have := hb.1; have := HB5.out.size; first | omega | (simp; omega), fun e => by have := (HO5.out.lt b e).1; have := hb.1; omega⟩) (by have := HNA.out; simp; unfold maxLen; omega) (by have := HNA.out; simp; omega) (by have := HB5.out.size; first | omega | (simp; omega)) ?_
                         intro g6 c6 w6 hown6 hgrow6 hat6 hlt6
                         have HB6 : Hid (Below wz.heap.size wz w6) := below_then HB5.out hgrow6 (by have := HB5.out.size; first | omega | (simp; omega)) (fun y hy => (HO5.out.lt y hy).1)
                         have q6 : w6.cell? ⟨G, 4, none⟩ = some (.slice A4 nc c4) := (HB6.out.cell (p := ⟨G, 4, none⟩) hG).trans q5
                         have f6 : w6.frozen? ⟨G, 4, none⟩ = false := (HB6.out.frozen (p := ⟨G, 4, none⟩) hG).trans f5
                         have zG : G < w6.heap.size := Nat.lt_of_lt_of_le hG HB6.out.size
                         have HO6 := Lib.hid hown6
                         clear hown6 hgrow6 hat6 hlt6)
                      | (refine step_append_item (by rfl) _ _ _ (by rfl) rowAtoms tells_atom (v := v5) (xs := ([] : List AtomD) ++ s.atoms) (base := wz.heap.size) (S := fun b => b < wz.heap.size ∧ b ≠ G) (by rfl) (.inl (HO5.out.kept tells_atom (only_alloc (only_refl w5 none) (.cells #[.int .i64 x.atom.kind, .int .i64 x.atom.a, .int .i64 x.atom.b, .slice O no co, .int .i64 x.atom.row.kind, .int .i64 x.atom.row.to_] 47)) (by cases v5.ownBlock <;> simp) (fun b hb => ⟨hb, by have := hb.1; have := HB5.out.size; omega, by simp⟩))) (g := w5.heap.size) (cs := #[.int .i64 x.atom.kind, .int .i64 x.atom.a, .int .i64 x.atom.b, .slice O no co, .int .i64 x.atom.row.kind, .int .i64 x.atom.row.to_]) (by rfl) (Blk.new w5 _ _) (y := x.atom) (HLW.out _ (HB5.out.alloc HB5.out.size (.cells #[.int .i64 x.atom.kind, .int .i64 x.atom.a, .int .i64 x.atom.b, .slice O no co, .int .i64 x.atom.row.kind, .int .i64 x.atom.row.to_] 47))) (fun b hb => ⟨by have := hb.1; have := HB5.out.size; first | omega | (simp; omega), fun e => by have := (HO5.out.lt b e).1; have := hb.1; omega⟩) (by have := HNA.out; simp; unfold maxLen; omega) (by have := HNA.out; simp; omega) (by have := HB5.out.size; first | omega | (simp; omega)) ?_
                         intro g6 c6 w6 hown6 hgrow6 hat6 hlt6
                         have HB6 : Hid (Below wz.heap.size wz w6) := below_then (HB5.out.alloc HB5.out.size (.cells #[.int .i64 x.atom.kind, .int .i64 x.atom.a, .int .i64 x.atom.b, .slice O no co, .int .i64 x.atom.row.kind, .int .i64 x.atom.row.to_] 47)) hgrow6 (by have := HB5.out.size; first | omega | (simp; omega)) (fun y hy => (HO5.out.lt y hy).1)
                         have q6 : w6.cell? ⟨G, 4, none⟩ = some (.slice A4 nc c4) := (HB6.out.cell (p := ⟨G, 4, none⟩) hG).trans q5
                         have f6 : w6.frozen? ⟨G, 4, none⟩ = false := (HB6.out.frozen (p := ⟨G, 4, none⟩) hG).trans f5
                         have zG : G < w6.heap.size := Nat.lt_of_lt_of_le hG HB6.out.size
                         have HO6 := Lib.hid hown6
                         clear hown6 hgrow6 hat6 hlt6)
                      | (refine step_append_manyJ (by rfl) _ _ _ (by rfl) rowAtoms tells_atom (v := .slice none 0 0) (xs := ([] : List AtomD)) (base := wz.heap.size) (S := fun b => b < wz.heap.size ∧ b ≠ G) (by rfl) (OwnV.none_ _ _ _ _ _ _) (E := AtAtom) (fun _ _ _ _ _ h => vatom_of h) (A := A4) (m := nc) (c := c4) (by rfl) (HCW.out _ (below_drewN (Below.refl wz.heap.size wz) 1)) (fun b hb => ⟨by have := hb.1; first | omega | (simp; omega), by simp [Value.ownBlock]⟩) (by have := HNA.out; have := HNQ.out; simp; unfold maxLen; omega) (by have := HNA.out; have := HNQ.out; simp; omega) (by first | exact Nat.le_refl _ | (simp)) ?_
                         intro v5 w5 hown5 hgrow5 hat5
                         have HB5 : Hid (Below wz.heap.size wz w5) := below_then (below_drewN (Below.refl wz.heap.size wz) 1) hgrow5 (by first | exact Nat.le_refl _ | simp) (fun x hx => by simp [Value.ownBlock] at hx)
                         have HO5 := Lib.hid hown5
                         have r0 : w5.cell? ⟨w.heap.size + 1, 0, none⟩ = some (.int .i64 x.atom.kind) := (HB5.out.cell (p := ⟨w.heap.size + 1, 0, none⟩) hS).trans p0
                         have r1 : w5.cell? ⟨w.heap.size + 1, 1, none⟩ = some (.int .i64 x.atom.a) := (HB5.out.cell (p := ⟨w.heap.size + 1, 1, none⟩) hS).trans p1
                         have r2 : w5.cell? ⟨w.heap.size + 1, 2, none⟩ = some (.int .i64 x.atom.b) := (HB5.out.cell (p := ⟨w.heap.size + 1, 2, none⟩) hS).trans p2
                         have r3 : w5.cell? ⟨w.heap.size + 1, 3, none⟩ = some (.slice O no co) := (HB5.out.cell (p := ⟨w.heap.size + 1, 3, none⟩) hS).trans p3
                         have r4 : w5.cell? ⟨w.heap.size + 1, 4, none⟩ = some (.int .i64 x.atom.row.kind) := (HB5.out.cell (p := ⟨w.heap.size + 1, 4, none⟩) hS).trans p4
                         have r5 : w5.cell? ⟨w.heap.size + 1, 5, none⟩ = some (.int .i64 x.atom.row.to_) := (HB5.out.cell (p := ⟨w.heap.size + 1, 5, none⟩) hS).trans p5
                         have zS : w.heap.size + 1 < w5.heap.size := Nat.lt_of_lt_of_le hS HB5.out.size
                         clear hown5 hgrow5 hat5)
                      | (refine step_append_manyJ (by rfl) _ _ _ (by rfl) rowAtoms tells_atom (v := .slice none 0 0) (xs := ([] : List AtomD)) (base := wz.heap.size) (S := fun b => b < wz.heap.size ∧ b ≠ G) (by rfl) (OwnV.none_ _ _ _ _ _ _) (E := AtAtom) (fun _ _ _ _ _ h => vatom_of h) (A := A4) (m := nc) (c := c4) (by rfl) (HCW.out _ (below_drewN ((Below.refl wz.heap.size wz).alloc (Nat.le_refl _) (.cells #[.int .i64 x.atom.kind, .int .i64 x.atom.a, .int .i64 x.atom.b, .slice O no co, .int .i64 x.atom.row.kind, .int .i64 x.atom.row.to_] 47)) 1)) (fun b hb => ⟨by have := hb.1; first | omega | (simp; omega), by simp [Value.ownBlock]⟩) (by have := HNA.out; have := HNQ.out; simp; unfold maxLen; omega) (by have := HNA.out; have := HNQ.out; simp; omega) (by first | exact Nat.le_refl _ | (simp)) ?_
                         intro v5 w5 hown5 hgrow5 hat5
                         have HB5 : Hid (Below wz.heap.size wz w5) := below_then (below_drewN ((Below.refl wz.heap.size wz).alloc (Nat.le_refl _) (.cells #[.int .i64 x.atom.kind, .int .i64 x.atom.a, .int .i64 x.atom.b, .slice O no co, .int .i64 x.atom.row.kind, .int .i64 x.atom.row.to_] 47)) 1) hgrow5 (by first | exact Nat.le_refl _ | simp) (fun x hx => by simp [Value.ownBlock] at hx)
                         have HO5 := Lib.hid hown5
                         have r0 : w5.cell? ⟨w.heap.size + 1, 0, none⟩ = some (.int .i64 x.atom.kind) := (HB5.out.cell (p := ⟨w.heap.size + 1, 0, none⟩) hS).trans p0
                         have r1 : w5.cell? ⟨w.heap.size + 1, 1, none⟩ = some (.int .i64 x.atom.a) := (HB5.out.cell (p := ⟨w.heap.size + 1, 1, none⟩) hS).trans p1
                         have r2 : w5.cell? ⟨w.heap.size + 1, 2, none⟩ = some (.int .i64 x.atom.b) := (HB5.out.cell (p := ⟨w.heap.size + 1, 2, none⟩) hS).trans p2
                         have r3 : w5.cell? ⟨w.heap.size + 1, 3, none⟩ = some (.slice O no co) := (HB5.out.cell (p := ⟨w.heap.size + 1, 3, none⟩) hS).trans p3
                         have r4 : w5.cell? ⟨w.heap.size + 1, 4, none⟩ = some (.int .i64 x.atom.row.kind) := (HB5.out.cell (p := ⟨w.heap.size + 1, 4, none⟩) hS).trans p4
                         have r5 : w5.cell? ⟨w.heap.size + 1, 5, none⟩ = some (.int .i64 x.atom.row.to_) := (HB5.out.cell (p := ⟨w.heap.size + 1, 5, none⟩) hS).trans p5
                         have zS : w.heap.size + 1 < w5.heap.size := Nat.lt_of_lt_of_le hS HB5.out.size
                         have HLIT : Hid (Blk w5 wz.heap.size 47 #[.int .i64 x.atom.kind, .int .i64 x.atom.a, .int .i64 x.atom.b, .slice O no co, .int .i64 x.atom.row.kind, .int .i64 x.atom.row.to_]) := Blk.grown (Blk.drew (Blk.new wz _ _)) hgrow5 (by simp [Value.ownBlock])
                         clear hown5 hgrow5 hat5)
                      | fail)
                    all_goals
                      have hpu := atoms_pushed (w0 := w) (w5 := w6) (a := x.atom) (g := g6) (c := c6) HI4.out.m HG4.out HB6.out HNA.out (by have h6 := HO6.out; simp only [List.nil_append] at h6; exact h6)
                      have HPU := Lib.hid hpu
                      clear hpu
                      go_wp2_with fail
                      go_ret
                      exact stepQ_yes HPU.out.1 HRS.out rfl HPU.out.2
end Go.Proofs.YthjfiomcpihlaaaGreat
