/- Walk: the reference's Step: kinds that there are not (JudgeWhySays; printed by genJwS.py). · Walk: the reference's Step at kind 2 (JudgeWhySays; printed by genJwS.py). -/
import Derived.Test.YthjfiomcpihlaaaGreatJwRS
import Derived.Test.YthjfiomcpihlaaaGreatJwDEF
import Derived.Deep.RegionLaw
import Derived.Deep.DeepCutAuto
import Derived.Lib.QuietBelow
import Derived.Test.YthjfiomcpihlaaaGreatJwGH
namespace Go.Proofs.YthjfiomcpihlaaaGreat
open Go.RowKit

set_option maxRecDepth 100000 in
set_option maxHeartbeats 16000000 in
theorem refStep0_any (G : Nat) (A1 : Option Addr) (c1 : Nat) (A2 : Option Addr) (c2 : Nat) (v2 v3 : Value) (A4 : Option Addr) (c4 : Nat) (A5 : Option Addr) (c5 : Nat) (ts : List TermD) (ints : List Bool) (s : JSt) (L : Option Addr) (nl cl : Nat) (M : Option Addr) (nm cm : Nat) (O : Option Addr) (no co : Nat) (x : StepD) (w : World) (m0 : Nat) (r : Option JSt)
    (h : RefM w G A1 c1 A2 c2 v2 v3 A4 c4 A5 c5 ts ints s) (hlits : Arr AtInt 1 w (fun b => b < w.heap.size ∧ b ≠ G) L nl x.lits) (hnums : Arr AtFrac 2 w (fun b => b < w.heap.size ∧ b ≠ G) M nm x.nums) (hof : Arr AtInt 1 w (fun b => b < w.heap.size ∧ b ≠ G) O no x.atom.row.of_)
    (hinv : JInv ts ints s m0) (_ : m0 ≤ 4000) (hnl : nl ≤ cl) (hcl : cl ≤ maxLen) (hno : no ≤ co) (hco : co ≤ maxLen) (hki : I64 x.kind ∧ I64 x.atom.kind ∧ I64 x.atom.a ∧ I64 x.atom.b ∧ I64 x.atom.row.kind ∧ I64 x.atom.row.to_) (hr : stepR ts ints s x = r) (hk : ¬ x.kind = 1 ∧ ¬ x.kind = 2 ∧ ¬ x.kind = 3 ∧ ¬ x.kind = 4 ∧ ¬ x.kind = 5 ∧ ¬ x.kind = 6) :
    Calls Tryz.prog 15 #[.pointer (some ⟨G, 0, none⟩), .agg #[.int .i64 x.kind, .slice L nl cl, .slice M nm cm, .int .i64 x.atom.kind, .int .i64 x.atom.a, .int .i64 x.atom.b, .slice O no co, .int .i64 x.atom.row.kind, .int .i64 x.atom.row.to_]] w (StepQ G A1 c1 A2 c2 v2 v3 ts ints r w) := by
  have hI : ∀ l ∈ x.lits, I64 l := fun l hl => by
    obtain ⟨i, hi, e⟩ := List.getElem_of_mem hl
    obtain ⟨b, off, -, -, -, h2⟩ := hlits.at_ i l (by rw [← e]; exact List.getElem?_eq_getElem hi)
    exact h2
  obtain ⟨ri, rc, hbl⟩ : ∃ ri rc, badL s.atoms.length [] x.lits 0 = (ri, rc) := ⟨_, _, rfl⟩
  have HI := Lib.hid (step_start w (cl := cl) (cm := cm) (co := co) h hlits hnums hof)
  have HP := Lib.hid (And.intro hI (And.intro hbl (And.intro hinv (And.intro hnl (And.intro hcl (And.intro hno (And.intro hco (And.intro hki hr))))))))
  have HK := Lib.hid hk
  have e1 : (x.kind == 1) = false := by rw [beq_eq_false_iff_ne]; omega
  have e2 : (x.kind == 2) = false := by rw [beq_eq_false_iff_ne]; omega
  have e3 : (x.kind == 3) = false := by rw [beq_eq_false_iff_ne]; omega
  have e4 : (x.kind == 4) = false := by rw [beq_eq_false_iff_ne]; omega
  have e5 : (x.kind == 5) = false := by rw [beq_eq_false_iff_ne]; omega
  have e6 : (x.kind == 6) = false := by rw [beq_eq_false_iff_ne]; omega
  have e4n : (x.kind != 4) = true := by simp; omega
  clear hk
  unfold maxLen at hcl hco
  clear h hlits hnums hof hI hbl hinv hki hr
  go_enter Tryz.func15, Tryz.ntmps15
  go_upto_region 2 with fail
  obtain ⟨X, hX⟩ : ∃ X, (w.alloc (.cells #[.int .i64 x.kind, .slice L nl cl, .slice M nm cm, .int .i64 x.atom.kind, .int .i64 x.atom.a, .int .i64 x.atom.b, .slice O no co, .int .i64 x.atom.row.kind, .int .i64 x.atom.row.to_] 49)).alloc (.cells #[.int .i64 x.atom.kind, .int .i64 x.atom.a, .int .i64 x.atom.b, .slice O no co, .int .i64 x.atom.row.kind, .int .i64 x.atom.row.to_] 47) = X := ⟨_, rfl⟩
  rw [hX] at HI
  rw [hX]
  clear hX
  have a0 : X.cell? ⟨w.heap.size + 1, 0, none⟩ = some (.int .i64 x.atom.kind) := HI.out.k1.cell 0
  have a1 : X.cell? ⟨w.heap.size + 1, 1, none⟩ = some (.int .i64 x.atom.a) := HI.out.k1.cell 1
  have a2 : X.cell? ⟨w.heap.size + 1, 2, none⟩ = some (.int .i64 x.atom.b) := HI.out.k1.cell 2
  have a3 : X.cell? ⟨w.heap.size + 1, 3, none⟩ = some (.slice O no co) := HI.out.k1.cell 3
  have a4 : X.cell? ⟨w.heap.size + 1, 4, none⟩ = some (.int .i64 x.atom.row.kind) := HI.out.k1.cell 4
  have a5 : X.cell? ⟨w.heap.size + 1, 5, none⟩ = some (.int .i64 x.atom.row.to_) := HI.out.k1.cell 5
  obtain ⟨ez, hez⟩ : ∃ b, zeroA x.atom = b := ⟨_, rfl⟩
  have HEZ := Lib.hid hez
  have HOL := Lib.hid HI.out.of_.len
  clear hez
  go_cut [6] (fun s6 wx => s6 = .bool ez ∧ wx = X)
  case first =>
    unfold zeroA at HEZ
    by_cases hz0 : x.atom.kind = 0
    case neg =>
      have hb0 : (x.atom.kind == 0) = false := by simpa using hz0
      have HE : Hid (ez = false) := by show _ = _; rw [← HEZ.out]; exact decide_eq_false (by rintro ⟨e0, e1, e2, e3, e4, e5⟩; first | exact hz0 e0 | exact hz0 e1 | exact hz0 e2 | exact hz0 e4 | exact hz0 e5)
      clear hz0
      go_wp2_with fail
      go_meet
      exact ⟨by rw [HE.out], rfl⟩
    case pos =>
      have hb0 : (x.atom.kind == 0) = true := by simpa using hz0
      by_cases hz1 : x.atom.a = 0
      case neg =>
        have hb1 : (x.atom.a == 0) = false := by simpa using hz1
        have HE : Hid (ez = false) := by show _ = _; rw [← HEZ.out]; exact decide_eq_false (by rintro ⟨e0, e1, e2, e3, e4, e5⟩; first | exact hz1 e0 | exact hz1 e1 | exact hz1 e2 | exact hz1 e4 | exact hz1 e5)
        clear hz0 hz1
        go_wp2_with fail
        go_meet
        exact ⟨by rw [HE.out], rfl⟩
      case pos =>
        have hb1 : (x.atom.a == 0) = true := by simpa using hz1
        by_cases hz2 : x.atom.b = 0
        case neg =>
          have hb2 : (x.atom.b == 0) = false := by simpa using hz2
          have HE : Hid (ez = false) := by show _ = _; rw [← HEZ.out]; exact decide_eq_false (by rintro ⟨e0, e1, e2, e3, e4, e5⟩; first | exact hz2 e0 | exact hz2 e1 | exact hz2 e2 | exact hz2 e4 | exact hz2 e5)
          clear hz0 hz1 hz2
          go_wp2_with fail
          go_meet
          exact ⟨by rw [HE.out], rfl⟩
        case pos =>
          have hb2 : (x.atom.b == 0) = true := by simpa using hz2
          by_cases hz3 : x.atom.row.kind = 0
          case neg =>
            have hb3 : (x.atom.row.kind == 0) = false := by simpa using hz3
            have HE : Hid (ez = false) := by show _ = _; rw [← HEZ.out]; exact decide_eq_false (by rintro ⟨e0, e1, e2, e3, e4, e5⟩; first | exact hz3 e0 | exact hz3 e1 | exact hz3 e2 | exact hz3 e4 | exact hz3 e5)
            clear hz0 hz1 hz2 hz3
            go_wp2_with fail
            go_meet
            exact ⟨by rw [HE.out], rfl⟩
          case pos =>
            have hb3 : (x.atom.row.kind == 0) = true := by simpa using hz3
            by_cases hz4 : x.atom.row.to_ = 0
            case neg =>
              have hb4 : (x.atom.row.to_ == 0) = false := by simpa using hz4
              have HE : Hid (ez = false) := by show _ = _; rw [← HEZ.out]; exact decide_eq_false (by rintro ⟨e0, e1, e2, e3, e4, e5⟩; first | exact hz4 e0 | exact hz4 e1 | exact hz4 e2 | exact hz4 e4 | exact hz4 e5)
              clear hz0 hz1 hz2 hz3 hz4
              go_wp2_with fail
              go_meet
              exact ⟨by rw [HE.out], rfl⟩
            case pos =>
              have hb4 : (x.atom.row.to_ == 0) = true := by simpa using hz4
              by_cases hz5 : no = 0
              case pos =>
                have HE : Hid (ez = true) := by show _ = _; rw [← HEZ.out]; exact decide_eq_true ⟨hz0, hz1, hz2, by rw [HOL.out]; exact hz5, hz3, hz4⟩
                have hbI : ((no : Int) == 0) = true := by simp; omega
                have hbN : (no == 0) = true := by simp; omega
                clear hz0 hz1 hz2 hz3 hz4 hz5
                go_wp2_with fail
                go_meet
                exact ⟨by rw [HE.out], rfl⟩
              case neg =>
                have HE : Hid (ez = false) := by show _ = _; rw [← HEZ.out]; exact decide_eq_false (by rintro ⟨e0, e1, e2, e3, e4, e5⟩; rw [HOL.out] at e3; exact hz5 e3)
                have hbI : ((no : Int) == 0) = false := by simp; omega
                have hbN : (no == 0) = false := by simp; omega
                clear hz0 hz1 hz2 hz3 hz4 hz5
                go_wp2_with fail
                go_meet
                exact ⟨by rw [HE.out], rfl⟩
  case rest =>
    obtain ⟨rfl, rfl⟩ := hcut
    obtain ⟨X, rfl⟩ : ∃ X : World, X = wc := ⟨_, rfl⟩
    clear a0 a1 a2 a3 a4 a5
    have b1 : X.cell? ⟨w.heap.size, 1, none⟩ = some (.slice L nl cl) := HI.out.k0.cell 1
    have HGB : Hid (w.grownBy X (some G)) := only_of_below HI.out.bel _
    have hLO := refLitsOk_any G _ _ _ _ _ A4 s.atoms.length c4 L nl cl x.lits ri rc X HI.out.m.blk HI.out.litsB HP.out.1 hnl (by omega) (by have := HI.out.m.la; omega) HP.out.2.1
    by_cases hrc : rc = 0
    case neg =>
      rw [decide_eq_false hrc] at hLO
      have HN : Hid (r = none) := by
        rw [← HP.out.2.2.2.2.2.2.2.2]
        exact stepR_bad (by rw [HP.out.2.1]; exact hrc)
      have HLO := Lib.hid hLO
      clear hLO hrc
      go_wp2_with fail
      refine HLO.out.mono ?_
      rintro e w3 ⟨rfl, hb3⟩
      have HB3 := Lib.hid (only_of_below (row := some G) hb3)
      clear hb3
      go_wp2_with fail
      go_ret
      exact stepQ_no (only_trans HGB.out HB3.out) HN.out rfl
    case pos =>
      rw [decide_eq_true hrc] at hLO
      have HLO := Lib.hid hLO
      have HGC : Hid (GoodC s.atoms.length x.lits) := goodC_of (by rw [HP.out.2.1]; exact hrc)
      have HBZ : Hid ((badL s.atoms.length [] x.lits 0).2 = 0) := by show _ = _; rw [HP.out.2.1]; exact hrc
      clear hLO hrc
      go_wp2_with fail
      refine HLO.out.mono ?_
      rintro e w3 ⟨rfl, hb3⟩
      have HB3 := Lib.hid hb3
      clear hb3
      go_upto_region 5 with fail
      have HI3 := Lib.hid (HI.out.later HB3.out)
      have HG3 : Hid (w.grownBy w3 (some G)) := only_of_below HI3.out.bel _
      have hnl2 : nl ≤ 120 := by have h1 := HGC.out.len; have h2 := HI3.out.lits.len; have h3 := HI3.out.m.la; omega
      have d0 : w3.cell? ⟨w.heap.size, 0, none⟩ = some (.int .i64 x.kind) := HI3.out.k0.cell 0
      have d1 : w3.cell? ⟨w.heap.size, 1, none⟩ = some (.slice L nl cl) := HI3.out.k0.cell 1
      have d2 : w3.cell? ⟨w.heap.size, 2, none⟩ = some (.slice M nm cm) := HI3.out.k0.cell 2
      clear b1 HI HLO HB3 HGB
      have h5 : ¬ x.kind = 5 := by have := HK.out; omega
      have HH5 := Lib.hid h5
      clear h5
      cases ez with
      | false =>
        have HN : Hid (r = none) := by rw [← HP.out.2.2.2.2.2.2.2.2]; exact stepR_form HBZ.out HH5.out (.inl HEZ.out)
        go_wp2_with fail
        go_ret
        exact stepQ_no HG3.out HN.out rfl
      | true =>
        by_cases hnm : 0 < nm
        case pos =>
          have hnI : (0 : Int) < (nm : Int) := by omega
          have HN : Hid (r = none) := by rw [← HP.out.2.2.2.2.2.2.2.2]; exact stepR_form HBZ.out HH5.out (.inr (.inl ⟨by have := HK.out; omega, by rw [HI3.out.nums.len]; exact hnm⟩))
          go_wp2_with fail
          go_ret
          exact stepQ_no HG3.out HN.out rfl
        case neg =>
          have HF : Hid (¬ (zeroA x.atom = false ∨ (¬ x.kind = 4 ∧ 0 < x.nums.length) ∨ (x.kind = 4 ∧ ¬ x.nums.length = x.lits.length))) := by
            rintro (e | e | e)
            · rw [HEZ.out] at e; cases e
            · have := e.2; rw [HI3.out.nums.len] at this; omega
            · have := HK.out; omega
          have HN : Hid (r = none) := by
            obtain ⟨q1, q2, q3, q4, q5, q6⟩ := HK.out
            show _ = _
            rw [← HP.out.2.2.2.2.2.2.2.2, stepR_rest HBZ.out HH5.out HF.out]
            simp [q1, q2, q3, q4, q6]
          go_wp2_with fail
          go_ret
          exact stepQ_no HG3.out HN.out rfl
end Go.Proofs.YthjfiomcpihlaaaGreat
namespace Go.Proofs.YthjfiomcpihlaaaGreat
open Go.RowKit

set_option maxRecDepth 100000 in
set_option maxHeartbeats 16000000 in
theorem refStep2_any (G : Nat) (A1 : Option Addr) (c1 : Nat) (A2 : Option Addr) (c2 : Nat) (v2 v3 : Value) (A4 : Option Addr) (c4 : Nat) (A5 : Option Addr) (c5 : Nat) (ts : List TermD) (ints : List Bool) (s : JSt) (L : Option Addr) (nl cl : Nat) (M : Option Addr) (nm cm : Nat) (O : Option Addr) (no co : Nat) (x : StepD) (w : World) (m0 : Nat) (r : Option JSt)
    (h : RefM w G A1 c1 A2 c2 v2 v3 A4 c4 A5 c5 ts ints s) (hlits : Arr AtInt 1 w (fun b => b < w.heap.size ∧ b ≠ G) L nl x.lits) (hnums : Arr AtFrac 2 w (fun b => b < w.heap.size ∧ b ≠ G) M nm x.nums) (hof : Arr AtInt 1 w (fun b => b < w.heap.size ∧ b ≠ G) O no x.atom.row.of_)
    (hinv : JInv ts ints s m0) (hm0 : m0 ≤ 4000) (hnl : nl ≤ cl) (hcl : cl ≤ maxLen) (hno : no ≤ co) (hco : co ≤ maxLen) (hki : I64 x.kind ∧ I64 x.atom.kind ∧ I64 x.atom.a ∧ I64 x.atom.b ∧ I64 x.atom.row.kind ∧ I64 x.atom.row.to_) (hr : stepR ts ints s x = r) (hk : x.kind = 2) :
    Calls Tryz.prog 15 #[.pointer (some ⟨G, 0, none⟩), .agg #[.int .i64 x.kind, .slice L nl cl, .slice M nm cm, .int .i64 x.atom.kind, .int .i64 x.atom.a, .int .i64 x.atom.b, .slice O no co, .int .i64 x.atom.row.kind, .int .i64 x.atom.row.to_]] w (StepQ G A1 c1 A2 c2 v2 v3 ts ints r w) := by
  have hI : ∀ l ∈ x.lits, I64 l := fun l hl => by
    obtain ⟨i, hi, e⟩ := List.getElem_of_mem hl
    obtain ⟨b, off, -, -, -, h2⟩ := hlits.at_ i l (by rw [← e]; exact List.getElem?_eq_getElem hi)
    exact h2
  obtain ⟨ri, rc, hbl⟩ : ∃ ri rc, badL s.atoms.length [] x.lits 0 = (ri, rc) := ⟨_, _, rfl⟩
  have HI := Lib.hid (step_start w (cl := cl) (cm := cm) (co := co) h hlits hnums hof)
  have HP := Lib.hid (And.intro hI (And.intro hbl (And.intro hinv (And.intro hnl (And.intro hcl (And.intro hno (And.intro hco (And.intro hki hr))))))))
  have HK := Lib.hid hk
  have e1 : (x.kind == 1) = false := by rw [beq_eq_false_iff_ne]; omega
  have e2 : (x.kind == 2) = true := by rw [beq_iff_eq]; exact hk
  have e3 : (x.kind == 3) = false := by rw [beq_eq_false_iff_ne]; omega
  have e4 : (x.kind == 4) = false := by rw [beq_eq_false_iff_ne]; omega
  have e5 : (x.kind == 5) = false := by rw [beq_eq_false_iff_ne]; omega
  have e6 : (x.kind == 6) = false := by rw [beq_eq_false_iff_ne]; omega
  have e4n : (x.kind != 4) = true := by simp; omega
  clear hk
  unfold maxLen at hcl hco
  clear h hlits hnums hof hI hbl hinv hki hr
  go_enter Tryz.func15, Tryz.ntmps15
  go_upto_region 2 with fail
  obtain ⟨X, hX⟩ : ∃ X, (w.alloc (.cells #[.int .i64 x.kind, .slice L nl cl, .slice M nm cm, .int .i64 x.atom.kind, .int .i64 x.atom.a, .int .i64 x.atom.b, .slice O no co, .int .i64 x.atom.row.kind, .int .i64 x.atom.row.to_] 49)).alloc (.cells #[.int .i64 x.atom.kind, .int .i64 x.atom.a, .int .i64 x.atom.b, .slice O no co, .int .i64 x.atom.row.kind, .int .i64 x.atom.row.to_] 47) = X := ⟨_, rfl⟩
  rw [hX] at HI
  rw [hX]
  clear hX
  have a0 : X.cell? ⟨w.heap.size + 1, 0, none⟩ = some (.int .i64 x.atom.kind) := HI.out.k1.cell 0
  have a1 : X.cell? ⟨w.heap.size + 1, 1, none⟩ = some (.int .i64 x.atom.a) := HI.out.k1.cell 1
  have a2 : X.cell? ⟨w.heap.size + 1, 2, none⟩ = some (.int .i64 x.atom.b) := HI.out.k1.cell 2
  have a3 : X.cell? ⟨w.heap.size + 1, 3, none⟩ = some (.slice O no co) := HI.out.k1.cell 3
  have a4 : X.cell? ⟨w.heap.size + 1, 4, none⟩ = some (.int .i64 x.atom.row.kind) := HI.out.k1.cell 4
  have a5 : X.cell? ⟨w.heap.size + 1, 5, none⟩ = some (.int .i64 x.atom.row.to_) := HI.out.k1.cell 5
  obtain ⟨ez, hez⟩ : ∃ b, zeroA x.atom = b := ⟨_, rfl⟩
  have HEZ := Lib.hid hez
  have HOL := Lib.hid HI.out.of_.len
  clear hez
  go_cut [6] (fun s6 wx => s6 = .bool ez ∧ wx = X)
  case first =>
    unfold zeroA at HEZ
    by_cases hz0 : x.atom.kind = 0
    case neg =>
      have hb0 : (x.atom.kind == 0) = false := by simpa using hz0
      have HE : Hid (ez = false) := by show _ = _; rw [← HEZ.out]; exact decide_eq_false (by rintro ⟨e0, e1, e2, e3, e4, e5⟩; first | exact hz0 e0 | exact hz0 e1 | exact hz0 e2 | exact hz0 e4 | exact hz0 e5)
      clear hz0
      go_wp2_with fail
      go_meet
      exact ⟨by rw [HE.out], rfl⟩
    case pos =>
      have hb0 : (x.atom.kind == 0) = true := by simpa using hz0
      by_cases hz1 : x.atom.a = 0
      case neg =>
        have hb1 : (x.atom.a == 0) = false := by simpa using hz1
        have HE : Hid (ez = false) := by show _ = _; rw [← HEZ.out]; exact decide_eq_false (by rintro ⟨e0, e1, e2, e3, e4, e5⟩; first | exact hz1 e0 | exact hz1 e1 | exact hz1 e2 | exact hz1 e4 | exact hz1 e5)
        clear hz0 hz1
        go_wp2_with fail
        go_meet
        exact ⟨by rw [HE.out], rfl⟩
      case pos =>
        have hb1 : (x.atom.a == 0) = true := by simpa using hz1
        by_cases hz2 : x.atom.b = 0
        case neg =>
          have hb2 : (x.atom.b == 0) = false := by simpa using hz2
          have HE : Hid (ez = false) := by show _ = _; rw [← HEZ.out]; exact decide_eq_false (by rintro ⟨e0, e1, e2, e3, e4, e5⟩; first | exact hz2 e0 | exact hz2 e1 | exact hz2 e2 | exact hz2 e4 | exact hz2 e5)
          clear hz0 hz1 hz2
          go_wp2_with fail
          go_meet
          exact ⟨by rw [HE.out], rfl⟩
        case pos =>
          have hb2 : (x.atom.b == 0) = true := by simpa using hz2
          by_cases hz3 : x.atom.row.kind = 0
          case neg =>
            have hb3 : (x.atom.row.kind == 0) = false := by simpa using hz3
            have HE : Hid (ez = false) := by show _ = _; rw [← HEZ.out]; exact decide_eq_false (by rintro ⟨e0, e1, e2, e3, e4, e5⟩; first | exact hz3 e0 | exact hz3 e1 | exact hz3 e2 | exact hz3 e4 | exact hz3 e5)
            clear hz0 hz1 hz2 hz3
            go_wp2_with fail
            go_meet
            exact ⟨by rw [HE.out], rfl⟩
          case pos =>
            have hb3 : (x.atom.row.kind == 0) = true := by simpa using hz3
            by_cases hz4 : x.atom.row.to_ = 0
            case neg =>
              have hb4 : (x.atom.row.to_ == 0) = false := by simpa using hz4
              have HE : Hid (ez = false) := by show _ = _; rw [← HEZ.out]; exact decide_eq_false (by rintro ⟨e0, e1, e2, e3, e4, e5⟩; first | exact hz4 e0 | exact hz4 e1 | exact hz4 e2 | exact hz4 e4 | exact hz4 e5)
              clear hz0 hz1 hz2 hz3 hz4
              go_wp2_with fail
              go_meet
              exact ⟨by rw [HE.out], rfl⟩
            case pos =>
              have hb4 : (x.atom.row.to_ == 0) = true := by simpa using hz4
              by_cases hz5 : no = 0
              case pos =>
                have HE : Hid (ez = true) := by show _ = _; rw [← HEZ.out]; exact decide_eq_true ⟨hz0, hz1, hz2, by rw [HOL.out]; exact hz5, hz3, hz4⟩
                have hbI : ((no : Int) == 0) = true := by simp; omega
                have hbN : (no == 0) = true := by simp; omega
                clear hz0 hz1 hz2 hz3 hz4 hz5
                go_wp2_with fail
                go_meet
                exact ⟨by rw [HE.out], rfl⟩
              case neg =>
                have HE : Hid (ez = false) := by show _ = _; rw [← HEZ.out]; exact decide_eq_false (by rintro ⟨e0, e1, e2, e3, e4, e5⟩; rw [HOL.out] at e3; exact hz5 e3)
                have hbI : ((no : Int) == 0) = false := by simp; omega
                have hbN : (no == 0) = false := by simp; omega
                clear hz0 hz1 hz2 hz3 hz4 hz5
                go_wp2_with fail
                go_meet
                exact ⟨by rw [HE.out], rfl⟩
  case rest =>
    obtain ⟨rfl, rfl⟩ := hcut
    obtain ⟨X, rfl⟩ : ∃ X : World, X = wc := ⟨_, rfl⟩
    clear a0 a1 a2 a3 a4 a5
    have b1 : X.cell? ⟨w.heap.size, 1, none⟩ = some (.slice L nl cl) := HI.out.k0.cell 1
    have HGB : Hid (w.grownBy X (some G)) := only_of_below HI.out.bel _
    have hLO := refLitsOk_any G _ _ _ _ _ A4 s.atoms.length c4 L nl cl x.lits ri rc X HI.out.m.blk HI.out.litsB HP.out.1 hnl (by omega) (by have := HI.out.m.la; omega) HP.out.2.1
    by_cases hrc : rc = 0
    case neg =>
      rw [decide_eq_false hrc] at hLO
      have HN : Hid (r = none) := by
        rw [← HP.out.2.2.2.2.2.2.2.2]
        exact stepR_bad (by rw [HP.out.2.1]; exact hrc)
      have HLO := Lib.hid hLO
      clear hLO hrc
      go_wp2_with fail
      refine HLO.out.mono ?_
      rintro e w3 ⟨rfl, hb3⟩
      have HB3 := Lib.hid (only_of_below (row := some G) hb3)
      clear hb3
      go_wp2_with fail
      go_ret
      exact stepQ_no (only_trans HGB.out HB3.out) HN.out rfl
    case pos =>
      rw [decide_eq_true hrc] at hLO
      have HLO := Lib.hid hLO
      have HGC : Hid (GoodC s.atoms.length x.lits) := goodC_of (by rw [HP.out.2.1]; exact hrc)
      have HBZ : Hid ((badL s.atoms.length [] x.lits 0).2 = 0) := by show _ = _; rw [HP.out.2.1]; exact hrc
      clear hLO hrc
      go_wp2_with fail
      refine HLO.out.mono ?_
      rintro e w3 ⟨rfl, hb3⟩
      have HB3 := Lib.hid hb3
      clear hb3
      go_upto_region 5 with fail
      have HI3 := Lib.hid (HI.out.later HB3.out)
      have HG3 : Hid (w.grownBy w3 (some G)) := only_of_below HI3.out.bel _
      have hnl2 : nl ≤ 120 := by have h1 := HGC.out.len; have h2 := HI3.out.lits.len; have h3 := HI3.out.m.la; omega
      have d0 : w3.cell? ⟨w.heap.size, 0, none⟩ = some (.int .i64 x.kind) := HI3.out.k0.cell 0
      have d1 : w3.cell? ⟨w.heap.size, 1, none⟩ = some (.slice L nl cl) := HI3.out.k0.cell 1
      have d2 : w3.cell? ⟨w.heap.size, 2, none⟩ = some (.slice M nm cm) := HI3.out.k0.cell 2
      clear b1 HI HLO HB3 HGB
      have h5 : ¬ x.kind = 5 := by have := HK.out; omega
      have HH5 := Lib.hid h5
      clear h5
      cases ez with
      | false =>
        have HN : Hid (r = none) := by rw [← HP.out.2.2.2.2.2.2.2.2]; exact stepR_form HBZ.out HH5.out (.inl HEZ.out)
        go_wp2_with fail
        go_ret
        exact stepQ_no HG3.out HN.out rfl
      | true =>
        by_cases hnm : 0 < nm
        case pos =>
          have hnI : (0 : Int) < (nm : Int) := by omega
          have HN : Hid (r = none) := by rw [← HP.out.2.2.2.2.2.2.2.2]; exact stepR_form HBZ.out HH5.out (.inr (.inl ⟨by have := HK.out; omega, by rw [HI3.out.nums.len]; exact hnm⟩))
          go_wp2_with fail
          go_ret
          exact stepQ_no HG3.out HN.out rfl
        case neg =>
          have HF : Hid (¬ (zeroA x.atom = false ∨ (¬ x.kind = 4 ∧ 0 < x.nums.length) ∨ (x.kind = 4 ∧ ¬ x.nums.length = x.lits.length))) := by
            rintro (e | e | e)
            · rw [HEZ.out] at e; cases e
            · have := e.2; rw [HI3.out.nums.len] at this; omega
            · have := HK.out; omega
          have HST : Hid (stepR ts ints s x = if s.cls.any (fun c => permB c x.lits) = true then some ⟨s.atoms, s.cls.eraseIdx (idx (fun c => permB c x.lits) s.cls 0).toNat⟩ else none) := by
            show _ = _
            rw [stepR_rest HBZ.out HH5.out HF.out, if_pos HK.out]
          have HDR := Lib.hid (refDrops_any G _ _ _ _ _ A5 s.cls.length c5 s.cls L nl cl x.lits w3 HI3.out.m.blk HI3.out.m.c HI3.out.litsB HP.out.2.2.2.1 (by omega) HI3.out.m.l5.1 (by have h1 := HP.out.2.2.1.lc; omega) HI3.out.m.l5.2 HP.out.2.2.1.clean HP.out.2.2.1.tame)
          go_wp2_with fail
          refine HDR.out.mono ?_
          rintro e w4 ⟨rfl, hg4, hd4⟩
          obtain ⟨P, hP⟩ : ∃ P, s.cls.any (fun c => permB c x.lits) = P := ⟨_, rfl⟩
          rw [hP] at hd4 HST ⊢
          have HD4 := Lib.hid (And.intro hg4 hd4)
          clear hg4 hd4 hP d0 d1 d2
          go_wp2_with fail
          go_ret
          cases P with
          | false => exact stepQ_no (only_trans HG3.out HD4.out.1) (by rw [← HP.out.2.2.2.2.2.2.2.2, HST.out, if_neg (by simp)]) rfl
          | true =>
            obtain ⟨A, mm, cc, hk, h1, h2, h3⟩ := HD4.out.2 rfl
            exact stepQ_yes (only_trans HG3.out HD4.out.1) (by rw [← HP.out.2.2.2.2.2.2.2.2, HST.out, if_pos rfl]) rfl (HI3.out.m.toCls HD4.out.1 hk h3 h1 h2)
end Go.Proofs.YthjfiomcpihlaaaGreat
