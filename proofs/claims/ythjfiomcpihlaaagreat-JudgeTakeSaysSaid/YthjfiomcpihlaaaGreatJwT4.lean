/- Walk: the reference's Step at kind 4 (JudgeWhySays; printed by genJwS.py). -/
import Derived.Test.YthjfiomcpihlaaaGreatJwRS
import Derived.Test.YthjfiomcpihlaaaGreatJwDEF
import Derived.Test.YthjfiomcpihlaaaGreatJwQ
import Derived.Deep.RegionLaw
import Derived.Deep.DeepCutAuto
import Derived.Lib.QuietBelow
namespace Go.Proofs.YthjfiomcpihlaaaGreat
open Go.RowKit

set_option maxRecDepth 100000 in
set_option maxHeartbeats 16000000 in
theorem refStep4_any (G : Nat) (A1 : Option Addr) (c1 : Nat) (A2 : Option Addr) (c2 : Nat) (v2 v3 : Value) (A4 : Option Addr) (c4 : Nat) (A5 : Option Addr) (c5 : Nat) (ts : List TermD) (ints : List Bool) (s : JSt) (L : Option Addr) (nl cl : Nat) (M : Option Addr) (nm cm : Nat) (O : Option Addr) (no co : Nat) (x : StepD) (w : World) (m0 : Nat) (r : Option JSt)
    (h : RefM w G A1 c1 A2 c2 v2 v3 A4 c4 A5 c5 ts ints s) (hlits : Arr AtInt 1 w (fun b => b < w.heap.size ∧ b ≠ G) L nl x.lits) (hnums : Arr AtFrac 2 w (fun b => b < w.heap.size ∧ b ≠ G) M nm x.nums) (hof : Arr AtInt 1 w (fun b => b < w.heap.size ∧ b ≠ G) O no x.atom.row.of_)
    (hinv : JInv ts ints s m0) (hm0 : m0 ≤ 4000) (hnl : nl ≤ cl) (hcl : cl ≤ maxLen) (hno : no ≤ co) (hco : co ≤ maxLen) (hki : I64 x.kind ∧ I64 x.atom.kind ∧ I64 x.atom.a ∧ I64 x.atom.b ∧ I64 x.atom.row.kind ∧ I64 x.atom.row.to_) (hr : stepR ts ints s x = r) (hk : x.kind = 4) :
    Calls Tryz.prog 15 #[.pointer (some ⟨G, 0, none⟩), .agg #[.int .i64 x.kind, .slice L nl cl, .slice M nm cm, .int .i64 x.atom.kind, .int .i64 x.atom.a, .int .i64 x.atom.b, .slice O no co, .int .i64 x.atom.row.kind, .int .i64 x.atom.row.to_]] w (StepQ G A1 c1 A2 c2 v2 v3 ts ints r w) := by
  have hI : ∀ l ∈ x.lits, I64 l := fun l hl => by
    obtain ⟨i, hi, e⟩ := List.getElem_of_mem hl
    obtain ⟨b, off, -, -, -, h2⟩ := hlits.at_ i l (by rw [← e]; exact List.getElem?_eq_getElem hi)
    exact h2
  obtain ⟨ri, rc, hbl⟩ : ∃ ri rc, badL s.atoms.length [] x.lits 0 = (ri, rc) := ⟨_, _, rfl⟩
  have HI := Lib.hid (step_start w (cl := cl) (cm := cm) (co := co) h hlits hnums hof)
  have HP := Lib.hid (And.intro hI (And.intro hbl (And.intro hinv (And.intro hnl (And.intro hcl (And.intro hno (And.intro hco (And.intro hki hr))))))))
  have HK := Lib.hid hk
  have e1 : (x.kind == 1) = false := by rw [beq_eq_false_iff_ne]; omega
  have e2 : (x.kind == 2) = false := by rw [beq_eq_false_iff_ne]; omega
  have e3 : (x.kind == 3) = false := by rw [beq_eq_false_iff_ne]; omega
  have e4 : (x.kind == 4) = true := by rw [beq_iff_eq]; exact hk
  have e5 : (x.kind == 5) = false := by rw [beq_eq_false_iff_ne]; omega
  have e6 : (x.kind == 6) = false := by rw [beq_eq_false_iff_ne]; omega
  have e4n : (x.kind != 4) = false := by simp; omega
  clear hk
  unfold maxLen at hcl hco
  clear h hlits hnums hof hI hbl hinv hki hr
  go_enter Tryz.func15, Tryz.ntmps15
  go_upto_region 2 with fail
  obtain ⟨X, hX⟩ : ∃ X, (w.alloc (.cells #[.int .i64 x.kind, .slice L nl cl, .slice M nm cm, .int .i64 x.atom.kind, .int .i64 x.atom.a, .int .i64 x.atom.b, .slice O no co, .int .i64 x.atom.row.kind, .int .i64 x.atom.row.to_] 49)).alloc (.cells #[.int .i64 x.atom.kind, .int .i64 x.atom.a, .int .i64 x.atom.b, .slice O no co, .int .i64 x.atom.row.kind, .int .i64 x.atom.row.to_] 47) = X := ⟨_, rfl⟩
  rw [hX] at HI
  rw [hX]
  clear hX
  have a0 : X.cell? ⟨w.heap.size + 1, 0, none⟩ = some (.int .i64 x.atom.kind) := HI.out.k1.cell 0
  have a1 : X.cell? ⟨w.heap.size + 1, 1, none⟩ = some (.int .i64 x.atom.a) := HI.out.k1.cell 1
  have a2 : X.cell? ⟨w.heap.size + 1, 2, none⟩ = some (.int .i64 x.atom.b) := HI.out.k1.cell 2
  have a3 : X.cell? ⟨w.heap.size + 1, 3, none⟩ = some (.slice O no co) := HI.out.k1.cell 3
  have a4 : X.cell? ⟨w.heap.size + 1, 4, none⟩ = some (.int .i64 x.atom.row.kind) := HI.out.k1.cell 4
  have a5 : X.cell? ⟨w.heap.size + 1, 5, none⟩ = some (.int .i64 x.atom.row.to_) := HI.out.k1.cell 5
  obtain ⟨ez, hez⟩ : ∃ b, zeroA x.atom = b := ⟨_, rfl⟩
  have HEZ := Lib.hid hez
  have HOL := Lib.hid HI.out.of_.len
  clear hez
  go_cut [6] (fun s6 wx => s6 = .bool ez ∧ wx = X)
  case first =>
    unfold zeroA at HEZ
    by_cases hz0 : x.atom.kind = 0
    case neg =>
      have hb0 : (x.atom.kind == 0) = false := by simpa using hz0
      have HE : Hid (ez = false) := by show _ = _; rw [← HEZ.out]; exact decide_eq_false (by rintro ⟨e0, e1, e2, e3, e4, e5⟩; first | exact hz0 e0 | exact hz0 e1 | exact hz0 e2 | exact hz0 e4 | exact hz0 e5)
      clear hz0
      go_wp2_with fail
      go_meet
      exact ⟨by rw [HE.out], rfl⟩
    case pos =>
      have hb0 : (x.atom.kind == 0) = true := by simpa using hz0
      by_cases hz1 : x.atom.a = 0
      case neg =>
        have hb1 : (x.atom.a == 0) = false := by simpa using hz1
        have HE : Hid (ez = false) := by show _ = _; rw [← HEZ.out]; exact decide_eq_false (by rintro ⟨e0, e1, e2, e3, e4, e5⟩; first | exact hz1 e0 | exact hz1 e1 | exact hz1 e2 | exact hz1 e4 | exact hz1 e5)
        clear hz0 hz1
        go_wp2_with fail
        go_meet
        exact ⟨by rw [HE.out], rfl⟩
      case pos =>
        have hb1 : (x.atom.a == 0) = true := by simpa using hz1
        by_cases hz2 : x.atom.b = 0
        case neg =>
          have hb2 : (x.atom.b == 0) = false := by simpa using hz2
          have HE : Hid (ez = false) := by show _ = _; rw [← HEZ.out]; exact decide_eq_false (by rintro ⟨e0, e1, e2, e3, e4, e5⟩; first | exact hz2 e0 | exact hz2 e1 | exact hz2 e2 | exact hz2 e4 | exact hz2 e5)
          clear hz0 hz1 hz2
          go_wp2_with fail
          go_meet
          exact ⟨by rw [HE.out], rfl⟩
        case pos =>
          have hb2 : (x.atom.b == 0) = true := by simpa using hz2
          by_cases hz3 : x.atom.row.kind = 0
          case neg =>
            have hb3 : (x.atom.row.kind == 0) = false := by simpa using hz3
            have HE : Hid (ez = false) := by show _ = _; rw [← HEZ.out]; exact decide_eq_false (by rintro ⟨e0, e1, e2, e3, e4, e5⟩; first | exact hz3 e0 | exact hz3 e1 | exact hz3 e2 | exact hz3 e4 | exact hz3 e5)
            clear hz0 hz1 hz2 hz3
            go_wp2_with fail
            go_meet
            exact ⟨by rw [HE.out], rfl⟩
          case pos =>
            have hb3 : (x.atom.row.kind == 0) = true := by simpa using hz3
            by_cases hz4 : x.atom.row.to_ = 0
            case neg =>
              have hb4 : (x.atom.row.to_ == 0) = false := by simpa using hz4
              have HE : Hid (ez = false) := by show _ = _; rw [← HEZ.out]; exact decide_eq_false (by rintro ⟨e0, e1, e2, e3, e4, e5⟩; first | exact hz4 e0 | exact hz4 e1 | exact hz4 e2 | exact hz4 e4 | exact hz4 e5)
              clear hz0 hz1 hz2 hz3 hz4
              go_wp2_with fail
              go_meet
              exact ⟨by rw [HE.out], rfl⟩
            case pos =>
              have hb4 : (x.atom.row.to_ == 0) = true := by simpa using hz4
              by_cases hz5 : no = 0
              case pos =>
                have HE : Hid (ez = true) := by show _ = _; rw [← HEZ.out]; exact decide_eq_true ⟨hz0, hz1, hz2, by rw [HOL.out]; exact hz5, hz3, hz4⟩
                have hbI : ((no : Int) == 0) = true := by simp; omega
                have hbN : (no == 0) = true := by simp; omega
                clear hz0 hz1 hz2 hz3 hz4 hz5
                go_wp2_with fail
                go_meet
                exact ⟨by rw [HE.out], rfl⟩
              case neg =>
                have HE : Hid (ez = false) := by show _ = _; rw [← HEZ.out]; exact decide_eq_false (by rintro ⟨e0, e1, e2, e3, e4, e5⟩; rw [HOL.out] at e3; exact hz5 e3)
                have hbI : ((no : Int) == 0) = false := by simp; omega
                have hbN : (no == 0) = false := by simp; omega
                clear hz0 hz1 hz2 hz3 hz4 hz5
                go_wp2_with fail
                go_meet
                exact ⟨by rw [HE.out], rfl⟩
  case rest =>
    obtain ⟨rfl, rfl⟩ := hcut
    obtain ⟨X, rfl⟩ : ∃ X : World, X = wc := ⟨_, rfl⟩
    clear a0 a1 a2 a3 a4 a5
    have b1 : X.cell? ⟨w.heap.size, 1, none⟩ = some (.slice L nl cl) := HI.out.k0.cell 1
    have HGB : Hid (w.grownBy X (some G)) := only_of_below HI.out.bel _
    have hLO := refLitsOk_any G _ _ _ _ _ A4 s.atoms.length c4 L nl cl x.lits ri rc X HI.out.m.blk HI.out.litsB HP.out.1 hnl (by omega) (by have := HI.out.m.la; omega) HP.out.2.1
    by_cases hrc : rc = 0
    case neg =>
      rw [decide_eq_false hrc] at hLO
      have HN : Hid (r = none) := by
        rw [← HP.out.2.2.2.2.2.2.2.2]
        exact stepR_bad (by rw [HP.out.2.1]; exact hrc)
      have HLO := Lib.hid hLO
      clear hLO hrc
      go_wp2_with fail
      refine HLO.out.mono ?_
      rintro e w3 ⟨rfl, hb3⟩
      have HB3 := Lib.hid (only_of_below (row := some G) hb3)
      clear hb3
      go_wp2_with fail
      go_ret
      exact stepQ_no (only_trans HGB.out HB3.out) HN.out rfl
    case pos =>
      rw [decide_eq_true hrc] at hLO
      have HLO := Lib.hid hLO
      have HGC : Hid (GoodC s.atoms.length x.lits) := goodC_of (by rw [HP.out.2.1]; exact hrc)
      have HBZ : Hid ((badL s.atoms.length [] x.lits 0).2 = 0) := by show _ = _; rw [HP.out.2.1]; exact hrc
      clear hLO hrc
      go_wp2_with fail
      refine HLO.out.mono ?_
      rintro e w3 ⟨rfl, hb3⟩
      have HB3 := Lib.hid hb3
      clear hb3
      go_upto_region 5 with fail
      have HI3 := Lib.hid (HI.out.later HB3.out)
      have HG3 : Hid (w.grownBy w3 (some G)) := only_of_below HI3.out.bel _
      have hnl2 : nl ≤ 120 := by have h1 := HGC.out.len; have h2 := HI3.out.lits.len; have h3 := HI3.out.m.la; omega
      have d0 : w3.cell? ⟨w.heap.size, 0, none⟩ = some (.int .i64 x.kind) := HI3.out.k0.cell 0
      have d1 : w3.cell? ⟨w.heap.size, 1, none⟩ = some (.slice L nl cl) := HI3.out.k0.cell 1
      have d2 : w3.cell? ⟨w.heap.size, 2, none⟩ = some (.slice M nm cm) := HI3.out.k0.cell 2
      clear b1 HI HLO HB3 HGB
      have h5 : ¬ x.kind = 5 := by have := HK.out; omega
      have HH5 := Lib.hid h5
      clear h5
      cases ez with
      | false =>
        have HN : Hid (r = none) := by rw [← HP.out.2.2.2.2.2.2.2.2]; exact stepR_form HBZ.out HH5.out (.inl HEZ.out)
        go_wp2_with fail
        go_ret
        exact stepQ_no HG3.out HN.out rfl
      | true =>
        by_cases hnm : nm = nl
        case neg =>
          have hnb : ((nm : Int) != (nl : Int)) = true := by simp; omega
          have hnb2 : (nm != nl) = true := by simp; omega
          have HN : Hid (r = none) := by rw [← HP.out.2.2.2.2.2.2.2.2]; exact stepR_form HBZ.out HH5.out (.inr (.inr ⟨HK.out, by rw [HI3.out.nums.len, HI3.out.lits.len]; exact hnm⟩))
          clear hnm
          go_wp2_with fail
          go_ret
          exact stepQ_no HG3.out HN.out rfl
        case pos =>
          have hnb : ((nm : Int) != (nl : Int)) = false := by simp; omega
          have hnb2 : (nm != nl) = false := by simp; omega
          have HNM := Lib.hid hnm
          have HF : Hid (¬ (zeroA x.atom = false ∨ (¬ x.kind = 4 ∧ 0 < x.nums.length) ∨ (x.kind = 4 ∧ ¬ x.nums.length = x.lits.length))) := by
            rintro (e | e | e)
            · rw [HEZ.out] at e; cases e
            · exact e.1 HK.out
            · exact e.2 (by rw [HI3.out.nums.len, HI3.out.lits.len]; exact HNM.out)
          clear hnm
          obtain ⟨R, hR⟩ : ∃ R, rowsF ints.length s.atoms x.lits x.nums = R := ⟨_, rfl⟩
          have HST : Hid (stepR ts ints s x = if R = true then some ⟨s.atoms, s.cls ++ [x.lits]⟩ else none) := stepR_test HBZ.out HH5.out (by have := HK.out; omega) HF.out (by simp [HK.out, hR])
          obtain ⟨KO, hKO⟩ : ∃ b, allK s.atoms 3 x.lits = b := ⟨_, rfl⟩
          have HLE := Lib.hid (refKindOk_any w3.heap.size G A1 A2 A4 c1 c2 c4 ts ints s.atoms L nl cl x.lits 3 w3 HI3.out.m.reads HI3.out.litsB HGC.out.1 (by omega) HP.out.2.2.2.1 KO hKO)
          go_wp2_with fail
          refine HLE.out.mono ?_
          rintro e w4 ⟨rfl, hb4⟩
          have HI4 := Lib.hid (HI3.out.later hb4)
          have HG4 : Hid (w.grownBy w4 (some G)) := only_trans HG3.out (only_of_below hb4 _)
          have g1 : w4.cell? ⟨w.heap.size, 1, none⟩ = some (.slice L nl cl) := HI4.out.k0.cell 1
          have g2 : w4.cell? ⟨w.heap.size, 2, none⟩ = some (.slice M nm cm) := HI4.out.k0.cell 2
          clear hb4 d0 d1 d2 HLE
          cases KO with
          | false =>
            have HN : Hid (r = none) := by
              show _ = _
              rw [← HP.out.2.2.2.2.2.2.2.2, HST.out, if_neg (by rw [← hR]; unfold rowsF; rw [hKO]; simp)]
            clear hR hKO
            go_wp2_with fail
            go_ret
            exact stepQ_no HG4.out HN.out rfl
          | true =>
            have HL2 := Lib.hid (refRows_any G A1 A2 A4 c1 c2 c4 ts ints s.atoms L nl cl x.lits M nm cm x.nums w4 HI4.out.m.reads HI4.out.litsB HGC.out.1 (by omega) HI4.out.numsB HNM.out HP.out.2.2.1.gr (by have := HP.out.2.2.1.li; omega) hKO R hR)
            clear hR hKO
            go_wp2_with fail
            refine HL2.out.mono ?_
            rintro e wz ⟨rfl, hb5⟩
            have HI5 := Lib.hid (HI4.out.later hb5)
            have HG5 : Hid (w.grownBy wz (some G)) := only_trans HG4.out (only_of_below hb5 _)
            clear hb5 g1 g2 HL2
            cases R with
            | false =>
              have HN : Hid (r = none) := by show _ = _; rw [← HP.out.2.2.2.2.2.2.2.2, HST.out, if_neg (by simp)]
              go_wp2_with fail
              go_ret
              exact stepQ_no HG5.out HN.out rfl
            | true =>
              have HRS : Hid (r = some ⟨s.atoms, s.cls ++ [x.lits]⟩) := by show _ = _; rw [← HP.out.2.2.2.2.2.2.2.2, HST.out, if_pos rfl]
              go_upto_region 25 with fail
              have q5 : wz.cell? ⟨G, 5, none⟩ = some (.slice A5 s.cls.length c5) := HI5.out.m.blk.cell 5
              have f5 : wz.frozen? ⟨G, 5, none⟩ = false := HI5.out.m.blk.frozen 5
              have hG : G < wz.heap.size := HI5.out.m.blk.lt
              have hS : w.heap.size < wz.heap.size := HI5.out.k0.lt
              have p1 : wz.cell? ⟨w.heap.size, 1, none⟩ = some (.slice L nl cl) := HI5.out.k0.cell 1
              have HCW : Hid (∀ W, Below wz.heap.size wz W → Arr (AtArr AtInt 1) 1 W (fun b => b < wz.heap.size ∧ b ≠ G) A5 s.cls.length s.cls) := fun W hW => HI5.out.m.c.keep (stays_arr stays_int) (fun _ h => h) (fun b o hb => hW.cell (p := ⟨b, o, none⟩) hb.1)
              have HLW : Hid (∀ W, Below wz.heap.size wz W → VArr AtInt 1 W (fun b => b < wz.heap.size ∧ b ≠ G) [.slice L nl cl] x.lits) := fun W hW => ⟨L, nl, cl, rfl, HP.out.2.2.2.1, HP.out.2.2.2.2.1, HI5.out.lits.keep stays_int (fun _ h => h) (fun b o hb => hW.cell (p := ⟨b, o, none⟩) hb.1)⟩
              have HNC : Hid (s.cls.length ≤ 4000) := by have h1 := HP.out.2.2.1.lc; exact Nat.le_trans h1 hm0
              obtain ⟨nc, hnc⟩ : ∃ nc, s.cls.length = nc := ⟨_, rfl⟩
              rw [hnc] at q5 HCW HNC
              have HNQ := Lib.hid hnc
              clear hnc
              go_region_law (first
                | (refine step_append_item (by rfl) _ _ _ (by rfl) rowLitsJ (tells_arr stays_int) (v := v5) (xs := ([] : List (List Int)) ++ s.cls) (base := wz.heap.size) (S := fun b => b < wz.heap.size ∧ b ≠ G) (by rfl) (.inl HO5.out) (g := wz.heap.size) (cs := #[.slice L nl cl]) (by rfl) HLIT.out (y := x.lits) (HLW.out _ HB5.out) (fun b hb => ⟨by have := hb.1; have := HB5.out.size; first | omega | (simp; omega), fun e => by have := (HO5.out.lt b e).1; have := hb.1; omega⟩) (by have := HNC.out; have := HNQ.out; simp; unfold maxLen; omega) (by have := HNC.out; have := HNQ.out; simp; omega) (by have := HB5.out.size; first | omega | (simp; omega)) ?_
                   intro g6 c6 w6 hown6 hgrow6 hat6 hlt6
                   have HB6 : Hid (Below wz.heap.size wz w6) := below_then HB5.out hgrow6 (by have := HB5.out.size; first | omega | (simp; omega)) (fun y hy => (HO5.out.lt y hy).1)
                   have q6 : w6.cell? ⟨G, 5, none⟩ = some (.slice A5 nc c5) := (HB6.out.cell (p := ⟨G, 5, none⟩) hG).trans q5
                   have f6 : w6.frozen? ⟨G, 5, none⟩ = false := (HB6.out.frozen (p := ⟨G, 5, none⟩) hG).trans f5
                   have zG : G < w6.heap.size := Nat.lt_of_lt_of_le hG HB6.out.size
                   have HO6 := Lib.hid hown6
                   clear hown6 hgrow6 hat6 hlt6)
                | (refine step_append_item (by rfl) _ _ _ (by rfl) rowLitsJ (tells_arr stays_int) (v := v5) (xs := ([] : List (List Int)) ++ s.cls) (base := wz.heap.size) (S := fun b => b < wz.heap.size ∧ b ≠ G) (by rfl) (.inl (HO5.out.kept (tells_arr stays_int) (only_alloc (only_refl w5 none) (.cells #[.slice L nl cl] 40)) (by cases v5.ownBlock <;> simp) (fun b hb => ⟨hb, by have := hb.1; have := HB5.out.size; omega, by simp⟩))) (g := w5.heap.size) (cs := #[.slice L nl cl]) (by rfl) (Blk.new w5 _ _) (y := x.lits) (HLW.out _ (HB5.out.alloc HB5.out.size (.cells #[.slice L nl cl] 40))) (fun b hb => ⟨by have := hb.1; have := HB5.out.size; first | omega | (simp; omega), fun e => by have := (HO5.out.lt b e).1; have := hb.1; omega⟩) (by have := HNC.out; have := HNQ.out; simp; unfold maxLen; omega) (by have := HNC.out; have := HNQ.out; simp; omega) (by have := HB5.out.size; first | omega | (simp; omega)) ?_
                   intro g6 c6 w6 hown6 hgrow6 hat6 hlt6
                   have HB6 : Hid (Below wz.heap.size wz w6) := below_then (HB5.out.alloc HB5.out.size (.cells #[.slice L nl cl] 40)) hgrow6 (by have := HB5.out.size; first | omega | (simp; omega)) (fun y hy => (HO5.out.lt y hy).1)
                   have q6 : w6.cell? ⟨G, 5, none⟩ = some (.slice A5 nc c5) := (HB6.out.cell (p := ⟨G, 5, none⟩) hG).trans q5
                   have f6 : w6.frozen? ⟨G, 5, none⟩ = false := (HB6.out.frozen (p := ⟨G, 5, none⟩) hG).trans f5
                   have zG : G < w6.heap.size := Nat.lt_of_lt_of_le hG HB6.out.size
                   have HO6 := Lib.hid hown6
                   clear hown6 hgrow6 hat6 hlt6)
                | (refine step_append_manyJ (by rfl) _ _ _ (by rfl) rowLitsJ (tells_arr stays_int) (v := .slice none 0 0) (xs := ([] : List (List Int))) (base := wz.heap.size) (S := fun b => b < wz.heap.size ∧ b ≠ G) (by rfl) (OwnV.none_ _ _ _ _ _ _) (E := AtArr AtInt 1) (fun _ _ _ _ _ h => atV_arr.2 h) (A := A5) (m := nc) (c := c5) (by rfl) (HCW.out _ (below_drewN (Below.refl wz.heap.size wz) 1)) (fun b hb => ⟨by have := hb.1; first | omega | (simp; omega), by simp [Value.ownBlock]⟩) (by have := HNC.out; simp; unfold maxLen; omega) (by have := HNC.out; simp; omega) (by first | exact Nat.le_refl _ | (simp)) ?_
                   intro v5 w5 hown5 hgrow5 hat5
                   have HB5 : Hid (Below wz.heap.size wz w5) := below_then (below_drewN (Below.refl wz.heap.size wz) 1) hgrow5 (by first | exact Nat.le_refl _ | simp) (fun x hx => by simp [Value.ownBlock] at hx)
                   have HO5 := Lib.hid hown5
                   have r1 : w5.cell? ⟨w.heap.size, 1, none⟩ = some (.slice L nl cl) := (HB5.out.cell (p := ⟨w.heap.size, 1, none⟩) hS).trans p1
                   have zS : w.heap.size < w5.heap.size := Nat.lt_of_lt_of_le hS HB5.out.size
                   clear hown5 hgrow5 hat5)
                | (refine step_append_manyJ (by rfl) _ _ _ (by rfl) rowLitsJ (tells_arr stays_int) (v := .slice none 0 0) (xs := ([] : List (List Int))) (base := wz.heap.size) (S := fun b => b < wz.heap.size ∧ b ≠ G) (by rfl) (OwnV.none_ _ _ _ _ _ _) (E := AtArr AtInt 1) (fun _ _ _ _ _ h => atV_arr.2 h) (A := A5) (m := nc) (c := c5) (by rfl) (HCW.out _ (below_drewN ((Below.refl wz.heap.size wz).alloc (Nat.le_refl _) (.cells #[.slice L nl cl] 40)) 1)) (fun b hb => ⟨by have := hb.1; first | omega | (simp; omega), by simp [Value.ownBlock]⟩) (by have := HNC.out; simp; unfold maxLen; omega) (by have := HNC.out; simp; omega) (by first | exact Nat.le_refl _ | (simp)) ?_
                   intro v5 w5 hown5 hgrow5 hat5
                   have HB5 : Hid (Below wz.heap.size wz w5) := below_then (below_drewN ((Below.refl wz.heap.size wz).alloc (Nat.le_refl _) (.cells #[.slice L nl cl] 40)) 1) hgrow5 (by first | exact Nat.le_refl _ | simp) (fun x hx => by simp [Value.ownBlock] at hx)
                   have HO5 := Lib.hid hown5
                   have r1 : w5.cell? ⟨w.heap.size, 1, none⟩ = some (.slice L nl cl) := (HB5.out.cell (p := ⟨w.heap.size, 1, none⟩) hS).trans p1
                   have zS : w.heap.size < w5.heap.size := Nat.lt_of_lt_of_le hS HB5.out.size
                   have HLIT : Hid (Blk w5 wz.heap.size 40 #[.slice L nl cl]) := Blk.grown (Blk.drew (Blk.new wz _ _)) hgrow5 (by simp [Value.ownBlock])
                   clear hown5 hgrow5 hat5)
                | fail)
              all_goals
                have hpu := cls_pushed (w0 := w) (w5 := w6) (lits := x.lits) (g := g6) (c := c6) HI5.out.m HG5.out HB6.out (by have h6 := HO6.out; simp only [List.nil_append] at h6; exact h6)
                have HPU := Lib.hid hpu
                clear hpu
                go_wp2_with fail
                go_ret
                exact stepQ_yes HPU.out.1 HRS.out rfl HPU.out.2
end Go.Proofs.YthjfiomcpihlaaaGreat
