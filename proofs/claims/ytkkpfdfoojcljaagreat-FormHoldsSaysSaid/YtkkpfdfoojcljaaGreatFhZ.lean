/- The reference's FormHolds. -/
import Derived.Test.YtkkpfdfoojcljaaGreatFhWX
import Derived.Test.YtkkpfdfoojcljaaGreatFhY
import Derived.Test.YtkkpfdfoojcljaaGreatLhPQ
namespace Go.Proofs.YtkkpfdfoojcljaaGreat
open Go.RowKit

set_option maxRecDepth 100000 in
set_option maxHeartbeats 16000000 in
theorem refHolds_any (HPS : PartsSpec) (A1 A2 A3 A4 : Option Addr) (n1 c1 n2 c2 n3 c3 n4 c4 : Nat) (B1 B2 B3 : Option Addr) (k1 e1 k2 e2 k3 e3 : Nat) (F : FormD) (M : ModelD) (w : World) (hF : FormB w w.heap.size A1 A2 A3 A4 n1 n2 n3 n4 F) (hM : ModelB w w.heap.size B1 B2 B3 k1 k2 k3 M)
    (h1 : n1 ≤ 60) (h2 : k2 = n1) (h3 : n3 ≤ 120) (h4 : k1 = n3) (h5 : n2 ≤ 12) (h6 : k3 = n2) (h7 : n4 ≤ 1000000)
    (hokt : ∀ t ∈ F.terms, t.kids.length ≤ 1000 ∧ ∀ x ∈ t.kids, 0 ≤ x ∧ x < (k2 : Int)) (hoka : ∀ x ∈ F.atoms, AtomOk k2 k3 x) (hG : ∀ y ∈ M.nums, fracGood y.num y.den = true) (hcl : ∀ l ∈ F.clauses, l.length ≤ 1000000 ∧ ∀ x ∈ l, LitOk k1 x) :
    Calls Tryz.prog 7 #[.agg #[.slice A1 n1 c1, .slice A2 n2 c2, .slice A3 n3 c3, .slice A4 n4 c4], .agg #[.slice B1 k1 e1, .slice B2 k2 e2, .slice B3 k3 e3]] w fun e w' => e = .returned (.bool (formH F M)) ∧ Below w.heap.size w w' := by
  subst h2 h4 h6
  have HCL := Lib.hid (fun W (hb : Below w.heap.size w W) => clausesHold_any A4 n4 c4 F.clauses B1 k1 e1 M.holds W (hF.below hb hb.size).clauses h7 (hM.below hb hb.size).holds h3 hcl)
  obtain ⟨RC, hRC⟩ : ∃ R, clsH M.holds F.clauses = R := ⟨_, rfl⟩
  obtain ⟨P1, hP1⟩ : ∃ R, (RC && atomsH M F.atoms 0) = R := ⟨_, rfl⟩
  obtain ⟨P2, hP2⟩ : ∃ R, (P1 && funH M F.terms F.terms 0) = R := ⟨_, rfl⟩
  obtain ⟨P3, hP3⟩ : ∃ R, (P2 && intsH M F.ints 0) = R := ⟨_, rfl⟩
  have hR : formH F M = P3 := by
    unfold formH
    rw [hRC, ← hP3, ← hP2, ← hP1, Bool.and_comm]
  rw [hRC] at HCL
  rw [hR]
  have HP := Lib.hid (And.intro hP1 (And.intro hP2 hP3))
  have HD := Lib.hid (And.intro hF hM)
  have HK0 := Lib.hid (And.intro hokt (And.intro hoka hG))
  clear hF hM hokt hoka hG hcl hR hRC hP1 hP2 hP3 h7
  go_enter Tryz.func7, Tryz.ntmps7
  go_upto_region 1 with fail
  obtain ⟨hb0, hbk, hbm, hs0⟩ := two_boxes w 27 31 #[.slice A1 k2 c1, .slice A2 k3 c2, .slice A3 k1 c3, .slice A4 n4 c4] #[.slice B1 k1 e1, .slice B2 k2 e2, .slice B3 k3 e3]
  generalize (w.alloc (.cells #[.slice A1 k2 c1, .slice A2 k3 c2, .slice A3 k1 c3, .slice A4 n4 c4] 27)).alloc (.cells #[.slice B1 k1 e1, .slice B2 k2 e2, .slice B3 k3 e3] 31) = X at hb0 hbk hbm hs0 ⊢
  have hce : ∀ W, Below X.heap.size X W → W.cell? ⟨w.heap.size, 0, none⟩ = some (.slice A1 k2 c1) ∧ W.cell? ⟨w.heap.size, 1, none⟩ = some (.slice A2 k3 c2) ∧ W.cell? ⟨w.heap.size, 2, none⟩ = some (.slice A3 k1 c3) ∧ W.cell? ⟨w.heap.size, 3, none⟩ = some (.slice A4 n4 c4) ∧
      W.cell? ⟨w.heap.size + 1, 0, none⟩ = some (.slice B1 k1 e1) ∧ W.cell? ⟨w.heap.size + 1, 1, none⟩ = some (.slice B2 k2 e2) ∧ W.cell? ⟨w.heap.size + 1, 2, none⟩ = some (.slice B3 k3 e3) ∧ Below w.heap.size w W := fun W hb =>
    ⟨(hbk.below hb (by omega)).cell 0, (hbk.below hb (by omega)).cell 1, (hbk.below hb (by omega)).cell 2, (hbk.below hb (by omega)).cell 3, (hbm.below hb (by omega)).cell 0, (hbm.below hb (by omega)).cell 1, (hbm.below hb (by omega)).cell 2, hb0.trans (hb.mono (by omega))⟩
  have HCE := Lib.hid hce
  obtain ⟨-, -, -, a3, b0, -⟩ := hce X (Below.refl _ _)
  have HB0 := Lib.hid hb0
  have hXs : w.heap.size + 2 ≤ X.heap.size := by omega
  clear hce hb0 hs0 hbk hbm
  go_wp2_with fail
  refine (HCL.out X HB0.out).mono ?_
  rintro e w' ⟨rfl, hw⟩
  subst hw
  clear a3 b0
  go_wp2_with fail
  go_loopw [5, 6] (fun s5 s6 wr => ∃ (k : Nat) (G : Bool), k ≤ k1 ∧ s6 = .int .i64 (k : Int) ∧ s5 = .bool G ∧ Hid ((G && atomsH M (F.atoms.drop k) k) = P1) ∧ Hid (Below X.heap.size X wr)) (fun _ s6 _ => k1 - (intOf s6).toNat)
  case atStart => exact ⟨0, RC, Nat.zero_le _, rfl, rfl, Lib.hid HP.out.1, Lib.hid (Below.refl _ _)⟩
  case round =>
    obtain ⟨k, G, hk, rfl, rfl, HK, HB⟩ := hrel
    have hXw := HB.out.size
    obtain ⟨a0, a1, a2, a3, b0, b1, b2, hw0⟩ := HCE.out wr HB.out
    by_cases hlt : k < k1
    · obtain ⟨b, off, hx, A', n', c', rfl, hb, q0, q1, q2, q3, q4, q5, hnc, hcm, har, -⟩ := atoms_get (HD.out.1.atoms.below stays_atom hw0 (Nat.le_refl _)) hlt
      obtain ⟨d1, off1, hx1, rfl, hd1, p0⟩ := bools_get (HD.out.2.holds.below stays_bool hw0 (Nat.le_refl _)) hlt
      have hok := HK0.out.2.1 _ (List.getElem_mem hx)
      have e9 := HK.out
      have hg1 : M.holds[k]?.getD false = M.holds[k] := by rw [List.getElem?_eq_getElem hx1, Option.getD_some]
      rw [drop_cons hx, atomsH, atomV, hg1] at e9
      generalize F.atoms[k] = x at q0 q1 q2 q3 q4 q5 har hok e9
      generalize M.holds[k] = bk at p0 e9
      obtain ⟨kind, xa, xb, row⟩ := x
      simp only [AtomOk] at q0 q1 q2 q3 q4 q5 har hok e9
      have hz0 : w.heap.size + 1 < wr.heap.size := by omega
      have hz00 : w.heap.size < wr.heap.size := by omega
      have hz1 : b < wr.heap.size := by omega
      have hz2 : d1 < wr.heap.size := by omega
      have hi0 : (0 : Int) ≤ (k : Int) := by omega
      have hi1 : (k : Int) < (k1 : Int) := by omega
      have HB2 := Lib.hid (HB.out.alloc HB.out.size (.cells #[.int .i64 kind, .int .i64 xa, .int .i64 xb, .slice A' n' c', .int .i64 row.kind, .int .i64 row.to_] 47))
      clear a0 a1 a3
      by_cases hk2 : kind = 2
      · subst hk2
        obtain ⟨⟨ha1, ha2⟩, hb3, hb4⟩ := hok.1 rfl
        obtain ⟨i, rfl⟩ := Int.eq_ofNat_of_zero_le ha1
        obtain ⟨j, rfl⟩ := Int.eq_ofNat_of_zero_le hb3
        obtain ⟨t, toff, ht, rfl, htb, u0, -, -⟩ := ints_get (HD.out.2.things.below stays_int hw0 (Nat.le_refl _)) (i := i) (by omega)
        obtain ⟨t', toff', ht', hte, -, u1, -, -⟩ := ints_get (HD.out.2.things.below stays_int hw0 (Nat.le_refl _)) (i := j) (by omega)
        simp only [Option.some.injEq, Addr.mk.injEq, and_true] at hte
        obtain ⟨rfl, rfl⟩ := hte
        rw [if_pos rfl, Int.toNat_natCast, Int.toNat_natCast, List.getElem?_eq_getElem ht, List.getElem?_eq_getElem ht', Option.getD_some, Option.getD_some] at e9
        generalize M.things[i] = y at u0 e9
        generalize M.things[j] = z at u1 e9
        have hz3 : t < wr.heap.size := by omega
        obtain ⟨v, hv⟩ : ∃ v, (y == z) = v := ⟨_, rfl⟩
        rw [hv] at e9
        have H9 := Lib.hid (show ((G && (v == bk)) && atomsH M (F.atoms.drop (k + 1)) (k + 1)) = P1 by
          rw [← e9]; cases v <;> cases bk <;> cases G <;> rfl)
        clear hx hx1 ht ht' har hok HK hg1 e9
        cases G with
        | false =>
          go_upto_region 8 with fail
          go_quiet (fail)
          go_wp2_with fail
          go_roundw
          case rel => exact ⟨k + 1, false, by omega, by go_num, rfl, Lib.hid (by have h := H9.out; rwa [Bool.false_and] at h), Lib.hid (below_drewN HB2.out _)⟩
          case measure => simp [intOf]; omega
        | true =>
          go_upto_region 8 with fail
          go_quiet (fail)
          go_wp2_with fail
          go_roundw
          case rel => exact ⟨k + 1, (v == bk), by omega, by go_num, rfl, Lib.hid (by have h := H9.out; rwa [Bool.true_and] at h), Lib.hid (below_drewN HB2.out _)⟩
          case measure => simp [intOf]; omega
      rw [if_neg hk2] at e9
      have hq2 : (kind == 2) = false := by simpa using hk2
      by_cases hk3 : kind = 3
      · subst hk3
        have hrow := hok.2 rfl
        have hnm := HD.out.2.nums.below stays_frac hw0 (Nat.le_refl _)
        have HC := Lib.hid (fun W (hb : Below wr.heap.size wr W) => refRow_any HPS A' B3 n' c' k3 e3 row M.nums W (har.below stays_int (hb.mono hw0.size) (Nat.le_trans hw0.size hb.size)) (hnm.below stays_frac (hb.mono hw0.size) (Nat.le_trans hw0.size hb.size)) h5 hrow HK0.out.2.2)
        rw [if_pos rfl] at e9
        obtain ⟨v, hv⟩ : ∃ v, rowHoldsF row M.nums = v := ⟨_, rfl⟩
        rw [hv] at e9 HC
        have HB3 := Lib.hid ((Below.refl wr.heap.size wr).alloc (Nat.le_refl _) (.cells #[.int .i64 3, .int .i64 xa, .int .i64 xb, .slice A' n' c', .int .i64 row.kind, .int .i64 row.to_] 47))
        have H9 := Lib.hid (show ((G && (v == bk)) && atomsH M (F.atoms.drop (k + 1)) (k + 1)) = P1 by
          rw [← e9]; cases v <;> cases bk <;> cases G <;> rfl)
        clear hnm hx hx1 har hok HK hg1 hv hrow hq2 e9
        cases G with
        | false =>
          go_wp2_with fail
          refine (HC.out _ HB3.out).mono ?_
          rintro e w2 ⟨rfl, hb2⟩
          have H5 := Lib.hid (HB2.out.trans (hb2.mono HB2.out.size))
          clear hb2
          go_wp2_with fail
          go_roundw
          case rel => exact ⟨k + 1, false, by omega, by go_num, rfl, Lib.hid (by have h := H9.out; rwa [Bool.false_and] at h), H5⟩
          case measure => simp [intOf]; omega
        | true =>
          go_wp2_with fail
          refine (HC.out _ HB3.out).mono ?_
          rintro e w2 ⟨rfl, hb2⟩
          have H5 := Lib.hid (HB2.out.trans (hb2.mono HB2.out.size))
          obtain ⟨-, -, -, -, s0, -⟩ := HCE.out w2 H5.out
          have s1 : w2.cell? ⟨d1, off1 + k, none⟩ = some (.bool bk) := (hb2.cell (p := ⟨d1, off1 + k, none⟩) (by simp; omega)).trans ((World.cell?_alloc_lt _ _ _ hz2).trans p0)
          clear hb2
          go_wp2_with fail
          go_roundw
          case rel => exact ⟨k + 1, (v == bk), by omega, by go_num, rfl, Lib.hid (by have h := H9.out; rwa [Bool.true_and] at h), H5⟩
          case measure => simp [intOf]; omega
      · rw [if_neg hk3] at e9
        have hq3 : (kind == 3) = false := by simpa using hk3
        have H9 := Lib.hid (show (G && atomsH M (F.atoms.drop (k + 1)) (k + 1)) = P1 by rw [← e9]; simp)
        clear hx hx1 har hok HK hg1 e9 hk2 hk3
        cases G with
        | false =>
          go_wp2_with fail
          go_roundw
          case rel => exact ⟨k + 1, false, by omega, by go_num, rfl, H9, HB2⟩
          case measure => simp [intOf]; omega
        | true =>
          go_wp2_with fail
          go_roundw
          case rel => exact ⟨k + 1, true, by omega, by go_num, rfl, H9, HB2⟩
          case measure => simp [intOf]; omega
    · obtain rfl : k = k1 := by omega
      have e9 := HK.out
      rw [List.drop_of_length_le (by have := HD.out.1.atoms.len; omega), atomsH, Bool.and_true] at e9
      subst e9
      obtain ⟨wo, rfl⟩ : ∃ x, x = wr := ⟨_, rfl⟩
      have hz0 : w.heap.size + 1 < wo.heap.size := by omega
      have hz00 : w.heap.size < wo.heap.size := by omega
      clear HK a1 a3 b0 b2 hw0
      go_wp2_with fail
      clear a0 a2 b1
      go_loopw [5, 9] (fun s5 s9 wr => ∃ (i : Nat) (G : Bool), i ≤ k2 ∧ s9 = .int .i64 (i : Int) ∧ s5 = .bool G ∧ Hid ((G && funH M F.terms (F.terms.drop i) i) = P2) ∧ Hid (Below X.heap.size X wr)) (fun _ s9 _ => k2 - (intOf s9).toNat)
      case atStart => exact ⟨0, G, Nat.zero_le _, rfl, rfl, Lib.hid HP.out.2.1, HB⟩
      case round =>
        obtain ⟨wo, rfl⟩ : ∃ x, x = wr := ⟨_, rfl⟩
        clear hz0 hz00 hXw HB
        obtain ⟨i, G, hi, rfl, rfl, HK, HB⟩ := hrel
        have hXw := HB.out.size
        have hz0 : w.heap.size + 1 < wo.heap.size := by omega
        have hz00 : w.heap.size < wo.heap.size := by omega
        obtain ⟨a0, a1, a2, a3, b0, b1, b2, hw0⟩ := HCE.out wo HB.out
        by_cases hlt : i < k2
        · obtain ⟨b, off, hx, At, nt, ct, rfl, hb, q0, q1, hnt, hct, hat, -, -⟩ := terms_get (HD.out.1.terms.below stays_term hw0 (Nat.le_refl _)) hlt
          have hokt := HK0.out.1 _ (List.getElem_mem hx)
          have e9 := HK.out
          rw [drop_cons hx, funH] at e9
          generalize F.terms[i] = t at q0 q1 hat hokt e9
          obtain ⟨th, tk⟩ := t
          simp only at q0 q1 hat hokt
          have hi0 : (0 : Int) ≤ (i : Int) := by omega
          have hi1 : (i : Int) < (k2 : Int) := by omega
          obtain ⟨Q, hQ⟩ : ∃ Q, (G && innerH M i ⟨th, tk⟩ (F.terms.take i) 0) = Q := ⟨_, rfl⟩
          have HE := Lib.hid (show (Q && funH M F.terms (F.terms.drop (i + 1)) (i + 1)) = P2 by
            rw [← e9, ← hQ]; cases innerH M i ⟨th, tk⟩ (F.terms.take i) 0 <;> cases G <;> simp)
          have HQ := Lib.hid hQ
          have HT := Lib.hid (And.intro hat (And.intro hokt (And.intro hnt hct)))
          have HQ01 := Lib.hid (And.intro q0 q1)
          clear e9 hQ hx hat hokt HK a1 a2 a3 b0 b2 q0 q1 a0 b1 hnt hct
          obtain ⟨a0, -⟩ := HCE.out wo HB.out
          go_wp2_with fail
          clear a0
          have hw0s := hw0.size
          have HBo := Lib.hid (And.intro HB.out hw0)
          clear HB hw0
          go_loopw [5, 10] (fun s5 s10 wr => ∃ (k : Nat) (G : Bool), k ≤ i ∧ s10 = .int .i64 (k : Int) ∧ s5 = .bool G ∧ Hid ((G && innerH M i ⟨th, tk⟩ ((F.terms.take i).drop k) k) = Q) ∧ Hid (Below wo.heap.size wo wr)) (fun _ s10 _ => i - (intOf s10).toNat)
          case atStart => exact ⟨0, G, Nat.zero_le _, rfl, rfl, HQ, Lib.hid (Below.refl _ _)⟩
          case round =>
            obtain ⟨wi, rfl⟩ : ∃ x, x = wr := ⟨_, rfl⟩
            obtain ⟨k, G, hk, rfl, rfl, HK, HC⟩ := hrel
            have hXi : Below X.heap.size X wi := HBo.out.1.trans (HC.out.mono HBo.out.1.size)
            obtain ⟨a0, a1, a2, a3, b0, b1, b2, hwq⟩ := HCE.out wi hXi
            have hzi := HC.out.size
            have HXI := Lib.hid hXi
            clear hXi a1 a2 a3 b0 b2
            by_cases hlk : k < i
            · obtain ⟨b', off', hx, Au, nu, cu, hAu, hb', r0, r1, hnu, hcu, hau, -, -⟩ := terms_get (HD.out.1.terms.below stays_term hwq (Nat.le_refl _)) (Nat.lt_trans hlk hlt)
              simp only [Option.some.injEq, Addr.mk.injEq, and_true] at hAu
              obtain ⟨rfl, rfl⟩ := hAu
              obtain ⟨m2, off2, hx1, rfl, hm2, x0, -, -⟩ := ints_get (HD.out.2.things.below stays_int hwq (Nat.le_refl _)) hlt
              obtain ⟨m3, off3, hx2, hA2, -, x1, -, -⟩ := ints_get (HD.out.2.things.below stays_int hwq (Nat.le_refl _)) (Nat.lt_trans hlk hlt)
              simp only [Option.some.injEq, Addr.mk.injEq, and_true] at hA2
              obtain ⟨rfl, rfl⟩ := hA2
              have hoku := HK0.out.1 _ (List.getElem_mem hx)
              have e9 := HK.out
              have hxt : k < (F.terms.take i).length := by have := HD.out.1.terms.len; simp; omega
              have hgt : (F.terms.take i)[k] = F.terms[k] := List.getElem_take
              rw [drop_cons hxt, hgt, innerH, List.getElem?_eq_getElem hx1, List.getElem?_eq_getElem hx2, Option.getD_some, Option.getD_some] at e9
              generalize F.terms[k] = u at r0 r1 hau hoku e9
              generalize M.things[i] = x at x0 e9
              generalize M.things[k] = y at x1 e9
              obtain ⟨uh, uk⟩ := u
              simp only at r0 r1 hau hoku e9
              have q0' := (HC.out.cell (p := ⟨b, off + i * 2, none⟩) (by show b < wo.heap.size; omega)).trans HQ01.out.1
              have q1' := (HC.out.cell (p := ⟨b, off + i * 2 + 1, none⟩) (by show b < wo.heap.size; omega)).trans HQ01.out.2
              have hz2 : w.heap.size < wi.heap.size := by omega
              have hz3 : b < wi.heap.size := by omega
              have hz4 : m2 < wi.heap.size := by omega
              have hz5 : w.heap.size + 1 < wi.heap.size := by omega
              have hj0 : (0 : Int) ≤ (k : Int) := by omega
              have hj1 : (k : Int) < (k2 : Int) := by omega
              have hj2 : (k : Int) < (i : Int) := by omega
              have hlt1 : tk.length = nt := HT.out.1.len
              have hlu1 : uk.length = nu := hau.len
              obtain ⟨E, hE⟩ : ∃ E, (decide (th = uh) && eqL (sameT M.things) tk uk) = E := ⟨_, rfl⟩
              have H9 := Lib.hid (show ((if E = true ∧ ¬ x = y then false else G) && innerH M i ⟨th, tk⟩ ((F.terms.take i).drop (k + 1)) (k + 1)) = Q by
                rw [← e9, ← hE]
                by_cases h1 : th = uh
                · cases h2 : eqL (sameT M.things) tk uk <;> by_cases h3 : x = y <;> cases G <;> simp [h1, h3]
                · cases G <;> simp [h1])
              have hE0 : ¬ (th = uh ∧ nt = nu) → E = false := fun h => by
                rw [← hE]
                by_cases h1 : th = uh
                · rw [eqL_len (by rw [hlt1, hlu1]; exact fun e => h ⟨h1, e⟩), Bool.and_false]
                · rw [decide_eq_false h1, Bool.false_and]
              have hE1 : th = uh → eqL (sameT M.things) tk uk = E := fun h => by rw [← hE, decide_eq_true h, Bool.true_and]
              have hbx := two_boxes wi 56 56 #[.int .i64 th, .slice At nt ct] #[.int .i64 uh, .slice Au nu cu]
              have HX2 := Lib.hid hbx
              have HU := Lib.hid (And.intro hau (And.intro hoku (And.intro hwq (And.intro hE0 (And.intro hE1 (And.intro x0 (And.intro x1 (And.intro hlt1 hlu1))))))))
              clear hau hoku hwq hE0 hE1 e9 hE hbx hx hx1 hx2 hxt hgt HK hlt1 hlu1 x0 x1 b1
              go_upto_region 20 with fail
              clear r0 r1 q0' q1' a0
              obtain ⟨hbw, hk0, hk1', hsz⟩ := HX2.out
              generalize (wi.alloc (.cells #[.int .i64 th, .slice At nt ct] 56)).alloc (.cells #[.int .i64 uh, .slice Au nu cu] 56) = Y at hbw hk0 hk1' hsz ⊢
              have y0 : Y.cell? ⟨wi.heap.size, 0, none⟩ = some (.int .i64 th) := hk0.cell 0
              have y1 : Y.cell? ⟨wi.heap.size, 1, none⟩ = some (.slice At nt ct) := hk0.cell 1
              have y2 : Y.cell? ⟨wi.heap.size + 1, 0, none⟩ = some (.int .i64 uh) := hk1'.cell 0
              have y3 : Y.cell? ⟨wi.heap.size + 1, 1, none⟩ = some (.slice Au nu cu) := hk1'.cell 1
              have hXY : Below X.heap.size X Y := HXI.out.trans (hbw.mono HXI.out.size)
              obtain ⟨-, -, -, -, -, t1, -, hwY⟩ := HCE.out Y hXY
              have hnI1 : nt ≤ 1000 := by have := HT.out.2.1.1; have := HU.out.2.2.2.2.2.2.2.1; omega
              have hnI2 : nu ≤ 1000 := by have := HU.out.2.1.1; have := HU.out.2.2.2.2.2.2.2.2; omega
              have HY := Lib.hid (And.intro hbw (And.intro hXY hwY))
              clear hbw hk0 hk1' hsz hXY hwY
              obtain ⟨S0, hS0⟩ : ∃ S0, (decide (th = uh) && decide (nt = nu)) = S0 := ⟨_, rfl⟩
              have HS0 := Lib.hid hS0
              go_cut [13] (fun s13 wx => s13 = .bool S0 ∧ Y = wx)
              case first =>
                by_cases h1 : th = uh
                · subst h1
                  by_cases h2 : nt = nu
                  · subst h2
                    have e1 : S0 = true := by rw [← hS0]; simp
                    subst e1
                    clear hS0 HS0
                    go_wp2_with fail
                    go_meet
                    exact ⟨by simp, rfl⟩
                  · have e1 : S0 = false := by rw [← hS0]; simp [h2]
                    have h2' : ((nt : Int) == (nu : Int)) = false := by rw [beq_eq_false_iff_ne]; omega
                    subst e1
                    clear hS0 HS0 h2
                    go_wp2_with fail
                    go_meet
                    exact ⟨by simp, rfl⟩
                · have e1 : S0 = false := by rw [← hS0]; simp [h1]
                  have h1' : (th == uh) = false := by rw [beq_eq_false_iff_ne]; exact h1
                  subst e1
                  clear hS0 HS0 h1
                  go_wp2_with fail
                  go_meet
                  exact ⟨by simp, rfl⟩
              case rest =>
                obtain ⟨rfl, rfl⟩ := hcut
                clear hS0
                go_wp2_with fail
                go_loopw [13, 14] (fun s13 s14 wq => ∃ (j : Nat) (S : Bool) (m : Nat), j ≤ nt ∧ s14 = .int .i64 (j : Int) ∧ s13 = .bool S ∧ wq = Y.drewN m ∧ Hid ((S = true → th = uh ∧ nt = nu ∧ eqL (sameT M.things) (tk.drop j) (uk.drop j) = E) ∧ (S = false → E = false))) (fun _ s14 _ => nt - (intOf s14).toNat)
                case atStart =>
                  refine ⟨0, S0, 0, Nat.zero_le _, rfl, rfl, rfl, Lib.hid ⟨fun h => ?_, fun h => ?_⟩⟩
                  · have h0 := HS0.out
                    rw [h, Bool.and_eq_true, decide_eq_true_eq, decide_eq_true_eq] at h0
                    exact ⟨h0.1, h0.2, by rw [List.drop_zero, List.drop_zero]; exact HU.out.2.2.2.2.1 h0.1⟩
                  · apply HU.out.2.2.2.1
                    intro h2
                    have h0 := HS0.out
                    rw [h, decide_eq_true h2.1, decide_eq_true h2.2] at h0
                    simp at h0
                case round =>
                  obtain ⟨j, S, m, hj, rfl, rfl, rfl, HJ⟩ := hrel
                  have hwo : w.heap.size ≤ wo.heap.size := hw0s
                  have hwi : w.heap.size ≤ wi.heap.size := Nat.le_trans hw0s hzi
                  have hYz := HY.out.1.size
                  have x0Y := (HY.out.1.cell (p := ⟨m2, off2 + i, none⟩) hz4).trans HU.out.2.2.2.2.2.1
                  have x1Y := (HY.out.1.cell (p := ⟨m2, off2 + k, none⟩) hz4).trans HU.out.2.2.2.2.2.2.1
                  have hz6 : w.heap.size + 1 < Y.heap.size := by omega
                  have hz7 : m2 < Y.heap.size := by omega
                  have HBE := Lib.hid (fun m' => HC.out.trans ((below_drewN HY.out.1 m').mono hzi))
                  clear hz2 hz3 hz4 hz5
                  cases S with
                  | true =>
                    obtain ⟨hth, hnn, e8⟩ := HJ.out.1 rfl
                    by_cases hjl : j < nt
                    · obtain ⟨p1, o1, hp1, rfl, hpb1, cp1, -, -⟩ := ints_get (HT.out.1.below stays_int ((HC.out.trans (HY.out.1.mono hzi)).mono hwo) (Nat.le_refl _)) hjl
                      obtain ⟨p2, o2, hp2, rfl, hpb2, cp2, -, -⟩ := ints_get (HU.out.1.below stays_int (HY.out.1.mono hwi) (Nat.le_refl _)) (i := j) (by omega)
                      have ok1 := HT.out.2.1.2 _ (List.getElem_mem hp1)
                      have ok2 := HU.out.2.1.2 _ (List.getElem_mem hp2)
                      rw [drop_cons hp1, drop_cons hp2, eqL] at e8
                      generalize tk[j] = p at cp1 ok1 e8
                      generalize uk[j] = q at cp2 ok2 e8
                      obtain ⟨p, rfl⟩ := Int.eq_ofNat_of_zero_le ok1.1
                      obtain ⟨q, rfl⟩ := Int.eq_ofNat_of_zero_le ok2.1
                      obtain ⟨m4, off4, hv1, hA4, -, v0, -, -⟩ := ints_get (HD.out.2.things.below stays_int HY.out.2.2 (Nat.le_refl _)) (i := p) (by omega)
                      obtain ⟨m5, off5, hv2, hA5, -, v1, -, -⟩ := ints_get (HD.out.2.things.below stays_int HY.out.2.2 (Nat.le_refl _)) (i := q) (by omega)
                      simp only [Option.some.injEq, Addr.mk.injEq, and_true] at hA4 hA5
                      obtain ⟨rfl, rfl⟩ := hA4
                      obtain ⟨rfl, rfl⟩ := hA5
                      rw [sameT, Int.toNat_natCast, Int.toNat_natCast, List.getElem?_eq_getElem hv1, List.getElem?_eq_getElem hv2, Option.getD_some, Option.getD_some] at e8
                      generalize M.things[p] = xv at v0 e8
                      generalize M.things[q] = yv at v1 e8
                      have okp := ok1.2
                      have okq := ok2.2
                      have okp0 := ok1.1
                      have okq0 := ok2.1
                      have hjI : (j : Int) < (nt : Int) := by omega
                      have hjI2 : (j : Int) < (nu : Int) := by omega
                      have hj00 : (0 : Int) ≤ (j : Int) := by omega
                      have hp1Y : p1 < Y.heap.size := by omega
                      have hp2Y : p2 < Y.heap.size := by omega
                      have H8 := Lib.hid (And.intro hth (And.intro hnn e8))
                      clear hth hnn e8 ok1 ok2 hp1 hp2 hv1 hv2 HJ x0Y x1Y
                      go_upto_region 24 with fail
                      go_quiet (fail)
                      go_wp2_with fail
                      go_roundw
                      case rel =>
                        refine ⟨j + 1, (xv == yv), _, by omega, by go_num, rfl, rfl, Lib.hid ⟨fun h => ⟨H8.out.1, H8.out.2.1, ?_⟩, fun h => ?_⟩⟩
                        · have h0 := H8.out.2.2
                          rw [h, Bool.true_and] at h0
                          exact h0
                        · have h0 := H8.out.2.2
                          rw [h, Bool.false_and] at h0
                          exact h0.symm
                      case measure => simp [intOf]; omega
                    · obtain rfl : j = nt := by omega
                      rw [List.drop_of_length_le (Nat.le_of_eq HU.out.2.2.2.2.2.2.2.1), List.drop_of_length_le (by have := HU.out.2.2.2.2.2.2.2.2; omega), eqL] at e8
                      subst e8
                      have H8 := Lib.hid H9.out
                      clear hth hnn HJ
                      by_cases hxy : x = y
                      · subst hxy
                        have hq1 : (x != x) = false := by simp
                        have H7 := Lib.hid (show (G && innerH M i ⟨th, tk⟩ ((F.terms.take i).drop (k + 1)) (k + 1)) = Q by have h0 := H8.out; rwa [if_neg (by simp)] at h0)
                        go_upto_region 25 with fail
                        go_quiet (fail)
                        go_wp2_with fail
                        go_roundw
                        case rel => exact ⟨k + 1, G, by omega, by go_num, rfl, H7, Lib.hid (by first | exact HBE.out _ | (rw [World.drewN_drewN]; exact HBE.out _))⟩
                        case measure => simp [intOf]; omega
                      · have hq1 : (x != y) = true := by simpa using hxy
                        have H7 := Lib.hid (show (false && innerH M i ⟨th, tk⟩ ((F.terms.take i).drop (k + 1)) (k + 1)) = Q by have h0 := H8.out; rwa [if_pos ⟨rfl, hxy⟩] at h0)
                        clear hxy
                        go_upto_region 25 with fail
                        go_quiet (fail)
                        go_wp2_with fail
                        go_roundw
                        case rel => exact ⟨k + 1, false, by omega, by go_num, rfl, H7, Lib.hid (by first | exact HBE.out _ | (rw [World.drewN_drewN]; exact HBE.out _))⟩
                        case measure => simp [intOf]; omega
                  | false =>
                    have e8 := HJ.out.2 rfl
                    subst e8
                    have H7 := Lib.hid (show (G && innerH M i ⟨th, tk⟩ ((F.terms.take i).drop (k + 1)) (k + 1)) = Q by have h0 := H9.out; rwa [if_neg (fun h => by cases h.1)] at h0)
                    clear HJ x0Y x1Y
                    go_upto_region 25 with fail
                    go_quiet (fail)
                    go_wp2_with fail
                    go_roundw
                    case rel => exact ⟨k + 1, G, by omega, by go_num, rfl, H7, Lib.hid (by first | exact HBE.out _ | (rw [World.drewN_drewN]; exact HBE.out _))⟩
                    case measure => simp [intOf]; omega
            · obtain rfl : k = i := by omega
              have e9 := HK.out
              rw [List.drop_of_length_le (by simp; omega), innerH, Bool.and_true] at e9
              subst e9
              have hz5 : w.heap.size + 1 < wi.heap.size := by omega
              clear HK a0 b1 hwq
              go_wp2_with fail
              go_roundw
              case rel => exact ⟨k + 1, G, by omega, by go_num, rfl, HE, HXI⟩
              case measure => simp [intOf]; omega
        · obtain rfl : i = k2 := by omega
          have e9 := HK.out
          rw [List.drop_of_length_le (by have := HD.out.1.terms.len; omega), funH, Bool.and_true] at e9
          subst e9
          clear HK a1 a2 a3 b0 b1 b2 hw0
          go_wp2_with fail
          clear a0
          go_loopw [5, 15] (fun s5 s15 wr => ∃ (k : Nat) (G : Bool), k ≤ k3 ∧ s15 = .int .i64 (k : Int) ∧ s5 = .bool G ∧ Hid ((G && intsH M (F.ints.drop k) k) = P3) ∧ Hid (Below X.heap.size X wr)) (fun _ s15 _ => k3 - (intOf s15).toNat)
          case atStart => exact ⟨0, G, Nat.zero_le _, rfl, rfl, Lib.hid HP.out.2.2, HB⟩
          case round =>
            clear hz0 hz00 hXw HB
            obtain ⟨k, G, hk, rfl, rfl, HK, HB⟩ := hrel
            have hXw := HB.out.size
            have hz0 : w.heap.size + 1 < wr.heap.size := by omega
            have hz00 : w.heap.size < wr.heap.size := by omega
            obtain ⟨a0, a1, a2, a3, b0, b1, b2, hw0⟩ := HCE.out wr HB.out
            by_cases hlt : k < k3
            · obtain ⟨b, off, hx, rfl, hb, p0⟩ := bools_get (HD.out.1.ints.below stays_bool hw0 (Nat.le_refl _)) hlt
              obtain ⟨b', off', hy, rfl, hb', n0, n1⟩ := fracs_at (HD.out.2.nums.below stays_frac hw0 (Nat.le_refl _)) hlt
              have e9 := HK.out
              rw [drop_cons hx, intsH, List.getElem?_eq_getElem hy, Option.map_some, Option.getD_some] at e9
              generalize F.ints[k] = y at p0 e9
              generalize M.nums[k] = z at n0 n1 e9
              obtain ⟨zn, zd⟩ := z
              simp only at n0 n1 e9
              have hi0 : (0 : Int) ≤ (k : Int) := by omega
              have hi1 : (k : Int) < (k3 : Int) := by omega
              clear hx hy HK a0 a2 a3 b0 b1 hw0
              cases y with
              | false =>
                rw [if_neg (by simp)] at e9
                have H8 := Lib.hid e9
                clear e9
                go_wp2_with fail
                go_roundw
                case rel => exact ⟨k + 1, G, by omega, by go_num, rfl, H8, HB⟩
                case measure => simp [intOf]; omega
              | true =>
                by_cases hd : zd = 1
                · subst hd
                  rw [if_neg (by simp)] at e9
                  have H8 := Lib.hid e9
                  clear e9
                  go_wp2_with fail
                  go_roundw
                  case rel => exact ⟨k + 1, G, by omega, by go_num, rfl, H8, HB⟩
                  case measure => simp [intOf]; omega
                · rw [if_pos ⟨rfl, hd⟩, Bool.and_false] at e9
                  have H8 := Lib.hid e9
                  have hq : (zd != 1) = true := by simpa using hd
                  clear hd e9
                  go_wp2_with fail
                  go_roundw
                  case rel => exact ⟨k + 1, false, by omega, by go_num, rfl, Lib.hid (by rw [Bool.false_and]; exact H8.out), HB⟩
                  case measure => simp [intOf]; omega
            · obtain rfl : k = k3 := by omega
              have e9 := HK.out
              rw [List.drop_of_length_le (by have := HD.out.1.ints.len; omega), intsH, Bool.and_true] at e9
              subst e9
              have HW := Lib.hid hw0
              clear HK a0 a2 a3 b0 b1 b2 hw0
              go_wp2_with fail
              go_ret
              exact ⟨rfl, HW.out⟩
end Go.Proofs.YtkkpfdfoojcljaaGreat
