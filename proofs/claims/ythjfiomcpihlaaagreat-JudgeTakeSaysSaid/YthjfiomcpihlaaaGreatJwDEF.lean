/- Walks: the reference's hasLit (JudgeWhySays). · Walk: the reference's litsOk (JudgeWhySays). · Walk: the reference's placeOf (JudgeWhySays). -/
import Derived.Test.YthjfiomcpihlaaaGreatJwABC
import Derived.Test.YthjfiomcpihlaaaGreatCore
import Derived.Test.YthjfiomcpihlaaaGreatFuFr
import Derived.Deep.QuietTactic
import Derived.BigQuiet
import Derived.Test.YthjfiomcpihlaaaGreatCnf2
namespace Go.Proofs.YthjfiomcpihlaaaGreat
open Go.RowKit

set_option maxHeartbeats 400000 in
theorem refHasLit_any (A : Option Addr) (n c : Nat) (xs : List Int) (x : Int) (w : World) (hxs : IntsB w w.heap.size A n xs) (hnc : n ≤ c) (hn : n ≤ 2000000) :
    Calls Tryz.prog 63 #[.slice A n c, .int .i64 x] w fun e w' => e = .returned (.bool (hasT xs x)) ∧ Below w.heap.size w w' := by
  go_enter Tryz.func63, Tryz.ntmps63
  go_wp2_with fail
  go_loopw [5] (fun s wr => ∃ k : Nat, k ≤ n ∧ s = .int .i64 k ∧ Hid (∀ y ∈ xs.take k, ¬ y = x) ∧ Below w.heap.size w wr) (fun s _ => n - (intOf s).toNat)
  case atStart => exact ⟨0, Nat.zero_le _, rfl, (fun y hy => by simp at hy), Below.refl _ _⟩
  case round =>
    obtain ⟨k, hk, rfl, HA, hbel⟩ := hrel
    have hz := hbel.size
    by_cases hlt : k < n
    · obtain ⟨b, off, hx, rfl, hb, hcell, hlo, hhi⟩ := ints_get (hxs.below stays_int hbel (Nat.le_refl _)) hlt
      have hts := take_snoc_l hx
      have hmem : xs[k] ∈ xs := List.getElem_mem hx
      generalize xs[k] = y at hts hlo hhi hcell hmem
      have HT := Lib.hid hts
      have HM := Lib.hid hmem
      clear hts hmem hx
      by_cases hy : y = x
      · subst hy
        go_wp2_with fail
        go_ret
        exact ⟨ret_bool (hasT_mem.2 HM.out).symm, hbel⟩
      · have hq : (y == x) = false := by simpa using hy
        go_wp2_with fail
        go_roundw
        case rel =>
          refine ⟨k + 1, by omega, by go_num, (by
            rw [HT.out]
            intro z hz
            rcases List.mem_append.1 hz with h | h
            · exact HA.out z h
            · obtain rfl : z = y := by simpa using h
              exact hy), hbel⟩
        case measure => simp [intOf]; omega
    · obtain rfl : k = n := by omega
      have hf : hasT xs x = false := by
        have e := HA.out
        rw [List.take_of_length_le (by have := hxs.len; omega)] at e
        cases h : hasT xs x with
        | false => rfl
        | true => exact absurd rfl (e x (hasT_mem.1 h))
      have HF := Lib.hid hf
      clear hf HA
      go_wp2_with fail
      go_ret
      exact ⟨ret_bool HF.out.symm, hbel⟩

/-- Var as the reference computes it: the least number stays -/
def varR (x : Int) : Int := if x = -9223372036854775808 then x else if x < 0 then -x else x
set_option maxHeartbeats 400000 in
theorem refVar_any (x : Int) (w : World) (h : I64 x) :
    Calls Tryz.prog 62 #[.int .i64 x] w fun e w' => e = .returned (.int .i64 (varR x)) ∧ w = w' := by
  unfold I64 at h
  go_enter Tryz.func62, Tryz.ntmps62
  by_cases hm : x = -9223372036854775808
  · subst hm
    go_wp2
    all_goals go_ret
    all_goals exact ⟨ret_int (by unfold varR; rw [if_pos rfl]; simp [wrap64]), rfl⟩
  · go_wp2
    all_goals go_ret
    all_goals exact ⟨ret_int (by unfold varR; rw [if_neg hm]; split <;> omega), rfl⟩
end Go.Proofs.YthjfiomcpihlaaaGreat
namespace Go.Proofs.YthjfiomcpihlaaaGreat
open Go.RowKit

theorem varR_small {x : Int} (h0 : -1000000 ≤ x) (h1 : x ≤ 1000000) : varR x = absI x := by
  unfold varR absI; rw [if_neg (by omega)]
set_option maxHeartbeats 1000000 in
theorem refLitsOk_any (j : Nat) (v0 v1 v2 v3 v5 : Value) (A5 : Option Addr) (na ca : Nat) (A : Option Addr) (n c : Nat) (xs : List Int) (ri rc : Int) (w : World)
    (hj : Blk w j 55 #[v0, v1, v2, v3, .slice A5 na ca, v5]) (hxs : IntsB w w.heap.size A n xs) (hi : ∀ x ∈ xs, I64 x) (hnc : n ≤ c) (hn : n ≤ 9223372036854775807) (hna : na ≤ 1000)
    (hR : badL na [] xs 0 = (ri, rc)) :
    Calls Tryz.prog 34 #[.pointer (some ⟨j, 0, none⟩), .slice A n c] w fun e w' => e = .returned (.bool (decide (rc = 0))) ∧ Below w.heap.size w w' := by
  have HR := Lib.hid hR
  clear hR
  go_enter Tryz.func34, Tryz.ntmps34
  go_wp2_with fail
  go_loopw [5] (fun s wr => ∃ k : Nat, k ≤ n ∧ s = .int .i64 k ∧ Hid (badL na (xs.take k) (xs.drop k) k = (ri, rc)) ∧ Hid (∀ y ∈ xs.take k, -(na : Int) ≤ y ∧ y ≤ na) ∧ Below w.heap.size w wr) (fun s _ => n - (intOf s).toNat)
  case atStart => exact ⟨0, Nat.zero_le _, rfl, HR, (fun y hy => by simp at hy), Below.refl _ _⟩
  case round =>
    obtain ⟨k, hk, rfl, HK, HA, hbel⟩ := hrel
    have hz := hbel.size
    have c4 : wr.cell? ⟨j, 4, none⟩ = some (.slice A5 na ca) := (hj.below hbel hj.lt).cell 4
    by_cases hlt : k < n
    · have har := hxs.below stays_int hbel (Nat.le_refl _)
      obtain ⟨b, off, hx, rfl, hb, hcell, hlo, hhi⟩ := ints_get har hlt
      have e1 := HK.out
      have hts := take_snoc_l hx
      have hiy : I64 xs[k] := hi _ (List.getElem_mem hx)
      rw [drop_cons hx, badL] at e1
      generalize hyk : xs[k] = y at e1 hts hlo hhi hcell hiy
      have HT := Lib.hid hts
      clear hts HK HR
      by_cases hbad : litBad na y = true
      · rw [if_pos hbad] at e1
        simp only [Prod.mk.injEq] at e1
        obtain ⟨rfl, rfl⟩ := e1
        have hb3 : y = 0 ∨ y < -(na : Int) ∨ (na : Int) < y := by simpa [litBad] using hbad
        clear hbad
        rcases (by unfold varR; split <;> (try split) <;> omega : y = 0 ∨ (¬ y = 0 ∧ (na : Int) < varR y) ∨ (¬ y = 0 ∧ ¬ (na : Int) < varR y ∧ y = -9223372036854775808)) with hy | ⟨hy, hy2⟩ | ⟨hy, hy2, hy3⟩
        · have hq : (y == 0) = true := by simpa using hy
          clear hy hb3
          go_wp2_with fail
          go_quiet (fail)
          go_wp2_with fail
          go_ret
          exact ⟨ret_bool (by decide), below_drewN hbel _⟩
        · have hq : (y == 0) = false := by simpa using hy
          have hq2 : decide ((na : Int) < varR y) = true := by simpa using hy2
          clear hy hb3
          go_wp2_with fail
          go_quiet ((go_at_call 62; exact quiet_eq (refVar_any _ _ hiy)))
          go_wp2_with fail
          go_ret
          exact ⟨ret_bool (by decide), below_drewN hbel _⟩
        · have hq : (y == 0) = false := by simpa using hy
          have hq2 : decide ((na : Int) < varR y) = false := by simpa using hy2
          have hq3 : (y == -9223372036854775808) = true := by simpa using hy3
          clear hy hb3 hy2 hy3
          go_wp2_with fail
          go_quiet ((go_at_call 62; exact quiet_eq (refVar_any _ _ hiy)))
          go_wp2_with fail
          go_ret
          exact ⟨ret_bool (by decide), below_drewN hbel _⟩
      · rw [if_neg hbad] at e1
        have hy : ¬ (y = 0 ∨ y < -(na : Int) ∨ (na : Int) < y) := by simpa [litBad] using hbad
        have hq : (y == 0) = false := by rw [beq_eq_false_iff_ne]; omega
        have hv : varR y = absI y := varR_small (by omega) (by omega)
        have hq2 : decide ((na : Int) < varR y) = false := by rw [hv]; unfold absI; split <;> simp <;> omega
        have hq3 : (y == -9223372036854775808) = false := by rw [beq_eq_false_iff_ne]; omega
        have HV := Lib.hid hv
        have HY := Lib.hid hy
        have H1 := Lib.hid e1
        clear hy hv hbad e1
        go_wp2_with fail
        go_quiet ((go_at_call 62; exact quiet_eq (refVar_any _ _ hiy)))
        go_wp2_with fail
        have hbel1 := below_drewN hbel nq
        clear hbel hz c4 har hcell
        go_loopw [6] (fun s wr => ∃ i : Nat, i ≤ k ∧ s = .int .i64 i ∧ Hid ((xs.take i).any (sameVar y) = false) ∧ Below w.heap.size w wr) (fun s _ => k - (intOf s).toNat)
        case atStart => exact ⟨0, Nat.zero_le _, rfl, rfl, hbel1⟩
        case round =>
          clear hbel1
          obtain ⟨i, hik, rfl, HI, hbel⟩ := hrel
          have hz := hbel.size
          by_cases hil : i < k
          · have har := hxs.below stays_int hbel (Nat.le_refl _)
            obtain ⟨b3, off3, hx3, hA3, hb3, hcz, hlo3, hhi3⟩ := ints_get har (show i < n by omega)
            obtain ⟨b4, off4, hx4, hA4, hb4, hcy, hlo4, hhi4⟩ := ints_get har hlt
            simp only [Option.some.injEq, Addr.mk.injEq, and_true] at hA3 hA4
            obtain ⟨rfl, rfl⟩ := hA3
            obtain ⟨rfl, rfl⟩ := hA4
            rw [hyk] at hcy
            have hti := take_snoc_l hx3
            have hmem : xs[i] ∈ xs.take k := List.mem_take_iff_getElem.2 ⟨i, by omega, rfl⟩
            generalize xs[i] = z at hcz hlo3 hhi3 hti hmem
            have hzr := HA.out z hmem
            have hiz : I64 z := ⟨by omega, by omega⟩
            have hvz : varR z = absI z := varR_small (by omega) (by omega)
            have HTI := Lib.hid hti
            have HM := Lib.hid hmem
            have hyr := HY.out
            have hvs : varR z = varR y ↔ (z = y ∨ z = -y) := by
              rw [hvz, HV.out]; unfold absI; split <;> split <;> omega
            have hin : (i : Int) < (k : Int) := by omega
            clear hti hmem hyk hvz
            by_cases hs : sameVar y z = true
            · have h7 := H1.out
              rw [if_pos (List.any_eq_true.2 ⟨z, HM.out, hs⟩)] at h7
              simp only [Prod.mk.injEq] at h7
              obtain ⟨rfl, rfl⟩ := h7
              have hq4 : (varR z == varR y) = true := by rw [beq_iff_eq, hvs]; simpa [sameVar] using hs
              clear hs hvs hyr hzr
              go_wp2_with fail
              go_quiet ((go_at_call 62; exact quiet_eq (refVar_any _ _ (by assumption))))
              go_wp2_with fail
              go_ret
              exact ⟨ret_bool (by decide), below_drewN hbel _⟩
            · have hs2 : ¬ (z = y ∨ z = -y) := by simpa [sameVar] using hs
              have hq4 : (varR z == varR y) = false := by rw [beq_eq_false_iff_ne]; exact fun e => hs2 (hvs.1 e)
              have HS := Lib.hid (show sameVar y z = false by simpa using hs)
              clear hs hs2 hvs hyr hzr
              go_wp2_with fail
              go_quiet ((go_at_call 62; exact quiet_eq (refVar_any _ _ (by assumption))))
              go_wp2_with fail
              go_roundw
              case rel => exact ⟨i + 1, by omega, by go_num, by show _ = _; rw [HTI.out, List.any_append, HI.out]; simp [HS.out], below_drewN hbel _⟩
              case measure => simp [intOf]; omega
          · obtain rfl : i = k := by omega
            have h1 := H1.out
            rw [if_neg (by rw [HI.out]; simp)] at h1
            have H2 := Lib.hid h1
            have hal : ∀ z ∈ xs.take (i + 1), -(na : Int) ≤ z ∧ z ≤ na := by
              rw [HT.out]
              intro z hz
              rcases List.mem_append.1 hz with h | h
              · exact HA.out z h
              · obtain rfl : z = y := by simpa using h
                have := HY.out
                omega
            have HL := Lib.hid hal
            clear h1 H1 HI hal hyk
            go_wp2_with fail
            go_roundw
            case rel => exact ⟨i + 1, by omega, by go_num, by show _ = _; rw [HT.out, Int.natCast_add]; exact H2.out, HL, hbel⟩
            case measure => simp [intOf]; omega
    · obtain rfl : k = n := by omega
      have e1 := HK.out
      rw [List.drop_of_length_le (by have := hxs.len; omega), badL] at e1
      simp only [Prod.mk.injEq] at e1
      obtain ⟨rfl, rfl⟩ := e1
      clear HK HA HR
      go_wp2_with fail
      go_ret
      exact ⟨ret_bool (by decide), hbel⟩
end Go.Proofs.YthjfiomcpihlaaaGreat
namespace Go.Proofs.YthjfiomcpihlaaaGreat
open Go.RowKit

set_option maxHeartbeats 1000000 in
theorem refPlaceOf_any (A : Option Addr) (n c : Nat) (xs : List Int) (k t i : Int) (w : World) (hxs : IntsB w w.heap.size A n xs) (_ : n ≤ c) (_ : n ≤ 1000000) (h0 : 0 ≤ i) (h1 : i ≤ 1000000) :
    Calls Tryz.prog 69 #[.agg #[.slice A n c, .int .i64 k, .int .i64 t], .int .i64 i] w fun e w' => e = .returned (.int .i64 (xs.getD i.toNat 0)) ∧ Below w.heap.size w w' := by
  go_enter Tryz.func69, Tryz.ntmps69
  by_cases hlt : i.toNat < n
  · obtain ⟨b, off, hx, rfl, hb, hcell, hlo, hhi⟩ := ints_get hxs hlt
    have hg : xs.getD i.toNat 0 = xs[i.toNat] := by rw [List.getD_eq_getElem?_getD, List.getElem?_eq_getElem hx]; rfl
    rw [hg]
    generalize xs[i.toNat] = y at hcell hlo hhi
    obtain ⟨m, rfl⟩ : ∃ m : Nat, i = m := ⟨i.toNat, by omega⟩
    simp only [Int.toNat_natCast] at hcell hlt
    have hin : (m : Int) < (n : Int) := by omega
    clear hg hx
    go_wp2_with fail
    go_ret
    exact ⟨rfl, (Below.refl _ _).alloc (Nat.le_refl _) _⟩
  · have hg : xs.getD i.toNat 0 = 0 := by rw [List.getD_eq_getElem?_getD, List.getElem?_eq_none (by have := hxs.len; omega)]; rfl
    rw [hg]
    have hin : ¬ i < (n : Int) := by omega
    clear hg hlt
    go_wp2_with fail
    go_ret
    exact ⟨rfl, (Below.refl _ _).alloc (Nat.le_refl _) _⟩
end Go.Proofs.YthjfiomcpihlaaaGreat
