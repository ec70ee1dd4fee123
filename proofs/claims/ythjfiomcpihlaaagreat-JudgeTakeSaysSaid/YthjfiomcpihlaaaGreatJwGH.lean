/- Walk: the reference's learns (JudgeWhySays). · Walk: the reference's drops (JudgeWhySays). -/
import Derived.Test.YthjfiomcpihlaaaGreatJwDEF
import Derived.Test.YthjfiomcpihlaaaGreatJuW
import Derived.Test.YthjfiomcpihlaaaGreatJwABC
namespace Go.Proofs.YthjfiomcpihlaaaGreat
open Go.RowKit

theorem litR_range {T : List Int} : ∀ (c : List Int) (g : Bool) (o x : Int), 0 ≤ o → 0 ≤ (litR T c (g, o, x)).2.1 ∧ (litR T c (g, o, x)).2.1 ≤ o + c.length
  | [], g, o, x, h => by simp [litR]; exact h
  | l :: r, g, o, x, h => by
    rw [litR]
    split
    · have := litR_range (T := T) r true o x h
      simp only [List.length_cons]; omega
    · split
      · have := litR_range (T := T) r g o x h
        simp only [List.length_cons]; omega
      · have := litR_range (T := T) r g (o + 1) l (by omega)
        simp only [List.length_cons]; omega
theorem own_ints {w : World} {B n c : Nat} {A : Option Addr} {T : List Int} (h : OwnT w B (.slice A n c) T) (hn : T.length = n) : IntsB w w.heap.size A n T := by
  subst hn
  obtain ⟨A', c', e, -, -, har⟩ := h.reads tells_int (E := AtInt) (S' := fun b => b < w.heap.size) (fun _ _ _ _ _ h => atV_int.1 h) (fun _ hb => hb.elim) (fun g hg => (h.lt g hg).2)
  injection e with e1 e2 e3
  subst e1
  exact har

set_option maxRecDepth 100000 in
set_option maxHeartbeats 8000000 in
theorem refLearns_any (j : Nat) (v0 v1 v2 v3 v4 : Value) (A5 : Option Addr) (m c5 : Nat) (C : List (List Int)) (A : Option Addr) (n c : Nat) (xs : List Int) (R : Bool) (w : World)
    (hj : Blk w j 55 #[v0, v1, v2, v3, v4, .slice A5 m c5]) (hC : ArrB (AtArr AtInt 1) 1 w w.heap.size A5 m C) (hxs : IntsB w w.heap.size A n xs) (hnc : n ≤ c) (hn : n ≤ 1000) (hmc : m ≤ c5) (hm : m ≤ 1000000)
    (hcl : ∀ c ∈ C, CleanC c) (ht : Tame C) (hN : C.flatten.length ≤ 1000000) (hr : ∀ x ∈ xs, -1000000 ≤ x ∧ x ≤ 1000000) (hcalm : Calm (xs.map fun x => -x)) (hR : R = true ↔ Clash C (xs.map fun x => -x)) :
    Calls Tryz.prog 35 #[.pointer (some ⟨j, 0, none⟩), .slice A n c] w fun e w' => e = .returned (.bool R) ∧ Below w.heap.size w w' := by
  have HX := Lib.hid (And.intro hxs hr)
  have hjl := hj.lt
  have HJ := Lib.hid (And.intro hj (And.intro hC (And.intro hcl (And.intro ht (And.intro hN (And.intro hcalm hR))))))
  clear hxs hr hj hC hcl ht hN hcalm hR
  go_enter Tryz.func35, Tryz.ntmps35
  go_wp2_with fail
  go_loopw [5, 6] (fun s5 s6 wr => ∃ k : Nat, s6 = .int .i64 (k : Int) ∧ k ≤ n ∧ Hid (OwnT wr w.heap.size s5 ((xs.take k).map fun x => -x) ∧ Below w.heap.size w wr)) (fun _ s6 _ => n - (intOf s6).toNat)
  case atStart => exact ⟨0, rfl, Nat.zero_le _, OwnV.none_ _ _ _ _ _ _, Below.refl _ _⟩
  case round =>
    obtain ⟨k, rfl, hk, HO⟩ := hrel
    obtain ⟨A3, c3, rfl, hc3, hc3m⟩ := HO.out.1.len
    unfold maxLen at hc3m
    by_cases hlt : k < n
    · have hltI : (k : Int) < (n : Int) := by omega
      obtain ⟨b, off, hx, rfl, hb, hcell, hlo, hhi⟩ := ints_get (HX.out.1.below stays_int HO.out.2 (Nat.le_refl _)) hlt
      have hrg := HX.out.2 _ (List.getElem_mem hx)
      have hts := take_snoc_l hx
      generalize xs[k] = y at hcell hrg hts hlo hhi
      have HT := Lib.hid hts
      clear hts hlo hhi
      have hlj : ((xs.take k).map fun x => -x).length = k := by simp; omega
      have HLJ := Lib.hid hlj
      clear hlj
      have hba : Below wr.heap.size wr (wr.alloc (.cells #[.int .i64 (-y)] 3)) := (Below.refl _ _).alloc (Nat.le_refl _) _
      have hbn := Blk.new wr 3 #[.int .i64 (-y)]
      have hz : w.heap.size ≤ wr.heap.size := HO.out.2.size
      have HN := Lib.hid (And.intro hbn (And.intro (own_later HO.out.1 (only_of_below hba none) (by cases A3 <;> simp [Value.ownBlock])) (HO.out.2.trans (hba.mono hz))))
      clear hba hbn
      go_wp2_with (at_builtin; refine wpList_append_item rfl _ _ _ rfl rowInts tells_int (base := w.heap.size) (S := fun _ => False) rfl HN.out.2.1 (g := wr.heap.size) (cs := #[.int .i64 (-y)]) rfl HN.out.1 (y := -y) ⟨rfl, by unfold I64; omega⟩ (fun b h => False.elim h) (by rw [HLJ.out]; unfold maxLen; omega) (by rw [HLJ.out]; omega) (by simp; omega) ?_; intro v' w6 hown6 hgrow6 hat6; have HB6 := Lib.hid (And.intro hown6 hgrow6); clear hown6 hgrow6 hat6)
      go_roundw
      case rel =>
        have hl := HN.out.2.1.lt
        refine ⟨k + 1, by go_num, by omega, ?_, below_then HN.out.2.2 HB6.out.2 (by simp; omega) (fun x hx => (hl x hx).1)⟩
        rw [HT.out, List.map_append]
        exact HB6.out.1
      case measure => simp [intOf]; omega
    · obtain rfl : k = n := by omega
      have hl := HX.out.1.len
      have hlj : ((xs.take k).map fun x => -x).length = k := by simp; omega
      rw [hlj] at HO ⊢
      clear hc3 hlj
      obtain ⟨T0, hT0⟩ : ∃ T0, (xs.map fun x => -x) = T0 := ⟨_, rfl⟩
      have hTl : T0.length = k := by rw [← hT0]; simpa using hl
      have H0 : Hid (OwnT wr w.heap.size (.slice A3 k c3) T0 ∧ Below w.heap.size w wr ∧ Calm T0 ∧ (R = true ↔ Clash C T0) ∧ T0.length + openN C T0 ≤ 1001000 ∧ ∀ x ∈ T0, -1000000 ≤ x ∧ x ≤ 1000000) := by
        have h1 := HO.out.1
        rw [List.take_of_length_le (by omega), hT0] at h1
        have h2 := HJ.out.2.2.2.2.2
        rw [hT0] at h2
        have h3 : openN C T0 ≤ C.flatten.length := List.length_filter_le _ _
        have h4 := HJ.out.2.2.2.2.1
        exact ⟨h1, HO.out.2, h2.1, h2.2, by omega, fun x hx => by
          rw [← hT0] at hx
          obtain ⟨y, hy, rfl⟩ := List.mem_map.1 hx
          have := HX.out.2 y hy
          omega⟩
      clear hT0 hTl HO HX hl
      go_wp2_with fail
      go_loopg [5] (openN C T0 + 1) (fun gk t5 wr => ∃ T : List Int, t5 = t5 ∧ Hid (OwnT wr w.heap.size t5 T ∧ Below w.heap.size w wr ∧ Calm T ∧ (R = true ↔ Clash C T) ∧ T.length + openN C T ≤ 1001000 ∧ (∀ x ∈ T, -1000000 ≤ x ∧ x ≤ 1000000) ∧ openN C T < gk))
      case atStart => exact ⟨T0, rfl, H0.out.1, H0.out.2.1, H0.out.2.2.1, H0.out.2.2.2.1, H0.out.2.2.2.2.1, H0.out.2.2.2.2.2, Nat.lt_succ_self _⟩
      case round =>
        clear H0
        obtain ⟨T, -, HK⟩ := hrel
        obtain ⟨g0, rfl⟩ : ∃ m, gk = m + 1 := ⟨gk - 1, by have := HK.out.2.2.2.2.2.2; omega⟩
        obtain ⟨q, hq⟩ : ∃ q, T.length = q := ⟨_, rfl⟩
        obtain ⟨A6, c6, rfl, hc6, hc6m⟩ := HK.out.1.len
        rw [hq] at HK hc6 ⊢
        have hqn : q ≤ 1001000 := by have := HK.out.2.2.2.2.1; omega
        unfold maxLen at hc6m
        obtain ⟨wo, rfl⟩ : ∃ wo : World, wo = wr := ⟨_, rfl⟩
        have HL : Hid (∀ (W : World) (x : Int) (bb : Bool), Below wo.heap.size wo W → hasT T x = bb → Calls Tryz.prog 63 #[.slice A6 q c6, .int .i64 x] W fun e w' => e = .returned (.bool bb) ∧ Below wo.heap.size wo w') := by
          have h1 := own_ints HK.out.1 hq
          exact fun W x bb hW hb => hb ▸ (refHasLit_any A6 q c6 T x W (h1.below stays_int hW hW.size) hc6 (by omega)).mono fun _ _ h => ⟨h.1, hW.trans (h.2.mono hW.size)⟩
        have HB : Hid (Blk wo j 55 #[v0, v1, v2, v3, v4, .slice A5 m c5]) := HJ.out.1.below HK.out.2.1 hjl
        have HCW : Hid (ArrB (AtArr AtInt 1) 1 wo wo.heap.size A5 m C) := HJ.out.2.1.below (stays_arr stays_int) HK.out.2.1 HK.out.2.1.size
        have HST := Lib.hid (pass_step HJ.out.2.2.1 HK.out.2.2.1)
        obtain ⟨r3, hr3⟩ : ∃ r3, passR T C 0 = r3 := ⟨_, rfl⟩
        have HR3 := Lib.hid hr3
        rw [hr3] at HST
        have HQ := Lib.hid hq
        clear hr3 hq
        go_wp2_with fail
        go_loopw [7, 8] (fun s7 s8 wr => ∃ (i : Nat) (nx : Int), s8 = .int .i64 (i : Int) ∧ s7 = .int .i64 nx ∧ i ≤ m ∧ I64 nx ∧ Hid (passR T (C.drop i) nx = r3) ∧ Below wo.heap.size wo wr) (fun _ s8 _ => m - (intOf s8).toNat)
        case atStart => exact ⟨0, 0, rfl, rfl, Nat.zero_le _, ⟨by omega, by omega⟩, HR3, Below.refl _ _⟩
        case round =>
          obtain ⟨i, nx, rfl, rfl, hi, hI, HP, hbel⟩ := hrel
          have hz := hbel.size
          have q5 : wr.cell? ⟨j, 5, none⟩ = some (.slice A5 m c5) := (HB.out.below hbel HB.out.lt).cell 5
          by_cases hlt2 : i < m
          · have hltI : (i : Int) < (m : Int) := by omega
            obtain ⟨b2, off, hx, A', n', c', rfl, hb2, hcell0, hnc2, hcm2, har⟩ := arrs_get HCW.out hlt2
            have hcell : wr.cell? ⟨b2, off + i, none⟩ = some (.slice A' n' c') := (hbel.cell (p := ⟨b2, off + i, none⟩) hb2).trans hcell0
            clear hcell0
            have hym := List.getElem_mem hx
            have hy1 := HJ.out.2.2.2.1 _ hym
            have e1 := HP.out
            rw [drop_cons hx, passR] at e1
            generalize C[i] = y at e1 har hy1 hym
            have hyn : n' ≤ 1000 := by rw [← har.len]; exact hy1.1
            obtain ⟨gR, oR, xR, hgo⟩ : ∃ g o x, litR T y (false, 0, 0) = (g, o, x) := ⟨_, _, _, rfl⟩
            rw [hgo] at e1
            dsimp only at e1
            have hspec := litR_spec T y false 0 0
            have hrng := litR_range (T := T) y false 0 0 (Int.le_refl _)
            rw [hgo] at hspec hrng
            dsimp only at hspec hrng
            have hxR : I64 xR := by
              rw [hspec.2.2]
              rcases hgl : (y.filter (openR T)).getLast? with _ | z
              · exact ⟨by simp, by simp⟩
              · have := hy1.2 z (List.mem_filter.1 (List.mem_of_getLast? hgl)).1
                simp only [Option.getD_some]
                unfold I64; omega
            have HY := Lib.hid hy1.2
            have HGO := Lib.hid hgo
            have HAR := Lib.hid har
            have H1 := Lib.hid e1
            have hor : 0 ≤ oR ∧ oR ≤ 1000 := by have := har.len; omega
            clear hspec hrng hgo hy1 har e1 HP hym
            go_wp2_with fail
            go_loopw [10, 11, 12, 13] (fun s10 s11 s12 s13 wr => ∃ (k : Nat) (g : Bool) (o x : Int), s13 = .int .i64 (k : Int) ∧ s10 = .bool g ∧ s11 = .int .i64 o ∧ s12 = .int .i64 x ∧ k ≤ n' ∧ 0 ≤ o ∧ o ≤ k ∧ Hid (litR T (y.drop k) (g, o, x) = (gR, oR, xR)) ∧ Below wo.heap.size wo wr) (fun _ _ _ s13 _ => n' - (intOf s13).toNat)
            case atStart => exact ⟨0, false, 0, 0, rfl, rfl, rfl, rfl, Nat.zero_le _, by omega, by omega, HGO, hbel⟩
            case round =>
              obtain ⟨k2, g, o, x, rfl, rfl, rfl, rfl, hk2, ho0, ho1, HLR, hbe2⟩ := hrel
              have hz2 := hbe2.size
              by_cases hlt3 : k2 < n'
              · have hltI3 : (k2 : Int) < (n' : Int) := by omega
                obtain ⟨b3, off3, hx3, rfl, hb3, hcell3, hlo, hhi⟩ := ints_get (HAR.out.below stays_int hbe2 (Nat.le_refl _)) hlt3
                have hrg := HY.out _ (List.getElem_mem hx3)
                have e1 := HLR.out
                rw [drop_cons hx3, litR] at e1
                generalize y[k2] = z at hcell3 hrg e1 hlo hhi
                clear HLR hlo hhi
                cases h1 : hasT T z with
                | true =>
                  rw [if_pos h1] at e1
                  have HE := Lib.hid e1
                  have H2 := Lib.hid h1
                  clear e1 h1
                  go_wp2_with fail
                  refine (HL.out wr z true hbe2 H2.out).mono ?_
                  rintro e w9 ⟨rfl, hb9⟩
                  go_wp2_with fail
                  go_roundw
                  case rel => exact ⟨k2 + 1, true, o, x, by go_num, rfl, rfl, rfl, by omega, ho0, by omega, HE, hb9⟩
                  case measure => simp [intOf]; omega
                | false =>
                  rw [if_neg (by simp [h1])] at e1
                  have H2 := Lib.hid h1
                  clear h1
                  cases h3 : hasT T (-z) with
                  | true =>
                    rw [if_pos h3] at e1
                    have HE := Lib.hid e1
                    have H3 := Lib.hid h3
                    clear e1 h3
                    go_wp2_with fail
                    refine (HL.out wr z false hbe2 H2.out).mono ?_
                    rintro e w9 ⟨rfl, hb9⟩
                    have hcell9 : w9.cell? ⟨b3, off3 + k2, none⟩ = some (.int .i64 z) := (hb9.cell (p := ⟨b3, off3 + k2, none⟩) hb3).trans ((hbe2.cell (p := ⟨b3, off3 + k2, none⟩) hb3).symm.trans hcell3)
                    have HB9 := Lib.hid hb9
                    clear hb9
                    go_wp2_with fail
                    refine (HL.out w9 (-z) true HB9.out H3.out).mono ?_
                    rintro e w8 ⟨rfl, hb8⟩
                    go_wp2_with fail
                    go_roundw
                    case rel => exact ⟨k2 + 1, g, o, x, by go_num, rfl, rfl, rfl, by omega, ho0, by omega, HE, hb8⟩
                    case measure => simp [intOf]; omega
                  | false =>
                    rw [if_neg (by simp [h3])] at e1
                    have HE := Lib.hid e1
                    have H3 := Lib.hid h3
                    clear e1 h3
                    go_wp2_with fail
                    refine (HL.out wr z false hbe2 H2.out).mono ?_
                    rintro e w9 ⟨rfl, hb9⟩
                    have hcell9 : w9.cell? ⟨b3, off3 + k2, none⟩ = some (.int .i64 z) := (hb9.cell (p := ⟨b3, off3 + k2, none⟩) hb3).trans ((hbe2.cell (p := ⟨b3, off3 + k2, none⟩) hb3).symm.trans hcell3)
                    have HB9 := Lib.hid hb9
                    clear hb9
                    go_wp2_with fail
                    refine (HL.out w9 (-z) false HB9.out H3.out).mono ?_
                    rintro e w8 ⟨rfl, hb8⟩
                    have hcell8 : w8.cell? ⟨b3, off3 + k2, none⟩ = some (.int .i64 z) := (hb8.cell (p := ⟨b3, off3 + k2, none⟩) hb3).trans ((hbe2.cell (p := ⟨b3, off3 + k2, none⟩) hb3).symm.trans hcell3)
                    go_wp2_with fail
                    go_roundw
                    case rel => exact ⟨k2 + 1, g, o + 1, z, by go_num, rfl, by go_num, rfl, by omega, by omega, by omega, HE, hb8⟩
                    case measure => simp [intOf]; omega
              · obtain rfl : k2 = n' := by omega
                have e1 := HLR.out
                rw [List.drop_of_length_le (by have := HAR.out.len; omega), litR] at e1
                simp only [Prod.mk.injEq] at e1
                obtain ⟨rfl, rfl, rfl⟩ := e1
                have HEND := Lib.hid hbe2
                clear HLR
                cases g with
                | true =>
                  have H4 := H1.out
                  rw [if_neg (by simp), if_neg (by simp)] at H4
                  have HE := Lib.hid H4
                  clear H4 H1
                  go_wp2_with fail
                  go_roundw
                  case rel => exact ⟨i + 1, nx, by go_num, rfl, by omega, hI, HE, HEND.out⟩
                  case measure => simp [intOf]; omega
                | false =>
                  by_cases ho : o = 0
                  · subst ho
                    have H4 := H1.out
                    rw [if_pos (by simp)] at H4
                    obtain rfl : none = r3 := H4
                    have HRT : Hid (R = true) := by
                      rcases HST.out with h | h | ⟨l, h, -⟩
                      · exact HK.out.2.2.2.1.2 h.2
                      · cases h.1
                      · cases h
                    clear H1
                    go_wp2_with fail
                    go_ret
                    exact ⟨ret_bool HRT.out.symm, HK.out.2.1.trans (HEND.out.mono HK.out.2.1.size)⟩
                  · have hob : (o == 0) = false := by simpa using ho
                    have H4 := H1.out
                    rw [if_neg (by simp [ho])] at H4
                    by_cases ho1 : o = 1
                    · subst ho1
                      rw [if_pos (by simp)] at H4
                      have HE := Lib.hid H4
                      clear H4 H1 ho
                      go_wp2_with fail
                      go_roundw
                      case rel => exact ⟨i + 1, x, by go_num, rfl, by omega, hxR, HE, HEND.out⟩
                      case measure => simp [intOf]; omega
                    · have hob1 : (o == 1) = false := by simpa using ho1
                      rw [if_neg (by simp [ho1])] at H4
                      have HE := Lib.hid H4
                      clear H4 H1 ho ho1
                      go_wp2_with fail
                      go_roundw
                      case rel => exact ⟨i + 1, nx, by go_num, rfl, by omega, hI, HE, HEND.out⟩
                      case measure => simp [intOf]; omega
          · obtain rfl : i = m := by omega
            have e1 := HP.out
            rw [List.drop_of_length_le (by have := HCW.out.len; omega), passR] at e1
            subst e1
            clear HP
            by_cases hn0 : nx = 0
            · subst hn0
              have HRT : Hid (R = false) := by
                rcases HST.out with h | h | ⟨l, h, h0, -⟩
                · cases h.1
                · cases hR : R with
                  | false => rfl
                  | true => exact absurd (HK.out.2.2.2.1.1 hR) h.2
                · injection h with h
                  exact absurd h.symm h0
              go_wp2_with fail
              go_ret
              exact ⟨ret_bool HRT.out.symm, HK.out.2.1.trans (hbel.mono HK.out.2.1.size)⟩
            · have hnb : (nx == 0) = false := by simpa using hn0
              obtain ⟨hl1, hl2, hl3, hl4⟩ : nx ∈ C.flatten ∧ hasT T nx = false ∧ Calm (T ++ [nx]) ∧ (Clash C (T ++ [nx]) ↔ Clash C T) := by
                rcases HST.out with h | h | ⟨l, h, h0, h1, h2, h3, h4⟩
                · cases h.1
                · injection h.1 with h; exact absurd h hn0
                · injection h with h
                  subst h
                  exact ⟨h1, h2, h3, h4⟩
              have hless := openN_less hl1 hl2
              have hnr : -1000000 ≤ nx ∧ nx ≤ 1000000 := by
                obtain ⟨c, hc, hx⟩ := List.mem_flatten.1 hl1
                exact (HJ.out.2.2.2.1 c hc).2 nx hx
              have hba : Below wr.heap.size wr (wr.alloc (.cells #[.int .i64 nx] 3)) := (Below.refl _ _).alloc (Nat.le_refl _) _
              have hbn := Blk.new wr 3 #[.int .i64 nx]
              have hz0 : w.heap.size ≤ wo.heap.size := HK.out.2.1.size
              have hbw : Below w.heap.size w wr := HK.out.2.1.trans (hbel.mono hz0)
              have HN := Lib.hid (And.intro hbn (And.intro (own_later HK.out.1 (only_of_below (hbel.trans (hba.mono hz)) none) (by cases A6 <;> simp [Value.ownBlock])) (hbw.trans (hba.mono (Nat.le_trans hz0 hz)))))
              have hz3 : w.heap.size ≤ wr.heap.size := Nat.le_trans hz0 hz
              have HLL := Lib.hid (And.intro hl3 (And.intro hl4 (And.intro hless hnr)))
              clear hl1 hl2 hl3 hl4 hless hn0 hba hbn hbw hz0
              go_wp2_with (at_builtin; refine wpList_append_item rfl _ _ _ rfl rowInts tells_int (base := w.heap.size) (S := fun _ => False) (xs := T) rfl HN.out.2.1 (g := wr.heap.size) (cs := #[.int .i64 nx]) rfl HN.out.1 (y := nx) ⟨rfl, by unfold I64; omega⟩ (fun b h => False.elim h) (by rw [HQ.out]; unfold maxLen; omega) (by rw [HQ.out]; omega) (by simp; omega) ?_; intro v' w6 hown6 hgrow6 hat6; have HB6 := Lib.hid (And.intro hown6 hgrow6); clear hown6 hgrow6 hat6)
              go_roundg g0
              case measure => omega
              case rel =>
                have hl := HN.out.2.1.lt
                obtain ⟨h3, h4, h5, h6⟩ := HLL.out
                refine ⟨T ++ [nx], trivial, HB6.out.1, below_then HN.out.2.2 HB6.out.2 (by simp; omega) (fun x hx => (hl x hx).1), h3, HK.out.2.2.2.1.trans h4.symm, by have := HK.out.2.2.2.2.1; have := HQ.out; simp; omega, fun x hx => ?_, by have := HK.out.2.2.2.2.2.2; omega⟩
                rcases List.mem_append.1 hx with hx | hx
                · exact HK.out.2.2.2.2.2.1 x hx
                · rw [List.mem_singleton.1 hx]; exact h6
end Go.Proofs.YthjfiomcpihlaaaGreat
namespace Go.Proofs.YthjfiomcpihlaaaGreat
open Go.RowKit

theorem infoIntsJ : (Tryz.prog.info? 40).map (fun i => (i.zero, i.size, i.bytes)) = some (some (.slice none 0 0), 1, 24) := by kernel_rfl
theorem rowLitsJ : RowT Tryz.prog 25 40 1 24 := rowT_of Tryz.underlying25 infoIntsJ rfl (by omega)
theorem decide_hasT {l : List Int} {k : Int} : decide (k ∈ l) = hasT l k := by
  rw [Bool.eq_iff_iff, decide_eq_true_eq]; exact hasT_mem.symm
theorem permB_has {c l : List Int} (hc : c.Nodup) : permB c l = (decide (c.length = l.length) && c.all fun k => hasT l k) := by
  rw [permB_sub hc]
  congr 1
  exact congrArg c.all (funext fun k => decide_hasT)
theorem Arr.dropJ {α : Type} {E : Ent α} {w : World} {S : Nat → Prop} {b off n : Nat} {xs : List α} (h : Arr E 1 w S (some ⟨b, off, none⟩) n xs) {k : Nat} (hk : k ≤ n) : Arr E 1 w S (some ⟨b, off + k, none⟩) (n - k) (xs.drop k) :=
  ⟨by have := h.len; simp; omega, fun i x hx => by
    rw [List.getElem?_drop] at hx
    obtain ⟨b', off', e, hb, hx'⟩ := h.at_ _ x hx
    injection e with e
    injection e with e1 e2
    subst e1
    subst e2
    exact ⟨b, off + k, rfl, hb, by rw [show off + k + i * 1 = off + (k + i) * 1 by omega]; exact hx'⟩⟩

def DropP (j : Nat) (v0 v1 v2 v3 v4 : Value) (C : List (List Int)) (p : List Int → Bool) (w : World) (e : Ending) (w' : World) : Prop :=
  e = .returned (.bool (C.any p)) ∧ w.grownBy w' (some j) ∧ (C.any p = true → ∃ (A : Option Addr) (m c : Nat), Blk w' j 55 #[v0, v1, v2, v3, v4, .slice A m c] ∧ m ≤ c ∧ c ≤ maxLen ∧ Arr (AtArr AtInt 1) 1 w' (fun b => b < w'.heap.size ∧ b ≠ j) A m (C.eraseIdx (idx p C 0).toNat))

set_option maxRecDepth 100000 in
set_option maxHeartbeats 8000000 in
theorem refDrops_any (j : Nat) (v0 v1 v2 v3 v4 : Value) (A5 : Option Addr) (m c5 : Nat) (C : List (List Int)) (A : Option Addr) (n c : Nat) (xs : List Int) (w : World)
    (hj : Blk w j 55 #[v0, v1, v2, v3, v4, .slice A5 m c5]) (hC : Arr (AtArr AtInt 1) 1 w (fun b => b < w.heap.size ∧ b ≠ j) A5 m C) (hxs : IntsB w w.heap.size A n xs) (hnc : n ≤ c) (hn : n ≤ 1000) (hmc : m ≤ c5) (hm : m ≤ 1000000) (hcm : c5 ≤ maxLen)
    (hcl : ∀ c ∈ C, CleanC c) (ht : Tame C) :
    Calls Tryz.prog 36 #[.pointer (some ⟨j, 0, none⟩), .slice A n c] w (DropP j v0 v1 v2 v3 v4 C (fun y => permB y xs) w) := by
  obtain ⟨p, hp⟩ : ∃ p : List Int → Bool, (fun y => permB y xs) = p := ⟨_, rfl⟩
  rw [hp]
  have hpy : ∀ y ∈ C, p y = (decide (y.length = xs.length) && y.all fun k => hasT xs k) := fun y hy => by rw [← hp]; exact permB_has (hcl y hy).2
  have HPY := Lib.hid hpy
  have HX := Lib.hid hxs
  have hjl := hj.lt
  have hCB : ArrB (AtArr AtInt 1) 1 w w.heap.size A5 m C := hC.keep (stays_arr stays_int) (fun b hb => hb.1) (fun _ _ _ => rfl)
  have HJ := Lib.hid (And.intro hj (And.intro hC (And.intro hCB (And.intro ht hxs.len))))
  have hia := idx_any p C 0 (Int.le_refl _)
  obtain ⟨r, hr⟩ : ∃ r, idx p C 0 = r := ⟨_, rfl⟩
  rw [hr] at hia
  have HR := Lib.hid hr
  have HIA := Lib.hid hia
  unfold maxLen at hcm
  clear hxs hj hC hCB hcl ht hp hpy hia hr
  go_enter Tryz.func36, Tryz.ntmps36
  go_wp2_with fail
  go_loopw [5] (fun s5 wr => ∃ i : Nat, s5 = .int .i64 (i : Int) ∧ i ≤ m ∧ Hid (idx p (C.drop i) (i : Int) = r) ∧ Below w.heap.size w wr) (fun s5 _ => m - (intOf s5).toNat)
  case atStart => exact ⟨0, rfl, Nat.zero_le _, HR, Below.refl _ _⟩
  case round =>
    obtain ⟨i, rfl, hi, HK, hbel⟩ := hrel
    have hz := hbel.size
    have q5 : wr.cell? ⟨j, 5, none⟩ = some (.slice A5 m c5) := (HJ.out.1.below hbel hjl).cell 5
    by_cases hlt : i < m
    · have hltI : (i : Int) < (m : Int) := by omega
      obtain ⟨b2, off, hx, A', n', c', rfl, hb2, hcell0, hnc2, hcm2, har⟩ := arrs_get HJ.out.2.2.1 hlt
      have hcell : wr.cell? ⟨b2, off + i, none⟩ = some (.slice A' n' c') := (hbel.cell (p := ⟨b2, off + i, none⟩) hb2).trans hcell0
      clear hcell0
      have hym := List.getElem_mem hx
      have hy1 := HJ.out.2.2.2.1 _ hym
      have hy2 := HPY.out _ hym
      have e1 := HK.out
      rw [drop_cons hx, idx] at e1
      generalize C[i] = y at e1 har hy1 hy2 hym
      have hyn : n' ≤ 1000 := by rw [← har.len]; exact hy1.1
      rw [har.len, HJ.out.2.2.2.2] at hy2
      obtain ⟨tt, htt⟩ : ∃ tt, p y = tt := ⟨_, rfl⟩
      rw [htt] at e1 hy2
      have HAR := Lib.hid har
      have H1 := Lib.hid e1
      have H2 := Lib.hid hy2
      clear hy1 har e1 hym htt HK hy2
      go_wp2_with fail
      go_loopw [7, 8] (fun s7 s8 wr => ∃ (k : Nat) (sm : Bool), s8 = .int .i64 (k : Int) ∧ s7 = .bool sm ∧ k ≤ n' ∧ Hid (tt = (sm && (y.drop k).all fun k => hasT xs k)) ∧ Below w.heap.size w wr) (fun _ s8 _ => n' - (intOf s8).toNat)
      case atStart => exact ⟨0, decide (n' = n), rfl, by congr 1; rw [Bool.eq_iff_iff]; simp; omega, Nat.zero_le _, H2, hbel⟩
      case round =>
        clear hbel hz q5 hcell
        obtain ⟨k, sm, rfl, rfl, hk, HS, hbel⟩ := hrel
        have hz := hbel.size
        cases sm with
        | false =>
          have h0 : tt = false := by rw [HS.out]; rfl
          subst h0
          have h1 := H1.out
          rw [if_neg (by simp)] at h1
          have HE := Lib.hid h1
          clear h1 H1 H2 HS
          go_wp2_with fail
          go_roundw
          case rel => exact ⟨i + 1, by go_num, by omega, by show _ = _; rw [Int.natCast_add]; exact HE.out, hbel⟩
          case measure => simp [intOf]; omega
        | true =>
          by_cases hlk : k < n'
          · have hlkI : (k : Int) < (n' : Int) := by omega
            obtain ⟨b3, off3, hx3, rfl, hb3, hcell3, hlo, hhi⟩ := ints_get (HAR.out.below stays_int hbel (Nat.le_refl _)) hlk
            have e1 := HS.out
            rw [drop_cons hx3, Bool.true_and, List.all_cons] at e1
            generalize y[k] = z at hcell3 e1 hlo hhi
            have HL := Lib.hid (refHasLit_any A n c xs z wr (HX.out.below stays_int hbel hz) hnc (by omega))
            generalize hasT xs z = bb at e1 HL
            have HE := Lib.hid e1
            clear e1 HS
            go_wp2_with fail
            refine HL.out.mono ?_
            rintro e w9 ⟨rfl, hb9⟩
            have hbel9 := hbel.trans (hb9.mono hz)
            clear hb9
            go_wp2_with fail
            go_roundw
            case rel => exact ⟨k + 1, bb, by go_num, rfl, by omega, HE, hbel9⟩
            case measure => simp [intOf]; omega
          · obtain rfl : k = n' := by omega
            have e1 := HS.out
            rw [List.drop_of_length_le (by have := HAR.out.len; omega), List.all_nil] at e1
            subst e1
            have h1 := H1.out
            rw [if_pos (by rfl)] at h1
            subst h1
            have q5 : wr.cell? ⟨j, 5, none⟩ = some (.slice (some ⟨b2, off, none⟩) m c5) := (HJ.out.1.below hbel hjl).cell 5
            have f5 : wr.frozen? ⟨j, 5, none⟩ = false := (HJ.out.1.below hbel hjl).frozen 5
            have hCr : Arr (AtArr AtInt 1) 1 wr (fun b => b < w.heap.size ∧ b ≠ j) (some ⟨b2, off, none⟩) m C := HJ.out.2.1.keep (stays_arr stays_int) (fun _ h => h) (fun b o hb => hbel.cell (p := ⟨b, o, none⟩) hb.1)
            have HT1 := Lib.hid (Arr.take hCr (Nat.le_of_lt hlt))
            have HCR := Lib.hid hCr
            have hic : (i : Int) ≤ (c5 : Int) := by omega
            have hzr : w.heap.size ≤ wr.heap.size := hz
            clear hCr
            have hi1 : (i : Int) + 1 ≤ (m : Int) := by omega
            obtain ⟨M, hM⟩ : ∃ M, (C.take i ++ C.drop (i + 1)).length = M := ⟨_, rfl⟩
            have HML := Lib.hid hM
            clear hM
            have hjw : j < wr.heap.size := Nat.lt_of_lt_of_le hjl hzr
            have hmI : (m : Int) ≤ (c5 : Int) := by omega
            have HBJ := Lib.hid (HJ.out.1.below hbel hjl)
            go_upto_region 13 with (at_builtin; (refine wpList_append_many rfl _ _ _ rfl rowLitsJ (tells_arr stays_int) (v := .slice none 0 0) (xs := []) (base := wr.heap.size) (S := fun b => b < w.heap.size ∧ b ≠ j) rfl (OwnV.none_ _ _ _ _ _ _) (E := AtArr AtInt 1) (fun _ _ _ _ _ h => atV_arr.2 h) (A := some ⟨b2, off, none⟩) (m := i) (c := c5) rfl HT1.out (fun b h => ⟨by omega, by simp [Value.ownBlock]⟩) (by simp; unfold maxLen; omega) (by simp; omega) (Nat.le_refl _) ?_); intro v' w6 hown6 hgrow6 hat6; (have hb6 := HBJ.out.grown hgrow6 (by simp [Value.ownBlock])); (have q6 : w6.cell? ⟨j, 5, none⟩ = some (.slice (some ⟨b2, off, none⟩) m c5) := hb6.cell 5); (have f6 : w6.frozen? ⟨j, 5, none⟩ = false := hb6.frozen 5); (have zj6 : j < w6.heap.size := hb6.lt); (have HB6 := Lib.hid (And.intro hown6 (And.intro hgrow6 hb6))); clear hown6 hgrow6 hat6 hb6)
            have htell : Arr (AtArr AtInt 1) 1 w6 (fun b => b < w.heap.size ∧ b ≠ j) (some ⟨b2, off, none⟩) m C := HCR.out.keep (stays_arr stays_int) (fun _ h => h) (fun b o hb => only_cell HB6.out.2.1 (by omega) (by simp [Value.ownBlock]))
            have hz6 : wr.heap.size ≤ w6.heap.size := HB6.out.2.1.size
            by_cases hcg : c5 = i + 1
            rotate_left
            have hcg2 : (i : Int) + 1 < (c5 : Int) := by omega
            have HT2 := Lib.hid (Arr.dropJ htell (show i + 1 ≤ m by omega))
            clear htell
            rotate_left
            have HT0 : Hid (∀ A : Option Addr, Arr (AtArr AtInt 1) 1 w6 (fun b => b < w.heap.size ∧ b ≠ j) A (m - (i + 1)) (C.drop (i + 1))) := by
              intro A0
              rw [List.drop_of_length_le (by have := HCR.out.len; omega), show m - (i + 1) = 0 by omega]
              exact ⟨rfl, fun i x hx => by simp at hx⟩
            have hcz : c5 - (i + 1) = 0 := by omega
            clear htell hcg
            all_goals
              go_wp2_with (at_builtin; (first | (refine wpList_append_many rfl _ _ _ rfl rowLitsJ (tells_arr stays_int) (v := v') (xs := C.take i) (base := wr.heap.size) (S := fun b => b < w.heap.size ∧ b ≠ j) rfl HB6.out.1 (E := AtArr AtInt 1) (fun _ _ _ _ _ h => atV_arr.2 h) (A := some ⟨b2, off + (i + 1), none⟩) (m := m - (i + 1)) rfl (by first | exact HT2.out | exact HT0.out _) (ys := C.drop (i + 1)) (fun b h => ⟨by omega, fun e => by have := (HB6.out.1.lt _ e).1; omega⟩) (by simp; unfold maxLen; omega) (by simp; omega) hz6 ?_) | (refine wpList_append_many rfl _ _ _ rfl rowLitsJ (tells_arr stays_int) (v := v') (xs := C.take i) (base := wr.heap.size) (S := fun b => b < w.heap.size ∧ b ≠ j) rfl HB6.out.1 (E := AtArr AtInt 1) (fun _ _ _ _ _ h => atV_arr.2 h) (m := m - (i + 1)) rfl (HT0.out _) (ys := C.drop (i + 1)) (fun b h => ⟨by omega, fun e => by have := (HB6.out.1.lt _ e).1; omega⟩) (by simp; unfold maxLen; omega) (by simp; omega) hz6 ?_)); intro v7 w7 hown7 hgrow7 hat7; obtain ⟨A7, c7, rfl, hc7, hc7m⟩ := hown7.len; rw [HML.out] at hown7 hc7 hat7 ⊢; (have hb7 := HB6.out.2.2.grown hgrow7 (fun e => by have := (HB6.out.1.lt _ e.symm).1; omega)); (have q7 : w7.cell? ⟨j, 5, none⟩ = some (.slice (some ⟨b2, off, none⟩) m c5) := hb7.cell 5); (have f7 : w7.frozen? ⟨j, 5, none⟩ = false := hb7.frozen 5); (have zj7 : j < w7.heap.size := hb7.lt); (have HB7 := Lib.hid (And.intro hown7 (And.intro hgrow7 hb7))); clear hown7 hgrow7 hat7 hb7)
              go_ret
              have hPI : C.any p = true := by have := HIA.out; rw [← this]; simp
              have hix : (i : Int).toNat = i := Int.toNat_natCast i
              have hgw : w.grownBy w7 (some j) := only_then (only_then (only_of_below hbel (some j)) HB6.out.2.1 (fun x hx => by simp [Value.ownBlock] at hx)) HB7.out.2.1 (fun x hx => by have := (HB6.out.1.lt x hx).1; omega)
              have hL7 := HB7.out.1.lt
              refine ⟨ret_bool hPI.symm, one_only hgw 5 _, fun _ => ⟨A7, M, c7, HB7.out.2.2.set_ 5 _, hc7, hc7m, ?_⟩⟩
              obtain ⟨A8, c8, e8, -, -, har8⟩ := HB7.out.1.reads (tells_arr stays_int) (E := AtArr AtInt 1) (S' := fun b => b < w7.heap.size ∧ b ≠ j) (fun _ _ _ _ _ h => atV_arr.1 h) (fun b hb => ⟨by have := HB7.out.2.1.size; omega, hb.2⟩) (fun g hg => ⟨(hL7 g hg).2, fun e => by have := (hL7 g hg).1; omega⟩)
              rw [HML.out] at e8 har8
              injection e8 with e81 e82 e83
              subst e81
              rw [HR.out, hix, List.eraseIdx_eq_take_drop_succ]
              have h1 := one_only (only_refl w7 (some j)) 5 (.slice A7 M c7)
              exact har8.keep (stays_arr stays_int) (fun b hb => ⟨by have := h1.size; omega, hb.2⟩) (fun b o hb => only_cell h1 hb.1 (fun e => hb.2 (by injection e with e; exact e.symm)))
    · obtain rfl : i = m := by omega
      have e1 := HK.out
      rw [List.drop_of_length_le (by have := HJ.out.2.2.1.len; omega), idx] at e1
      subst e1
      have HF : Hid (C.any p = false) := HIA.out.symm
      go_wp2_with fail
      go_ret
      exact ⟨ret_bool HF.out.symm, only_of_below hbel _, fun h => by rw [HF.out] at h; cases h⟩
end Go.Proofs.YthjfiomcpihlaaaGreat
