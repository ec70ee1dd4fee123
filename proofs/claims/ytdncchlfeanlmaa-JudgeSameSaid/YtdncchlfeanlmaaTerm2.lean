/- Walks: what is wrong with terms, in the program and in the reference. · Walk: what is wrong with terms: the reference. -/
import Derived.Test.YtdncchlfeanlmaaFuncs
namespace Go.Proofs.Ytdncchlfeanlmaa
open Go.RowKit

def kidBad (i k : Int) : Bool := decide (k < 0 ∨ i ≤ k)
def termCode (t : TermD) (i : Int) : Int := if t.head < 0 ∨ 1000000 < t.head then 3 else if 8 < t.kids.length then 9 else if t.kids.any (kidBad i) then 3 else 0
theorem termCode_head {hd : Int} {ks : List Int} {i : Int} (h : hd < 0 ∨ 1000000 < hd) : termCode ⟨hd, ks⟩ i = 3 := if_pos h
theorem termCode_size {hd : Int} {ks : List Int} {i : Int} (h : ¬ (hd < 0 ∨ 1000000 < hd)) (h2 : 8 < ks.length) : termCode ⟨hd, ks⟩ i = 9 := by
  unfold termCode; rw [if_neg h, if_pos h2]
theorem termCode_kids {hd : Int} {ks : List Int} {i : Int} (h : ¬ (hd < 0 ∨ 1000000 < hd)) (h2 : ¬ 8 < ks.length) : termCode ⟨hd, ks⟩ i = if ks.any (kidBad i) then 3 else 0 := by
  unfold termCode; rw [if_neg h, if_neg h2]

set_option maxHeartbeats 400000 in
theorem checkTerm1_any (k i : Int) (B : Nat) (w : World) (hc : w.cell? ⟨B, 0, none⟩ = some (.int .i64 i)) :
    Calls Try.prog 22 #[.int .i64 k, .pointer (some ⟨B, 0, none⟩)] w fun e w' => e = .returned (.bool (kidBad i k)) ∧ Below w.heap.size w w' := by
  go_enter Try.func22, Try.ntmps22
  go_wp2
  all_goals go_ret
  all_goals refine ⟨ret_bool ?_, Below.refl _ _⟩
  all_goals (rw [Bool.eq_iff_iff]; simp [kidBad]; try omega)

theorem checkTerm1_pred (i : Int) (B : Nat) (xs : List Int) (w : World) (hB : B < w.heap.size) (hc : w.cell? ⟨B, 0, none⟩ = some (.int .i64 i)) :
    PredOn Try.prog 22 #[.pointer (some ⟨B, 0, none⟩)] (kidBad i) xs w := fun W y _ hb =>
  (checkTerm1_any y i B W ((hb.cell (p := ⟨B, 0, none⟩) hB).trans hc)).mono fun _ _ ⟨he, hb'⟩ => ⟨he, hb.trans (hb'.mono hb.size)⟩

set_option maxHeartbeats 1000000 in
theorem checkTerm_any (A : Option Addr) (n c : Nat) (ts : List TermD) (i : Nat) (hi : i < n) (R : Int) (w : World) (hxs : ArrB AtTerm 2 w w.heap.size A n ts) (hR : ∀ h : i < ts.length, termCode ts[i] i = R) :
    Calls Try.prog 10 #[.slice A n c, .int .i64 i] w fun e w' => e = .returned (.int .i64 R) ∧ Below w.heap.size w w' := by
  have EG := Lib.hid (show ∀ args w, (callFunc 22 args).run Try.prog w = .ok (.enter 22 args) w from enters_of Try.func22 (by kernel_rfl) rfl)
  obtain ⟨b, off, hx, A', n', c', rfl, hb, h0, h1, hnc, hcm, har, hlo, hhi⟩ := terms_get hxs hi
  have hr := hR hx
  unfold maxLen at hcm
  have hl := har.len
  generalize ts[i] = t at hr har hl h0 hlo hhi
  obtain ⟨hd, ks⟩ := t
  simp only at hr har hl h0 hlo hhi
  unfold termCode at hr
  simp only at hr
  rw [hl] at hr
  have hz : b < w.heap.size + 1 := by omega
  have hz2 : ¬ b = w.heap.size := by omega
  clear hl hR
  by_cases hd1 : hd < 0
  · rw [if_pos (.inl hd1)] at hr
    subst hr
    go_enter Try.func10, Try.ntmps10
    go_wp2_with fail
    go_ret
    exact ⟨rfl, ((Below.refl _ _).alloc (Nat.le_refl _) _).alloc (by simp) _⟩
  by_cases hd2 : 1000000 < hd
  · rw [if_pos (.inr hd2)] at hr
    subst hr
    go_enter Try.func10, Try.ntmps10
    go_wp2_with fail
    go_ret
    exact ⟨rfl, ((Below.refl _ _).alloc (Nat.le_refl _) _).alloc (by simp) _⟩
  rw [if_neg (by omega)] at hr
  by_cases h8 : 8 < n'
  · rw [if_pos h8] at hr
    subst hr
    go_enter Try.func10, Try.ntmps10
    go_wp2_with fail
    go_ret
    exact ⟨rfl, ((Below.refl _ _).alloc (Nat.le_refl _) _).alloc (by simp) _⟩
  rw [if_neg h8] at hr
  have har2 : IntsB ((w.alloc (.cells #[.int .i64 i] 3)).alloc (.cells #[.int .i64 hd, .slice A' n' c'] 39)) (w.heap.size + 2) A' n' ks := har.below stays_int (((Below.refl _ _).alloc (Nat.le_refl _) _).alloc (by simp) _) (by omega)
  have HC := Lib.hid (fun R hR => containsInts_any 22 #[.pointer (some ⟨w.heap.size, 0, none⟩)] EG.out (kidBad i) A' n' c' ks R ((w.alloc (.cells #[.int .i64 i] 3)).alloc (.cells #[.int .i64 hd, .slice A' n' c'] 39)) (by simpa using har2) (by omega)
    (checkTerm1_pred i w.heap.size ks _ (by simp; omega) (by rw [World.cell?_alloc_lt _ _ _ (by simp)]; simp)) hR)
  clear har2 har
  cases hq : ks.any (kidBad i) with
  | true =>
    rw [if_pos hq] at hr
    subst hr
    have HQ := Lib.hid hq
    clear hq
    go_enter Try.func10, Try.ntmps10
    go_wp2_with fail
    refine (HC.out true HQ.out).mono ?_
    rintro e w' ⟨rfl, hb'⟩
    go_wp2_with fail
    go_ret
    exact ⟨rfl, (((Below.refl _ _).alloc (Nat.le_refl _) _).alloc (by simp) _).trans (hb'.mono (by simp; omega))⟩
  | false =>
    rw [if_neg (by simp [hq])] at hr
    subst hr
    have HQ := Lib.hid hq
    clear hq
    go_enter Try.func10, Try.ntmps10
    go_wp2_with fail
    refine (HC.out false HQ.out).mono ?_
    rintro e w' ⟨rfl, hb'⟩
    go_wp2_with fail
    go_ret
    exact ⟨rfl, (((Below.refl _ _).alloc (Nat.le_refl _) _).alloc (by simp) _).trans (hb'.mono (by simp; omega))⟩
end Go.Proofs.Ytdncchlfeanlmaa
namespace Go.Proofs.Ytdncchlfeanlmaa
open Go.RowKit

def termsF (ts : List TermD) : Int × Int := if 60 < ts.length then (2, 0) else firstBad termCode ts 0

set_option maxRecDepth 100000 in
set_option maxHeartbeats 2000000 in
theorem termsFault_any (A : Option Addr) (n c : Nat) (ts : List TermD) (qc qa : Int) (w : World) (hxs : ArrB AtTerm 2 w w.heap.size A n ts) (hn : n ≤ maxLen) (hR : termsF ts = (qc, qa)) :
    Calls Try.prog 13 #[.slice A n c] w fun e w' => e = .returned (.agg #[.int .i64 qc, .int .i64 qa]) ∧ Below w.heap.size w w' := by
  unfold maxLen at hn
  have hlen := hxs.len
  rw [termsF, hlen] at hR
  by_cases hmany : 60 < n
  · rw [if_pos hmany] at hR
    simp only [Prod.mk.injEq] at hR
    obtain ⟨rfl, rfl⟩ := hR
    clear hxs hlen
    go_enter Try.func13, Try.ntmps13
    go_wp2_with fail
    refine bodyPost_ret (v := .agg #[.int .i64 2, .int .i64 0]) (by simp [results, Try.results13, go_sem]) rfl ⟨rfl, ?_⟩
    exact (Below.refl _ _).alloc (Nat.le_refl _) _
  · rw [if_neg hmany] at hR
    have HR := Lib.hid hR
    have HL := Lib.hid hlen
    clear hR hlen
    go_enter Try.func13, Try.ntmps13
    go_wp2_with fail
    go_loopw [3] (fun s wr => ∃ k : Nat, k ≤ n ∧ s = .int .i64 k ∧ Hid (firstBad termCode (ts.drop k) k = (qc, qa)) ∧ Below w.heap.size w wr ∧ Blk wr w.heap.size 29 #[.int .i64 0, .int .i64 0]) (fun s _ => n - (intOf s).toNat)
    case atStart => exact ⟨0, Nat.zero_le _, rfl, HR, (Below.refl _ _).alloc (Nat.le_refl _) _, Blk.new _ _ _⟩
    case round =>
      obtain ⟨k, hk, rfl, HK, hbel, hbf⟩ := hrel
      have hz : w.heap.size < wr.heap.size := hbf.lt
      have d0 : wr.cell? ⟨w.heap.size, 0, none⟩ = some (.int .i64 0) := hbf.cell 0
      have d1 : wr.cell? ⟨w.heap.size, 1, none⟩ = some (.int .i64 0) := hbf.cell 1
      have d2 : wr.frozen? ⟨w.heap.size, 0, none⟩ = false := hbf.frozen 0
      have d3 : wr.frozen? ⟨w.heap.size, 1, none⟩ = false := hbf.frozen 1
      by_cases hlt : k < n
      · obtain ⟨b, off, hx, A', n', c', rfl, hb, g0, g1, hnc, hcm, har, hlo, hhi⟩ := terms_get hxs hlt
        unfold maxLen at hcm
        have e1 := HK.out
        rw [drop_cons hx] at e1
        obtain ⟨en, eb⟩ := firstBad_cons e1
        clear e1
        have hl := har.len
        generalize ts[k] = t at en eb har hl g0 hlo hhi
        obtain ⟨hd, ks⟩ := t
        simp only at har hl g0 hlo hhi
        have H2 := Lib.hid hl
        have EN := Lib.hid en
        have EB := Lib.hid eb
        have hc0 : wr.cell? ⟨b, off + k * 2, none⟩ = some (.int .i64 hd) := (hbel.cell (p := ⟨b, off + k * 2, none⟩) hb).trans g0
        have hc1 : wr.cell? ⟨b, off + k * 2 + 1, none⟩ = some (.slice A' n' c') := (hbel.cell (p := ⟨b, off + k * 2 + 1, none⟩) hb).trans g1
        have G1 := Lib.hid g1
        clear hl HK HR g0 g1 en eb
        by_cases hd1 : hd < 0
        · have e2 := termCode_head (ks := ks) (i := k) (.inl hd1)
          have e3 := EB.out (by rw [e2]; omega)
          rw [e2] at e3
          obtain ⟨rfl, rfl⟩ := e3
          clear EB EN e2
          go_wp2_with fail
          refine bodyPost_ret (v := .agg #[.int .i64 3, .int .i64 k]) (by simp [results, Try.results13, go_sem, d0, d1]) rfl ⟨rfl, ?_⟩
          exact ((hbel).setCell (p := ⟨w.heap.size, 0, none⟩) (Nat.le_refl _) _).setCell (p := ⟨w.heap.size, 1, none⟩) (Nat.le_refl _) _
        by_cases hd2 : 1000000 < hd
        · have e2 := termCode_head (ks := ks) (i := k) (.inr hd2)
          have e3 := EB.out (by rw [e2]; omega)
          rw [e2] at e3
          obtain ⟨rfl, rfl⟩ := e3
          clear EB EN e2
          go_wp2_with fail
          refine bodyPost_ret (v := .agg #[.int .i64 3, .int .i64 k]) (by simp [results, Try.results13, go_sem, d0, d1]) rfl ⟨rfl, ?_⟩
          exact ((hbel).setCell (p := ⟨w.heap.size, 0, none⟩) (Nat.le_refl _) _).setCell (p := ⟨w.heap.size, 1, none⟩) (Nat.le_refl _) _
        by_cases h8 : 8 < n'
        · have e2 := termCode_size (hd := hd) (ks := ks) (i := k) (by omega) (by have := H2.out; omega)
          have e3 := EB.out (by rw [e2]; omega)
          rw [e2] at e3
          obtain ⟨rfl, rfl⟩ := e3
          clear EB EN e2
          go_wp2_with fail
          refine bodyPost_ret (v := .agg #[.int .i64 9, .int .i64 k]) (by simp [results, Try.results13, go_sem, d0, d1]) rfl ⟨rfl, ?_⟩
          exact ((hbel).setCell (p := ⟨w.heap.size, 0, none⟩) (Nat.le_refl _) _).setCell (p := ⟨w.heap.size, 1, none⟩) (Nat.le_refl _) _
        have e2 := termCode_kids (hd := hd) (ks := ks) (i := k) (by omega) (by have := H2.out; omega)
        rw [e2] at EB EN
        have HP := Lib.hid (show ks.any (kidBad k) = true → 3 = qc ∧ (k : Int) = qa from fun h => by have := EB.out; rw [if_pos h] at this; exact this (by omega))
        have HQ := Lib.hid (show ks.any (kidBad k) = false → firstBad termCode (ts.drop (k + 1)) ((k : Int) + 1) = (qc, qa) from fun h => by have := EN.out; rw [if_neg (by simp [h])] at this; exact this rfl)
        clear EB EN e2
        go_wp2_with fail
        have hbf1 := hbf
        have hbel1 := hbel
        clear hbf hbel hz d0 d1 d2 d3 hc0 hc1
        go_loopw [4] (fun s wr => ∃ j : Nat, j ≤ n' ∧ s = .int .i64 j ∧ Hid ((ks.take j).any (kidBad k) = false) ∧ Below w.heap.size w wr ∧ Blk wr w.heap.size 29 #[.int .i64 0, .int .i64 0]) (fun s _ => n' - (intOf s).toNat)
        case atStart => exact ⟨0, Nat.zero_le _, rfl, rfl, hbel1, hbf1⟩
        case round =>
          clear hbf1 hbel1
          obtain ⟨j, hj, rfl, HJ, hbel, hbf⟩ := hrel
          have hz : w.heap.size < wr.heap.size := hbf.lt
          have d0 : wr.cell? ⟨w.heap.size, 0, none⟩ = some (.int .i64 0) := hbf.cell 0
          have d1 : wr.cell? ⟨w.heap.size, 1, none⟩ = some (.int .i64 0) := hbf.cell 1
          have d2 : wr.frozen? ⟨w.heap.size, 0, none⟩ = false := hbf.frozen 0
          have d3 : wr.frozen? ⟨w.heap.size, 1, none⟩ = false := hbf.frozen 1
          have hc1 : wr.cell? ⟨b, off + k * 2 + 1, none⟩ = some (.slice A' n' c') := (hbel.cell (p := ⟨b, off + k * 2 + 1, none⟩) hb).trans G1.out
          by_cases hjl : j < n'
          · obtain ⟨b2, off2, hx2, rfl, hb2, hcw2, hlo2, hhi2⟩ := ints_get har hjl
            have hts := take_snoc_l hx2
            have hmem : ks[j] ∈ ks := List.getElem_mem hx2
            generalize ks[j] = x at hts hcw2 hlo2 hhi2 hmem
            have hcell2 : wr.cell? ⟨b2, off2 + j, none⟩ = some (.int .i64 x) := (hbel.cell (p := ⟨b2, off2 + j, none⟩) hb2).trans hcw2
            have HT := Lib.hid hts
            have HM := Lib.hid hmem
            clear hts hcw2 hmem
            by_cases hq1 : x < 0
            · obtain ⟨rfl, rfl⟩ := HP.out (List.any_eq_true.2 ⟨x, HM.out, by simp [kidBad]; omega⟩)
              go_wp2_with fail
              refine bodyPost_ret (v := .agg #[.int .i64 3, .int .i64 k]) (by simp [results, Try.results13, go_sem, d0, d1]) rfl ⟨rfl, ?_⟩
              exact ((hbel).setCell (p := ⟨w.heap.size, 0, none⟩) (Nat.le_refl _) _).setCell (p := ⟨w.heap.size, 1, none⟩) (Nat.le_refl _) _
            by_cases hq2 : (k : Int) ≤ x
            · obtain ⟨rfl, rfl⟩ := HP.out (List.any_eq_true.2 ⟨x, HM.out, by simp [kidBad]; omega⟩)
              go_wp2_with fail
              refine bodyPost_ret (v := .agg #[.int .i64 3, .int .i64 k]) (by simp [results, Try.results13, go_sem, d0, d1]) rfl ⟨rfl, ?_⟩
              exact ((hbel).setCell (p := ⟨w.heap.size, 0, none⟩) (Nat.le_refl _) _).setCell (p := ⟨w.heap.size, 1, none⟩) (Nat.le_refl _) _
            go_wp2_with fail
            go_roundw
            case rel => exact ⟨j + 1, by omega, by go_num, by show _ = _; rw [HT.out, List.any_append, HJ.out]; simp [kidBad]; omega, hbel, hbf⟩
            case measure => simp [intOf]; omega
          · obtain rfl : j = n' := by omega
            have e2 := HJ.out
            rw [List.take_of_length_le (by have := H2.out; omega)] at e2
            have H1 := Lib.hid (HQ.out e2)
            clear HJ HP HQ e2
            go_wp2_with fail
            go_roundw
            case rel => exact ⟨k + 1, by omega, by go_num, by show _ = _; rw [Int.natCast_add]; exact H1.out, hbel, hbf⟩
            case measure => simp [intOf]; omega
      · obtain rfl : k = n := by omega
        have e1 := HK.out
        rw [List.drop_of_length_le (by have := HL.out; omega), firstBad] at e1
        simp only [Prod.mk.injEq] at e1
        obtain ⟨rfl, rfl⟩ := e1
        clear HK HR hxs
        go_wp2_with fail
        refine bodyPost_ret (v := .agg #[.int .i64 0, .int .i64 0]) (by simp [results, Try.results13, go_sem, d0, d1]) rfl ⟨rfl, ?_⟩
        exact ((hbel).setCell (p := ⟨w.heap.size, 0, none⟩) (Nat.le_refl _) _).setCell (p := ⟨w.heap.size, 1, none⟩) (Nat.le_refl _) _
end Go.Proofs.Ytdncchlfeanlmaa
