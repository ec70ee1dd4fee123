/- Walks: what is wrong with clauses, in the program and in the reference. · Walks: what is wrong with clauses: the program's check. -/
import Derived.Test.YtdncchlfeanlmaaCore
import Derived.Test.YtdncchlfeanlmaaFuncs
import Derived.Deep.QuietTactic
import Derived.BigQuiet
namespace Go.Proofs.Ytdncchlfeanlmaa
open Go.RowKit

def absI (x : Int) : Int := if x < 0 then -x else x
def litBad (vars x : Int) : Bool := decide (x = 0 ∨ x < -vars ∨ vars < x)
def sameVar (x y : Int) : Bool := decide (y = x ∨ y = -x)
def badL (vars : Int) : List Int → List Int → Int → Int × Int
  | _, [], _ => (0, 0)
  | pre, x :: r, i => if litBad vars x then (i, 3) else if pre.any (sameVar x) then (i, 7) else badL vars (pre ++ [x]) r (i + 1)
def clauseCode (vars : Int) (l : List Int) : Int := if 24 < l.length then 2 else (badL vars [] l 0).2
def cnfF (vars : Int) (l : List (List Int)) : Int × Int := if 400 < l.length then (2, 0) else firstBad (fun x _ => clauseCode vars x) l 0

set_option maxHeartbeats 400000 in
theorem var_any (x : Int) (w : World) (h0 : -1000000 ≤ x) (h1 : x ≤ 1000000) :
    Calls Try.prog 40 #[.int .i64 x] w fun e w' => e = .returned (.int .i64 (absI x)) ∧ w = w' := by
  go_enter Try.func40, Try.ntmps40
  go_wp2
  all_goals go_ret
  all_goals exact ⟨ret_int (by unfold absI; split <;> omega), rfl⟩

set_option maxHeartbeats 400000 in
theorem bad1_any (y x : Int) (B : Nat) (w : World) (hc : w.cell? ⟨B, 0, none⟩ = some (.int .i64 x)) (h0 : -1000000 ≤ x) (h1 : x ≤ 1000000) (h2 : -1000000 ≤ y) (h3 : y ≤ 1000000) :
    Calls Try.prog 39 #[.int .i64 y, .pointer (some ⟨B, 0, none⟩)] w fun e w' => e = .returned (.bool (sameVar x y)) ∧ Below w.heap.size w w' := by
  go_enter Try.func39, Try.ntmps39
  go_wp2_with fail
  go_quiet ((go_at_call 40; exact quiet_eq (var_any _ _ (by omega) (by omega))))
  go_wp2
  go_ret
  refine ⟨ret_bool ?_, below_drewN (Below.refl _ _) _⟩
  rw [Bool.eq_iff_iff]
  simp [sameVar, absI]
  omega

theorem bad1_pred (x : Int) (B : Nat) (xs : List Int) (w : World) (hB : B < w.heap.size) (hc : w.cell? ⟨B, 0, none⟩ = some (.int .i64 x)) (h0 : -1000000 ≤ x) (h1 : x ≤ 1000000) (hx : ∀ y ∈ xs, -1000000 ≤ y ∧ y ≤ 1000000) :
    PredOn Try.prog 39 #[.pointer (some ⟨B, 0, none⟩)] (sameVar x) xs w := fun W y hy hb =>
  (bad1_any y x B W ((hb.cell (p := ⟨B, 0, none⟩) hB).trans hc) h0 h1 (hx y hy).1 (hx y hy).2).mono fun _ _ ⟨he, hb'⟩ => ⟨he, hb.trans (hb'.mono hb.size)⟩
set_option maxHeartbeats 1000000 in
theorem bad_any (vars : Int) (A : Option Addr) (n c : Nat) (xs : List Int) (ri rc : Int) (w : World) (hxs : IntsB w w.heap.size A n xs) (hnc : n ≤ c) (hn : n ≤ 1000) (h0 : 0 ≤ vars) (h1 : vars ≤ 120)
    (hR : badL vars [] xs 0 = (ri, rc)) :
    Calls Try.prog 24 #[.slice A n c, .int .i64 vars] w fun e w' => e = .returned (.tuple #[.int .i64 ri, .int .i64 rc]) ∧ Below w.heap.size w w' := by
  have HR := Lib.hid hR
  have EG := Lib.hid (show ∀ args w, (callFunc 39 args).run Try.prog w = .ok (.enter 39 args) w from enters_of Try.func39 (by kernel_rfl) rfl)
  clear hR
  go_enter Try.func24, Try.ntmps24
  go_wp2_with fail
  go_loopw [10] (fun s wr => ∃ k : Nat, k ≤ n ∧ s = .int .i64 k ∧ Hid (badL vars (xs.take k) (xs.drop k) k = (ri, rc)) ∧ Hid (∀ y ∈ xs.take k, -vars ≤ y ∧ y ≤ vars) ∧ Below w.heap.size w wr) (fun s _ => n - (intOf s).toNat)
  case atStart => exact ⟨0, Nat.zero_le _, rfl, HR, (fun y hy => by simp at hy), Below.refl _ _⟩
  case round =>
    obtain ⟨k, hk, rfl, HK, HA, hbel⟩ := hrel
    have hz := hbel.size
    by_cases hlt : k < n
    · obtain ⟨b, off, hx, rfl, hb, hcell, hlo, hhi⟩ := ints_get (hxs.below stays_int hbel (Nat.le_refl _)) hlt
      have e1 := HK.out
      have hts := take_snoc_l hx
      rw [drop_cons hx, badL] at e1
      generalize xs[k] = y at e1 hts hlo hhi hcell
      have HT := Lib.hid hts
      clear hts HK HR
      by_cases hbad : litBad vars y = true
      · rw [if_pos hbad] at e1
        simp only [Prod.mk.injEq] at e1
        obtain ⟨rfl, rfl⟩ := e1
        have hb3 : y = 0 ∨ y < -vars ∨ vars < y := by simpa [litBad] using hbad
        clear hbad
        rcases (by omega : y = 0 ∨ (¬ y = 0 ∧ y < -vars) ∨ (¬ y = 0 ∧ ¬ y < -vars ∧ vars < y)) with hy | ⟨hy, hy2⟩ | ⟨hy, hy2, hy3⟩
        · have hq : (y == 0) = true := by simpa using hy
          clear hy hb3
          go_wp2_with fail
          go_ret2
          exact ⟨rfl, hbel.alloc hz _⟩
        · have hq : (y == 0) = false := by simpa using hy
          clear hy hb3
          go_wp2_with fail
          go_ret2
          exact ⟨rfl, hbel.alloc hz _⟩
        · have hq : (y == 0) = false := by simpa using hy
          clear hy hb3
          go_wp2_with fail
          go_ret2
          exact ⟨rfl, hbel.alloc hz _⟩
      · rw [if_neg hbad] at e1
        have hy : ¬ (y = 0 ∨ y < -vars ∨ vars < y) := by simpa [litBad] using hbad
        have hq : (y == 0) = false := by rw [beq_eq_false_iff_ne]; omega
        have hy2 : ¬ y < -vars := by omega
        have hy3 : ¬ vars < y := by omega
        have har : IntsB (wr.alloc (.cells #[.int .i64 y] 3)) (wr.heap.size + 1) (some ⟨b, off, none⟩) k (xs.take k) := Arr.take (hxs.below stays_int (hbel.alloc hz _) (by omega)) (Nat.le_of_lt hlt)
        have hal : ∀ y ∈ xs.take (k + 1), -vars ≤ y ∧ y ≤ vars := by
          rw [HT.out]
          intro z hz
          rcases List.mem_append.1 hz with h | h
          · exact HA.out z h
          · obtain rfl : z = y := by simpa using h
            omega
        have HC := Lib.hid (fun R hR => containsInts_any 39 #[.pointer (some ⟨wr.heap.size, 0, none⟩)] EG.out (sameVar y) (some ⟨b, off, none⟩) k c (xs.take k) R (wr.alloc (.cells #[.int .i64 y] 3)) (by simpa using har) (by omega)
          (bad1_pred y wr.heap.size (xs.take k) _ (by simp) (by simp) (by omega) (by omega) (fun z hz => by have := HA.out z hz; omega)) hR)
        have HL := Lib.hid hal
        clear har hal hbad hy HA
        by_cases hany : (xs.take k).any (sameVar y) = true
        · rw [if_pos hany] at e1
          simp only [Prod.mk.injEq] at e1
          obtain ⟨rfl, rfl⟩ := e1
          have HN := Lib.hid hany
          clear hany
          go_wp2_with fail
          refine (HC.out true HN.out).mono ?_
          rintro e w' ⟨rfl, hb'⟩
          go_wp2_with fail
          go_ret2
          exact ⟨rfl, (hbel.alloc hz _).trans (hb'.mono (by simp; omega))⟩
        · rw [if_neg hany] at e1
          have HN := Lib.hid (show (xs.take k).any (sameVar y) = false by simpa using hany)
          have H1 := Lib.hid e1
          clear hany e1
          go_wp2_with fail
          refine (HC.out false HN.out).mono ?_
          rintro e w' ⟨rfl, hb'⟩
          go_wp2_with fail
          go_roundw
          case rel => exact ⟨k + 1, by omega, by go_num, by show _ = _; rw [HT.out, Int.natCast_add]; exact H1.out, HL, (hbel.alloc hz _).trans (hb'.mono (by simp; omega))⟩
          case measure => simp [intOf]; omega
    · obtain rfl : k = n := by omega
      have e1 := HK.out
      rw [List.drop_of_length_le (by have := hxs.len; omega), badL] at e1
      simp only [Prod.mk.injEq] at e1
      obtain ⟨rfl, rfl⟩ := e1
      clear HK HA HR
      go_wp2_with fail
      go_ret2
      exact ⟨rfl, hbel⟩
end Go.Proofs.Ytdncchlfeanlmaa
namespace Go.Proofs.Ytdncchlfeanlmaa
open Go.RowKit

set_option maxHeartbeats 1000000 in
theorem cnfCheck_any (vars : Int) (A : Option Addr) (n c : Nat) (xs : List (List Int)) (qc qa : Int) (w : World) (hxs : ArrB (AtArr AtInt 1) 1 w w.heap.size A n xs) (h0 : 0 ≤ vars) (h1 : vars ≤ 120) (hn : n ≤ maxLen)
    (hR : cnfF vars xs = (qc, qa)) :
    Calls Try.prog 12 #[.agg #[.int .i64 vars, .slice A n c]] w fun e w' => e = .returned (.agg #[.int .i64 qc, .int .i64 qa]) ∧ Below w.heap.size w w' := by
  unfold maxLen at hn
  have hlen := hxs.len
  rw [cnfF, hlen] at hR
  by_cases hmany : 400 < n
  · rw [if_pos hmany] at hR
    simp only [Prod.mk.injEq] at hR
    obtain ⟨rfl, rfl⟩ := hR
    clear hxs hlen
    go_enter Try.func12, Try.ntmps12
    go_wp2_with fail
    refine bodyPost_ret (v := .agg #[.int .i64 2, .int .i64 0]) (by simp [results, Try.results12, go_sem]) rfl ⟨rfl, ?_⟩
    exact ((Below.refl _ _).alloc (Nat.le_refl _) _).alloc (by simp) _
  · rw [if_neg hmany] at hR
    have HR := Lib.hid hR
    have HL := Lib.hid hlen
    clear hR hlen
    go_enter Try.func12, Try.ntmps12
    go_wp2_with fail
    go_loopw [26] (fun s wr => ∃ k : Nat, k ≤ n ∧ s = .int .i64 k ∧ Hid (firstBad (fun x _ => clauseCode vars x) (xs.drop k) k = (qc, qa)) ∧ Below w.heap.size w wr ∧ Blk wr w.heap.size 53 #[.int .i64 vars, .slice A n c] ∧ Blk wr (w.heap.size + 1) 29 #[.int .i64 0, .int .i64 0]) (fun s _ => n - (intOf s).toNat)
    case atStart => exact ⟨0, Nat.zero_le _, rfl, HR, ((Below.refl _ _).alloc (Nat.le_refl _) _).alloc (by simp) _, (Blk.new _ _ _).alloc _, by have := Blk.new (w.alloc (.cells #[.int .i64 vars, .slice A n c] 53)) 29 #[.int .i64 0, .int .i64 0]; rwa [World.size_alloc] at this⟩
    case round =>
      obtain ⟨k, hk, rfl, HK, hbel, hbk, hbf⟩ := hrel
      have hz2 : w.heap.size + 1 < wr.heap.size := hbf.lt
      have hz : w.heap.size < wr.heap.size := by omega
      have c0 : wr.cell? ⟨w.heap.size, 0, none⟩ = some (.int .i64 vars) := hbk.cell 0
      have c1 : wr.cell? ⟨w.heap.size, 1, none⟩ = some (.slice A n c) := hbk.cell 1
      have d0 : wr.cell? ⟨w.heap.size + 1, 0, none⟩ = some (.int .i64 0) := hbf.cell 0
      have d1 : wr.cell? ⟨w.heap.size + 1, 1, none⟩ = some (.int .i64 0) := hbf.cell 1
      have y0 : wr.frozen? ⟨w.heap.size + 1, 0, none⟩ = false := hbf.frozen 0
      have y1 : wr.frozen? ⟨w.heap.size + 1, 1, none⟩ = false := hbf.frozen 1
      by_cases hlt : k < n
      · obtain ⟨b, off, hx, A', n', c', rfl, hb, hcell, hnc, hcm, har⟩ := arrs_get (hxs.below (stays_arr stays_int) hbel (Nat.le_refl _)) hlt
        unfold maxLen at hcm
        have e1 := HK.out
        rw [drop_cons hx, firstBad, clauseCode] at e1
        have hl2 := har.len
        generalize xs[k] = y at e1 har hl2
        rw [hl2] at e1
        have H2 := Lib.hid hl2
        clear hl2 HK HR hxs
        by_cases hw : 24 < n'
        · rw [if_pos hw, if_neg (by omega)] at e1
          simp only [Prod.mk.injEq] at e1
          obtain ⟨rfl, rfl⟩ := e1
          go_wp2_with fail
          refine bodyPost_ret (v := .agg #[.int .i64 2, .int .i64 k]) (by simp [results, Try.results12, go_sem, d0, d1]) rfl ⟨rfl, ?_⟩
          exact (hbel.setCell (p := ⟨w.heap.size + 1, 0, none⟩) (by simp) _).setCell (p := ⟨w.heap.size + 1, 1, none⟩) (by simp) _
        · rw [if_neg hw] at e1
          rcases hbd : badL vars [] y 0 with ⟨bi, bc⟩
          rw [hbd] at e1
          have HC := Lib.hid (bad_any vars A' n' c' y bi bc wr (har.below stays_int (Below.refl _ _) (by omega)) hnc (by omega) h0 h1 hbd)
          clear hbd har
          by_cases hbc : bc = 0
          · subst hbc
            have H1 := Lib.hid (show firstBad (fun x _ => clauseCode vars x) (xs.drop (k + 1)) ((k : Int) + 1) = (qc, qa) from e1)
            clear e1
            go_wp2_with fail
            refine HC.out.mono ?_
            rintro e w' ⟨rfl, hb'⟩
            go_wp2_with fail
            go_roundw
            case rel => exact ⟨k + 1, by omega, by go_num, by show _ = _; rw [Int.natCast_add]; exact H1.out, hbel.trans (hb'.mono (by omega)), hbk.below hb' hz, hbf.below hb' hz2⟩
            case measure => simp [intOf]; omega
          · rw [if_neg hbc] at e1
            simp only [Prod.mk.injEq] at e1
            obtain ⟨rfl, rfl⟩ := e1
            have hq : (bc != 0) = true := by simpa using hbc
            clear hbc
            go_wp2_with fail
            refine HC.out.mono ?_
            rintro e w' ⟨rfl, hb'⟩
            have hz2' : w.heap.size + 1 < w'.heap.size := by have := hb'.size; omega
            have hbf' := hbf.below hb' hz2
            have d0' : w'.cell? ⟨w.heap.size + 1, 0, none⟩ = some (.int .i64 0) := hbf'.cell 0
            have d1' : w'.cell? ⟨w.heap.size + 1, 1, none⟩ = some (.int .i64 0) := hbf'.cell 1
            have y0' : w'.frozen? ⟨w.heap.size + 1, 0, none⟩ = false := hbf'.frozen 0
            have y1' : w'.frozen? ⟨w.heap.size + 1, 1, none⟩ = false := hbf'.frozen 1
            have hbel' : Below w.heap.size w w' := hbel.trans (hb'.mono (by omega))
            clear hb' hbf' d0 d1 y0 y1
            go_wp2_with fail
            refine bodyPost_ret (v := .agg #[.int .i64 bc, .int .i64 k]) (by simp [results, Try.results12, go_sem, d0', d1']) rfl ⟨rfl, ?_⟩
            exact (hbel'.setCell (p := ⟨w.heap.size + 1, 0, none⟩) (by simp) _).setCell (p := ⟨w.heap.size + 1, 1, none⟩) (by simp) _
      · obtain rfl : k = n := by omega
        have e1 := HK.out
        rw [List.drop_of_length_le (by have := HL.out; omega), firstBad] at e1
        simp only [Prod.mk.injEq] at e1
        obtain ⟨rfl, rfl⟩ := e1
        clear HK HR hxs
        go_wp2_with fail
        refine bodyPost_ret (v := .agg #[.int .i64 0, .int .i64 0]) (by simp [results, Try.results12, go_sem, d0, d1]) rfl ⟨rfl, ?_⟩
        exact (hbel.setCell (p := ⟨w.heap.size + 1, 0, none⟩) (by simp) _).setCell (p := ⟨w.heap.size + 1, 1, none⟩) (by simp) _
end Go.Proofs.Ytdncchlfeanlmaa
