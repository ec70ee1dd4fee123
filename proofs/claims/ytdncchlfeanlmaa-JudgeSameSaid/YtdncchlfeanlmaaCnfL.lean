/- Walk: cnf.Bad at literals of whatever length. (printed by genCnfL.py out of XCnf) -/
import Derived.Test.YtdncchlfeanlmaaCnf2
namespace Go.Proofs.Ytdncchlfeanlmaa
open Go.RowKit

theorem vars_few : ∀ (n : Nat) (l : List Nat), (∀ x ∈ l, 1 ≤ x ∧ x ≤ n) → l.Nodup → l.length ≤ n
  | 0, l, h, _ => by
    cases l with
    | nil => simp
    | cons x r => have := h x (List.mem_cons_self ..); omega
  | n + 1, l, h, hd => by
    by_cases hm : (n + 1) ∈ l
    · have h1 := vars_few n (l.erase (n + 1)) (fun x hx => by
        have h2 := h x (List.mem_of_mem_erase hx)
        have h3 : x ≠ n + 1 := (List.Nodup.mem_erase_iff hd).1 hx |>.1
        omega) (hd.erase _)
      rw [List.length_erase_of_mem hm] at h1
      omega
    · have := vars_few n l (fun x hx => by
        have h2 := h x hx
        have h3 : x ≠ n + 1 := fun e => hm (e ▸ hx)
        omega) hd
      omega
set_option maxHeartbeats 1000000 in
theorem badW_any (vars : Int) (A : Option Addr) (n c : Nat) (xs : List Int) (ri rc : Int) (w : World) (hxs : IntsB w w.heap.size A n xs) (hnc : n ≤ c) (hn : n ≤ 9223372036854775807) (h0 : 0 ≤ vars) (h1 : vars ≤ 120)
    (hR : badL vars [] xs 0 = (ri, rc)) :
    Calls Try.prog 24 #[.slice A n c, .int .i64 vars] w fun e w' => e = .returned (.tuple #[.int .i64 ri, .int .i64 rc]) ∧ Below w.heap.size w w' := by
  have HR := Lib.hid hR
  have EG := Lib.hid (show ∀ args w, (callFunc 39 args).run Try.prog w = .ok (.enter 39 args) w from enters_of Try.func39 (by kernel_rfl) rfl)
  clear hR
  go_enter Try.func24, Try.ntmps24
  go_wp2_with fail
  go_loopw [10] (fun s wr => ∃ k : Nat, k ≤ n ∧ s = .int .i64 k ∧ Hid (badL vars (xs.take k) (xs.drop k) k = (ri, rc)) ∧ Hid ((∀ y ∈ xs.take k, ¬ y = 0 ∧ -vars ≤ y ∧ y ≤ vars) ∧ (xs.take k).Pairwise (fun a b => ¬ a.natAbs = b.natAbs)) ∧ Below w.heap.size w wr) (fun s _ => n - (intOf s).toNat)
  case atStart => exact ⟨0, Nat.zero_le _, rfl, HR, ⟨fun y hy => by simp at hy, by simp⟩, Below.refl _ _⟩
  case round =>
    obtain ⟨k, hk, rfl, HK, HA, hbel⟩ := hrel
    have hz := hbel.size
    by_cases hlt : k < n
    · obtain ⟨b, off, hx, rfl, hb, hcell, hlo, hhi⟩ := ints_get (hxs.below stays_int hbel (Nat.le_refl _)) hlt
      have e1 := HK.out
      have hts := take_snoc_l hx
      rw [drop_cons hx, badL] at e1
      generalize xs[k] = y at e1 hts hlo hhi hcell
      have HT := Lib.hid hts
      clear hts HK HR
      by_cases hbad : litBad vars y = true
      · rw [if_pos hbad] at e1
        simp only [Prod.mk.injEq] at e1
        obtain ⟨rfl, rfl⟩ := e1
        have hb3 : y = 0 ∨ y < -vars ∨ vars < y := by simpa [litBad] using hbad
        clear hbad
        rcases (by omega : y = 0 ∨ (¬ y = 0 ∧ y < -vars) ∨ (¬ y = 0 ∧ ¬ y < -vars ∧ vars < y)) with hy | ⟨hy, hy2⟩ | ⟨hy, hy2, hy3⟩
        · have hq : (y == 0) = true := by simpa using hy
          clear hy hb3
          go_wp2_with fail
          go_ret2
          exact ⟨rfl, hbel.alloc hz _⟩
        · have hq : (y == 0) = false := by simpa using hy
          clear hy hb3
          go_wp2_with fail
          go_ret2
          exact ⟨rfl, hbel.alloc hz _⟩
        · have hq : (y == 0) = false := by simpa using hy
          clear hy hb3
          go_wp2_with fail
          go_ret2
          exact ⟨rfl, hbel.alloc hz _⟩
      · rw [if_neg hbad] at e1
        have hy : ¬ (y = 0 ∨ y < -vars ∨ vars < y) := by simpa [litBad] using hbad
        have hq : (y == 0) = false := by rw [beq_eq_false_iff_ne]; omega
        have hy2 : ¬ y < -vars := by omega
        have hy3 : ¬ vars < y := by omega
        have har : IntsB (wr.alloc (.cells #[.int .i64 y] 3)) (wr.heap.size + 1) (some ⟨b, off, none⟩) k (xs.take k) := Arr.take (hxs.below stays_int (hbel.alloc hz _) (by omega)) (Nat.le_of_lt hlt)
        have hk120 : k ≤ 120 := by
          have h4 := vars_few 120 ((xs.take k).map Int.natAbs) (fun x hx => by
            obtain ⟨l, hl, rfl⟩ := List.mem_map.1 hx
            have := HA.out.1 l hl
            omega) (by rw [List.Nodup, List.pairwise_map]; exact HA.out.2)
          rw [List.length_map, List.length_take] at h4
          have := hxs.len
          omega
        have hal : (xs.take k).any (sameVar y) = false → ((∀ z ∈ xs.take (k + 1), ¬ z = 0 ∧ -vars ≤ z ∧ z ≤ vars) ∧ (xs.take (k + 1)).Pairwise (fun a b => ¬ a.natAbs = b.natAbs)) := by
          intro hany
          rw [HT.out]
          refine ⟨fun z hz => ?_, ?_⟩
          · rcases List.mem_append.1 hz with h | h
            · exact HA.out.1 z h
            · obtain rfl : z = y := by simpa using h
              omega
          · rw [List.pairwise_append]
            refine ⟨HA.out.2, List.pairwise_singleton _ _, fun a ha b hb e => ?_⟩
            rw [List.mem_singleton] at hb
            subst hb
            have := List.any_eq_false.1 hany a ha
            simp only [sameVar, decide_eq_true_eq] at this
            omega
        have HC := Lib.hid (fun R hR => containsInts_any 39 #[.pointer (some ⟨wr.heap.size, 0, none⟩)] EG.out (sameVar y) (some ⟨b, off, none⟩) k c (xs.take k) R (wr.alloc (.cells #[.int .i64 y] 3)) (by simpa using har) (by omega)
          (bad1_pred y wr.heap.size (xs.take k) _ (by simp) (by simp) (by omega) (by omega) (fun z hz => by have := HA.out.1 z hz; omega)) hR)
        have HL := Lib.hid hal
        clear har hal hbad hy HA
        by_cases hany : (xs.take k).any (sameVar y) = true
        · rw [if_pos hany] at e1
          simp only [Prod.mk.injEq] at e1
          obtain ⟨rfl, rfl⟩ := e1
          have HN := Lib.hid hany
          clear hany
          go_wp2_with fail
          refine (HC.out true HN.out).mono ?_
          rintro e w' ⟨rfl, hb'⟩
          go_wp2_with fail
          go_ret2
          exact ⟨rfl, (hbel.alloc hz _).trans (hb'.mono (by simp; omega))⟩
        · rw [if_neg hany] at e1
          have HN := Lib.hid (show (xs.take k).any (sameVar y) = false by simpa using hany)
          have H1 := Lib.hid e1
          clear hany e1
          go_wp2_with fail
          refine (HC.out false HN.out).mono ?_
          rintro e w' ⟨rfl, hb'⟩
          go_wp2_with fail
          go_roundw
          case rel => exact ⟨k + 1, by omega, by go_num, by show _ = _; rw [HT.out, Int.natCast_add]; exact H1.out, HL.out HN.out, (hbel.alloc hz _).trans (hb'.mono (by simp; omega))⟩
          case measure => simp [intOf]; omega
    · obtain rfl : k = n := by omega
      have e1 := HK.out
      rw [List.drop_of_length_le (by have := hxs.len; omega), badL] at e1
      simp only [Prod.mk.injEq] at e1
      obtain ⟨rfl, rfl⟩ := e1
      clear HK HA HR
      go_wp2_with fail
      go_ret2
      exact ⟨rfl, hbel⟩
end Go.Proofs.Ytdncchlfeanlmaa
