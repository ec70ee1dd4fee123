/- Walk: what is wrong with a row: the reference. -/
import Derived.Test.YtpceiifacendfaaRow
namespace Go.Proofs.Ytpceiifacendfaa
open Go.RowKit

/-- the code alone -/
def rowCode (r : RowD) (m : Int) : Int := (rowF r m).1
theorem wholeC_ne {x : Int} (h : ¬ (-1000000 ≤ x ∧ x ≤ 1000000)) : wholeC x = 3 := by simp [wholeC, wholeB, h]
theorem wholeC_eq {x : Int} (h : -1000000 ≤ x ∧ x ≤ 1000000) : wholeC x = 0 := by simp [wholeC, wholeB, h]
theorem first_whole : ∀ (l : List Int) (i : Int), (firstBad (fun x _ => wholeC x) l i).1 = if l.all wholeB then 0 else 3
  | [], i => rfl
  | x :: r, i => by
    have ih := first_whole r (i + 1)
    rw [firstBad]
    by_cases h : -1000000 ≤ x ∧ x ≤ 1000000
    · rw [if_pos (wholeC_eq h), ih]
      simp [wholeB, h]
    · rw [wholeC_ne h, if_neg (by omega)]
      simp [wholeB, h]
theorem rowCode_kind {xs : List Int} {k t m : Int} (h : k < 1 ∨ 3 < k) : rowCode ⟨xs, k, t⟩ m = 4 := by simp [rowCode, rowF, h]
theorem rowCode_size {xs : List Int} {k t m : Int} (h : ¬ (k < 1 ∨ 3 < k)) (h2 : m < xs.length) : rowCode ⟨xs, k, t⟩ m = 9 := by
  simp only [rowCode, rowF]; rw [if_neg h, if_pos h2]
theorem rowCode_rest {xs : List Int} {k t m : Int} (h : ¬ (k < 1 ∨ 3 < k)) (h2 : ¬ m < xs.length) : rowCode ⟨xs, k, t⟩ m = if xs.all wholeB && wholeB t then 0 else 3 := by
  simp only [rowCode, rowF]; rw [if_neg h, if_neg h2, first_whole]; simp

set_option maxRecDepth 100000 in
set_option maxHeartbeats 2000000 in
theorem rowFault_any (A : Option Addr) (n c : Nat) (r : RowD) (m : Int) (R : Int) (w : World) (hxs : IntsB w w.heap.size A n r.of_) (hn : n ≤ maxLen) (h0 : 0 ≤ m) (h1 : m ≤ 12) (hR : rowCode r m = R) :
    Calls Try.prog 23 #[.agg #[.slice A n c, .int .i64 r.kind, .int .i64 r.to_], .int .i64 m] w fun e w' => e = .returned (.int .i64 R) ∧ Below w.heap.size w w' := by
  obtain ⟨xs, kind, tt⟩ := r
  unfold maxLen at hn
  simp only at hxs hR ⊢
  have hlen := hxs.len
  by_cases hk1 : kind < 1
  · rw [rowCode_kind (.inl hk1)] at hR
    subst hR
    clear hxs hlen
    go_enter Try.func23, Try.ntmps23
    go_wp2_with fail
    go_ret
    exact ⟨rfl, (Below.refl _ _).alloc (Nat.le_refl _) _⟩
  by_cases hk2 : 3 < kind
  · rw [rowCode_kind (.inr hk2)] at hR
    subst hR
    clear hxs hlen
    go_enter Try.func23, Try.ntmps23
    go_wp2_with fail
    go_ret
    exact ⟨rfl, (Below.refl _ _).alloc (Nat.le_refl _) _⟩
  by_cases hs : m < n
  · rw [rowCode_size (by omega) (by omega)] at hR
    subst hR
    clear hxs hlen
    go_enter Try.func23, Try.ntmps23
    go_wp2_with fail
    go_ret
    exact ⟨rfl, (Below.refl _ _).alloc (Nat.le_refl _) _⟩
  rw [rowCode_rest (by omega) (by omega)] at hR
  have HR := Lib.hid hR
  have HL := Lib.hid hlen
  have hnm : n ≤ 12 := by omega
  have hbel : Below w.heap.size w (w.alloc (.cells #[.slice A n c, .int .i64 kind, .int .i64 tt] 33)) := (Below.refl _ _).alloc (Nat.le_refl _) _
  have hx1 : IntsB (w.alloc (.cells #[.slice A n c, .int .i64 kind, .int .i64 tt] 33)) w.heap.size A n xs := hxs.alloc stays_int (Nat.le_refl _) _
  have HX := Lib.hid hx1
  have HB := Lib.hid hbel
  clear hR hlen hxs hx1 hbel
  go_enter Try.func23, Try.ntmps23
  go_wp2_with fail
  go_loop [5] (fun s => ∃ k : Nat, k ≤ n ∧ s = .int .i64 k ∧ Hid ((xs.take k).all wholeB = true)) (fun s => n - (intOf s).toNat)
  case atStart => exact ⟨0, Nat.zero_le _, rfl, rfl⟩
  case round =>
    obtain ⟨k, hk, rfl, HK⟩ := hrel
    by_cases hlt : k < n
    · obtain ⟨b, off, hx, rfl, hb, hcell, hlo, hhi⟩ := ints_get HX.out hlt
      have hts := take_snoc_l hx
      have hmem : xs[k] ∈ xs := List.getElem_mem hx
      generalize xs[k] = y at hts hcell hlo hhi hmem
      have hcw : w.cell? ⟨b, off + k, none⟩ = some (.int .i64 y) := by rwa [World.cell?_alloc_lt _ _ _ hb] at hcell
      have HT := Lib.hid hts
      have HM := Lib.hid hmem
      clear hts hmem hcell
      by_cases hq1 : 1000000 < y
      · have e1 : R = 3 := by
          rw [← HR.out, if_neg]
          intro h
          simp only [Bool.and_eq_true, List.all_eq_true] at h
          have := h.1 y HM.out
          simp only [wholeB, decide_eq_true_eq] at this
          omega
        subst e1
        go_wp2_with fail
        go_ret
        exact ⟨rfl, HB.out⟩
      by_cases hq2 : y < -1000000
      · have e1 : R = 3 := by
          rw [← HR.out, if_neg]
          intro h
          simp only [Bool.and_eq_true, List.all_eq_true] at h
          have := h.1 y HM.out
          simp only [wholeB, decide_eq_true_eq] at this
          omega
        subst e1
        go_wp2_with fail
        go_ret
        exact ⟨rfl, HB.out⟩
      go_wp2_with fail
      go_round
      case rel => exact ⟨k + 1, by omega, by go_num, by show _ = _; rw [HT.out, List.all_append, HK.out]; simp [wholeB]; omega⟩
      case measure => simp [intOf]; omega
    · obtain rfl : k = n := by omega
      have e2 := HK.out
      rw [List.take_of_length_le (by have := HL.out; omega)] at e2
      have e3 := HR.out
      rw [e2, Bool.true_and] at e3
      clear HK e2 HR HX
      by_cases hq1 : 1000000 < tt
      · rw [if_neg (by simp [wholeB]; omega)] at e3
        subst e3
        go_wp2_with fail
        go_ret
        exact ⟨rfl, HB.out⟩
      by_cases hq2 : tt < -1000000
      · rw [if_neg (by simp [wholeB]; omega)] at e3
        subst e3
        go_wp2_with fail
        go_ret
        exact ⟨rfl, HB.out⟩
      rw [if_pos (by simp [wholeB]; omega)] at e3
      subst e3
      go_wp2_with fail
      go_ret
      exact ⟨rfl, HB.out⟩
end Go.Proofs.Ytpceiifacendfaa
