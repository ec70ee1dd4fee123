/- Walk: the reference's fault of a declaration. -/
import Derived.Test.YtggkfepifnfdoaaAskC
namespace Go.Proofs.Ytggkfepifnfdoaa
open Go.RowKit

theorem idx_lt {α : Type} {p : α → Bool} : ∀ {l : List α} {k : Nat} {x : α} {i : Int}, l[k]? = some x → p x = true → (decide (idx p l i < i + k) = (l.take k).any p) ∧ i ≤ idx p l i
  | [], _, _, _, h, _ => by simp at h
  | y :: r, 0, x, i, h, hp => by
    simp only [List.getElem?_cons_zero, Option.some.injEq] at h
    subst h
    simp [idx, hp]
  | y :: r, k + 1, x, i, h, hp => by
    have ih := idx_lt (l := r) (k := k) (i := i + 1) (by simpa using h) hp
    rw [idx]
    cases hy : p y with
    | true => simp [hy]; omega
    | false =>
      simp only [Bool.false_eq_true, if_false, List.take_succ_cons, List.any_cons, hy, Bool.false_or]
      refine ⟨?_, by omega⟩
      rw [← ih.1, show i + ((k + 1 : Nat) : Int) = i + 1 + (k : Int) from by omega]
theorem wbits_zero {s : Int} : wbits s = 0 ↔ wordB s = false := by
  unfold wbits wordB
  by_cases h : 10 < s ∧ s ≤ 18
  · simp [h]; omega
  · simp [h]
theorem goodName_is (s : ByteArray) (b : Bool) (h : nameB s = b) (hs : s.size ≤ 9223372036854775807) (w : World) : Calls Try.prog 63 #[.string s] w fun e w' => e = .returned (.bool b) ∧ w = w' := by
  subst h; exact goodName_any s w hs
theorem wordBits_is (n : Int) (b : Int) (h : wbits n = b) (w : World) : Calls Try.prog 48 #[.int .i64 n] w fun e w' => e = .returned (.int .i64 b) ∧ w = w' := by
  subst h; exact wordBits_any n w

set_option maxRecDepth 100000 in
set_option maxHeartbeats 4000000 in
theorem declFault_any (A : Option Addr) (n c : Nat) (xs : List DeclD) (k : Nat) (hk : k < n) (R : Int) (w : World) (hxs : ArrB AtDecl 3 w w.heap.size A n xs) (hn : n ≤ 9223372036854775807) (hR : ∀ d, xs[k]? = some d → declCode xs d k = R) :
    Calls Try.prog 36 #[.slice A n c, .int .i64 k] w fun e w' => e = .returned (.int .i64 R) ∧ Below w.heap.size w w' := by
  obtain ⟨b, off, hx, A', n', c', rfl, hb, h0, h1, h2, hnc', hcm', har, hso, hnm⟩ := decls_get hxs hk
  have hR1 := hR _ (List.getElem?_eq_getElem hx)
  have hget := List.getElem?_eq_getElem hx
  generalize xs[k] = d at hR1 hget h0 h2 har hso hnm
  obtain ⟨nm, ar, so⟩ := d
  simp only at h0 h2 har hso hnm
  have hal := har.len
  unfold maxLen at hnm hcm'
  have hi := idx_lt (p := nameIs nm) (i := 0) hget (by simp [nameIs])
  have hix : decide (idx (nameIs nm) xs 0 < (k : Int)) = (xs.take k).any (nameIs nm) := by simpa using hi.1
  have hi0 := hi.2
  have hbel : Below w.heap.size w (w.alloc (.cells #[.string nm, .slice A' n' c', .int .i64 so] 83)) := (Below.refl _ _).alloc (Nat.le_refl _) _
  have HB := Lib.hid hbel
  have hxk := hxs.below stays_decl hbel (Nat.le_refl w.heap.size)
  have HD0 := Lib.hid (fun r (hr : idx (nameIs nm) xs 0 = r) => declOf_any (some ⟨b, off, none⟩) n c nm xs r (w.alloc (.cells #[.string nm, .slice A' n' c', .int .i64 so] 83)) _ hxk hn hr)
  have harB := har.below stays_int hbel (Nat.le_refl w.heap.size)
  have HAR := Lib.hid harB
  have hki : (k : Int) < (n : Int) := by omega
  have hz : w.heap.size < (w.alloc (.cells #[.string nm, .slice A' n' c', .int .i64 so] 83)).heap.size := by simp
  have hcode : declCode xs ⟨nm, ar, so⟩ k = if nameB nm = false then 12 else if decide (idx (nameIs nm) xs 0 < (k : Int)) = true then 7 else if 8 < ar.length then 9 else if sortB so = false ∨ ar.any notThing = true ∨ (so = 5 ∧ 0 < ar.length) then 4 else 0 := by
    rw [declCode, hix]; rfl
  rw [hR1] at hcode
  generalize idx (nameIs nm) xs 0 = ix at hcode HD0 hi0
  have HD := Lib.hid (HD0.out _ rfl)
  clear hR hR1 hget hi hix hxs hxk hbel har harB hx hb HD0
  cases hq1 : nameB nm with
  | false =>
    have HR : Hid ((12 : Int) = R) := by show _ = _; rw [hcode, if_pos hq1]
    have HC1 := Lib.hid (fun W => goodName_is nm false hq1 hnm W)
    clear hcode hq1
    go_enter Try.func36, Try.ntmps36
    go_wp2_with (first | (go_at_call 63; refine (HC1.out _).mono ?_; rintro e w' ⟨rfl, rfl⟩) | (go_at_call 37; refine HD.out.mono ?_; rintro e w' ⟨rfl, rfl⟩) | (go_at_call 48; refine (HWB.out _).mono ?_; rintro e w' ⟨rfl, rfl⟩))
    go_ret
    exact ⟨ret_int HR.out, HB.out⟩
  | true =>
    rw [if_neg (by simp [hq1])] at hcode
    have HC1 := Lib.hid (fun W => goodName_is nm true hq1 hnm W)
    clear hq1
    by_cases hlt : ix < (k : Int)
    · have HR : Hid ((7 : Int) = R) := by show _ = _; rw [hcode, if_pos (by simpa using hlt)]
      clear hcode
      go_enter Try.func36, Try.ntmps36
      go_wp2_with (first | (go_at_call 63; refine (HC1.out _).mono ?_; rintro e w' ⟨rfl, rfl⟩) | (go_at_call 37; refine HD.out.mono ?_; rintro e w' ⟨rfl, rfl⟩) | (go_at_call 48; refine (HWB.out _).mono ?_; rintro e w' ⟨rfl, rfl⟩))
      go_ret
      exact ⟨ret_int HR.out, HB.out⟩
    rw [if_neg (by simpa using hlt)] at hcode
    by_cases h8 : 8 < n'
    · have HR : Hid ((9 : Int) = R) := by show _ = _; rw [hcode, if_pos (by omega)]
      have h8I : (n' : Int) > 8 := by omega
      clear hcode
      go_enter Try.func36, Try.ntmps36
      go_wp2_with (first | (go_at_call 63; refine (HC1.out _).mono ?_; rintro e w' ⟨rfl, rfl⟩) | (go_at_call 37; refine HD.out.mono ?_; rintro e w' ⟨rfl, rfl⟩) | (go_at_call 48; refine (HWB.out _).mono ?_; rintro e w' ⟨rfl, rfl⟩))
      go_ret
      exact ⟨ret_int HR.out, HB.out⟩
    rw [if_neg (by omega)] at hcode
    have h8I : ¬ ((n' : Int) > 8) := by omega
    have hbad : (sortB so = false ∨ ar.any notThing = true ∨ (so = 5 ∧ 0 < ar.length)) → (4 : Int) = R := fun h => by rw [hcode, if_pos h]
    have hgood : ¬ (sortB so = false ∨ ar.any notThing = true ∨ (so = 5 ∧ 0 < ar.length)) → (0 : Int) = R := fun h => by rw [hcode, if_neg h]
    clear hcode
    cases hq3 : sortB so with
    | false =>
      have HR := Lib.hid (hbad (.inl hq3))
      have hs : so < 1 ∨ (1 ≤ so ∧ 5 < so) := by simp [sortB] at hq3; omega
      have hw0 : wordB so = false := by simp [sortB] at hq3; simp [wordB]; omega
      have HWB := Lib.hid (fun W => wordBits_is so 0 (wbits_zero.2 hw0) W)
      clear hbad hgood hq3 hw0
      rcases hs with hs | ⟨hs, hs2⟩
      all_goals
        go_enter Try.func36, Try.ntmps36
        go_wp2_with (first | (go_at_call 63; refine (HC1.out _).mono ?_; rintro e w' ⟨rfl, rfl⟩) | (go_at_call 37; refine HD.out.mono ?_; rintro e w' ⟨rfl, rfl⟩) | (go_at_call 48; refine (HWB.out _).mono ?_; rintro e w' ⟨rfl, rfl⟩))
        go_ret
        exact ⟨ret_int HR.out, HB.out⟩
    | true =>
      by_cases h5 : so = 5 ∧ 0 < n'
      · have HR := Lib.hid (hbad (.inr (.inr ⟨h5.1, by omega⟩)))
        have q5 : (so == 5) = true := by simpa using h5.1
        have hs1 : 1 ≤ so := by omega
        have hs2 : so ≤ 5 := by omega
        have hn1 : (n' : Int) > 0 := by omega
        have HWB := Lib.hid (fun W => wordBits_is so 0 (wbits_zero.2 (by simp [wordB]; omega)) W)
        clear hbad hgood hq3 h5
        go_enter Try.func36, Try.ntmps36
        go_wp2_with (first | (go_at_call 63; refine (HC1.out _).mono ?_; rintro e w' ⟨rfl, rfl⟩) | (go_at_call 37; refine HD.out.mono ?_; rintro e w' ⟨rfl, rfl⟩) | (go_at_call 48; refine (HWB.out _).mono ?_; rintro e w' ⟨rfl, rfl⟩))
        go_ret
        exact ⟨ret_int HR.out, HB.out⟩
      · have HR4 : Hid (ar.any notThing = true → (4 : Int) = R) := fun h => hbad (.inr (.inl h))
        have HR0 : Hid (ar.any notThing = false → (0 : Int) = R) := fun h => hgood (fun hh => hh.elim (fun a => by rw [hq3] at a; cases a) (fun hh => hh.elim (fun a => by rw [h] at a; cases a) (fun a => h5 ⟨a.1, by omega⟩)))
        have hq : (∃ v, wbits so = v ∧ (v == 0) = false ∧ (so == 5) = false) ∨ (wbits so = 0 ∧ 1 ≤ so ∧ so ≤ 5 ∧ (so == 5) = false) ∨ (wbits so = 0 ∧ 1 ≤ so ∧ so ≤ 5 ∧ (so == 5) = true ∧ ¬ ((n' : Int) > 0)) := by
          simp only [sortB, decide_eq_true_eq] at hq3
          rcases hq3 with hq3 | hq3
          · have hw : wbits so = 0 := wbits_zero.2 (by simp [wordB]; omega)
            by_cases hs : so = 5
            · exact .inr (.inr ⟨hw, hq3.1, hq3.2, by simpa using hs, by omega⟩)
            · exact .inr (.inl ⟨hw, hq3.1, hq3.2, by simpa using hs⟩)
          · exact .inl ⟨_, rfl, by rw [wbits, if_pos (by simp [wordB, hq3]), beq_eq_false_iff_ne]; omega, by rw [beq_eq_false_iff_ne]; omega⟩
        clear hbad hgood hq3 h5
        rcases hq with ⟨v, hv, hv0, q5⟩ | ⟨hv, hs1, hs2, q5⟩ | ⟨hv, hs1, hs2, q5, hn1⟩
        ·
          have HWB := Lib.hid (fun W => wordBits_is so _ hv W)
          clear hv
          go_enter Try.func36, Try.ntmps36
          go_wp2_with (first | (go_at_call 63; refine (HC1.out _).mono ?_; rintro e w' ⟨rfl, rfl⟩) | (go_at_call 37; refine HD.out.mono ?_; rintro e w' ⟨rfl, rfl⟩) | (go_at_call 48; refine (HWB.out _).mono ?_; rintro e w' ⟨rfl, rfl⟩))
          have m1 : (w.alloc (.cells #[.string nm, .slice A' n' c', .int .i64 so] 83)).cell? ⟨w.heap.size, 1, none⟩ = some (.slice A' n' c') := (Blk.new w 83 #[.string nm, .slice A' n' c', .int .i64 so]).cell 1
          clear HD HWB HC1
          generalize w.alloc (.cells #[.string nm, .slice A' n' c', .int .i64 so] 83) = W at HAR HB m1 hz ⊢
          go_loop [6] (fun i => ∃ j : Nat, j ≤ n' ∧ i = .int .i64 j ∧ Hid ((ar.drop j).any notThing = ar.any notThing)) (fun i => n' - (intOf i).toNat)
          case atStart => exact ⟨0, Nat.zero_le _, rfl, rfl⟩
          case round =>
            obtain ⟨j, hj, rfl, HK⟩ := hrel
            by_cases hjn : j < n'
            · obtain ⟨b3, off3, hx3, rfl, hb3, hc3, -, -⟩ := ints_get HAR.out hjn
              have e1 := HK.out
              rw [drop_cons hx3, List.any_cons] at e1
              generalize ar[j] = y at e1 hc3
              have hjI : (j : Int) < (n' : Int) := by omega
              cases hy : notThing y with
              | true =>
                rw [hy, Bool.true_or] at e1
                have HR := Lib.hid (HR4.out e1.symm)
                have hy2 : (y != 4) = true := hy
                clear e1 hy HK hx3 hb3
                go_wp2_with fail
                go_ret
                exact ⟨ret_int HR.out, HB.out⟩
              | false =>
                rw [hy, Bool.false_or] at e1
                have H1 := Lib.hid e1
                have hy2 : (y != 4) = false := hy
                clear e1 hy HK hx3 hb3
                go_wp2_with fail
                go_round
                case rel => exact ⟨j + 1, by omega, by go_num, H1⟩
                case measure => simp [intOf]; omega
            · obtain rfl : n' = j := by omega
              have e1 := HK.out
              rw [List.drop_of_length_le (by omega), List.any_nil] at e1
              have HR := Lib.hid (HR0.out e1.symm)
              clear e1 HK
              go_wp2_with fail
              go_ret
              exact ⟨ret_int HR.out, HB.out⟩
        ·
          have HWB := Lib.hid (fun W => wordBits_is so _ hv W)
          clear hv
          go_enter Try.func36, Try.ntmps36
          go_wp2_with (first | (go_at_call 63; refine (HC1.out _).mono ?_; rintro e w' ⟨rfl, rfl⟩) | (go_at_call 37; refine HD.out.mono ?_; rintro e w' ⟨rfl, rfl⟩) | (go_at_call 48; refine (HWB.out _).mono ?_; rintro e w' ⟨rfl, rfl⟩))
          have m1 : (w.alloc (.cells #[.string nm, .slice A' n' c', .int .i64 so] 83)).cell? ⟨w.heap.size, 1, none⟩ = some (.slice A' n' c') := (Blk.new w 83 #[.string nm, .slice A' n' c', .int .i64 so]).cell 1
          clear HD HWB HC1
          generalize w.alloc (.cells #[.string nm, .slice A' n' c', .int .i64 so] 83) = W at HAR HB m1 hz ⊢
          go_loop [6] (fun i => ∃ j : Nat, j ≤ n' ∧ i = .int .i64 j ∧ Hid ((ar.drop j).any notThing = ar.any notThing)) (fun i => n' - (intOf i).toNat)
          case atStart => exact ⟨0, Nat.zero_le _, rfl, rfl⟩
          case round =>
            obtain ⟨j, hj, rfl, HK⟩ := hrel
            by_cases hjn : j < n'
            · obtain ⟨b3, off3, hx3, rfl, hb3, hc3, -, -⟩ := ints_get HAR.out hjn
              have e1 := HK.out
              rw [drop_cons hx3, List.any_cons] at e1
              generalize ar[j] = y at e1 hc3
              have hjI : (j : Int) < (n' : Int) := by omega
              cases hy : notThing y with
              | true =>
                rw [hy, Bool.true_or] at e1
                have HR := Lib.hid (HR4.out e1.symm)
                have hy2 : (y != 4) = true := hy
                clear e1 hy HK hx3 hb3
                go_wp2_with fail
                go_ret
                exact ⟨ret_int HR.out, HB.out⟩
              | false =>
                rw [hy, Bool.false_or] at e1
                have H1 := Lib.hid e1
                have hy2 : (y != 4) = false := hy
                clear e1 hy HK hx3 hb3
                go_wp2_with fail
                go_round
                case rel => exact ⟨j + 1, by omega, by go_num, H1⟩
                case measure => simp [intOf]; omega
            · obtain rfl : n' = j := by omega
              have e1 := HK.out
              rw [List.drop_of_length_le (by omega), List.any_nil] at e1
              have HR := Lib.hid (HR0.out e1.symm)
              clear e1 HK
              go_wp2_with fail
              go_ret
              exact ⟨ret_int HR.out, HB.out⟩
        ·
          have HWB := Lib.hid (fun W => wordBits_is so _ hv W)
          clear hv
          go_enter Try.func36, Try.ntmps36
          go_wp2_with (first | (go_at_call 63; refine (HC1.out _).mono ?_; rintro e w' ⟨rfl, rfl⟩) | (go_at_call 37; refine HD.out.mono ?_; rintro e w' ⟨rfl, rfl⟩) | (go_at_call 48; refine (HWB.out _).mono ?_; rintro e w' ⟨rfl, rfl⟩))
          have m1 : (w.alloc (.cells #[.string nm, .slice A' n' c', .int .i64 so] 83)).cell? ⟨w.heap.size, 1, none⟩ = some (.slice A' n' c') := (Blk.new w 83 #[.string nm, .slice A' n' c', .int .i64 so]).cell 1
          clear HD HWB HC1
          generalize w.alloc (.cells #[.string nm, .slice A' n' c', .int .i64 so] 83) = W at HAR HB m1 hz ⊢
          go_loop [6] (fun i => ∃ j : Nat, j ≤ n' ∧ i = .int .i64 j ∧ Hid ((ar.drop j).any notThing = ar.any notThing)) (fun i => n' - (intOf i).toNat)
          case atStart => exact ⟨0, Nat.zero_le _, rfl, rfl⟩
          case round =>
            obtain ⟨j, hj, rfl, HK⟩ := hrel
            obtain rfl : n' = j := by omega
            have e1 := HK.out
            rw [List.drop_of_length_le (by omega), List.any_nil] at e1
            have HR := Lib.hid (HR0.out e1.symm)
            clear e1 HK
            go_wp2_with fail
            go_ret
            exact ⟨ret_int HR.out, HB.out⟩
end Go.Proofs.Ytggkfepifnfdoaa
