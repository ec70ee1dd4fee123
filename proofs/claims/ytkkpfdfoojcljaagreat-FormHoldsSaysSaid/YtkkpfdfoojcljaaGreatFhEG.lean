/- The reference's whole numbers of any length: sumOf, lessOf. · The reference's whole numbers of any length: CmpAbs. · The reference's whole numbers of any length: Abs, Neg, Uint64. · The reference's whole numbers of any length: headers that are written with a row that was just made. · The reference's fractions: how they lie in memory; Num, Denom, Sign. -/
import Derived.Test.YtkkpfdfoojcljaaGreatFhAD
import Derived.Test.YtkkpfdfoojcljaaGreatLgLM
import Derived.Test.YtkkpfdfoojcljaaGreatLgOR
import Derived.Test.YtkkpfdfoojcljaaGreatLgIK
namespace Go.Proofs.YtkkpfdfoojcljaaGreat
open Go.RowKit

theorem take_set {l : List Nat} {i y : Nat} (h : i < l.length) : (l.set i y).take (i + 1) = l.take i ++ [y] := by
  rw [List.take_succ_eq_append_getElem (by rw [List.length_set]; exact h), List.getElem_set_self, List.take_set_of_le (Nat.le_refl i)]
set_option maxRecDepth 100000 in
set_option maxHeartbeats 4000000 in
theorem sumOf_any (A : Option Addr) (n c : Nat) (l : List Nat) (A2 : Option Addr) (n2 c2 : Nat) (m : List Nat) (w : World) (h : DigsB w w.heap.size A n l) (h2 : DigsB w w.heap.size A2 n2 m) (hn : n ≤ 100000) (hn2 : n2 ≤ 100000) :
    Calls Tryz.prog 77 #[.slice A n c, .slice A2 n2 c2] w (ValP (valL l + valL m) (max n n2 + 1) w) := by
  have HAB := Lib.hid (And.intro h (And.intro h2 (And.intro h.len h2.len)))
  clear h h2
  by_cases hlt : n < n2
  · have hltI : (n : Int) < (n2 : Int) := by omega
    have hmk := make_u (n2 + 1) (n2 + 1) .i64 .i64 (Nat.le_refl _) (by omega)
    rw [show ((n2 + 1 : Nat) : Int) = (n2 : Int) + 1 by omega] at hmk
    have H0 := Lib.hid (And.intro (own_made w (B := w.heap.size) (l := n2 + 1) (c := n2 + 1) (Nat.le_refl _) (by omega) (by omega)) ((Below.refl w.heap.size w).alloc (Nat.le_refl _) (.cells (zc (n2 + 1)) 110)))
    go_enter Tryz.func77, Tryz.ntmps77
    go_wp2_with fail
    go_loopw [6, 22] (fun s6 s22 wr => ∃ (i k : Nat) (out : List Nat), s22 = .int .i64 (i : Int) ∧ s6 = .int .u64 (k : Int) ∧ i ≤ n2 ∧ k ≤ 1 ∧ Hid (out.length = n2 + 1 ∧ Digs out ∧ valL (out.take i) + 4294967296 ^ i * k = valL (m.take i) + valL (l.take i) ∧ OwnU wr w.heap.size (.slice (some ⟨w.heap.size, 0, none⟩) (n2 + 1) (n2 + 1)) out ∧ Below w.heap.size w wr)) (fun _ s22 _ => n2 - (intOf s22).toNat)
    case atStart => exact ⟨0, 0, List.replicate (n2 + 1) 0, rfl, rfl, by omega, by omega, by simp, digs_zeros _, by simp [valL], H0.out⟩
    case round =>
      clear H0
      obtain ⟨i, k, out, rfl, rfl, hi, hk, HD⟩ := hrel
      obtain ⟨z, hz⟩ : ∃ z, out[i]? = some z := ⟨_, List.getElem?_eq_getElem (by have := HD.out.1; omega)⟩
      have hcell3 := HD.out.2.2.2.1.cell hz
      have hfr3 := HD.out.2.2.2.1.unfrozen i
      have hgl := (HD.out.2.2.2.1.lt w.heap.size rfl).2
      clear hz
      by_cases hil : i < n2
      · have hilI : (i : Int) < (n2 : Int) := by omega
        have hil2 : (i : Int) < (n2 : Int) + 1 := by omega
        obtain ⟨b1, off1, x, hx, ea, hb1, hcell0, hx32⟩ := digs_get HAB.out.2.1 hil
        subst ea
        have hcell := (HD.out.2.2.2.2.cell (p := ⟨b1, off1 + i, none⟩) hb1).trans hcell0
        clear hcell0 hb1
        by_cases hib : i < n
        · have hibI : (i : Int) < (n : Int) := by omega
          obtain ⟨b2, off2, y, hy, eb, hb2, hcell20, hy32⟩ := digs_get HAB.out.1 hib
          subst eb
          have hcell2 := (HD.out.2.2.2.2.cell (p := ⟨b2, off2 + i, none⟩) hb2).trans hcell20
          clear hcell20 hb2
          have hr := plus_round (out := out.take i) (by rw [List.length_take, HD.out.1]; omega) HD.out.2.2.1 hx (.inl hy)
          have HE : ((((k + x + y) % 4294967296 : Nat) : Int) = ((k : Int) + (x : Int) + (y : Int)) % 4294967296) := by omega
          have HE2 : ((((k + x + y) / 4294967296 : Nat) : Int) = ((k : Int) + (x : Int) + (y : Int)) / 4294967296) := by omega
          have HX := Lib.hid (And.intro hr (And.intro HE HE2))
          clear hr hx HE HE2
          go_wp2_with fail
          rw [← HX.out.2.1, ← HX.out.2.2]
          go_roundw
          case rel => exact ⟨i + 1, (k + x + y) / 4294967296, out.set i ((k + x + y) % 4294967296), by go_num, rfl, by omega, by omega, by rw [List.length_set]; exact HD.out.1, HD.out.2.1.set _ (by omega), by rw [take_set (by have := HD.out.1; omega)]; exact HX.out.1, HD.out.2.2.2.1.put HD.out.1.symm _ (by omega), HD.out.2.2.2.2.setCell (Nat.le_refl _) _⟩
          case measure => simp only [intOf]; omega
        · have hibI : ¬ (i : Int) < (n : Int) := by omega
          have hr := plus_round (t := 0) (out := out.take i) (by rw [List.length_take, HD.out.1]; omega) HD.out.2.2.1 hx (.inr ⟨by rw [HAB.out.2.2.1]; omega, rfl⟩)
          have HE : ((((k + x + 0) % 4294967296 : Nat) : Int) = ((k : Int) + (x : Int)) % 4294967296) := by omega
          have HE2 : ((((k + x + 0) / 4294967296 : Nat) : Int) = ((k : Int) + (x : Int)) / 4294967296) := by omega
          have HX := Lib.hid (And.intro hr (And.intro HE HE2))
          clear hr hx HE HE2
          go_wp2_with fail
          rw [← HX.out.2.1, ← HX.out.2.2]
          go_roundw
          case rel => exact ⟨i + 1, (k + x + 0) / 4294967296, out.set i ((k + x + 0) % 4294967296), by go_num, rfl, by omega, by omega, by rw [List.length_set]; exact HD.out.1, HD.out.2.1.set _ (by omega), by rw [take_set (by have := HD.out.1; omega)]; exact HX.out.1, HD.out.2.2.2.1.put HD.out.1.symm _ (by omega), HD.out.2.2.2.2.setCell (Nat.le_refl _) _⟩
          case measure => simp only [intOf]; omega
      · obtain rfl : i = n2 := by omega
        have hlt : (k : Int) % 4294967296 = (k : Int) := by omega
        have hend : valL (out.set i k) = valL l + valL m := by
          have h1 := HD.out.2.2.1
          rw [List.take_of_length_le (l := m) (by rw [HAB.out.2.2.2]; exact Nat.le_refl _), List.take_of_length_le (l := l) (by rw [HAB.out.2.2.1]; omega)] at h1
          have h2 := take_set (l := out) (i := i) (y := k) (by rw [HD.out.1]; omega)
          rw [List.take_of_length_le (by rw [List.length_set, HD.out.1]; exact Nat.le_refl _)] at h2
          rw [h2, val_snoc, List.length_take, HD.out.1, show min i (i + 1) = i by omega, h1]
          all_goals omega
        have HE := Lib.hid hend
        have hil2 : (i : Int) < (i : Int) + 1 := by omega
        clear hend
        go_wp2_with fail
        go_ret
        refine ⟨_, out.set i k, rfl, HD.out.2.2.2.1.put HD.out.1.symm _ (by omega), HE.out, by rw [List.length_set, HD.out.1]; omega, HD.out.2.2.2.2.setCell (Nat.le_refl _) _⟩
  · have hltI : ¬ (n : Int) < (n2 : Int) := by omega
    have hmk := make_u (n + 1) (n + 1) .i64 .i64 (Nat.le_refl _) (by omega)
    rw [show ((n + 1 : Nat) : Int) = (n : Int) + 1 by omega] at hmk
    have H0 := Lib.hid (And.intro (own_made w (B := w.heap.size) (l := n + 1) (c := n + 1) (Nat.le_refl _) (by omega) (by omega)) ((Below.refl w.heap.size w).alloc (Nat.le_refl _) (.cells (zc (n + 1)) 110)))
    go_enter Tryz.func77, Tryz.ntmps77
    go_wp2_with fail
    go_loopw [6, 22] (fun s6 s22 wr => ∃ (i k : Nat) (out : List Nat), s22 = .int .i64 (i : Int) ∧ s6 = .int .u64 (k : Int) ∧ i ≤ n ∧ k ≤ 1 ∧ Hid (out.length = n + 1 ∧ Digs out ∧ valL (out.take i) + 4294967296 ^ i * k = valL (l.take i) + valL (m.take i) ∧ OwnU wr w.heap.size (.slice (some ⟨w.heap.size, 0, none⟩) (n + 1) (n + 1)) out ∧ Below w.heap.size w wr)) (fun _ s22 _ => n - (intOf s22).toNat)
    case atStart => exact ⟨0, 0, List.replicate (n + 1) 0, rfl, rfl, by omega, by omega, by simp, digs_zeros _, by simp [valL], H0.out⟩
    case round =>
      clear H0
      obtain ⟨i, k, out, rfl, rfl, hi, hk, HD⟩ := hrel
      obtain ⟨z, hz⟩ : ∃ z, out[i]? = some z := ⟨_, List.getElem?_eq_getElem (by have := HD.out.1; omega)⟩
      have hcell3 := HD.out.2.2.2.1.cell hz
      have hfr3 := HD.out.2.2.2.1.unfrozen i
      have hgl := (HD.out.2.2.2.1.lt w.heap.size rfl).2
      clear hz
      by_cases hil : i < n
      · have hilI : (i : Int) < (n : Int) := by omega
        have hil2 : (i : Int) < (n : Int) + 1 := by omega
        obtain ⟨b1, off1, x, hx, ea, hb1, hcell0, hx32⟩ := digs_get HAB.out.1 hil
        subst ea
        have hcell := (HD.out.2.2.2.2.cell (p := ⟨b1, off1 + i, none⟩) hb1).trans hcell0
        clear hcell0 hb1
        by_cases hib : i < n2
        · have hibI : (i : Int) < (n2 : Int) := by omega
          obtain ⟨b2, off2, y, hy, eb, hb2, hcell20, hy32⟩ := digs_get HAB.out.2.1 hib
          subst eb
          have hcell2 := (HD.out.2.2.2.2.cell (p := ⟨b2, off2 + i, none⟩) hb2).trans hcell20
          clear hcell20 hb2
          have hr := plus_round (out := out.take i) (by rw [List.length_take, HD.out.1]; omega) HD.out.2.2.1 hx (.inl hy)
          have HE : ((((k + x + y) % 4294967296 : Nat) : Int) = ((k : Int) + (x : Int) + (y : Int)) % 4294967296) := by omega
          have HE2 : ((((k + x + y) / 4294967296 : Nat) : Int) = ((k : Int) + (x : Int) + (y : Int)) / 4294967296) := by omega
          have HX := Lib.hid (And.intro hr (And.intro HE HE2))
          clear hr hx HE HE2
          go_wp2_with fail
          rw [← HX.out.2.1, ← HX.out.2.2]
          go_roundw
          case rel => exact ⟨i + 1, (k + x + y) / 4294967296, out.set i ((k + x + y) % 4294967296), by go_num, rfl, by omega, by omega, by rw [List.length_set]; exact HD.out.1, HD.out.2.1.set _ (by omega), by rw [take_set (by have := HD.out.1; omega)]; exact HX.out.1, HD.out.2.2.2.1.put HD.out.1.symm _ (by omega), HD.out.2.2.2.2.setCell (Nat.le_refl _) _⟩
          case measure => simp only [intOf]; omega
        · have hibI : ¬ (i : Int) < (n2 : Int) := by omega
          have hr := plus_round (t := 0) (out := out.take i) (by rw [List.length_take, HD.out.1]; omega) HD.out.2.2.1 hx (.inr ⟨by rw [HAB.out.2.2.2]; omega, rfl⟩)
          have HE : ((((k + x + 0) % 4294967296 : Nat) : Int) = ((k : Int) + (x : Int)) % 4294967296) := by omega
          have HE2 : ((((k + x + 0) / 4294967296 : Nat) : Int) = ((k : Int) + (x : Int)) / 4294967296) := by omega
          have HX := Lib.hid (And.intro hr (And.intro HE HE2))
          clear hr hx HE HE2
          go_wp2_with fail
          rw [← HX.out.2.1, ← HX.out.2.2]
          go_roundw
          case rel => exact ⟨i + 1, (k + x + 0) / 4294967296, out.set i ((k + x + 0) % 4294967296), by go_num, rfl, by omega, by omega, by rw [List.length_set]; exact HD.out.1, HD.out.2.1.set _ (by omega), by rw [take_set (by have := HD.out.1; omega)]; exact HX.out.1, HD.out.2.2.2.1.put HD.out.1.symm _ (by omega), HD.out.2.2.2.2.setCell (Nat.le_refl _) _⟩
          case measure => simp only [intOf]; omega
      · obtain rfl : i = n := by omega
        have hlt : (k : Int) % 4294967296 = (k : Int) := by omega
        have hend : valL (out.set i k) = valL l + valL m := by
          have h1 := HD.out.2.2.1
          rw [List.take_of_length_le (l := l) (by rw [HAB.out.2.2.1]; exact Nat.le_refl _), List.take_of_length_le (l := m) (by rw [HAB.out.2.2.2]; omega)] at h1
          have h2 := take_set (l := out) (i := i) (y := k) (by rw [HD.out.1]; omega)
          rw [List.take_of_length_le (by rw [List.length_set, HD.out.1]; exact Nat.le_refl _)] at h2
          rw [h2, val_snoc, List.length_take, HD.out.1, show min i (i + 1) = i by omega, h1]
          all_goals omega
        have HE := Lib.hid hend
        have hil2 : (i : Int) < (i : Int) + 1 := by omega
        clear hend
        go_wp2_with fail
        go_ret
        refine ⟨_, out.set i k, rfl, HD.out.2.2.2.1.put HD.out.1.symm _ (by omega), HE.out, by rw [List.length_set, HD.out.1]; omega, HD.out.2.2.2.2.setCell (Nat.le_refl _) _⟩

set_option maxRecDepth 100000 in
set_option maxHeartbeats 4000000 in
theorem lessOf_any (A : Option Addr) (n c : Nat) (l : List Nat) (A2 : Option Addr) (n2 c2 : Nat) (m : List Nat) (w : World) (h : DigsB w w.heap.size A n l) (h2 : DigsB w w.heap.size A2 n2 m) (hn : n ≤ 100000) (hn2 : n2 ≤ n) (hle : valL m ≤ valL l) :
    Calls Tryz.prog 79 #[.slice A n c, .slice A2 n2 c2] w (ValP (valL l - valL m) n w) := by
  have HAB := Lib.hid (And.intro h (And.intro h2 (And.intro h.len (And.intro h2.len hle))))
  clear h h2 hle
  have hmk := make_u n n .i64 .i64 (Nat.le_refl _) (by omega)
  have H0 := Lib.hid (And.intro (own_made w (B := w.heap.size) (l := n) (c := n) (Nat.le_refl _) (by omega) (by omega)) ((Below.refl w.heap.size w).alloc (Nat.le_refl _) (.cells (zc n) 110)))
  go_enter Tryz.func79, Tryz.ntmps79
  go_wp2_with fail
  go_loopw [6, 15] (fun s6 s15 wr => ∃ (i k : Nat) (out : List Nat), s15 = .int .i64 (i : Int) ∧ s6 = .int .u64 (k : Int) ∧ i ≤ n ∧ k ≤ 1 ∧ Hid (out.length = n ∧ Digs out ∧ valL (out.take i) + valL (m.take i) = valL (l.take i) + 4294967296 ^ i * k ∧ OwnU wr w.heap.size (.slice (some ⟨w.heap.size, 0, none⟩) n n) out ∧ Below w.heap.size w wr)) (fun _ s15 _ => n - (intOf s15).toNat)
  case atStart => exact ⟨0, 0, List.replicate n 0, rfl, rfl, by omega, by omega, by simp, digs_zeros _, by simp [valL], H0.out⟩
  case round =>
    clear H0
    obtain ⟨i, k, out, rfl, rfl, hi, hk, HD⟩ := hrel
    by_cases hil : i < n
    · have hilI : (i : Int) < (n : Int) := by omega
      obtain ⟨z, hz⟩ : ∃ z, out[i]? = some z := ⟨_, List.getElem?_eq_getElem (by have := HD.out.1; omega)⟩
      have hcell3 := HD.out.2.2.2.1.cell hz
      have hfr3 := HD.out.2.2.2.1.unfrozen i
      have hgl := (HD.out.2.2.2.1.lt w.heap.size rfl).2
      clear hz
      obtain ⟨b1, off1, x, hx, ea, hb1, hcell0, hx32⟩ := digs_get HAB.out.1 hil
      subst ea
      have hcell := (HD.out.2.2.2.2.cell (p := ⟨b1, off1 + i, none⟩) hb1).trans hcell0
      clear hcell0 hb1
      by_cases hkx : k ≤ x
      · have hv1 : IntKind.u64.wrap ((x : Int) - (k : Int)) = (x : Int) - (k : Int) := by rw [IntKind.wrap_u64]; omega
        by_cases hib : i < n2
        · have hibI : (i : Int) < (n2 : Int) := by omega
          obtain ⟨b2, off2, y, hy, eb, hb2, hcell20, hy32⟩ := digs_get HAB.out.2.1 hib
          subst eb
          have hcell2 := (HD.out.2.2.2.2.cell (p := ⟨b2, off2 + i, none⟩) hb2).trans hcell20
          clear hcell20 hb2
          by_cases hyx : y ≤ x - k
          · have hv2 : IntKind.u64.wrap ((x : Int) - (k : Int) - (y : Int)) = (x : Int) - (k : Int) - (y : Int) := by rw [IntKind.wrap_u64]; omega
            go_wp2_with fail
            have hd32 : x - k - y < 4294967296 := by omega
            have hr := minus_round (out := out.take i) (c := k) (t := y) (d := x - k - y) (c' := 0) (by rw [List.length_take, HD.out.1]; omega) HD.out.2.2.1 hx (.inl hy) (by omega)
            rw [show ((x : Int) - (k : Int) - (y : Int)) / 9223372036854775808 = ((0 : Nat) : Int) by omega, show ((x : Int) - (k : Int) - (y : Int)) = ((x - k - y : Nat) : Int) by omega]
            have HR := Lib.hid (And.intro hr hd32)
            clear hr hd32
            go_roundw
            case rel => exact ⟨i + 1, 0, out.set i (x - k - y), by go_num, rfl, by omega, by omega, by rw [List.length_set]; exact HD.out.1, HD.out.2.1.set _ HR.out.2, by rw [take_set (by have := HD.out.1; omega)]; exact HR.out.1, HD.out.2.2.2.1.put HD.out.1.symm _ HR.out.2, HD.out.2.2.2.2.setCell (Nat.le_refl _) _⟩
            case measure => simp only [intOf]; omega
          · have hv2 : IntKind.u64.wrap ((x : Int) - (k : Int) - (y : Int)) = (x : Int) - (k : Int) - (y : Int) + 18446744073709551616 := by rw [IntKind.wrap_u64]; omega
            go_wp2_with fail
            have hd32 : x + 4294967296 - k - y < 4294967296 := by omega
            have hr := minus_round (out := out.take i) (c := k) (t := y) (d := x + 4294967296 - k - y) (c' := 1) (by rw [List.length_take, HD.out.1]; omega) HD.out.2.2.1 hx (.inl hy) (by omega)
            rw [show ((x : Int) - (k : Int) - (y : Int) + 18446744073709551616) / 9223372036854775808 = ((1 : Nat) : Int) by omega, show ((x : Int) - (k : Int) - (y : Int) + 18446744073709551616) % 4294967296 = ((x + 4294967296 - k - y : Nat) : Int) by omega]
            have HR := Lib.hid (And.intro hr hd32)
            clear hr hd32
            go_roundw
            case rel => exact ⟨i + 1, 1, out.set i (x + 4294967296 - k - y), by go_num, rfl, by omega, by omega, by rw [List.length_set]; exact HD.out.1, HD.out.2.1.set _ HR.out.2, by rw [take_set (by have := HD.out.1; omega)]; exact HR.out.1, HD.out.2.2.2.1.put HD.out.1.symm _ HR.out.2, HD.out.2.2.2.2.setCell (Nat.le_refl _) _⟩
            case measure => simp only [intOf]; omega
        · have hibI : ¬ (i : Int) < (n2 : Int) := by omega
          go_wp2_with fail
          have hd32 : x - k < 4294967296 := by omega
          have hr := minus_round (out := out.take i) (c := k) (t := 0) (d := x - k) (c' := 0) (by rw [List.length_take, HD.out.1]; omega) HD.out.2.2.1 hx (.inr ⟨by rw [HAB.out.2.2.2.1]; omega, rfl⟩) (by omega)
          rw [show ((x : Int) - (k : Int)) / 9223372036854775808 = ((0 : Nat) : Int) by omega, show ((x : Int) - (k : Int)) = ((x - k : Nat) : Int) by omega]
          have HR := Lib.hid (And.intro hr hd32)
          clear hr hd32
          go_roundw
          case rel => exact ⟨i + 1, 0, out.set i (x - k), by go_num, rfl, by omega, by omega, by rw [List.length_set]; exact HD.out.1, HD.out.2.1.set _ HR.out.2, by rw [take_set (by have := HD.out.1; omega)]; exact HR.out.1, HD.out.2.2.2.1.put HD.out.1.symm _ HR.out.2, HD.out.2.2.2.2.setCell (Nat.le_refl _) _⟩
          case measure => simp only [intOf]; omega
      · have hv1 : IntKind.u64.wrap ((x : Int) - (k : Int)) = (x : Int) - (k : Int) + 18446744073709551616 := by rw [IntKind.wrap_u64]; omega
        by_cases hib : i < n2
        · have hibI : (i : Int) < (n2 : Int) := by omega
          obtain ⟨b2, off2, y, hy, eb, hb2, hcell20, hy32⟩ := digs_get HAB.out.2.1 hib
          subst eb
          have hcell2 := (HD.out.2.2.2.2.cell (p := ⟨b2, off2 + i, none⟩) hb2).trans hcell20
          clear hcell20 hb2
          have hv2 : IntKind.u64.wrap ((x : Int) - (k : Int) + 18446744073709551616 - (y : Int)) = (x : Int) - (k : Int) + 18446744073709551616 - (y : Int) := by rw [IntKind.wrap_u64]; omega
          go_wp2_with fail
          have hd32 : x + 4294967296 - k - y < 4294967296 := by omega
          have hr := minus_round (out := out.take i) (c := k) (t := y) (d := x + 4294967296 - k - y) (c' := 1) (by rw [List.length_take, HD.out.1]; omega) HD.out.2.2.1 hx (.inl hy) (by omega)
          rw [show ((x : Int) - (k : Int) + 18446744073709551616 - (y : Int)) / 9223372036854775808 = ((1 : Nat) : Int) by omega, show ((x : Int) - (k : Int) + 18446744073709551616 - (y : Int)) % 4294967296 = ((x + 4294967296 - k - y : Nat) : Int) by omega]
          have HR := Lib.hid (And.intro hr hd32)
          clear hr hd32
          go_roundw
          case rel => exact ⟨i + 1, 1, out.set i (x + 4294967296 - k - y), by go_num, rfl, by omega, by omega, by rw [List.length_set]; exact HD.out.1, HD.out.2.1.set _ HR.out.2, by rw [take_set (by have := HD.out.1; omega)]; exact HR.out.1, HD.out.2.2.2.1.put HD.out.1.symm _ HR.out.2, HD.out.2.2.2.2.setCell (Nat.le_refl _) _⟩
          case measure => simp only [intOf]; omega
        · have hibI : ¬ (i : Int) < (n2 : Int) := by omega
          go_wp2_with fail
          have hd32 : x + 4294967296 - k < 4294967296 := by omega
          have hr := minus_round (out := out.take i) (c := k) (t := 0) (d := x + 4294967296 - k) (c' := 1) (by rw [List.length_take, HD.out.1]; omega) HD.out.2.2.1 hx (.inr ⟨by rw [HAB.out.2.2.2.1]; omega, rfl⟩) (by omega)
          rw [show ((x : Int) - (k : Int) + 18446744073709551616) / 9223372036854775808 = ((1 : Nat) : Int) by omega, show ((x : Int) - (k : Int) + 18446744073709551616) % 4294967296 = ((x + 4294967296 - k : Nat) : Int) by omega]
          have HR := Lib.hid (And.intro hr hd32)
          clear hr hd32
          go_roundw
          case rel => exact ⟨i + 1, 1, out.set i (x + 4294967296 - k), by go_num, rfl, by omega, by omega, by rw [List.length_set]; exact HD.out.1, HD.out.2.1.set _ HR.out.2, by rw [take_set (by have := HD.out.1; omega)]; exact HR.out.1, HD.out.2.2.2.1.put HD.out.1.symm _ HR.out.2, HD.out.2.2.2.2.setCell (Nat.le_refl _) _⟩
          case measure => simp only [intOf]; omega
    · obtain rfl : i = n := by omega
      have h1 := HD.out.2.2.1
      have h2 := val_lt HD.out.2.1
      have hml : m.length ≤ i := by rw [HAB.out.2.2.2.1]; exact hn2
      rw [List.take_of_length_le (l := out) (by rw [HD.out.1]; exact Nat.le_refl _), List.take_of_length_le (l := m) hml, List.take_of_length_le (l := l) (by rw [HAB.out.2.2.1]; exact Nat.le_refl _)] at h1
      rw [HD.out.1] at h2
      have h3 := HAB.out.2.2.2.2
      have hv : valL out = valL l - valL m := by
        rcases (by omega : k = 0 ∨ k = 1) with rfl | rfl
        · omega
        · omega
      have HV := Lib.hid hv
      clear h1 h2 h3 hv hml
      go_wp2_with fail
      go_ret
      exact ⟨_, out, rfl, HD.out.2.2.2.1, HV.out, by rw [HD.out.1]; exact Nat.le_refl _, HD.out.2.2.2.2⟩
end Go.Proofs.YtkkpfdfoojcljaaGreat
namespace Go.Proofs.YtkkpfdfoojcljaaGreat
open Go.RowKit

theorem IntAt.below {w w' : World} {g o : Nat} {z : Int} {A : Option Addr} {n c : Nat} (h : IntAt w g o z A n c) (hb : Below w.heap.size w w') : IntAt w' g o z A n c :=
  h.grown (only_of_below hb none) (by simp) (fun x hx => by cases hx)
theorem urow_lt {w : World} {b : Nat} (h : URow w b) : b < w.heap.size := by
  obtain ⟨cs, hc⟩ := h
  exact hc.lt
theorem IntAt.digsB {w : World} {g o : Nat} {z : Int} {A : Option Addr} {n c : Nat} (h : IntAt w g o z A n c) : DigsB w w.heap.size A n (digN z.natAbs) := h.digs.keep stays_u (fun _ hb => urow_lt hb) (fun _ _ _ => rfl)
theorem Own1.at_ {w : World} {g : Nat} {t : TypeId} {z : Int} {A : Option Addr} {n c : Nat} (h : Own1 w g t (decide (z < 0)) A n c (digN z.natAbs)) : IntAt w g 0 z A n c := ⟨⟨_, _, h.blk, h.ne⟩, h.blk.cell 0, h.blk.cell 1, h.nc, h.cm, h.digs⟩
theorem Put.own {w w' : World} {g : Nat} {z : Int} {t : TypeId} {a b : Value} (h : Put w w' g 0 z) (hk : Blk w g t #[a, b]) : w.grownBy w' (some g) ∧ ∃ A n c, Own1 w' g t (decide (z < 0)) A n c (digN z.natAbs) := by
  obtain ⟨h1, t', hs, A, n, c, k1, k2, k3, k4, k5, k6, k7⟩ := h
  have e : hs = #[a, b] ∧ t' = t := by
    unfold Blk at hk k1
    rw [hk] at k1
    injection k1 with k1
    injection k1 with e1 e2 _
    exact ⟨e1.symm, e2.symm⟩
  obtain ⟨rfl, rfl⟩ := e
  exact ⟨h1, A, n, c, k4, k2, k5, k6, k7⟩
set_option maxRecDepth 100000 in
set_option maxHeartbeats 4000000 in
theorem wCmpAbs_any (g o : Nat) (x : Int) (A : Option Addr) (n c : Nat) (g2 o2 : Nat) (y : Int) (A2 : Option Addr) (n2 c2 : Nat) (w : World) (h : IntAt w g o x A n c) (h2 : IntAt w g2 o2 y A2 n2 c2) (hn : n ≤ 1000000) (hn2 : n2 ≤ 1000000) :
    Calls Tryz.prog 78 #[.pointer (some ⟨g, o, none⟩), .pointer (some ⟨g2, o2, none⟩)] w fun e w' => e = .returned (.int .i64 (cmpN x.natAbs y.natAbs)) ∧ Below w.heap.size w w' := by
  have c1 := h.row
  have c2' := h2.row
  have hg := h.lt
  have hg2 := h2.lt
  have HL := Lib.hid (And.intro h.digsB (And.intro h2.digsB (And.intro (canon_digN x.natAbs) (canon_digN y.natAbs))))
  have HLn := Lib.hid (And.intro h.digs.len h2.digs.len)
  have HV := Lib.hid (And.intro (val_digN x.natAbs) (val_digN y.natAbs))
  clear h h2
  generalize digN x.natAbs = l at HL HLn HV
  generalize digN y.natAbs = m at HL HLn HV
  rw [← HV.out.1, ← HV.out.2]
  rcases Nat.lt_trichotomy n n2 with hlt | heq | hgt
  · rw [cmpN_lt (cmp_len HL.out.2.2.1 HL.out.2.2.2 (by have := HLn.out; omega))]
    have hne : ((n : Int) != (n2 : Int)) = true := by rw [bne_iff_ne]; omega
    have hltI : (n : Int) < (n2 : Int) := by omega
    go_enter Tryz.func78, Tryz.ntmps78
    go_wp2_with fail
    go_quiet (fail)
    go_wp2_with fail
    go_quiet (fail)
    go_wp2_with fail
    go_ret
    exact ⟨rfl, below_drewN (below_drewN (Below.refl _ _) _) _⟩
  · subst heq
    obtain ⟨N, hN⟩ : ∃ N, cmpN (valL l) (valL m) = N := ⟨_, rfl⟩
    rw [hN]
    have HN := Lib.hid (And.intro hN (And.intro HLn.out.1 HLn.out.2))
    clear hN
    go_enter Tryz.func78, Tryz.ntmps78
    go_wp2_with fail
    go_quiet (fail)
    go_wp2_with fail
    go_loopw [5] (fun s5 wr => ∃ (k : Nat), s5 = .int .i64 ((k : Int) - 1) ∧ k ≤ n ∧ Hid (Below w.heap.size w wr ∧ l.drop k = m.drop k)) (fun s5 _ => (intOf s5 + 1).toNat)
    case atStart => exact ⟨n, rfl, Nat.le_refl _, below_drewN (Below.refl _ _) _, by rw [List.drop_eq_nil_of_le (by have := HN.out.2.1; omega), List.drop_eq_nil_of_le (by have := HN.out.2.2; omega)]⟩
    case round =>
      obtain ⟨k, rfl, hk, HK⟩ := hrel
      rcases k with _ | k
      · have he : l = m := by have := HK.out.2; simpa using this
        have hN0 : N = 0 := by rw [← HN.out.1, he, cmpN_eq]
        go_wp2_with fail
        go_ret
        exact ⟨ret_int hN0.symm, HK.out.1⟩
      · obtain ⟨b, off, p, hx, rfl, hb, hcell0, hx32⟩ := digs_get HL.out.1 (i := k) (by omega)
        obtain ⟨b2, off2, q, hy, rfl, hb2, hcell20, hy32⟩ := digs_get HL.out.2.1 (i := k) (by omega)
        have hcell := (HK.out.1.cell (p := ⟨b, off + k, none⟩) hb).trans hcell0
        have hcell2 := (HK.out.1.cell (p := ⟨b2, off2 + k, none⟩) hb2).trans hcell20
        have d1 := (HK.out.1.cell (p := ⟨g, o + 1, none⟩) hg).trans c1
        have d2 := (HK.out.1.cell (p := ⟨g2, o2 + 1, none⟩) hg2).trans c2'
        have HX := Lib.hid (And.intro hx (And.intro hy (And.intro hx32 hy32)))
        have hk1 : ((k + 1 : Nat) : Int) - 1 = (k : Int) := by omega
        have hkn : (k : Int) < (n : Int) := by omega
        clear hcell0 hcell20 hx hy hb hb2
        rw [hk1]
        rcases Nat.lt_trichotomy p q with hlt | heq | hgt
        · have hN1 : N = -1 := by rw [← HN.out.1, cmpN_lt (cmp_at HL.out.2.2.1.1 HL.out.2.2.2.1 (by have := HN.out.2; omega) HK.out.2 HX.out.1 HX.out.2.1 hlt)]
          have hltI : (p : Int) < (q : Int) := by omega
          have hneI : ((p : Int) != (q : Int)) = true := by rw [bne_iff_ne]; omega
          go_wp2_with fail
          go_quiet (fail)
          go_wp2_with fail
          go_quiet (fail)
          go_wp2_with fail
          go_ret
          exact ⟨ret_int hN1.symm, below_drewN (below_drewN HK.out.1 _) _⟩
        · subst heq
          have hneI : ((p : Int) != (p : Int)) = false := by simp
          go_wp2_with fail
          go_quiet (fail)
          go_wp2_with fail
          go_roundw
          case rel => exact ⟨k, rfl, by omega, below_drewN HK.out.1 _, by
            obtain ⟨i1, e1⟩ := List.getElem?_eq_some_iff.1 HX.out.1
            obtain ⟨i2, e2⟩ := List.getElem?_eq_some_iff.1 HX.out.2.1
            rw [drop_cons i1, drop_cons i2, e1, e2, HK.out.2]⟩
          case measure => simp only [intOf]; omega
        · have hN1 : N = 1 := by rw [← HN.out.1, cmpN_gt (cmp_at HL.out.2.2.2.1 HL.out.2.2.1.1 (by have := HN.out.2; omega) HK.out.2.symm HX.out.2.1 HX.out.1 hgt)]
          have hltI : ¬ (p : Int) < (q : Int) := by omega
          have hneI : ((p : Int) != (q : Int)) = true := by rw [bne_iff_ne]; omega
          go_wp2_with fail
          go_quiet (fail)
          go_wp2_with fail
          go_quiet (fail)
          go_wp2_with fail
          go_ret
          exact ⟨ret_int hN1.symm, below_drewN (below_drewN HK.out.1 _) _⟩
  · rw [cmpN_gt (cmp_len HL.out.2.2.2 HL.out.2.2.1 (by have := HLn.out; omega))]
    have hne : ((n : Int) != (n2 : Int)) = true := by rw [bne_iff_ne]; omega
    have hltI : ¬ (n : Int) < (n2 : Int) := by omega
    go_enter Tryz.func78, Tryz.ntmps78
    go_wp2_with fail
    go_quiet (fail)
    go_wp2_with fail
    go_quiet (fail)
    go_wp2_with fail
    go_ret
    exact ⟨rfl, below_drewN (below_drewN (Below.refl _ _) _) _⟩
end Go.Proofs.YtkkpfdfoojcljaaGreat
namespace Go.Proofs.YtkkpfdfoojcljaaGreat
open Go.RowKit

set_option maxRecDepth 100000 in
set_option maxHeartbeats 2000000 in
theorem wAbs_any (g : Nat) (t : TypeId) (a b : Value) (gx ox : Nat) (x : Int) (A : Option Addr) (n c : Nat) (w : World) (hk : Blk w g t #[a, b]) (ht : t ≠ 110) (h : IntAt w gx ox x A n c) (hn : n ≤ 1000000) :
    Calls Tryz.prog 91 #[.pointer (some ⟨g, 0, none⟩), .pointer (some ⟨gx, ox, none⟩)] w fun e w' => e = .returned (.pointer (some ⟨g, 0, none⟩)) ∧ Put w w' g 0 (x.natAbs : Int) := by
  have HC := Lib.hid (wSet_any g 0 gx ox t #[a, b] x A n c w hk ht (by simp) h hn)
  have HK := Lib.hid (And.intro hk ht)
  clear hk ht h
  go_enter Tryz.func91, Tryz.ntmps91
  go_wp2_with fail
  refine HC.out.mono ?_
  rintro e w1 ⟨rfl, hp⟩
  obtain ⟨hg, A1, n1, c1, ho⟩ := hp.own HK.out.1
  have d0 : w1.cell? ⟨g, 0, none⟩ = some (.bool (decide (x < 0))) := ho.blk.cell 0
  have f0 := ho.blk.frozen 0
  have hgl := ho.blk.lt
  have HO := Lib.hid (And.intro hg ho)
  clear hg ho hp
  go_wp2_with fail
  go_ret
  have o1 := one_only (only_refl w1 (some g)) 0 (.bool false)
  exact ⟨rfl, put_own HK.out.1 HK.out.2 (only_then HO.out.1 o1 (fun x hx => .inr hx)) (HO.out.2.blk.set_ 0 _) (decide_eq_false (by omega)).symm HO.out.2.nc HO.out.2.cm (by
    rw [Int.natAbs_natCast]
    exact digsT_grown HO.out.2.digs o1 (fun y hy => by injection hy with hy; subst hy; exact urow_not HO.out.2.blk HO.out.2.ne))⟩
set_option maxRecDepth 100000 in
set_option maxHeartbeats 2000000 in
theorem wNeg_any (g : Nat) (t : TypeId) (a b : Value) (gx ox : Nat) (x : Int) (A : Option Addr) (n c : Nat) (w : World) (hk : Blk w g t #[a, b]) (ht : t ≠ 110) (h : IntAt w gx ox x A n c) (hn : n ≤ 1000000) :
    Calls Tryz.prog 72 #[.pointer (some ⟨g, 0, none⟩), .pointer (some ⟨gx, ox, none⟩)] w fun e w' => e = .returned (.pointer (some ⟨g, 0, none⟩)) ∧ Put w w' g 0 (-x) := by
  have HC := Lib.hid (wSet_any g 0 gx ox t #[a, b] x A n c w hk ht (by simp) h hn)
  have HK := Lib.hid (And.intro hk ht)
  clear hk ht h
  go_enter Tryz.func72, Tryz.ntmps72
  go_wp2_with fail
  refine HC.out.mono ?_
  rintro e w1 ⟨rfl, hp⟩
  obtain ⟨hg, A1, n1, c1, ho⟩ := hp.own HK.out.1
  have d0 : w1.cell? ⟨g, 0, none⟩ = some (.bool (decide (x < 0))) := ho.blk.cell 0
  have d1 : w1.cell? ⟨g, 1, none⟩ = some (.slice A1 n1 c1) := ho.blk.cell 1
  have f0 := ho.blk.frozen 0
  have hgl := ho.blk.lt
  have hz := ho.at_.zero
  have HO := Lib.hid (And.intro hg ho)
  clear hg ho hp
  have key : ∀ s : Bool, s = decide (-x < 0) → Put w (w1.setCell ⟨g, 0, none⟩ (.bool s)) g 0 (-x) := fun s hs =>
    put_own HK.out.1 HK.out.2 (only_then HO.out.1 (one_only (only_refl w1 (some g)) 0 (.bool s)) (fun x hx => .inr hx)) (HO.out.2.blk.set_ 0 _) hs HO.out.2.nc HO.out.2.cm (by
      rw [Int.natAbs_neg]
      exact digsT_grown HO.out.2.digs (one_only (only_refl w1 (some g)) 0 (.bool s)) (fun y hy => by injection hy with hy; subst hy; exact urow_not HO.out.2.blk HO.out.2.ne))
  have HKey := Lib.hid key
  clear key
  by_cases hx : x < 0
  · rw [decide_eq_true hx] at d0
    go_wp2_with fail
    go_ret
    exact ⟨rfl, HKey.out _ (decide_eq_false (by omega)).symm⟩
  · rw [decide_eq_false hx] at d0
    by_cases h0 : x = 0
    · have hn0 : ¬ (0 : Int) < (n1 : Int) := by have := hz.2 h0; omega
      go_wp2_with fail
      go_ret
      exact ⟨rfl, HKey.out _ (by have e := hz.2 h0; rw [decide_eq_decide]; omega)⟩
    · have hn0 : (0 : Int) < (n1 : Int) := by have := fun e => h0 (hz.1 e); omega
      go_wp2_with fail
      go_ret
      exact ⟨rfl, HKey.out _ (by have e : ¬ n1 = 0 := fun e => h0 (hz.1 e); rw [decide_eq_decide]; omega)⟩
set_option maxRecDepth 100000 in
set_option maxHeartbeats 2000000 in
theorem wUint64_any (g o : Nat) (x : Int) (A : Option Addr) (n c : Nat) (w : World) (h : IntAt w g o x A n c) (hn : n ≤ 2) :
    Calls Tryz.prog 92 #[.pointer (some ⟨g, o, none⟩)] w fun e w' => e = .returned (.int .u64 (x.natAbs : Int)) ∧ w = w' := by
  have c1 := h.row
  have hg := h.lt
  have HD := Lib.hid (And.intro h.digs (val_digN x.natAbs))
  have HLn := Lib.hid h.digs.len
  clear h
  generalize digN x.natAbs = l at HD HLn
  rw [← HD.out.2]
  have hmin : min (n : Int) 2 = (n : Int) := by omega
  go_enter Tryz.func92, Tryz.ntmps92
  go_wp2_with fail
  go_loopw [3, 4] (fun s3 s4 wr => ∃ (k v : Nat), s4 = .int .i64 ((k : Int) - 1) ∧ s3 = .int .u64 (v : Int) ∧ k ≤ n ∧ w = wr ∧ Hid (v = valL (l.drop k) ∧ (1 ≤ k → v < 4294967296))) (fun _ s4 _ => (intOf s4 + 1).toNat)
  case atStart => exact ⟨n, 0, rfl, rfl, Nat.le_refl _, rfl, by rw [List.drop_eq_nil_of_le (by rw [HLn.out]; exact Nat.le_refl _)]; rfl, fun _ => by omega⟩
  case round =>
    obtain ⟨k, v, rfl, rfl, hk, rfl, HV⟩ := hrel
    rcases k with _ | k
    · go_wp2_with fail
      go_ret
      exact ⟨by rw [HV.out.1, List.drop_zero]; rfl, rfl⟩
    · obtain ⟨b, off, y, hy, rfl, hb, hcell, hy32⟩ := digsT_get HD.out.1 (i := k) (by omega)
      have hv := HV.out.2 (by omega)
      have hk1 : ((k + 1 : Nat) : Int) - 1 = (k : Int) := by omega
      have hkn : (k : Int) < (n : Int) := by omega
      have hor := or_hi hv hy32
      have hvd := val_drop_cons hy
      have HY := Lib.hid (And.intro hvd hy)
      clear hvd hy hb
      rw [hk1]
      go_wp2_with fail
      go_roundw
      case rel => exact ⟨k, v * 4294967296 + y, rfl, rfl, by omega, trivial, by rw [HY.out.1, ← HV.out.1]; omega, fun h1 => by
        have : k = 1 := by omega
        subst this
        have hv0 : v = 0 := by rw [HV.out.1, List.drop_eq_nil_of_le (by rw [HLn.out]; omega)]; rfl
        omega⟩
      case measure => simp only [intOf]; omega
end Go.Proofs.YtkkpfdfoojcljaaGreat
namespace Go.Proofs.YtkkpfdfoojcljaaGreat
open Go.RowKit

theorem DigsB.later {w w' : World} {A : Option Addr} {n : Nat} {l : List Nat} (h : DigsB w w.heap.size A n l) (hb : Below w.heap.size w w') : DigsB w' w'.heap.size A n l := h.below stays_u hb hb.size
/-- a header that is written, with a row that was just made -/
theorem head_made {w w6 : World} {g : Nat} {t : TypeId} {a b : Value} {s : Bool} {A : Option Addr} {n c : Nat} {l : List Nat} {B : Nat} (hk : Blk w g t #[a, b]) (ht : t ≠ 110) (hb : Below w.heap.size w w6) (hown : OwnU w6 B (.slice A n c) l) :
    Own1 ((w6.setCell ⟨g, 0, none⟩ (.bool s)).setCell ⟨g, 1, none⟩ (.slice A n c)) g t s A n c l ∧ w.grownBy ((w6.setCell ⟨g, 0, none⟩ (.bool s)).setCell ⟨g, 1, none⟩ (.slice A n c)) (some g) := by
  obtain ⟨-, h1, h2, h3⟩ := own_urow hown rfl (fun b hb => False.elim hb)
  have k6 : Blk w6 g t #[a, b] := hk.below hb hk.lt
  have o6 := two_only w6 g (.bool s) (.slice A n c)
  exact ⟨⟨two_blk k6 _ _, ht, h1, h2, digsT_grown h3 o6 (fun x hx => by injection hx with hx; subst hx; exact urow_not k6 ht)⟩, one_only (one_only (only_of_below hb (some g)) 0 _) 1 _⟩
theorem put_trim {w w1 w' : World} {g : Nat} {t : TypeId} {a b : Value} {s : Bool} {A : Option Addr} {n c : Nat} {l : List Nat} {z : Int} (hk : Blk w g t #[a, b]) (h : Own1 w1 g t s A n c l ∧ w.grownBy w1 (some g)) (hz : sgnD s l = z) (hp : Put w1 w' g 0 (sgnD s l)) : Put w w' g 0 z := by
  rw [hz] at hp
  exact Put.after h.2 hk h.1.blk hp
theorem digN_mono {a b : Nat} (h : a ≤ b) : (digN a).length ≤ (digN b).length := by
  apply digN_len
  have h1 := val_lt (canon_digN b).1
  rw [val_digN] at h1
  omega
end Go.Proofs.YtkkpfdfoojcljaaGreat
namespace Go.Proofs.YtkkpfdfoojcljaaGreat
open Go.RowKit

/-- the fraction q lies in block g; at most k digits a number -/
def RatAt (w : World) (g : Nat) (q : Rat) (k : Nat) : Prop := ∃ (A : Option Addr) (n c : Nat) (A2 : Option Addr) (n2 c2 : Nat), IntAt w g 0 q.num A n c ∧ IntAt w g 2 (q.den : Int) A2 n2 c2 ∧ n ≤ k ∧ n2 ≤ k
theorem RatAt.below {w w' : World} {g : Nat} {q : Rat} {k : Nat} (h : RatAt w g q k) (hb : Below w.heap.size w w') : RatAt w' g q k := by
  obtain ⟨A, n, c, A2, n2, c2, h1, h2, h3, h4⟩ := h
  exact ⟨A, n, c, A2, n2, c2, h1.below hb, h2.below hb, h3, h4⟩
theorem Made.at_ {w w' : World} {g : Nat} {z : Int} (h : Made w w' g z) : ∃ A n c, IntAt w' g 0 z A n c ∧ n = (digN z.natAbs).length := by
  obtain ⟨-, -, A, n, c, ho⟩ := h
  exact ⟨A, n, c, ho.at_, ho.digs.len.symm⟩
set_option maxRecDepth 100000 in
set_option maxHeartbeats 2000000 in
theorem rNum_any (g : Nat) (q : Rat) (k : Nat) (w : World) (h : RatAt w g q k) (hk : k ≤ 100000) :
    Calls Tryz.prog 54 #[.pointer (some ⟨g, 0, none⟩)] w fun e w' => ∃ g', e = .returned (.pointer (some ⟨g', 0, none⟩)) ∧ Made w w' g' q.num := by
  obtain ⟨A, n, c, A2, n2, c2, h1, h2, h3, h4⟩ := h
  have hb0 : Below w.heap.size w (w.alloc (.cells #[.bool false, .slice none 0 0] 72)) := (Below.refl _ _).alloc (Nat.le_refl _) _
  have hk0 := Blk.new w 72 #[.bool false, .slice none 0 0]
  have HC := Lib.hid (wSet_any w.heap.size 0 g 0 72 _ q.num A n c _ hk0 (by decide) (by simp) (h1.below hb0) (by omega))
  have HK := Lib.hid (And.intro hk0 hb0)
  clear h1 h2 hk0 hb0
  go_enter Tryz.func54, Tryz.ntmps54
  go_wp2_with fail
  refine HC.out.mono ?_
  rintro e w' ⟨rfl, hp⟩
  have HP := Lib.hid (hp.made HK.out.1 HK.out.2 (Nat.le_refl _))
  clear hp
  go_wp2_with fail
  go_ret
  exact ⟨_, rfl, HP.out⟩
set_option maxRecDepth 100000 in
set_option maxHeartbeats 2000000 in
theorem rDenom_any (g : Nat) (q : Rat) (k : Nat) (w : World) (h : RatAt w g q k) (hk : k ≤ 100000) :
    Calls Tryz.prog 55 #[.pointer (some ⟨g, 0, none⟩)] w fun e w' => ∃ g', e = .returned (.pointer (some ⟨g', 0, none⟩)) ∧ Made w w' g' (q.den : Int) := by
  obtain ⟨A, n, c, A2, n2, c2, h1, h2, h3, h4⟩ := h
  have hb0 : Below w.heap.size w (w.alloc (.cells #[.bool false, .slice none 0 0] 72)) := (Below.refl _ _).alloc (Nat.le_refl _) _
  have hk0 := Blk.new w 72 #[.bool false, .slice none 0 0]
  have HS := Lib.hid (wSign_any g 2 (q.den : Int) A2 n2 c2 w h2)
  have HC := Lib.hid (wSet_any w.heap.size 0 g 2 72 _ (q.den : Int) A2 n2 c2 _ hk0 (by decide) (by simp) (h2.below hb0) (by omega))
  have HK := Lib.hid (And.intro hk0 hb0)
  have hs : sgnI (q.den : Int) = 1 := by
    have := q.den_pos
    unfold sgnI
    rw [if_neg (by omega), if_neg (by omega)]
  clear h1 h2 hk0 hb0
  go_enter Tryz.func55, Tryz.ntmps55
  go_wp2_with fail
  refine HS.out.mono ?_
  rintro e w1 ⟨rfl, hw⟩
  subst hw
  rw [hs]
  go_wp2_with fail
  refine HC.out.mono ?_
  rintro e w' ⟨rfl, hp⟩
  have HP := Lib.hid (hp.made HK.out.1 HK.out.2 (Nat.le_refl _))
  clear hp
  go_wp2_with fail
  go_ret
  exact ⟨_, rfl, HP.out⟩
set_option maxHeartbeats 2000000 in
theorem rSign_any (g : Nat) (q : Rat) (k : Nat) (w : World) (h : RatAt w g q k) :
    Calls Tryz.prog 58 #[.pointer (some ⟨g, 0, none⟩)] w fun e w' => e = .returned (.int .i64 (sgnI q.num)) ∧ w = w' := by
  obtain ⟨A, n, c, A2, n2, c2, h1, h2, h3, h4⟩ := h
  have HS := Lib.hid (wSign_any g 0 q.num A n c w h1)
  clear h1 h2
  go_enter Tryz.func58, Tryz.ntmps58
  go_wp2_with fail
  refine HS.out.mono ?_
  rintro e w1 ⟨rfl, hw⟩
  subst hw
  go_wp2_with fail
  go_ret
  exact ⟨rfl, rfl⟩
end Go.Proofs.YtkkpfdfoojcljaaGreat
