/- Walk: the comparison of forms, at two forms that are the same. -/
import Derived.Test.YtpceiifacendfaaSame
import Derived.Test.YtpceiifacendfaaFormC
import Derived.Deep.RegionHeld3
namespace Go.Proofs.Ytpceiifacendfaa
open Go.RowKit

set_option maxRecDepth 100000 in
set_option maxHeartbeats 8000000 in
theorem sameForm_any (A1 A2 A3 A4 : Option Addr) (n1 c1 n2 c2 n3 c3 n4 c4 : Nat) (B1 B2 B3 B4 : Option Addr) (d1 d2 d3 d4 : Nat) (F : FormD) (w : World) (hF : FormB w w.heap.size A1 A2 A3 A4 n1 n2 n3 n4 F) (hG : FormB w w.heap.size B1 B2 B3 B4 n1 n2 n3 n4 F) :
    Calls Try.prog 16 #[.agg #[.slice A1 n1 c1, .slice A2 n2 c2, .slice A3 n3 c3, .slice A4 n4 c4], .agg #[.slice B1 n1 d1, .slice B2 n2 d2, .slice B3 n3 d3, .slice B4 n4 d4]] w (YesB w) := by
  have e1 : ((n1 : Int) != (n1 : Int)) = false := by simp
  have e3 : ((n3 : Int) != (n3 : Int)) = false := by simp
  obtain ⟨hb0, hbk0, hbm0, hs0⟩ := two_boxes w 27 27 #[.slice A1 n1 c1, .slice A2 n2 c2, .slice A3 n3 c3, .slice A4 n4 c4] #[.slice B1 n1 d1, .slice B2 n2 d2, .slice B3 n3 d3, .slice B4 n4 d4]
  have hFx := hF.below hb0 (Nat.le_refl w.heap.size)
  have hGx := hG.below hb0 (Nat.le_refl w.heap.size)
  obtain ⟨m1, m2, m3, m4⟩ : n1 ≤ 9223372036854775807 ∧ n2 ≤ 9223372036854775807 ∧ n3 ≤ 9223372036854775807 ∧ n4 ≤ 9223372036854775807 := ⟨hF.m1, hF.m2, hF.m3, hF.m4⟩
  have HB := Lib.hid (sameBools_any A2 B2 n2 c2 d2 F.ints _ _ _ hFx.ints hGx.ints m2)
  have HR := Lib.hid (fun x => sameRows_any A4 B4 n4 c4 d4 F.clauses _ _ _ (hFx.clauses.drewN (stays_arr stays_int) x) (hGx.clauses.drewN (stays_arr stays_int) x) m4)
  have HN := Lib.hid (And.intro hFx (And.intro hGx (And.intro hb0 (And.intro hbk0 (And.intro hbm0 hs0)))))
  clear hF hG hFx hGx hb0 hbk0 hbm0 hs0
  go_enter Try.func16, Try.ntmps16
  go_wp2_with fail
  refine HB.out.mono ?_
  rintro e w' ⟨rfl, mm, rfl⟩
  go_wp2_with fail
  refine (HR.out _).mono ?_
  rintro e w' ⟨rfl, mm2, rfl⟩
  obtain ⟨hFx, hGx, hb0, hbk0, hbm0, hs0⟩ := HN.out
  clear HB HR HN
  generalize ((w.alloc (.cells #[.slice A1 n1 c1, .slice A2 n2 c2, .slice A3 n3 c3, .slice A4 n4 c4] 27)).alloc (.cells #[.slice B1 n1 d1, .slice B2 n2 d2, .slice B3 n3 d3, .slice B4 n4 d4] 27)) = X at *
  have HX := Lib.hid (And.intro hFx (And.intro hGx (And.intro hb0 (And.intro hbk0 (And.intro hbm0 hs0)))))
  have hz0 : w.heap.size < X.heap.size := by omega
  have hz1 : w.heap.size + 1 < X.heap.size := by omega
  clear hFx hGx hb0 hbk0 hbm0 hs0
  go_wp2_with fail
  go_loopw [5] (fun s wr => ∃ k : Nat, k ≤ n1 ∧ s = .int .i64 k ∧ Hid (∃ m, wr = X.drewN m)) (fun s _ => n1 - (intOf s).toNat)
  case atStart => exact ⟨0, Nat.zero_le _, rfl, _, rfl⟩
  case round =>
    obtain ⟨k, hk, rfl, HM⟩ := hrel
    have hW : Blk wr w.heap.size 27 #[.slice A1 n1 c1, .slice A2 n2 c2, .slice A3 n3 c3, .slice A4 n4 c4] ∧ Blk wr (w.heap.size + 1) 27 #[.slice B1 n1 d1, .slice B2 n2 d2, .slice B3 n3 d3, .slice B4 n4 d4] ∧ ArrB AtTerm 2 wr w.heap.size A1 n1 F.terms ∧ ArrB AtTerm 2 wr w.heap.size B1 n1 F.terms := by
      obtain ⟨mx, rfl⟩ := HM.out
      exact ⟨HX.out.2.2.2.1, HX.out.2.2.2.2.1, HX.out.1.terms.drewN stays_term mx, HX.out.2.1.terms.drewN stays_term mx⟩
    obtain ⟨hk1, hk2, ht1, ht2⟩ := hW
    have i0 : wr.cell? ⟨w.heap.size, 0, none⟩ = some (.slice A1 n1 c1) := hk1.cell 0
    have j0 : wr.cell? ⟨w.heap.size + 1, 0, none⟩ = some (.slice B1 n1 d1) := hk2.cell 0
    by_cases hlt : k < n1
    · obtain ⟨b, off, hx, A', n', c', rfl, hb, h0, h1, hnc, hcm, hks, -, -⟩ := terms_get ht1 hlt
      obtain ⟨b2, off2, hx2, A2', n2', c2', rfl, hb2, h02, h12, hnc2, hcm2, hks2, -, -⟩ := terms_get ht2 hlt
      have hln := hks.len
      have hln2 := hks2.len
      obtain rfl : n2' = n' := by omega
      have HC := Lib.hid (fun x => sameInts_any A' A2' n2' c' c2' F.terms[k].kids _ _ (wr.drewN x) (hks.drewN stays_int x) (hks2.drewN stays_int x) (by unfold maxLen at hcm; omega))
      have hq : (F.terms[k].head != F.terms[k].head) = false := by simp
      have hij : (k : Int) < n1 := by omega
      generalize F.terms[k] = t at h0 h02 h1 h12 hq HC hks hks2 hln hln2
      clear hks hks2 hln hln2 hb hb2 hnc hcm hnc2 hcm2 hx2 hx ht1 ht2 hk1 hk2
      go_wp2_with fail
      go_quiet ((go_at_call 42; exact Calls.quiet_of (HC.out _)))
      go_wp2_with fail
      go_roundw
      case rel => exact ⟨k + 1, by omega, by go_num, by obtain ⟨m, e⟩ := HM.out; exact ⟨m + nq, by rw [e, World.drewN_drewN]⟩⟩
      case measure => simp [intOf]; omega
    · obtain rfl : k = n1 := by omega
      clear hk1 hk2 ht1 ht2
      go_wp2_with fail
      clear i0 j0
      have hbw : Below w.heap.size w wr := by
        obtain ⟨mx, rfl⟩ := HM.out
        exact below_drewN HX.out.2.2.1 mx
      have hzx : X.heap.size ≤ wr.heap.size := by
        obtain ⟨mx, rfl⟩ := HM.out
        exact Nat.le_refl _
      have hxw : Below X.heap.size X wr := by
        obtain ⟨mx, rfl⟩ := HM.out
        exact below_drewN (Below.refl _ _) mx
      go_loopw [6] (fun s wx => ∃ j : Nat, j ≤ n3 ∧ s = .int .i64 j ∧ Below X.heap.size X wx) (fun s _ => n3 - (intOf s).toNat)
      case atStart => exact ⟨0, Nat.zero_le _, rfl, hxw⟩
      case round =>
        obtain ⟨j, hj, rfl, hbx⟩ := hrel
        clear hxw hbw hzx HM
        obtain ⟨hFx, hGx, hb0, hbk0, hbm0, hs0⟩ := HX.out
        have hk1 := hbk0.below hbx hz0
        have hk2 := hbm0.below hbx hz1
        have ht1 := hFx.atoms.below stays_atom (hbx.mono (by omega)) (Nat.le_refl w.heap.size)
        have ht2 := hGx.atoms.below stays_atom (hbx.mono (by omega)) (Nat.le_refl w.heap.size)
        have hbw := hb0.trans (hbx.mono (by omega))
        have hzz := hbx.size
        have s0 := hk1.cell 2
        have t0 := hk2.cell 2
        simp only [List.getElem?_toArray, List.getElem?_cons_zero, List.getElem?_cons_succ] at s0 t0
        clear hFx hGx hb0 hbk0 hbm0 hs0 hk1 hk2
        by_cases hlt : j < n3
        · obtain ⟨b, off, hx, A', n', c', rfl, hb, h0, h1, h2, h3, h4, h5, hnc, hcm, hks, -⟩ := atoms_get ht1 hlt
          obtain ⟨b2, off2, hx2, A2', n2', c2', rfl, hb2, h02, h12, h22, h32, h42, h52, hnc2, hcm2, hks2, -⟩ := atoms_get ht2 hlt
          have hln := hks.len
          have hln2 := hks2.len
          obtain rfl : n2' = n' := by omega
          have HC := Lib.hid (fun (W : World) (hW : Below w.heap.size wr W) => sameAtom_any A' A2' n2' c' c2' F.atoms[j].row.of_ F.atoms[j].kind F.atoms[j].a F.atoms[j].b F.atoms[j].row.kind F.atoms[j].row.to_ (fun b => b < w.heap.size) (fun b => b < w.heap.size) W (fun b hb => Nat.lt_of_lt_of_le hb (by have := hW.size; omega)) (fun b hb => Nat.lt_of_lt_of_le hb (by have := hW.size; omega)) (hks.below stays_int hW (Nat.le_refl _)) (hks2.below stays_int hW (Nat.le_refl _)) (by unfold maxLen at hcm; omega))
          generalize F.atoms[j] = t at h0 h02 h1 h12 h2 h22 h3 h32 h4 h42 h5 h52 HC hks hks2 hln hln2
          obtain ⟨ak, aa, ab, ks, rk, rt⟩ := t
          simp only at h0 h02 h1 h12 h2 h22 h3 h32 h4 h42 h5 h52 HC
          have hij : (j : Int) < n3 := by omega
          have HBX := Lib.hid hbx
          have HBD : Hid (Below w.heap.size wr wr.drew) := below_drewN (Below.refl _ _) 1
          have hbl : b < wr.heap.size := by omega
          have hbl2 : b2 < wr.heap.size := by omega
          have hwl : w.heap.size < wr.heap.size := by omega
          have hwl2 : w.heap.size + 1 < wr.heap.size := by omega
          clear hks hks2 hln hln2 hb hb2 hnc hcm hnc2 hcm2 hx2 hx ht1 ht2 hbw hbx
          go_wp2_with fail
          go_region_held3 (fun w' => w'.cell? ⟨w.heap.size, 2, none⟩ = some (.slice (some ⟨b, off, none⟩) n3 c3) ∧ w'.cell? ⟨w.heap.size + 1, 2, none⟩ = some (.slice (some ⟨b2, off2, none⟩) n3 d3) ∧ w'.cell? ⟨b, off + j * 6, none⟩ = some (.int .i64 ak) ∧ w'.cell? ⟨b, off + j * 6 + 1, none⟩ = some (.int .i64 aa) ∧ w'.cell? ⟨b, off + j * 6 + 2, none⟩ = some (.int .i64 ab) ∧ w'.cell? ⟨b, off + j * 6 + 3, none⟩ = some (.slice A' n2' c') ∧ w'.cell? ⟨b, off + j * 6 + 4, none⟩ = some (.int .i64 rk) ∧ w'.cell? ⟨b, off + j * 6 + 5, none⟩ = some (.int .i64 rt) ∧ w'.cell? ⟨b2, off2 + j * 6, none⟩ = some (.int .i64 ak) ∧ w'.cell? ⟨b2, off2 + j * 6 + 1, none⟩ = some (.int .i64 aa) ∧ w'.cell? ⟨b2, off2 + j * 6 + 2, none⟩ = some (.int .i64 ab) ∧ w'.cell? ⟨b2, off2 + j * 6 + 3, none⟩ = some (.slice A2' n2' c2') ∧ w'.cell? ⟨b2, off2 + j * 6 + 4, none⟩ = some (.int .i64 rk) ∧ w'.cell? ⟨b2, off2 + j * 6 + 5, none⟩ = some (.int .i64 rt))
            (go_keep)
            (first
              | (go_simp
                 go_at_call 43
                 refine (HC.out _ HBD.out).mono ?_
                 rintro e z1 ⟨rfl, hb1⟩
                 have zs0 : z1.cell? ⟨w.heap.size, 2, none⟩ = some (.slice (some ⟨b, off, none⟩) n3 c3) := by rw [hb1.cell (p := ⟨w.heap.size, 2, none⟩) (by simpa using by first | exact hbl | exact hbl2 | exact hwl | exact hwl2)]; exact s0
                 have zt0 : z1.cell? ⟨w.heap.size + 1, 2, none⟩ = some (.slice (some ⟨b2, off2, none⟩) n3 d3) := by rw [hb1.cell (p := ⟨w.heap.size + 1, 2, none⟩) (by simpa using by first | exact hbl | exact hbl2 | exact hwl | exact hwl2)]; exact t0
                 have zh0 : z1.cell? ⟨b, off + j * 6, none⟩ = some (.int .i64 ak) := by rw [hb1.cell (p := ⟨b, off + j * 6, none⟩) (by simpa using by first | exact hbl | exact hbl2 | exact hwl | exact hwl2)]; exact h0
                 have zh1 : z1.cell? ⟨b, off + j * 6 + 1, none⟩ = some (.int .i64 aa) := by rw [hb1.cell (p := ⟨b, off + j * 6 + 1, none⟩) (by simpa using by first | exact hbl | exact hbl2 | exact hwl | exact hwl2)]; exact h1
                 have zh2 : z1.cell? ⟨b, off + j * 6 + 2, none⟩ = some (.int .i64 ab) := by rw [hb1.cell (p := ⟨b, off + j * 6 + 2, none⟩) (by simpa using by first | exact hbl | exact hbl2 | exact hwl | exact hwl2)]; exact h2
                 have zh3 : z1.cell? ⟨b, off + j * 6 + 3, none⟩ = some (.slice A' n2' c') := by rw [hb1.cell (p := ⟨b, off + j * 6 + 3, none⟩) (by simpa using by first | exact hbl | exact hbl2 | exact hwl | exact hwl2)]; exact h3
                 have zh4 : z1.cell? ⟨b, off + j * 6 + 4, none⟩ = some (.int .i64 rk) := by rw [hb1.cell (p := ⟨b, off + j * 6 + 4, none⟩) (by simpa using by first | exact hbl | exact hbl2 | exact hwl | exact hwl2)]; exact h4
                 have zh5 : z1.cell? ⟨b, off + j * 6 + 5, none⟩ = some (.int .i64 rt) := by rw [hb1.cell (p := ⟨b, off + j * 6 + 5, none⟩) (by simpa using by first | exact hbl | exact hbl2 | exact hwl | exact hwl2)]; exact h5
                 have zh02 : z1.cell? ⟨b2, off2 + j * 6, none⟩ = some (.int .i64 ak) := by rw [hb1.cell (p := ⟨b2, off2 + j * 6, none⟩) (by simpa using by first | exact hbl | exact hbl2 | exact hwl | exact hwl2)]; exact h02
                 have zh12 : z1.cell? ⟨b2, off2 + j * 6 + 1, none⟩ = some (.int .i64 aa) := by rw [hb1.cell (p := ⟨b2, off2 + j * 6 + 1, none⟩) (by simpa using by first | exact hbl | exact hbl2 | exact hwl | exact hwl2)]; exact h12
                 have zh22 : z1.cell? ⟨b2, off2 + j * 6 + 2, none⟩ = some (.int .i64 ab) := by rw [hb1.cell (p := ⟨b2, off2 + j * 6 + 2, none⟩) (by simpa using by first | exact hbl | exact hbl2 | exact hwl | exact hwl2)]; exact h22
                 have zh32 : z1.cell? ⟨b2, off2 + j * 6 + 3, none⟩ = some (.slice A2' n2' c2') := by rw [hb1.cell (p := ⟨b2, off2 + j * 6 + 3, none⟩) (by simpa using by first | exact hbl | exact hbl2 | exact hwl | exact hwl2)]; exact h32
                 have zh42 : z1.cell? ⟨b2, off2 + j * 6 + 4, none⟩ = some (.int .i64 rk) := by rw [hb1.cell (p := ⟨b2, off2 + j * 6 + 4, none⟩) (by simpa using by first | exact hbl | exact hbl2 | exact hwl | exact hwl2)]; exact h42
                 have zh52 : z1.cell? ⟨b2, off2 + j * 6 + 5, none⟩ = some (.int .i64 rt) := by rw [hb1.cell (p := ⟨b2, off2 + j * 6 + 5, none⟩) (by simpa using by first | exact hbl | exact hbl2 | exact hwl | exact hwl2)]; exact h52
                 have HB1 := Lib.hid hb1
                 clear hb1)
              | fail)
          go_wp2_with fail
          go_roundw
          case rel => exact ⟨j + 1, by omega, by go_num, HBX.out.trans (below_of_drew (HB1.out.mono (by simp; omega)))⟩
          case measure => simp [intOf]; omega
        · obtain rfl : j = n3 := by omega
          go_wp2_with fail
          go_ret
          exact ⟨rfl, hbw⟩
end Go.Proofs.Ytpceiifacendfaa
