/- Walk: the sort of a node, by its kids' sorts: sums. -/
import Derived.Test.YtggkfepifnfdoaaAskP4
import Derived.Deep.RegionHeld3
namespace Go.Proofs.Ytggkfepifnfdoaa
open Go.RowKit

set_option maxRecDepth 100000 in
set_option maxHeartbeats 8000000 in
theorem sort_11 (n d : Int) (nm : ByteArray) (K : Option Addr) (kn kc : Nat) (A : Option Addr) (na c : Nat) (ks : List Int) (dn : ByteArray) (A3 : Option Addr) (n3 c3 : Nat) (ds : Int) (ar : List Int) (w : World) (hks : IntsB w w.heap.size A na ks) (hna : na ≤ 8) :
    Calls Try.prog 62 #[.agg #[.int .i64 11, .slice K kn kc, .int .i64 n, .int .i64 d, .string nm], .slice A na c, .agg #[.string dn, .slice A3 n3 c3, .int .i64 ds]] w fun e w' => e = .returned (.int .i64 (sortF 11 d ks ar ds)) ∧ Below w.heap.size w w' := by
  have eg_numS : ∀ args w, (callFunc 89 args).run Try.prog w = .ok (.enter 89 args) w := enters_of Try.func89 (by kernel_rfl) rfl
  have eg_isIntS : ∀ args w, (callFunc 91 args).run Try.prog w = .ok (.enter 91 args) w := enters_of Try.func91 (by kernel_rfl) rfl
  have hl := hks.len
  have hall_numS : ∀ W : World, Below w.heap.size w W → Calls Try.prog 87 #[.slice A na c, .func (.func 89) #[] #[]] W fun e w' => e = .returned (.bool (allB numS ks)) ∧ Below W.heap.size W w' := fun W hW =>
    all_any 89 eg_numS numS A na c ks _ W (hks.below stays_int hW hW.size) (by omega) numeric_pred rfl
  have hall_isIntS : ∀ W : World, Below w.heap.size w W → Calls Try.prog 87 #[.slice A na c, .func (.func 91) #[] #[]] W fun e w' => e = .returned (.bool (allB isIntS ks)) ∧ Below W.heap.size W w' := fun W hW =>
    all_any 91 eg_isIntS isIntS A na c ks _ W (hks.below stays_int hW hW.size) (by omega) isInt_pred rfl
  have hs : ∀ r s, allB numS ks = r → allB isIntS ks = s → sortF 11 d ks ar ds = if r then (if s then 2 else 3) else 0 := fun r s hr hs => by subst hr; subst hs; simp [sortF]
  have h2 := two_or ks
  rw [hl] at h2
  cases hr : allB numS ks <;> cases hi : allB isIntS ks
  all_goals
    have HS := Lib.hid (hs _ _ hr hi)
    rw [hr] at hall_numS
    rw [hi] at hall_isIntS
    have HC1 := Lib.hid hall_numS
    have HC2 := Lib.hid hall_isIntS
    clear hs hall_numS hall_isIntS eg_numS eg_isIntS hr hi
    rcases h2 with ⟨a, a2, rfl⟩ | h2
    · obtain rfl : 2 = na := hl
      obtain ⟨b, off, rfl, hb, k0, k1⟩ := ints_two hks
      clear hna
      obtain ⟨hb0, hn0, hk0, hd0, hs0⟩ := three_boxes w #[.int .i64 11, .slice K kn kc, .int .i64 n, .int .i64 d, .string nm] #[.slice (some ⟨b, off, none⟩) 2 c] #[.string dn, .slice A3 n3 c3, .int .i64 ds]
      have x0 : (((w.alloc (.cells #[.int .i64 11, .slice K kn kc, .int .i64 n, .int .i64 d, .string nm] 65)).alloc (.cells #[.slice (some ⟨b, off, none⟩) 2 c] 22)).alloc (.cells #[.string dn, .slice A3 n3 c3, .int .i64 ds] 83)).cell? ⟨w.heap.size, 0, none⟩ = some (.int .i64 11) := hn0.cell 0
      have x3 : (((w.alloc (.cells #[.int .i64 11, .slice K kn kc, .int .i64 n, .int .i64 d, .string nm] 65)).alloc (.cells #[.slice (some ⟨b, off, none⟩) 2 c] 22)).alloc (.cells #[.string dn, .slice A3 n3 c3, .int .i64 ds] 83)).cell? ⟨w.heap.size, 3, none⟩ = some (.int .i64 d) := hn0.cell 3
      have y0 : (((w.alloc (.cells #[.int .i64 11, .slice K kn kc, .int .i64 n, .int .i64 d, .string nm] 65)).alloc (.cells #[.slice (some ⟨b, off, none⟩) 2 c] 22)).alloc (.cells #[.string dn, .slice A3 n3 c3, .int .i64 ds] 83)).cell? ⟨w.heap.size + 1, 0, none⟩ = some (.slice (some ⟨b, off, none⟩) 2 c) := hk0.cell 0
      have z1 : (((w.alloc (.cells #[.int .i64 11, .slice K kn kc, .int .i64 n, .int .i64 d, .string nm] 65)).alloc (.cells #[.slice (some ⟨b, off, none⟩) 2 c] 22)).alloc (.cells #[.string dn, .slice A3 n3 c3, .int .i64 ds] 83)).cell? ⟨w.heap.size + 2, 1, none⟩ = some (.slice A3 n3 c3) := hd0.cell 1
      have z2 : (((w.alloc (.cells #[.int .i64 11, .slice K kn kc, .int .i64 n, .int .i64 d, .string nm] 65)).alloc (.cells #[.slice (some ⟨b, off, none⟩) 2 c] 22)).alloc (.cells #[.string dn, .slice A3 n3 c3, .int .i64 ds] 83)).cell? ⟨w.heap.size + 2, 2, none⟩ = some (.int .i64 ds) := hd0.cell 2
      have j0 : (((w.alloc (.cells #[.int .i64 11, .slice K kn kc, .int .i64 n, .int .i64 d, .string nm] 65)).alloc (.cells #[.slice (some ⟨b, off, none⟩) 2 c] 22)).alloc (.cells #[.string dn, .slice A3 n3 c3, .int .i64 ds] 83)).cell? ⟨b, off, none⟩ = some (.int .i64 a) := (hb0.cell (p := ⟨b, off, none⟩) hb).trans k0
      have j1 : (((w.alloc (.cells #[.int .i64 11, .slice K kn kc, .int .i64 n, .int .i64 d, .string nm] 65)).alloc (.cells #[.slice (some ⟨b, off, none⟩) 2 c] 22)).alloc (.cells #[.string dn, .slice A3 n3 c3, .int .i64 ds] 83)).cell? ⟨b, off + 1, none⟩ = some (.int .i64 a2) := (hb0.cell (p := ⟨b, off + 1, none⟩) hb).trans k1
      clear hks k0 k1
      have HB := Lib.hid (And.intro hb0 (And.intro hn0 (And.intro hk0 (And.intro hd0 hs0))))
      clear hb0 hn0 hk0 hd0 hs0
      go_enter Try.func62, Try.ntmps62
      go_wp2_with fail
      generalize (((w.alloc (.cells #[.int .i64 11, .slice K kn kc, .int .i64 n, .int .i64 d, .string nm] 65)).alloc (.cells #[.slice (some ⟨b, off, none⟩) 2 c] 22)).alloc (.cells #[.string dn, .slice A3 n3 c3, .int .i64 ds] 83)) = X at x0 x3 y0 z1 z2 j0 j1 HB ⊢
      go_quiet (fail)
      go_wp2_with fail
      have hz0 : X.heap.size = w.heap.size + 3 := HB.out.2.2.2.2
      go_region_held3 (fun w' => w'.cell? ⟨w.heap.size + 1, 0, none⟩ = some (.slice (some ⟨b, off, none⟩) 2 c))
        (go_keep)
        (first
          | (go_simp
             go_at_call 90
             refine (whole_is _ _ rfl _).mono ?_
             rintro e w1 ⟨rfl, rfl⟩)
          | (go_simp
             go_at_call 87
             with_reducible refine (HC1.out _ (below_drewN HB.out.1 _)).mono ?_
             rintro e w1 ⟨rfl, hb1⟩
             have hbw1 : Below w.heap.size w w1 := (below_drewN HB.out.1 _).trans (hb1.mono (below_drewN HB.out.1 _).size)
             have hk1 : w1.cell? ⟨w.heap.size + 1, 0, none⟩ = some (.slice (some ⟨b, off, none⟩) 2 c) := by rw [hb1.cell (p := ⟨w.heap.size + 1, 0, none⟩) (by simp; omega)]; exact y0
             have hz1 : w.heap.size + 3 ≤ w1.heap.size := by have := hb1.size; simp at this; omega)
          | (go_simp
             go_at_call 87
             with_reducible refine (HC2.out _ (below_drewN hbw1 _)).mono ?_
             rintro e w2 ⟨rfl, hb2⟩
             have hbw2 : Below w.heap.size w w2 := (below_drewN hbw1 _).trans (hb2.mono (below_drewN hbw1 _).size)
             have hk2 : w2.cell? ⟨w.heap.size + 1, 0, none⟩ = some (.slice (some ⟨b, off, none⟩) 2 c) := by rw [hb2.cell (p := ⟨w.heap.size + 1, 0, none⟩) (by simp; omega)]; exact hk1)
          | (go_simp
             go_at_call 87
             with_reducible refine (HC2.out _ hbw1).mono ?_
             rintro e w2 ⟨rfl, hb2⟩
             have hbw2 : Below w.heap.size w w2 := hbw1.trans (hb2.mono hbw1.size)
             have hk2 : w2.cell? ⟨w.heap.size + 1, 0, none⟩ = some (.slice (some ⟨b, off, none⟩) 2 c) := by rw [hb2.cell (p := ⟨w.heap.size + 1, 0, none⟩) (by simp; omega)]; exact hk1)
          | fail)
      have HB2 := Lib.hid hbw2
      clear hbw1 hbw2 hb1 hb2 hk1 hk2
      go_wp2_with fail
      go_ret
      exact ⟨ret_int (by rw [HS.out]; rfl), (by first | exact HB2.out | exact below_drewN HB2.out _ | exact below_drewN HB2.out 1)⟩
    · clear hks hl
      obtain ⟨hb0, hn0, hk0, hd0, hs0⟩ := three_boxes w #[.int .i64 11, .slice K kn kc, .int .i64 n, .int .i64 d, .string nm] #[.slice A na c] #[.string dn, .slice A3 n3 c3, .int .i64 ds]
      have x0 : (((w.alloc (.cells #[.int .i64 11, .slice K kn kc, .int .i64 n, .int .i64 d, .string nm] 65)).alloc (.cells #[.slice A na c] 22)).alloc (.cells #[.string dn, .slice A3 n3 c3, .int .i64 ds] 83)).cell? ⟨w.heap.size, 0, none⟩ = some (.int .i64 11) := hn0.cell 0
      have x3 : (((w.alloc (.cells #[.int .i64 11, .slice K kn kc, .int .i64 n, .int .i64 d, .string nm] 65)).alloc (.cells #[.slice A na c] 22)).alloc (.cells #[.string dn, .slice A3 n3 c3, .int .i64 ds] 83)).cell? ⟨w.heap.size, 3, none⟩ = some (.int .i64 d) := hn0.cell 3
      have y0 : (((w.alloc (.cells #[.int .i64 11, .slice K kn kc, .int .i64 n, .int .i64 d, .string nm] 65)).alloc (.cells #[.slice A na c] 22)).alloc (.cells #[.string dn, .slice A3 n3 c3, .int .i64 ds] 83)).cell? ⟨w.heap.size + 1, 0, none⟩ = some (.slice A na c) := hk0.cell 0
      have z1 : (((w.alloc (.cells #[.int .i64 11, .slice K kn kc, .int .i64 n, .int .i64 d, .string nm] 65)).alloc (.cells #[.slice A na c] 22)).alloc (.cells #[.string dn, .slice A3 n3 c3, .int .i64 ds] 83)).cell? ⟨w.heap.size + 2, 1, none⟩ = some (.slice A3 n3 c3) := hd0.cell 1
      have z2 : (((w.alloc (.cells #[.int .i64 11, .slice K kn kc, .int .i64 n, .int .i64 d, .string nm] 65)).alloc (.cells #[.slice A na c] 22)).alloc (.cells #[.string dn, .slice A3 n3 c3, .int .i64 ds] 83)).cell? ⟨w.heap.size + 2, 2, none⟩ = some (.int .i64 ds) := hd0.cell 2
      have HB := Lib.hid (And.intro hb0 (And.intro hn0 (And.intro hk0 (And.intro hd0 hs0))))
      clear hb0 hn0 hk0 hd0 hs0
      go_enter Try.func62, Try.ntmps62
      go_wp2_with fail
      generalize (((w.alloc (.cells #[.int .i64 11, .slice K kn kc, .int .i64 n, .int .i64 d, .string nm] 65)).alloc (.cells #[.slice A na c] 22)).alloc (.cells #[.string dn, .slice A3 n3 c3, .int .i64 ds] 83)) = X at x0 x3 y0 z1 z2 HB ⊢
      go_quiet (fail)
      go_wp2_with fail
      have hz0 : X.heap.size = w.heap.size + 3 := HB.out.2.2.2.2
      go_region_held3 (fun w' => w'.cell? ⟨w.heap.size + 1, 0, none⟩ = some (.slice A na c))
        (go_keep)
        (first
          | (go_simp
             go_at_call 90
             refine (whole_is _ _ rfl _).mono ?_
             rintro e w1 ⟨rfl, rfl⟩)
          | (go_simp
             go_at_call 87
             with_reducible refine (HC1.out _ (below_drewN HB.out.1 _)).mono ?_
             rintro e w1 ⟨rfl, hb1⟩
             have hbw1 : Below w.heap.size w w1 := (below_drewN HB.out.1 _).trans (hb1.mono (below_drewN HB.out.1 _).size)
             have hk1 : w1.cell? ⟨w.heap.size + 1, 0, none⟩ = some (.slice A na c) := by rw [hb1.cell (p := ⟨w.heap.size + 1, 0, none⟩) (by simp; omega)]; exact y0
             have hz1 : w.heap.size + 3 ≤ w1.heap.size := by have := hb1.size; simp at this; omega)
          | (go_simp
             go_at_call 87
             with_reducible refine (HC2.out _ (below_drewN hbw1 _)).mono ?_
             rintro e w2 ⟨rfl, hb2⟩
             have hbw2 : Below w.heap.size w w2 := (below_drewN hbw1 _).trans (hb2.mono (below_drewN hbw1 _).size)
             have hk2 : w2.cell? ⟨w.heap.size + 1, 0, none⟩ = some (.slice A na c) := by rw [hb2.cell (p := ⟨w.heap.size + 1, 0, none⟩) (by simp; omega)]; exact hk1)
          | (go_simp
             go_at_call 87
             with_reducible refine (HC2.out _ hbw1).mono ?_
             rintro e w2 ⟨rfl, hb2⟩
             have hbw2 : Below w.heap.size w w2 := hbw1.trans (hb2.mono hbw1.size)
             have hk2 : w2.cell? ⟨w.heap.size + 1, 0, none⟩ = some (.slice A na c) := by rw [hb2.cell (p := ⟨w.heap.size + 1, 0, none⟩) (by simp; omega)]; exact hk1)
          | fail)
      have HB2 := Lib.hid hbw2
      clear hbw1 hbw2 hb1 hb2 hk1 hk2
      go_wp2_with fail
      go_ret
      exact ⟨ret_int (by rw [HS.out]; rfl), (by first | exact HB2.out | exact below_drewN HB2.out _ | exact below_drewN HB2.out 1)⟩

end Go.Proofs.Ytggkfepifnfdoaa
