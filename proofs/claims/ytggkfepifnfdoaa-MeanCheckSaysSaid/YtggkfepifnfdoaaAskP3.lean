/- Walk: the sort of a node, by its kids' sorts: operators that ask something of all kids. -/
import Derived.Test.YtggkfepifnfdoaaAskP2
namespace Go.Proofs.Ytggkfepifnfdoaa
open Go.RowKit

/-- the length of the kids: two, or another -/
theorem two_or (ks : List Int) : (∃ a a2, ks = [a, a2]) ∨ (((ks.length : Nat) : Int) == 2) = false := by
  by_cases h : (ks.length : Int) = 2
  · exact .inl (len2 h)
  · exact .inr (by rw [beq_eq_false_iff_ne]; exact h)

set_option maxRecDepth 100000 in
set_option maxHeartbeats 8000000 in
theorem sort_3 (n d : Int) (nm : ByteArray) (K : Option Addr) (kn kc : Nat) (A : Option Addr) (na c : Nat) (ks : List Int) (dn : ByteArray) (A3 : Option Addr) (n3 c3 : Nat) (ds : Int) (ar : List Int) (w : World) (hks : IntsB w w.heap.size A na ks) (hna : na ≤ 8) :
    Calls Try.prog 62 #[.agg #[.int .i64 3, .slice K kn kc, .int .i64 n, .int .i64 d, .string nm], .slice A na c, .agg #[.string dn, .slice A3 n3 c3, .int .i64 ds]] w fun e w' => e = .returned (.int .i64 (sortF 3 d ks ar ds)) ∧ Below w.heap.size w w' := by
  have eg_isBoolS : ∀ args w, (callFunc 88 args).run Try.prog w = .ok (.enter 88 args) w := enters_of Try.func88 (by kernel_rfl) rfl
  have hl := hks.len
  have hs : sortF 3 d ks ar ds = if allB isBoolS ks then 1 else 0 := by simp [sortF]
  have hall : ∀ W : World, Below w.heap.size w W → Calls Try.prog 87 #[.slice A na c, .func (.func 88) #[] #[]] W fun e w' => e = .returned (.bool (allB isBoolS ks)) ∧ Below W.heap.size W w' := fun W hW =>
    all_any 88 eg_isBoolS isBoolS A na c ks _ W (hks.below stays_int hW hW.size) (by omega) isBool_pred rfl
  have h2 := two_or ks
  rw [hl] at h2
  generalize allB isBoolS ks = r at hs hall
  have HS := Lib.hid hs
  have HC := Lib.hid hall
  clear hs hall eg_isBoolS
  rcases h2 with ⟨a, a2, rfl⟩ | h2
  · obtain rfl : 2 = na := hl
    obtain ⟨b, off, rfl, hb, k0, k1⟩ := ints_two hks
    clear hna
    cases r
    all_goals
      obtain ⟨hb0, hn0, hk0, hd0, hs0⟩ := three_boxes w #[.int .i64 3, .slice K kn kc, .int .i64 n, .int .i64 d, .string nm] #[.slice (some ⟨b, off, none⟩) 2 c] #[.string dn, .slice A3 n3 c3, .int .i64 ds]
      have x0 : (((w.alloc (.cells #[.int .i64 3, .slice K kn kc, .int .i64 n, .int .i64 d, .string nm] 65)).alloc (.cells #[.slice (some ⟨b, off, none⟩) 2 c] 22)).alloc (.cells #[.string dn, .slice A3 n3 c3, .int .i64 ds] 83)).cell? ⟨w.heap.size, 0, none⟩ = some (.int .i64 3) := hn0.cell 0
      have x3 : (((w.alloc (.cells #[.int .i64 3, .slice K kn kc, .int .i64 n, .int .i64 d, .string nm] 65)).alloc (.cells #[.slice (some ⟨b, off, none⟩) 2 c] 22)).alloc (.cells #[.string dn, .slice A3 n3 c3, .int .i64 ds] 83)).cell? ⟨w.heap.size, 3, none⟩ = some (.int .i64 d) := hn0.cell 3
      have y0 : (((w.alloc (.cells #[.int .i64 3, .slice K kn kc, .int .i64 n, .int .i64 d, .string nm] 65)).alloc (.cells #[.slice (some ⟨b, off, none⟩) 2 c] 22)).alloc (.cells #[.string dn, .slice A3 n3 c3, .int .i64 ds] 83)).cell? ⟨w.heap.size + 1, 0, none⟩ = some (.slice (some ⟨b, off, none⟩) 2 c) := hk0.cell 0
      have z1 : (((w.alloc (.cells #[.int .i64 3, .slice K kn kc, .int .i64 n, .int .i64 d, .string nm] 65)).alloc (.cells #[.slice (some ⟨b, off, none⟩) 2 c] 22)).alloc (.cells #[.string dn, .slice A3 n3 c3, .int .i64 ds] 83)).cell? ⟨w.heap.size + 2, 1, none⟩ = some (.slice A3 n3 c3) := hd0.cell 1
      have z2 : (((w.alloc (.cells #[.int .i64 3, .slice K kn kc, .int .i64 n, .int .i64 d, .string nm] 65)).alloc (.cells #[.slice (some ⟨b, off, none⟩) 2 c] 22)).alloc (.cells #[.string dn, .slice A3 n3 c3, .int .i64 ds] 83)).cell? ⟨w.heap.size + 2, 2, none⟩ = some (.int .i64 ds) := hd0.cell 2
      have j0 : (((w.alloc (.cells #[.int .i64 3, .slice K kn kc, .int .i64 n, .int .i64 d, .string nm] 65)).alloc (.cells #[.slice (some ⟨b, off, none⟩) 2 c] 22)).alloc (.cells #[.string dn, .slice A3 n3 c3, .int .i64 ds] 83)).cell? ⟨b, off, none⟩ = some (.int .i64 a) := (hb0.cell (p := ⟨b, off, none⟩) hb).trans k0
      have j1 : (((w.alloc (.cells #[.int .i64 3, .slice K kn kc, .int .i64 n, .int .i64 d, .string nm] 65)).alloc (.cells #[.slice (some ⟨b, off, none⟩) 2 c] 22)).alloc (.cells #[.string dn, .slice A3 n3 c3, .int .i64 ds] 83)).cell? ⟨b, off + 1, none⟩ = some (.int .i64 a2) := (hb0.cell (p := ⟨b, off + 1, none⟩) hb).trans k1
      clear hks k0 k1
      have HB := Lib.hid (And.intro hb0 (And.intro hn0 (And.intro hk0 (And.intro hd0 hs0))))
      clear hb0 hn0 hk0 hd0 hs0
      go_enter Try.func62, Try.ntmps62
      go_wp2_with fail
      generalize (((w.alloc (.cells #[.int .i64 3, .slice K kn kc, .int .i64 n, .int .i64 d, .string nm] 65)).alloc (.cells #[.slice (some ⟨b, off, none⟩) 2 c] 22)).alloc (.cells #[.string dn, .slice A3 n3 c3, .int .i64 ds] 83)) = X at x0 x3 y0 z1 z2 j0 j1 HB ⊢
      go_quiet (fail)
      go_wp2_with fail
      refine (HC.out _ (below_drewN HB.out.1 _)).mono ?_
      rintro e w1 ⟨rfl, hb1⟩
      go_wp2_with fail
      go_ret
      exact ⟨ret_int (by rw [HS.out]; rfl), (below_drewN HB.out.1 nq).trans (hb1.mono (below_drewN HB.out.1 nq).size)⟩
  · clear hks hl
    cases r
    all_goals
      obtain ⟨hb0, hn0, hk0, hd0, hs0⟩ := three_boxes w #[.int .i64 3, .slice K kn kc, .int .i64 n, .int .i64 d, .string nm] #[.slice A na c] #[.string dn, .slice A3 n3 c3, .int .i64 ds]
      have x0 : (((w.alloc (.cells #[.int .i64 3, .slice K kn kc, .int .i64 n, .int .i64 d, .string nm] 65)).alloc (.cells #[.slice A na c] 22)).alloc (.cells #[.string dn, .slice A3 n3 c3, .int .i64 ds] 83)).cell? ⟨w.heap.size, 0, none⟩ = some (.int .i64 3) := hn0.cell 0
      have x3 : (((w.alloc (.cells #[.int .i64 3, .slice K kn kc, .int .i64 n, .int .i64 d, .string nm] 65)).alloc (.cells #[.slice A na c] 22)).alloc (.cells #[.string dn, .slice A3 n3 c3, .int .i64 ds] 83)).cell? ⟨w.heap.size, 3, none⟩ = some (.int .i64 d) := hn0.cell 3
      have y0 : (((w.alloc (.cells #[.int .i64 3, .slice K kn kc, .int .i64 n, .int .i64 d, .string nm] 65)).alloc (.cells #[.slice A na c] 22)).alloc (.cells #[.string dn, .slice A3 n3 c3, .int .i64 ds] 83)).cell? ⟨w.heap.size + 1, 0, none⟩ = some (.slice A na c) := hk0.cell 0
      have z1 : (((w.alloc (.cells #[.int .i64 3, .slice K kn kc, .int .i64 n, .int .i64 d, .string nm] 65)).alloc (.cells #[.slice A na c] 22)).alloc (.cells #[.string dn, .slice A3 n3 c3, .int .i64 ds] 83)).cell? ⟨w.heap.size + 2, 1, none⟩ = some (.slice A3 n3 c3) := hd0.cell 1
      have z2 : (((w.alloc (.cells #[.int .i64 3, .slice K kn kc, .int .i64 n, .int .i64 d, .string nm] 65)).alloc (.cells #[.slice A na c] 22)).alloc (.cells #[.string dn, .slice A3 n3 c3, .int .i64 ds] 83)).cell? ⟨w.heap.size + 2, 2, none⟩ = some (.int .i64 ds) := hd0.cell 2
      have HB := Lib.hid (And.intro hb0 (And.intro hn0 (And.intro hk0 (And.intro hd0 hs0))))
      clear hb0 hn0 hk0 hd0 hs0
      go_enter Try.func62, Try.ntmps62
      go_wp2_with fail
      generalize (((w.alloc (.cells #[.int .i64 3, .slice K kn kc, .int .i64 n, .int .i64 d, .string nm] 65)).alloc (.cells #[.slice A na c] 22)).alloc (.cells #[.string dn, .slice A3 n3 c3, .int .i64 ds] 83)) = X at x0 x3 y0 z1 z2 HB ⊢
      go_quiet (fail)
      go_wp2_with fail
      refine (HC.out _ (below_drewN HB.out.1 _)).mono ?_
      rintro e w1 ⟨rfl, hb1⟩
      go_wp2_with fail
      go_ret
      exact ⟨ret_int (by rw [HS.out]; rfl), (below_drewN HB.out.1 nq).trans (hb1.mono (below_drewN HB.out.1 nq).size)⟩

set_option maxRecDepth 100000 in
set_option maxHeartbeats 8000000 in
theorem sort_4 (n d : Int) (nm : ByteArray) (K : Option Addr) (kn kc : Nat) (A : Option Addr) (na c : Nat) (ks : List Int) (dn : ByteArray) (A3 : Option Addr) (n3 c3 : Nat) (ds : Int) (ar : List Int) (w : World) (hks : IntsB w w.heap.size A na ks) (hna : na ≤ 8) :
    Calls Try.prog 62 #[.agg #[.int .i64 4, .slice K kn kc, .int .i64 n, .int .i64 d, .string nm], .slice A na c, .agg #[.string dn, .slice A3 n3 c3, .int .i64 ds]] w fun e w' => e = .returned (.int .i64 (sortF 4 d ks ar ds)) ∧ Below w.heap.size w w' := by
  have eg_isBoolS : ∀ args w, (callFunc 88 args).run Try.prog w = .ok (.enter 88 args) w := enters_of Try.func88 (by kernel_rfl) rfl
  have hl := hks.len
  have hs : sortF 4 d ks ar ds = if allB isBoolS ks then 1 else 0 := by simp [sortF]
  have hall : ∀ W : World, Below w.heap.size w W → Calls Try.prog 87 #[.slice A na c, .func (.func 88) #[] #[]] W fun e w' => e = .returned (.bool (allB isBoolS ks)) ∧ Below W.heap.size W w' := fun W hW =>
    all_any 88 eg_isBoolS isBoolS A na c ks _ W (hks.below stays_int hW hW.size) (by omega) isBool_pred rfl
  have h2 := two_or ks
  rw [hl] at h2
  generalize allB isBoolS ks = r at hs hall
  have HS := Lib.hid hs
  have HC := Lib.hid hall
  clear hs hall eg_isBoolS
  rcases h2 with ⟨a, a2, rfl⟩ | h2
  · obtain rfl : 2 = na := hl
    obtain ⟨b, off, rfl, hb, k0, k1⟩ := ints_two hks
    clear hna
    cases r
    all_goals
      obtain ⟨hb0, hn0, hk0, hd0, hs0⟩ := three_boxes w #[.int .i64 4, .slice K kn kc, .int .i64 n, .int .i64 d, .string nm] #[.slice (some ⟨b, off, none⟩) 2 c] #[.string dn, .slice A3 n3 c3, .int .i64 ds]
      have x0 : (((w.alloc (.cells #[.int .i64 4, .slice K kn kc, .int .i64 n, .int .i64 d, .string nm] 65)).alloc (.cells #[.slice (some ⟨b, off, none⟩) 2 c] 22)).alloc (.cells #[.string dn, .slice A3 n3 c3, .int .i64 ds] 83)).cell? ⟨w.heap.size, 0, none⟩ = some (.int .i64 4) := hn0.cell 0
      have x3 : (((w.alloc (.cells #[.int .i64 4, .slice K kn kc, .int .i64 n, .int .i64 d, .string nm] 65)).alloc (.cells #[.slice (some ⟨b, off, none⟩) 2 c] 22)).alloc (.cells #[.string dn, .slice A3 n3 c3, .int .i64 ds] 83)).cell? ⟨w.heap.size, 3, none⟩ = some (.int .i64 d) := hn0.cell 3
      have y0 : (((w.alloc (.cells #[.int .i64 4, .slice K kn kc, .int .i64 n, .int .i64 d, .string nm] 65)).alloc (.cells #[.slice (some ⟨b, off, none⟩) 2 c] 22)).alloc (.cells #[.string dn, .slice A3 n3 c3, .int .i64 ds] 83)).cell? ⟨w.heap.size + 1, 0, none⟩ = some (.slice (some ⟨b, off, none⟩) 2 c) := hk0.cell 0
      have z1 : (((w.alloc (.cells #[.int .i64 4, .slice K kn kc, .int .i64 n, .int .i64 d, .string nm] 65)).alloc (.cells #[.slice (some ⟨b, off, none⟩) 2 c] 22)).alloc (.cells #[.string dn, .slice A3 n3 c3, .int .i64 ds] 83)).cell? ⟨w.heap.size + 2, 1, none⟩ = some (.slice A3 n3 c3) := hd0.cell 1
      have z2 : (((w.alloc (.cells #[.int .i64 4, .slice K kn kc, .int .i64 n, .int .i64 d, .string nm] 65)).alloc (.cells #[.slice (some ⟨b, off, none⟩) 2 c] 22)).alloc (.cells #[.string dn, .slice A3 n3 c3, .int .i64 ds] 83)).cell? ⟨w.heap.size + 2, 2, none⟩ = some (.int .i64 ds) := hd0.cell 2
      have j0 : (((w.alloc (.cells #[.int .i64 4, .slice K kn kc, .int .i64 n, .int .i64 d, .string nm] 65)).alloc (.cells #[.slice (some ⟨b, off, none⟩) 2 c] 22)).alloc (.cells #[.string dn, .slice A3 n3 c3, .int .i64 ds] 83)).cell? ⟨b, off, none⟩ = some (.int .i64 a) := (hb0.cell (p := ⟨b, off, none⟩) hb).trans k0
      have j1 : (((w.alloc (.cells #[.int .i64 4, .slice K kn kc, .int .i64 n, .int .i64 d, .string nm] 65)).alloc (.cells #[.slice (some ⟨b, off, none⟩) 2 c] 22)).alloc (.cells #[.string dn, .slice A3 n3 c3, .int .i64 ds] 83)).cell? ⟨b, off + 1, none⟩ = some (.int .i64 a2) := (hb0.cell (p := ⟨b, off + 1, none⟩) hb).trans k1
      clear hks k0 k1
      have HB := Lib.hid (And.intro hb0 (And.intro hn0 (And.intro hk0 (And.intro hd0 hs0))))
      clear hb0 hn0 hk0 hd0 hs0
      go_enter Try.func62, Try.ntmps62
      go_wp2_with fail
      generalize (((w.alloc (.cells #[.int .i64 4, .slice K kn kc, .int .i64 n, .int .i64 d, .string nm] 65)).alloc (.cells #[.slice (some ⟨b, off, none⟩) 2 c] 22)).alloc (.cells #[.string dn, .slice A3 n3 c3, .int .i64 ds] 83)) = X at x0 x3 y0 z1 z2 j0 j1 HB ⊢
      go_quiet (fail)
      go_wp2_with fail
      refine (HC.out _ (below_drewN HB.out.1 _)).mono ?_
      rintro e w1 ⟨rfl, hb1⟩
      go_wp2_with fail
      go_ret
      exact ⟨ret_int (by rw [HS.out]; rfl), (below_drewN HB.out.1 nq).trans (hb1.mono (below_drewN HB.out.1 nq).size)⟩
  · clear hks hl
    cases r
    all_goals
      obtain ⟨hb0, hn0, hk0, hd0, hs0⟩ := three_boxes w #[.int .i64 4, .slice K kn kc, .int .i64 n, .int .i64 d, .string nm] #[.slice A na c] #[.string dn, .slice A3 n3 c3, .int .i64 ds]
      have x0 : (((w.alloc (.cells #[.int .i64 4, .slice K kn kc, .int .i64 n, .int .i64 d, .string nm] 65)).alloc (.cells #[.slice A na c] 22)).alloc (.cells #[.string dn, .slice A3 n3 c3, .int .i64 ds] 83)).cell? ⟨w.heap.size, 0, none⟩ = some (.int .i64 4) := hn0.cell 0
      have x3 : (((w.alloc (.cells #[.int .i64 4, .slice K kn kc, .int .i64 n, .int .i64 d, .string nm] 65)).alloc (.cells #[.slice A na c] 22)).alloc (.cells #[.string dn, .slice A3 n3 c3, .int .i64 ds] 83)).cell? ⟨w.heap.size, 3, none⟩ = some (.int .i64 d) := hn0.cell 3
      have y0 : (((w.alloc (.cells #[.int .i64 4, .slice K kn kc, .int .i64 n, .int .i64 d, .string nm] 65)).alloc (.cells #[.slice A na c] 22)).alloc (.cells #[.string dn, .slice A3 n3 c3, .int .i64 ds] 83)).cell? ⟨w.heap.size + 1, 0, none⟩ = some (.slice A na c) := hk0.cell 0
      have z1 : (((w.alloc (.cells #[.int .i64 4, .slice K kn kc, .int .i64 n, .int .i64 d, .string nm] 65)).alloc (.cells #[.slice A na c] 22)).alloc (.cells #[.string dn, .slice A3 n3 c3, .int .i64 ds] 83)).cell? ⟨w.heap.size + 2, 1, none⟩ = some (.slice A3 n3 c3) := hd0.cell 1
      have z2 : (((w.alloc (.cells #[.int .i64 4, .slice K kn kc, .int .i64 n, .int .i64 d, .string nm] 65)).alloc (.cells #[.slice A na c] 22)).alloc (.cells #[.string dn, .slice A3 n3 c3, .int .i64 ds] 83)).cell? ⟨w.heap.size + 2, 2, none⟩ = some (.int .i64 ds) := hd0.cell 2
      have HB := Lib.hid (And.intro hb0 (And.intro hn0 (And.intro hk0 (And.intro hd0 hs0))))
      clear hb0 hn0 hk0 hd0 hs0
      go_enter Try.func62, Try.ntmps62
      go_wp2_with fail
      generalize (((w.alloc (.cells #[.int .i64 4, .slice K kn kc, .int .i64 n, .int .i64 d, .string nm] 65)).alloc (.cells #[.slice A na c] 22)).alloc (.cells #[.string dn, .slice A3 n3 c3, .int .i64 ds] 83)) = X at x0 x3 y0 z1 z2 HB ⊢
      go_quiet (fail)
      go_wp2_with fail
      refine (HC.out _ (below_drewN HB.out.1 _)).mono ?_
      rintro e w1 ⟨rfl, hb1⟩
      go_wp2_with fail
      go_ret
      exact ⟨ret_int (by rw [HS.out]; rfl), (below_drewN HB.out.1 nq).trans (hb1.mono (below_drewN HB.out.1 nq).size)⟩

set_option maxRecDepth 100000 in
set_option maxHeartbeats 8000000 in
theorem sort_5 (n d : Int) (nm : ByteArray) (K : Option Addr) (kn kc : Nat) (A : Option Addr) (na c : Nat) (ks : List Int) (dn : ByteArray) (A3 : Option Addr) (n3 c3 : Nat) (ds : Int) (ar : List Int) (w : World) (hks : IntsB w w.heap.size A na ks) (hna : na ≤ 8) :
    Calls Try.prog 62 #[.agg #[.int .i64 5, .slice K kn kc, .int .i64 n, .int .i64 d, .string nm], .slice A na c, .agg #[.string dn, .slice A3 n3 c3, .int .i64 ds]] w fun e w' => e = .returned (.int .i64 (sortF 5 d ks ar ds)) ∧ Below w.heap.size w w' := by
  have eg_isBoolS : ∀ args w, (callFunc 88 args).run Try.prog w = .ok (.enter 88 args) w := enters_of Try.func88 (by kernel_rfl) rfl
  have hl := hks.len
  have hs : sortF 5 d ks ar ds = if allB isBoolS ks then 1 else 0 := by simp [sortF]
  have hall : ∀ W : World, Below w.heap.size w W → Calls Try.prog 87 #[.slice A na c, .func (.func 88) #[] #[]] W fun e w' => e = .returned (.bool (allB isBoolS ks)) ∧ Below W.heap.size W w' := fun W hW =>
    all_any 88 eg_isBoolS isBoolS A na c ks _ W (hks.below stays_int hW hW.size) (by omega) isBool_pred rfl
  have h2 := two_or ks
  rw [hl] at h2
  generalize allB isBoolS ks = r at hs hall
  have HS := Lib.hid hs
  have HC := Lib.hid hall
  clear hs hall eg_isBoolS
  rcases h2 with ⟨a, a2, rfl⟩ | h2
  · obtain rfl : 2 = na := hl
    obtain ⟨b, off, rfl, hb, k0, k1⟩ := ints_two hks
    clear hna
    cases r
    all_goals
      obtain ⟨hb0, hn0, hk0, hd0, hs0⟩ := three_boxes w #[.int .i64 5, .slice K kn kc, .int .i64 n, .int .i64 d, .string nm] #[.slice (some ⟨b, off, none⟩) 2 c] #[.string dn, .slice A3 n3 c3, .int .i64 ds]
      have x0 : (((w.alloc (.cells #[.int .i64 5, .slice K kn kc, .int .i64 n, .int .i64 d, .string nm] 65)).alloc (.cells #[.slice (some ⟨b, off, none⟩) 2 c] 22)).alloc (.cells #[.string dn, .slice A3 n3 c3, .int .i64 ds] 83)).cell? ⟨w.heap.size, 0, none⟩ = some (.int .i64 5) := hn0.cell 0
      have x3 : (((w.alloc (.cells #[.int .i64 5, .slice K kn kc, .int .i64 n, .int .i64 d, .string nm] 65)).alloc (.cells #[.slice (some ⟨b, off, none⟩) 2 c] 22)).alloc (.cells #[.string dn, .slice A3 n3 c3, .int .i64 ds] 83)).cell? ⟨w.heap.size, 3, none⟩ = some (.int .i64 d) := hn0.cell 3
      have y0 : (((w.alloc (.cells #[.int .i64 5, .slice K kn kc, .int .i64 n, .int .i64 d, .string nm] 65)).alloc (.cells #[.slice (some ⟨b, off, none⟩) 2 c] 22)).alloc (.cells #[.string dn, .slice A3 n3 c3, .int .i64 ds] 83)).cell? ⟨w.heap.size + 1, 0, none⟩ = some (.slice (some ⟨b, off, none⟩) 2 c) := hk0.cell 0
      have z1 : (((w.alloc (.cells #[.int .i64 5, .slice K kn kc, .int .i64 n, .int .i64 d, .string nm] 65)).alloc (.cells #[.slice (some ⟨b, off, none⟩) 2 c] 22)).alloc (.cells #[.string dn, .slice A3 n3 c3, .int .i64 ds] 83)).cell? ⟨w.heap.size + 2, 1, none⟩ = some (.slice A3 n3 c3) := hd0.cell 1
      have z2 : (((w.alloc (.cells #[.int .i64 5, .slice K kn kc, .int .i64 n, .int .i64 d, .string nm] 65)).alloc (.cells #[.slice (some ⟨b, off, none⟩) 2 c] 22)).alloc (.cells #[.string dn, .slice A3 n3 c3, .int .i64 ds] 83)).cell? ⟨w.heap.size + 2, 2, none⟩ = some (.int .i64 ds) := hd0.cell 2
      have j0 : (((w.alloc (.cells #[.int .i64 5, .slice K kn kc, .int .i64 n, .int .i64 d, .string nm] 65)).alloc (.cells #[.slice (some ⟨b, off, none⟩) 2 c] 22)).alloc (.cells #[.string dn, .slice A3 n3 c3, .int .i64 ds] 83)).cell? ⟨b, off, none⟩ = some (.int .i64 a) := (hb0.cell (p := ⟨b, off, none⟩) hb).trans k0
      have j1 : (((w.alloc (.cells #[.int .i64 5, .slice K kn kc, .int .i64 n, .int .i64 d, .string nm] 65)).alloc (.cells #[.slice (some ⟨b, off, none⟩) 2 c] 22)).alloc (.cells #[.string dn, .slice A3 n3 c3, .int .i64 ds] 83)).cell? ⟨b, off + 1, none⟩ = some (.int .i64 a2) := (hb0.cell (p := ⟨b, off + 1, none⟩) hb).trans k1
      clear hks k0 k1
      have HB := Lib.hid (And.intro hb0 (And.intro hn0 (And.intro hk0 (And.intro hd0 hs0))))
      clear hb0 hn0 hk0 hd0 hs0
      go_enter Try.func62, Try.ntmps62
      go_wp2_with fail
      generalize (((w.alloc (.cells #[.int .i64 5, .slice K kn kc, .int .i64 n, .int .i64 d, .string nm] 65)).alloc (.cells #[.slice (some ⟨b, off, none⟩) 2 c] 22)).alloc (.cells #[.string dn, .slice A3 n3 c3, .int .i64 ds] 83)) = X at x0 x3 y0 z1 z2 j0 j1 HB ⊢
      go_quiet (fail)
      go_wp2_with fail
      refine (HC.out _ (below_drewN HB.out.1 _)).mono ?_
      rintro e w1 ⟨rfl, hb1⟩
      go_wp2_with fail
      go_ret
      exact ⟨ret_int (by rw [HS.out]; rfl), (below_drewN HB.out.1 nq).trans (hb1.mono (below_drewN HB.out.1 nq).size)⟩
  · clear hks hl
    cases r
    all_goals
      obtain ⟨hb0, hn0, hk0, hd0, hs0⟩ := three_boxes w #[.int .i64 5, .slice K kn kc, .int .i64 n, .int .i64 d, .string nm] #[.slice A na c] #[.string dn, .slice A3 n3 c3, .int .i64 ds]
      have x0 : (((w.alloc (.cells #[.int .i64 5, .slice K kn kc, .int .i64 n, .int .i64 d, .string nm] 65)).alloc (.cells #[.slice A na c] 22)).alloc (.cells #[.string dn, .slice A3 n3 c3, .int .i64 ds] 83)).cell? ⟨w.heap.size, 0, none⟩ = some (.int .i64 5) := hn0.cell 0
      have x3 : (((w.alloc (.cells #[.int .i64 5, .slice K kn kc, .int .i64 n, .int .i64 d, .string nm] 65)).alloc (.cells #[.slice A na c] 22)).alloc (.cells #[.string dn, .slice A3 n3 c3, .int .i64 ds] 83)).cell? ⟨w.heap.size, 3, none⟩ = some (.int .i64 d) := hn0.cell 3
      have y0 : (((w.alloc (.cells #[.int .i64 5, .slice K kn kc, .int .i64 n, .int .i64 d, .string nm] 65)).alloc (.cells #[.slice A na c] 22)).alloc (.cells #[.string dn, .slice A3 n3 c3, .int .i64 ds] 83)).cell? ⟨w.heap.size + 1, 0, none⟩ = some (.slice A na c) := hk0.cell 0
      have z1 : (((w.alloc (.cells #[.int .i64 5, .slice K kn kc, .int .i64 n, .int .i64 d, .string nm] 65)).alloc (.cells #[.slice A na c] 22)).alloc (.cells #[.string dn, .slice A3 n3 c3, .int .i64 ds] 83)).cell? ⟨w.heap.size + 2, 1, none⟩ = some (.slice A3 n3 c3) := hd0.cell 1
      have z2 : (((w.alloc (.cells #[.int .i64 5, .slice K kn kc, .int .i64 n, .int .i64 d, .string nm] 65)).alloc (.cells #[.slice A na c] 22)).alloc (.cells #[.string dn, .slice A3 n3 c3, .int .i64 ds] 83)).cell? ⟨w.heap.size + 2, 2, none⟩ = some (.int .i64 ds) := hd0.cell 2
      have HB := Lib.hid (And.intro hb0 (And.intro hn0 (And.intro hk0 (And.intro hd0 hs0))))
      clear hb0 hn0 hk0 hd0 hs0
      go_enter Try.func62, Try.ntmps62
      go_wp2_with fail
      generalize (((w.alloc (.cells #[.int .i64 5, .slice K kn kc, .int .i64 n, .int .i64 d, .string nm] 65)).alloc (.cells #[.slice A na c] 22)).alloc (.cells #[.string dn, .slice A3 n3 c3, .int .i64 ds] 83)) = X at x0 x3 y0 z1 z2 HB ⊢
      go_quiet (fail)
      go_wp2_with fail
      refine (HC.out _ (below_drewN HB.out.1 _)).mono ?_
      rintro e w1 ⟨rfl, hb1⟩
      go_wp2_with fail
      go_ret
      exact ⟨ret_int (by rw [HS.out]; rfl), (below_drewN HB.out.1 nq).trans (hb1.mono (below_drewN HB.out.1 nq).size)⟩

set_option maxRecDepth 100000 in
set_option maxHeartbeats 8000000 in
theorem sort_6 (n d : Int) (nm : ByteArray) (K : Option Addr) (kn kc : Nat) (A : Option Addr) (na c : Nat) (ks : List Int) (dn : ByteArray) (A3 : Option Addr) (n3 c3 : Nat) (ds : Int) (ar : List Int) (w : World) (hks : IntsB w w.heap.size A na ks) (hna : na ≤ 8) :
    Calls Try.prog 62 #[.agg #[.int .i64 6, .slice K kn kc, .int .i64 n, .int .i64 d, .string nm], .slice A na c, .agg #[.string dn, .slice A3 n3 c3, .int .i64 ds]] w fun e w' => e = .returned (.int .i64 (sortF 6 d ks ar ds)) ∧ Below w.heap.size w w' := by
  have eg_isBoolS : ∀ args w, (callFunc 88 args).run Try.prog w = .ok (.enter 88 args) w := enters_of Try.func88 (by kernel_rfl) rfl
  have hl := hks.len
  have hs : sortF 6 d ks ar ds = if allB isBoolS ks then 1 else 0 := by simp [sortF]
  have hall : ∀ W : World, Below w.heap.size w W → Calls Try.prog 87 #[.slice A na c, .func (.func 88) #[] #[]] W fun e w' => e = .returned (.bool (allB isBoolS ks)) ∧ Below W.heap.size W w' := fun W hW =>
    all_any 88 eg_isBoolS isBoolS A na c ks _ W (hks.below stays_int hW hW.size) (by omega) isBool_pred rfl
  have h2 := two_or ks
  rw [hl] at h2
  generalize allB isBoolS ks = r at hs hall
  have HS := Lib.hid hs
  have HC := Lib.hid hall
  clear hs hall eg_isBoolS
  rcases h2 with ⟨a, a2, rfl⟩ | h2
  · obtain rfl : 2 = na := hl
    obtain ⟨b, off, rfl, hb, k0, k1⟩ := ints_two hks
    clear hna
    cases r
    all_goals
      obtain ⟨hb0, hn0, hk0, hd0, hs0⟩ := three_boxes w #[.int .i64 6, .slice K kn kc, .int .i64 n, .int .i64 d, .string nm] #[.slice (some ⟨b, off, none⟩) 2 c] #[.string dn, .slice A3 n3 c3, .int .i64 ds]
      have x0 : (((w.alloc (.cells #[.int .i64 6, .slice K kn kc, .int .i64 n, .int .i64 d, .string nm] 65)).alloc (.cells #[.slice (some ⟨b, off, none⟩) 2 c] 22)).alloc (.cells #[.string dn, .slice A3 n3 c3, .int .i64 ds] 83)).cell? ⟨w.heap.size, 0, none⟩ = some (.int .i64 6) := hn0.cell 0
      have x3 : (((w.alloc (.cells #[.int .i64 6, .slice K kn kc, .int .i64 n, .int .i64 d, .string nm] 65)).alloc (.cells #[.slice (some ⟨b, off, none⟩) 2 c] 22)).alloc (.cells #[.string dn, .slice A3 n3 c3, .int .i64 ds] 83)).cell? ⟨w.heap.size, 3, none⟩ = some (.int .i64 d) := hn0.cell 3
      have y0 : (((w.alloc (.cells #[.int .i64 6, .slice K kn kc, .int .i64 n, .int .i64 d, .string nm] 65)).alloc (.cells #[.slice (some ⟨b, off, none⟩) 2 c] 22)).alloc (.cells #[.string dn, .slice A3 n3 c3, .int .i64 ds] 83)).cell? ⟨w.heap.size + 1, 0, none⟩ = some (.slice (some ⟨b, off, none⟩) 2 c) := hk0.cell 0
      have z1 : (((w.alloc (.cells #[.int .i64 6, .slice K kn kc, .int .i64 n, .int .i64 d, .string nm] 65)).alloc (.cells #[.slice (some ⟨b, off, none⟩) 2 c] 22)).alloc (.cells #[.string dn, .slice A3 n3 c3, .int .i64 ds] 83)).cell? ⟨w.heap.size + 2, 1, none⟩ = some (.slice A3 n3 c3) := hd0.cell 1
      have z2 : (((w.alloc (.cells #[.int .i64 6, .slice K kn kc, .int .i64 n, .int .i64 d, .string nm] 65)).alloc (.cells #[.slice (some ⟨b, off, none⟩) 2 c] 22)).alloc (.cells #[.string dn, .slice A3 n3 c3, .int .i64 ds] 83)).cell? ⟨w.heap.size + 2, 2, none⟩ = some (.int .i64 ds) := hd0.cell 2
      have j0 : (((w.alloc (.cells #[.int .i64 6, .slice K kn kc, .int .i64 n, .int .i64 d, .string nm] 65)).alloc (.cells #[.slice (some ⟨b, off, none⟩) 2 c] 22)).alloc (.cells #[.string dn, .slice A3 n3 c3, .int .i64 ds] 83)).cell? ⟨b, off, none⟩ = some (.int .i64 a) := (hb0.cell (p := ⟨b, off, none⟩) hb).trans k0
      have j1 : (((w.alloc (.cells #[.int .i64 6, .slice K kn kc, .int .i64 n, .int .i64 d, .string nm] 65)).alloc (.cells #[.slice (some ⟨b, off, none⟩) 2 c] 22)).alloc (.cells #[.string dn, .slice A3 n3 c3, .int .i64 ds] 83)).cell? ⟨b, off + 1, none⟩ = some (.int .i64 a2) := (hb0.cell (p := ⟨b, off + 1, none⟩) hb).trans k1
      clear hks k0 k1
      have HB := Lib.hid (And.intro hb0 (And.intro hn0 (And.intro hk0 (And.intro hd0 hs0))))
      clear hb0 hn0 hk0 hd0 hs0
      go_enter Try.func62, Try.ntmps62
      go_wp2_with fail
      generalize (((w.alloc (.cells #[.int .i64 6, .slice K kn kc, .int .i64 n, .int .i64 d, .string nm] 65)).alloc (.cells #[.slice (some ⟨b, off, none⟩) 2 c] 22)).alloc (.cells #[.string dn, .slice A3 n3 c3, .int .i64 ds] 83)) = X at x0 x3 y0 z1 z2 j0 j1 HB ⊢
      go_quiet (fail)
      go_wp2_with fail
      refine (HC.out _ (below_drewN HB.out.1 _)).mono ?_
      rintro e w1 ⟨rfl, hb1⟩
      go_wp2_with fail
      go_ret
      exact ⟨ret_int (by rw [HS.out]; rfl), (below_drewN HB.out.1 nq).trans (hb1.mono (below_drewN HB.out.1 nq).size)⟩
  · clear hks hl
    cases r
    all_goals
      obtain ⟨hb0, hn0, hk0, hd0, hs0⟩ := three_boxes w #[.int .i64 6, .slice K kn kc, .int .i64 n, .int .i64 d, .string nm] #[.slice A na c] #[.string dn, .slice A3 n3 c3, .int .i64 ds]
      have x0 : (((w.alloc (.cells #[.int .i64 6, .slice K kn kc, .int .i64 n, .int .i64 d, .string nm] 65)).alloc (.cells #[.slice A na c] 22)).alloc (.cells #[.string dn, .slice A3 n3 c3, .int .i64 ds] 83)).cell? ⟨w.heap.size, 0, none⟩ = some (.int .i64 6) := hn0.cell 0
      have x3 : (((w.alloc (.cells #[.int .i64 6, .slice K kn kc, .int .i64 n, .int .i64 d, .string nm] 65)).alloc (.cells #[.slice A na c] 22)).alloc (.cells #[.string dn, .slice A3 n3 c3, .int .i64 ds] 83)).cell? ⟨w.heap.size, 3, none⟩ = some (.int .i64 d) := hn0.cell 3
      have y0 : (((w.alloc (.cells #[.int .i64 6, .slice K kn kc, .int .i64 n, .int .i64 d, .string nm] 65)).alloc (.cells #[.slice A na c] 22)).alloc (.cells #[.string dn, .slice A3 n3 c3, .int .i64 ds] 83)).cell? ⟨w.heap.size + 1, 0, none⟩ = some (.slice A na c) := hk0.cell 0
      have z1 : (((w.alloc (.cells #[.int .i64 6, .slice K kn kc, .int .i64 n, .int .i64 d, .string nm] 65)).alloc (.cells #[.slice A na c] 22)).alloc (.cells #[.string dn, .slice A3 n3 c3, .int .i64 ds] 83)).cell? ⟨w.heap.size + 2, 1, none⟩ = some (.slice A3 n3 c3) := hd0.cell 1
      have z2 : (((w.alloc (.cells #[.int .i64 6, .slice K kn kc, .int .i64 n, .int .i64 d, .string nm] 65)).alloc (.cells #[.slice A na c] 22)).alloc (.cells #[.string dn, .slice A3 n3 c3, .int .i64 ds] 83)).cell? ⟨w.heap.size + 2, 2, none⟩ = some (.int .i64 ds) := hd0.cell 2
      have HB := Lib.hid (And.intro hb0 (And.intro hn0 (And.intro hk0 (And.intro hd0 hs0))))
      clear hb0 hn0 hk0 hd0 hs0
      go_enter Try.func62, Try.ntmps62
      go_wp2_with fail
      generalize (((w.alloc (.cells #[.int .i64 6, .slice K kn kc, .int .i64 n, .int .i64 d, .string nm] 65)).alloc (.cells #[.slice A na c] 22)).alloc (.cells #[.string dn, .slice A3 n3 c3, .int .i64 ds] 83)) = X at x0 x3 y0 z1 z2 HB ⊢
      go_quiet (fail)
      go_wp2_with fail
      refine (HC.out _ (below_drewN HB.out.1 _)).mono ?_
      rintro e w1 ⟨rfl, hb1⟩
      go_wp2_with fail
      go_ret
      exact ⟨ret_int (by rw [HS.out]; rfl), (below_drewN HB.out.1 nq).trans (hb1.mono (below_drewN HB.out.1 nq).size)⟩

set_option maxRecDepth 100000 in
set_option maxHeartbeats 8000000 in
theorem sort_13 (n d : Int) (nm : ByteArray) (K : Option Addr) (kn kc : Nat) (A : Option Addr) (na c : Nat) (ks : List Int) (dn : ByteArray) (A3 : Option Addr) (n3 c3 : Nat) (ds : Int) (ar : List Int) (w : World) (hks : IntsB w w.heap.size A na ks) (hna : na ≤ 8) :
    Calls Try.prog 62 #[.agg #[.int .i64 13, .slice K kn kc, .int .i64 n, .int .i64 d, .string nm], .slice A na c, .agg #[.string dn, .slice A3 n3 c3, .int .i64 ds]] w fun e w' => e = .returned (.int .i64 (sortF 13 d ks ar ds)) ∧ Below w.heap.size w w' := by
  have eg_numS : ∀ args w, (callFunc 89 args).run Try.prog w = .ok (.enter 89 args) w := enters_of Try.func89 (by kernel_rfl) rfl
  have hl := hks.len
  have hs : sortF 13 d ks ar ds = if allB numS ks then 1 else 0 := by simp [sortF]
  have hall : ∀ W : World, Below w.heap.size w W → Calls Try.prog 87 #[.slice A na c, .func (.func 89) #[] #[]] W fun e w' => e = .returned (.bool (allB numS ks)) ∧ Below W.heap.size W w' := fun W hW =>
    all_any 89 eg_numS numS A na c ks _ W (hks.below stays_int hW hW.size) (by omega) numeric_pred rfl
  have h2 := two_or ks
  rw [hl] at h2
  generalize allB numS ks = r at hs hall
  have HS := Lib.hid hs
  have HC := Lib.hid hall
  clear hs hall eg_numS
  rcases h2 with ⟨a, a2, rfl⟩ | h2
  · obtain rfl : 2 = na := hl
    obtain ⟨b, off, rfl, hb, k0, k1⟩ := ints_two hks
    clear hna
    cases r
    all_goals
      obtain ⟨hb0, hn0, hk0, hd0, hs0⟩ := three_boxes w #[.int .i64 13, .slice K kn kc, .int .i64 n, .int .i64 d, .string nm] #[.slice (some ⟨b, off, none⟩) 2 c] #[.string dn, .slice A3 n3 c3, .int .i64 ds]
      have x0 : (((w.alloc (.cells #[.int .i64 13, .slice K kn kc, .int .i64 n, .int .i64 d, .string nm] 65)).alloc (.cells #[.slice (some ⟨b, off, none⟩) 2 c] 22)).alloc (.cells #[.string dn, .slice A3 n3 c3, .int .i64 ds] 83)).cell? ⟨w.heap.size, 0, none⟩ = some (.int .i64 13) := hn0.cell 0
      have x3 : (((w.alloc (.cells #[.int .i64 13, .slice K kn kc, .int .i64 n, .int .i64 d, .string nm] 65)).alloc (.cells #[.slice (some ⟨b, off, none⟩) 2 c] 22)).alloc (.cells #[.string dn, .slice A3 n3 c3, .int .i64 ds] 83)).cell? ⟨w.heap.size, 3, none⟩ = some (.int .i64 d) := hn0.cell 3
      have y0 : (((w.alloc (.cells #[.int .i64 13, .slice K kn kc, .int .i64 n, .int .i64 d, .string nm] 65)).alloc (.cells #[.slice (some ⟨b, off, none⟩) 2 c] 22)).alloc (.cells #[.string dn, .slice A3 n3 c3, .int .i64 ds] 83)).cell? ⟨w.heap.size + 1, 0, none⟩ = some (.slice (some ⟨b, off, none⟩) 2 c) := hk0.cell 0
      have z1 : (((w.alloc (.cells #[.int .i64 13, .slice K kn kc, .int .i64 n, .int .i64 d, .string nm] 65)).alloc (.cells #[.slice (some ⟨b, off, none⟩) 2 c] 22)).alloc (.cells #[.string dn, .slice A3 n3 c3, .int .i64 ds] 83)).cell? ⟨w.heap.size + 2, 1, none⟩ = some (.slice A3 n3 c3) := hd0.cell 1
      have z2 : (((w.alloc (.cells #[.int .i64 13, .slice K kn kc, .int .i64 n, .int .i64 d, .string nm] 65)).alloc (.cells #[.slice (some ⟨b, off, none⟩) 2 c] 22)).alloc (.cells #[.string dn, .slice A3 n3 c3, .int .i64 ds] 83)).cell? ⟨w.heap.size + 2, 2, none⟩ = some (.int .i64 ds) := hd0.cell 2
      have j0 : (((w.alloc (.cells #[.int .i64 13, .slice K kn kc, .int .i64 n, .int .i64 d, .string nm] 65)).alloc (.cells #[.slice (some ⟨b, off, none⟩) 2 c] 22)).alloc (.cells #[.string dn, .slice A3 n3 c3, .int .i64 ds] 83)).cell? ⟨b, off, none⟩ = some (.int .i64 a) := (hb0.cell (p := ⟨b, off, none⟩) hb).trans k0
      have j1 : (((w.alloc (.cells #[.int .i64 13, .slice K kn kc, .int .i64 n, .int .i64 d, .string nm] 65)).alloc (.cells #[.slice (some ⟨b, off, none⟩) 2 c] 22)).alloc (.cells #[.string dn, .slice A3 n3 c3, .int .i64 ds] 83)).cell? ⟨b, off + 1, none⟩ = some (.int .i64 a2) := (hb0.cell (p := ⟨b, off + 1, none⟩) hb).trans k1
      clear hks k0 k1
      have HB := Lib.hid (And.intro hb0 (And.intro hn0 (And.intro hk0 (And.intro hd0 hs0))))
      clear hb0 hn0 hk0 hd0 hs0
      go_enter Try.func62, Try.ntmps62
      go_wp2_with fail
      generalize (((w.alloc (.cells #[.int .i64 13, .slice K kn kc, .int .i64 n, .int .i64 d, .string nm] 65)).alloc (.cells #[.slice (some ⟨b, off, none⟩) 2 c] 22)).alloc (.cells #[.string dn, .slice A3 n3 c3, .int .i64 ds] 83)) = X at x0 x3 y0 z1 z2 j0 j1 HB ⊢
      go_quiet (fail)
      go_wp2_with fail
      refine (HC.out _ (below_drewN HB.out.1 _)).mono ?_
      rintro e w1 ⟨rfl, hb1⟩
      go_wp2_with fail
      go_ret
      exact ⟨ret_int (by rw [HS.out]; rfl), (below_drewN HB.out.1 nq).trans (hb1.mono (below_drewN HB.out.1 nq).size)⟩
  · clear hks hl
    cases r
    all_goals
      obtain ⟨hb0, hn0, hk0, hd0, hs0⟩ := three_boxes w #[.int .i64 13, .slice K kn kc, .int .i64 n, .int .i64 d, .string nm] #[.slice A na c] #[.string dn, .slice A3 n3 c3, .int .i64 ds]
      have x0 : (((w.alloc (.cells #[.int .i64 13, .slice K kn kc, .int .i64 n, .int .i64 d, .string nm] 65)).alloc (.cells #[.slice A na c] 22)).alloc (.cells #[.string dn, .slice A3 n3 c3, .int .i64 ds] 83)).cell? ⟨w.heap.size, 0, none⟩ = some (.int .i64 13) := hn0.cell 0
      have x3 : (((w.alloc (.cells #[.int .i64 13, .slice K kn kc, .int .i64 n, .int .i64 d, .string nm] 65)).alloc (.cells #[.slice A na c] 22)).alloc (.cells #[.string dn, .slice A3 n3 c3, .int .i64 ds] 83)).cell? ⟨w.heap.size, 3, none⟩ = some (.int .i64 d) := hn0.cell 3
      have y0 : (((w.alloc (.cells #[.int .i64 13, .slice K kn kc, .int .i64 n, .int .i64 d, .string nm] 65)).alloc (.cells #[.slice A na c] 22)).alloc (.cells #[.string dn, .slice A3 n3 c3, .int .i64 ds] 83)).cell? ⟨w.heap.size + 1, 0, none⟩ = some (.slice A na c) := hk0.cell 0
      have z1 : (((w.alloc (.cells #[.int .i64 13, .slice K kn kc, .int .i64 n, .int .i64 d, .string nm] 65)).alloc (.cells #[.slice A na c] 22)).alloc (.cells #[.string dn, .slice A3 n3 c3, .int .i64 ds] 83)).cell? ⟨w.heap.size + 2, 1, none⟩ = some (.slice A3 n3 c3) := hd0.cell 1
      have z2 : (((w.alloc (.cells #[.int .i64 13, .slice K kn kc, .int .i64 n, .int .i64 d, .string nm] 65)).alloc (.cells #[.slice A na c] 22)).alloc (.cells #[.string dn, .slice A3 n3 c3, .int .i64 ds] 83)).cell? ⟨w.heap.size + 2, 2, none⟩ = some (.int .i64 ds) := hd0.cell 2
      have HB := Lib.hid (And.intro hb0 (And.intro hn0 (And.intro hk0 (And.intro hd0 hs0))))
      clear hb0 hn0 hk0 hd0 hs0
      go_enter Try.func62, Try.ntmps62
      go_wp2_with fail
      generalize (((w.alloc (.cells #[.int .i64 13, .slice K kn kc, .int .i64 n, .int .i64 d, .string nm] 65)).alloc (.cells #[.slice A na c] 22)).alloc (.cells #[.string dn, .slice A3 n3 c3, .int .i64 ds] 83)) = X at x0 x3 y0 z1 z2 HB ⊢
      go_quiet (fail)
      go_wp2_with fail
      refine (HC.out _ (below_drewN HB.out.1 _)).mono ?_
      rintro e w1 ⟨rfl, hb1⟩
      go_wp2_with fail
      go_ret
      exact ⟨ret_int (by rw [HS.out]; rfl), (below_drewN HB.out.1 nq).trans (hb1.mono (below_drewN HB.out.1 nq).size)⟩

set_option maxRecDepth 100000 in
set_option maxHeartbeats 8000000 in
theorem sort_14 (n d : Int) (nm : ByteArray) (K : Option Addr) (kn kc : Nat) (A : Option Addr) (na c : Nat) (ks : List Int) (dn : ByteArray) (A3 : Option Addr) (n3 c3 : Nat) (ds : Int) (ar : List Int) (w : World) (hks : IntsB w w.heap.size A na ks) (hna : na ≤ 8) :
    Calls Try.prog 62 #[.agg #[.int .i64 14, .slice K kn kc, .int .i64 n, .int .i64 d, .string nm], .slice A na c, .agg #[.string dn, .slice A3 n3 c3, .int .i64 ds]] w fun e w' => e = .returned (.int .i64 (sortF 14 d ks ar ds)) ∧ Below w.heap.size w w' := by
  have eg_numS : ∀ args w, (callFunc 89 args).run Try.prog w = .ok (.enter 89 args) w := enters_of Try.func89 (by kernel_rfl) rfl
  have hl := hks.len
  have hs : sortF 14 d ks ar ds = if allB numS ks then 1 else 0 := by simp [sortF]
  have hall : ∀ W : World, Below w.heap.size w W → Calls Try.prog 87 #[.slice A na c, .func (.func 89) #[] #[]] W fun e w' => e = .returned (.bool (allB numS ks)) ∧ Below W.heap.size W w' := fun W hW =>
    all_any 89 eg_numS numS A na c ks _ W (hks.below stays_int hW hW.size) (by omega) numeric_pred rfl
  have h2 := two_or ks
  rw [hl] at h2
  generalize allB numS ks = r at hs hall
  have HS := Lib.hid hs
  have HC := Lib.hid hall
  clear hs hall eg_numS
  rcases h2 with ⟨a, a2, rfl⟩ | h2
  · obtain rfl : 2 = na := hl
    obtain ⟨b, off, rfl, hb, k0, k1⟩ := ints_two hks
    clear hna
    cases r
    all_goals
      obtain ⟨hb0, hn0, hk0, hd0, hs0⟩ := three_boxes w #[.int .i64 14, .slice K kn kc, .int .i64 n, .int .i64 d, .string nm] #[.slice (some ⟨b, off, none⟩) 2 c] #[.string dn, .slice A3 n3 c3, .int .i64 ds]
      have x0 : (((w.alloc (.cells #[.int .i64 14, .slice K kn kc, .int .i64 n, .int .i64 d, .string nm] 65)).alloc (.cells #[.slice (some ⟨b, off, none⟩) 2 c] 22)).alloc (.cells #[.string dn, .slice A3 n3 c3, .int .i64 ds] 83)).cell? ⟨w.heap.size, 0, none⟩ = some (.int .i64 14) := hn0.cell 0
      have x3 : (((w.alloc (.cells #[.int .i64 14, .slice K kn kc, .int .i64 n, .int .i64 d, .string nm] 65)).alloc (.cells #[.slice (some ⟨b, off, none⟩) 2 c] 22)).alloc (.cells #[.string dn, .slice A3 n3 c3, .int .i64 ds] 83)).cell? ⟨w.heap.size, 3, none⟩ = some (.int .i64 d) := hn0.cell 3
      have y0 : (((w.alloc (.cells #[.int .i64 14, .slice K kn kc, .int .i64 n, .int .i64 d, .string nm] 65)).alloc (.cells #[.slice (some ⟨b, off, none⟩) 2 c] 22)).alloc (.cells #[.string dn, .slice A3 n3 c3, .int .i64 ds] 83)).cell? ⟨w.heap.size + 1, 0, none⟩ = some (.slice (some ⟨b, off, none⟩) 2 c) := hk0.cell 0
      have z1 : (((w.alloc (.cells #[.int .i64 14, .slice K kn kc, .int .i64 n, .int .i64 d, .string nm] 65)).alloc (.cells #[.slice (some ⟨b, off, none⟩) 2 c] 22)).alloc (.cells #[.string dn, .slice A3 n3 c3, .int .i64 ds] 83)).cell? ⟨w.heap.size + 2, 1, none⟩ = some (.slice A3 n3 c3) := hd0.cell 1
      have z2 : (((w.alloc (.cells #[.int .i64 14, .slice K kn kc, .int .i64 n, .int .i64 d, .string nm] 65)).alloc (.cells #[.slice (some ⟨b, off, none⟩) 2 c] 22)).alloc (.cells #[.string dn, .slice A3 n3 c3, .int .i64 ds] 83)).cell? ⟨w.heap.size + 2, 2, none⟩ = some (.int .i64 ds) := hd0.cell 2
      have j0 : (((w.alloc (.cells #[.int .i64 14, .slice K kn kc, .int .i64 n, .int .i64 d, .string nm] 65)).alloc (.cells #[.slice (some ⟨b, off, none⟩) 2 c] 22)).alloc (.cells #[.string dn, .slice A3 n3 c3, .int .i64 ds] 83)).cell? ⟨b, off, none⟩ = some (.int .i64 a) := (hb0.cell (p := ⟨b, off, none⟩) hb).trans k0
      have j1 : (((w.alloc (.cells #[.int .i64 14, .slice K kn kc, .int .i64 n, .int .i64 d, .string nm] 65)).alloc (.cells #[.slice (some ⟨b, off, none⟩) 2 c] 22)).alloc (.cells #[.string dn, .slice A3 n3 c3, .int .i64 ds] 83)).cell? ⟨b, off + 1, none⟩ = some (.int .i64 a2) := (hb0.cell (p := ⟨b, off + 1, none⟩) hb).trans k1
      clear hks k0 k1
      have HB := Lib.hid (And.intro hb0 (And.intro hn0 (And.intro hk0 (And.intro hd0 hs0))))
      clear hb0 hn0 hk0 hd0 hs0
      go_enter Try.func62, Try.ntmps62
      go_wp2_with fail
      generalize (((w.alloc (.cells #[.int .i64 14, .slice K kn kc, .int .i64 n, .int .i64 d, .string nm] 65)).alloc (.cells #[.slice (some ⟨b, off, none⟩) 2 c] 22)).alloc (.cells #[.string dn, .slice A3 n3 c3, .int .i64 ds] 83)) = X at x0 x3 y0 z1 z2 j0 j1 HB ⊢
      go_quiet (fail)
      go_wp2_with fail
      refine (HC.out _ (below_drewN HB.out.1 _)).mono ?_
      rintro e w1 ⟨rfl, hb1⟩
      go_wp2_with fail
      go_ret
      exact ⟨ret_int (by rw [HS.out]; rfl), (below_drewN HB.out.1 nq).trans (hb1.mono (below_drewN HB.out.1 nq).size)⟩
  · clear hks hl
    cases r
    all_goals
      obtain ⟨hb0, hn0, hk0, hd0, hs0⟩ := three_boxes w #[.int .i64 14, .slice K kn kc, .int .i64 n, .int .i64 d, .string nm] #[.slice A na c] #[.string dn, .slice A3 n3 c3, .int .i64 ds]
      have x0 : (((w.alloc (.cells #[.int .i64 14, .slice K kn kc, .int .i64 n, .int .i64 d, .string nm] 65)).alloc (.cells #[.slice A na c] 22)).alloc (.cells #[.string dn, .slice A3 n3 c3, .int .i64 ds] 83)).cell? ⟨w.heap.size, 0, none⟩ = some (.int .i64 14) := hn0.cell 0
      have x3 : (((w.alloc (.cells #[.int .i64 14, .slice K kn kc, .int .i64 n, .int .i64 d, .string nm] 65)).alloc (.cells #[.slice A na c] 22)).alloc (.cells #[.string dn, .slice A3 n3 c3, .int .i64 ds] 83)).cell? ⟨w.heap.size, 3, none⟩ = some (.int .i64 d) := hn0.cell 3
      have y0 : (((w.alloc (.cells #[.int .i64 14, .slice K kn kc, .int .i64 n, .int .i64 d, .string nm] 65)).alloc (.cells #[.slice A na c] 22)).alloc (.cells #[.string dn, .slice A3 n3 c3, .int .i64 ds] 83)).cell? ⟨w.heap.size + 1, 0, none⟩ = some (.slice A na c) := hk0.cell 0
      have z1 : (((w.alloc (.cells #[.int .i64 14, .slice K kn kc, .int .i64 n, .int .i64 d, .string nm] 65)).alloc (.cells #[.slice A na c] 22)).alloc (.cells #[.string dn, .slice A3 n3 c3, .int .i64 ds] 83)).cell? ⟨w.heap.size + 2, 1, none⟩ = some (.slice A3 n3 c3) := hd0.cell 1
      have z2 : (((w.alloc (.cells #[.int .i64 14, .slice K kn kc, .int .i64 n, .int .i64 d, .string nm] 65)).alloc (.cells #[.slice A na c] 22)).alloc (.cells #[.string dn, .slice A3 n3 c3, .int .i64 ds] 83)).cell? ⟨w.heap.size + 2, 2, none⟩ = some (.int .i64 ds) := hd0.cell 2
      have HB := Lib.hid (And.intro hb0 (And.intro hn0 (And.intro hk0 (And.intro hd0 hs0))))
      clear hb0 hn0 hk0 hd0 hs0
      go_enter Try.func62, Try.ntmps62
      go_wp2_with fail
      generalize (((w.alloc (.cells #[.int .i64 14, .slice K kn kc, .int .i64 n, .int .i64 d, .string nm] 65)).alloc (.cells #[.slice A na c] 22)).alloc (.cells #[.string dn, .slice A3 n3 c3, .int .i64 ds] 83)) = X at x0 x3 y0 z1 z2 HB ⊢
      go_quiet (fail)
      go_wp2_with fail
      refine (HC.out _ (below_drewN HB.out.1 _)).mono ?_
      rintro e w1 ⟨rfl, hb1⟩
      go_wp2_with fail
      go_ret
      exact ⟨ret_int (by rw [HS.out]; rfl), (below_drewN HB.out.1 nq).trans (hb1.mono (below_drewN HB.out.1 nq).size)⟩

end Go.Proofs.Ytggkfepifnfdoaa
