/- Walk: the sort of a node, by its kids' sorts: operators with two kids of one sort, with three. -/
import Derived.Test.YtggkfepifnfdoaaAskP
import Derived.Deep.RegionHeld3
namespace Go.Proofs.Ytggkfepifnfdoaa
open Go.RowKit

set_option maxRecDepth 100000 in
set_option maxHeartbeats 8000000 in
theorem sort_17 (a a2 : Int) (n d : Int) (nm : ByteArray) (K : Option Addr) (kn kc : Nat) (A : Option Addr) (c : Nat) (dn : ByteArray) (A3 : Option Addr) (n3 c3 : Nat) (ds : Int) (ar : List Int) (w : World) (hks : IntsB w w.heap.size A 2 [a, a2]) :
    Calls Try.prog 62 #[.agg #[.int .i64 17, .slice K kn kc, .int .i64 n, .int .i64 d, .string nm], .slice A 2 c, .agg #[.string dn, .slice A3 n3 c3, .int .i64 ds]] w fun e w' => e = .returned (.int .i64 (sortF 17 d [a, a2] ar ds)) ∧ Below w.heap.size w w' := by
  obtain ⟨b, off, rfl, hb, k0, k1⟩ := ints_two hks
  have hs : ∀ r s, (a == a2) = r → wordB a = s → sortF 17 d [a, a2] ar ds = if r && s then a else 0 := fun r s hr hs => by subst hr; subst hs; simp [sortF, word2F]
  cases h2 : (a == a2)
  · have HS : Hid (sortF 17 d [a, a2] ar ds = 0) := hs _ _ h2 rfl
    clear hs
    obtain ⟨hb0, hn0, hk0, hd0, hs0⟩ := three_boxes w #[.int .i64 17, .slice K kn kc, .int .i64 n, .int .i64 d, .string nm] #[.slice (some ⟨b, off, none⟩) 2 c] #[.string dn, .slice A3 n3 c3, .int .i64 ds]
    have x0 : (((w.alloc (.cells #[.int .i64 17, .slice K kn kc, .int .i64 n, .int .i64 d, .string nm] 65)).alloc (.cells #[.slice (some ⟨b, off, none⟩) 2 c] 22)).alloc (.cells #[.string dn, .slice A3 n3 c3, .int .i64 ds] 83)).cell? ⟨w.heap.size, 0, none⟩ = some (.int .i64 17) := hn0.cell 0
    have x3 : (((w.alloc (.cells #[.int .i64 17, .slice K kn kc, .int .i64 n, .int .i64 d, .string nm] 65)).alloc (.cells #[.slice (some ⟨b, off, none⟩) 2 c] 22)).alloc (.cells #[.string dn, .slice A3 n3 c3, .int .i64 ds] 83)).cell? ⟨w.heap.size, 3, none⟩ = some (.int .i64 d) := hn0.cell 3
    have y0 : (((w.alloc (.cells #[.int .i64 17, .slice K kn kc, .int .i64 n, .int .i64 d, .string nm] 65)).alloc (.cells #[.slice (some ⟨b, off, none⟩) 2 c] 22)).alloc (.cells #[.string dn, .slice A3 n3 c3, .int .i64 ds] 83)).cell? ⟨w.heap.size + 1, 0, none⟩ = some (.slice (some ⟨b, off, none⟩) 2 c) := hk0.cell 0
    have z1 : (((w.alloc (.cells #[.int .i64 17, .slice K kn kc, .int .i64 n, .int .i64 d, .string nm] 65)).alloc (.cells #[.slice (some ⟨b, off, none⟩) 2 c] 22)).alloc (.cells #[.string dn, .slice A3 n3 c3, .int .i64 ds] 83)).cell? ⟨w.heap.size + 2, 1, none⟩ = some (.slice A3 n3 c3) := hd0.cell 1
    have z2 : (((w.alloc (.cells #[.int .i64 17, .slice K kn kc, .int .i64 n, .int .i64 d, .string nm] 65)).alloc (.cells #[.slice (some ⟨b, off, none⟩) 2 c] 22)).alloc (.cells #[.string dn, .slice A3 n3 c3, .int .i64 ds] 83)).cell? ⟨w.heap.size + 2, 2, none⟩ = some (.int .i64 ds) := hd0.cell 2
    have j0 : (((w.alloc (.cells #[.int .i64 17, .slice K kn kc, .int .i64 n, .int .i64 d, .string nm] 65)).alloc (.cells #[.slice (some ⟨b, off, none⟩) 2 c] 22)).alloc (.cells #[.string dn, .slice A3 n3 c3, .int .i64 ds] 83)).cell? ⟨b, off, none⟩ = some (.int .i64 a) := (hb0.cell (p := ⟨b, off, none⟩) hb).trans k0
    have j1 : (((w.alloc (.cells #[.int .i64 17, .slice K kn kc, .int .i64 n, .int .i64 d, .string nm] 65)).alloc (.cells #[.slice (some ⟨b, off, none⟩) 2 c] 22)).alloc (.cells #[.string dn, .slice A3 n3 c3, .int .i64 ds] 83)).cell? ⟨b, off + 1, none⟩ = some (.int .i64 a2) := (hb0.cell (p := ⟨b, off + 1, none⟩) hb).trans k1
    clear hks k0 k1
    have HB := Lib.hid (And.intro hb0 (And.intro hn0 (And.intro hk0 (And.intro hd0 hs0))))
    clear hb0 hn0 hk0 hd0 hs0
    go_enter Try.func62, Try.ntmps62
    go_wp2_with fail
    generalize (((w.alloc (.cells #[.int .i64 17, .slice K kn kc, .int .i64 n, .int .i64 d, .string nm] 65)).alloc (.cells #[.slice (some ⟨b, off, none⟩) 2 c] 22)).alloc (.cells #[.string dn, .slice A3 n3 c3, .int .i64 ds] 83)) = X at x0 x3 y0 z1 z2 j0 j1 HB ⊢
    go_quiet (fail)
    go_wp2_with fail
    go_quiet (fail)
    go_wp2_with fail
    go_ret
    exact ⟨ret_int (by rw [HS.out]), (by first | exact HB.out.1 | exact below_drewN HB.out.1 _ | exact below_drewN (below_drewN HB.out.1 _) _)⟩
  · cases hw : wordB a
    all_goals
      have HS := Lib.hid (hs _ _ h2 hw)
      have HW := Lib.hid (word_is a _ hw)
      clear hs hw
      obtain ⟨hb0, hn0, hk0, hd0, hs0⟩ := three_boxes w #[.int .i64 17, .slice K kn kc, .int .i64 n, .int .i64 d, .string nm] #[.slice (some ⟨b, off, none⟩) 2 c] #[.string dn, .slice A3 n3 c3, .int .i64 ds]
      have x0 : (((w.alloc (.cells #[.int .i64 17, .slice K kn kc, .int .i64 n, .int .i64 d, .string nm] 65)).alloc (.cells #[.slice (some ⟨b, off, none⟩) 2 c] 22)).alloc (.cells #[.string dn, .slice A3 n3 c3, .int .i64 ds] 83)).cell? ⟨w.heap.size, 0, none⟩ = some (.int .i64 17) := hn0.cell 0
      have x3 : (((w.alloc (.cells #[.int .i64 17, .slice K kn kc, .int .i64 n, .int .i64 d, .string nm] 65)).alloc (.cells #[.slice (some ⟨b, off, none⟩) 2 c] 22)).alloc (.cells #[.string dn, .slice A3 n3 c3, .int .i64 ds] 83)).cell? ⟨w.heap.size, 3, none⟩ = some (.int .i64 d) := hn0.cell 3
      have y0 : (((w.alloc (.cells #[.int .i64 17, .slice K kn kc, .int .i64 n, .int .i64 d, .string nm] 65)).alloc (.cells #[.slice (some ⟨b, off, none⟩) 2 c] 22)).alloc (.cells #[.string dn, .slice A3 n3 c3, .int .i64 ds] 83)).cell? ⟨w.heap.size + 1, 0, none⟩ = some (.slice (some ⟨b, off, none⟩) 2 c) := hk0.cell 0
      have z1 : (((w.alloc (.cells #[.int .i64 17, .slice K kn kc, .int .i64 n, .int .i64 d, .string nm] 65)).alloc (.cells #[.slice (some ⟨b, off, none⟩) 2 c] 22)).alloc (.cells #[.string dn, .slice A3 n3 c3, .int .i64 ds] 83)).cell? ⟨w.heap.size + 2, 1, none⟩ = some (.slice A3 n3 c3) := hd0.cell 1
      have z2 : (((w.alloc (.cells #[.int .i64 17, .slice K kn kc, .int .i64 n, .int .i64 d, .string nm] 65)).alloc (.cells #[.slice (some ⟨b, off, none⟩) 2 c] 22)).alloc (.cells #[.string dn, .slice A3 n3 c3, .int .i64 ds] 83)).cell? ⟨w.heap.size + 2, 2, none⟩ = some (.int .i64 ds) := hd0.cell 2
      have j0 : (((w.alloc (.cells #[.int .i64 17, .slice K kn kc, .int .i64 n, .int .i64 d, .string nm] 65)).alloc (.cells #[.slice (some ⟨b, off, none⟩) 2 c] 22)).alloc (.cells #[.string dn, .slice A3 n3 c3, .int .i64 ds] 83)).cell? ⟨b, off, none⟩ = some (.int .i64 a) := (hb0.cell (p := ⟨b, off, none⟩) hb).trans k0
      have j1 : (((w.alloc (.cells #[.int .i64 17, .slice K kn kc, .int .i64 n, .int .i64 d, .string nm] 65)).alloc (.cells #[.slice (some ⟨b, off, none⟩) 2 c] 22)).alloc (.cells #[.string dn, .slice A3 n3 c3, .int .i64 ds] 83)).cell? ⟨b, off + 1, none⟩ = some (.int .i64 a2) := (hb0.cell (p := ⟨b, off + 1, none⟩) hb).trans k1
      clear hks k0 k1
      have HB := Lib.hid (And.intro hb0 (And.intro hn0 (And.intro hk0 (And.intro hd0 hs0))))
      clear hb0 hn0 hk0 hd0 hs0
      go_enter Try.func62, Try.ntmps62
      go_wp2_with fail
      generalize (((w.alloc (.cells #[.int .i64 17, .slice K kn kc, .int .i64 n, .int .i64 d, .string nm] 65)).alloc (.cells #[.slice (some ⟨b, off, none⟩) 2 c] 22)).alloc (.cells #[.string dn, .slice A3 n3 c3, .int .i64 ds] 83)) = X at x0 x3 y0 z1 z2 j0 j1 HB ⊢
      go_quiet (fail)
      go_wp2_with fail
      go_quiet ((go_at_call 79; exact quiet_same2 HW.out))
      go_wp2_with fail
      go_ret
      exact ⟨ret_int (by rw [HS.out]; rfl), (by first | exact HB.out.1 | exact below_drewN HB.out.1 _ | exact below_drewN (below_drewN HB.out.1 _) _)⟩

set_option maxRecDepth 100000 in
set_option maxHeartbeats 8000000 in
theorem sort_18 (a a2 : Int) (n d : Int) (nm : ByteArray) (K : Option Addr) (kn kc : Nat) (A : Option Addr) (c : Nat) (dn : ByteArray) (A3 : Option Addr) (n3 c3 : Nat) (ds : Int) (ar : List Int) (w : World) (hks : IntsB w w.heap.size A 2 [a, a2]) :
    Calls Try.prog 62 #[.agg #[.int .i64 18, .slice K kn kc, .int .i64 n, .int .i64 d, .string nm], .slice A 2 c, .agg #[.string dn, .slice A3 n3 c3, .int .i64 ds]] w fun e w' => e = .returned (.int .i64 (sortF 18 d [a, a2] ar ds)) ∧ Below w.heap.size w w' := by
  obtain ⟨b, off, rfl, hb, k0, k1⟩ := ints_two hks
  have hs : ∀ r s, (a == a2) = r → wordB a = s → sortF 18 d [a, a2] ar ds = if r && s then a else 0 := fun r s hr hs => by subst hr; subst hs; simp [sortF, word2F]
  cases h2 : (a == a2)
  · have HS : Hid (sortF 18 d [a, a2] ar ds = 0) := hs _ _ h2 rfl
    clear hs
    obtain ⟨hb0, hn0, hk0, hd0, hs0⟩ := three_boxes w #[.int .i64 18, .slice K kn kc, .int .i64 n, .int .i64 d, .string nm] #[.slice (some ⟨b, off, none⟩) 2 c] #[.string dn, .slice A3 n3 c3, .int .i64 ds]
    have x0 : (((w.alloc (.cells #[.int .i64 18, .slice K kn kc, .int .i64 n, .int .i64 d, .string nm] 65)).alloc (.cells #[.slice (some ⟨b, off, none⟩) 2 c] 22)).alloc (.cells #[.string dn, .slice A3 n3 c3, .int .i64 ds] 83)).cell? ⟨w.heap.size, 0, none⟩ = some (.int .i64 18) := hn0.cell 0
    have x3 : (((w.alloc (.cells #[.int .i64 18, .slice K kn kc, .int .i64 n, .int .i64 d, .string nm] 65)).alloc (.cells #[.slice (some ⟨b, off, none⟩) 2 c] 22)).alloc (.cells #[.string dn, .slice A3 n3 c3, .int .i64 ds] 83)).cell? ⟨w.heap.size, 3, none⟩ = some (.int .i64 d) := hn0.cell 3
    have y0 : (((w.alloc (.cells #[.int .i64 18, .slice K kn kc, .int .i64 n, .int .i64 d, .string nm] 65)).alloc (.cells #[.slice (some ⟨b, off, none⟩) 2 c] 22)).alloc (.cells #[.string dn, .slice A3 n3 c3, .int .i64 ds] 83)).cell? ⟨w.heap.size + 1, 0, none⟩ = some (.slice (some ⟨b, off, none⟩) 2 c) := hk0.cell 0
    have z1 : (((w.alloc (.cells #[.int .i64 18, .slice K kn kc, .int .i64 n, .int .i64 d, .string nm] 65)).alloc (.cells #[.slice (some ⟨b, off, none⟩) 2 c] 22)).alloc (.cells #[.string dn, .slice A3 n3 c3, .int .i64 ds] 83)).cell? ⟨w.heap.size + 2, 1, none⟩ = some (.slice A3 n3 c3) := hd0.cell 1
    have z2 : (((w.alloc (.cells #[.int .i64 18, .slice K kn kc, .int .i64 n, .int .i64 d, .string nm] 65)).alloc (.cells #[.slice (some ⟨b, off, none⟩) 2 c] 22)).alloc (.cells #[.string dn, .slice A3 n3 c3, .int .i64 ds] 83)).cell? ⟨w.heap.size + 2, 2, none⟩ = some (.int .i64 ds) := hd0.cell 2
    have j0 : (((w.alloc (.cells #[.int .i64 18, .slice K kn kc, .int .i64 n, .int .i64 d, .string nm] 65)).alloc (.cells #[.slice (some ⟨b, off, none⟩) 2 c] 22)).alloc (.cells #[.string dn, .slice A3 n3 c3, .int .i64 ds] 83)).cell? ⟨b, off, none⟩ = some (.int .i64 a) := (hb0.cell (p := ⟨b, off, none⟩) hb).trans k0
    have j1 : (((w.alloc (.cells #[.int .i64 18, .slice K kn kc, .int .i64 n, .int .i64 d, .string nm] 65)).alloc (.cells #[.slice (some ⟨b, off, none⟩) 2 c] 22)).alloc (.cells #[.string dn, .slice A3 n3 c3, .int .i64 ds] 83)).cell? ⟨b, off + 1, none⟩ = some (.int .i64 a2) := (hb0.cell (p := ⟨b, off + 1, none⟩) hb).trans k1
    clear hks k0 k1
    have HB := Lib.hid (And.intro hb0 (And.intro hn0 (And.intro hk0 (And.intro hd0 hs0))))
    clear hb0 hn0 hk0 hd0 hs0
    go_enter Try.func62, Try.ntmps62
    go_wp2_with fail
    generalize (((w.alloc (.cells #[.int .i64 18, .slice K kn kc, .int .i64 n, .int .i64 d, .string nm] 65)).alloc (.cells #[.slice (some ⟨b, off, none⟩) 2 c] 22)).alloc (.cells #[.string dn, .slice A3 n3 c3, .int .i64 ds] 83)) = X at x0 x3 y0 z1 z2 j0 j1 HB ⊢
    go_quiet (fail)
    go_wp2_with fail
    go_quiet (fail)
    go_wp2_with fail
    go_ret
    exact ⟨ret_int (by rw [HS.out]), (by first | exact HB.out.1 | exact below_drewN HB.out.1 _ | exact below_drewN (below_drewN HB.out.1 _) _)⟩
  · cases hw : wordB a
    all_goals
      have HS := Lib.hid (hs _ _ h2 hw)
      have HW := Lib.hid (word_is a _ hw)
      clear hs hw
      obtain ⟨hb0, hn0, hk0, hd0, hs0⟩ := three_boxes w #[.int .i64 18, .slice K kn kc, .int .i64 n, .int .i64 d, .string nm] #[.slice (some ⟨b, off, none⟩) 2 c] #[.string dn, .slice A3 n3 c3, .int .i64 ds]
      have x0 : (((w.alloc (.cells #[.int .i64 18, .slice K kn kc, .int .i64 n, .int .i64 d, .string nm] 65)).alloc (.cells #[.slice (some ⟨b, off, none⟩) 2 c] 22)).alloc (.cells #[.string dn, .slice A3 n3 c3, .int .i64 ds] 83)).cell? ⟨w.heap.size, 0, none⟩ = some (.int .i64 18) := hn0.cell 0
      have x3 : (((w.alloc (.cells #[.int .i64 18, .slice K kn kc, .int .i64 n, .int .i64 d, .string nm] 65)).alloc (.cells #[.slice (some ⟨b, off, none⟩) 2 c] 22)).alloc (.cells #[.string dn, .slice A3 n3 c3, .int .i64 ds] 83)).cell? ⟨w.heap.size, 3, none⟩ = some (.int .i64 d) := hn0.cell 3
      have y0 : (((w.alloc (.cells #[.int .i64 18, .slice K kn kc, .int .i64 n, .int .i64 d, .string nm] 65)).alloc (.cells #[.slice (some ⟨b, off, none⟩) 2 c] 22)).alloc (.cells #[.string dn, .slice A3 n3 c3, .int .i64 ds] 83)).cell? ⟨w.heap.size + 1, 0, none⟩ = some (.slice (some ⟨b, off, none⟩) 2 c) := hk0.cell 0
      have z1 : (((w.alloc (.cells #[.int .i64 18, .slice K kn kc, .int .i64 n, .int .i64 d, .string nm] 65)).alloc (.cells #[.slice (some ⟨b, off, none⟩) 2 c] 22)).alloc (.cells #[.string dn, .slice A3 n3 c3, .int .i64 ds] 83)).cell? ⟨w.heap.size + 2, 1, none⟩ = some (.slice A3 n3 c3) := hd0.cell 1
      have z2 : (((w.alloc (.cells #[.int .i64 18, .slice K kn kc, .int .i64 n, .int .i64 d, .string nm] 65)).alloc (.cells #[.slice (some ⟨b, off, none⟩) 2 c] 22)).alloc (.cells #[.string dn, .slice A3 n3 c3, .int .i64 ds] 83)).cell? ⟨w.heap.size + 2, 2, none⟩ = some (.int .i64 ds) := hd0.cell 2
      have j0 : (((w.alloc (.cells #[.int .i64 18, .slice K kn kc, .int .i64 n, .int .i64 d, .string nm] 65)).alloc (.cells #[.slice (some ⟨b, off, none⟩) 2 c] 22)).alloc (.cells #[.string dn, .slice A3 n3 c3, .int .i64 ds] 83)).cell? ⟨b, off, none⟩ = some (.int .i64 a) := (hb0.cell (p := ⟨b, off, none⟩) hb).trans k0
      have j1 : (((w.alloc (.cells #[.int .i64 18, .slice K kn kc, .int .i64 n, .int .i64 d, .string nm] 65)).alloc (.cells #[.slice (some ⟨b, off, none⟩) 2 c] 22)).alloc (.cells #[.string dn, .slice A3 n3 c3, .int .i64 ds] 83)).cell? ⟨b, off + 1, none⟩ = some (.int .i64 a2) := (hb0.cell (p := ⟨b, off + 1, none⟩) hb).trans k1
      clear hks k0 k1
      have HB := Lib.hid (And.intro hb0 (And.intro hn0 (And.intro hk0 (And.intro hd0 hs0))))
      clear hb0 hn0 hk0 hd0 hs0
      go_enter Try.func62, Try.ntmps62
      go_wp2_with fail
      generalize (((w.alloc (.cells #[.int .i64 18, .slice K kn kc, .int .i64 n, .int .i64 d, .string nm] 65)).alloc (.cells #[.slice (some ⟨b, off, none⟩) 2 c] 22)).alloc (.cells #[.string dn, .slice A3 n3 c3, .int .i64 ds] 83)) = X at x0 x3 y0 z1 z2 j0 j1 HB ⊢
      go_quiet (fail)
      go_wp2_with fail
      go_quiet ((go_at_call 79; exact quiet_same2 HW.out))
      go_wp2_with fail
      go_ret
      exact ⟨ret_int (by rw [HS.out]; rfl), (by first | exact HB.out.1 | exact below_drewN HB.out.1 _ | exact below_drewN (below_drewN HB.out.1 _) _)⟩

set_option maxRecDepth 100000 in
set_option maxHeartbeats 8000000 in
theorem sort_19 (a a2 : Int) (n d : Int) (nm : ByteArray) (K : Option Addr) (kn kc : Nat) (A : Option Addr) (c : Nat) (dn : ByteArray) (A3 : Option Addr) (n3 c3 : Nat) (ds : Int) (ar : List Int) (w : World) (hks : IntsB w w.heap.size A 2 [a, a2]) :
    Calls Try.prog 62 #[.agg #[.int .i64 19, .slice K kn kc, .int .i64 n, .int .i64 d, .string nm], .slice A 2 c, .agg #[.string dn, .slice A3 n3 c3, .int .i64 ds]] w fun e w' => e = .returned (.int .i64 (sortF 19 d [a, a2] ar ds)) ∧ Below w.heap.size w w' := by
  obtain ⟨b, off, rfl, hb, k0, k1⟩ := ints_two hks
  have hs : ∀ r s, (a == a2) = r → wordB a = s → sortF 19 d [a, a2] ar ds = if r && s then a else 0 := fun r s hr hs => by subst hr; subst hs; simp [sortF, word2F]
  cases h2 : (a == a2)
  · have HS : Hid (sortF 19 d [a, a2] ar ds = 0) := hs _ _ h2 rfl
    clear hs
    obtain ⟨hb0, hn0, hk0, hd0, hs0⟩ := three_boxes w #[.int .i64 19, .slice K kn kc, .int .i64 n, .int .i64 d, .string nm] #[.slice (some ⟨b, off, none⟩) 2 c] #[.string dn, .slice A3 n3 c3, .int .i64 ds]
    have x0 : (((w.alloc (.cells #[.int .i64 19, .slice K kn kc, .int .i64 n, .int .i64 d, .string nm] 65)).alloc (.cells #[.slice (some ⟨b, off, none⟩) 2 c] 22)).alloc (.cells #[.string dn, .slice A3 n3 c3, .int .i64 ds] 83)).cell? ⟨w.heap.size, 0, none⟩ = some (.int .i64 19) := hn0.cell 0
    have x3 : (((w.alloc (.cells #[.int .i64 19, .slice K kn kc, .int .i64 n, .int .i64 d, .string nm] 65)).alloc (.cells #[.slice (some ⟨b, off, none⟩) 2 c] 22)).alloc (.cells #[.string dn, .slice A3 n3 c3, .int .i64 ds] 83)).cell? ⟨w.heap.size, 3, none⟩ = some (.int .i64 d) := hn0.cell 3
    have y0 : (((w.alloc (.cells #[.int .i64 19, .slice K kn kc, .int .i64 n, .int .i64 d, .string nm] 65)).alloc (.cells #[.slice (some ⟨b, off, none⟩) 2 c] 22)).alloc (.cells #[.string dn, .slice A3 n3 c3, .int .i64 ds] 83)).cell? ⟨w.heap.size + 1, 0, none⟩ = some (.slice (some ⟨b, off, none⟩) 2 c) := hk0.cell 0
    have z1 : (((w.alloc (.cells #[.int .i64 19, .slice K kn kc, .int .i64 n, .int .i64 d, .string nm] 65)).alloc (.cells #[.slice (some ⟨b, off, none⟩) 2 c] 22)).alloc (.cells #[.string dn, .slice A3 n3 c3, .int .i64 ds] 83)).cell? ⟨w.heap.size + 2, 1, none⟩ = some (.slice A3 n3 c3) := hd0.cell 1
    have z2 : (((w.alloc (.cells #[.int .i64 19, .slice K kn kc, .int .i64 n, .int .i64 d, .string nm] 65)).alloc (.cells #[.slice (some ⟨b, off, none⟩) 2 c] 22)).alloc (.cells #[.string dn, .slice A3 n3 c3, .int .i64 ds] 83)).cell? ⟨w.heap.size + 2, 2, none⟩ = some (.int .i64 ds) := hd0.cell 2
    have j0 : (((w.alloc (.cells #[.int .i64 19, .slice K kn kc, .int .i64 n, .int .i64 d, .string nm] 65)).alloc (.cells #[.slice (some ⟨b, off, none⟩) 2 c] 22)).alloc (.cells #[.string dn, .slice A3 n3 c3, .int .i64 ds] 83)).cell? ⟨b, off, none⟩ = some (.int .i64 a) := (hb0.cell (p := ⟨b, off, none⟩) hb).trans k0
    have j1 : (((w.alloc (.cells #[.int .i64 19, .slice K kn kc, .int .i64 n, .int .i64 d, .string nm] 65)).alloc (.cells #[.slice (some ⟨b, off, none⟩) 2 c] 22)).alloc (.cells #[.string dn, .slice A3 n3 c3, .int .i64 ds] 83)).cell? ⟨b, off + 1, none⟩ = some (.int .i64 a2) := (hb0.cell (p := ⟨b, off + 1, none⟩) hb).trans k1
    clear hks k0 k1
    have HB := Lib.hid (And.intro hb0 (And.intro hn0 (And.intro hk0 (And.intro hd0 hs0))))
    clear hb0 hn0 hk0 hd0 hs0
    go_enter Try.func62, Try.ntmps62
    go_wp2_with fail
    generalize (((w.alloc (.cells #[.int .i64 19, .slice K kn kc, .int .i64 n, .int .i64 d, .string nm] 65)).alloc (.cells #[.slice (some ⟨b, off, none⟩) 2 c] 22)).alloc (.cells #[.string dn, .slice A3 n3 c3, .int .i64 ds] 83)) = X at x0 x3 y0 z1 z2 j0 j1 HB ⊢
    go_quiet (fail)
    go_wp2_with fail
    go_quiet (fail)
    go_wp2_with fail
    go_ret
    exact ⟨ret_int (by rw [HS.out]), (by first | exact HB.out.1 | exact below_drewN HB.out.1 _ | exact below_drewN (below_drewN HB.out.1 _) _)⟩
  · cases hw : wordB a
    all_goals
      have HS := Lib.hid (hs _ _ h2 hw)
      have HW := Lib.hid (word_is a _ hw)
      clear hs hw
      obtain ⟨hb0, hn0, hk0, hd0, hs0⟩ := three_boxes w #[.int .i64 19, .slice K kn kc, .int .i64 n, .int .i64 d, .string nm] #[.slice (some ⟨b, off, none⟩) 2 c] #[.string dn, .slice A3 n3 c3, .int .i64 ds]
      have x0 : (((w.alloc (.cells #[.int .i64 19, .slice K kn kc, .int .i64 n, .int .i64 d, .string nm] 65)).alloc (.cells #[.slice (some ⟨b, off, none⟩) 2 c] 22)).alloc (.cells #[.string dn, .slice A3 n3 c3, .int .i64 ds] 83)).cell? ⟨w.heap.size, 0, none⟩ = some (.int .i64 19) := hn0.cell 0
      have x3 : (((w.alloc (.cells #[.int .i64 19, .slice K kn kc, .int .i64 n, .int .i64 d, .string nm] 65)).alloc (.cells #[.slice (some ⟨b, off, none⟩) 2 c] 22)).alloc (.cells #[.string dn, .slice A3 n3 c3, .int .i64 ds] 83)).cell? ⟨w.heap.size, 3, none⟩ = some (.int .i64 d) := hn0.cell 3
      have y0 : (((w.alloc (.cells #[.int .i64 19, .slice K kn kc, .int .i64 n, .int .i64 d, .string nm] 65)).alloc (.cells #[.slice (some ⟨b, off, none⟩) 2 c] 22)).alloc (.cells #[.string dn, .slice A3 n3 c3, .int .i64 ds] 83)).cell? ⟨w.heap.size + 1, 0, none⟩ = some (.slice (some ⟨b, off, none⟩) 2 c) := hk0.cell 0
      have z1 : (((w.alloc (.cells #[.int .i64 19, .slice K kn kc, .int .i64 n, .int .i64 d, .string nm] 65)).alloc (.cells #[.slice (some ⟨b, off, none⟩) 2 c] 22)).alloc (.cells #[.string dn, .slice A3 n3 c3, .int .i64 ds] 83)).cell? ⟨w.heap.size + 2, 1, none⟩ = some (.slice A3 n3 c3) := hd0.cell 1
      have z2 : (((w.alloc (.cells #[.int .i64 19, .slice K kn kc, .int .i64 n, .int .i64 d, .string nm] 65)).alloc (.cells #[.slice (some ⟨b, off, none⟩) 2 c] 22)).alloc (.cells #[.string dn, .slice A3 n3 c3, .int .i64 ds] 83)).cell? ⟨w.heap.size + 2, 2, none⟩ = some (.int .i64 ds) := hd0.cell 2
      have j0 : (((w.alloc (.cells #[.int .i64 19, .slice K kn kc, .int .i64 n, .int .i64 d, .string nm] 65)).alloc (.cells #[.slice (some ⟨b, off, none⟩) 2 c] 22)).alloc (.cells #[.string dn, .slice A3 n3 c3, .int .i64 ds] 83)).cell? ⟨b, off, none⟩ = some (.int .i64 a) := (hb0.cell (p := ⟨b, off, none⟩) hb).trans k0
      have j1 : (((w.alloc (.cells #[.int .i64 19, .slice K kn kc, .int .i64 n, .int .i64 d, .string nm] 65)).alloc (.cells #[.slice (some ⟨b, off, none⟩) 2 c] 22)).alloc (.cells #[.string dn, .slice A3 n3 c3, .int .i64 ds] 83)).cell? ⟨b, off + 1, none⟩ = some (.int .i64 a2) := (hb0.cell (p := ⟨b, off + 1, none⟩) hb).trans k1
      clear hks k0 k1
      have HB := Lib.hid (And.intro hb0 (And.intro hn0 (And.intro hk0 (And.intro hd0 hs0))))
      clear hb0 hn0 hk0 hd0 hs0
      go_enter Try.func62, Try.ntmps62
      go_wp2_with fail
      generalize (((w.alloc (.cells #[.int .i64 19, .slice K kn kc, .int .i64 n, .int .i64 d, .string nm] 65)).alloc (.cells #[.slice (some ⟨b, off, none⟩) 2 c] 22)).alloc (.cells #[.string dn, .slice A3 n3 c3, .int .i64 ds] 83)) = X at x0 x3 y0 z1 z2 j0 j1 HB ⊢
      go_quiet (fail)
      go_wp2_with fail
      go_quiet ((go_at_call 79; exact quiet_same2 HW.out))
      go_wp2_with fail
      go_ret
      exact ⟨ret_int (by rw [HS.out]; rfl), (by first | exact HB.out.1 | exact below_drewN HB.out.1 _ | exact below_drewN (below_drewN HB.out.1 _) _)⟩

set_option maxRecDepth 100000 in
set_option maxHeartbeats 8000000 in
theorem sort_20 (a a2 : Int) (n d : Int) (nm : ByteArray) (K : Option Addr) (kn kc : Nat) (A : Option Addr) (c : Nat) (dn : ByteArray) (A3 : Option Addr) (n3 c3 : Nat) (ds : Int) (ar : List Int) (w : World) (hks : IntsB w w.heap.size A 2 [a, a2]) :
    Calls Try.prog 62 #[.agg #[.int .i64 20, .slice K kn kc, .int .i64 n, .int .i64 d, .string nm], .slice A 2 c, .agg #[.string dn, .slice A3 n3 c3, .int .i64 ds]] w fun e w' => e = .returned (.int .i64 (sortF 20 d [a, a2] ar ds)) ∧ Below w.heap.size w w' := by
  obtain ⟨b, off, rfl, hb, k0, k1⟩ := ints_two hks
  have hs : ∀ r s, (a == a2) = r → wordB a = s → sortF 20 d [a, a2] ar ds = if r && s then a else 0 := fun r s hr hs => by subst hr; subst hs; simp [sortF, word2F]
  cases h2 : (a == a2)
  · have HS : Hid (sortF 20 d [a, a2] ar ds = 0) := hs _ _ h2 rfl
    clear hs
    obtain ⟨hb0, hn0, hk0, hd0, hs0⟩ := three_boxes w #[.int .i64 20, .slice K kn kc, .int .i64 n, .int .i64 d, .string nm] #[.slice (some ⟨b, off, none⟩) 2 c] #[.string dn, .slice A3 n3 c3, .int .i64 ds]
    have x0 : (((w.alloc (.cells #[.int .i64 20, .slice K kn kc, .int .i64 n, .int .i64 d, .string nm] 65)).alloc (.cells #[.slice (some ⟨b, off, none⟩) 2 c] 22)).alloc (.cells #[.string dn, .slice A3 n3 c3, .int .i64 ds] 83)).cell? ⟨w.heap.size, 0, none⟩ = some (.int .i64 20) := hn0.cell 0
    have x3 : (((w.alloc (.cells #[.int .i64 20, .slice K kn kc, .int .i64 n, .int .i64 d, .string nm] 65)).alloc (.cells #[.slice (some ⟨b, off, none⟩) 2 c] 22)).alloc (.cells #[.string dn, .slice A3 n3 c3, .int .i64 ds] 83)).cell? ⟨w.heap.size, 3, none⟩ = some (.int .i64 d) := hn0.cell 3
    have y0 : (((w.alloc (.cells #[.int .i64 20, .slice K kn kc, .int .i64 n, .int .i64 d, .string nm] 65)).alloc (.cells #[.slice (some ⟨b, off, none⟩) 2 c] 22)).alloc (.cells #[.string dn, .slice A3 n3 c3, .int .i64 ds] 83)).cell? ⟨w.heap.size + 1, 0, none⟩ = some (.slice (some ⟨b, off, none⟩) 2 c) := hk0.cell 0
    have z1 : (((w.alloc (.cells #[.int .i64 20, .slice K kn kc, .int .i64 n, .int .i64 d, .string nm] 65)).alloc (.cells #[.slice (some ⟨b, off, none⟩) 2 c] 22)).alloc (.cells #[.string dn, .slice A3 n3 c3, .int .i64 ds] 83)).cell? ⟨w.heap.size + 2, 1, none⟩ = some (.slice A3 n3 c3) := hd0.cell 1
    have z2 : (((w.alloc (.cells #[.int .i64 20, .slice K kn kc, .int .i64 n, .int .i64 d, .string nm] 65)).alloc (.cells #[.slice (some ⟨b, off, none⟩) 2 c] 22)).alloc (.cells #[.string dn, .slice A3 n3 c3, .int .i64 ds] 83)).cell? ⟨w.heap.size + 2, 2, none⟩ = some (.int .i64 ds) := hd0.cell 2
    have j0 : (((w.alloc (.cells #[.int .i64 20, .slice K kn kc, .int .i64 n, .int .i64 d, .string nm] 65)).alloc (.cells #[.slice (some ⟨b, off, none⟩) 2 c] 22)).alloc (.cells #[.string dn, .slice A3 n3 c3, .int .i64 ds] 83)).cell? ⟨b, off, none⟩ = some (.int .i64 a) := (hb0.cell (p := ⟨b, off, none⟩) hb).trans k0
    have j1 : (((w.alloc (.cells #[.int .i64 20, .slice K kn kc, .int .i64 n, .int .i64 d, .string nm] 65)).alloc (.cells #[.slice (some ⟨b, off, none⟩) 2 c] 22)).alloc (.cells #[.string dn, .slice A3 n3 c3, .int .i64 ds] 83)).cell? ⟨b, off + 1, none⟩ = some (.int .i64 a2) := (hb0.cell (p := ⟨b, off + 1, none⟩) hb).trans k1
    clear hks k0 k1
    have HB := Lib.hid (And.intro hb0 (And.intro hn0 (And.intro hk0 (And.intro hd0 hs0))))
    clear hb0 hn0 hk0 hd0 hs0
    go_enter Try.func62, Try.ntmps62
    go_wp2_with fail
    generalize (((w.alloc (.cells #[.int .i64 20, .slice K kn kc, .int .i64 n, .int .i64 d, .string nm] 65)).alloc (.cells #[.slice (some ⟨b, off, none⟩) 2 c] 22)).alloc (.cells #[.string dn, .slice A3 n3 c3, .int .i64 ds] 83)) = X at x0 x3 y0 z1 z2 j0 j1 HB ⊢
    go_quiet (fail)
    go_wp2_with fail
    go_quiet (fail)
    go_wp2_with fail
    go_ret
    exact ⟨ret_int (by rw [HS.out]), (by first | exact HB.out.1 | exact below_drewN HB.out.1 _ | exact below_drewN (below_drewN HB.out.1 _) _)⟩
  · cases hw : wordB a
    all_goals
      have HS := Lib.hid (hs _ _ h2 hw)
      have HW := Lib.hid (word_is a _ hw)
      clear hs hw
      obtain ⟨hb0, hn0, hk0, hd0, hs0⟩ := three_boxes w #[.int .i64 20, .slice K kn kc, .int .i64 n, .int .i64 d, .string nm] #[.slice (some ⟨b, off, none⟩) 2 c] #[.string dn, .slice A3 n3 c3, .int .i64 ds]
      have x0 : (((w.alloc (.cells #[.int .i64 20, .slice K kn kc, .int .i64 n, .int .i64 d, .string nm] 65)).alloc (.cells #[.slice (some ⟨b, off, none⟩) 2 c] 22)).alloc (.cells #[.string dn, .slice A3 n3 c3, .int .i64 ds] 83)).cell? ⟨w.heap.size, 0, none⟩ = some (.int .i64 20) := hn0.cell 0
      have x3 : (((w.alloc (.cells #[.int .i64 20, .slice K kn kc, .int .i64 n, .int .i64 d, .string nm] 65)).alloc (.cells #[.slice (some ⟨b, off, none⟩) 2 c] 22)).alloc (.cells #[.string dn, .slice A3 n3 c3, .int .i64 ds] 83)).cell? ⟨w.heap.size, 3, none⟩ = some (.int .i64 d) := hn0.cell 3
      have y0 : (((w.alloc (.cells #[.int .i64 20, .slice K kn kc, .int .i64 n, .int .i64 d, .string nm] 65)).alloc (.cells #[.slice (some ⟨b, off, none⟩) 2 c] 22)).alloc (.cells #[.string dn, .slice A3 n3 c3, .int .i64 ds] 83)).cell? ⟨w.heap.size + 1, 0, none⟩ = some (.slice (some ⟨b, off, none⟩) 2 c) := hk0.cell 0
      have z1 : (((w.alloc (.cells #[.int .i64 20, .slice K kn kc, .int .i64 n, .int .i64 d, .string nm] 65)).alloc (.cells #[.slice (some ⟨b, off, none⟩) 2 c] 22)).alloc (.cells #[.string dn, .slice A3 n3 c3, .int .i64 ds] 83)).cell? ⟨w.heap.size + 2, 1, none⟩ = some (.slice A3 n3 c3) := hd0.cell 1
      have z2 : (((w.alloc (.cells #[.int .i64 20, .slice K kn kc, .int .i64 n, .int .i64 d, .string nm] 65)).alloc (.cells #[.slice (some ⟨b, off, none⟩) 2 c] 22)).alloc (.cells #[.string dn, .slice A3 n3 c3, .int .i64 ds] 83)).cell? ⟨w.heap.size + 2, 2, none⟩ = some (.int .i64 ds) := hd0.cell 2
      have j0 : (((w.alloc (.cells #[.int .i64 20, .slice K kn kc, .int .i64 n, .int .i64 d, .string nm] 65)).alloc (.cells #[.slice (some ⟨b, off, none⟩) 2 c] 22)).alloc (.cells #[.string dn, .slice A3 n3 c3, .int .i64 ds] 83)).cell? ⟨b, off, none⟩ = some (.int .i64 a) := (hb0.cell (p := ⟨b, off, none⟩) hb).trans k0
      have j1 : (((w.alloc (.cells #[.int .i64 20, .slice K kn kc, .int .i64 n, .int .i64 d, .string nm] 65)).alloc (.cells #[.slice (some ⟨b, off, none⟩) 2 c] 22)).alloc (.cells #[.string dn, .slice A3 n3 c3, .int .i64 ds] 83)).cell? ⟨b, off + 1, none⟩ = some (.int .i64 a2) := (hb0.cell (p := ⟨b, off + 1, none⟩) hb).trans k1
      clear hks k0 k1
      have HB := Lib.hid (And.intro hb0 (And.intro hn0 (And.intro hk0 (And.intro hd0 hs0))))
      clear hb0 hn0 hk0 hd0 hs0
      go_enter Try.func62, Try.ntmps62
      go_wp2_with fail
      generalize (((w.alloc (.cells #[.int .i64 20, .slice K kn kc, .int .i64 n, .int .i64 d, .string nm] 65)).alloc (.cells #[.slice (some ⟨b, off, none⟩) 2 c] 22)).alloc (.cells #[.string dn, .slice A3 n3 c3, .int .i64 ds] 83)) = X at x0 x3 y0 z1 z2 j0 j1 HB ⊢
      go_quiet (fail)
      go_wp2_with fail
      go_quiet ((go_at_call 79; exact quiet_same2 HW.out))
      go_wp2_with fail
      go_ret
      exact ⟨ret_int (by rw [HS.out]; rfl), (by first | exact HB.out.1 | exact below_drewN HB.out.1 _ | exact below_drewN (below_drewN HB.out.1 _) _)⟩

set_option maxRecDepth 100000 in
set_option maxHeartbeats 8000000 in
theorem sort_21 (a a2 : Int) (n d : Int) (nm : ByteArray) (K : Option Addr) (kn kc : Nat) (A : Option Addr) (c : Nat) (dn : ByteArray) (A3 : Option Addr) (n3 c3 : Nat) (ds : Int) (ar : List Int) (w : World) (hks : IntsB w w.heap.size A 2 [a, a2]) :
    Calls Try.prog 62 #[.agg #[.int .i64 21, .slice K kn kc, .int .i64 n, .int .i64 d, .string nm], .slice A 2 c, .agg #[.string dn, .slice A3 n3 c3, .int .i64 ds]] w fun e w' => e = .returned (.int .i64 (sortF 21 d [a, a2] ar ds)) ∧ Below w.heap.size w w' := by
  obtain ⟨b, off, rfl, hb, k0, k1⟩ := ints_two hks
  have hs : ∀ r s, (a == a2) = r → wordB a = s → sortF 21 d [a, a2] ar ds = if r && s then a else 0 := fun r s hr hs => by subst hr; subst hs; simp [sortF, word2F]
  cases h2 : (a == a2)
  · have HS : Hid (sortF 21 d [a, a2] ar ds = 0) := hs _ _ h2 rfl
    clear hs
    obtain ⟨hb0, hn0, hk0, hd0, hs0⟩ := three_boxes w #[.int .i64 21, .slice K kn kc, .int .i64 n, .int .i64 d, .string nm] #[.slice (some ⟨b, off, none⟩) 2 c] #[.string dn, .slice A3 n3 c3, .int .i64 ds]
    have x0 : (((w.alloc (.cells #[.int .i64 21, .slice K kn kc, .int .i64 n, .int .i64 d, .string nm] 65)).alloc (.cells #[.slice (some ⟨b, off, none⟩) 2 c] 22)).alloc (.cells #[.string dn, .slice A3 n3 c3, .int .i64 ds] 83)).cell? ⟨w.heap.size, 0, none⟩ = some (.int .i64 21) := hn0.cell 0
    have x3 : (((w.alloc (.cells #[.int .i64 21, .slice K kn kc, .int .i64 n, .int .i64 d, .string nm] 65)).alloc (.cells #[.slice (some ⟨b, off, none⟩) 2 c] 22)).alloc (.cells #[.string dn, .slice A3 n3 c3, .int .i64 ds] 83)).cell? ⟨w.heap.size, 3, none⟩ = some (.int .i64 d) := hn0.cell 3
    have y0 : (((w.alloc (.cells #[.int .i64 21, .slice K kn kc, .int .i64 n, .int .i64 d, .string nm] 65)).alloc (.cells #[.slice (some ⟨b, off, none⟩) 2 c] 22)).alloc (.cells #[.string dn, .slice A3 n3 c3, .int .i64 ds] 83)).cell? ⟨w.heap.size + 1, 0, none⟩ = some (.slice (some ⟨b, off, none⟩) 2 c) := hk0.cell 0
    have z1 : (((w.alloc (.cells #[.int .i64 21, .slice K kn kc, .int .i64 n, .int .i64 d, .string nm] 65)).alloc (.cells #[.slice (some ⟨b, off, none⟩) 2 c] 22)).alloc (.cells #[.string dn, .slice A3 n3 c3, .int .i64 ds] 83)).cell? ⟨w.heap.size + 2, 1, none⟩ = some (.slice A3 n3 c3) := hd0.cell 1
    have z2 : (((w.alloc (.cells #[.int .i64 21, .slice K kn kc, .int .i64 n, .int .i64 d, .string nm] 65)).alloc (.cells #[.slice (some ⟨b, off, none⟩) 2 c] 22)).alloc (.cells #[.string dn, .slice A3 n3 c3, .int .i64 ds] 83)).cell? ⟨w.heap.size + 2, 2, none⟩ = some (.int .i64 ds) := hd0.cell 2
    have j0 : (((w.alloc (.cells #[.int .i64 21, .slice K kn kc, .int .i64 n, .int .i64 d, .string nm] 65)).alloc (.cells #[.slice (some ⟨b, off, none⟩) 2 c] 22)).alloc (.cells #[.string dn, .slice A3 n3 c3, .int .i64 ds] 83)).cell? ⟨b, off, none⟩ = some (.int .i64 a) := (hb0.cell (p := ⟨b, off, none⟩) hb).trans k0
    have j1 : (((w.alloc (.cells #[.int .i64 21, .slice K kn kc, .int .i64 n, .int .i64 d, .string nm] 65)).alloc (.cells #[.slice (some ⟨b, off, none⟩) 2 c] 22)).alloc (.cells #[.string dn, .slice A3 n3 c3, .int .i64 ds] 83)).cell? ⟨b, off + 1, none⟩ = some (.int .i64 a2) := (hb0.cell (p := ⟨b, off + 1, none⟩) hb).trans k1
    clear hks k0 k1
    have HB := Lib.hid (And.intro hb0 (And.intro hn0 (And.intro hk0 (And.intro hd0 hs0))))
    clear hb0 hn0 hk0 hd0 hs0
    go_enter Try.func62, Try.ntmps62
    go_wp2_with fail
    generalize (((w.alloc (.cells #[.int .i64 21, .slice K kn kc, .int .i64 n, .int .i64 d, .string nm] 65)).alloc (.cells #[.slice (some ⟨b, off, none⟩) 2 c] 22)).alloc (.cells #[.string dn, .slice A3 n3 c3, .int .i64 ds] 83)) = X at x0 x3 y0 z1 z2 j0 j1 HB ⊢
    go_quiet (fail)
    go_wp2_with fail
    go_quiet (fail)
    go_wp2_with fail
    go_ret
    exact ⟨ret_int (by rw [HS.out]), (by first | exact HB.out.1 | exact below_drewN HB.out.1 _ | exact below_drewN (below_drewN HB.out.1 _) _)⟩
  · cases hw : wordB a
    all_goals
      have HS := Lib.hid (hs _ _ h2 hw)
      have HW := Lib.hid (word_is a _ hw)
      clear hs hw
      obtain ⟨hb0, hn0, hk0, hd0, hs0⟩ := three_boxes w #[.int .i64 21, .slice K kn kc, .int .i64 n, .int .i64 d, .string nm] #[.slice (some ⟨b, off, none⟩) 2 c] #[.string dn, .slice A3 n3 c3, .int .i64 ds]
      have x0 : (((w.alloc (.cells #[.int .i64 21, .slice K kn kc, .int .i64 n, .int .i64 d, .string nm] 65)).alloc (.cells #[.slice (some ⟨b, off, none⟩) 2 c] 22)).alloc (.cells #[.string dn, .slice A3 n3 c3, .int .i64 ds] 83)).cell? ⟨w.heap.size, 0, none⟩ = some (.int .i64 21) := hn0.cell 0
      have x3 : (((w.alloc (.cells #[.int .i64 21, .slice K kn kc, .int .i64 n, .int .i64 d, .string nm] 65)).alloc (.cells #[.slice (some ⟨b, off, none⟩) 2 c] 22)).alloc (.cells #[.string dn, .slice A3 n3 c3, .int .i64 ds] 83)).cell? ⟨w.heap.size, 3, none⟩ = some (.int .i64 d) := hn0.cell 3
      have y0 : (((w.alloc (.cells #[.int .i64 21, .slice K kn kc, .int .i64 n, .int .i64 d, .string nm] 65)).alloc (.cells #[.slice (some ⟨b, off, none⟩) 2 c] 22)).alloc (.cells #[.string dn, .slice A3 n3 c3, .int .i64 ds] 83)).cell? ⟨w.heap.size + 1, 0, none⟩ = some (.slice (some ⟨b, off, none⟩) 2 c) := hk0.cell 0
      have z1 : (((w.alloc (.cells #[.int .i64 21, .slice K kn kc, .int .i64 n, .int .i64 d, .string nm] 65)).alloc (.cells #[.slice (some ⟨b, off, none⟩) 2 c] 22)).alloc (.cells #[.string dn, .slice A3 n3 c3, .int .i64 ds] 83)).cell? ⟨w.heap.size + 2, 1, none⟩ = some (.slice A3 n3 c3) := hd0.cell 1
      have z2 : (((w.alloc (.cells #[.int .i64 21, .slice K kn kc, .int .i64 n, .int .i64 d, .string nm] 65)).alloc (.cells #[.slice (some ⟨b, off, none⟩) 2 c] 22)).alloc (.cells #[.string dn, .slice A3 n3 c3, .int .i64 ds] 83)).cell? ⟨w.heap.size + 2, 2, none⟩ = some (.int .i64 ds) := hd0.cell 2
      have j0 : (((w.alloc (.cells #[.int .i64 21, .slice K kn kc, .int .i64 n, .int .i64 d, .string nm] 65)).alloc (.cells #[.slice (some ⟨b, off, none⟩) 2 c] 22)).alloc (.cells #[.string dn, .slice A3 n3 c3, .int .i64 ds] 83)).cell? ⟨b, off, none⟩ = some (.int .i64 a) := (hb0.cell (p := ⟨b, off, none⟩) hb).trans k0
      have j1 : (((w.alloc (.cells #[.int .i64 21, .slice K kn kc, .int .i64 n, .int .i64 d, .string nm] 65)).alloc (.cells #[.slice (some ⟨b, off, none⟩) 2 c] 22)).alloc (.cells #[.string dn, .slice A3 n3 c3, .int .i64 ds] 83)).cell? ⟨b, off + 1, none⟩ = some (.int .i64 a2) := (hb0.cell (p := ⟨b, off + 1, none⟩) hb).trans k1
      clear hks k0 k1
      have HB := Lib.hid (And.intro hb0 (And.intro hn0 (And.intro hk0 (And.intro hd0 hs0))))
      clear hb0 hn0 hk0 hd0 hs0
      go_enter Try.func62, Try.ntmps62
      go_wp2_with fail
      generalize (((w.alloc (.cells #[.int .i64 21, .slice K kn kc, .int .i64 n, .int .i64 d, .string nm] 65)).alloc (.cells #[.slice (some ⟨b, off, none⟩) 2 c] 22)).alloc (.cells #[.string dn, .slice A3 n3 c3, .int .i64 ds] 83)) = X at x0 x3 y0 z1 z2 j0 j1 HB ⊢
      go_quiet (fail)
      go_wp2_with fail
      go_quiet ((go_at_call 79; exact quiet_same2 HW.out))
      go_wp2_with fail
      go_ret
      exact ⟨ret_int (by rw [HS.out]; rfl), (by first | exact HB.out.1 | exact below_drewN HB.out.1 _ | exact below_drewN (below_drewN HB.out.1 _) _)⟩

set_option maxRecDepth 100000 in
set_option maxHeartbeats 8000000 in
theorem sort_22 (a a2 : Int) (n d : Int) (nm : ByteArray) (K : Option Addr) (kn kc : Nat) (A : Option Addr) (c : Nat) (dn : ByteArray) (A3 : Option Addr) (n3 c3 : Nat) (ds : Int) (ar : List Int) (w : World) (hks : IntsB w w.heap.size A 2 [a, a2]) :
    Calls Try.prog 62 #[.agg #[.int .i64 22, .slice K kn kc, .int .i64 n, .int .i64 d, .string nm], .slice A 2 c, .agg #[.string dn, .slice A3 n3 c3, .int .i64 ds]] w fun e w' => e = .returned (.int .i64 (sortF 22 d [a, a2] ar ds)) ∧ Below w.heap.size w w' := by
  obtain ⟨b, off, rfl, hb, k0, k1⟩ := ints_two hks
  have hs : ∀ r s, (a == a2) = r → wordB a = s → sortF 22 d [a, a2] ar ds = if r && s then 1 else 0 := fun r s hr hs => by subst hr; subst hs; simp [sortF, wlessF]
  cases h2 : (a == a2)
  · have HS : Hid (sortF 22 d [a, a2] ar ds = 0) := hs _ _ h2 rfl
    clear hs
    obtain ⟨hb0, hn0, hk0, hd0, hs0⟩ := three_boxes w #[.int .i64 22, .slice K kn kc, .int .i64 n, .int .i64 d, .string nm] #[.slice (some ⟨b, off, none⟩) 2 c] #[.string dn, .slice A3 n3 c3, .int .i64 ds]
    have x0 : (((w.alloc (.cells #[.int .i64 22, .slice K kn kc, .int .i64 n, .int .i64 d, .string nm] 65)).alloc (.cells #[.slice (some ⟨b, off, none⟩) 2 c] 22)).alloc (.cells #[.string dn, .slice A3 n3 c3, .int .i64 ds] 83)).cell? ⟨w.heap.size, 0, none⟩ = some (.int .i64 22) := hn0.cell 0
    have x3 : (((w.alloc (.cells #[.int .i64 22, .slice K kn kc, .int .i64 n, .int .i64 d, .string nm] 65)).alloc (.cells #[.slice (some ⟨b, off, none⟩) 2 c] 22)).alloc (.cells #[.string dn, .slice A3 n3 c3, .int .i64 ds] 83)).cell? ⟨w.heap.size, 3, none⟩ = some (.int .i64 d) := hn0.cell 3
    have y0 : (((w.alloc (.cells #[.int .i64 22, .slice K kn kc, .int .i64 n, .int .i64 d, .string nm] 65)).alloc (.cells #[.slice (some ⟨b, off, none⟩) 2 c] 22)).alloc (.cells #[.string dn, .slice A3 n3 c3, .int .i64 ds] 83)).cell? ⟨w.heap.size + 1, 0, none⟩ = some (.slice (some ⟨b, off, none⟩) 2 c) := hk0.cell 0
    have z1 : (((w.alloc (.cells #[.int .i64 22, .slice K kn kc, .int .i64 n, .int .i64 d, .string nm] 65)).alloc (.cells #[.slice (some ⟨b, off, none⟩) 2 c] 22)).alloc (.cells #[.string dn, .slice A3 n3 c3, .int .i64 ds] 83)).cell? ⟨w.heap.size + 2, 1, none⟩ = some (.slice A3 n3 c3) := hd0.cell 1
    have z2 : (((w.alloc (.cells #[.int .i64 22, .slice K kn kc, .int .i64 n, .int .i64 d, .string nm] 65)).alloc (.cells #[.slice (some ⟨b, off, none⟩) 2 c] 22)).alloc (.cells #[.string dn, .slice A3 n3 c3, .int .i64 ds] 83)).cell? ⟨w.heap.size + 2, 2, none⟩ = some (.int .i64 ds) := hd0.cell 2
    have j0 : (((w.alloc (.cells #[.int .i64 22, .slice K kn kc, .int .i64 n, .int .i64 d, .string nm] 65)).alloc (.cells #[.slice (some ⟨b, off, none⟩) 2 c] 22)).alloc (.cells #[.string dn, .slice A3 n3 c3, .int .i64 ds] 83)).cell? ⟨b, off, none⟩ = some (.int .i64 a) := (hb0.cell (p := ⟨b, off, none⟩) hb).trans k0
    have j1 : (((w.alloc (.cells #[.int .i64 22, .slice K kn kc, .int .i64 n, .int .i64 d, .string nm] 65)).alloc (.cells #[.slice (some ⟨b, off, none⟩) 2 c] 22)).alloc (.cells #[.string dn, .slice A3 n3 c3, .int .i64 ds] 83)).cell? ⟨b, off + 1, none⟩ = some (.int .i64 a2) := (hb0.cell (p := ⟨b, off + 1, none⟩) hb).trans k1
    clear hks k0 k1
    have HB := Lib.hid (And.intro hb0 (And.intro hn0 (And.intro hk0 (And.intro hd0 hs0))))
    clear hb0 hn0 hk0 hd0 hs0
    go_enter Try.func62, Try.ntmps62
    go_wp2_with fail
    generalize (((w.alloc (.cells #[.int .i64 22, .slice K kn kc, .int .i64 n, .int .i64 d, .string nm] 65)).alloc (.cells #[.slice (some ⟨b, off, none⟩) 2 c] 22)).alloc (.cells #[.string dn, .slice A3 n3 c3, .int .i64 ds] 83)) = X at x0 x3 y0 z1 z2 j0 j1 HB ⊢
    go_quiet (fail)
    go_wp2_with fail
    go_ret
    exact ⟨ret_int (by rw [HS.out]), (by first | exact HB.out.1 | exact below_drewN HB.out.1 _ | exact below_drewN (below_drewN HB.out.1 _) _)⟩
  · cases hw : wordB a
    all_goals
      have HS := Lib.hid (hs _ _ h2 hw)
      have HW := Lib.hid (word_is a _ hw)
      clear hs hw
      obtain ⟨hb0, hn0, hk0, hd0, hs0⟩ := three_boxes w #[.int .i64 22, .slice K kn kc, .int .i64 n, .int .i64 d, .string nm] #[.slice (some ⟨b, off, none⟩) 2 c] #[.string dn, .slice A3 n3 c3, .int .i64 ds]
      have x0 : (((w.alloc (.cells #[.int .i64 22, .slice K kn kc, .int .i64 n, .int .i64 d, .string nm] 65)).alloc (.cells #[.slice (some ⟨b, off, none⟩) 2 c] 22)).alloc (.cells #[.string dn, .slice A3 n3 c3, .int .i64 ds] 83)).cell? ⟨w.heap.size, 0, none⟩ = some (.int .i64 22) := hn0.cell 0
      have x3 : (((w.alloc (.cells #[.int .i64 22, .slice K kn kc, .int .i64 n, .int .i64 d, .string nm] 65)).alloc (.cells #[.slice (some ⟨b, off, none⟩) 2 c] 22)).alloc (.cells #[.string dn, .slice A3 n3 c3, .int .i64 ds] 83)).cell? ⟨w.heap.size, 3, none⟩ = some (.int .i64 d) := hn0.cell 3
      have y0 : (((w.alloc (.cells #[.int .i64 22, .slice K kn kc, .int .i64 n, .int .i64 d, .string nm] 65)).alloc (.cells #[.slice (some ⟨b, off, none⟩) 2 c] 22)).alloc (.cells #[.string dn, .slice A3 n3 c3, .int .i64 ds] 83)).cell? ⟨w.heap.size + 1, 0, none⟩ = some (.slice (some ⟨b, off, none⟩) 2 c) := hk0.cell 0
      have z1 : (((w.alloc (.cells #[.int .i64 22, .slice K kn kc, .int .i64 n, .int .i64 d, .string nm] 65)).alloc (.cells #[.slice (some ⟨b, off, none⟩) 2 c] 22)).alloc (.cells #[.string dn, .slice A3 n3 c3, .int .i64 ds] 83)).cell? ⟨w.heap.size + 2, 1, none⟩ = some (.slice A3 n3 c3) := hd0.cell 1
      have z2 : (((w.alloc (.cells #[.int .i64 22, .slice K kn kc, .int .i64 n, .int .i64 d, .string nm] 65)).alloc (.cells #[.slice (some ⟨b, off, none⟩) 2 c] 22)).alloc (.cells #[.string dn, .slice A3 n3 c3, .int .i64 ds] 83)).cell? ⟨w.heap.size + 2, 2, none⟩ = some (.int .i64 ds) := hd0.cell 2
      have j0 : (((w.alloc (.cells #[.int .i64 22, .slice K kn kc, .int .i64 n, .int .i64 d, .string nm] 65)).alloc (.cells #[.slice (some ⟨b, off, none⟩) 2 c] 22)).alloc (.cells #[.string dn, .slice A3 n3 c3, .int .i64 ds] 83)).cell? ⟨b, off, none⟩ = some (.int .i64 a) := (hb0.cell (p := ⟨b, off, none⟩) hb).trans k0
      have j1 : (((w.alloc (.cells #[.int .i64 22, .slice K kn kc, .int .i64 n, .int .i64 d, .string nm] 65)).alloc (.cells #[.slice (some ⟨b, off, none⟩) 2 c] 22)).alloc (.cells #[.string dn, .slice A3 n3 c3, .int .i64 ds] 83)).cell? ⟨b, off + 1, none⟩ = some (.int .i64 a2) := (hb0.cell (p := ⟨b, off + 1, none⟩) hb).trans k1
      clear hks k0 k1
      have HB := Lib.hid (And.intro hb0 (And.intro hn0 (And.intro hk0 (And.intro hd0 hs0))))
      clear hb0 hn0 hk0 hd0 hs0
      go_enter Try.func62, Try.ntmps62
      go_wp2_with fail
      generalize (((w.alloc (.cells #[.int .i64 22, .slice K kn kc, .int .i64 n, .int .i64 d, .string nm] 65)).alloc (.cells #[.slice (some ⟨b, off, none⟩) 2 c] 22)).alloc (.cells #[.string dn, .slice A3 n3 c3, .int .i64 ds] 83)) = X at x0 x3 y0 z1 z2 j0 j1 HB ⊢
      go_quiet (fail)
      go_wp2_with (go_at_call 79; refine (HW.out _).mono ?_; rintro e w' ⟨rfl, rfl⟩)
      go_ret
      exact ⟨ret_int (by rw [HS.out]; rfl), (by first | exact HB.out.1 | exact below_drewN HB.out.1 _ | exact below_drewN (below_drewN HB.out.1 _) _)⟩

set_option maxRecDepth 100000 in
set_option maxHeartbeats 8000000 in
theorem sort_7 (a a2 a3 : Int) (n d : Int) (nm : ByteArray) (K : Option Addr) (kn kc : Nat) (A : Option Addr) (c : Nat) (dn : ByteArray) (A3 : Option Addr) (n3 c3 : Nat) (ds : Int) (ar : List Int) (w : World) (hks : IntsB w w.heap.size A 3 [a, a2, a3]) :
    Calls Try.prog 62 #[.agg #[.int .i64 7, .slice K kn kc, .int .i64 n, .int .i64 d, .string nm], .slice A 3 c, .agg #[.string dn, .slice A3 n3 c3, .int .i64 ds]] w fun e w' => e = .returned (.int .i64 (sortF 7 d [a, a2, a3] ar ds)) ∧ Below w.heap.size w w' := by
  obtain ⟨b, off, rfl, hb, k0, k1, k2⟩ := ints_three hks
  have hs : ∀ r s t, (a == 1) = r → (a2 == a3) = s → (a2 != 5) = t → sortF 7 d [a, a2, a3] ar ds = if r && s && t then a2 else 0 := fun r s t hr hs ht => by
    subst hr; subst hs; subst ht
    by_cases h1 : a = 1 <;> by_cases h2 : a2 = a3 <;> by_cases h5 : a2 = 5 <;> simp [sortF, pickF, h1, h2, h5]
  cases h1 : (a == 1) <;> cases h2 : (a2 == a3) <;> cases h5 : (a2 != 5)
  all_goals
    have HS := Lib.hid (hs _ _ _ h1 h2 h5)
    clear hs
    obtain ⟨hb0, hn0, hk0, hd0, hs0⟩ := three_boxes w #[.int .i64 7, .slice K kn kc, .int .i64 n, .int .i64 d, .string nm] #[.slice (some ⟨b, off, none⟩) 3 c] #[.string dn, .slice A3 n3 c3, .int .i64 ds]
    have x0 : (((w.alloc (.cells #[.int .i64 7, .slice K kn kc, .int .i64 n, .int .i64 d, .string nm] 65)).alloc (.cells #[.slice (some ⟨b, off, none⟩) 3 c] 22)).alloc (.cells #[.string dn, .slice A3 n3 c3, .int .i64 ds] 83)).cell? ⟨w.heap.size, 0, none⟩ = some (.int .i64 7) := hn0.cell 0
    have x3 : (((w.alloc (.cells #[.int .i64 7, .slice K kn kc, .int .i64 n, .int .i64 d, .string nm] 65)).alloc (.cells #[.slice (some ⟨b, off, none⟩) 3 c] 22)).alloc (.cells #[.string dn, .slice A3 n3 c3, .int .i64 ds] 83)).cell? ⟨w.heap.size, 3, none⟩ = some (.int .i64 d) := hn0.cell 3
    have y0 : (((w.alloc (.cells #[.int .i64 7, .slice K kn kc, .int .i64 n, .int .i64 d, .string nm] 65)).alloc (.cells #[.slice (some ⟨b, off, none⟩) 3 c] 22)).alloc (.cells #[.string dn, .slice A3 n3 c3, .int .i64 ds] 83)).cell? ⟨w.heap.size + 1, 0, none⟩ = some (.slice (some ⟨b, off, none⟩) 3 c) := hk0.cell 0
    have z1 : (((w.alloc (.cells #[.int .i64 7, .slice K kn kc, .int .i64 n, .int .i64 d, .string nm] 65)).alloc (.cells #[.slice (some ⟨b, off, none⟩) 3 c] 22)).alloc (.cells #[.string dn, .slice A3 n3 c3, .int .i64 ds] 83)).cell? ⟨w.heap.size + 2, 1, none⟩ = some (.slice A3 n3 c3) := hd0.cell 1
    have z2 : (((w.alloc (.cells #[.int .i64 7, .slice K kn kc, .int .i64 n, .int .i64 d, .string nm] 65)).alloc (.cells #[.slice (some ⟨b, off, none⟩) 3 c] 22)).alloc (.cells #[.string dn, .slice A3 n3 c3, .int .i64 ds] 83)).cell? ⟨w.heap.size + 2, 2, none⟩ = some (.int .i64 ds) := hd0.cell 2
    have j0 : (((w.alloc (.cells #[.int .i64 7, .slice K kn kc, .int .i64 n, .int .i64 d, .string nm] 65)).alloc (.cells #[.slice (some ⟨b, off, none⟩) 3 c] 22)).alloc (.cells #[.string dn, .slice A3 n3 c3, .int .i64 ds] 83)).cell? ⟨b, off, none⟩ = some (.int .i64 a) := (hb0.cell (p := ⟨b, off, none⟩) hb).trans k0
    have j1 : (((w.alloc (.cells #[.int .i64 7, .slice K kn kc, .int .i64 n, .int .i64 d, .string nm] 65)).alloc (.cells #[.slice (some ⟨b, off, none⟩) 3 c] 22)).alloc (.cells #[.string dn, .slice A3 n3 c3, .int .i64 ds] 83)).cell? ⟨b, off + 1, none⟩ = some (.int .i64 a2) := (hb0.cell (p := ⟨b, off + 1, none⟩) hb).trans k1
    have j2 : (((w.alloc (.cells #[.int .i64 7, .slice K kn kc, .int .i64 n, .int .i64 d, .string nm] 65)).alloc (.cells #[.slice (some ⟨b, off, none⟩) 3 c] 22)).alloc (.cells #[.string dn, .slice A3 n3 c3, .int .i64 ds] 83)).cell? ⟨b, off + 2, none⟩ = some (.int .i64 a3) := (hb0.cell (p := ⟨b, off + 2, none⟩) hb).trans k2
    clear hks k0 k1 k2
    have HB := Lib.hid (And.intro hb0 (And.intro hn0 (And.intro hk0 (And.intro hd0 hs0))))
    clear hb0 hn0 hk0 hd0 hs0
    go_enter Try.func62, Try.ntmps62
    go_wp2_with fail
    generalize (((w.alloc (.cells #[.int .i64 7, .slice K kn kc, .int .i64 n, .int .i64 d, .string nm] 65)).alloc (.cells #[.slice (some ⟨b, off, none⟩) 3 c] 22)).alloc (.cells #[.string dn, .slice A3 n3 c3, .int .i64 ds] 83)) = X at x0 x3 y0 z1 z2 j0 j1 j2 HB ⊢
    go_quiet (fail)
    go_wp2_with fail
    go_quiet (fail)
    go_wp2_with fail
    go_ret
    exact ⟨ret_int (by rw [HS.out]; rfl), (by first | exact HB.out.1 | exact below_drewN HB.out.1 _ | exact below_drewN (below_drewN HB.out.1 _) _)⟩

end Go.Proofs.Ytggkfepifnfdoaa
