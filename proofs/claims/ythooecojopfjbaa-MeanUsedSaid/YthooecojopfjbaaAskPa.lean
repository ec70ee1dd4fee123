/- Walk: the sort of a node, by its kids' sorts: operators with two kids of one sort, with three. · Walk: the sort of a node, by its kids' sorts: operators that ask something of all kids. -/
import Derived.Test.YthooecojopfjbaaAskNP
import Derived.Deep.RegionHeld3
namespace Go.Proofs.Ythooecojopfjbaa
open Go.RowKit

set_option maxRecDepth 100000 in
set_option maxHeartbeats 8000000 in
theorem sort_17 (a a2 : Int) (n d : Int) (nm : ByteArray) (K : Option Addr) (kn kc : Nat) (A : Option Addr) (c : Nat) (dn : ByteArray) (A3 : Option Addr) (n3 c3 : Nat) (ds : Int) (ar : List Int) (w : World) (hks : IntsB w w.heap.size A 2 [a, a2]) :
    Calls Try.prog 66 #[.agg #[.int .i64 17, .slice K kn kc, .int .i64 n, .int .i64 d, .string nm], .slice A 2 c, .agg #[.string dn, .slice A3 n3 c3, .int .i64 ds]] w fun e w' => e = .returned (.int .i64 (sortF 17 d [a, a2] ar ds)) ∧ Below w.heap.size w w' := by
  obtain ⟨b, off, rfl, hb, k0, k1⟩ := ints_two hks
  have hs : ∀ r s, (a == a2) = r → wordB a = s → sortF 17 d [a, a2] ar ds = if r && s then a else 0 := fun r s hr hs => by subst hr; subst hs; simp [sortF, word2F]
  cases h2 : (a == a2)
  · have HS : Hid (sortF 17 d [a, a2] ar ds = 0) := hs _ _ h2 rfl
    clear hs
    obtain ⟨X, hX⟩ : ∃ X, (((w.alloc (.cells #[.int .i64 17, .slice K kn kc, .int .i64 n, .int .i64 d, .string nm] 59)).alloc (.cells #[.slice (some ⟨b, off, none⟩) 2 c] 22)).alloc (.cells #[.string dn, .slice A3 n3 c3, .int .i64 ds] 61)) = X := ⟨_, rfl⟩
    have h3 := three_boxes w #[.int .i64 17, .slice K kn kc, .int .i64 n, .int .i64 d, .string nm] #[.slice (some ⟨b, off, none⟩) 2 c] #[.string dn, .slice A3 n3 c3, .int .i64 ds]
    rw [hX] at h3
    obtain ⟨hb0, hn0, hk0, hd0, hs0⟩ := h3
    have x0 : X.cell? ⟨w.heap.size, 0, none⟩ = some (.int .i64 17) := hn0.cell 0
    have x3 : X.cell? ⟨w.heap.size, 3, none⟩ = some (.int .i64 d) := hn0.cell 3
    have y0 : X.cell? ⟨w.heap.size + 1, 0, none⟩ = some (.slice (some ⟨b, off, none⟩) 2 c) := hk0.cell 0
    have z1 : X.cell? ⟨w.heap.size + 2, 1, none⟩ = some (.slice A3 n3 c3) := hd0.cell 1
    have z2 : X.cell? ⟨w.heap.size + 2, 2, none⟩ = some (.int .i64 ds) := hd0.cell 2
    have j0 : X.cell? ⟨b, off, none⟩ = some (.int .i64 a) := (hb0.cell (p := ⟨b, off, none⟩) hb).trans k0
    have j1 : X.cell? ⟨b, off + 1, none⟩ = some (.int .i64 a2) := (hb0.cell (p := ⟨b, off + 1, none⟩) hb).trans k1
    clear hks k0 k1
    have HB := Lib.hid (And.intro hb0 (And.intro hn0 (And.intro hk0 (And.intro hd0 hs0))))
    have HX := Lib.hid hX
    clear hb0 hn0 hk0 hd0 hs0 hX
    go_enter Try.func66, Try.ntmps66
    go_wp2_with fail
    rw [HX.out]
    go_quiet (fail)
    go_wp2_with fail
    go_quiet (fail)
    go_wp2_with fail
    go_ret
    exact ⟨ret_int (by rw [HS.out]), (by first | exact HB.out.1 | exact below_drewN HB.out.1 _ | exact below_drewN (below_drewN HB.out.1 _) _)⟩
  · cases hw : wordB a
    all_goals
      have HS := Lib.hid (hs _ _ h2 hw)
      have HW := Lib.hid (word_is a _ hw)
      clear hs hw
      obtain ⟨X, hX⟩ : ∃ X, (((w.alloc (.cells #[.int .i64 17, .slice K kn kc, .int .i64 n, .int .i64 d, .string nm] 59)).alloc (.cells #[.slice (some ⟨b, off, none⟩) 2 c] 22)).alloc (.cells #[.string dn, .slice A3 n3 c3, .int .i64 ds] 61)) = X := ⟨_, rfl⟩
      have h3 := three_boxes w #[.int .i64 17, .slice K kn kc, .int .i64 n, .int .i64 d, .string nm] #[.slice (some ⟨b, off, none⟩) 2 c] #[.string dn, .slice A3 n3 c3, .int .i64 ds]
      rw [hX] at h3
      obtain ⟨hb0, hn0, hk0, hd0, hs0⟩ := h3
      have x0 : X.cell? ⟨w.heap.size, 0, none⟩ = some (.int .i64 17) := hn0.cell 0
      have x3 : X.cell? ⟨w.heap.size, 3, none⟩ = some (.int .i64 d) := hn0.cell 3
      have y0 : X.cell? ⟨w.heap.size + 1, 0, none⟩ = some (.slice (some ⟨b, off, none⟩) 2 c) := hk0.cell 0
      have z1 : X.cell? ⟨w.heap.size + 2, 1, none⟩ = some (.slice A3 n3 c3) := hd0.cell 1
      have z2 : X.cell? ⟨w.heap.size + 2, 2, none⟩ = some (.int .i64 ds) := hd0.cell 2
      have j0 : X.cell? ⟨b, off, none⟩ = some (.int .i64 a) := (hb0.cell (p := ⟨b, off, none⟩) hb).trans k0
      have j1 : X.cell? ⟨b, off + 1, none⟩ = some (.int .i64 a2) := (hb0.cell (p := ⟨b, off + 1, none⟩) hb).trans k1
      clear hks k0 k1
      have HB := Lib.hid (And.intro hb0 (And.intro hn0 (And.intro hk0 (And.intro hd0 hs0))))
      have HX := Lib.hid hX
      clear hb0 hn0 hk0 hd0 hs0 hX
      go_enter Try.func66, Try.ntmps66
      go_wp2_with fail
      rw [HX.out]
      go_quiet (fail)
      go_wp2_with fail
      go_quiet ((go_at_call 74; exact quiet_same2 HW.out))
      go_wp2_with fail
      go_ret
      exact ⟨ret_int (by rw [HS.out]; rfl), (by first | exact HB.out.1 | exact below_drewN HB.out.1 _ | exact below_drewN (below_drewN HB.out.1 _) _)⟩

set_option maxRecDepth 100000 in
set_option maxHeartbeats 8000000 in
theorem sort_18 (a a2 : Int) (n d : Int) (nm : ByteArray) (K : Option Addr) (kn kc : Nat) (A : Option Addr) (c : Nat) (dn : ByteArray) (A3 : Option Addr) (n3 c3 : Nat) (ds : Int) (ar : List Int) (w : World) (hks : IntsB w w.heap.size A 2 [a, a2]) :
    Calls Try.prog 66 #[.agg #[.int .i64 18, .slice K kn kc, .int .i64 n, .int .i64 d, .string nm], .slice A 2 c, .agg #[.string dn, .slice A3 n3 c3, .int .i64 ds]] w fun e w' => e = .returned (.int .i64 (sortF 18 d [a, a2] ar ds)) ∧ Below w.heap.size w w' := by
  obtain ⟨b, off, rfl, hb, k0, k1⟩ := ints_two hks
  have hs : ∀ r s, (a == a2) = r → wordB a = s → sortF 18 d [a, a2] ar ds = if r && s then a else 0 := fun r s hr hs => by subst hr; subst hs; simp [sortF, word2F]
  cases h2 : (a == a2)
  · have HS : Hid (sortF 18 d [a, a2] ar ds = 0) := hs _ _ h2 rfl
    clear hs
    obtain ⟨X, hX⟩ : ∃ X, (((w.alloc (.cells #[.int .i64 18, .slice K kn kc, .int .i64 n, .int .i64 d, .string nm] 59)).alloc (.cells #[.slice (some ⟨b, off, none⟩) 2 c] 22)).alloc (.cells #[.string dn, .slice A3 n3 c3, .int .i64 ds] 61)) = X := ⟨_, rfl⟩
    have h3 := three_boxes w #[.int .i64 18, .slice K kn kc, .int .i64 n, .int .i64 d, .string nm] #[.slice (some ⟨b, off, none⟩) 2 c] #[.string dn, .slice A3 n3 c3, .int .i64 ds]
    rw [hX] at h3
    obtain ⟨hb0, hn0, hk0, hd0, hs0⟩ := h3
    have x0 : X.cell? ⟨w.heap.size, 0, none⟩ = some (.int .i64 18) := hn0.cell 0
    have x3 : X.cell? ⟨w.heap.size, 3, none⟩ = some (.int .i64 d) := hn0.cell 3
    have y0 : X.cell? ⟨w.heap.size + 1, 0, none⟩ = some (.slice (some ⟨b, off, none⟩) 2 c) := hk0.cell 0
    have z1 : X.cell? ⟨w.heap.size + 2, 1, none⟩ = some (.slice A3 n3 c3) := hd0.cell 1
    have z2 : X.cell? ⟨w.heap.size + 2, 2, none⟩ = some (.int .i64 ds) := hd0.cell 2
    have j0 : X.cell? ⟨b, off, none⟩ = some (.int .i64 a) := (hb0.cell (p := ⟨b, off, none⟩) hb).trans k0
    have j1 : X.cell? ⟨b, off + 1, none⟩ = some (.int .i64 a2) := (hb0.cell (p := ⟨b, off + 1, none⟩) hb).trans k1
    clear hks k0 k1
    have HB := Lib.hid (And.intro hb0 (And.intro hn0 (And.intro hk0 (And.intro hd0 hs0))))
    have HX := Lib.hid hX
    clear hb0 hn0 hk0 hd0 hs0 hX
    go_enter Try.func66, Try.ntmps66
    go_wp2_with fail
    rw [HX.out]
    go_quiet (fail)
    go_wp2_with fail
    go_quiet (fail)
    go_wp2_with fail
    go_ret
    exact ⟨ret_int (by rw [HS.out]), (by first | exact HB.out.1 | exact below_drewN HB.out.1 _ | exact below_drewN (below_drewN HB.out.1 _) _)⟩
  · cases hw : wordB a
    all_goals
      have HS := Lib.hid (hs _ _ h2 hw)
      have HW := Lib.hid (word_is a _ hw)
      clear hs hw
      obtain ⟨X, hX⟩ : ∃ X, (((w.alloc (.cells #[.int .i64 18, .slice K kn kc, .int .i64 n, .int .i64 d, .string nm] 59)).alloc (.cells #[.slice (some ⟨b, off, none⟩) 2 c] 22)).alloc (.cells #[.string dn, .slice A3 n3 c3, .int .i64 ds] 61)) = X := ⟨_, rfl⟩
      have h3 := three_boxes w #[.int .i64 18, .slice K kn kc, .int .i64 n, .int .i64 d, .string nm] #[.slice (some ⟨b, off, none⟩) 2 c] #[.string dn, .slice A3 n3 c3, .int .i64 ds]
      rw [hX] at h3
      obtain ⟨hb0, hn0, hk0, hd0, hs0⟩ := h3
      have x0 : X.cell? ⟨w.heap.size, 0, none⟩ = some (.int .i64 18) := hn0.cell 0
      have x3 : X.cell? ⟨w.heap.size, 3, none⟩ = some (.int .i64 d) := hn0.cell 3
      have y0 : X.cell? ⟨w.heap.size + 1, 0, none⟩ = some (.slice (some ⟨b, off, none⟩) 2 c) := hk0.cell 0
      have z1 : X.cell? ⟨w.heap.size + 2, 1, none⟩ = some (.slice A3 n3 c3) := hd0.cell 1
      have z2 : X.cell? ⟨w.heap.size + 2, 2, none⟩ = some (.int .i64 ds) := hd0.cell 2
      have j0 : X.cell? ⟨b, off, none⟩ = some (.int .i64 a) := (hb0.cell (p := ⟨b, off, none⟩) hb).trans k0
      have j1 : X.cell? ⟨b, off + 1, none⟩ = some (.int .i64 a2) := (hb0.cell (p := ⟨b, off + 1, none⟩) hb).trans k1
      clear hks k0 k1
      have HB := Lib.hid (And.intro hb0 (And.intro hn0 (And.intro hk0 (And.intro hd0 hs0))))
      have HX := Lib.hid hX
      clear hb0 hn0 hk0 hd0 hs0 hX
      go_enter Try.func66, Try.ntmps66
      go_wp2_with fail
      rw [HX.out]
      go_quiet (fail)
      go_wp2_with fail
      go_quiet ((go_at_call 74; exact quiet_same2 HW.out))
      go_wp2_with fail
      go_ret
      exact ⟨ret_int (by rw [HS.out]; rfl), (by first | exact HB.out.1 | exact below_drewN HB.out.1 _ | exact below_drewN (below_drewN HB.out.1 _) _)⟩

set_option maxRecDepth 100000 in
set_option maxHeartbeats 8000000 in
theorem sort_19 (a a2 : Int) (n d : Int) (nm : ByteArray) (K : Option Addr) (kn kc : Nat) (A : Option Addr) (c : Nat) (dn : ByteArray) (A3 : Option Addr) (n3 c3 : Nat) (ds : Int) (ar : List Int) (w : World) (hks : IntsB w w.heap.size A 2 [a, a2]) :
    Calls Try.prog 66 #[.agg #[.int .i64 19, .slice K kn kc, .int .i64 n, .int .i64 d, .string nm], .slice A 2 c, .agg #[.string dn, .slice A3 n3 c3, .int .i64 ds]] w fun e w' => e = .returned (.int .i64 (sortF 19 d [a, a2] ar ds)) ∧ Below w.heap.size w w' := by
  obtain ⟨b, off, rfl, hb, k0, k1⟩ := ints_two hks
  have hs : ∀ r s, (a == a2) = r → wordB a = s → sortF 19 d [a, a2] ar ds = if r && s then a else 0 := fun r s hr hs => by subst hr; subst hs; simp [sortF, word2F]
  cases h2 : (a == a2)
  · have HS : Hid (sortF 19 d [a, a2] ar ds = 0) := hs _ _ h2 rfl
    clear hs
    obtain ⟨X, hX⟩ : ∃ X, (((w.alloc (.cells #[.int .i64 19, .slice K kn kc, .int .i64 n, .int .i64 d, .string nm] 59)).alloc (.cells #[.slice (some ⟨b, off, none⟩) 2 c] 22)).alloc (.cells #[.string dn, .slice A3 n3 c3, .int .i64 ds] 61)) = X := ⟨_, rfl⟩
    have h3 := three_boxes w #[.int .i64 19, .slice K kn kc, .int .i64 n, .int .i64 d, .string nm] #[.slice (some ⟨b, off, none⟩) 2 c] #[.string dn, .slice A3 n3 c3, .int .i64 ds]
    rw [hX] at h3
    obtain ⟨hb0, hn0, hk0, hd0, hs0⟩ := h3
    have x0 : X.cell? ⟨w.heap.size, 0, none⟩ = some (.int .i64 19) := hn0.cell 0
    have x3 : X.cell? ⟨w.heap.size, 3, none⟩ = some (.int .i64 d) := hn0.cell 3
    have y0 : X.cell? ⟨w.heap.size + 1, 0, none⟩ = some (.slice (some ⟨b, off, none⟩) 2 c) := hk0.cell 0
    have z1 : X.cell? ⟨w.heap.size + 2, 1, none⟩ = some (.slice A3 n3 c3) := hd0.cell 1
    have z2 : X.cell? ⟨w.heap.size + 2, 2, none⟩ = some (.int .i64 ds) := hd0.cell 2
    have j0 : X.cell? ⟨b, off, none⟩ = some (.int .i64 a) := (hb0.cell (p := ⟨b, off, none⟩) hb).trans k0
    have j1 : X.cell? ⟨b, off + 1, none⟩ = some (.int .i64 a2) := (hb0.cell (p := ⟨b, off + 1, none⟩) hb).trans k1
    clear hks k0 k1
    have HB := Lib.hid (And.intro hb0 (And.intro hn0 (And.intro hk0 (And.intro hd0 hs0))))
    have HX := Lib.hid hX
    clear hb0 hn0 hk0 hd0 hs0 hX
    go_enter Try.func66, Try.ntmps66
    go_wp2_with fail
    rw [HX.out]
    go_quiet (fail)
    go_wp2_with fail
    go_quiet (fail)
    go_wp2_with fail
    go_ret
    exact ⟨ret_int (by rw [HS.out]), (by first | exact HB.out.1 | exact below_drewN HB.out.1 _ | exact below_drewN (below_drewN HB.out.1 _) _)⟩
  · cases hw : wordB a
    all_goals
      have HS := Lib.hid (hs _ _ h2 hw)
      have HW := Lib.hid (word_is a _ hw)
      clear hs hw
      obtain ⟨X, hX⟩ : ∃ X, (((w.alloc (.cells #[.int .i64 19, .slice K kn kc, .int .i64 n, .int .i64 d, .string nm] 59)).alloc (.cells #[.slice (some ⟨b, off, none⟩) 2 c] 22)).alloc (.cells #[.string dn, .slice A3 n3 c3, .int .i64 ds] 61)) = X := ⟨_, rfl⟩
      have h3 := three_boxes w #[.int .i64 19, .slice K kn kc, .int .i64 n, .int .i64 d, .string nm] #[.slice (some ⟨b, off, none⟩) 2 c] #[.string dn, .slice A3 n3 c3, .int .i64 ds]
      rw [hX] at h3
      obtain ⟨hb0, hn0, hk0, hd0, hs0⟩ := h3
      have x0 : X.cell? ⟨w.heap.size, 0, none⟩ = some (.int .i64 19) := hn0.cell 0
      have x3 : X.cell? ⟨w.heap.size, 3, none⟩ = some (.int .i64 d) := hn0.cell 3
      have y0 : X.cell? ⟨w.heap.size + 1, 0, none⟩ = some (.slice (some ⟨b, off, none⟩) 2 c) := hk0.cell 0
      have z1 : X.cell? ⟨w.heap.size + 2, 1, none⟩ = some (.slice A3 n3 c3) := hd0.cell 1
      have z2 : X.cell? ⟨w.heap.size + 2, 2, none⟩ = some (.int .i64 ds) := hd0.cell 2
      have j0 : X.cell? ⟨b, off, none⟩ = some (.int .i64 a) := (hb0.cell (p := ⟨b, off, none⟩) hb).trans k0
      have j1 : X.cell? ⟨b, off + 1, none⟩ = some (.int .i64 a2) := (hb0.cell (p := ⟨b, off + 1, none⟩) hb).trans k1
      clear hks k0 k1
      have HB := Lib.hid (And.intro hb0 (And.intro hn0 (And.intro hk0 (And.intro hd0 hs0))))
      have HX := Lib.hid hX
      clear hb0 hn0 hk0 hd0 hs0 hX
      go_enter Try.func66, Try.ntmps66
      go_wp2_with fail
      rw [HX.out]
      go_quiet (fail)
      go_wp2_with fail
      go_quiet ((go_at_call 74; exact quiet_same2 HW.out))
      go_wp2_with fail
      go_ret
      exact ⟨ret_int (by rw [HS.out]; rfl), (by first | exact HB.out.1 | exact below_drewN HB.out.1 _ | exact below_drewN (below_drewN HB.out.1 _) _)⟩

set_option maxRecDepth 100000 in
set_option maxHeartbeats 8000000 in
theorem sort_20 (a a2 : Int) (n d : Int) (nm : ByteArray) (K : Option Addr) (kn kc : Nat) (A : Option Addr) (c : Nat) (dn : ByteArray) (A3 : Option Addr) (n3 c3 : Nat) (ds : Int) (ar : List Int) (w : World) (hks : IntsB w w.heap.size A 2 [a, a2]) :
    Calls Try.prog 66 #[.agg #[.int .i64 20, .slice K kn kc, .int .i64 n, .int .i64 d, .string nm], .slice A 2 c, .agg #[.string dn, .slice A3 n3 c3, .int .i64 ds]] w fun e w' => e = .returned (.int .i64 (sortF 20 d [a, a2] ar ds)) ∧ Below w.heap.size w w' := by
  obtain ⟨b, off, rfl, hb, k0, k1⟩ := ints_two hks
  have hs : ∀ r s, (a == a2) = r → wordB a = s → sortF 20 d [a, a2] ar ds = if r && s then a else 0 := fun r s hr hs => by subst hr; subst hs; simp [sortF, word2F]
  cases h2 : (a == a2)
  · have HS : Hid (sortF 20 d [a, a2] ar ds = 0) := hs _ _ h2 rfl
    clear hs
    obtain ⟨X, hX⟩ : ∃ X, (((w.alloc (.cells #[.int .i64 20, .slice K kn kc, .int .i64 n, .int .i64 d, .string nm] 59)).alloc (.cells #[.slice (some ⟨b, off, none⟩) 2 c] 22)).alloc (.cells #[.string dn, .slice A3 n3 c3, .int .i64 ds] 61)) = X := ⟨_, rfl⟩
    have h3 := three_boxes w #[.int .i64 20, .slice K kn kc, .int .i64 n, .int .i64 d, .string nm] #[.slice (some ⟨b, off, none⟩) 2 c] #[.string dn, .slice A3 n3 c3, .int .i64 ds]
    rw [hX] at h3
    obtain ⟨hb0, hn0, hk0, hd0, hs0⟩ := h3
    have x0 : X.cell? ⟨w.heap.size, 0, none⟩ = some (.int .i64 20) := hn0.cell 0
    have x3 : X.cell? ⟨w.heap.size, 3, none⟩ = some (.int .i64 d) := hn0.cell 3
    have y0 : X.cell? ⟨w.heap.size + 1, 0, none⟩ = some (.slice (some ⟨b, off, none⟩) 2 c) := hk0.cell 0
    have z1 : X.cell? ⟨w.heap.size + 2, 1, none⟩ = some (.slice A3 n3 c3) := hd0.cell 1
    have z2 : X.cell? ⟨w.heap.size + 2, 2, none⟩ = some (.int .i64 ds) := hd0.cell 2
    have j0 : X.cell? ⟨b, off, none⟩ = some (.int .i64 a) := (hb0.cell (p := ⟨b, off, none⟩) hb).trans k0
    have j1 : X.cell? ⟨b, off + 1, none⟩ = some (.int .i64 a2) := (hb0.cell (p := ⟨b, off + 1, none⟩) hb).trans k1
    clear hks k0 k1
    have HB := Lib.hid (And.intro hb0 (And.intro hn0 (And.intro hk0 (And.intro hd0 hs0))))
    have HX := Lib.hid hX
    clear hb0 hn0 hk0 hd0 hs0 hX
    go_enter Try.func66, Try.ntmps66
    go_wp2_with fail
    rw [HX.out]
    go_quiet (fail)
    go_wp2_with fail
    go_quiet (fail)
    go_wp2_with fail
    go_ret
    exact ⟨ret_int (by rw [HS.out]), (by first | exact HB.out.1 | exact below_drewN HB.out.1 _ | exact below_drewN (below_drewN HB.out.1 _) _)⟩
  · cases hw : wordB a
    all_goals
      have HS := Lib.hid (hs _ _ h2 hw)
      have HW := Lib.hid (word_is a _ hw)
      clear hs hw
      obtain ⟨X, hX⟩ : ∃ X, (((w.alloc (.cells #[.int .i64 20, .slice K kn kc, .int .i64 n, .int .i64 d, .string nm] 59)).alloc (.cells #[.slice (some ⟨b, off, none⟩) 2 c] 22)).alloc (.cells #[.string dn, .slice A3 n3 c3, .int .i64 ds] 61)) = X := ⟨_, rfl⟩
      have h3 := three_boxes w #[.int .i64 20, .slice K kn kc, .int .i64 n, .int .i64 d, .string nm] #[.slice (some ⟨b, off, none⟩) 2 c] #[.string dn, .slice A3 n3 c3, .int .i64 ds]
      rw [hX] at h3
      obtain ⟨hb0, hn0, hk0, hd0, hs0⟩ := h3
      have x0 : X.cell? ⟨w.heap.size, 0, none⟩ = some (.int .i64 20) := hn0.cell 0
      have x3 : X.cell? ⟨w.heap.size, 3, none⟩ = some (.int .i64 d) := hn0.cell 3
      have y0 : X.cell? ⟨w.heap.size + 1, 0, none⟩ = some (.slice (some ⟨b, off, none⟩) 2 c) := hk0.cell 0
      have z1 : X.cell? ⟨w.heap.size + 2, 1, none⟩ = some (.slice A3 n3 c3) := hd0.cell 1
      have z2 : X.cell? ⟨w.heap.size + 2, 2, none⟩ = some (.int .i64 ds) := hd0.cell 2
      have j0 : X.cell? ⟨b, off, none⟩ = some (.int .i64 a) := (hb0.cell (p := ⟨b, off, none⟩) hb).trans k0
      have j1 : X.cell? ⟨b, off + 1, none⟩ = some (.int .i64 a2) := (hb0.cell (p := ⟨b, off + 1, none⟩) hb).trans k1
      clear hks k0 k1
      have HB := Lib.hid (And.intro hb0 (And.intro hn0 (And.intro hk0 (And.intro hd0 hs0))))
      have HX := Lib.hid hX
      clear hb0 hn0 hk0 hd0 hs0 hX
      go_enter Try.func66, Try.ntmps66
      go_wp2_with fail
      rw [HX.out]
      go_quiet (fail)
      go_wp2_with fail
      go_quiet ((go_at_call 74; exact quiet_same2 HW.out))
      go_wp2_with fail
      go_ret
      exact ⟨ret_int (by rw [HS.out]; rfl), (by first | exact HB.out.1 | exact below_drewN HB.out.1 _ | exact below_drewN (below_drewN HB.out.1 _) _)⟩

set_option maxRecDepth 100000 in
set_option maxHeartbeats 8000000 in
theorem sort_21 (a a2 : Int) (n d : Int) (nm : ByteArray) (K : Option Addr) (kn kc : Nat) (A : Option Addr) (c : Nat) (dn : ByteArray) (A3 : Option Addr) (n3 c3 : Nat) (ds : Int) (ar : List Int) (w : World) (hks : IntsB w w.heap.size A 2 [a, a2]) :
    Calls Try.prog 66 #[.agg #[.int .i64 21, .slice K kn kc, .int .i64 n, .int .i64 d, .string nm], .slice A 2 c, .agg #[.string dn, .slice A3 n3 c3, .int .i64 ds]] w fun e w' => e = .returned (.int .i64 (sortF 21 d [a, a2] ar ds)) ∧ Below w.heap.size w w' := by
  obtain ⟨b, off, rfl, hb, k0, k1⟩ := ints_two hks
  have hs : ∀ r s, (a == a2) = r → wordB a = s → sortF 21 d [a, a2] ar ds = if r && s then a else 0 := fun r s hr hs => by subst hr; subst hs; simp [sortF, word2F]
  cases h2 : (a == a2)
  · have HS : Hid (sortF 21 d [a, a2] ar ds = 0) := hs _ _ h2 rfl
    clear hs
    obtain ⟨X, hX⟩ : ∃ X, (((w.alloc (.cells #[.int .i64 21, .slice K kn kc, .int .i64 n, .int .i64 d, .string nm] 59)).alloc (.cells #[.slice (some ⟨b, off, none⟩) 2 c] 22)).alloc (.cells #[.string dn, .slice A3 n3 c3, .int .i64 ds] 61)) = X := ⟨_, rfl⟩
    have h3 := three_boxes w #[.int .i64 21, .slice K kn kc, .int .i64 n, .int .i64 d, .string nm] #[.slice (some ⟨b, off, none⟩) 2 c] #[.string dn, .slice A3 n3 c3, .int .i64 ds]
    rw [hX] at h3
    obtain ⟨hb0, hn0, hk0, hd0, hs0⟩ := h3
    have x0 : X.cell? ⟨w.heap.size, 0, none⟩ = some (.int .i64 21) := hn0.cell 0
    have x3 : X.cell? ⟨w.heap.size, 3, none⟩ = some (.int .i64 d) := hn0.cell 3
    have y0 : X.cell? ⟨w.heap.size + 1, 0, none⟩ = some (.slice (some ⟨b, off, none⟩) 2 c) := hk0.cell 0
    have z1 : X.cell? ⟨w.heap.size + 2, 1, none⟩ = some (.slice A3 n3 c3) := hd0.cell 1
    have z2 : X.cell? ⟨w.heap.size + 2, 2, none⟩ = some (.int .i64 ds) := hd0.cell 2
    have j0 : X.cell? ⟨b, off, none⟩ = some (.int .i64 a) := (hb0.cell (p := ⟨b, off, none⟩) hb).trans k0
    have j1 : X.cell? ⟨b, off + 1, none⟩ = some (.int .i64 a2) := (hb0.cell (p := ⟨b, off + 1, none⟩) hb).trans k1
    clear hks k0 k1
    have HB := Lib.hid (And.intro hb0 (And.intro hn0 (And.intro hk0 (And.intro hd0 hs0))))
    have HX := Lib.hid hX
    clear hb0 hn0 hk0 hd0 hs0 hX
    go_enter Try.func66, Try.ntmps66
    go_wp2_with fail
    rw [HX.out]
    go_quiet (fail)
    go_wp2_with fail
    go_quiet (fail)
    go_wp2_with fail
    go_ret
    exact ⟨ret_int (by rw [HS.out]), (by first | exact HB.out.1 | exact below_drewN HB.out.1 _ | exact below_drewN (below_drewN HB.out.1 _) _)⟩
  · cases hw : wordB a
    all_goals
      have HS := Lib.hid (hs _ _ h2 hw)
      have HW := Lib.hid (word_is a _ hw)
      clear hs hw
      obtain ⟨X, hX⟩ : ∃ X, (((w.alloc (.cells #[.int .i64 21, .slice K kn kc, .int .i64 n, .int .i64 d, .string nm] 59)).alloc (.cells #[.slice (some ⟨b, off, none⟩) 2 c] 22)).alloc (.cells #[.string dn, .slice A3 n3 c3, .int .i64 ds] 61)) = X := ⟨_, rfl⟩
      have h3 := three_boxes w #[.int .i64 21, .slice K kn kc, .int .i64 n, .int .i64 d, .string nm] #[.slice (some ⟨b, off, none⟩) 2 c] #[.string dn, .slice A3 n3 c3, .int .i64 ds]
      rw [hX] at h3
      obtain ⟨hb0, hn0, hk0, hd0, hs0⟩ := h3
      have x0 : X.cell? ⟨w.heap.size, 0, none⟩ = some (.int .i64 21) := hn0.cell 0
      have x3 : X.cell? ⟨w.heap.size, 3, none⟩ = some (.int .i64 d) := hn0.cell 3
      have y0 : X.cell? ⟨w.heap.size + 1, 0, none⟩ = some (.slice (some ⟨b, off, none⟩) 2 c) := hk0.cell 0
      have z1 : X.cell? ⟨w.heap.size + 2, 1, none⟩ = some (.slice A3 n3 c3) := hd0.cell 1
      have z2 : X.cell? ⟨w.heap.size + 2, 2, none⟩ = some (.int .i64 ds) := hd0.cell 2
      have j0 : X.cell? ⟨b, off, none⟩ = some (.int .i64 a) := (hb0.cell (p := ⟨b, off, none⟩) hb).trans k0
      have j1 : X.cell? ⟨b, off + 1, none⟩ = some (.int .i64 a2) := (hb0.cell (p := ⟨b, off + 1, none⟩) hb).trans k1
      clear hks k0 k1
      have HB := Lib.hid (And.intro hb0 (And.intro hn0 (And.intro hk0 (And.intro hd0 hs0))))
      have HX := Lib.hid hX
      clear hb0 hn0 hk0 hd0 hs0 hX
      go_enter Try.func66, Try.ntmps66
      go_wp2_with fail
      rw [HX.out]
      go_quiet (fail)
      go_wp2_with fail
      go_quiet ((go_at_call 74; exact quiet_same2 HW.out))
      go_wp2_with fail
      go_ret
      exact ⟨ret_int (by rw [HS.out]; rfl), (by first | exact HB.out.1 | exact below_drewN HB.out.1 _ | exact below_drewN (below_drewN HB.out.1 _) _)⟩

set_option maxRecDepth 100000 in
set_option maxHeartbeats 8000000 in
theorem sort_22 (a a2 : Int) (n d : Int) (nm : ByteArray) (K : Option Addr) (kn kc : Nat) (A : Option Addr) (c : Nat) (dn : ByteArray) (A3 : Option Addr) (n3 c3 : Nat) (ds : Int) (ar : List Int) (w : World) (hks : IntsB w w.heap.size A 2 [a, a2]) :
    Calls Try.prog 66 #[.agg #[.int .i64 22, .slice K kn kc, .int .i64 n, .int .i64 d, .string nm], .slice A 2 c, .agg #[.string dn, .slice A3 n3 c3, .int .i64 ds]] w fun e w' => e = .returned (.int .i64 (sortF 22 d [a, a2] ar ds)) ∧ Below w.heap.size w w' := by
  obtain ⟨b, off, rfl, hb, k0, k1⟩ := ints_two hks
  have hs : ∀ r s, (a == a2) = r → wordB a = s → sortF 22 d [a, a2] ar ds = if r && s then 1 else 0 := fun r s hr hs => by subst hr; subst hs; simp [sortF, wlessF]
  cases h2 : (a == a2)
  · have HS : Hid (sortF 22 d [a, a2] ar ds = 0) := hs _ _ h2 rfl
    clear hs
    obtain ⟨X, hX⟩ : ∃ X, (((w.alloc (.cells #[.int .i64 22, .slice K kn kc, .int .i64 n, .int .i64 d, .string nm] 59)).alloc (.cells #[.slice (some ⟨b, off, none⟩) 2 c] 22)).alloc (.cells #[.string dn, .slice A3 n3 c3, .int .i64 ds] 61)) = X := ⟨_, rfl⟩
    have h3 := three_boxes w #[.int .i64 22, .slice K kn kc, .int .i64 n, .int .i64 d, .string nm] #[.slice (some ⟨b, off, none⟩) 2 c] #[.string dn, .slice A3 n3 c3, .int .i64 ds]
    rw [hX] at h3
    obtain ⟨hb0, hn0, hk0, hd0, hs0⟩ := h3
    have x0 : X.cell? ⟨w.heap.size, 0, none⟩ = some (.int .i64 22) := hn0.cell 0
    have x3 : X.cell? ⟨w.heap.size, 3, none⟩ = some (.int .i64 d) := hn0.cell 3
    have y0 : X.cell? ⟨w.heap.size + 1, 0, none⟩ = some (.slice (some ⟨b, off, none⟩) 2 c) := hk0.cell 0
    have z1 : X.cell? ⟨w.heap.size + 2, 1, none⟩ = some (.slice A3 n3 c3) := hd0.cell 1
    have z2 : X.cell? ⟨w.heap.size + 2, 2, none⟩ = some (.int .i64 ds) := hd0.cell 2
    have j0 : X.cell? ⟨b, off, none⟩ = some (.int .i64 a) := (hb0.cell (p := ⟨b, off, none⟩) hb).trans k0
    have j1 : X.cell? ⟨b, off + 1, none⟩ = some (.int .i64 a2) := (hb0.cell (p := ⟨b, off + 1, none⟩) hb).trans k1
    clear hks k0 k1
    have HB := Lib.hid (And.intro hb0 (And.intro hn0 (And.intro hk0 (And.intro hd0 hs0))))
    have HX := Lib.hid hX
    clear hb0 hn0 hk0 hd0 hs0 hX
    go_enter Try.func66, Try.ntmps66
    go_wp2_with fail
    rw [HX.out]
    go_quiet (fail)
    go_wp2_with fail
    go_ret
    exact ⟨ret_int (by rw [HS.out]), (by first | exact HB.out.1 | exact below_drewN HB.out.1 _ | exact below_drewN (below_drewN HB.out.1 _) _)⟩
  · cases hw : wordB a
    all_goals
      have HS := Lib.hid (hs _ _ h2 hw)
      have HW := Lib.hid (word_is a _ hw)
      clear hs hw
      obtain ⟨X, hX⟩ : ∃ X, (((w.alloc (.cells #[.int .i64 22, .slice K kn kc, .int .i64 n, .int .i64 d, .string nm] 59)).alloc (.cells #[.slice (some ⟨b, off, none⟩) 2 c] 22)).alloc (.cells #[.string dn, .slice A3 n3 c3, .int .i64 ds] 61)) = X := ⟨_, rfl⟩
      have h3 := three_boxes w #[.int .i64 22, .slice K kn kc, .int .i64 n, .int .i64 d, .string nm] #[.slice (some ⟨b, off, none⟩) 2 c] #[.string dn, .slice A3 n3 c3, .int .i64 ds]
      rw [hX] at h3
      obtain ⟨hb0, hn0, hk0, hd0, hs0⟩ := h3
      have x0 : X.cell? ⟨w.heap.size, 0, none⟩ = some (.int .i64 22) := hn0.cell 0
      have x3 : X.cell? ⟨w.heap.size, 3, none⟩ = some (.int .i64 d) := hn0.cell 3
      have y0 : X.cell? ⟨w.heap.size + 1, 0, none⟩ = some (.slice (some ⟨b, off, none⟩) 2 c) := hk0.cell 0
      have z1 : X.cell? ⟨w.heap.size + 2, 1, none⟩ = some (.slice A3 n3 c3) := hd0.cell 1
      have z2 : X.cell? ⟨w.heap.size + 2, 2, none⟩ = some (.int .i64 ds) := hd0.cell 2
      have j0 : X.cell? ⟨b, off, none⟩ = some (.int .i64 a) := (hb0.cell (p := ⟨b, off, none⟩) hb).trans k0
      have j1 : X.cell? ⟨b, off + 1, none⟩ = some (.int .i64 a2) := (hb0.cell (p := ⟨b, off + 1, none⟩) hb).trans k1
      clear hks k0 k1
      have HB := Lib.hid (And.intro hb0 (And.intro hn0 (And.intro hk0 (And.intro hd0 hs0))))
      have HX := Lib.hid hX
      clear hb0 hn0 hk0 hd0 hs0 hX
      go_enter Try.func66, Try.ntmps66
      go_wp2_with fail
      rw [HX.out]
      go_quiet (fail)
      go_wp2_with (go_at_call 74; refine (HW.out _).mono ?_; rintro e w' ⟨rfl, rfl⟩)
      go_ret
      exact ⟨ret_int (by rw [HS.out]; rfl), (by first | exact HB.out.1 | exact below_drewN HB.out.1 _ | exact below_drewN (below_drewN HB.out.1 _) _)⟩

set_option maxRecDepth 100000 in
set_option maxHeartbeats 8000000 in
theorem sort_7 (a a2 a3 : Int) (n d : Int) (nm : ByteArray) (K : Option Addr) (kn kc : Nat) (A : Option Addr) (c : Nat) (dn : ByteArray) (A3 : Option Addr) (n3 c3 : Nat) (ds : Int) (ar : List Int) (w : World) (hks : IntsB w w.heap.size A 3 [a, a2, a3]) :
    Calls Try.prog 66 #[.agg #[.int .i64 7, .slice K kn kc, .int .i64 n, .int .i64 d, .string nm], .slice A 3 c, .agg #[.string dn, .slice A3 n3 c3, .int .i64 ds]] w fun e w' => e = .returned (.int .i64 (sortF 7 d [a, a2, a3] ar ds)) ∧ Below w.heap.size w w' := by
  obtain ⟨b, off, rfl, hb, k0, k1, k2⟩ := ints_three hks
  have hs : ∀ r s t, (a == 1) = r → (a2 == a3) = s → (a2 != 5) = t → sortF 7 d [a, a2, a3] ar ds = if r && s && t then a2 else 0 := fun r s t hr hs ht => by
    subst hr; subst hs; subst ht
    by_cases h1 : a = 1 <;> by_cases h2 : a2 = a3 <;> by_cases h5 : a2 = 5 <;> simp [sortF, pickF, h1, h2, h5]
  cases h1 : (a == 1) <;> cases h2 : (a2 == a3) <;> cases h5 : (a2 != 5)
  all_goals
    have HS := Lib.hid (hs _ _ _ h1 h2 h5)
    clear hs
    obtain ⟨X, hX⟩ : ∃ X, (((w.alloc (.cells #[.int .i64 7, .slice K kn kc, .int .i64 n, .int .i64 d, .string nm] 59)).alloc (.cells #[.slice (some ⟨b, off, none⟩) 3 c] 22)).alloc (.cells #[.string dn, .slice A3 n3 c3, .int .i64 ds] 61)) = X := ⟨_, rfl⟩
    have h3 := three_boxes w #[.int .i64 7, .slice K kn kc, .int .i64 n, .int .i64 d, .string nm] #[.slice (some ⟨b, off, none⟩) 3 c] #[.string dn, .slice A3 n3 c3, .int .i64 ds]
    rw [hX] at h3
    obtain ⟨hb0, hn0, hk0, hd0, hs0⟩ := h3
    have x0 : X.cell? ⟨w.heap.size, 0, none⟩ = some (.int .i64 7) := hn0.cell 0
    have x3 : X.cell? ⟨w.heap.size, 3, none⟩ = some (.int .i64 d) := hn0.cell 3
    have y0 : X.cell? ⟨w.heap.size + 1, 0, none⟩ = some (.slice (some ⟨b, off, none⟩) 3 c) := hk0.cell 0
    have z1 : X.cell? ⟨w.heap.size + 2, 1, none⟩ = some (.slice A3 n3 c3) := hd0.cell 1
    have z2 : X.cell? ⟨w.heap.size + 2, 2, none⟩ = some (.int .i64 ds) := hd0.cell 2
    have j0 : X.cell? ⟨b, off, none⟩ = some (.int .i64 a) := (hb0.cell (p := ⟨b, off, none⟩) hb).trans k0
    have j1 : X.cell? ⟨b, off + 1, none⟩ = some (.int .i64 a2) := (hb0.cell (p := ⟨b, off + 1, none⟩) hb).trans k1
    have j2 : X.cell? ⟨b, off + 2, none⟩ = some (.int .i64 a3) := (hb0.cell (p := ⟨b, off + 2, none⟩) hb).trans k2
    clear hks k0 k1 k2
    have HB := Lib.hid (And.intro hb0 (And.intro hn0 (And.intro hk0 (And.intro hd0 hs0))))
    have HX := Lib.hid hX
    clear hb0 hn0 hk0 hd0 hs0 hX
    go_enter Try.func66, Try.ntmps66
    go_wp2_with fail
    rw [HX.out]
    go_quiet (fail)
    go_wp2_with fail
    go_quiet (fail)
    go_wp2_with fail
    go_ret
    exact ⟨ret_int (by rw [HS.out]; rfl), (by first | exact HB.out.1 | exact below_drewN HB.out.1 _ | exact below_drewN (below_drewN HB.out.1 _) _)⟩

end Go.Proofs.Ythooecojopfjbaa
namespace Go.Proofs.Ythooecojopfjbaa
open Go.RowKit

/-- the length of the kids: two, or another -/
theorem two_or (ks : List Int) : (∃ a a2, ks = [a, a2]) ∨ (((ks.length : Nat) : Int) == 2) = false := by
  by_cases h : (ks.length : Int) = 2
  · exact .inl (len2 h)
  · exact .inr (by rw [beq_eq_false_iff_ne]; exact h)

set_option maxRecDepth 100000 in
set_option maxHeartbeats 8000000 in
theorem sort_3 (n d : Int) (nm : ByteArray) (K : Option Addr) (kn kc : Nat) (A : Option Addr) (na c : Nat) (ks : List Int) (dn : ByteArray) (A3 : Option Addr) (n3 c3 : Nat) (ds : Int) (ar : List Int) (w : World) (hks : IntsB w w.heap.size A na ks) (hna : na ≤ 8) :
    Calls Try.prog 66 #[.agg #[.int .i64 3, .slice K kn kc, .int .i64 n, .int .i64 d, .string nm], .slice A na c, .agg #[.string dn, .slice A3 n3 c3, .int .i64 ds]] w fun e w' => e = .returned (.int .i64 (sortF 3 d ks ar ds)) ∧ Below w.heap.size w w' := by
  have eg_isBoolS : ∀ args w, (callFunc 92 args).run Try.prog w = .ok (.enter 92 args) w := enters_of Try.func92 (by kernel_rfl) rfl
  have hl := hks.len
  have hs : sortF 3 d ks ar ds = if allB isBoolS ks then 1 else 0 := by simp [sortF]
  have hall : ∀ W : World, Below w.heap.size w W → Calls Try.prog 91 #[.slice A na c, .func (.func 92) #[] #[]] W fun e w' => e = .returned (.bool (allB isBoolS ks)) ∧ Below W.heap.size W w' := fun W hW =>
    all_any 92 eg_isBoolS isBoolS A na c ks _ W (hks.below stays_int hW hW.size) (by omega) isBool_pred rfl
  have h2 := two_or ks
  rw [hl] at h2
  generalize allB isBoolS ks = r at hs hall
  have HS := Lib.hid hs
  have HC := Lib.hid hall
  clear hs hall eg_isBoolS
  rcases h2 with ⟨a, a2, rfl⟩ | h2
  · obtain rfl : 2 = na := hl
    obtain ⟨b, off, rfl, hb, k0, k1⟩ := ints_two hks
    clear hna
    cases r
    all_goals
      obtain ⟨X, hX⟩ : ∃ X, (((w.alloc (.cells #[.int .i64 3, .slice K kn kc, .int .i64 n, .int .i64 d, .string nm] 59)).alloc (.cells #[.slice (some ⟨b, off, none⟩) 2 c] 22)).alloc (.cells #[.string dn, .slice A3 n3 c3, .int .i64 ds] 61)) = X := ⟨_, rfl⟩
      have h3 := three_boxes w #[.int .i64 3, .slice K kn kc, .int .i64 n, .int .i64 d, .string nm] #[.slice (some ⟨b, off, none⟩) 2 c] #[.string dn, .slice A3 n3 c3, .int .i64 ds]
      rw [hX] at h3
      obtain ⟨hb0, hn0, hk0, hd0, hs0⟩ := h3
      have x0 : X.cell? ⟨w.heap.size, 0, none⟩ = some (.int .i64 3) := hn0.cell 0
      have x3 : X.cell? ⟨w.heap.size, 3, none⟩ = some (.int .i64 d) := hn0.cell 3
      have y0 : X.cell? ⟨w.heap.size + 1, 0, none⟩ = some (.slice (some ⟨b, off, none⟩) 2 c) := hk0.cell 0
      have z1 : X.cell? ⟨w.heap.size + 2, 1, none⟩ = some (.slice A3 n3 c3) := hd0.cell 1
      have z2 : X.cell? ⟨w.heap.size + 2, 2, none⟩ = some (.int .i64 ds) := hd0.cell 2
      have j0 : X.cell? ⟨b, off, none⟩ = some (.int .i64 a) := (hb0.cell (p := ⟨b, off, none⟩) hb).trans k0
      have j1 : X.cell? ⟨b, off + 1, none⟩ = some (.int .i64 a2) := (hb0.cell (p := ⟨b, off + 1, none⟩) hb).trans k1
      clear hks k0 k1
      have HB := Lib.hid (And.intro hb0 (And.intro hn0 (And.intro hk0 (And.intro hd0 hs0))))
      have HX := Lib.hid hX
      clear hb0 hn0 hk0 hd0 hs0 hX
      go_enter Try.func66, Try.ntmps66
      go_wp2_with fail
      rw [HX.out]
      go_quiet (fail)
      go_wp2_with fail
      refine (HC.out _ (below_drewN HB.out.1 _)).mono ?_
      rintro e w1 ⟨rfl, hb1⟩
      go_wp2_with fail
      go_ret
      exact ⟨ret_int (by rw [HS.out]; rfl), (below_drewN HB.out.1 nq).trans (hb1.mono (below_drewN HB.out.1 nq).size)⟩
  · clear hks hl
    cases r
    all_goals
      obtain ⟨X, hX⟩ : ∃ X, (((w.alloc (.cells #[.int .i64 3, .slice K kn kc, .int .i64 n, .int .i64 d, .string nm] 59)).alloc (.cells #[.slice A na c] 22)).alloc (.cells #[.string dn, .slice A3 n3 c3, .int .i64 ds] 61)) = X := ⟨_, rfl⟩
      have h3 := three_boxes w #[.int .i64 3, .slice K kn kc, .int .i64 n, .int .i64 d, .string nm] #[.slice A na c] #[.string dn, .slice A3 n3 c3, .int .i64 ds]
      rw [hX] at h3
      obtain ⟨hb0, hn0, hk0, hd0, hs0⟩ := h3
      have x0 : X.cell? ⟨w.heap.size, 0, none⟩ = some (.int .i64 3) := hn0.cell 0
      have x3 : X.cell? ⟨w.heap.size, 3, none⟩ = some (.int .i64 d) := hn0.cell 3
      have y0 : X.cell? ⟨w.heap.size + 1, 0, none⟩ = some (.slice A na c) := hk0.cell 0
      have z1 : X.cell? ⟨w.heap.size + 2, 1, none⟩ = some (.slice A3 n3 c3) := hd0.cell 1
      have z2 : X.cell? ⟨w.heap.size + 2, 2, none⟩ = some (.int .i64 ds) := hd0.cell 2
      have HB := Lib.hid (And.intro hb0 (And.intro hn0 (And.intro hk0 (And.intro hd0 hs0))))
      have HX := Lib.hid hX
      clear hb0 hn0 hk0 hd0 hs0 hX
      go_enter Try.func66, Try.ntmps66
      go_wp2_with fail
      rw [HX.out]
      go_quiet (fail)
      go_wp2_with fail
      refine (HC.out _ (below_drewN HB.out.1 _)).mono ?_
      rintro e w1 ⟨rfl, hb1⟩
      go_wp2_with fail
      go_ret
      exact ⟨ret_int (by rw [HS.out]; rfl), (below_drewN HB.out.1 nq).trans (hb1.mono (below_drewN HB.out.1 nq).size)⟩

set_option maxRecDepth 100000 in
set_option maxHeartbeats 8000000 in
theorem sort_4 (n d : Int) (nm : ByteArray) (K : Option Addr) (kn kc : Nat) (A : Option Addr) (na c : Nat) (ks : List Int) (dn : ByteArray) (A3 : Option Addr) (n3 c3 : Nat) (ds : Int) (ar : List Int) (w : World) (hks : IntsB w w.heap.size A na ks) (hna : na ≤ 8) :
    Calls Try.prog 66 #[.agg #[.int .i64 4, .slice K kn kc, .int .i64 n, .int .i64 d, .string nm], .slice A na c, .agg #[.string dn, .slice A3 n3 c3, .int .i64 ds]] w fun e w' => e = .returned (.int .i64 (sortF 4 d ks ar ds)) ∧ Below w.heap.size w w' := by
  have eg_isBoolS : ∀ args w, (callFunc 92 args).run Try.prog w = .ok (.enter 92 args) w := enters_of Try.func92 (by kernel_rfl) rfl
  have hl := hks.len
  have hs : sortF 4 d ks ar ds = if allB isBoolS ks then 1 else 0 := by simp [sortF]
  have hall : ∀ W : World, Below w.heap.size w W → Calls Try.prog 91 #[.slice A na c, .func (.func 92) #[] #[]] W fun e w' => e = .returned (.bool (allB isBoolS ks)) ∧ Below W.heap.size W w' := fun W hW =>
    all_any 92 eg_isBoolS isBoolS A na c ks _ W (hks.below stays_int hW hW.size) (by omega) isBool_pred rfl
  have h2 := two_or ks
  rw [hl] at h2
  generalize allB isBoolS ks = r at hs hall
  have HS := Lib.hid hs
  have HC := Lib.hid hall
  clear hs hall eg_isBoolS
  rcases h2 with ⟨a, a2, rfl⟩ | h2
  · obtain rfl : 2 = na := hl
    obtain ⟨b, off, rfl, hb, k0, k1⟩ := ints_two hks
    clear hna
    cases r
    all_goals
      obtain ⟨X, hX⟩ : ∃ X, (((w.alloc (.cells #[.int .i64 4, .slice K kn kc, .int .i64 n, .int .i64 d, .string nm] 59)).alloc (.cells #[.slice (some ⟨b, off, none⟩) 2 c] 22)).alloc (.cells #[.string dn, .slice A3 n3 c3, .int .i64 ds] 61)) = X := ⟨_, rfl⟩
      have h3 := three_boxes w #[.int .i64 4, .slice K kn kc, .int .i64 n, .int .i64 d, .string nm] #[.slice (some ⟨b, off, none⟩) 2 c] #[.string dn, .slice A3 n3 c3, .int .i64 ds]
      rw [hX] at h3
      obtain ⟨hb0, hn0, hk0, hd0, hs0⟩ := h3
      have x0 : X.cell? ⟨w.heap.size, 0, none⟩ = some (.int .i64 4) := hn0.cell 0
      have x3 : X.cell? ⟨w.heap.size, 3, none⟩ = some (.int .i64 d) := hn0.cell 3
      have y0 : X.cell? ⟨w.heap.size + 1, 0, none⟩ = some (.slice (some ⟨b, off, none⟩) 2 c) := hk0.cell 0
      have z1 : X.cell? ⟨w.heap.size + 2, 1, none⟩ = some (.slice A3 n3 c3) := hd0.cell 1
      have z2 : X.cell? ⟨w.heap.size + 2, 2, none⟩ = some (.int .i64 ds) := hd0.cell 2
      have j0 : X.cell? ⟨b, off, none⟩ = some (.int .i64 a) := (hb0.cell (p := ⟨b, off, none⟩) hb).trans k0
      have j1 : X.cell? ⟨b, off + 1, none⟩ = some (.int .i64 a2) := (hb0.cell (p := ⟨b, off + 1, none⟩) hb).trans k1
      clear hks k0 k1
      have HB := Lib.hid (And.intro hb0 (And.intro hn0 (And.intro hk0 (And.intro hd0 hs0))))
      have HX := Lib.hid hX
      clear hb0 hn0 hk0 hd0 hs0 hX
      go_enter Try.func66, Try.ntmps66
      go_wp2_with fail
      rw [HX.out]
      go_quiet (fail)
      go_wp2_with fail
      refine (HC.out _ (below_drewN HB.out.1 _)).mono ?_
      rintro e w1 ⟨rfl, hb1⟩
      go_wp2_with fail
      go_ret
      exact ⟨ret_int (by rw [HS.out]; rfl), (below_drewN HB.out.1 nq).trans (hb1.mono (below_drewN HB.out.1 nq).size)⟩
  · clear hks hl
    cases r
    all_goals
      obtain ⟨X, hX⟩ : ∃ X, (((w.alloc (.cells #[.int .i64 4, .slice K kn kc, .int .i64 n, .int .i64 d, .string nm] 59)).alloc (.cells #[.slice A na c] 22)).alloc (.cells #[.string dn, .slice A3 n3 c3, .int .i64 ds] 61)) = X := ⟨_, rfl⟩
      have h3 := three_boxes w #[.int .i64 4, .slice K kn kc, .int .i64 n, .int .i64 d, .string nm] #[.slice A na c] #[.string dn, .slice A3 n3 c3, .int .i64 ds]
      rw [hX] at h3
      obtain ⟨hb0, hn0, hk0, hd0, hs0⟩ := h3
      have x0 : X.cell? ⟨w.heap.size, 0, none⟩ = some (.int .i64 4) := hn0.cell 0
      have x3 : X.cell? ⟨w.heap.size, 3, none⟩ = some (.int .i64 d) := hn0.cell 3
      have y0 : X.cell? ⟨w.heap.size + 1, 0, none⟩ = some (.slice A na c) := hk0.cell 0
      have z1 : X.cell? ⟨w.heap.size + 2, 1, none⟩ = some (.slice A3 n3 c3) := hd0.cell 1
      have z2 : X.cell? ⟨w.heap.size + 2, 2, none⟩ = some (.int .i64 ds) := hd0.cell 2
      have HB := Lib.hid (And.intro hb0 (And.intro hn0 (And.intro hk0 (And.intro hd0 hs0))))
      have HX := Lib.hid hX
      clear hb0 hn0 hk0 hd0 hs0 hX
      go_enter Try.func66, Try.ntmps66
      go_wp2_with fail
      rw [HX.out]
      go_quiet (fail)
      go_wp2_with fail
      refine (HC.out _ (below_drewN HB.out.1 _)).mono ?_
      rintro e w1 ⟨rfl, hb1⟩
      go_wp2_with fail
      go_ret
      exact ⟨ret_int (by rw [HS.out]; rfl), (below_drewN HB.out.1 nq).trans (hb1.mono (below_drewN HB.out.1 nq).size)⟩

set_option maxRecDepth 100000 in
set_option maxHeartbeats 8000000 in
theorem sort_5 (n d : Int) (nm : ByteArray) (K : Option Addr) (kn kc : Nat) (A : Option Addr) (na c : Nat) (ks : List Int) (dn : ByteArray) (A3 : Option Addr) (n3 c3 : Nat) (ds : Int) (ar : List Int) (w : World) (hks : IntsB w w.heap.size A na ks) (hna : na ≤ 8) :
    Calls Try.prog 66 #[.agg #[.int .i64 5, .slice K kn kc, .int .i64 n, .int .i64 d, .string nm], .slice A na c, .agg #[.string dn, .slice A3 n3 c3, .int .i64 ds]] w fun e w' => e = .returned (.int .i64 (sortF 5 d ks ar ds)) ∧ Below w.heap.size w w' := by
  have eg_isBoolS : ∀ args w, (callFunc 92 args).run Try.prog w = .ok (.enter 92 args) w := enters_of Try.func92 (by kernel_rfl) rfl
  have hl := hks.len
  have hs : sortF 5 d ks ar ds = if allB isBoolS ks then 1 else 0 := by simp [sortF]
  have hall : ∀ W : World, Below w.heap.size w W → Calls Try.prog 91 #[.slice A na c, .func (.func 92) #[] #[]] W fun e w' => e = .returned (.bool (allB isBoolS ks)) ∧ Below W.heap.size W w' := fun W hW =>
    all_any 92 eg_isBoolS isBoolS A na c ks _ W (hks.below stays_int hW hW.size) (by omega) isBool_pred rfl
  have h2 := two_or ks
  rw [hl] at h2
  generalize allB isBoolS ks = r at hs hall
  have HS := Lib.hid hs
  have HC := Lib.hid hall
  clear hs hall eg_isBoolS
  rcases h2 with ⟨a, a2, rfl⟩ | h2
  · obtain rfl : 2 = na := hl
    obtain ⟨b, off, rfl, hb, k0, k1⟩ := ints_two hks
    clear hna
    cases r
    all_goals
      obtain ⟨X, hX⟩ : ∃ X, (((w.alloc (.cells #[.int .i64 5, .slice K kn kc, .int .i64 n, .int .i64 d, .string nm] 59)).alloc (.cells #[.slice (some ⟨b, off, none⟩) 2 c] 22)).alloc (.cells #[.string dn, .slice A3 n3 c3, .int .i64 ds] 61)) = X := ⟨_, rfl⟩
      have h3 := three_boxes w #[.int .i64 5, .slice K kn kc, .int .i64 n, .int .i64 d, .string nm] #[.slice (some ⟨b, off, none⟩) 2 c] #[.string dn, .slice A3 n3 c3, .int .i64 ds]
      rw [hX] at h3
      obtain ⟨hb0, hn0, hk0, hd0, hs0⟩ := h3
      have x0 : X.cell? ⟨w.heap.size, 0, none⟩ = some (.int .i64 5) := hn0.cell 0
      have x3 : X.cell? ⟨w.heap.size, 3, none⟩ = some (.int .i64 d) := hn0.cell 3
      have y0 : X.cell? ⟨w.heap.size + 1, 0, none⟩ = some (.slice (some ⟨b, off, none⟩) 2 c) := hk0.cell 0
      have z1 : X.cell? ⟨w.heap.size + 2, 1, none⟩ = some (.slice A3 n3 c3) := hd0.cell 1
      have z2 : X.cell? ⟨w.heap.size + 2, 2, none⟩ = some (.int .i64 ds) := hd0.cell 2
      have j0 : X.cell? ⟨b, off, none⟩ = some (.int .i64 a) := (hb0.cell (p := ⟨b, off, none⟩) hb).trans k0
      have j1 : X.cell? ⟨b, off + 1, none⟩ = some (.int .i64 a2) := (hb0.cell (p := ⟨b, off + 1, none⟩) hb).trans k1
      clear hks k0 k1
      have HB := Lib.hid (And.intro hb0 (And.intro hn0 (And.intro hk0 (And.intro hd0 hs0))))
      have HX := Lib.hid hX
      clear hb0 hn0 hk0 hd0 hs0 hX
      go_enter Try.func66, Try.ntmps66
      go_wp2_with fail
      rw [HX.out]
      go_quiet (fail)
      go_wp2_with fail
      refine (HC.out _ (below_drewN HB.out.1 _)).mono ?_
      rintro e w1 ⟨rfl, hb1⟩
      go_wp2_with fail
      go_ret
      exact ⟨ret_int (by rw [HS.out]; rfl), (below_drewN HB.out.1 nq).trans (hb1.mono (below_drewN HB.out.1 nq).size)⟩
  · clear hks hl
    cases r
    all_goals
      obtain ⟨X, hX⟩ : ∃ X, (((w.alloc (.cells #[.int .i64 5, .slice K kn kc, .int .i64 n, .int .i64 d, .string nm] 59)).alloc (.cells #[.slice A na c] 22)).alloc (.cells #[.string dn, .slice A3 n3 c3, .int .i64 ds] 61)) = X := ⟨_, rfl⟩
      have h3 := three_boxes w #[.int .i64 5, .slice K kn kc, .int .i64 n, .int .i64 d, .string nm] #[.slice A na c] #[.string dn, .slice A3 n3 c3, .int .i64 ds]
      rw [hX] at h3
      obtain ⟨hb0, hn0, hk0, hd0, hs0⟩ := h3
      have x0 : X.cell? ⟨w.heap.size, 0, none⟩ = some (.int .i64 5) := hn0.cell 0
      have x3 : X.cell? ⟨w.heap.size, 3, none⟩ = some (.int .i64 d) := hn0.cell 3
      have y0 : X.cell? ⟨w.heap.size + 1, 0, none⟩ = some (.slice A na c) := hk0.cell 0
      have z1 : X.cell? ⟨w.heap.size + 2, 1, none⟩ = some (.slice A3 n3 c3) := hd0.cell 1
      have z2 : X.cell? ⟨w.heap.size + 2, 2, none⟩ = some (.int .i64 ds) := hd0.cell 2
      have HB := Lib.hid (And.intro hb0 (And.intro hn0 (And.intro hk0 (And.intro hd0 hs0))))
      have HX := Lib.hid hX
      clear hb0 hn0 hk0 hd0 hs0 hX
      go_enter Try.func66, Try.ntmps66
      go_wp2_with fail
      rw [HX.out]
      go_quiet (fail)
      go_wp2_with fail
      refine (HC.out _ (below_drewN HB.out.1 _)).mono ?_
      rintro e w1 ⟨rfl, hb1⟩
      go_wp2_with fail
      go_ret
      exact ⟨ret_int (by rw [HS.out]; rfl), (below_drewN HB.out.1 nq).trans (hb1.mono (below_drewN HB.out.1 nq).size)⟩

set_option maxRecDepth 100000 in
set_option maxHeartbeats 8000000 in
theorem sort_6 (n d : Int) (nm : ByteArray) (K : Option Addr) (kn kc : Nat) (A : Option Addr) (na c : Nat) (ks : List Int) (dn : ByteArray) (A3 : Option Addr) (n3 c3 : Nat) (ds : Int) (ar : List Int) (w : World) (hks : IntsB w w.heap.size A na ks) (hna : na ≤ 8) :
    Calls Try.prog 66 #[.agg #[.int .i64 6, .slice K kn kc, .int .i64 n, .int .i64 d, .string nm], .slice A na c, .agg #[.string dn, .slice A3 n3 c3, .int .i64 ds]] w fun e w' => e = .returned (.int .i64 (sortF 6 d ks ar ds)) ∧ Below w.heap.size w w' := by
  have eg_isBoolS : ∀ args w, (callFunc 92 args).run Try.prog w = .ok (.enter 92 args) w := enters_of Try.func92 (by kernel_rfl) rfl
  have hl := hks.len
  have hs : sortF 6 d ks ar ds = if allB isBoolS ks then 1 else 0 := by simp [sortF]
  have hall : ∀ W : World, Below w.heap.size w W → Calls Try.prog 91 #[.slice A na c, .func (.func 92) #[] #[]] W fun e w' => e = .returned (.bool (allB isBoolS ks)) ∧ Below W.heap.size W w' := fun W hW =>
    all_any 92 eg_isBoolS isBoolS A na c ks _ W (hks.below stays_int hW hW.size) (by omega) isBool_pred rfl
  have h2 := two_or ks
  rw [hl] at h2
  generalize allB isBoolS ks = r at hs hall
  have HS := Lib.hid hs
  have HC := Lib.hid hall
  clear hs hall eg_isBoolS
  rcases h2 with ⟨a, a2, rfl⟩ | h2
  · obtain rfl : 2 = na := hl
    obtain ⟨b, off, rfl, hb, k0, k1⟩ := ints_two hks
    clear hna
    cases r
    all_goals
      obtain ⟨X, hX⟩ : ∃ X, (((w.alloc (.cells #[.int .i64 6, .slice K kn kc, .int .i64 n, .int .i64 d, .string nm] 59)).alloc (.cells #[.slice (some ⟨b, off, none⟩) 2 c] 22)).alloc (.cells #[.string dn, .slice A3 n3 c3, .int .i64 ds] 61)) = X := ⟨_, rfl⟩
      have h3 := three_boxes w #[.int .i64 6, .slice K kn kc, .int .i64 n, .int .i64 d, .string nm] #[.slice (some ⟨b, off, none⟩) 2 c] #[.string dn, .slice A3 n3 c3, .int .i64 ds]
      rw [hX] at h3
      obtain ⟨hb0, hn0, hk0, hd0, hs0⟩ := h3
      have x0 : X.cell? ⟨w.heap.size, 0, none⟩ = some (.int .i64 6) := hn0.cell 0
      have x3 : X.cell? ⟨w.heap.size, 3, none⟩ = some (.int .i64 d) := hn0.cell 3
      have y0 : X.cell? ⟨w.heap.size + 1, 0, none⟩ = some (.slice (some ⟨b, off, none⟩) 2 c) := hk0.cell 0
      have z1 : X.cell? ⟨w.heap.size + 2, 1, none⟩ = some (.slice A3 n3 c3) := hd0.cell 1
      have z2 : X.cell? ⟨w.heap.size + 2, 2, none⟩ = some (.int .i64 ds) := hd0.cell 2
      have j0 : X.cell? ⟨b, off, none⟩ = some (.int .i64 a) := (hb0.cell (p := ⟨b, off, none⟩) hb).trans k0
      have j1 : X.cell? ⟨b, off + 1, none⟩ = some (.int .i64 a2) := (hb0.cell (p := ⟨b, off + 1, none⟩) hb).trans k1
      clear hks k0 k1
      have HB := Lib.hid (And.intro hb0 (And.intro hn0 (And.intro hk0 (And.intro hd0 hs0))))
      have HX := Lib.hid hX
      clear hb0 hn0 hk0 hd0 hs0 hX
      go_enter Try.func66, Try.ntmps66
      go_wp2_with fail
      rw [HX.out]
      go_quiet (fail)
      go_wp2_with fail
      refine (HC.out _ (below_drewN HB.out.1 _)).mono ?_
      rintro e w1 ⟨rfl, hb1⟩
      go_wp2_with fail
      go_ret
      exact ⟨ret_int (by rw [HS.out]; rfl), (below_drewN HB.out.1 nq).trans (hb1.mono (below_drewN HB.out.1 nq).size)⟩
  · clear hks hl
    cases r
    all_goals
      obtain ⟨X, hX⟩ : ∃ X, (((w.alloc (.cells #[.int .i64 6, .slice K kn kc, .int .i64 n, .int .i64 d, .string nm] 59)).alloc (.cells #[.slice A na c] 22)).alloc (.cells #[.string dn, .slice A3 n3 c3, .int .i64 ds] 61)) = X := ⟨_, rfl⟩
      have h3 := three_boxes w #[.int .i64 6, .slice K kn kc, .int .i64 n, .int .i64 d, .string nm] #[.slice A na c] #[.string dn, .slice A3 n3 c3, .int .i64 ds]
      rw [hX] at h3
      obtain ⟨hb0, hn0, hk0, hd0, hs0⟩ := h3
      have x0 : X.cell? ⟨w.heap.size, 0, none⟩ = some (.int .i64 6) := hn0.cell 0
      have x3 : X.cell? ⟨w.heap.size, 3, none⟩ = some (.int .i64 d) := hn0.cell 3
      have y0 : X.cell? ⟨w.heap.size + 1, 0, none⟩ = some (.slice A na c) := hk0.cell 0
      have z1 : X.cell? ⟨w.heap.size + 2, 1, none⟩ = some (.slice A3 n3 c3) := hd0.cell 1
      have z2 : X.cell? ⟨w.heap.size + 2, 2, none⟩ = some (.int .i64 ds) := hd0.cell 2
      have HB := Lib.hid (And.intro hb0 (And.intro hn0 (And.intro hk0 (And.intro hd0 hs0))))
      have HX := Lib.hid hX
      clear hb0 hn0 hk0 hd0 hs0 hX
      go_enter Try.func66, Try.ntmps66
      go_wp2_with fail
      rw [HX.out]
      go_quiet (fail)
      go_wp2_with fail
      refine (HC.out _ (below_drewN HB.out.1 _)).mono ?_
      rintro e w1 ⟨rfl, hb1⟩
      go_wp2_with fail
      go_ret
      exact ⟨ret_int (by rw [HS.out]; rfl), (below_drewN HB.out.1 nq).trans (hb1.mono (below_drewN HB.out.1 nq).size)⟩

set_option maxRecDepth 100000 in
set_option maxHeartbeats 8000000 in
theorem sort_13 (n d : Int) (nm : ByteArray) (K : Option Addr) (kn kc : Nat) (A : Option Addr) (na c : Nat) (ks : List Int) (dn : ByteArray) (A3 : Option Addr) (n3 c3 : Nat) (ds : Int) (ar : List Int) (w : World) (hks : IntsB w w.heap.size A na ks) (hna : na ≤ 8) :
    Calls Try.prog 66 #[.agg #[.int .i64 13, .slice K kn kc, .int .i64 n, .int .i64 d, .string nm], .slice A na c, .agg #[.string dn, .slice A3 n3 c3, .int .i64 ds]] w fun e w' => e = .returned (.int .i64 (sortF 13 d ks ar ds)) ∧ Below w.heap.size w w' := by
  have eg_numS : ∀ args w, (callFunc 93 args).run Try.prog w = .ok (.enter 93 args) w := enters_of Try.func93 (by kernel_rfl) rfl
  have hl := hks.len
  have hs : sortF 13 d ks ar ds = if allB numS ks then 1 else 0 := by simp [sortF]
  have hall : ∀ W : World, Below w.heap.size w W → Calls Try.prog 91 #[.slice A na c, .func (.func 93) #[] #[]] W fun e w' => e = .returned (.bool (allB numS ks)) ∧ Below W.heap.size W w' := fun W hW =>
    all_any 93 eg_numS numS A na c ks _ W (hks.below stays_int hW hW.size) (by omega) numeric_pred rfl
  have h2 := two_or ks
  rw [hl] at h2
  generalize allB numS ks = r at hs hall
  have HS := Lib.hid hs
  have HC := Lib.hid hall
  clear hs hall eg_numS
  rcases h2 with ⟨a, a2, rfl⟩ | h2
  · obtain rfl : 2 = na := hl
    obtain ⟨b, off, rfl, hb, k0, k1⟩ := ints_two hks
    clear hna
    cases r
    all_goals
      obtain ⟨X, hX⟩ : ∃ X, (((w.alloc (.cells #[.int .i64 13, .slice K kn kc, .int .i64 n, .int .i64 d, .string nm] 59)).alloc (.cells #[.slice (some ⟨b, off, none⟩) 2 c] 22)).alloc (.cells #[.string dn, .slice A3 n3 c3, .int .i64 ds] 61)) = X := ⟨_, rfl⟩
      have h3 := three_boxes w #[.int .i64 13, .slice K kn kc, .int .i64 n, .int .i64 d, .string nm] #[.slice (some ⟨b, off, none⟩) 2 c] #[.string dn, .slice A3 n3 c3, .int .i64 ds]
      rw [hX] at h3
      obtain ⟨hb0, hn0, hk0, hd0, hs0⟩ := h3
      have x0 : X.cell? ⟨w.heap.size, 0, none⟩ = some (.int .i64 13) := hn0.cell 0
      have x3 : X.cell? ⟨w.heap.size, 3, none⟩ = some (.int .i64 d) := hn0.cell 3
      have y0 : X.cell? ⟨w.heap.size + 1, 0, none⟩ = some (.slice (some ⟨b, off, none⟩) 2 c) := hk0.cell 0
      have z1 : X.cell? ⟨w.heap.size + 2, 1, none⟩ = some (.slice A3 n3 c3) := hd0.cell 1
      have z2 : X.cell? ⟨w.heap.size + 2, 2, none⟩ = some (.int .i64 ds) := hd0.cell 2
      have j0 : X.cell? ⟨b, off, none⟩ = some (.int .i64 a) := (hb0.cell (p := ⟨b, off, none⟩) hb).trans k0
      have j1 : X.cell? ⟨b, off + 1, none⟩ = some (.int .i64 a2) := (hb0.cell (p := ⟨b, off + 1, none⟩) hb).trans k1
      clear hks k0 k1
      have HB := Lib.hid (And.intro hb0 (And.intro hn0 (And.intro hk0 (And.intro hd0 hs0))))
      have HX := Lib.hid hX
      clear hb0 hn0 hk0 hd0 hs0 hX
      go_enter Try.func66, Try.ntmps66
      go_wp2_with fail
      rw [HX.out]
      go_quiet (fail)
      go_wp2_with fail
      refine (HC.out _ (below_drewN HB.out.1 _)).mono ?_
      rintro e w1 ⟨rfl, hb1⟩
      go_wp2_with fail
      go_ret
      exact ⟨ret_int (by rw [HS.out]; rfl), (below_drewN HB.out.1 nq).trans (hb1.mono (below_drewN HB.out.1 nq).size)⟩
  · clear hks hl
    cases r
    all_goals
      obtain ⟨X, hX⟩ : ∃ X, (((w.alloc (.cells #[.int .i64 13, .slice K kn kc, .int .i64 n, .int .i64 d, .string nm] 59)).alloc (.cells #[.slice A na c] 22)).alloc (.cells #[.string dn, .slice A3 n3 c3, .int .i64 ds] 61)) = X := ⟨_, rfl⟩
      have h3 := three_boxes w #[.int .i64 13, .slice K kn kc, .int .i64 n, .int .i64 d, .string nm] #[.slice A na c] #[.string dn, .slice A3 n3 c3, .int .i64 ds]
      rw [hX] at h3
      obtain ⟨hb0, hn0, hk0, hd0, hs0⟩ := h3
      have x0 : X.cell? ⟨w.heap.size, 0, none⟩ = some (.int .i64 13) := hn0.cell 0
      have x3 : X.cell? ⟨w.heap.size, 3, none⟩ = some (.int .i64 d) := hn0.cell 3
      have y0 : X.cell? ⟨w.heap.size + 1, 0, none⟩ = some (.slice A na c) := hk0.cell 0
      have z1 : X.cell? ⟨w.heap.size + 2, 1, none⟩ = some (.slice A3 n3 c3) := hd0.cell 1
      have z2 : X.cell? ⟨w.heap.size + 2, 2, none⟩ = some (.int .i64 ds) := hd0.cell 2
      have HB := Lib.hid (And.intro hb0 (And.intro hn0 (And.intro hk0 (And.intro hd0 hs0))))
      have HX := Lib.hid hX
      clear hb0 hn0 hk0 hd0 hs0 hX
      go_enter Try.func66, Try.ntmps66
      go_wp2_with fail
      rw [HX.out]
      go_quiet (fail)
      go_wp2_with fail
      refine (HC.out _ (below_drewN HB.out.1 _)).mono ?_
      rintro e w1 ⟨rfl, hb1⟩
      go_wp2_with fail
      go_ret
      exact ⟨ret_int (by rw [HS.out]; rfl), (below_drewN HB.out.1 nq).trans (hb1.mono (below_drewN HB.out.1 nq).size)⟩

set_option maxRecDepth 100000 in
set_option maxHeartbeats 8000000 in
theorem sort_14 (n d : Int) (nm : ByteArray) (K : Option Addr) (kn kc : Nat) (A : Option Addr) (na c : Nat) (ks : List Int) (dn : ByteArray) (A3 : Option Addr) (n3 c3 : Nat) (ds : Int) (ar : List Int) (w : World) (hks : IntsB w w.heap.size A na ks) (hna : na ≤ 8) :
    Calls Try.prog 66 #[.agg #[.int .i64 14, .slice K kn kc, .int .i64 n, .int .i64 d, .string nm], .slice A na c, .agg #[.string dn, .slice A3 n3 c3, .int .i64 ds]] w fun e w' => e = .returned (.int .i64 (sortF 14 d ks ar ds)) ∧ Below w.heap.size w w' := by
  have eg_numS : ∀ args w, (callFunc 93 args).run Try.prog w = .ok (.enter 93 args) w := enters_of Try.func93 (by kernel_rfl) rfl
  have hl := hks.len
  have hs : sortF 14 d ks ar ds = if allB numS ks then 1 else 0 := by simp [sortF]
  have hall : ∀ W : World, Below w.heap.size w W → Calls Try.prog 91 #[.slice A na c, .func (.func 93) #[] #[]] W fun e w' => e = .returned (.bool (allB numS ks)) ∧ Below W.heap.size W w' := fun W hW =>
    all_any 93 eg_numS numS A na c ks _ W (hks.below stays_int hW hW.size) (by omega) numeric_pred rfl
  have h2 := two_or ks
  rw [hl] at h2
  generalize allB numS ks = r at hs hall
  have HS := Lib.hid hs
  have HC := Lib.hid hall
  clear hs hall eg_numS
  rcases h2 with ⟨a, a2, rfl⟩ | h2
  · obtain rfl : 2 = na := hl
    obtain ⟨b, off, rfl, hb, k0, k1⟩ := ints_two hks
    clear hna
    cases r
    all_goals
      obtain ⟨X, hX⟩ : ∃ X, (((w.alloc (.cells #[.int .i64 14, .slice K kn kc, .int .i64 n, .int .i64 d, .string nm] 59)).alloc (.cells #[.slice (some ⟨b, off, none⟩) 2 c] 22)).alloc (.cells #[.string dn, .slice A3 n3 c3, .int .i64 ds] 61)) = X := ⟨_, rfl⟩
      have h3 := three_boxes w #[.int .i64 14, .slice K kn kc, .int .i64 n, .int .i64 d, .string nm] #[.slice (some ⟨b, off, none⟩) 2 c] #[.string dn, .slice A3 n3 c3, .int .i64 ds]
      rw [hX] at h3
      obtain ⟨hb0, hn0, hk0, hd0, hs0⟩ := h3
      have x0 : X.cell? ⟨w.heap.size, 0, none⟩ = some (.int .i64 14) := hn0.cell 0
      have x3 : X.cell? ⟨w.heap.size, 3, none⟩ = some (.int .i64 d) := hn0.cell 3
      have y0 : X.cell? ⟨w.heap.size + 1, 0, none⟩ = some (.slice (some ⟨b, off, none⟩) 2 c) := hk0.cell 0
      have z1 : X.cell? ⟨w.heap.size + 2, 1, none⟩ = some (.slice A3 n3 c3) := hd0.cell 1
      have z2 : X.cell? ⟨w.heap.size + 2, 2, none⟩ = some (.int .i64 ds) := hd0.cell 2
      have j0 : X.cell? ⟨b, off, none⟩ = some (.int .i64 a) := (hb0.cell (p := ⟨b, off, none⟩) hb).trans k0
      have j1 : X.cell? ⟨b, off + 1, none⟩ = some (.int .i64 a2) := (hb0.cell (p := ⟨b, off + 1, none⟩) hb).trans k1
      clear hks k0 k1
      have HB := Lib.hid (And.intro hb0 (And.intro hn0 (And.intro hk0 (And.intro hd0 hs0))))
      have HX := Lib.hid hX
      clear hb0 hn0 hk0 hd0 hs0 hX
      go_enter Try.func66, Try.ntmps66
      go_wp2_with fail
      rw [HX.out]
      go_quiet (fail)
      go_wp2_with fail
      refine (HC.out _ (below_drewN HB.out.1 _)).mono ?_
      rintro e w1 ⟨rfl, hb1⟩
      go_wp2_with fail
      go_ret
      exact ⟨ret_int (by rw [HS.out]; rfl), (below_drewN HB.out.1 nq).trans (hb1.mono (below_drewN HB.out.1 nq).size)⟩
  · clear hks hl
    cases r
    all_goals
      obtain ⟨X, hX⟩ : ∃ X, (((w.alloc (.cells #[.int .i64 14, .slice K kn kc, .int .i64 n, .int .i64 d, .string nm] 59)).alloc (.cells #[.slice A na c] 22)).alloc (.cells #[.string dn, .slice A3 n3 c3, .int .i64 ds] 61)) = X := ⟨_, rfl⟩
      have h3 := three_boxes w #[.int .i64 14, .slice K kn kc, .int .i64 n, .int .i64 d, .string nm] #[.slice A na c] #[.string dn, .slice A3 n3 c3, .int .i64 ds]
      rw [hX] at h3
      obtain ⟨hb0, hn0, hk0, hd0, hs0⟩ := h3
      have x0 : X.cell? ⟨w.heap.size, 0, none⟩ = some (.int .i64 14) := hn0.cell 0
      have x3 : X.cell? ⟨w.heap.size, 3, none⟩ = some (.int .i64 d) := hn0.cell 3
      have y0 : X.cell? ⟨w.heap.size + 1, 0, none⟩ = some (.slice A na c) := hk0.cell 0
      have z1 : X.cell? ⟨w.heap.size + 2, 1, none⟩ = some (.slice A3 n3 c3) := hd0.cell 1
      have z2 : X.cell? ⟨w.heap.size + 2, 2, none⟩ = some (.int .i64 ds) := hd0.cell 2
      have HB := Lib.hid (And.intro hb0 (And.intro hn0 (And.intro hk0 (And.intro hd0 hs0))))
      have HX := Lib.hid hX
      clear hb0 hn0 hk0 hd0 hs0 hX
      go_enter Try.func66, Try.ntmps66
      go_wp2_with fail
      rw [HX.out]
      go_quiet (fail)
      go_wp2_with fail
      refine (HC.out _ (below_drewN HB.out.1 _)).mono ?_
      rintro e w1 ⟨rfl, hb1⟩
      go_wp2_with fail
      go_ret
      exact ⟨ret_int (by rw [HS.out]; rfl), (below_drewN HB.out.1 nq).trans (hb1.mono (below_drewN HB.out.1 nq).size)⟩

end Go.Proofs.Ythooecojopfjbaa
