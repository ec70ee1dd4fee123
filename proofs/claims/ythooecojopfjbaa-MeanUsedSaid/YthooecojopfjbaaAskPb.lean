/- Walk: the sort of a node, by its kids' sorts: sameness, sums, names, arrays. · Walk: the sort of a node, by its kids' sorts: sums. · Walk: the sort of a node, by its kids' sorts, whatever the operator. -/
import Derived.Test.YthooecojopfjbaaAskPa
import Derived.Deep.RegionHeld3
namespace Go.Proofs.Ythooecojopfjbaa
open Go.RowKit

set_option maxRecDepth 100000 in
set_option maxHeartbeats 8000000 in
theorem sort_8 (a a2 : Int) (n d : Int) (nm : ByteArray) (K : Option Addr) (kn kc : Nat) (A : Option Addr) (c : Nat) (dn : ByteArray) (A3 : Option Addr) (n3 c3 : Nat) (ds : Int) (ar : List Int) (w : World) (hks : IntsB w w.heap.size A 2 [a, a2]) :
    Calls Try.prog 66 #[.agg #[.int .i64 8, .slice K kn kc, .int .i64 n, .int .i64 d, .string nm], .slice A 2 c, .agg #[.string dn, .slice A3 n3 c3, .int .i64 ds]] w fun e w' => e = .returned (.int .i64 (sortF 8 d [a, a2] ar ds)) ∧ Below w.heap.size w w' := by
  have eg_numS : ∀ args w, (callFunc 93 args).run Try.prog w = .ok (.enter 93 args) w := enters_of Try.func93 (by kernel_rfl) rfl
  have hall_numS : ∀ W : World, Below w.heap.size w W → Calls Try.prog 91 #[.slice A 2 c, .func (.func 93) #[] #[]] W fun e w' => e = .returned (.bool (allB numS [a, a2])) ∧ Below W.heap.size W w' := fun W hW =>
    all_any 93 eg_numS numS A 2 c [a, a2] _ W (hks.below stays_int hW hW.size) (by omega) numeric_pred rfl
  have hs : ∀ r s t u, allB numS [a, a2] = r → (a == a2) = s → (a == 4) = t → wordB a = u → sortF 8 d [a, a2] ar ds = if r || (s && (t || u)) then 1 else 0 := fun r s t u hr hs ht hu => by
    subst hr; subst hs; subst ht; subst hu; simp [sortF, sameF, allB]
  cases hr : allB numS [a, a2] <;> cases h2 : (a == a2) <;> cases h4 : (a == 4) <;> cases hw : wordB a
  all_goals
    have HS := Lib.hid (hs _ _ _ _ hr h2 h4 hw)
    rw [hr] at hall_numS
    have HC := Lib.hid hall_numS
    have HW := Lib.hid (word_is a _ hw)
    clear hs hall_numS eg_numS hr hw
    obtain ⟨b, off, rfl, hb, k0, k1⟩ := ints_two hks
    obtain ⟨X, hX⟩ : ∃ X, (((w.alloc (.cells #[.int .i64 8, .slice K kn kc, .int .i64 n, .int .i64 d, .string nm] 59)).alloc (.cells #[.slice (some ⟨b, off, none⟩) 2 c] 22)).alloc (.cells #[.string dn, .slice A3 n3 c3, .int .i64 ds] 61)) = X := ⟨_, rfl⟩
    have h3 := three_boxes w #[.int .i64 8, .slice K kn kc, .int .i64 n, .int .i64 d, .string nm] #[.slice (some ⟨b, off, none⟩) 2 c] #[.string dn, .slice A3 n3 c3, .int .i64 ds]
    rw [hX] at h3
    obtain ⟨hb0, hn0, hk0, hd0, hs0⟩ := h3
    have x0 : X.cell? ⟨w.heap.size, 0, none⟩ = some (.int .i64 8) := hn0.cell 0
    have x3 : X.cell? ⟨w.heap.size, 3, none⟩ = some (.int .i64 d) := hn0.cell 3
    have y0 : X.cell? ⟨w.heap.size + 1, 0, none⟩ = some (.slice (some ⟨b, off, none⟩) 2 c) := hk0.cell 0
    have z1 : X.cell? ⟨w.heap.size + 2, 1, none⟩ = some (.slice A3 n3 c3) := hd0.cell 1
    have z2 : X.cell? ⟨w.heap.size + 2, 2, none⟩ = some (.int .i64 ds) := hd0.cell 2
    have j0 : X.cell? ⟨b, off, none⟩ = some (.int .i64 a) := (hb0.cell (p := ⟨b, off, none⟩) hb).trans k0
    have j1 : X.cell? ⟨b, off + 1, none⟩ = some (.int .i64 a2) := (hb0.cell (p := ⟨b, off + 1, none⟩) hb).trans k1
    clear hks k0 k1
    have HB := Lib.hid (And.intro hb0 (And.intro hn0 (And.intro hk0 (And.intro hd0 hs0))))
    have HX := Lib.hid hX
    clear hb0 hn0 hk0 hd0 hs0 hX
    go_enter Try.func66, Try.ntmps66
    go_wp2_with fail
    rw [HX.out]
    go_quiet (fail)
    go_wp2_with fail
    refine (HC.out _ (below_drewN HB.out.1 _)).mono ?_
    rintro e w1 ⟨rfl, hb1⟩
    have hbX : Below (w.heap.size + 3) X w1 := ⟨hb1.os, hb1.tape, hb1.output, hb1.size, fun i hi => hb1.block i (by have := HB.out.2.2.2.2; show i < X.heap.size; omega)⟩
    have Y0 : w1.cell? ⟨w.heap.size + 1, 0, none⟩ = some (.slice (some ⟨b, off, none⟩) 2 c) := (hbX.cell (p := ⟨w.heap.size + 1, 0, none⟩) (by show w.heap.size + 1 < _; omega)).trans y0
    have J0 : w1.cell? ⟨b, off, none⟩ = some (.int .i64 a) := (hbX.cell (p := ⟨b, off, none⟩) (by show b < _; omega)).trans j0
    have HB1 : Hid (Below w.heap.size w w1) := (below_drewN HB.out.1 nq).trans (hb1.mono (below_drewN HB.out.1 nq).size)
    clear hbX hb1 x0 x3 y0 z1 z2 j0 j1
    go_wp2_with (go_at_call 74; refine (HW.out _).mono ?_; rintro e w' ⟨rfl, rfl⟩)
    go_ret
    exact ⟨ret_int (by rw [HS.out]; rfl), HB1.out⟩

set_option maxRecDepth 100000 in
set_option maxHeartbeats 8000000 in
theorem sort_9 (n d : Int) (nm : ByteArray) (K : Option Addr) (kn kc : Nat) (A : Option Addr) (na c : Nat) (ks : List Int) (dn : ByteArray) (A3 : Option Addr) (n3 c3 : Nat) (ds : Int) (ar : List Int) (w : World) (hks : IntsB w w.heap.size A na ks) (hna : na ≤ 8) (har : IntsB w w.heap.size A3 n3 ar) (hn3 : n3 ≤ 9223372036854775807) :
    Calls Try.prog 66 #[.agg #[.int .i64 9, .slice K kn kc, .int .i64 n, .int .i64 d, .string nm], .slice A na c, .agg #[.string dn, .slice A3 n3 c3, .int .i64 ds]] w fun e w' => e = .returned (.int .i64 (sortF 9 d ks ar ds)) ∧ Below w.heap.size w w' := by
  have egi : ∀ args w, (callFunc 89 args).run Try.prog w = .ok (.enter 89 args) w := enters_of Try.func89 (by kernel_rfl) rfl
  have hl := hks.len
  have hs : ∀ r : Bool, decide (ks = ar) = r → sortF 9 d ks ar ds = if r then ds else 0 := fun r hr => by subst hr; simp [sortF]
  have hki : ∀ W : World, Below w.heap.size w W → W.cell? ⟨w.heap.size + 1, 0, none⟩ = some (.slice A na c) → Calls Try.prog 89 #[.slice A3 n3 c3, .pointer (some ⟨w.heap.size + 1, 0, none⟩)] W (DrewP (.bool (decide (ks = ar))) W) := fun W hW hc =>
    isSame_any A A3 na c n3 c3 ks ar _ (fun b => b < W.heap.size) (fun b => b < W.heap.size) (w.heap.size + 1) W hc (hks.below stays_int hW hW.size) (har.below stays_int hW hW.size) (by omega) hn3 rfl
  have h2 := two_or ks
  rw [hl] at h2
  have hq : ∃ r : Bool, decide (ks = ar) = r := ⟨_, rfl⟩
  obtain ⟨r, hr⟩ := hq
  have HS := Lib.hid (hs _ hr)
  rw [hr] at hki
  have HC := Lib.hid hki
  clear hs hki hr har hn3
  rcases h2 with ⟨a, a2, rfl⟩ | h2
  · obtain rfl : 2 = na := hl
    obtain ⟨b, off, rfl, hb, k0, k1⟩ := ints_two hks
    clear hna
    cases r
    all_goals
      obtain ⟨X, hX⟩ : ∃ X, (((w.alloc (.cells #[.int .i64 9, .slice K kn kc, .int .i64 n, .int .i64 d, .string nm] 59)).alloc (.cells #[.slice (some ⟨b, off, none⟩) 2 c] 22)).alloc (.cells #[.string dn, .slice A3 n3 c3, .int .i64 ds] 61)) = X := ⟨_, rfl⟩
      have h3 := three_boxes w #[.int .i64 9, .slice K kn kc, .int .i64 n, .int .i64 d, .string nm] #[.slice (some ⟨b, off, none⟩) 2 c] #[.string dn, .slice A3 n3 c3, .int .i64 ds]
      rw [hX] at h3
      obtain ⟨hb0, hn0, hk0, hd0, hs0⟩ := h3
      have x0 : X.cell? ⟨w.heap.size, 0, none⟩ = some (.int .i64 9) := hn0.cell 0
      have x3 : X.cell? ⟨w.heap.size, 3, none⟩ = some (.int .i64 d) := hn0.cell 3
      have y0 : X.cell? ⟨w.heap.size + 1, 0, none⟩ = some (.slice (some ⟨b, off, none⟩) 2 c) := hk0.cell 0
      have z1 : X.cell? ⟨w.heap.size + 2, 1, none⟩ = some (.slice A3 n3 c3) := hd0.cell 1
      have z2 : X.cell? ⟨w.heap.size + 2, 2, none⟩ = some (.int .i64 ds) := hd0.cell 2
      have j0 : X.cell? ⟨b, off, none⟩ = some (.int .i64 a) := (hb0.cell (p := ⟨b, off, none⟩) hb).trans k0
      have j1 : X.cell? ⟨b, off + 1, none⟩ = some (.int .i64 a2) := (hb0.cell (p := ⟨b, off + 1, none⟩) hb).trans k1
      clear hks k0 k1
      have HB := Lib.hid (And.intro hb0 (And.intro hn0 (And.intro hk0 (And.intro hd0 hs0))))
      have HX := Lib.hid hX
      clear hb0 hn0 hk0 hd0 hs0 hX
      go_enter Try.func66, Try.ntmps66
      go_wp2_with fail
      rw [HX.out]
      go_quiet (fail)
      go_wp2_with fail
      go_quiet ((go_at_fn 89; exact quiet_drew2 (HC.out _ (below_drewN HB.out.1 _) y0)))
      go_wp2_with fail
      go_ret
      exact ⟨ret_int (by rw [HS.out]; rfl), (by first | exact HB.out.1 | exact below_drewN HB.out.1 _ | exact below_drewN (below_drewN HB.out.1 _) _)⟩
  · clear hks hl
    cases r
    all_goals
      obtain ⟨X, hX⟩ : ∃ X, (((w.alloc (.cells #[.int .i64 9, .slice K kn kc, .int .i64 n, .int .i64 d, .string nm] 59)).alloc (.cells #[.slice A na c] 22)).alloc (.cells #[.string dn, .slice A3 n3 c3, .int .i64 ds] 61)) = X := ⟨_, rfl⟩
      have h3 := three_boxes w #[.int .i64 9, .slice K kn kc, .int .i64 n, .int .i64 d, .string nm] #[.slice A na c] #[.string dn, .slice A3 n3 c3, .int .i64 ds]
      rw [hX] at h3
      obtain ⟨hb0, hn0, hk0, hd0, hs0⟩ := h3
      have x0 : X.cell? ⟨w.heap.size, 0, none⟩ = some (.int .i64 9) := hn0.cell 0
      have x3 : X.cell? ⟨w.heap.size, 3, none⟩ = some (.int .i64 d) := hn0.cell 3
      have y0 : X.cell? ⟨w.heap.size + 1, 0, none⟩ = some (.slice A na c) := hk0.cell 0
      have z1 : X.cell? ⟨w.heap.size + 2, 1, none⟩ = some (.slice A3 n3 c3) := hd0.cell 1
      have z2 : X.cell? ⟨w.heap.size + 2, 2, none⟩ = some (.int .i64 ds) := hd0.cell 2
      have HB := Lib.hid (And.intro hb0 (And.intro hn0 (And.intro hk0 (And.intro hd0 hs0))))
      have HX := Lib.hid hX
      clear hb0 hn0 hk0 hd0 hs0 hX
      go_enter Try.func66, Try.ntmps66
      go_wp2_with fail
      rw [HX.out]
      go_quiet (fail)
      go_wp2_with fail
      go_quiet ((go_at_fn 89; exact quiet_drew2 (HC.out _ (below_drewN HB.out.1 _) y0)))
      go_wp2_with fail
      go_ret
      exact ⟨ret_int (by rw [HS.out]; rfl), (by first | exact HB.out.1 | exact below_drewN HB.out.1 _ | exact below_drewN (below_drewN HB.out.1 _) _)⟩

set_option maxRecDepth 100000 in
set_option maxHeartbeats 8000000 in
theorem sort_25 (a a2 a3 : Int) (n d : Int) (nm : ByteArray) (K : Option Addr) (kn kc : Nat) (A : Option Addr) (c : Nat) (dn : ByteArray) (A3 : Option Addr) (n3 c3 : Nat) (ds : Int) (ar : List Int) (w : World) (hks : IntsB w w.heap.size A 3 [a, a2, a3]) :
    Calls Try.prog 66 #[.agg #[.int .i64 25, .slice K kn kc, .int .i64 n, .int .i64 d, .string nm], .slice A 3 c, .agg #[.string dn, .slice A3 n3 c3, .int .i64 ds]] w fun e w' => e = .returned (.int .i64 (sortF 25 d [a, a2, a3] ar ds)) ∧ Below w.heap.size w w' := by
  have egi : ∀ args w, (callFunc 89 args).run Try.prog w = .ok (.enter 89 args) w := enters_of Try.func89 (by kernel_rfl) rfl
  have hs : ∀ r : Bool, decide ([a, a2, a3] = [5, 4, 4]) = r → sortF 25 d [a, a2, a3] ar ds = if r then 5 else 0 := fun r hr => by subst hr; simp [sortF]
  have hki : ∀ (W : World) (g : Nat), Below w.heap.size w W → W.cell? ⟨w.heap.size + 1, 0, none⟩ = some (.slice A 3 c) → Blk W g 3 #[.int .i64 5, .int .i64 4, .int .i64 4] → Calls Try.prog 89 #[.slice (some ⟨g, 0, none⟩) 3 3, .pointer (some ⟨w.heap.size + 1, 0, none⟩)] W (DrewP (.bool (decide ([a, a2, a3] = [5, 4, 4]))) W) := fun W g hW hc hg =>
    isSame_any A (some ⟨g, 0, none⟩) 3 c 3 3 [a, a2, a3] [5, 4, 4] _ (fun b => b < W.heap.size) (fun b => b < W.heap.size) (w.heap.size + 1) W hc (hks.below stays_int hW hW.size) ⟨rfl, fun i x hx => ⟨g, 0, rfl, hg.lt, by
      rw [Nat.zero_add, Nat.mul_one]
      refine ⟨(hg.cell i).trans ?_, ?_⟩
      · match i, hx with
        | 0, hx => simp at hx; subst hx; rfl
        | 1, hx => simp at hx; subst hx; rfl
        | 2, hx => simp at hx; subst hx; rfl
      · have : x ∈ [5, 4, 4] := List.mem_of_getElem? hx
        simp at this
        unfold I64
        omega⟩⟩ (by omega) (by omega) rfl
  cases hr : decide ([a, a2, a3] = [5, 4, 4])
  all_goals
    have HS := Lib.hid (hs _ hr)
    rw [hr] at hki
    have HC := Lib.hid hki
    clear hs hki hr
    obtain ⟨b, off, rfl, hb, k0, k1, k2⟩ := ints_three hks
    obtain ⟨X, hX⟩ : ∃ X, (((w.alloc (.cells #[.int .i64 25, .slice K kn kc, .int .i64 n, .int .i64 d, .string nm] 59)).alloc (.cells #[.slice (some ⟨b, off, none⟩) 3 c] 22)).alloc (.cells #[.string dn, .slice A3 n3 c3, .int .i64 ds] 61)) = X := ⟨_, rfl⟩
    have h3 := three_boxes w #[.int .i64 25, .slice K kn kc, .int .i64 n, .int .i64 d, .string nm] #[.slice (some ⟨b, off, none⟩) 3 c] #[.string dn, .slice A3 n3 c3, .int .i64 ds]
    rw [hX] at h3
    obtain ⟨hb0, hn0, hk0, hd0, hs0⟩ := h3
    have x0 : X.cell? ⟨w.heap.size, 0, none⟩ = some (.int .i64 25) := hn0.cell 0
    have x3 : X.cell? ⟨w.heap.size, 3, none⟩ = some (.int .i64 d) := hn0.cell 3
    have y0 : X.cell? ⟨w.heap.size + 1, 0, none⟩ = some (.slice (some ⟨b, off, none⟩) 3 c) := hk0.cell 0
    have z1 : X.cell? ⟨w.heap.size + 2, 1, none⟩ = some (.slice A3 n3 c3) := hd0.cell 1
    have z2 : X.cell? ⟨w.heap.size + 2, 2, none⟩ = some (.int .i64 ds) := hd0.cell 2
    have j0 : X.cell? ⟨b, off, none⟩ = some (.int .i64 a) := (hb0.cell (p := ⟨b, off, none⟩) hb).trans k0
    have j1 : X.cell? ⟨b, off + 1, none⟩ = some (.int .i64 a2) := (hb0.cell (p := ⟨b, off + 1, none⟩) hb).trans k1
    have j2 : X.cell? ⟨b, off + 2, none⟩ = some (.int .i64 a3) := (hb0.cell (p := ⟨b, off + 2, none⟩) hb).trans k2
    clear hks k0 k1 k2
    have HB := Lib.hid (And.intro hb0 (And.intro hn0 (And.intro hk0 (And.intro hd0 hs0))))
    have HX := Lib.hid hX
    clear hb0 hn0 hk0 hd0 hs0 hX
    go_enter Try.func66, Try.ntmps66
    go_wp2_with fail
    rw [HX.out]
    go_quiet (fail)
    go_wp2_with fail
    have hbn : Below (w.heap.size + 3) X ((X.drewN nq).alloc (.cells #[.int .i64 5, .int .i64 4, .int .i64 4] 3)) := (below_drewN (Below.refl _ _) nq).alloc (by have := HB.out.2.2.2.2; simp; omega) _
    have hbw : Below w.heap.size w ((X.drewN nq).alloc (.cells #[.int .i64 5, .int .i64 4, .int .i64 4] 3)) := HB.out.1.trans (hbn.mono (by omega))
    have hblk : Blk ((X.drewN nq).alloc (.cells #[.int .i64 5, .int .i64 4, .int .i64 4] 3)) X.heap.size 3 #[.int .i64 5, .int .i64 4, .int .i64 4] := Blk.new (X.drewN nq) 3 #[.int .i64 5, .int .i64 4, .int .i64 4]
    refine (HC.out _ X.heap.size hbw ((hbn.cell (p := ⟨w.heap.size + 1, 0, none⟩) (by show w.heap.size + 1 < _; omega)).trans y0) hblk).mono ?_
    rintro e w1 ⟨rfl, m, rfl⟩
    have HB1 : Hid (Below w.heap.size w (((X.drewN nq).alloc (.cells #[.int .i64 5, .int .i64 4, .int .i64 4] 3)).drewN m)) := below_drewN hbw m
    clear hbn hbw hblk
    go_wp2_with fail
    go_ret
    exact ⟨ret_int (by rw [HS.out]; rfl), HB1.out⟩

set_option maxRecDepth 100000 in
set_option maxHeartbeats 8000000 in
theorem sort_24 (a a2 : Int) (n d : Int) (nm : ByteArray) (K : Option Addr) (kn kc : Nat) (A : Option Addr) (c : Nat) (dn : ByteArray) (A3 : Option Addr) (n3 c3 : Nat) (ds : Int) (ar : List Int) (w : World) (hks : IntsB w w.heap.size A 2 [a, a2]) :
    Calls Try.prog 66 #[.agg #[.int .i64 24, .slice K kn kc, .int .i64 n, .int .i64 d, .string nm], .slice A 2 c, .agg #[.string dn, .slice A3 n3 c3, .int .i64 ds]] w fun e w' => e = .returned (.int .i64 (sortF 24 d [a, a2] ar ds)) ∧ Below w.heap.size w w' := by
  have egi : ∀ args w, (callFunc 89 args).run Try.prog w = .ok (.enter 89 args) w := enters_of Try.func89 (by kernel_rfl) rfl
  have hs : ∀ r : Bool, decide ([a, a2] = [5, 4]) = r → sortF 24 d [a, a2] ar ds = if r then 4 else 0 := fun r hr => by subst hr; simp [sortF]
  have hki : ∀ (W : World) (g : Nat), Below w.heap.size w W → W.cell? ⟨w.heap.size + 1, 0, none⟩ = some (.slice A 2 c) → Blk W g 3 #[.int .i64 5, .int .i64 4] → Calls Try.prog 89 #[.slice (some ⟨g, 0, none⟩) 2 2, .pointer (some ⟨w.heap.size + 1, 0, none⟩)] W (DrewP (.bool (decide ([a, a2] = [5, 4]))) W) := fun W g hW hc hg =>
    isSame_any A (some ⟨g, 0, none⟩) 2 c 2 2 [a, a2] [5, 4] _ (fun b => b < W.heap.size) (fun b => b < W.heap.size) (w.heap.size + 1) W hc (hks.below stays_int hW hW.size) ⟨rfl, fun i x hx => ⟨g, 0, rfl, hg.lt, by
      rw [Nat.zero_add, Nat.mul_one]
      refine ⟨(hg.cell i).trans ?_, ?_⟩
      · match i, hx with
        | 0, hx => simp at hx; subst hx; rfl
        | 1, hx => simp at hx; subst hx; rfl
      · have : x ∈ [5, 4] := List.mem_of_getElem? hx
        simp at this
        unfold I64
        omega⟩⟩ (by omega) (by omega) rfl
  cases hr : decide ([a, a2] = [5, 4])
  all_goals
    have HS := Lib.hid (hs _ hr)
    rw [hr] at hki
    have HC := Lib.hid hki
    clear hs hki hr
    obtain ⟨b, off, rfl, hb, k0, k1⟩ := ints_two hks
    obtain ⟨X, hX⟩ : ∃ X, (((w.alloc (.cells #[.int .i64 24, .slice K kn kc, .int .i64 n, .int .i64 d, .string nm] 59)).alloc (.cells #[.slice (some ⟨b, off, none⟩) 2 c] 22)).alloc (.cells #[.string dn, .slice A3 n3 c3, .int .i64 ds] 61)) = X := ⟨_, rfl⟩
    have h3 := three_boxes w #[.int .i64 24, .slice K kn kc, .int .i64 n, .int .i64 d, .string nm] #[.slice (some ⟨b, off, none⟩) 2 c] #[.string dn, .slice A3 n3 c3, .int .i64 ds]
    rw [hX] at h3
    obtain ⟨hb0, hn0, hk0, hd0, hs0⟩ := h3
    have x0 : X.cell? ⟨w.heap.size, 0, none⟩ = some (.int .i64 24) := hn0.cell 0
    have x3 : X.cell? ⟨w.heap.size, 3, none⟩ = some (.int .i64 d) := hn0.cell 3
    have y0 : X.cell? ⟨w.heap.size + 1, 0, none⟩ = some (.slice (some ⟨b, off, none⟩) 2 c) := hk0.cell 0
    have z1 : X.cell? ⟨w.heap.size + 2, 1, none⟩ = some (.slice A3 n3 c3) := hd0.cell 1
    have z2 : X.cell? ⟨w.heap.size + 2, 2, none⟩ = some (.int .i64 ds) := hd0.cell 2
    have j0 : X.cell? ⟨b, off, none⟩ = some (.int .i64 a) := (hb0.cell (p := ⟨b, off, none⟩) hb).trans k0
    have j1 : X.cell? ⟨b, off + 1, none⟩ = some (.int .i64 a2) := (hb0.cell (p := ⟨b, off + 1, none⟩) hb).trans k1
    clear hks k0 k1
    have HB := Lib.hid (And.intro hb0 (And.intro hn0 (And.intro hk0 (And.intro hd0 hs0))))
    have HX := Lib.hid hX
    clear hb0 hn0 hk0 hd0 hs0 hX
    go_enter Try.func66, Try.ntmps66
    go_wp2_with fail
    rw [HX.out]
    go_quiet (fail)
    go_wp2_with fail
    have hbn : Below (w.heap.size + 3) X ((X.drewN nq).alloc (.cells #[.int .i64 5, .int .i64 4] 3)) := (below_drewN (Below.refl _ _) nq).alloc (by have := HB.out.2.2.2.2; simp; omega) _
    have hbw : Below w.heap.size w ((X.drewN nq).alloc (.cells #[.int .i64 5, .int .i64 4] 3)) := HB.out.1.trans (hbn.mono (by omega))
    have hblk : Blk ((X.drewN nq).alloc (.cells #[.int .i64 5, .int .i64 4] 3)) X.heap.size 3 #[.int .i64 5, .int .i64 4] := Blk.new (X.drewN nq) 3 #[.int .i64 5, .int .i64 4]
    refine (HC.out _ X.heap.size hbw ((hbn.cell (p := ⟨w.heap.size + 1, 0, none⟩) (by show w.heap.size + 1 < _; omega)).trans y0) hblk).mono ?_
    rintro e w1 ⟨rfl, m, rfl⟩
    have HB1 : Hid (Below w.heap.size w (((X.drewN nq).alloc (.cells #[.int .i64 5, .int .i64 4] 3)).drewN m)) := below_drewN hbw m
    clear hbn hbw hblk
    go_wp2_with fail
    go_ret
    exact ⟨ret_int (by rw [HS.out]; rfl), HB1.out⟩

end Go.Proofs.Ythooecojopfjbaa
namespace Go.Proofs.Ythooecojopfjbaa
open Go.RowKit

set_option maxRecDepth 100000 in
set_option maxHeartbeats 8000000 in
theorem sort_11 (n d : Int) (nm : ByteArray) (K : Option Addr) (kn kc : Nat) (A : Option Addr) (na c : Nat) (ks : List Int) (dn : ByteArray) (A3 : Option Addr) (n3 c3 : Nat) (ds : Int) (ar : List Int) (w : World) (hks : IntsB w w.heap.size A na ks) (hna : na ≤ 8) :
    Calls Try.prog 66 #[.agg #[.int .i64 11, .slice K kn kc, .int .i64 n, .int .i64 d, .string nm], .slice A na c, .agg #[.string dn, .slice A3 n3 c3, .int .i64 ds]] w fun e w' => e = .returned (.int .i64 (sortF 11 d ks ar ds)) ∧ Below w.heap.size w w' := by
  have eg_numS : ∀ args w, (callFunc 93 args).run Try.prog w = .ok (.enter 93 args) w := enters_of Try.func93 (by kernel_rfl) rfl
  have eg_isIntS : ∀ args w, (callFunc 95 args).run Try.prog w = .ok (.enter 95 args) w := enters_of Try.func95 (by kernel_rfl) rfl
  have hl := hks.len
  have hall_numS : ∀ W : World, Below w.heap.size w W → Calls Try.prog 91 #[.slice A na c, .func (.func 93) #[] #[]] W fun e w' => e = .returned (.bool (allB numS ks)) ∧ Below W.heap.size W w' := fun W hW =>
    all_any 93 eg_numS numS A na c ks _ W (hks.below stays_int hW hW.size) (by omega) numeric_pred rfl
  have hall_isIntS : ∀ W : World, Below w.heap.size w W → Calls Try.prog 91 #[.slice A na c, .func (.func 95) #[] #[]] W fun e w' => e = .returned (.bool (allB isIntS ks)) ∧ Below W.heap.size W w' := fun W hW =>
    all_any 95 eg_isIntS isIntS A na c ks _ W (hks.below stays_int hW hW.size) (by omega) isInt_pred rfl
  have hs : ∀ r s, allB numS ks = r → allB isIntS ks = s → sortF 11 d ks ar ds = if r then (if s then 2 else 3) else 0 := fun r s hr hs => by subst hr; subst hs; simp [sortF]
  have h2 := two_or ks
  rw [hl] at h2
  cases hr : allB numS ks <;> cases hi : allB isIntS ks
  all_goals
    have HS := Lib.hid (hs _ _ hr hi)
    rw [hr] at hall_numS
    rw [hi] at hall_isIntS
    have HC1 := Lib.hid hall_numS
    have HC2 := Lib.hid hall_isIntS
    clear hs hall_numS hall_isIntS eg_numS eg_isIntS hr hi
    rcases h2 with ⟨a, a2, rfl⟩ | h2
    · obtain rfl : 2 = na := hl
      obtain ⟨b, off, rfl, hb, k0, k1⟩ := ints_two hks
      clear hna
      obtain ⟨X, hX⟩ : ∃ X, (((w.alloc (.cells #[.int .i64 11, .slice K kn kc, .int .i64 n, .int .i64 d, .string nm] 59)).alloc (.cells #[.slice (some ⟨b, off, none⟩) 2 c] 22)).alloc (.cells #[.string dn, .slice A3 n3 c3, .int .i64 ds] 61)) = X := ⟨_, rfl⟩
      have h3 := three_boxes w #[.int .i64 11, .slice K kn kc, .int .i64 n, .int .i64 d, .string nm] #[.slice (some ⟨b, off, none⟩) 2 c] #[.string dn, .slice A3 n3 c3, .int .i64 ds]
      rw [hX] at h3
      obtain ⟨hb0, hn0, hk0, hd0, hs0⟩ := h3
      have x0 : X.cell? ⟨w.heap.size, 0, none⟩ = some (.int .i64 11) := hn0.cell 0
      have x3 : X.cell? ⟨w.heap.size, 3, none⟩ = some (.int .i64 d) := hn0.cell 3
      have y0 : X.cell? ⟨w.heap.size + 1, 0, none⟩ = some (.slice (some ⟨b, off, none⟩) 2 c) := hk0.cell 0
      have z1 : X.cell? ⟨w.heap.size + 2, 1, none⟩ = some (.slice A3 n3 c3) := hd0.cell 1
      have z2 : X.cell? ⟨w.heap.size + 2, 2, none⟩ = some (.int .i64 ds) := hd0.cell 2
      have j0 : X.cell? ⟨b, off, none⟩ = some (.int .i64 a) := (hb0.cell (p := ⟨b, off, none⟩) hb).trans k0
      have j1 : X.cell? ⟨b, off + 1, none⟩ = some (.int .i64 a2) := (hb0.cell (p := ⟨b, off + 1, none⟩) hb).trans k1
      clear hks k0 k1
      have HB := Lib.hid (And.intro hb0 (And.intro hn0 (And.intro hk0 (And.intro hd0 hs0))))
      have HX := Lib.hid hX
      clear hb0 hn0 hk0 hd0 hs0 hX
      go_enter Try.func66, Try.ntmps66
      go_wp2_with fail
      rw [HX.out]
      go_quiet (fail)
      go_wp2_with fail
      have hz0 : X.heap.size = w.heap.size + 3 := HB.out.2.2.2.2
      go_region_held3 (fun w' => w'.cell? ⟨w.heap.size + 1, 0, none⟩ = some (.slice (some ⟨b, off, none⟩) 2 c))
        (go_keep)
        (first
          | (go_simp
             go_at_call 94
             refine (whole_is _ _ rfl _).mono ?_
             rintro e w1 ⟨rfl, rfl⟩)
          | (go_simp
             go_at_call 91
             with_reducible refine (HC1.out _ (below_drewN HB.out.1 _)).mono ?_
             rintro e w1 ⟨rfl, hb1⟩
             have hbw1 : Below w.heap.size w w1 := (below_drewN HB.out.1 _).trans (hb1.mono (below_drewN HB.out.1 _).size)
             have hk1 : w1.cell? ⟨w.heap.size + 1, 0, none⟩ = some (.slice (some ⟨b, off, none⟩) 2 c) := by rw [hb1.cell (p := ⟨w.heap.size + 1, 0, none⟩) (by simp; omega)]; exact y0
             have hz1 : w.heap.size + 3 ≤ w1.heap.size := by have := hb1.size; simp at this; omega)
          | (go_simp
             go_at_call 91
             with_reducible refine (HC2.out _ (below_drewN hbw1 _)).mono ?_
             rintro e w2 ⟨rfl, hb2⟩
             have hbw2 : Below w.heap.size w w2 := (below_drewN hbw1 _).trans (hb2.mono (below_drewN hbw1 _).size)
             have hk2 : w2.cell? ⟨w.heap.size + 1, 0, none⟩ = some (.slice (some ⟨b, off, none⟩) 2 c) := by rw [hb2.cell (p := ⟨w.heap.size + 1, 0, none⟩) (by simp; omega)]; exact hk1)
          | (go_simp
             go_at_call 91
             with_reducible refine (HC2.out _ hbw1).mono ?_
             rintro e w2 ⟨rfl, hb2⟩
             have hbw2 : Below w.heap.size w w2 := hbw1.trans (hb2.mono hbw1.size)
             have hk2 : w2.cell? ⟨w.heap.size + 1, 0, none⟩ = some (.slice (some ⟨b, off, none⟩) 2 c) := by rw [hb2.cell (p := ⟨w.heap.size + 1, 0, none⟩) (by simp; omega)]; exact hk1)
          | fail)
      have HB2 := Lib.hid hbw2
      clear hbw1 hbw2 hb1 hb2 hk1 hk2
      go_wp2_with fail
      go_ret
      exact ⟨ret_int (by rw [HS.out]; rfl), (by first | exact HB2.out | exact below_drewN HB2.out _ | exact below_drewN HB2.out 1)⟩
    · clear hks hl
      obtain ⟨X, hX⟩ : ∃ X, (((w.alloc (.cells #[.int .i64 11, .slice K kn kc, .int .i64 n, .int .i64 d, .string nm] 59)).alloc (.cells #[.slice A na c] 22)).alloc (.cells #[.string dn, .slice A3 n3 c3, .int .i64 ds] 61)) = X := ⟨_, rfl⟩
      have h3 := three_boxes w #[.int .i64 11, .slice K kn kc, .int .i64 n, .int .i64 d, .string nm] #[.slice A na c] #[.string dn, .slice A3 n3 c3, .int .i64 ds]
      rw [hX] at h3
      obtain ⟨hb0, hn0, hk0, hd0, hs0⟩ := h3
      have x0 : X.cell? ⟨w.heap.size, 0, none⟩ = some (.int .i64 11) := hn0.cell 0
      have x3 : X.cell? ⟨w.heap.size, 3, none⟩ = some (.int .i64 d) := hn0.cell 3
      have y0 : X.cell? ⟨w.heap.size + 1, 0, none⟩ = some (.slice A na c) := hk0.cell 0
      have z1 : X.cell? ⟨w.heap.size + 2, 1, none⟩ = some (.slice A3 n3 c3) := hd0.cell 1
      have z2 : X.cell? ⟨w.heap.size + 2, 2, none⟩ = some (.int .i64 ds) := hd0.cell 2
      have HB := Lib.hid (And.intro hb0 (And.intro hn0 (And.intro hk0 (And.intro hd0 hs0))))
      have HX := Lib.hid hX
      clear hb0 hn0 hk0 hd0 hs0 hX
      go_enter Try.func66, Try.ntmps66
      go_wp2_with fail
      rw [HX.out]
      go_quiet (fail)
      go_wp2_with fail
      have hz0 : X.heap.size = w.heap.size + 3 := HB.out.2.2.2.2
      go_region_held3 (fun w' => w'.cell? ⟨w.heap.size + 1, 0, none⟩ = some (.slice A na c))
        (go_keep)
        (first
          | (go_simp
             go_at_call 94
             refine (whole_is _ _ rfl _).mono ?_
             rintro e w1 ⟨rfl, rfl⟩)
          | (go_simp
             go_at_call 91
             with_reducible refine (HC1.out _ (below_drewN HB.out.1 _)).mono ?_
             rintro e w1 ⟨rfl, hb1⟩
             have hbw1 : Below w.heap.size w w1 := (below_drewN HB.out.1 _).trans (hb1.mono (below_drewN HB.out.1 _).size)
             have hk1 : w1.cell? ⟨w.heap.size + 1, 0, none⟩ = some (.slice A na c) := by rw [hb1.cell (p := ⟨w.heap.size + 1, 0, none⟩) (by simp; omega)]; exact y0
             have hz1 : w.heap.size + 3 ≤ w1.heap.size := by have := hb1.size; simp at this; omega)
          | (go_simp
             go_at_call 91
             with_reducible refine (HC2.out _ (below_drewN hbw1 _)).mono ?_
             rintro e w2 ⟨rfl, hb2⟩
             have hbw2 : Below w.heap.size w w2 := (below_drewN hbw1 _).trans (hb2.mono (below_drewN hbw1 _).size)
             have hk2 : w2.cell? ⟨w.heap.size + 1, 0, none⟩ = some (.slice A na c) := by rw [hb2.cell (p := ⟨w.heap.size + 1, 0, none⟩) (by simp; omega)]; exact hk1)
          | (go_simp
             go_at_call 91
             with_reducible refine (HC2.out _ hbw1).mono ?_
             rintro e w2 ⟨rfl, hb2⟩
             have hbw2 : Below w.heap.size w w2 := hbw1.trans (hb2.mono hbw1.size)
             have hk2 : w2.cell? ⟨w.heap.size + 1, 0, none⟩ = some (.slice A na c) := by rw [hb2.cell (p := ⟨w.heap.size + 1, 0, none⟩) (by simp; omega)]; exact hk1)
          | fail)
      have HB2 := Lib.hid hbw2
      clear hbw1 hbw2 hb1 hb2 hk1 hk2
      go_wp2_with fail
      go_ret
      exact ⟨ret_int (by rw [HS.out]; rfl), (by first | exact HB2.out | exact below_drewN HB2.out _ | exact below_drewN HB2.out 1)⟩

end Go.Proofs.Ythooecojopfjbaa
namespace Go.Proofs.Ythooecojopfjbaa
open Go.RowKit

theorem sort_any (op : Int) (n d : Int) (nm : ByteArray) (K : Option Addr) (kn kc : Nat) (A : Option Addr) (na c : Nat) (ks : List Int) (dn : ByteArray) (A3 : Option Addr) (n3 c3 : Nat) (ds : Int) (ar : List Int) (w : World) (h1 : 1 ≤ op) (h2 : op ≤ 25) (hks : IntsB w w.heap.size A na ks) (hna : na ≤ 8) (hc : op ≠ 9 → CountOk op ks) (h15 : op = 15 → 1 ≤ d ∧ d ≤ 8) (har : op = 9 → IntsB w w.heap.size A3 n3 ar) (hn3 : n3 ≤ 9223372036854775807) :
    Calls Try.prog 66 #[.agg #[.int .i64 op, .slice K kn kc, .int .i64 n, .int .i64 d, .string nm], .slice A na c, .agg #[.string dn, .slice A3 n3 c3, .int .i64 ds]] w fun e w' => e = .returned (.int .i64 (sortF op d ks ar ds)) ∧ Below w.heap.size w w' := by
  have hl := hks.len
  have h : op = 1 ∨ op = 2 ∨ op = 3 ∨ op = 4 ∨ op = 5 ∨ op = 6 ∨ op = 7 ∨ op = 8 ∨ op = 9 ∨ op = 10 ∨ op = 11 ∨ op = 12 ∨ op = 13 ∨ op = 14 ∨ op = 15 ∨ op = 16 ∨ op = 17 ∨ op = 18 ∨ op = 19 ∨ op = 20 ∨ op = 21 ∨ op = 22 ∨ op = 23 ∨ op = 24 ∨ op = 25 := by omega
  clear h1 h2
  rcases h with rfl | rfl | rfl | rfl | rfl | rfl | rfl | rfl | rfl | rfl | rfl | rfl | rfl | rfl | rfl | rfl | rfl | rfl | rfl | rfl | rfl | rfl | rfl | rfl | rfl
  · have hcc : (ks.length : Int) = 0 := by have := hc (by decide); simpa [CountOk, kidsF] using this
    obtain rfl := len0 hcc
    obtain rfl : 0 = na := hl
    exact sort_1 n d nm K kn kc A c dn A3 n3 c3 ds ar w
  · have hcc : (ks.length : Int) = 0 := by have := hc (by decide); simpa [CountOk, kidsF] using this
    obtain rfl := len0 hcc
    obtain rfl : 0 = na := hl
    exact sort_2 n d nm K kn kc A c dn A3 n3 c3 ds ar w
  · exact sort_3 n d nm K kn kc A na c ks dn A3 n3 c3 ds ar w hks hna
  · exact sort_4 n d nm K kn kc A na c ks dn A3 n3 c3 ds ar w hks hna
  · exact sort_5 n d nm K kn kc A na c ks dn A3 n3 c3 ds ar w hks hna
  · exact sort_6 n d nm K kn kc A na c ks dn A3 n3 c3 ds ar w hks hna
  · have hcc : (ks.length : Int) = 3 := by have := hc (by decide); simpa [CountOk, kidsF] using this
    obtain ⟨a, a2, a3, rfl⟩ := len3 hcc
    obtain rfl : 3 = na := hl
    exact sort_7 a a2 a3 n d nm K kn kc A c dn A3 n3 c3 ds ar w hks
  · have hcc : (ks.length : Int) = 2 := by have := hc (by decide); simpa [CountOk, kidsF] using this
    obtain ⟨a, a2, rfl⟩ := len2 hcc
    obtain rfl : 2 = na := hl
    exact sort_8 a a2 n d nm K kn kc A c dn A3 n3 c3 ds ar w hks
  · exact sort_9 n d nm K kn kc A na c ks dn A3 n3 c3 ds ar w hks hna (har rfl) hn3
  · have hcc : (ks.length : Int) = 0 := by have := hc (by decide); simpa [CountOk, kidsF] using this
    obtain rfl := len0 hcc
    obtain rfl : 0 = na := hl
    exact sort_10 n d nm K kn kc A c dn A3 n3 c3 ds ar w
  · exact sort_11 n d nm K kn kc A na c ks dn A3 n3 c3 ds ar w hks hna
  · have hcc : (ks.length : Int) = 1 := by have := hc (by decide); simpa [CountOk, kidsF] using this
    obtain ⟨a, rfl⟩ := len1 hcc
    obtain rfl : 1 = na := hl
    exact sort_12 a n d nm K kn kc A c dn A3 n3 c3 ds ar w hks
  · exact sort_13 n d nm K kn kc A na c ks dn A3 n3 c3 ds ar w hks hna
  · exact sort_14 n d nm K kn kc A na c ks dn A3 n3 c3 ds ar w hks hna
  · have hcc : (ks.length : Int) = 0 := by have := hc (by decide); simpa [CountOk, kidsF] using this
    obtain rfl := len0 hcc
    obtain rfl : 0 = na := hl
    exact sort_15 n d nm K kn kc A c dn A3 n3 c3 ds ar w (h15 rfl).1 (h15 rfl).2
  · have hcc : (ks.length : Int) = 1 := by have := hc (by decide); simpa [CountOk, kidsF] using this
    obtain ⟨a, rfl⟩ := len1 hcc
    obtain rfl : 1 = na := hl
    exact sort_16 a n d nm K kn kc A c dn A3 n3 c3 ds ar w hks
  · have hcc : (ks.length : Int) = 2 := by have := hc (by decide); simpa [CountOk, kidsF] using this
    obtain ⟨a, a2, rfl⟩ := len2 hcc
    obtain rfl : 2 = na := hl
    exact sort_17 a a2 n d nm K kn kc A c dn A3 n3 c3 ds ar w hks
  · have hcc : (ks.length : Int) = 2 := by have := hc (by decide); simpa [CountOk, kidsF] using this
    obtain ⟨a, a2, rfl⟩ := len2 hcc
    obtain rfl : 2 = na := hl
    exact sort_18 a a2 n d nm K kn kc A c dn A3 n3 c3 ds ar w hks
  · have hcc : (ks.length : Int) = 2 := by have := hc (by decide); simpa [CountOk, kidsF] using this
    obtain ⟨a, a2, rfl⟩ := len2 hcc
    obtain rfl : 2 = na := hl
    exact sort_19 a a2 n d nm K kn kc A c dn A3 n3 c3 ds ar w hks
  · have hcc : (ks.length : Int) = 2 := by have := hc (by decide); simpa [CountOk, kidsF] using this
    obtain ⟨a, a2, rfl⟩ := len2 hcc
    obtain rfl : 2 = na := hl
    exact sort_20 a a2 n d nm K kn kc A c dn A3 n3 c3 ds ar w hks
  · have hcc : (ks.length : Int) = 2 := by have := hc (by decide); simpa [CountOk, kidsF] using this
    obtain ⟨a, a2, rfl⟩ := len2 hcc
    obtain rfl : 2 = na := hl
    exact sort_21 a a2 n d nm K kn kc A c dn A3 n3 c3 ds ar w hks
  · have hcc : (ks.length : Int) = 2 := by have := hc (by decide); simpa [CountOk, kidsF] using this
    obtain ⟨a, a2, rfl⟩ := len2 hcc
    obtain rfl : 2 = na := hl
    exact sort_22 a a2 n d nm K kn kc A c dn A3 n3 c3 ds ar w hks
  · have hcc : (ks.length : Int) = 1 := by have := hc (by decide); simpa [CountOk, kidsF] using this
    obtain ⟨a, rfl⟩ := len1 hcc
    obtain rfl : 1 = na := hl
    exact sort_23 a n d nm K kn kc A c dn A3 n3 c3 ds ar w hks
  · have hcc : (ks.length : Int) = 2 := by have := hc (by decide); simpa [CountOk, kidsF] using this
    obtain ⟨a, a2, rfl⟩ := len2 hcc
    obtain rfl : 2 = na := hl
    exact sort_24 a a2 n d nm K kn kc A c dn A3 n3 c3 ds ar w hks
  · have hcc : (ks.length : Int) = 3 := by have := hc (by decide); simpa [CountOk, kidsF] using this
    obtain ⟨a, a2, a3, rfl⟩ := len3 hcc
    obtain rfl : 3 = na := hl
    exact sort_25 a a2 a3 n d nm K kn kc A c dn A3 n3 c3 ds ar w hks
theorem sort_is (op : Int) (n d : Int) (nm : ByteArray) (K : Option Addr) (kn kc : Nat) (A : Option Addr) (na c : Nat) (ks : List Int) (dn : ByteArray) (A3 : Option Addr) (n3 c3 : Nat) (ds : Int) (ar : List Int) (w : World) (R : Int) (hR : sortF op d ks ar ds = R) (h1 : 1 ≤ op) (h2 : op ≤ 25) (hks : IntsB w w.heap.size A na ks) (hna : na ≤ 8) (hc : op ≠ 9 → CountOk op ks) (h15 : op = 15 → 1 ≤ d ∧ d ≤ 8) (har : op = 9 → IntsB w w.heap.size A3 n3 ar) (hn3 : n3 ≤ 9223372036854775807) :
    Calls Try.prog 66 #[.agg #[.int .i64 op, .slice K kn kc, .int .i64 n, .int .i64 d, .string nm], .slice A na c, .agg #[.string dn, .slice A3 n3 c3, .int .i64 ds]] w fun e w' => e = .returned (.int .i64 R) ∧ Below w.heap.size w w' := by
  subst hR; exact sort_any op n d nm K kn kc A na c ks dn A3 n3 c3 ds ar w h1 h2 hks hna hc h15 har hn3
end Go.Proofs.Ythooecojopfjbaa
