/- Walk: the sort of a node, by its kids' sorts: sameness, sums, names, arrays. -/
import Derived.Test.YtggkfepifnfdoaaAskP3
import Derived.Deep.RegionHeld3
namespace Go.Proofs.Ytggkfepifnfdoaa
open Go.RowKit

set_option maxRecDepth 100000 in
set_option maxHeartbeats 8000000 in
theorem sort_8 (a a2 : Int) (n d : Int) (nm : ByteArray) (K : Option Addr) (kn kc : Nat) (A : Option Addr) (c : Nat) (dn : ByteArray) (A3 : Option Addr) (n3 c3 : Nat) (ds : Int) (ar : List Int) (w : World) (hks : IntsB w w.heap.size A 2 [a, a2]) :
    Calls Try.prog 62 #[.agg #[.int .i64 8, .slice K kn kc, .int .i64 n, .int .i64 d, .string nm], .slice A 2 c, .agg #[.string dn, .slice A3 n3 c3, .int .i64 ds]] w fun e w' => e = .returned (.int .i64 (sortF 8 d [a, a2] ar ds)) ∧ Below w.heap.size w w' := by
  have eg_numS : ∀ args w, (callFunc 89 args).run Try.prog w = .ok (.enter 89 args) w := enters_of Try.func89 (by kernel_rfl) rfl
  have hall_numS : ∀ W : World, Below w.heap.size w W → Calls Try.prog 87 #[.slice A 2 c, .func (.func 89) #[] #[]] W fun e w' => e = .returned (.bool (allB numS [a, a2])) ∧ Below W.heap.size W w' := fun W hW =>
    all_any 89 eg_numS numS A 2 c [a, a2] _ W (hks.below stays_int hW hW.size) (by omega) numeric_pred rfl
  have hs : ∀ r s t u, allB numS [a, a2] = r → (a == a2) = s → (a == 4) = t → wordB a = u → sortF 8 d [a, a2] ar ds = if r || (s && (t || u)) then 1 else 0 := fun r s t u hr hs ht hu => by
    subst hr; subst hs; subst ht; subst hu; simp [sortF, sameF, allB]
  cases hr : allB numS [a, a2] <;> cases h2 : (a == a2) <;> cases h4 : (a == 4) <;> cases hw : wordB a
  all_goals
    have HS := Lib.hid (hs _ _ _ _ hr h2 h4 hw)
    rw [hr] at hall_numS
    have HC := Lib.hid hall_numS
    have HW := Lib.hid (word_is a _ hw)
    clear hs hall_numS eg_numS hr hw
    obtain ⟨b, off, rfl, hb, k0, k1⟩ := ints_two hks
    obtain ⟨hb0, hn0, hk0, hd0, hs0⟩ := three_boxes w #[.int .i64 8, .slice K kn kc, .int .i64 n, .int .i64 d, .string nm] #[.slice (some ⟨b, off, none⟩) 2 c] #[.string dn, .slice A3 n3 c3, .int .i64 ds]
    have x0 : (((w.alloc (.cells #[.int .i64 8, .slice K kn kc, .int .i64 n, .int .i64 d, .string nm] 65)).alloc (.cells #[.slice (some ⟨b, off, none⟩) 2 c] 22)).alloc (.cells #[.string dn, .slice A3 n3 c3, .int .i64 ds] 83)).cell? ⟨w.heap.size, 0, none⟩ = some (.int .i64 8) := hn0.cell 0
    have x3 : (((w.alloc (.cells #[.int .i64 8, .slice K kn kc, .int .i64 n, .int .i64 d, .string nm] 65)).alloc (.cells #[.slice (some ⟨b, off, none⟩) 2 c] 22)).alloc (.cells #[.string dn, .slice A3 n3 c3, .int .i64 ds] 83)).cell? ⟨w.heap.size, 3, none⟩ = some (.int .i64 d) := hn0.cell 3
    have y0 : (((w.alloc (.cells #[.int .i64 8, .slice K kn kc, .int .i64 n, .int .i64 d, .string nm] 65)).alloc (.cells #[.slice (some ⟨b, off, none⟩) 2 c] 22)).alloc (.cells #[.string dn, .slice A3 n3 c3, .int .i64 ds] 83)).cell? ⟨w.heap.size + 1, 0, none⟩ = some (.slice (some ⟨b, off, none⟩) 2 c) := hk0.cell 0
    have z1 : (((w.alloc (.cells #[.int .i64 8, .slice K kn kc, .int .i64 n, .int .i64 d, .string nm] 65)).alloc (.cells #[.slice (some ⟨b, off, none⟩) 2 c] 22)).alloc (.cells #[.string dn, .slice A3 n3 c3, .int .i64 ds] 83)).cell? ⟨w.heap.size + 2, 1, none⟩ = some (.slice A3 n3 c3) := hd0.cell 1
    have z2 : (((w.alloc (.cells #[.int .i64 8, .slice K kn kc, .int .i64 n, .int .i64 d, .string nm] 65)).alloc (.cells #[.slice (some ⟨b, off, none⟩) 2 c] 22)).alloc (.cells #[.string dn, .slice A3 n3 c3, .int .i64 ds] 83)).cell? ⟨w.heap.size + 2, 2, none⟩ = some (.int .i64 ds) := hd0.cell 2
    have j0 : (((w.alloc (.cells #[.int .i64 8, .slice K kn kc, .int .i64 n, .int .i64 d, .string nm] 65)).alloc (.cells #[.slice (some ⟨b, off, none⟩) 2 c] 22)).alloc (.cells #[.string dn, .slice A3 n3 c3, .int .i64 ds] 83)).cell? ⟨b, off, none⟩ = some (.int .i64 a) := (hb0.cell (p := ⟨b, off, none⟩) hb).trans k0
    have j1 : (((w.alloc (.cells #[.int .i64 8, .slice K kn kc, .int .i64 n, .int .i64 d, .string nm] 65)).alloc (.cells #[.slice (some ⟨b, off, none⟩) 2 c] 22)).alloc (.cells #[.string dn, .slice A3 n3 c3, .int .i64 ds] 83)).cell? ⟨b, off + 1, none⟩ = some (.int .i64 a2) := (hb0.cell (p := ⟨b, off + 1, none⟩) hb).trans k1
    clear hks k0 k1
    have HB := Lib.hid (And.intro hb0 (And.intro hn0 (And.intro hk0 (And.intro hd0 hs0))))
    clear hb0 hn0 hk0 hd0 hs0
    go_enter Try.func62, Try.ntmps62
    go_wp2_with fail
    generalize (((w.alloc (.cells #[.int .i64 8, .slice K kn kc, .int .i64 n, .int .i64 d, .string nm] 65)).alloc (.cells #[.slice (some ⟨b, off, none⟩) 2 c] 22)).alloc (.cells #[.string dn, .slice A3 n3 c3, .int .i64 ds] 83)) = X at x0 x3 y0 z1 z2 j0 j1 HB ⊢
    go_quiet (fail)
    go_wp2_with fail
    refine (HC.out _ (below_drewN HB.out.1 _)).mono ?_
    rintro e w1 ⟨rfl, hb1⟩
    have hbX : Below (w.heap.size + 3) X w1 := ⟨hb1.os, hb1.tape, hb1.output, hb1.size, fun i hi => hb1.block i (by have := HB.out.2.2.2.2; show i < X.heap.size; omega)⟩
    have Y0 : w1.cell? ⟨w.heap.size + 1, 0, none⟩ = some (.slice (some ⟨b, off, none⟩) 2 c) := (hbX.cell (p := ⟨w.heap.size + 1, 0, none⟩) (by show w.heap.size + 1 < _; omega)).trans y0
    have J0 : w1.cell? ⟨b, off, none⟩ = some (.int .i64 a) := (hbX.cell (p := ⟨b, off, none⟩) (by show b < _; omega)).trans j0
    have HB1 : Hid (Below w.heap.size w w1) := (below_drewN HB.out.1 nq).trans (hb1.mono (below_drewN HB.out.1 nq).size)
    clear hbX hb1 x0 x3 y0 z1 z2 j0 j1
    go_wp2_with (go_at_call 79; refine (HW.out _).mono ?_; rintro e w' ⟨rfl, rfl⟩)
    go_ret
    exact ⟨ret_int (by rw [HS.out]; rfl), HB1.out⟩

set_option maxRecDepth 100000 in
set_option maxHeartbeats 8000000 in
theorem sort_9 (n d : Int) (nm : ByteArray) (K : Option Addr) (kn kc : Nat) (A : Option Addr) (na c : Nat) (ks : List Int) (dn : ByteArray) (A3 : Option Addr) (n3 c3 : Nat) (ds : Int) (ar : List Int) (w : World) (hks : IntsB w w.heap.size A na ks) (hna : na ≤ 8) (har : IntsB w w.heap.size A3 n3 ar) (hn3 : n3 ≤ 9223372036854775807) :
    Calls Try.prog 62 #[.agg #[.int .i64 9, .slice K kn kc, .int .i64 n, .int .i64 d, .string nm], .slice A na c, .agg #[.string dn, .slice A3 n3 c3, .int .i64 ds]] w fun e w' => e = .returned (.int .i64 (sortF 9 d ks ar ds)) ∧ Below w.heap.size w w' := by
  have egi : ∀ args w, (callFunc 86 args).run Try.prog w = .ok (.enter 86 args) w := enters_of Try.func86 (by kernel_rfl) rfl
  have hl := hks.len
  have hs : ∀ r : Bool, decide (ks = ar) = r → sortF 9 d ks ar ds = if r then ds else 0 := fun r hr => by subst hr; simp [sortF]
  have hki : ∀ W : World, Below w.heap.size w W → W.cell? ⟨w.heap.size + 1, 0, none⟩ = some (.slice A na c) → Calls Try.prog 86 #[.slice A3 n3 c3, .pointer (some ⟨w.heap.size + 1, 0, none⟩)] W (DrewP (.bool (decide (ks = ar))) W) := fun W hW hc =>
    isSame_any A A3 na c n3 c3 ks ar _ (fun b => b < W.heap.size) (fun b => b < W.heap.size) (w.heap.size + 1) W hc (hks.below stays_int hW hW.size) (har.below stays_int hW hW.size) (by omega) hn3 rfl
  have h2 := two_or ks
  rw [hl] at h2
  have hq : ∃ r : Bool, decide (ks = ar) = r := ⟨_, rfl⟩
  obtain ⟨r, hr⟩ := hq
  have HS := Lib.hid (hs _ hr)
  rw [hr] at hki
  have HC := Lib.hid hki
  clear hs hki hr har hn3
  rcases h2 with ⟨a, a2, rfl⟩ | h2
  · obtain rfl : 2 = na := hl
    obtain ⟨b, off, rfl, hb, k0, k1⟩ := ints_two hks
    clear hna
    cases r
    all_goals
      obtain ⟨hb0, hn0, hk0, hd0, hs0⟩ := three_boxes w #[.int .i64 9, .slice K kn kc, .int .i64 n, .int .i64 d, .string nm] #[.slice (some ⟨b, off, none⟩) 2 c] #[.string dn, .slice A3 n3 c3, .int .i64 ds]
      have x0 : (((w.alloc (.cells #[.int .i64 9, .slice K kn kc, .int .i64 n, .int .i64 d, .string nm] 65)).alloc (.cells #[.slice (some ⟨b, off, none⟩) 2 c] 22)).alloc (.cells #[.string dn, .slice A3 n3 c3, .int .i64 ds] 83)).cell? ⟨w.heap.size, 0, none⟩ = some (.int .i64 9) := hn0.cell 0
      have x3 : (((w.alloc (.cells #[.int .i64 9, .slice K kn kc, .int .i64 n, .int .i64 d, .string nm] 65)).alloc (.cells #[.slice (some ⟨b, off, none⟩) 2 c] 22)).alloc (.cells #[.string dn, .slice A3 n3 c3, .int .i64 ds] 83)).cell? ⟨w.heap.size, 3, none⟩ = some (.int .i64 d) := hn0.cell 3
      have y0 : (((w.alloc (.cells #[.int .i64 9, .slice K kn kc, .int .i64 n, .int .i64 d, .string nm] 65)).alloc (.cells #[.slice (some ⟨b, off, none⟩) 2 c] 22)).alloc (.cells #[.string dn, .slice A3 n3 c3, .int .i64 ds] 83)).cell? ⟨w.heap.size + 1, 0, none⟩ = some (.slice (some ⟨b, off, none⟩) 2 c) := hk0.cell 0
      have z1 : (((w.alloc (.cells #[.int .i64 9, .slice K kn kc, .int .i64 n, .int .i64 d, .string nm] 65)).alloc (.cells #[.slice (some ⟨b, off, none⟩) 2 c] 22)).alloc (.cells #[.string dn, .slice A3 n3 c3, .int .i64 ds] 83)).cell? ⟨w.heap.size + 2, 1, none⟩ = some (.slice A3 n3 c3) := hd0.cell 1
      have z2 : (((w.alloc (.cells #[.int .i64 9, .slice K kn kc, .int .i64 n, .int .i64 d, .string nm] 65)).alloc (.cells #[.slice (some ⟨b, off, none⟩) 2 c] 22)).alloc (.cells #[.string dn, .slice A3 n3 c3, .int .i64 ds] 83)).cell? ⟨w.heap.size + 2, 2, none⟩ = some (.int .i64 ds) := hd0.cell 2
      have j0 : (((w.alloc (.cells #[.int .i64 9, .slice K kn kc, .int .i64 n, .int .i64 d, .string nm] 65)).alloc (.cells #[.slice (some ⟨b, off, none⟩) 2 c] 22)).alloc (.cells #[.string dn, .slice A3 n3 c3, .int .i64 ds] 83)).cell? ⟨b, off, none⟩ = some (.int .i64 a) := (hb0.cell (p := ⟨b, off, none⟩) hb).trans k0
      have j1 : (((w.alloc (.cells #[.int .i64 9, .slice K kn kc, .int .i64 n, .int .i64 d, .string nm] 65)).alloc (.cells #[.slice (some ⟨b, off, none⟩) 2 c] 22)).alloc (.cells #[.string dn, .slice A3 n3 c3, .int .i64 ds] 83)).cell? ⟨b, off + 1, none⟩ = some (.int .i64 a2) := (hb0.cell (p := ⟨b, off + 1, none⟩) hb).trans k1
      clear hks k0 k1
      have HB := Lib.hid (And.intro hb0 (And.intro hn0 (And.intro hk0 (And.intro hd0 hs0))))
      clear hb0 hn0 hk0 hd0 hs0
      go_enter Try.func62, Try.ntmps62
      go_wp2_with fail
      generalize (((w.alloc (.cells #[.int .i64 9, .slice K kn kc, .int .i64 n, .int .i64 d, .string nm] 65)).alloc (.cells #[.slice (some ⟨b, off, none⟩) 2 c] 22)).alloc (.cells #[.string dn, .slice A3 n3 c3, .int .i64 ds] 83)) = X at x0 x3 y0 z1 z2 j0 j1 HB ⊢
      go_quiet (fail)
      go_wp2_with fail
      go_quiet ((go_at_fn 86; exact quiet_drew2 (HC.out _ (below_drewN HB.out.1 _) y0)))
      go_wp2_with fail
      go_ret
      exact ⟨ret_int (by rw [HS.out]; rfl), (by first | exact HB.out.1 | exact below_drewN HB.out.1 _ | exact below_drewN (below_drewN HB.out.1 _) _)⟩
  · clear hks hl
    cases r
    all_goals
      obtain ⟨hb0, hn0, hk0, hd0, hs0⟩ := three_boxes w #[.int .i64 9, .slice K kn kc, .int .i64 n, .int .i64 d, .string nm] #[.slice A na c] #[.string dn, .slice A3 n3 c3, .int .i64 ds]
      have x0 : (((w.alloc (.cells #[.int .i64 9, .slice K kn kc, .int .i64 n, .int .i64 d, .string nm] 65)).alloc (.cells #[.slice A na c] 22)).alloc (.cells #[.string dn, .slice A3 n3 c3, .int .i64 ds] 83)).cell? ⟨w.heap.size, 0, none⟩ = some (.int .i64 9) := hn0.cell 0
      have x3 : (((w.alloc (.cells #[.int .i64 9, .slice K kn kc, .int .i64 n, .int .i64 d, .string nm] 65)).alloc (.cells #[.slice A na c] 22)).alloc (.cells #[.string dn, .slice A3 n3 c3, .int .i64 ds] 83)).cell? ⟨w.heap.size, 3, none⟩ = some (.int .i64 d) := hn0.cell 3
      have y0 : (((w.alloc (.cells #[.int .i64 9, .slice K kn kc, .int .i64 n, .int .i64 d, .string nm] 65)).alloc (.cells #[.slice A na c] 22)).alloc (.cells #[.string dn, .slice A3 n3 c3, .int .i64 ds] 83)).cell? ⟨w.heap.size + 1, 0, none⟩ = some (.slice A na c) := hk0.cell 0
      have z1 : (((w.alloc (.cells #[.int .i64 9, .slice K kn kc, .int .i64 n, .int .i64 d, .string nm] 65)).alloc (.cells #[.slice A na c] 22)).alloc (.cells #[.string dn, .slice A3 n3 c3, .int .i64 ds] 83)).cell? ⟨w.heap.size + 2, 1, none⟩ = some (.slice A3 n3 c3) := hd0.cell 1
      have z2 : (((w.alloc (.cells #[.int .i64 9, .slice K kn kc, .int .i64 n, .int .i64 d, .string nm] 65)).alloc (.cells #[.slice A na c] 22)).alloc (.cells #[.string dn, .slice A3 n3 c3, .int .i64 ds] 83)).cell? ⟨w.heap.size + 2, 2, none⟩ = some (.int .i64 ds) := hd0.cell 2
      have HB := Lib.hid (And.intro hb0 (And.intro hn0 (And.intro hk0 (And.intro hd0 hs0))))
      clear hb0 hn0 hk0 hd0 hs0
      go_enter Try.func62, Try.ntmps62
      go_wp2_with fail
      generalize (((w.alloc (.cells #[.int .i64 9, .slice K kn kc, .int .i64 n, .int .i64 d, .string nm] 65)).alloc (.cells #[.slice A na c] 22)).alloc (.cells #[.string dn, .slice A3 n3 c3, .int .i64 ds] 83)) = X at x0 x3 y0 z1 z2 HB ⊢
      go_quiet (fail)
      go_wp2_with fail
      go_quiet ((go_at_fn 86; exact quiet_drew2 (HC.out _ (below_drewN HB.out.1 _) y0)))
      go_wp2_with fail
      go_ret
      exact ⟨ret_int (by rw [HS.out]; rfl), (by first | exact HB.out.1 | exact below_drewN HB.out.1 _ | exact below_drewN (below_drewN HB.out.1 _) _)⟩

set_option maxRecDepth 100000 in
set_option maxHeartbeats 8000000 in
theorem sort_25 (a a2 a3 : Int) (n d : Int) (nm : ByteArray) (K : Option Addr) (kn kc : Nat) (A : Option Addr) (c : Nat) (dn : ByteArray) (A3 : Option Addr) (n3 c3 : Nat) (ds : Int) (ar : List Int) (w : World) (hks : IntsB w w.heap.size A 3 [a, a2, a3]) :
    Calls Try.prog 62 #[.agg #[.int .i64 25, .slice K kn kc, .int .i64 n, .int .i64 d, .string nm], .slice A 3 c, .agg #[.string dn, .slice A3 n3 c3, .int .i64 ds]] w fun e w' => e = .returned (.int .i64 (sortF 25 d [a, a2, a3] ar ds)) ∧ Below w.heap.size w w' := by
  have egi : ∀ args w, (callFunc 86 args).run Try.prog w = .ok (.enter 86 args) w := enters_of Try.func86 (by kernel_rfl) rfl
  have hs : ∀ r : Bool, decide ([a, a2, a3] = [5, 4, 4]) = r → sortF 25 d [a, a2, a3] ar ds = if r then 5 else 0 := fun r hr => by subst hr; simp [sortF]
  have hki : ∀ (W : World) (g : Nat), Below w.heap.size w W → W.cell? ⟨w.heap.size + 1, 0, none⟩ = some (.slice A 3 c) → Blk W g 3 #[.int .i64 5, .int .i64 4, .int .i64 4] → Calls Try.prog 86 #[.slice (some ⟨g, 0, none⟩) 3 3, .pointer (some ⟨w.heap.size + 1, 0, none⟩)] W (DrewP (.bool (decide ([a, a2, a3] = [5, 4, 4]))) W) := fun W g hW hc hg =>
    isSame_any A (some ⟨g, 0, none⟩) 3 c 3 3 [a, a2, a3] [5, 4, 4] _ (fun b => b < W.heap.size) (fun b => b < W.heap.size) (w.heap.size + 1) W hc (hks.below stays_int hW hW.size) ⟨rfl, fun i x hx => ⟨g, 0, rfl, hg.lt, by
      rw [Nat.zero_add, Nat.mul_one]
      refine ⟨(hg.cell i).trans ?_, ?_⟩
      · match i, hx with
        | 0, hx => simp at hx; subst hx; rfl
        | 1, hx => simp at hx; subst hx; rfl
        | 2, hx => simp at hx; subst hx; rfl
      · have : x ∈ [5, 4, 4] := List.mem_of_getElem? hx
        simp at this
        unfold I64
        omega⟩⟩ (by omega) (by omega) rfl
  cases hr : decide ([a, a2, a3] = [5, 4, 4])
  all_goals
    have HS := Lib.hid (hs _ hr)
    rw [hr] at hki
    have HC := Lib.hid hki
    clear hs hki hr
    obtain ⟨b, off, rfl, hb, k0, k1, k2⟩ := ints_three hks
    obtain ⟨hb0, hn0, hk0, hd0, hs0⟩ := three_boxes w #[.int .i64 25, .slice K kn kc, .int .i64 n, .int .i64 d, .string nm] #[.slice (some ⟨b, off, none⟩) 3 c] #[.string dn, .slice A3 n3 c3, .int .i64 ds]
    have x0 : (((w.alloc (.cells #[.int .i64 25, .slice K kn kc, .int .i64 n, .int .i64 d, .string nm] 65)).alloc (.cells #[.slice (some ⟨b, off, none⟩) 3 c] 22)).alloc (.cells #[.string dn, .slice A3 n3 c3, .int .i64 ds] 83)).cell? ⟨w.heap.size, 0, none⟩ = some (.int .i64 25) := hn0.cell 0
    have x3 : (((w.alloc (.cells #[.int .i64 25, .slice K kn kc, .int .i64 n, .int .i64 d, .string nm] 65)).alloc (.cells #[.slice (some ⟨b, off, none⟩) 3 c] 22)).alloc (.cells #[.string dn, .slice A3 n3 c3, .int .i64 ds] 83)).cell? ⟨w.heap.size, 3, none⟩ = some (.int .i64 d) := hn0.cell 3
    have y0 : (((w.alloc (.cells #[.int .i64 25, .slice K kn kc, .int .i64 n, .int .i64 d, .string nm] 65)).alloc (.cells #[.slice (some ⟨b, off, none⟩) 3 c] 22)).alloc (.cells #[.string dn, .slice A3 n3 c3, .int .i64 ds] 83)).cell? ⟨w.heap.size + 1, 0, none⟩ = some (.slice (some ⟨b, off, none⟩) 3 c) := hk0.cell 0
    have z1 : (((w.alloc (.cells #[.int .i64 25, .slice K kn kc, .int .i64 n, .int .i64 d, .string nm] 65)).alloc (.cells #[.slice (some ⟨b, off, none⟩) 3 c] 22)).alloc (.cells #[.string dn, .slice A3 n3 c3, .int .i64 ds] 83)).cell? ⟨w.heap.size + 2, 1, none⟩ = some (.slice A3 n3 c3) := hd0.cell 1
    have z2 : (((w.alloc (.cells #[.int .i64 25, .slice K kn kc, .int .i64 n, .int .i64 d, .string nm] 65)).alloc (.cells #[.slice (some ⟨b, off, none⟩) 3 c] 22)).alloc (.cells #[.string dn, .slice A3 n3 c3, .int .i64 ds] 83)).cell? ⟨w.heap.size + 2, 2, none⟩ = some (.int .i64 ds) := hd0.cell 2
    have j0 : (((w.alloc (.cells #[.int .i64 25, .slice K kn kc, .int .i64 n, .int .i64 d, .string nm] 65)).alloc (.cells #[.slice (some ⟨b, off, none⟩) 3 c] 22)).alloc (.cells #[.string dn, .slice A3 n3 c3, .int .i64 ds] 83)).cell? ⟨b, off, none⟩ = some (.int .i64 a) := (hb0.cell (p := ⟨b, off, none⟩) hb).trans k0
    have j1 : (((w.alloc (.cells #[.int .i64 25, .slice K kn kc, .int .i64 n, .int .i64 d, .string nm] 65)).alloc (.cells #[.slice (some ⟨b, off, none⟩) 3 c] 22)).alloc (.cells #[.string dn, .slice A3 n3 c3, .int .i64 ds] 83)).cell? ⟨b, off + 1, none⟩ = some (.int .i64 a2) := (hb0.cell (p := ⟨b, off + 1, none⟩) hb).trans k1
    have j2 : (((w.alloc (.cells #[.int .i64 25, .slice K kn kc, .int .i64 n, .int .i64 d, .string nm] 65)).alloc (.cells #[.slice (some ⟨b, off, none⟩) 3 c] 22)).alloc (.cells #[.string dn, .slice A3 n3 c3, .int .i64 ds] 83)).cell? ⟨b, off + 2, none⟩ = some (.int .i64 a3) := (hb0.cell (p := ⟨b, off + 2, none⟩) hb).trans k2
    clear hks k0 k1 k2
    have HB := Lib.hid (And.intro hb0 (And.intro hn0 (And.intro hk0 (And.intro hd0 hs0))))
    clear hb0 hn0 hk0 hd0 hs0
    go_enter Try.func62, Try.ntmps62
    go_wp2_with fail
    generalize (((w.alloc (.cells #[.int .i64 25, .slice K kn kc, .int .i64 n, .int .i64 d, .string nm] 65)).alloc (.cells #[.slice (some ⟨b, off, none⟩) 3 c] 22)).alloc (.cells #[.string dn, .slice A3 n3 c3, .int .i64 ds] 83)) = X at x0 x3 y0 z1 z2 j0 j1 j2 HB ⊢
    go_quiet (fail)
    go_wp2_with fail
    have hbn : Below (w.heap.size + 3) X ((X.drewN nq).alloc (.cells #[.int .i64 5, .int .i64 4, .int .i64 4] 3)) := (below_drewN (Below.refl _ _) nq).alloc (by have := HB.out.2.2.2.2; simp; omega) _
    have hbw : Below w.heap.size w ((X.drewN nq).alloc (.cells #[.int .i64 5, .int .i64 4, .int .i64 4] 3)) := HB.out.1.trans (hbn.mono (by omega))
    have hblk : Blk ((X.drewN nq).alloc (.cells #[.int .i64 5, .int .i64 4, .int .i64 4] 3)) X.heap.size 3 #[.int .i64 5, .int .i64 4, .int .i64 4] := Blk.new (X.drewN nq) 3 #[.int .i64 5, .int .i64 4, .int .i64 4]
    refine (HC.out _ X.heap.size hbw ((hbn.cell (p := ⟨w.heap.size + 1, 0, none⟩) (by show w.heap.size + 1 < _; omega)).trans y0) hblk).mono ?_
    rintro e w1 ⟨rfl, m, rfl⟩
    have HB1 : Hid (Below w.heap.size w (((X.drewN nq).alloc (.cells #[.int .i64 5, .int .i64 4, .int .i64 4] 3)).drewN m)) := below_drewN hbw m
    clear hbn hbw hblk
    go_wp2_with fail
    go_ret
    exact ⟨ret_int (by rw [HS.out]; rfl), HB1.out⟩

set_option maxRecDepth 100000 in
set_option maxHeartbeats 8000000 in
theorem sort_24 (a a2 : Int) (n d : Int) (nm : ByteArray) (K : Option Addr) (kn kc : Nat) (A : Option Addr) (c : Nat) (dn : ByteArray) (A3 : Option Addr) (n3 c3 : Nat) (ds : Int) (ar : List Int) (w : World) (hks : IntsB w w.heap.size A 2 [a, a2]) :
    Calls Try.prog 62 #[.agg #[.int .i64 24, .slice K kn kc, .int .i64 n, .int .i64 d, .string nm], .slice A 2 c, .agg #[.string dn, .slice A3 n3 c3, .int .i64 ds]] w fun e w' => e = .returned (.int .i64 (sortF 24 d [a, a2] ar ds)) ∧ Below w.heap.size w w' := by
  have egi : ∀ args w, (callFunc 86 args).run Try.prog w = .ok (.enter 86 args) w := enters_of Try.func86 (by kernel_rfl) rfl
  have hs : ∀ r : Bool, decide ([a, a2] = [5, 4]) = r → sortF 24 d [a, a2] ar ds = if r then 4 else 0 := fun r hr => by subst hr; simp [sortF]
  have hki : ∀ (W : World) (g : Nat), Below w.heap.size w W → W.cell? ⟨w.heap.size + 1, 0, none⟩ = some (.slice A 2 c) → Blk W g 3 #[.int .i64 5, .int .i64 4] → Calls Try.prog 86 #[.slice (some ⟨g, 0, none⟩) 2 2, .pointer (some ⟨w.heap.size + 1, 0, none⟩)] W (DrewP (.bool (decide ([a, a2] = [5, 4]))) W) := fun W g hW hc hg =>
    isSame_any A (some ⟨g, 0, none⟩) 2 c 2 2 [a, a2] [5, 4] _ (fun b => b < W.heap.size) (fun b => b < W.heap.size) (w.heap.size + 1) W hc (hks.below stays_int hW hW.size) ⟨rfl, fun i x hx => ⟨g, 0, rfl, hg.lt, by
      rw [Nat.zero_add, Nat.mul_one]
      refine ⟨(hg.cell i).trans ?_, ?_⟩
      · match i, hx with
        | 0, hx => simp at hx; subst hx; rfl
        | 1, hx => simp at hx; subst hx; rfl
      · have : x ∈ [5, 4] := List.mem_of_getElem? hx
        simp at this
        unfold I64
        omega⟩⟩ (by omega) (by omega) rfl
  cases hr : decide ([a, a2] = [5, 4])
  all_goals
    have HS := Lib.hid (hs _ hr)
    rw [hr] at hki
    have HC := Lib.hid hki
    clear hs hki hr
    obtain ⟨b, off, rfl, hb, k0, k1⟩ := ints_two hks
    obtain ⟨hb0, hn0, hk0, hd0, hs0⟩ := three_boxes w #[.int .i64 24, .slice K kn kc, .int .i64 n, .int .i64 d, .string nm] #[.slice (some ⟨b, off, none⟩) 2 c] #[.string dn, .slice A3 n3 c3, .int .i64 ds]
    have x0 : (((w.alloc (.cells #[.int .i64 24, .slice K kn kc, .int .i64 n, .int .i64 d, .string nm] 65)).alloc (.cells #[.slice (some ⟨b, off, none⟩) 2 c] 22)).alloc (.cells #[.string dn, .slice A3 n3 c3, .int .i64 ds] 83)).cell? ⟨w.heap.size, 0, none⟩ = some (.int .i64 24) := hn0.cell 0
    have x3 : (((w.alloc (.cells #[.int .i64 24, .slice K kn kc, .int .i64 n, .int .i64 d, .string nm] 65)).alloc (.cells #[.slice (some ⟨b, off, none⟩) 2 c] 22)).alloc (.cells #[.string dn, .slice A3 n3 c3, .int .i64 ds] 83)).cell? ⟨w.heap.size, 3, none⟩ = some (.int .i64 d) := hn0.cell 3
    have y0 : (((w.alloc (.cells #[.int .i64 24, .slice K kn kc, .int .i64 n, .int .i64 d, .string nm] 65)).alloc (.cells #[.slice (some ⟨b, off, none⟩) 2 c] 22)).alloc (.cells #[.string dn, .slice A3 n3 c3, .int .i64 ds] 83)).cell? ⟨w.heap.size + 1, 0, none⟩ = some (.slice (some ⟨b, off, none⟩) 2 c) := hk0.cell 0
    have z1 : (((w.alloc (.cells #[.int .i64 24, .slice K kn kc, .int .i64 n, .int .i64 d, .string nm] 65)).alloc (.cells #[.slice (some ⟨b, off, none⟩) 2 c] 22)).alloc (.cells #[.string dn, .slice A3 n3 c3, .int .i64 ds] 83)).cell? ⟨w.heap.size + 2, 1, none⟩ = some (.slice A3 n3 c3) := hd0.cell 1
    have z2 : (((w.alloc (.cells #[.int .i64 24, .slice K kn kc, .int .i64 n, .int .i64 d, .string nm] 65)).alloc (.cells #[.slice (some ⟨b, off, none⟩) 2 c] 22)).alloc (.cells #[.string dn, .slice A3 n3 c3, .int .i64 ds] 83)).cell? ⟨w.heap.size + 2, 2, none⟩ = some (.int .i64 ds) := hd0.cell 2
    have j0 : (((w.alloc (.cells #[.int .i64 24, .slice K kn kc, .int .i64 n, .int .i64 d, .string nm] 65)).alloc (.cells #[.slice (some ⟨b, off, none⟩) 2 c] 22)).alloc (.cells #[.string dn, .slice A3 n3 c3, .int .i64 ds] 83)).cell? ⟨b, off, none⟩ = some (.int .i64 a) := (hb0.cell (p := ⟨b, off, none⟩) hb).trans k0
    have j1 : (((w.alloc (.cells #[.int .i64 24, .slice K kn kc, .int .i64 n, .int .i64 d, .string nm] 65)).alloc (.cells #[.slice (some ⟨b, off, none⟩) 2 c] 22)).alloc (.cells #[.string dn, .slice A3 n3 c3, .int .i64 ds] 83)).cell? ⟨b, off + 1, none⟩ = some (.int .i64 a2) := (hb0.cell (p := ⟨b, off + 1, none⟩) hb).trans k1
    clear hks k0 k1
    have HB := Lib.hid (And.intro hb0 (And.intro hn0 (And.intro hk0 (And.intro hd0 hs0))))
    clear hb0 hn0 hk0 hd0 hs0
    go_enter Try.func62, Try.ntmps62
    go_wp2_with fail
    generalize (((w.alloc (.cells #[.int .i64 24, .slice K kn kc, .int .i64 n, .int .i64 d, .string nm] 65)).alloc (.cells #[.slice (some ⟨b, off, none⟩) 2 c] 22)).alloc (.cells #[.string dn, .slice A3 n3 c3, .int .i64 ds] 83)) = X at x0 x3 y0 z1 z2 j0 j1 HB ⊢
    go_quiet (fail)
    go_wp2_with fail
    have hbn : Below (w.heap.size + 3) X ((X.drewN nq).alloc (.cells #[.int .i64 5, .int .i64 4] 3)) := (below_drewN (Below.refl _ _) nq).alloc (by have := HB.out.2.2.2.2; simp; omega) _
    have hbw : Below w.heap.size w ((X.drewN nq).alloc (.cells #[.int .i64 5, .int .i64 4] 3)) := HB.out.1.trans (hbn.mono (by omega))
    have hblk : Blk ((X.drewN nq).alloc (.cells #[.int .i64 5, .int .i64 4] 3)) X.heap.size 3 #[.int .i64 5, .int .i64 4] := Blk.new (X.drewN nq) 3 #[.int .i64 5, .int .i64 4]
    refine (HC.out _ X.heap.size hbw ((hbn.cell (p := ⟨w.heap.size + 1, 0, none⟩) (by show w.heap.size + 1 < _; omega)).trans y0) hblk).mono ?_
    rintro e w1 ⟨rfl, m, rfl⟩
    have HB1 : Hid (Below w.heap.size w (((X.drewN nq).alloc (.cells #[.int .i64 5, .int .i64 4] 3)).drewN m)) := below_drewN hbw m
    clear hbn hbw hblk
    go_wp2_with fail
    go_ret
    exact ⟨ret_int (by rw [HS.out]; rfl), HB1.out⟩

end Go.Proofs.Ytggkfepifnfdoaa
