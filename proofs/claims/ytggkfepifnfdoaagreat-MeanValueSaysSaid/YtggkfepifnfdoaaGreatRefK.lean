/- Walks: the comparison of values, at two rows that read as the same list. -/
import Derived.Test.YtggkfepifnfdoaaGreatRefJ
import Derived.Test.YtggkfepifnfdoaaGreatValV
import Derived.Deep.QuietTactic
import Derived.BigQuiet
namespace Go.Proofs.YtggkfepifnfdoaaGreat
open Go.RowKit

def YesV (w : World) (e : Ending) (w' : World) : Prop := e = .returned (.bool true) ∧ Below w.heap.size w w'

set_option maxRecDepth 100000 in
set_option maxHeartbeats 2000000 in
theorem sameValue_any (un ud ur : Int) (A A' : Option Addr) (n c c' : Nat) (xs : List CellD) (w : World) (h : ArrB AtCell 2 w w.heap.size A n xs) (h' : ArrB AtCell 2 w w.heap.size A' n xs) (hn : n ≤ 9223372036854775807) :
    Calls Tryz.prog 18 #[.agg #[.int .i64 un, .int .i64 ud, .slice A n c, .int .i64 ur], .agg #[.int .i64 un, .int .i64 ud, .slice A' n c', .int .i64 ur]] w (YesV w) := by
  obtain ⟨hb0, hk0, hm0, hs0⟩ := two_boxes w 48 48 #[.int .i64 un, .int .i64 ud, .slice A n c, .int .i64 ur] #[.int .i64 un, .int .i64 ud, .slice A' n c', .int .i64 ur]
  obtain ⟨X, hX⟩ : ∃ X, (w.alloc (.cells #[.int .i64 un, .int .i64 ud, .slice A n c, .int .i64 ur] 48)).alloc (.cells #[.int .i64 un, .int .i64 ud, .slice A' n c', .int .i64 ur] 48) = X := ⟨_, rfl⟩
  rw [hX] at hb0 hk0 hm0 hs0
  have hMK : ∀ W, Below X.heap.size X W → Below w.heap.size w W ∧ Blk W w.heap.size 48 #[.int .i64 un, .int .i64 ud, .slice A n c, .int .i64 ur] ∧ Blk W (w.heap.size + 1) 48 #[.int .i64 un, .int .i64 ud, .slice A' n c', .int .i64 ur] := fun W hW =>
    ⟨hb0.trans (hW.mono hb0.size), hk0.below hW hk0.lt, hm0.below hW hm0.lt⟩
  have MK := Lib.hid hMK
  have HX := Lib.hid hX
  have HA := Lib.hid (And.intro h h')
  have x0 : X.cell? ⟨w.heap.size, 0, none⟩ = some (.int .i64 un) := hk0.cell 0
  have x1 : X.cell? ⟨w.heap.size, 1, none⟩ = some (.int .i64 ud) := hk0.cell 1
  have x2 : X.cell? ⟨w.heap.size, 2, none⟩ = some (.slice A n c) := hk0.cell 2
  have x3 : X.cell? ⟨w.heap.size, 3, none⟩ = some (.int .i64 ur) := hk0.cell 3
  have y0 : X.cell? ⟨w.heap.size + 1, 0, none⟩ = some (.int .i64 un) := hm0.cell 0
  have y1 : X.cell? ⟨w.heap.size + 1, 1, none⟩ = some (.int .i64 ud) := hm0.cell 1
  have y2 : X.cell? ⟨w.heap.size + 1, 2, none⟩ = some (.slice A' n c') := hm0.cell 2
  have y3 : X.cell? ⟨w.heap.size + 1, 3, none⟩ = some (.int .i64 ur) := hm0.cell 3
  have hz : w.heap.size + 1 < X.heap.size := hm0.lt
  clear hX hb0 hk0 hm0 hs0 hMK h h'
  go_enter Tryz.func18, Tryz.ntmps18
  go_upto_region 1 with fail
  rw [HX.out]
  go_wp2_with fail
  clear x0 x1 x2 x3 y0 y1 y2 y3 hz
  go_loopw [5] (fun s5 wr => ∃ k : Nat, k ≤ n ∧ s5 = .int .i64 k ∧ Below X.heap.size X wr) (fun s5 _ => n - (intOf s5).toNat)
  case atStart => exact ⟨0, Nat.zero_le _, rfl, Below.refl _ _⟩
  case round =>
    obtain ⟨k, hk, rfl, hbel⟩ := hrel
    obtain ⟨hbw, hk1, hm1⟩ := MK.out wr hbel
    have x2 : wr.cell? ⟨w.heap.size, 2, none⟩ = some (.slice A n c) := hk1.cell 2
    have y2 : wr.cell? ⟨w.heap.size + 1, 2, none⟩ = some (.slice A' n c') := hm1.cell 2
    have hz : w.heap.size + 1 < wr.heap.size := hm1.lt
    by_cases hlt : k < n
    · obtain ⟨b1, off1, hx, rfl, -, h0, h1, -, -⟩ := cells_get (HA.out.1.below stays_cell hbw (Nat.le_refl _)) hlt
      obtain ⟨b2, off2, hx', rfl, -, g0, g1, -, -⟩ := cells_get (HA.out.2.below stays_cell hbw (Nat.le_refl _)) hlt
      generalize xs[k] = y at h0 h1 g0 g1
      obtain ⟨ya, yi⟩ := y
      dsimp only at h0 h1 g0 g1
      have hkI : (k : Int) < (n : Int) := by omega
      have HB := Lib.hid hbel
      clear hx hx' hbel hbw hk1 hm1
      go_wp2_with fail
      go_quiet (fail)
      go_wp2_with fail
      go_roundw
      case rel => exact ⟨k + 1, by omega, by go_num, below_drewN HB.out _⟩
      case measure => simp [intOf]; omega
    · obtain rfl : n = k := by omega
      have HB := Lib.hid hbw
      clear hbel hbw hk1 hm1
      go_wp2_with fail
      go_ret
      exact ⟨rfl, HB.out⟩

set_option maxRecDepth 100000 in
set_option maxHeartbeats 4000000 in
theorem sameValues_any (A A' : Option Addr) (n c c' : Nat) (xs : List ValueD) (w : World) (h : ArrB AtValue 4 w w.heap.size A n xs) (h' : ArrB AtValue 4 w w.heap.size A' n xs) (hn : n ≤ 9223372036854775807) :
    Calls Tryz.prog 7 #[.slice A n c, .slice A' n c'] w (YesV w) := by
  have HA := Lib.hid (And.intro h h')
  clear h h'
  go_enter Tryz.func7, Tryz.ntmps7
  go_wp2_with fail
  go_loopw [5] (fun s5 wr => ∃ k : Nat, k ≤ n ∧ s5 = .int .i64 k ∧ Below w.heap.size w wr) (fun s5 _ => n - (intOf s5).toNat)
  case atStart => exact ⟨0, Nat.zero_le _, rfl, Below.refl _ _⟩
  case round =>
    obtain ⟨k, hk, rfl, hbel⟩ := hrel
    by_cases hlt : k < n
    · obtain ⟨b1, off1, hx, A7, n7, c7, rfl, hbb1, v0, v1, v2, v3, hcc, hcn, hcm, -, -, -⟩ := values_get (HA.out.1.below stays_value hbel (Nat.le_refl _)) hlt
      obtain ⟨b2, off2, hx', A8, n8, c8, rfl, hbb2, u0, u1, u2, u3, hcc2, -, -, -, -, -⟩ := values_get (HA.out.2.below stays_value hbel (Nat.le_refl _)) hlt
      have hlc := hcc.len
      have hlc2 := hcc2.len
      obtain rfl : n7 = n8 := by omega
      generalize xs[k] = y at v0 v1 v3 u0 u1 u3 hcc hcc2
      obtain ⟨yn, yd, yc, yr⟩ := y
      dsimp only at v0 v1 v3 u0 u1 u3 hcc hcc2
      have hkI : (k : Int) < (n : Int) := by omega
      have hb1 : b1 < wr.heap.size := Nat.lt_of_lt_of_le hbb1 hbel.size
      have hb2 : b2 < wr.heap.size := Nat.lt_of_lt_of_le hbb2 hbel.size
      have HC := Lib.hid (fun (W : World) (hW : Below wr.heap.size wr W) => sameValue_any yn yd yr A7 A8 n7 c7 c8 yc W (hcc.keep stays_cell (fun b hb => Nat.lt_of_lt_of_le hb (Nat.le_trans hbel.size hW.size)) (fun b o hb => hW.cell (p := ⟨b, o, none⟩) (Nat.lt_of_lt_of_le hb hbel.size))) (hcc2.keep stays_cell (fun b hb => Nat.lt_of_lt_of_le hb (Nat.le_trans hbel.size hW.size)) (fun b o hb => hW.cell (p := ⟨b, o, none⟩) (Nat.lt_of_lt_of_le hb hbel.size))) (by unfold maxLen at hcm; omega))
      have HB := Lib.hid hbel
      clear hx hx' hcc hcc2 hcn hcm hlc hlc2 hbel hbb1 hbb2
      go_upto_region 6 with fail
      go_region_held3 (fun w' => w'.cell? ⟨b1, off1 + k * 4, none⟩ = some (.int .i64 yn) ∧ w'.cell? ⟨b1, off1 + k * 4 + 1, none⟩ = some (.int .i64 yd) ∧ w'.cell? ⟨b1, off1 + k * 4 + 2, none⟩ = some (.slice A7 n7 c7) ∧ w'.cell? ⟨b1, off1 + k * 4 + 3, none⟩ = some (.int .i64 yr) ∧ w'.cell? ⟨b2, off2 + k * 4, none⟩ = some (.int .i64 yn) ∧ w'.cell? ⟨b2, off2 + k * 4 + 1, none⟩ = some (.int .i64 yd) ∧ w'.cell? ⟨b2, off2 + k * 4 + 2, none⟩ = some (.slice A8 n7 c8) ∧ w'.cell? ⟨b2, off2 + k * 4 + 3, none⟩ = some (.int .i64 yr))
        ((try dsimp only) <;> (repeat' apply And.intro) <;> go_keep)
        (first
          | (go_simp
             go_at_call 18
             refine (HC.out _ (by first | exact below_drewN (Below.refl _ _) 1)).mono ?_
             rintro e w5 ⟨rfl, hb5⟩
             have HB5 : Hid (Below wr.heap.size wr w5) := below_join (by first | exact below_drewN (Below.refl _ _) 1) hb5
             have r0 : w5.cell? ⟨b1, off1 + k * 4, none⟩ = some (.int .i64 yn) := by rw [HB5.out.cell (p := ⟨b1, off1 + k * 4, none⟩) hb1]; exact v0
             have r1 : w5.cell? ⟨b1, off1 + k * 4 + 1, none⟩ = some (.int .i64 yd) := by rw [HB5.out.cell (p := ⟨b1, off1 + k * 4 + 1, none⟩) hb1]; exact v1
             have r2 : w5.cell? ⟨b1, off1 + k * 4 + 2, none⟩ = some (.slice A7 n7 c7) := by rw [HB5.out.cell (p := ⟨b1, off1 + k * 4 + 2, none⟩) hb1]; exact v2
             have r3 : w5.cell? ⟨b1, off1 + k * 4 + 3, none⟩ = some (.int .i64 yr) := by rw [HB5.out.cell (p := ⟨b1, off1 + k * 4 + 3, none⟩) hb1]; exact v3
             have r4 : w5.cell? ⟨b2, off2 + k * 4, none⟩ = some (.int .i64 yn) := by rw [HB5.out.cell (p := ⟨b2, off2 + k * 4, none⟩) hb2]; exact u0
             have r5 : w5.cell? ⟨b2, off2 + k * 4 + 1, none⟩ = some (.int .i64 yd) := by rw [HB5.out.cell (p := ⟨b2, off2 + k * 4 + 1, none⟩) hb2]; exact u1
             have r6 : w5.cell? ⟨b2, off2 + k * 4 + 2, none⟩ = some (.slice A8 n7 c8) := by rw [HB5.out.cell (p := ⟨b2, off2 + k * 4 + 2, none⟩) hb2]; exact u2
             have r7 : w5.cell? ⟨b2, off2 + k * 4 + 3, none⟩ = some (.int .i64 yr) := by rw [HB5.out.cell (p := ⟨b2, off2 + k * 4 + 3, none⟩) hb2]; exact u3
             clear hb5)
          | fail)
      all_goals
        clear v0 v1 v2 v3 u0 u1 u2 u3 r0 r1 r2 r3 r4 r5 r6 r7
        go_wp2_with fail
        go_roundw
        case rel => exact ⟨k + 1, by omega, by go_num, HB.out.trans (HB5.out.mono HB.out.size)⟩
        case measure => simp [intOf]; omega
    · obtain rfl : n = k := by omega
      go_wp2_with fail
      go_ret
      exact ⟨rfl, hbel⟩

set_option maxRecDepth 100000 in
set_option maxHeartbeats 4000000 in
theorem meanValueSays_any (A1 A2 A3 : Option Addr) (n1 c1 n2 c2 n3 c3 : Nat) (a : AskD) (AM : Option Addr) (nm cm : Nat) (ms : List MeaningD) (w : World) (ha : AskIn w w.heap.size A1 A2 A3 n1 n2 n3 a) (hc1 : n1 ≤ c1) (hms : ArrB AtMeaning 5 w w.heap.size AM nm ms) :
    Calls Tryz.prog 3 #[.agg #[.slice A1 n1 c1, .slice A2 n2 c2, .slice A3 n3 c3], .agg #[.slice AM nm cm]] w fun e w' => e = .returned (.bool true) ∧ Below w.heap.size w w' := by
  obtain ⟨hb0, hk0, hm0, hs0⟩ := two_boxes w 26 29 #[.slice A1 n1 c1, .slice A2 n2 c2, .slice A3 n3 c3] #[.slice AM nm cm]
  obtain ⟨X, hX⟩ : ∃ X, (w.alloc (.cells #[.slice A1 n1 c1, .slice A2 n2 c2, .slice A3 n3 c3] 26)).alloc (.cells #[.slice AM nm cm] 29) = X := ⟨_, rfl⟩
  rw [hX] at hb0 hk0 hm0 hs0
  obtain ⟨vs, qc, qa, hr⟩ : ∃ vs qc qa, meanValF a ms = (vs, qc, qa) := ⟨_, _, _, rfl⟩
  have HV : Hid (∀ W, Below w.heap.size w W → Calls Tryz.prog 5 #[.agg #[.slice A1 n1 c1, .slice A2 n2 c2, .slice A3 n3 c3], .agg #[.slice AM nm cm]] W (ValuesP W (vs, qc, qa))) := fun W hW => by
    have := values_any A1 A2 A3 n1 c1 n2 c2 n3 c3 a AM nm cm ms W (ha.below hW hW.size) hc1 (ArrB.below hms stays_meaning hW hW.size)
    rwa [hr] at this
  have HR : Hid (∀ W, Below w.heap.size w W → Calls Tryz.prog 6 #[.agg #[.slice A1 n1 c1, .slice A2 n2 c2, .slice A3 n3 c3], .agg #[.slice AM nm cm]] W (ValuesP W (vs, qc, qa))) := fun W hW => by
    have := refValues_any A1 A2 A3 n1 c1 n2 c2 n3 c3 a AM nm cm ms W (ha.below hW hW.size) hc1 (ArrB.below hms stays_meaning hW hW.size)
    rwa [hr] at this
  have HX := Lib.hid hX
  have HK := Lib.hid (And.intro hb0 (And.intro hk0 hm0))
  have x0 : X.cell? ⟨w.heap.size, 0, none⟩ = some (.slice A1 n1 c1) := hk0.cell 0
  have x1 : X.cell? ⟨w.heap.size, 1, none⟩ = some (.slice A2 n2 c2) := hk0.cell 1
  have x2 : X.cell? ⟨w.heap.size, 2, none⟩ = some (.slice A3 n3 c3) := hk0.cell 2
  have x3 : X.cell? ⟨w.heap.size + 1, 0, none⟩ = some (.slice AM nm cm) := hm0.cell 0
  have hz : w.heap.size + 1 < X.heap.size := hm0.lt
  clear hX hb0 hk0 hm0 hs0 ha hc1 hms hr
  go_enter Tryz.func3, Tryz.ntmps3
  go_wp2_with fail
  rw [HX.out]
  refine (HV.out X HK.out.1).mono ?_
  rintro e w3 ⟨B1, d1, rfl, hb3, h31, h32, h33⟩
  dsimp only at h31 h33 ⊢
  have hb4 : Below X.heap.size X (w3.alloc (.cells #[.int .i64 qc, .int .i64 qa] 32)) := hb3.alloc hb3.size _
  have hf4 := Blk.new w3 32 #[.int .i64 qc, .int .i64 qa]
  have hv4 : ArrB AtValue 4 (w3.alloc (.cells #[.int .i64 qc, .int .i64 qa] 32)) w3.heap.size B1 vs.length vs := ArrB.alloc h33 stays_value (Nat.le_refl _) _
  clear hb3 h33 x0 x1 x2 x3 hz
  go_upto_region 2 with fail
  generalize w3.alloc (.cells #[.int .i64 qc, .int .i64 qa] 32) = Y at hb4 hf4 hv4 ⊢
  generalize w3.heap.size = g at hf4 hv4 ⊢
  have hk4 := HK.out.2.1.below hb4 HK.out.2.1.lt
  have hm4 := HK.out.2.2.below hb4 HK.out.2.2.lt
  have x0 : Y.cell? ⟨w.heap.size, 0, none⟩ = some (.slice A1 n1 c1) := hk4.cell 0
  have x1 : Y.cell? ⟨w.heap.size, 1, none⟩ = some (.slice A2 n2 c2) := hk4.cell 1
  have x2 : Y.cell? ⟨w.heap.size, 2, none⟩ = some (.slice A3 n3 c3) := hk4.cell 2
  have x3 : Y.cell? ⟨w.heap.size + 1, 0, none⟩ = some (.slice AM nm cm) := hm4.cell 0
  have hz : w.heap.size + 1 < Y.heap.size := hm4.lt
  have hbw := HK.out.1.trans (hb4.mono HK.out.1.size)
  have HY := Lib.hid (And.intro hbw (And.intro hf4 (And.intro hv4 hb4)))
  have H3 := Lib.hid (And.intro h31 h32)
  clear hk4 hm4 hbw hf4 hv4 hb4 h31 h32
  go_wp2_with fail
  refine (HR.out Y HY.out.1).mono ?_
  rintro e w5 ⟨B2, d2, rfl, hb5, h51, h52, h53⟩
  dsimp only at h51 h53 ⊢
  have hb6 : Below Y.heap.size Y (w5.alloc (.cells #[.int .i64 qc, .int .i64 qa] 32)) := hb5.alloc hb5.size _
  have hf6 := Blk.new w5 32 #[.int .i64 qc, .int .i64 qa]
  have hv6 : ArrB AtValue 4 (w5.alloc (.cells #[.int .i64 qc, .int .i64 qa] 32)) w5.heap.size B2 vs.length vs := ArrB.alloc h53 stays_value (Nat.le_refl _) _
  clear hb5 h53 x0 x1 x2 x3 hz
  go_upto_region 3 with fail
  have hz6 : w5.heap.size < (w5.alloc (.cells #[.int .i64 qc, .int .i64 qa] 32)).heap.size := by simp
  generalize w5.alloc (.cells #[.int .i64 qc, .int .i64 qa] 32) = Z at hb6 hf6 hv6 hz6 ⊢
  generalize w5.heap.size = g2 at hf6 hv6 hz6 ⊢
  have hf7 := HY.out.2.1.below hb6 HY.out.2.1.lt
  have hvl : vs.length ≤ 9223372036854775807 := by have := H3.out.1; have := H3.out.2; unfold maxLen at this; omega
  have HS := Lib.hid (sameValues_any B1 B2 vs.length d1 d2 vs Z (Arr.keep stays_value HY.out.2.2.1 (fun b hb => Nat.lt_of_lt_of_le (Nat.lt_trans hb HY.out.2.1.lt) hb6.size) (fun b o hb => hb6.cell (p := ⟨b, o, none⟩) (Nat.lt_trans hb HY.out.2.1.lt))) (Arr.keep stays_value hv6 (fun b hb => Nat.lt_trans hb hz6) (fun _ _ _ => rfl)) hvl)
  have HZ := Lib.hid (And.intro (HY.out.1.trans (hb6.mono HY.out.1.size)) (And.intro hf7 hf6))
  clear hb6 hf6 hf7 hv6 hz6 hvl h51 h52
  go_wp2_with fail
  refine HS.out.mono ?_
  rintro e w7 ⟨rfl, hb7⟩
  have hf8 := HZ.out.2.1.below hb7 HZ.out.2.1.lt
  have hf9 := HZ.out.2.2.below hb7 HZ.out.2.2.lt
  have e0 : w7.cell? ⟨g, 0, none⟩ = some (.int .i64 qc) := hf8.cell 0
  have e1 : w7.cell? ⟨g, 1, none⟩ = some (.int .i64 qa) := hf8.cell 1
  have e2 : w7.cell? ⟨g2, 0, none⟩ = some (.int .i64 qc) := hf9.cell 0
  have e3 : w7.cell? ⟨g2, 1, none⟩ = some (.int .i64 qa) := hf9.cell 1
  have hg8 : g < w7.heap.size := hf8.lt
  have hg9 : g2 < w7.heap.size := hf9.lt
  have HE := Lib.hid (HZ.out.1.trans (hb7.mono HZ.out.1.size))
  clear hf8 hf9 hb7
  go_wp2_with fail
  go_ret
  exact ⟨ret_bool (by simp), HE.out⟩
end Go.Proofs.YtggkfepifnfdoaaGreat
