/- Walks: package exact's mul, add. · Walks: package exact's den, Int, made. -/
import Derived.Test.YtfkciiiopbanaaaLhB
namespace Go.Proofs.Ytfkciiiopbanaaa
open Go.RowKit

set_option maxRecDepth 100000 in
set_option maxHeartbeats 4000000 in
theorem xmul_any (a b : Int) (w : World) (ha : (digN a.natAbs).length ≤ 2000) (hb : (digN b.natAbs).length ≤ 2000) :
    Calls Try.prog 60 #[Lng a, Lng b] w fun e w' => e = .returned (Lng (a * b)) ∧ Below w.heap.size w w' := by
  have HM : ∀ W, Calls Try.prog 68 #[Lng a, Lng b] W fun e w' => e = .returned (.tuple #[Lng (a * b), .int .i64 0]) ∧ Below W.heap.size W w' := fun W => mul_any a b W ha hb
  obtain ⟨rs, -, hR, -⟩ := lng_open (a * b)
  rw [hR] at HM ⊢
  generalize decide (a * b < 0) = rb at HM ⊢
  obtain ⟨s, -, hL, -⟩ := lng_open a
  obtain ⟨t, -, hM, -⟩ := lng_open b
  rw [hL] at HM ⊢
  rw [hM] at HM ⊢
  generalize decide (a < 0) = na at HM ⊢
  generalize decide (b < 0) = nb at HM ⊢
  have HH := Lib.hid HM
  clear HM hR hL hM ha hb
  have hbx := boxes3 w 88 #[.bool na, .string s] #[.bool nb, .string t] #[.bool false, .string ⟨#[]⟩]
  go_enter Try.func60, Try.ntmps60
  go_upto_region 1 with fail
  generalize ((w.alloc (.cells #[.bool na, .string s] 88)).alloc (.cells #[.bool nb, .string t] 88)).alloc (.cells #[.bool false, .string ⟨#[]⟩] 88) = X at hbx ⊢
  obtain ⟨hx, hsz, k0, k1, k2⟩ := hbx
  obtain ⟨a0, a1, -, -⟩ := lng_cells k0
  obtain ⟨b0, b1, -, -⟩ := lng_cells k1
  have HX := Lib.hid (And.intro hx (And.intro k2 hsz))
  clear hx k0 k1 k2 hsz
  go_upto_region 2 with (first
    | (go_at_call 68
       with_reducible refine (HH.out X).mono ?_
       rintro e w1 ⟨rfl, hb1⟩
       have hk1 := HX.out.2.1.below hb1 (by rw [HX.out.2.2]; omega)
       have hkn := (Blk.new w1 88 #[.bool rb, .string rs])
       have hko := hk1.alloc (.cells #[.bool rb, .string rs] 88)
       obtain ⟨n0, n1, n2, n3⟩ := lng_cells hkn
       obtain ⟨o0, o1, o2, o3⟩ := lng_cells hko
       have hkf := lng_cells (Blk.new w1 88 #[.bool false, .string ⟨#[]⟩])
       obtain ⟨p0, p1, p2, p3⟩ := hkf
       have HB := Lib.hid (And.intro hko (HX.out.1.trans ((hb1.mono HX.out.1.size).trans (((Below.refl w1.heap.size w1).alloc (Nat.le_refl _) (.cells #[.bool rb, .string rs] 88)).mono (Nat.le_trans HX.out.1.size hb1.size)))))
       clear hb1 hk1 hkn hko)
    | fail)
  go_wp2_with fail
  obtain ⟨Z, hZ⟩ : ∃ Z, Z = ((w1.alloc (.cells #[.bool rb, .string rs] 88)).setCell ⟨w.heap.size + 1 + 1, 0, none⟩ (.bool rb)).setCell ⟨w.heap.size + 1 + 1, 1, none⟩ (.string rs) := ⟨_, rfl⟩
  obtain ⟨z0, z1, z2⟩ := lng_put _ _ hZ HB.out.1 HB.out.2 (by omega)
  rw [← hZ]
  refine bodyPost_ret (v := .agg #[.bool rb, .string rs]) (by simp [results, Try.results60, go_sem, z0, z1]) rfl ⟨rfl, z2⟩
set_option maxRecDepth 100000 in
set_option maxHeartbeats 4000000 in
theorem xadd_any (a b : Int) (w : World) (ha : (digN a.natAbs).length ≤ 2000) (hb : (digN b.natAbs).length ≤ 2000) :
    Calls Try.prog 64 #[Lng a, Lng b] w fun e w' => e = .returned (Lng (a + b)) ∧ Below w.heap.size w w' := by
  have HM : ∀ W, Calls Try.prog 73 #[Lng a, Lng b] W fun e w' => e = .returned (.tuple #[Lng (a + b), .int .i64 0]) ∧ Below W.heap.size W w' := fun W => add_any a b W ha hb
  obtain ⟨rs, -, hR, -⟩ := lng_open (a + b)
  rw [hR] at HM ⊢
  generalize decide (a + b < 0) = rb at HM ⊢
  obtain ⟨s, -, hL, -⟩ := lng_open a
  obtain ⟨t, -, hM, -⟩ := lng_open b
  rw [hL] at HM ⊢
  rw [hM] at HM ⊢
  generalize decide (a < 0) = na at HM ⊢
  generalize decide (b < 0) = nb at HM ⊢
  have HH := Lib.hid HM
  clear HM hR hL hM ha hb
  have hbx := boxes3 w 88 #[.bool na, .string s] #[.bool nb, .string t] #[.bool false, .string ⟨#[]⟩]
  go_enter Try.func64, Try.ntmps64
  go_upto_region 1 with fail
  generalize ((w.alloc (.cells #[.bool na, .string s] 88)).alloc (.cells #[.bool nb, .string t] 88)).alloc (.cells #[.bool false, .string ⟨#[]⟩] 88) = X at hbx ⊢
  obtain ⟨hx, hsz, k0, k1, k2⟩ := hbx
  obtain ⟨a0, a1, -, -⟩ := lng_cells k0
  obtain ⟨b0, b1, -, -⟩ := lng_cells k1
  have HX := Lib.hid (And.intro hx (And.intro k2 hsz))
  clear hx k0 k1 k2 hsz
  go_upto_region 2 with (first
    | (go_at_call 73
       with_reducible refine (HH.out X).mono ?_
       rintro e w1 ⟨rfl, hb1⟩
       have hk1 := HX.out.2.1.below hb1 (by rw [HX.out.2.2]; omega)
       have hkn := (Blk.new w1 88 #[.bool rb, .string rs])
       have hko := hk1.alloc (.cells #[.bool rb, .string rs] 88)
       obtain ⟨n0, n1, n2, n3⟩ := lng_cells hkn
       obtain ⟨o0, o1, o2, o3⟩ := lng_cells hko
       have hkf := lng_cells (Blk.new w1 88 #[.bool false, .string ⟨#[]⟩])
       obtain ⟨p0, p1, p2, p3⟩ := hkf
       have HB := Lib.hid (And.intro hko (HX.out.1.trans ((hb1.mono HX.out.1.size).trans (((Below.refl w1.heap.size w1).alloc (Nat.le_refl _) (.cells #[.bool rb, .string rs] 88)).mono (Nat.le_trans HX.out.1.size hb1.size)))))
       clear hb1 hk1 hkn hko)
    | fail)
  go_wp2_with fail
  obtain ⟨Z, hZ⟩ : ∃ Z, Z = ((w1.alloc (.cells #[.bool rb, .string rs] 88)).setCell ⟨w.heap.size + 1 + 1, 0, none⟩ (.bool rb)).setCell ⟨w.heap.size + 1 + 1, 1, none⟩ (.string rs) := ⟨_, rfl⟩
  obtain ⟨z0, z1, z2⟩ := lng_put _ _ hZ HB.out.1 HB.out.2 (by omega)
  rw [← hZ]
  refine bodyPost_ret (v := .agg #[.bool rb, .string rs]) (by simp [results, Try.results64, go_sem, z0, z1]) rfl ⟨rfl, z2⟩
end Go.Proofs.Ytfkciiiopbanaaa
namespace Go.Proofs.Ytfkciiiopbanaaa
open Go.RowKit

/-- a fraction as package exact has it: numerator, denominator (nought for 1 too) -/
def NumV (n d : Int) : Value := .agg #[.bool (decide (n < 0)), .string (sizeB (digN n.natAbs)), .bool (decide (d < 0)), .string (sizeB (digN d.natAbs))]
theorem num_open (n d : Int) : ∃ s t, NumV n d = .agg #[.bool (decide (n < 0)), .string s, .bool (decide (d < 0)), .string t] ∧ Lng n = .agg #[.bool (decide (n < 0)), .string s] ∧ Lng d = .agg #[.bool (decide (d < 0)), .string t] := ⟨_, _, rfl, rfl, rfl⟩
theorem boxesN (w : World) (t0 t1 : TypeId) (c0 c1 : Array Value) : Below w.heap.size w ((w.alloc (.cells c0 t0)).alloc (.cells c1 t1)) ∧ ((w.alloc (.cells c0 t0)).alloc (.cells c1 t1)).heap.size = w.heap.size + 2 ∧
    Blk ((w.alloc (.cells c0 t0)).alloc (.cells c1 t1)) w.heap.size t0 c0 ∧ Blk ((w.alloc (.cells c0 t0)).alloc (.cells c1 t1)) (w.heap.size + 1) t1 c1 :=
  ⟨lay_below [(t0, c0), (t1, c1)] w, lay_size [(t0, c0), (t1, c1)] w, lay_blk [(t0, c0), (t1, c1)] w 0 _ _ rfl, lay_blk [(t0, c0), (t1, c1)] w 1 _ _ rfl⟩
theorem num_cells {w : World} {g : Nat} {t : TypeId} {a b c d : Value} (h : Blk w g t #[a, b, c, d]) : (w.cell? ⟨g, 0, none⟩ = some a ∧ w.cell? ⟨g, 1, none⟩ = some b ∧ w.cell? ⟨g, 2, none⟩ = some c ∧ w.cell? ⟨g, 3, none⟩ = some d) ∧ w.frozen? ⟨g, 0, none⟩ = false ∧ w.frozen? ⟨g, 1, none⟩ = false ∧ w.frozen? ⟨g, 2, none⟩ = false ∧ w.frozen? ⟨g, 3, none⟩ = false :=
  ⟨⟨by rw [h.cell 0]; rfl, by rw [h.cell 1]; rfl, by rw [h.cell 2]; rfl, by rw [h.cell 3]; rfl⟩, h.frozen 0, h.frozen 1, h.frozen 2, h.frozen 3⟩
/-- a fraction is put into a box -/
theorem num_put {w1 W Z : World} {g B : Nat} {t : TypeId} {x y x' y' : Value} (a b c d : Value) (hZ : Z = (((w1.setCell ⟨g, 0, none⟩ a).setCell ⟨g, 1, none⟩ b).setCell ⟨g, 2, none⟩ c).setCell ⟨g, 3, none⟩ d) (h : Blk w1 g t #[x, y, x', y']) (hb : Below B W w1) (hg : B ≤ g) :
    (Z.cell? ⟨g, 0, none⟩ = some a ∧ Z.cell? ⟨g, 1, none⟩ = some b ∧ Z.cell? ⟨g, 2, none⟩ = some c ∧ Z.cell? ⟨g, 3, none⟩ = some d) ∧ Below B W Z := by
  have hz := num_cells ((((h.set_ 0 a).set_ 1 b).set_ 2 c).set_ 3 d)
  rw [← hZ] at hz
  exact ⟨hz.1, by rw [hZ]; exact (((hb.setCell hg _).setCell hg _).setCell hg _).setCell hg _⟩
set_option maxRecDepth 100000 in
set_option maxHeartbeats 4000000 in
theorem den_any (n d : Int) (w : World) :
    Calls Try.prog 61 #[NumV n d] w fun e w' => e = .returned (Lng (if d = 0 then 1 else d)) ∧ Below w.heap.size w w' := by
  have HSG := fun W => lngSign_any d W
  have HOF := fun W => of_any 1 W (by decide) (by decide)
  have hsd : (d.sign == 0) = decide (d = 0) := by
    rw [Bool.eq_iff_iff, beq_iff_eq, decide_eq_true_iff]; exact Int.sign_eq_zero_iff_zero
  obtain ⟨s, t, hN, -, hM⟩ := num_open n d
  obtain ⟨rs, -, hR, -⟩ := lng_open 1
  rw [hN]
  rw [hM] at HSG
  rw [hR] at HOF
  have hres : Lng (if d = 0 then 1 else d) = if d = 0 then .agg #[.bool false, .string rs] else .agg #[.bool (decide (d < 0)), .string t] := by
    split
    · rw [hR]; rfl
    · exact hM
  rw [hres]
  generalize decide (n < 0) = na
  generalize decide (d < 0) = nd at HSG ⊢
  have e1 : decide ((1 : Int) < 0) = false := rfl
  rw [e1] at HOF
  have hbx := boxesN w 90 88 #[.bool na, .string s, .bool nd, .string t] #[.bool false, .string ⟨#[]⟩]
  have HH := Lib.hid (And.intro HSG HOF)
  clear HSG HOF hN hM hR hres e1
  obtain ⟨RR, hRR⟩ : ∃ RR, (if d = 0 then Value.agg #[.bool false, .string rs] else .agg #[.bool nd, .string t]) = RR := ⟨_, rfl⟩
  rw [hRR]
  have HRR := Lib.hid hRR
  clear hRR
  go_enter Try.func61, Try.ntmps61
  go_upto_region 1 with fail
  generalize (w.alloc (.cells #[.bool na, .string s, .bool nd, .string t] 90)).alloc (.cells #[.bool false, .string ⟨#[]⟩] 88) = X at hbx ⊢
  obtain ⟨hx, hsz, k0, k1⟩ := hbx
  obtain ⟨⟨a0, a1, a2, a3⟩, -⟩ := num_cells k0
  have HX := Lib.hid (And.intro hx (And.intro k0 (And.intro k1 hsz)))
  clear hx k0 k1 hsz
  by_cases hd : d = 0
  · have hsI : (d.sign == 0) = true := by rw [hsd, decide_eq_true hd]
    have HR : Hid (RR = .agg #[.bool false, .string rs]) := by show _ = _; rw [← HRR.out, if_pos hd]
    clear hd hsd
    go_wp2_with (first
      | (go_at_call 65
         with_reducible refine (HH.out.1 X).mono ?_
         rintro e w1 ⟨rfl, hb1⟩)
      | (go_at_call 62
         with_reducible refine (HH.out.2 w1).mono ?_
         rintro e w2 ⟨rfl, hb2⟩
         have hbx2 : Below X.heap.size X w2 := hb1.trans (hb2.mono hb1.size)
         have hk2 := HX.out.2.2.1.below hbx2 (by rw [HX.out.2.2.2]; omega)
         obtain ⟨g2, g3, g4, g5⟩ := lng_cells hk2
         have HB2 := Lib.hid (And.intro hk2 (HX.out.1.trans (hbx2.mono HX.out.1.size)))
         clear hk2 hb1 hb2 hbx2)
      | fail)
    obtain ⟨Z, hZ⟩ : ∃ Z, Z = (w2.setCell ⟨w.heap.size + 1, 0, none⟩ (.bool false)).setCell ⟨w.heap.size + 1, 1, none⟩ (.string rs) := ⟨_, rfl⟩
    obtain ⟨z0, z1, z2⟩ := lng_put _ _ hZ HB2.out.1 HB2.out.2 (by omega)
    rw [← hZ]
    refine bodyPost_ret (v := .agg #[.bool false, .string rs]) (by simp [results, Try.results61, go_sem, z0, z1]) rfl ⟨by rw [HR.out], z2⟩
  · have hsI : (d.sign == 0) = false := by rw [hsd, decide_eq_false hd]
    have HR : Hid (RR = .agg #[.bool nd, .string t]) := by show _ = _; rw [← HRR.out, if_neg hd]
    clear hd hsd
    go_upto_region 3 with (first
      | (go_at_call 65
         with_reducible refine (HH.out.1 X).mono ?_
         rintro e w1 ⟨rfl, hb1⟩)
      | fail)
    have hk2 := HX.out.2.2.1.below hb1 (by rw [HX.out.2.2.2]; omega)
    have hk0 := HX.out.2.1.below hb1 (by rw [HX.out.2.2.2]; omega)
    obtain ⟨g2, g3, g4, g5⟩ := lng_cells hk2
    obtain ⟨⟨b0, b1, b2, b3⟩, -⟩ := num_cells hk0
    have HB2 := Lib.hid (And.intro hk2 (HX.out.1.trans (hb1.mono HX.out.1.size)))
    clear hk2 hb1 hk0
    go_wp2_with fail
    obtain ⟨Z, hZ⟩ : ∃ Z, Z = (w1.setCell ⟨w.heap.size + 1, 0, none⟩ (.bool nd)).setCell ⟨w.heap.size + 1, 1, none⟩ (.string t) := ⟨_, rfl⟩
    obtain ⟨z0, z1, z2⟩ := lng_put _ _ hZ HB2.out.1 HB2.out.2 (by omega)
    rw [← hZ]
    refine bodyPost_ret (v := .agg #[.bool nd, .string t]) (by simp [results, Try.results61, go_sem, z0, z1]) rfl ⟨by rw [HR.out], z2⟩
set_option maxRecDepth 100000 in
set_option maxHeartbeats 4000000 in
theorem xint_any (x : Int) (w : World) (hx : -4611686018427387904 ≤ x) (hx2 : x ≤ 4611686018427387904) :
    Calls Try.prog 55 #[.int .i64 x] w fun e w' => e = .returned (NumV x 1) ∧ Below w.heap.size w w' := by
  have HX := fun W => of_any x W hx hx2
  have HO := fun W => of_any 1 W (by decide) (by decide)
  obtain ⟨s, t, hN, hL, hM⟩ := num_open x 1
  rw [hN]
  rw [hL] at HX
  rw [hM] at HO
  generalize decide (x < 0) = na at HX ⊢
  rw [show decide ((1 : Int) < 0) = false from rfl] at HO ⊢
  have HH := Lib.hid (And.intro HX HO)
  clear HX HO hN hL hM
  have hk := Blk.new w 90 #[.bool false, .string ⟨#[]⟩, .bool false, .string ⟨#[]⟩]
  have hb := (Below.refl w.heap.size w).alloc (Nat.le_refl _) (.cells #[.bool false, .string ⟨#[]⟩, .bool false, .string ⟨#[]⟩] 90)
  go_enter Try.func55, Try.ntmps55
  go_upto_region 1 with fail
  generalize w.alloc (.cells #[.bool false, .string ⟨#[]⟩, .bool false, .string ⟨#[]⟩] 90) = X at hk hb ⊢
  have HK := Lib.hid (And.intro hk hb)
  clear hk hb
  go_wp2_with (first
    | (go_at_call 62
       with_reducible refine (HH.out.1 X).mono ?_
       rintro e w1 ⟨rfl, hb1⟩)
    | (go_at_call 62
       with_reducible refine (HH.out.2 w1).mono ?_
       rintro e w2 ⟨rfl, hb2⟩
       have hbx2 : Below X.heap.size X w2 := hb1.trans (hb2.mono hb1.size)
       have hk2 := HK.out.1.below hbx2 HK.out.1.lt
       obtain ⟨⟨g0, g1, g2, g3⟩, g4, g5, g6, g7⟩ := num_cells hk2
       have HB2 := Lib.hid (And.intro hk2 (HK.out.2.trans (hbx2.mono HK.out.2.size)))
       clear hk2 hb1 hb2 hbx2)
    | fail)
  obtain ⟨Z, hZ⟩ : ∃ Z, Z = (((w2.setCell ⟨w.heap.size, 0, none⟩ (.bool na)).setCell ⟨w.heap.size, 1, none⟩ (.string s)).setCell ⟨w.heap.size, 2, none⟩ (.bool false)).setCell ⟨w.heap.size, 3, none⟩ (.string t) := ⟨_, rfl⟩
  obtain ⟨⟨z0, z1, z2, z3⟩, z4⟩ := num_put _ _ _ _ hZ HB2.out.1 HB2.out.2 (Nat.le_refl _)
  rw [← hZ]
  refine bodyPost_ret (v := .agg #[.bool na, .string s, .bool false, .string t]) (by simp [results, Try.results55, go_sem, z0, z1, z2, z3]) rfl ⟨rfl, z4⟩
end Go.Proofs.Ytfkciiiopbanaaa
