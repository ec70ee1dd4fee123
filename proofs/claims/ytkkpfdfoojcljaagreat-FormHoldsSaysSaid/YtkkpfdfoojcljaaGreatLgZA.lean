/- Walks: package long's Of, Add. · Walks: package long's Mul. -/
import Derived.Test.YtkkpfdfoojcljaaGreatLgY
namespace Go.Proofs.YtkkpfdfoojcljaaGreat
open Go.RowKit

theorem of_digits {u : Nat} (hu : u < 18446744073709551616) : valL [u % 4294967296, u / 4294967296] = u ∧ u % 4294967296 < 4294967296 ∧ u / 4294967296 < 4294967296 := by
  simp only [valL]; omega
theorem row_digits {W : World} {g a b : Nat} {t : TypeId} (h : Blk W g t #[.int .u32 (a : Int), .int .u32 (b : Int)]) (ha : a < 4294967296) (hb : b < 4294967296) : DigsB W W.heap.size (some ⟨g, 0, none⟩) 2 [a, b] :=
  row_two (S := fun b => b < W.heap.size) tells_u atV_u h (c0 := [_]) (c1 := [_]) rfl ⟨rfl, ha⟩ ⟨rfl, hb⟩ h.lt
set_option maxRecDepth 100000 in
set_option maxHeartbeats 1000000 in
theorem of_any (x : Int) (w : World) (hx : -4611686018427387904 ≤ x) (hx2 : x ≤ 4611686018427387904) :
    Calls Tryz.prog 69 #[.int .i64 x] w fun e w' => e = .returned (Lng x) ∧ Below w.heap.size w w' := by
  obtain ⟨u, hu⟩ : ∃ u, x.natAbs = u := ⟨_, rfl⟩
  have hu64 : u ≤ 4611686018427387904 := by omega
  obtain ⟨d1, d2, d3⟩ := of_digits (u := u) (by omega)
  obtain ⟨rs, -, hR, -⟩ := lng_open x
  rw [hR]
  generalize hrb : decide (x < 0) = rb at hR ⊢
  obtain ⟨p, hp⟩ : ∃ p, u % 4294967296 = p := ⟨_, rfl⟩
  obtain ⟨q, hq⟩ : ∃ q, u / 4294967296 = q := ⟨_, rfl⟩
  rw [hp, hq] at d1
  rw [hp] at d2
  rw [hq] at d3
  have hpI : (u : Int) % 4294967296 = (p : Int) := by omega
  have hqI : (u : Int) / 4294967296 = (q : Int) := by omega
  have hmd : ∀ W g, Below w.heap.size w W → Blk W g 110 #[.int .u32 (p : Int), .int .u32 (q : Int)] → Calls Tryz.prog 90 #[.bool rb, .slice (some ⟨g, 0, none⟩) 2 2] W fun e w' => e = .returned (.agg #[.bool rb, .string rs]) ∧ Below W.heap.size W w' := fun W g _ hb => by
    have := made_any rb (some ⟨g, 0, none⟩) 2 2 [p, q] W W.heap.size (Nat.le_refl _) (row_digits hb d2 d3) (Nat.le_refl _) (by simp [maxLen]) (by omega)
    have e1 : Lng (if rb then -((valL [p, q] : Nat) : Int) else ((valL [p, q] : Nat) : Int)) = .agg #[.bool rb, .string rs] := by
      rw [← hR, d1, ← hrb, ← hu]
      congr 1
      exact (int_of_abs x).symm
    rw [e1] at this
    exact this
  have HM := Lib.hid hmd
  have hbx : Below w.heap.size w ((w.alloc (.cells #[.bool false, .string ⟨#[]⟩] 86)).alloc (.cells #[.int .u32 (p : Int), .int .u32 (q : Int)] 110)) := ((Below.refl _ _).alloc (Nat.le_refl _) _).alloc (by simp) _
  have kx := Blk.new (w.alloc (.cells #[.bool false, .string ⟨#[]⟩] 86)) 110 #[.int .u32 (p : Int), .int .u32 (q : Int)]
  have kr := (Blk.new w 86 #[.bool false, .string ⟨#[]⟩]).alloc (.cells #[.int .u32 (p : Int), .int .u32 (q : Int)] 110)
  have hsz : ((w.alloc (.cells #[.bool false, .string ⟨#[]⟩] 86)).alloc (.cells #[.int .u32 (p : Int), .int .u32 (q : Int)] 110)).heap.size = w.heap.size + 2 := by simp
  simp only [World.size_alloc] at kx
  have HX := Lib.hid (And.intro hbx (And.intro kx (And.intro kr hsz)))
  clear hmd hR hbx kx kr hsz
  by_cases hn : x < 0
  · have hrbT : rb = true := by rw [← hrb]; exact decide_eq_true hn
    have huI : IntKind.u64.wrap (-(IntKind.u64.wrap x)) = (u : Int) := by rw [IntKind.wrap_u64, IntKind.wrap_u64]; omega
    subst hrbT
    clear hrb hu hp hq
    go_enter Tryz.func69, Tryz.ntmps69
    go_wp2_with fail
    refine (HM.out _ _ HX.out.1 HX.out.2.1).mono ?_
    rintro e w2 ⟨rfl, hb2⟩
    have hk2 := HX.out.2.2.1.below hb2 (by rw [HX.out.2.2.2]; omega)
    obtain ⟨g2, g3, g4, g5⟩ := lng_cells hk2
    have HB2 := Lib.hid (And.intro hk2 (HX.out.1.trans (hb2.mono HX.out.1.size)))
    clear hk2 hb2
    go_wp2_with fail
    obtain ⟨Z, hZ⟩ : ∃ Z, Z = (w2.setCell ⟨w.heap.size, 0, none⟩ (.bool true)).setCell ⟨w.heap.size, 1, none⟩ (.string rs) := ⟨_, rfl⟩
    obtain ⟨z0, z1, z2⟩ := lng_put _ _ hZ HB2.out.1 HB2.out.2 (Nat.le_refl _)
    rw [← hZ]
    refine bodyPost_ret (v := .agg #[.bool true, .string rs]) (by simp [results, Tryz.results69, go_sem, z0, z1]) rfl ⟨rfl, z2⟩
  · have hrbT : rb = false := by rw [← hrb]; exact decide_eq_false hn
    obtain rfl : x = (u : Int) := by omega
    subst hrbT
    clear hrb hu hp hq
    go_enter Tryz.func69, Tryz.ntmps69
    go_wp2_with fail
    refine (HM.out _ _ HX.out.1 HX.out.2.1).mono ?_
    rintro e w2 ⟨rfl, hb2⟩
    have hk2 := HX.out.2.2.1.below hb2 (by rw [HX.out.2.2.2]; omega)
    obtain ⟨g2, g3, g4, g5⟩ := lng_cells hk2
    have HB2 := Lib.hid (And.intro hk2 (HX.out.1.trans (hb2.mono HX.out.1.size)))
    clear hk2 hb2
    go_wp2_with fail
    obtain ⟨Z, hZ⟩ : ∃ Z, Z = (w2.setCell ⟨w.heap.size, 0, none⟩ (.bool false)).setCell ⟨w.heap.size, 1, none⟩ (.string rs) := ⟨_, rfl⟩
    obtain ⟨z0, z1, z2⟩ := lng_put _ _ hZ HB2.out.1 HB2.out.2 (Nat.le_refl _)
    rw [← hZ]
    refine bodyPost_ret (v := .agg #[.bool false, .string rs]) (by simp [results, Tryz.results69, go_sem, z0, z1]) rfl ⟨rfl, z2⟩

theorem digN_lt {n k : Nat} (h : (digN n).length ≤ k) : n < 4294967296 ^ k := by
  have h1 := val_lt (canon_digN n).1
  rw [val_digN] at h1
  exact Nat.lt_of_lt_of_le h1 (Nat.pow_le_pow_right (by omega) h)
theorem len_sum {a b : Int} {k : Nat} (ha : (digN a.natAbs).length ≤ k) (hb : (digN b.natAbs).length ≤ k) : (digN (a + b).natAbs).length ≤ k + 1 := by
  apply digN_len
  have h1 := digN_lt ha
  have h2 := digN_lt hb
  have h3 := Int.natAbs_add_le a b
  rw [Nat.pow_succ]
  omega
theorem len_mul {a b : Int} {k m : Nat} (ha : (digN a.natAbs).length ≤ k) (hb : (digN b.natAbs).length ≤ m) : (digN (a * b).natAbs).length ≤ k + m := by
  apply digN_len
  rw [Int.natAbs_mul, Nat.pow_add]
  have h1 := digN_lt ha
  have h2 := digN_lt hb
  exact Nat.mul_lt_mul'' h1 h2
set_option maxRecDepth 100000 in
set_option maxHeartbeats 2000000 in
theorem add_any (a b : Int) (w : World) (ha : (digN a.natAbs).length ≤ 2000) (hb : (digN b.natAbs).length ≤ 2000) :
    Calls Tryz.prog 99 #[Lng a, Lng b] w fun e w' => e = .returned (.tuple #[Lng (a + b), .int .i64 0]) ∧ Below w.heap.size w w' := by
  have HS : ∀ W, Calls Tryz.prog 107 #[Lng a, Lng b] W fun e w' => e = .returned (Lng (a + b)) ∧ Below W.heap.size W w' := fun W => sum_any a b W (by omega) (by omega)
  have HL : ∀ W, Calls Tryz.prog 101 #[Lng (a + b)] W fun e w' => e = .returned (.tuple #[Lng (a + b), .int .i64 0]) ∧ Below W.heap.size W w' := fun W => limited_any (a + b) W (by have := len_sum ha hb; omega)
  obtain ⟨rs, -, hR, -⟩ := lng_open (a + b)
  rw [hR] at HS HL ⊢
  generalize decide (a + b < 0) = rb at HS HL ⊢
  obtain ⟨s, -, hL, -⟩ := lng_open a
  obtain ⟨t, -, hM, -⟩ := lng_open b
  rw [hL] at HS ⊢
  rw [hM] at HS ⊢
  generalize decide (a < 0) = na at HS ⊢
  generalize decide (b < 0) = nb at HS ⊢
  have HH := Lib.hid (And.intro HS HL)
  clear HS HL hR hL hM ha hb
  have hbx := boxes3 w 86 #[.bool na, .string s] #[.bool nb, .string t] #[.bool false, .string ⟨#[]⟩]
  go_enter Tryz.func99, Tryz.ntmps99
  go_upto_region 1 with fail
  generalize ((w.alloc (.cells #[.bool na, .string s] 86)).alloc (.cells #[.bool nb, .string t] 86)).alloc (.cells #[.bool false, .string ⟨#[]⟩] 86) = X at hbx ⊢
  obtain ⟨hx, hsz, k0, k1, k2⟩ := hbx
  obtain ⟨a0, a1, -, -⟩ := lng_cells k0
  obtain ⟨b0, b1, -, -⟩ := lng_cells k1
  have HX := Lib.hid (And.intro hx (And.intro k2 hsz))
  clear hx k0 k1 k2 hsz
  go_wp2_with (first
    | (go_at_call 107
       with_reducible refine (HH.out.1 X).mono ?_
       rintro e w1 ⟨rfl, hb1⟩)
    | (go_at_call 101
       with_reducible refine (HH.out.2 w1).mono ?_
       rintro e w2 ⟨rfl, hb2⟩
       have hbx2 : Below X.heap.size X w2 := hb1.trans (hb2.mono hb1.size)
       have hk2 := HX.out.2.1.below hbx2 (by rw [HX.out.2.2]; omega)
       obtain ⟨g2, g3, g4, g5⟩ := lng_cells hk2
       have HB2 := Lib.hid (And.intro hk2 (HX.out.1.trans (hbx2.mono HX.out.1.size)))
       clear hk2 hb1 hb2 hbx2)
    | fail)
  obtain ⟨Z, hZ⟩ : ∃ Z, Z = (w2.setCell ⟨w.heap.size + 1 + 1, 0, none⟩ (.bool rb)).setCell ⟨w.heap.size + 1 + 1, 1, none⟩ (.string rs) := ⟨_, rfl⟩
  obtain ⟨z0, z1, z2⟩ := lng_put _ _ hZ HB2.out.1 HB2.out.2 (by omega)
  rw [← hZ]
  refine bodyPost_ret (v := .tuple #[.agg #[.bool rb, .string rs], .int .i64 0]) (by simp [results, Tryz.results99, go_sem, z0, z1]) rfl ⟨rfl, z2⟩
end Go.Proofs.YtkkpfdfoojcljaaGreat
namespace Go.Proofs.YtkkpfdfoojcljaaGreat
open Go.RowKit

theorem mul_signs (a b : Int) : (if (decide (a < 0) != decide (b < 0)) then -((a.natAbs * b.natAbs : Nat) : Int) else ((a.natAbs * b.natAbs : Nat) : Int)) = a * b := by
  rw [Int.natCast_mul]
  by_cases ha : a < 0
  · by_cases hb : b < 0
    · have e1 : (a.natAbs : Int) = -a := by omega
      have e2 : (b.natAbs : Int) = -b := by omega
      simp [ha, hb, e1, e2, Int.neg_mul, Int.mul_neg]
    · have e1 : (a.natAbs : Int) = -a := by omega
      have e2 : (b.natAbs : Int) = b := by omega
      simp [ha, hb, e1, e2, Int.neg_mul]
  · by_cases hb : b < 0
    · have e1 : (a.natAbs : Int) = a := by omega
      have e2 : (b.natAbs : Int) = -b := by omega
      simp [ha, hb, e1, e2, Int.mul_neg]
    · have e1 : (a.natAbs : Int) = a := by omega
      have e2 : (b.natAbs : Int) = b := by omega
      simp [ha, hb, e1, e2]
set_option maxRecDepth 100000 in
set_option maxHeartbeats 8000000 in
theorem mul_any (a b : Int) (w : World) (ha : (digN a.natAbs).length ≤ 2000) (hb : (digN b.natAbs).length ≤ 2000) :
    Calls Tryz.prog 89 #[Lng a, Lng b] w fun e w' => e = .returned (.tuple #[Lng (a * b), .int .i64 0]) ∧ Below w.heap.size w w' := by
  have HA : ∀ W, Calls Tryz.prog 88 #[Lng a] W (RowP (digN a.natAbs) W) := fun W => limbs_any a W (by omega)
  have HB : ∀ W, Calls Tryz.prog 88 #[Lng b] W (RowP (digN b.natAbs) W) := fun W => limbs_any b W (by omega)
  have HBA := fun W => bits_any a W (by omega)
  have HBB := fun W => bits_any b W (by omega)
  have HL : ∀ W, Calls Tryz.prog 101 #[Lng (a * b)] W fun e w' => e = .returned (.tuple #[Lng (a * b), .int .i64 0]) ∧ Below W.heap.size W w' := fun W => limited_any (a * b) W (by have := len_mul ha hb; omega)
  have hsg := mul_signs a b
  have hva := val_digN a.natAbs
  have hvb := val_digN b.natAbs
  obtain ⟨rs, -, hR, -⟩ := lng_open (a * b)
  rw [hR] at HL ⊢
  generalize decide (a * b < 0) = rb at HL hR ⊢
  obtain ⟨s, l, hL, hl, -⟩ := lng_open a
  obtain ⟨t, m, hM, hm, -⟩ := lng_open b
  rw [hL] at HA HBA ⊢
  rw [hM] at HB HBB ⊢
  rw [hl] at ha hva HA HBA
  rw [hm] at hb hvb HB HBB
  clear hL hM hl hm
  generalize decide (a < 0) = na at HA HBA hsg ⊢
  generalize decide (b < 0) = nb at HB HBB hsg ⊢
  rw [← hva, ← hvb, show (na != nb) = (!na == nb) by cases na <;> cases nb <;> rfl] at hsg
  have HP := Lib.hid (And.intro hsg hR)
  have HH := Lib.hid (And.intro HA (And.intro HB (And.intro HBA (And.intro HBB HL))))
  clear HA HB HBA HBB HL hsg hva hvb hR
  have hbx := boxes3 w 86 #[.bool na, .string s] #[.bool nb, .string t] #[.bool false, .string ⟨#[]⟩]
  go_enter Tryz.func89, Tryz.ntmps89
  go_upto_region 1 with fail
  generalize ((w.alloc (.cells #[.bool na, .string s] 86)).alloc (.cells #[.bool nb, .string t] 86)).alloc (.cells #[.bool false, .string ⟨#[]⟩] 86) = X at hbx ⊢
  obtain ⟨hx, hsz, k0, k1, k2⟩ := hbx
  obtain ⟨a0, a1, -, -⟩ := lng_cells k0
  obtain ⟨b0, b1, -, -⟩ := lng_cells k1
  have HX := Lib.hid (And.intro hx (And.intro k2 hsz))
  have hlt0 : w.heap.size < X.heap.size := by omega
  have hlt1 : w.heap.size + 1 < X.heap.size := by omega
  have hlt2 : w.heap.size + 1 + 1 < X.heap.size := by omega
  clear hx k0 k1 k2 hsz
  go_region_held3 (fun w' => w'.cell? ⟨w.heap.size, 0, none⟩ = some (.bool na) ∧ w'.cell? ⟨w.heap.size, 1, none⟩ = some (.string s) ∧ w'.cell? ⟨w.heap.size + 1, 0, none⟩ = some (.bool nb) ∧ w'.cell? ⟨w.heap.size + 1, 1, none⟩ = some (.string t))
    (go_keep)
    (first
      | (go_simp
         go_at_call 100
         with_reducible refine (HH.out.2.2.1 X.drew).mono ?_
         rintro e w1 ⟨x1, rfl, hx1, hb1⟩
         have hbw1 : Below X.heap.size X w1 := below_of_drew hb1
         have f0 : w1.cell? ⟨w.heap.size, 0, none⟩ = some (.bool na) := (hbw1.cell (p := ⟨w.heap.size, 0, none⟩) hlt0).trans a0
         have f1 : w1.cell? ⟨w.heap.size, 1, none⟩ = some (.string s) := (hbw1.cell (p := ⟨w.heap.size, 1, none⟩) hlt0).trans a1
         have f2 : w1.cell? ⟨w.heap.size + 1, 0, none⟩ = some (.bool nb) := (hbw1.cell (p := ⟨w.heap.size + 1, 0, none⟩) hlt1).trans b0
         have f3 : w1.cell? ⟨w.heap.size + 1, 1, none⟩ = some (.string t) := (hbw1.cell (p := ⟨w.heap.size + 1, 1, none⟩) hlt1).trans b1
         have HB1 := Lib.hid hbw1
         clear hb1 hbw1)
      | (go_simp
         go_at_call 100
         with_reducible refine (HH.out.2.2.2.1 w1).mono ?_
         rintro e w2 ⟨x2, rfl, hx2, hb2⟩
         have hbw2 : Below X.heap.size X w2 := HB1.out.trans (hb2.mono HB1.out.size)
         have g0 : w2.cell? ⟨w.heap.size, 0, none⟩ = some (.bool na) := (hbw2.cell (p := ⟨w.heap.size, 0, none⟩) hlt0).trans a0
         have g1 : w2.cell? ⟨w.heap.size, 1, none⟩ = some (.string s) := (hbw2.cell (p := ⟨w.heap.size, 1, none⟩) hlt0).trans a1
         have g2 : w2.cell? ⟨w.heap.size + 1, 0, none⟩ = some (.bool nb) := (hbw2.cell (p := ⟨w.heap.size + 1, 0, none⟩) hlt1).trans b0
         have g3 : w2.cell? ⟨w.heap.size + 1, 1, none⟩ = some (.string t) := (hbw2.cell (p := ⟨w.heap.size + 1, 1, none⟩) hlt1).trans b1
         obtain ⟨y, hy⟩ : ∃ y, x1 + x2 = y := ⟨_, rfl⟩
         have hwr : IntKind.i64.wrap ((x1 : Int) + (x2 : Int)) = (y : Int) := by rw [IntKind.wrap_i64]; omega
         have hyI : ¬ (131073 : Int) < (y : Int) := by omega
         clear hy
         have HB2 := Lib.hid hbw2
         clear hb2 hbw2)
      | fail)
  go_upto_region 3 with fail
  clear f0 f1 f2 f3
  go_region_held3 (fun w' => w'.cell? ⟨w.heap.size, 0, none⟩ = some (.bool na) ∧ w'.cell? ⟨w.heap.size, 1, none⟩ = some (.string s) ∧ w'.cell? ⟨w.heap.size + 1, 0, none⟩ = some (.bool nb) ∧ w'.cell? ⟨w.heap.size + 1, 1, none⟩ = some (.string t))
    ((try dsimp only) <;> (repeat' apply And.intro) <;> (first | go_keep | (repeat (first | (with_reducible assumption) | (with_reducible refine cell_skip (by dsimp only; omega) ?_) | (with_reducible refine cell_old (by dsimp only; omega) ?_)))))
    (first
      | (go_simp
         go_at_call 88
         with_reducible refine (HH.out.1 w2.drew).mono ?_
         rintro e w3 ⟨v3, rfl, hown3, hb3⟩
         obtain ⟨A3, c3, rfl, hl3, hm3, hd3⟩ := hown3.reads
         have hbw3 : Below X.heap.size X w3 := HB2.out.trans ((below_of_drew hb3).mono HB2.out.size)
         have h0 : w3.cell? ⟨w.heap.size, 0, none⟩ = some (.bool na) := (hbw3.cell (p := ⟨w.heap.size, 0, none⟩) hlt0).trans a0
         have h1 : w3.cell? ⟨w.heap.size, 1, none⟩ = some (.string s) := (hbw3.cell (p := ⟨w.heap.size, 1, none⟩) hlt0).trans a1
         have h2 : w3.cell? ⟨w.heap.size + 1, 0, none⟩ = some (.bool nb) := (hbw3.cell (p := ⟨w.heap.size + 1, 0, none⟩) hlt1).trans b0
         have h3 : w3.cell? ⟨w.heap.size + 1, 1, none⟩ = some (.string t) := (hbw3.cell (p := ⟨w.heap.size + 1, 1, none⟩) hlt1).trans b1
         have H3 := Lib.hid (And.intro hd3 hbw3)
         clear hown3 hb3 hl3 hm3 hd3 hbw3)
      | (go_simp
         go_at_call 88
         with_reducible refine (HH.out.2.1 w3).mono ?_
         rintro e w4 ⟨v4, rfl, hown4, hb4⟩
         obtain ⟨A4, c4, rfl, hl4, hm4, hd4⟩ := hown4.reads
         have hbw4 : Below X.heap.size X w4 := H3.out.2.trans (hb4.mono H3.out.2.size)
         have i0 : w4.cell? ⟨w.heap.size, 0, none⟩ = some (.bool na) := (hbw4.cell (p := ⟨w.heap.size, 0, none⟩) hlt0).trans a0
         have i1 : w4.cell? ⟨w.heap.size, 1, none⟩ = some (.string s) := (hbw4.cell (p := ⟨w.heap.size, 1, none⟩) hlt0).trans a1
         have i2 : w4.cell? ⟨w.heap.size + 1, 0, none⟩ = some (.bool nb) := (hbw4.cell (p := ⟨w.heap.size + 1, 0, none⟩) hlt1).trans b0
         have i3 : w4.cell? ⟨w.heap.size + 1, 1, none⟩ = some (.string t) := (hbw4.cell (p := ⟨w.heap.size + 1, 1, none⟩) hlt1).trans b1
         have H4 := Lib.hid (And.intro (H3.out.1.below stays_u hb4 hb4.size) (And.intro hd4 hbw4))
         clear hown4 hb4 hl4 hm4 hd4 hbw4)
      | (go_simp
         go_at_call 102
         with_reducible refine (times_any A3 l.length c3 l A4 m.length c4 m w4 H4.out.1 H4.out.2.1 (Nat.le_trans ha (by decide)) (Nat.le_trans hb (by decide))).mono ?_
         rintro e w5 ⟨v5, q, rfl, hown5, hq, hql, hb5⟩
         obtain ⟨A5, c5, rfl, hl5, hm5, hd5⟩ := hown5.reads
         have hbw5 : Below X.heap.size X w5 := H4.out.2.2.trans (hb5.mono H4.out.2.2.size)
         have hq5 : q.length ≤ 100000 := by omega
         have j0 : w5.cell? ⟨w.heap.size, 0, none⟩ = some (.bool na) := (hbw5.cell (p := ⟨w.heap.size, 0, none⟩) hlt0).trans a0
         have j1 : w5.cell? ⟨w.heap.size, 1, none⟩ = some (.string s) := (hbw5.cell (p := ⟨w.heap.size, 1, none⟩) hlt0).trans a1
         have j2 : w5.cell? ⟨w.heap.size + 1, 0, none⟩ = some (.bool nb) := (hbw5.cell (p := ⟨w.heap.size + 1, 0, none⟩) hlt1).trans b0
         have j3 : w5.cell? ⟨w.heap.size + 1, 1, none⟩ = some (.string t) := (hbw5.cell (p := ⟨w.heap.size + 1, 1, none⟩) hlt1).trans b1
         have H5 := Lib.hid (And.intro hd5 (And.intro hl5 (And.intro hm5 (And.intro hq (And.intro hq5 hbw5)))))
         clear hown5 hb5 hl5 hm5 hd5 hbw5 hq hql hq5)
      | (go_simp
         go_at_call 90
         with_reducible refine (made_any (!na == nb) A5 q.length c5 q w5 w5.heap.size (Nat.le_refl _) H5.out.1 H5.out.2.1 H5.out.2.2.1 H5.out.2.2.2.2.1).mono ?_
         rintro e w6 ⟨rfl, hb6⟩
         rw [H5.out.2.2.2.1, HP.out.1, HP.out.2]
         have hbw6 : Below X.heap.size X w6 := H5.out.2.2.2.2.2.trans (hb6.mono H5.out.2.2.2.2.2.size)
         have k0 : w6.cell? ⟨w.heap.size, 0, none⟩ = some (.bool na) := (hbw6.cell (p := ⟨w.heap.size, 0, none⟩) hlt0).trans a0
         have k1 : w6.cell? ⟨w.heap.size, 1, none⟩ = some (.string s) := (hbw6.cell (p := ⟨w.heap.size, 1, none⟩) hlt0).trans a1
         have k2 : w6.cell? ⟨w.heap.size + 1, 0, none⟩ = some (.bool nb) := (hbw6.cell (p := ⟨w.heap.size + 1, 0, none⟩) hlt1).trans b0
         have k3 : w6.cell? ⟨w.heap.size + 1, 1, none⟩ = some (.string t) := (hbw6.cell (p := ⟨w.heap.size + 1, 1, none⟩) hlt1).trans b1
         have H6 := Lib.hid hbw6
         clear hb6 hbw6)
      | (go_simp
         go_at_call 101
         with_reducible refine (HH.out.2.2.2.2 w6).mono ?_
         rintro e w7 ⟨rfl, hb7⟩
         have hbw7 : Below X.heap.size X w7 := H6.out.trans (hb7.mono H6.out.size)
         have n0 : w7.cell? ⟨w.heap.size, 0, none⟩ = some (.bool na) := (hbw7.cell (p := ⟨w.heap.size, 0, none⟩) hlt0).trans a0
         have n1 : w7.cell? ⟨w.heap.size, 1, none⟩ = some (.string s) := (hbw7.cell (p := ⟨w.heap.size, 1, none⟩) hlt0).trans a1
         have n2 : w7.cell? ⟨w.heap.size + 1, 0, none⟩ = some (.bool nb) := (hbw7.cell (p := ⟨w.heap.size + 1, 0, none⟩) hlt1).trans b0
         have n3 : w7.cell? ⟨w.heap.size + 1, 1, none⟩ = some (.string t) := (hbw7.cell (p := ⟨w.heap.size + 1, 1, none⟩) hlt1).trans b1
         have hk7 := HX.out.2.1.below hbw7 hlt2
         obtain ⟨g4, g5, g6, g7⟩ := lng_cells hk7
         have H7 := Lib.hid (And.intro hk7 (HX.out.1.trans (hbw7.mono HX.out.1.size)))
         clear hb7 hbw7 hk7)
      | fail)
  all_goals go_wp2_with fail
  all_goals
    obtain ⟨Z, hZ⟩ : ∃ Z, Z = (w7.setCell ⟨w.heap.size + 1 + 1, 0, none⟩ (.bool rb)).setCell ⟨w.heap.size + 1 + 1, 1, none⟩ (.string rs) := ⟨_, rfl⟩
    obtain ⟨z0, z1, z2⟩ := lng_put _ _ hZ H7.out.1 H7.out.2 (by omega)
    rw [← hZ]
    refine bodyPost_ret (v := .tuple #[.agg #[.bool rb, .string rs], .int .i64 0]) (by simp [results, Tryz.results89, go_sem, z0, z1]) rfl ⟨rfl, z2⟩
end Go.Proofs.YtkkpfdfoojcljaaGreat
