/- Walk: package exact's Of: a fraction as a number. · Package exact by Lean's own rational numbers. -/
import Derived.Test.YtkkpfdfoojcljaaGreatLhFG
import Derived.Test.YtkkpfdfoojcljaaGreatCnFr
namespace Go.Proofs.YtkkpfdfoojcljaaGreat
open Go.RowKit

theorem small_len {n : Nat} (h : n ≤ 4611686018427387904) : (digN n).length ≤ 2 := digN_len (by
  have : (4294967296 : Nat) ^ 2 = 18446744073709551616 := by decide
  omega)
set_option maxRecDepth 100000 in
set_option maxHeartbeats 8000000 in
theorem xof_any (n : Int) (d : Nat) (w : World) (h1 : -4611686018427387904 ≤ n) (h2 : n ≤ 4611686018427387904) (hd : 0 < d) (hd2 : d ≤ 4611686018427387904) :
    Calls Tryz.prog 65 #[.agg #[.int .i64 n, .int .i64 (d : Int)]] w fun e w' => e = .returned (NumV (n / ((Nat.gcd n.natAbs d : Nat) : Int)) ((d / Nat.gcd n.natAbs d : Nat) : Int)) ∧ Below w.heap.size w w' := by
  have HO1 := fun W => of_any n W h1 h2
  have HO2 := fun W => of_any (d : Int) W (by omega) (by omega)
  have HMD := fun W => xmade_any n d W (by have := small_len (n := n.natAbs) (by omega); omega) (by have := small_len (n := d) hd2; omega) hd
  obtain ⟨rn_s, rd_s, hR, -, -⟩ := num_open (n / ((Nat.gcd n.natAbs d : Nat) : Int)) ((d / Nat.gcd n.natAbs d : Nat) : Int)
  rw [hR] at HMD ⊢
  generalize decide (n / ((Nat.gcd n.natAbs d : Nat) : Int) < 0) = rn_b at HMD hR ⊢
  generalize decide (((d / Nat.gcd n.natAbs d : Nat) : Int) < 0) = rd_b at HMD hR ⊢
  obtain ⟨N_s, -, hLN, -⟩ := lng_open n
  obtain ⟨D_s, -, hLD, -⟩ := lng_open (d : Int)
  generalize decide (n < 0) = N_b at hLN
  generalize decide ((d : Int) < 0) = D_b at hLD
  rw [hLN] at HO1
  rw [hLD] at HO2
  rw [hLN, hLD] at HMD
  have HH := Lib.hid (And.intro HO1 (And.intro HO2 HMD))
  clear HO1 HO2 HMD hR hLN hLD h1 h2 hd hd2
  go_enter Tryz.func65, Tryz.ntmps65
  go_upto_region 1 with fail
  have hbx := boxesN w 40 88 #[.int .i64 n, .int .i64 (d : Int)] #[.bool false, .string ⟨#[]⟩, .bool false, .string ⟨#[]⟩]
  generalize (w.alloc (.cells #[.int .i64 n, .int .i64 (d : Int)] 40)).alloc (.cells #[.bool false, .string ⟨#[]⟩, .bool false, .string ⟨#[]⟩] 88) = X at hbx ⊢
  obtain ⟨hx, hsz, k0, k1⟩ := hbx
  have a0 : X.cell? ⟨w.heap.size, 0, none⟩ = some (.int .i64 n) := by rw [k0.cell 0]; rfl
  have a1 : X.cell? ⟨w.heap.size, 1, none⟩ = some (.int .i64 (d : Int)) := by rw [k0.cell 1]; rfl
  have HX := Lib.hid (And.intro hx (And.intro k1 hsz))
  have hlt0 : w.heap.size < X.heap.size := by omega
  have hlt2 : w.heap.size + 1 < X.heap.size := by omega
  clear hx k0 k1 hsz
  go_region_held3 (fun w' => w'.cell? ⟨w.heap.size, 0, none⟩ = some (.int .i64 n) ∧ w'.cell? ⟨w.heap.size, 1, none⟩ = some (.int .i64 (d : Int)))
    ((try dsimp only) <;> (repeat' apply And.intro) <;> (first | go_keep | (repeat (first | (with_reducible assumption) | (with_reducible refine cell_skip (by dsimp only; omega) ?_) | (with_reducible refine cell_old (by dsimp only; omega) ?_)))))
    (first
      | (go_simp
         go_at_call 69
         with_reducible refine (HH.out.1 X.drew).mono ?_
         rintro e w1 ⟨rfl, hb1⟩
         have hbw1 : Below X.heap.size X w1 := below_of_drew hb1
         have f1_0 : w1.cell? ⟨w.heap.size, 0, none⟩ = some (.int .i64 n) := (hbw1.cell (p := ⟨w.heap.size, 0, none⟩) hlt0).trans a0
         have f1_1 : w1.cell? ⟨w.heap.size, 1, none⟩ = some (.int .i64 (d : Int)) := (hbw1.cell (p := ⟨w.heap.size, 1, none⟩) hlt0).trans a1
         have H1 := Lib.hid hbw1
         clear hb1 hbw1)
      | (go_simp
         go_at_call 69
         with_reducible refine (HH.out.2.1 w1).mono ?_
         rintro e w2 ⟨rfl, hb2⟩
         have hbw2 : Below X.heap.size X w2 := H1.out.trans (hb2.mono H1.out.size)
         have f2_0 : w2.cell? ⟨w.heap.size, 0, none⟩ = some (.int .i64 n) := (hbw2.cell (p := ⟨w.heap.size, 0, none⟩) hlt0).trans a0
         have f2_1 : w2.cell? ⟨w.heap.size, 1, none⟩ = some (.int .i64 (d : Int)) := (hbw2.cell (p := ⟨w.heap.size, 1, none⟩) hlt0).trans a1
         have H2 := Lib.hid hbw2
         clear hb2 hbw2 f1_0 f1_1)
      | (go_simp
         go_at_call 84
         with_reducible refine (HH.out.2.2 w2).mono ?_
         rintro e w3 ⟨rfl, hb3⟩
         have hbw3 : Below X.heap.size X w3 := H2.out.trans (hb3.mono H2.out.size)
         have f3_0 : w3.cell? ⟨w.heap.size, 0, none⟩ = some (.int .i64 n) := (hbw3.cell (p := ⟨w.heap.size, 0, none⟩) hlt0).trans a0
         have f3_1 : w3.cell? ⟨w.heap.size, 1, none⟩ = some (.int .i64 (d : Int)) := (hbw3.cell (p := ⟨w.heap.size, 1, none⟩) hlt0).trans a1
         have hk9 := HX.out.2.1.below hbw3 hlt2
         obtain ⟨⟨r0, r1, r2, r3⟩, r4, r5, r6, r7⟩ := num_cells hk9
         have H9 := Lib.hid (And.intro hk9 (HX.out.1.trans (hbw3.mono HX.out.1.size)))
         clear hb3 hbw3 hk9 f2_0 f2_1)
      | fail)
  all_goals go_wp2_with fail
  all_goals
    obtain ⟨Z, hZ⟩ : ∃ Z, Z = (((w3.setCell ⟨w.heap.size + 1, 0, none⟩ (.bool rn_b)).setCell ⟨w.heap.size + 1, 1, none⟩ (.string rn_s)).setCell ⟨w.heap.size + 1, 2, none⟩ (.bool rd_b)).setCell ⟨w.heap.size + 1, 3, none⟩ (.string rd_s) := ⟨_, rfl⟩
    obtain ⟨⟨z0, z1, z2, z3⟩, z4⟩ := num_put _ _ _ _ hZ H9.out.1 H9.out.2 (by omega)
    rw [← hZ]
    refine bodyPost_ret (v := .agg #[.bool rn_b, .string rn_s, .bool rd_b, .string rd_s]) (by simp [results, Tryz.results65, go_sem, z0, z1, z2, z3]) rfl ⟨rfl, z4⟩
end Go.Proofs.YtkkpfdfoojcljaaGreat
namespace Go.Proofs.YtkkpfdfoojcljaaGreat
open Go.RowKit

/-- a number in lowest terms -/
def NumR (q : Rat) : Value := NumV q.num (q.den : Int)
theorem len_pow {x N k : Nat} (h : x ≤ 2 ^ N) (hk : N < 32 * k) : (digN x).length ≤ k := digN_len (by
  have e : (4294967296 : Nat) = 2 ^ 32 := by decide
  rw [e, ← Nat.pow_mul]
  exact Nat.lt_of_le_of_lt h (Nat.pow_lt_pow_right (by omega) hk))
theorem rb_lens {N k : Nat} {q : Rat} (h : RB N q) (hk : N < 32 * k) : (digN q.num.natAbs).length ≤ k ∧ (digN q.den).length ≤ k := ⟨len_pow h.1 hk, len_pow h.2 hk⟩
theorem norm_num_den (n : Int) (d : Nat) (h : d ≠ 0) : (Rat.normalize n d h).num = n / ((Nat.gcd n.natAbs d : Nat) : Int) ∧ (Rat.normalize n d h).den = d / Nat.gcd n.natAbs d := by
  rw [Rat.normalize_eq]; exact ⟨rfl, rfl⟩
theorem den_if (q : Rat) : (if (q.den : Int) = 0 then 1 else (q.den : Int)) = (q.den : Int) := if_neg (by have := q.den_pos; omega)
/-- the left operand: as it is made, or the zero value -/
def LeftN (q : Rat) (d : Int) : Prop := (if d = 0 then 1 else d) = (q.den : Int)
theorem times_rat (a b : Rat) (w : World) {k : Nat} (hk : k ≤ 500) (h1 : (digN a.num.natAbs).length ≤ k ∧ (digN a.den).length ≤ k) (h2 : (digN b.num.natAbs).length ≤ k ∧ (digN b.den).length ≤ k) :
    Calls Tryz.prog 64 #[NumR a, NumR b] w fun e w' => e = .returned (NumR (a * b)) ∧ Below w.heap.size w w' := by
  have h := times_num a.num (a.den : Int) b.num (b.den : Int) a.den b.den w (den_if a) (den_if b) a.den_pos b.den_pos (by omega) (by omega) (by omega) (by omega)
  unfold NumR
  rw [Rat.mul_def, (norm_num_den _ _ _).1, (norm_num_den _ _ _).2]
  exact h
theorem plus_rat (a b : Rat) (ad : Int) (w : World) (ha : LeftN a ad) {k : Nat} (hk : k ≤ 500) (h1 : (digN a.num.natAbs).length ≤ k ∧ (digN a.den).length ≤ k) (h2 : (digN b.num.natAbs).length ≤ k ∧ (digN b.den).length ≤ k) :
    Calls Tryz.prog 63 #[NumV a.num ad, NumR b] w fun e w' => e = .returned (NumR (a + b)) ∧ Below w.heap.size w w' := by
  have h := plus_num a.num ad b.num (b.den : Int) a.den b.den w ha (den_if b) a.den_pos b.den_pos (by omega) (by omega) (by omega) (by omega)
  unfold NumR
  rw [Rat.add_def, (norm_num_den _ _ _).1, (norm_num_den _ _ _).2]
  exact h
theorem cmp_rat (a b : Rat) (ad : Int) (w : World) (ha : LeftN a ad) {k : Nat} (hk : k ≤ 500) (h1 : (digN a.num.natAbs).length ≤ k ∧ (digN a.den).length ≤ k) (h2 : (digN b.num.natAbs).length ≤ k ∧ (digN b.den).length ≤ k) :
    Calls Tryz.prog 49 #[NumV a.num ad, NumR b] w fun e w' => e = .returned (.int .i64 (cmpI (a.num * (b.den : Int)) (b.num * (a.den : Int)))) ∧ Below w.heap.size w w' :=
  cmp_num a.num ad b.num (b.den : Int) a.den b.den w ha (den_if b) (by omega) (by omega) (by omega) (by omega)
theorem cmp_le (a b : Rat) : decide (cmpI (a.num * (b.den : Int)) (b.num * (a.den : Int)) ≤ 0) = decide (a ≤ b) := by
  have h1 := rat_lt_of b a
  rw [decide_eq_decide, ← Rat.not_lt, h1]
  unfold cmpI
  split
  · omega
  · split <;> omega
theorem cmp_lt (a b : Rat) : decide (cmpI (a.num * (b.den : Int)) (b.num * (a.den : Int)) < 0) = decide (a < b) := by
  rw [decide_eq_decide, rat_lt_of]
  unfold cmpI
  split
  · omega
  · split <;> omega
theorem cmp_eq (a b : Rat) : (cmpI (a.num * (b.den : Int)) (b.num * (a.den : Int)) == 0) = decide (a = b) := by
  rw [Bool.eq_iff_iff, beq_iff_eq, decide_eq_true_iff, rat_eq_of]
  unfold cmpI
  split
  · omega
  · split <;> omega
theorem int_rat (x : Int) (w : World) (hx : -4611686018427387904 ≤ x) (hx2 : x ≤ 4611686018427387904) :
    Calls Tryz.prog 50 #[.int .i64 x] w fun e w' => e = .returned (NumR (x : Rat)) ∧ Below w.heap.size w w' := xint_any x w hx hx2
/-- a fraction that is handed in, as a number -/
def ratF (x : FracD) : Rat := mkRat x.num x.den.toNat
theorem of_rat (x : FracD) (w : World) (h1 : -4611686018427387904 ≤ x.num) (h2 : x.num ≤ 4611686018427387904) (hd : 0 < x.den) (hd2 : x.den ≤ 4611686018427387904) :
    Calls Tryz.prog 65 #[.agg #[.int .i64 x.num, .int .i64 x.den]] w fun e w' => e = .returned (NumR (ratF x)) ∧ Below w.heap.size w w' := by
  obtain ⟨n, d⟩ := x
  simp only at h1 h2 hd hd2 ⊢
  obtain ⟨D, rfl⟩ : ∃ D : Nat, d = (D : Int) := ⟨d.toNat, by omega⟩
  have h := xof_any n D w h1 h2 (by omega) (by omega)
  have e : ratF ⟨n, (D : Int)⟩ = Rat.normalize n D (by omega) := by
    unfold ratF
    rw [Int.toNat_natCast, Rat.mkRat_def, dif_neg (by omega)]
  unfold NumR
  rw [e, (norm_num_den _ _ _).1, (norm_num_den _ _ _).2]
  exact h
theorem rb_int (x : Int) {N : Nat} (h : x.natAbs ≤ 2 ^ N) : RB N (x : Rat) := ⟨h, Nat.one_le_two_pow⟩
theorem rb_frac (x : FracD) (h : fracGood x.num x.den = true) : RB 30 (ratF x) := by
  simp only [fracGood, decide_eq_true_eq] at h
  have e : (2 : Nat) ^ 30 = 1073741824 := by decide
  unfold ratF
  rw [Rat.mkRat_def, dif_neg (by omega)]
  refine ⟨Nat.le_trans (normal_num _ _ _) ?_, Nat.le_trans (normal_den _ _ _) ?_⟩ <;> omega
end Go.Proofs.YtkkpfdfoojcljaaGreat
