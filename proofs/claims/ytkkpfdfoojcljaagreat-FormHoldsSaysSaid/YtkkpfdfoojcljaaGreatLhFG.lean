/- Walks: package exact's Times, Cmp. · Walk: package exact's Plus. -/
import Derived.Test.YtkkpfdfoojcljaaGreatLhBE
namespace Go.Proofs.YtkkpfdfoojcljaaGreat
open Go.RowKit

theorem boxesNN (w : World) (t : TypeId) (c0 c1 c2 : Array Value) : Below w.heap.size w (((w.alloc (.cells c0 t)).alloc (.cells c1 t)).alloc (.cells c2 t)) ∧ (((w.alloc (.cells c0 t)).alloc (.cells c1 t)).alloc (.cells c2 t)).heap.size = w.heap.size + 3 ∧
    Blk (((w.alloc (.cells c0 t)).alloc (.cells c1 t)).alloc (.cells c2 t)) w.heap.size t c0 ∧ Blk (((w.alloc (.cells c0 t)).alloc (.cells c1 t)).alloc (.cells c2 t)) (w.heap.size + 1) t c1 ∧ Blk (((w.alloc (.cells c0 t)).alloc (.cells c1 t)).alloc (.cells c2 t)) (w.heap.size + 1 + 1) t c2 := boxes3 w t c0 c1 c2
set_option maxRecDepth 100000 in
set_option maxHeartbeats 8000000 in
theorem times_num (an ad bn bd : Int) (da db : Nat) (w : World) (hda : (if ad = 0 then 1 else ad) = (da : Int)) (hdb : (if bd = 0 then 1 else bd) = (db : Int)) (hpa : 0 < da) (hpb : 0 < db) (h1 : (digN an.natAbs).length ≤ 500) (h2 : (digN bn.natAbs).length ≤ 500) (h3 : (digN da).length ≤ 500) (h4 : (digN db).length ≤ 500) :
    Calls Tryz.prog 64 #[NumV an ad, NumV bn bd] w fun e w' => e = .returned (NumV ((an * bn) / ((Nat.gcd (an * bn).natAbs (da * db) : Nat) : Int)) ((da * db / Nat.gcd (an * bn).natAbs (da * db) : Nat) : Int)) ∧ Below w.heap.size w w' := by
  have HDA := fun W => den_any an ad W
  have HDB := fun W => den_any bn bd W
  rw [hda] at HDA
  rw [hdb] at HDB
  have HM1 := fun W => xmul_any an bn W (by omega) (by omega)
  have HM2 := fun W => xmul_any (da : Int) (db : Int) W (by rw [Int.natAbs_natCast]; omega) (by rw [Int.natAbs_natCast]; omega)
  have HMD := fun W => xmade_any (an * bn) (da * db) W (by have := len_mul h1 h2; omega) (by
    have := len_mul (a := (da : Int)) (b := (db : Int)) (k := 500) (m := 500) (by rw [Int.natAbs_natCast]; omega) (by rw [Int.natAbs_natCast]; omega)
    rw [← Int.natCast_mul, Int.natAbs_natCast] at this
    omega) (Nat.mul_pos hpa hpb)
  obtain ⟨rn_s, rd_s, hR, -, -⟩ := num_open ((an * bn) / ((Nat.gcd (an * bn).natAbs (da * db) : Nat) : Int)) ((da * db / Nat.gcd (an * bn).natAbs (da * db) : Nat) : Int)
  rw [hR] at HMD ⊢
  generalize decide ((an * bn) / ((Nat.gcd (an * bn).natAbs (da * db) : Nat) : Int) < 0) = rn_b at HMD hR ⊢
  generalize decide (((da * db / Nat.gcd (an * bn).natAbs (da * db) : Nat) : Int) < 0) = rd_b at HMD hR ⊢
  obtain ⟨an_s, ad_s, hNA, hLan, -⟩ := num_open an ad
  obtain ⟨bn_s, bd_s, hNB, hLbn, -⟩ := num_open bn bd
  obtain ⟨da_s, -, hLda, -⟩ := lng_open (da : Int)
  obtain ⟨db_s, -, hLdb, -⟩ := lng_open (db : Int)
  obtain ⟨N_s, -, hLN, -⟩ := lng_open (an * bn)
  obtain ⟨D_s, -, hLD, -⟩ := lng_open ((da * db : Nat) : Int)
  generalize decide (an * bn < 0) = N_b at hLN
  generalize decide (((da * db : Nat) : Int) < 0) = D_b at hLD
  generalize decide (an < 0) = an_b at *
  generalize decide (ad < 0) = ad_b at *
  generalize decide (bn < 0) = bn_b at *
  generalize decide (bd < 0) = bd_b at *
  generalize decide ((da : Int) < 0) = da_b at *
  generalize decide ((db : Int) < 0) = db_b at *
  rw [← Int.natCast_mul] at HM2
  rw [hNA] at HDA ⊢
  rw [hNB] at HDB ⊢
  rw [hLda] at HDA HM2
  rw [hLdb] at HDB HM2
  rw [hLan, hLbn, hLN] at HM1
  rw [hLD] at HM2
  rw [hLN, hLD] at HMD
  have HH := Lib.hid (And.intro HM1 (And.intro HDA (And.intro HDB (And.intro HM2 HMD))))
  clear HM1 HDA HDB HM2 HMD hR hNA hNB hLan hLbn hLda hLdb hLN hLD hda hdb hpa hpb h1 h2 h3 h4
  go_enter Tryz.func64, Tryz.ntmps64
  go_upto_region 1 with fail
  have hbx := boxesNN w 88 #[.bool an_b, .string an_s, .bool ad_b, .string ad_s] #[.bool bn_b, .string bn_s, .bool bd_b, .string bd_s] #[.bool false, .string ⟨#[]⟩, .bool false, .string ⟨#[]⟩]
  generalize ((w.alloc (.cells #[.bool an_b, .string an_s, .bool ad_b, .string ad_s] 88)).alloc (.cells #[.bool bn_b, .string bn_s, .bool bd_b, .string bd_s] 88)).alloc (.cells #[.bool false, .string ⟨#[]⟩, .bool false, .string ⟨#[]⟩] 88) = X at hbx ⊢
  obtain ⟨hx, hsz, k0, k1, k2⟩ := hbx
  obtain ⟨⟨a0, a1, a2, a3⟩, -⟩ := num_cells k0
  obtain ⟨⟨b0, b1, b2, b3⟩, -⟩ := num_cells k1
  have HX := Lib.hid (And.intro hx (And.intro k2 hsz))
  have hlt0 : w.heap.size < X.heap.size := by omega
  have hlt1 : w.heap.size + 1 < X.heap.size := by omega
  have hlt2 : w.heap.size + 1 + 1 < X.heap.size := by omega
  clear hx k0 k1 k2 hsz
  go_region_held3 (fun w' => w'.cell? ⟨w.heap.size, 0, none⟩ = some (.bool an_b) ∧ w'.cell? ⟨w.heap.size, 1, none⟩ = some (.string an_s) ∧ w'.cell? ⟨w.heap.size, 2, none⟩ = some (.bool ad_b) ∧ w'.cell? ⟨w.heap.size, 3, none⟩ = some (.string ad_s) ∧ w'.cell? ⟨w.heap.size + 1, 0, none⟩ = some (.bool bn_b) ∧ w'.cell? ⟨w.heap.size + 1, 1, none⟩ = some (.string bn_s) ∧ w'.cell? ⟨w.heap.size + 1, 2, none⟩ = some (.bool bd_b) ∧ w'.cell? ⟨w.heap.size + 1, 3, none⟩ = some (.string bd_s))
    ((try dsimp only) <;> (repeat' apply And.intro) <;> (first | go_keep | (repeat (first | (with_reducible assumption) | (with_reducible refine cell_skip (by dsimp only; omega) ?_) | (with_reducible refine cell_old (by dsimp only; omega) ?_)))))
    (first
      | (go_simp
         go_at_call 67
         with_reducible refine (HH.out.1 X.drew).mono ?_
         rintro e w1 ⟨rfl, hb1⟩
         have hbw1 : Below X.heap.size X w1 := below_of_drew hb1
         have f1_0 : w1.cell? ⟨w.heap.size, 0, none⟩ = some (.bool an_b) := (hbw1.cell (p := ⟨w.heap.size, 0, none⟩) hlt0).trans a0
         have f1_1 : w1.cell? ⟨w.heap.size, 1, none⟩ = some (.string an_s) := (hbw1.cell (p := ⟨w.heap.size, 1, none⟩) hlt0).trans a1
         have f1_2 : w1.cell? ⟨w.heap.size, 2, none⟩ = some (.bool ad_b) := (hbw1.cell (p := ⟨w.heap.size, 2, none⟩) hlt0).trans a2
         have f1_3 : w1.cell? ⟨w.heap.size, 3, none⟩ = some (.string ad_s) := (hbw1.cell (p := ⟨w.heap.size, 3, none⟩) hlt0).trans a3
         have f1_4 : w1.cell? ⟨w.heap.size + 1, 0, none⟩ = some (.bool bn_b) := (hbw1.cell (p := ⟨w.heap.size + 1, 0, none⟩) hlt1).trans b0
         have f1_5 : w1.cell? ⟨w.heap.size + 1, 1, none⟩ = some (.string bn_s) := (hbw1.cell (p := ⟨w.heap.size + 1, 1, none⟩) hlt1).trans b1
         have f1_6 : w1.cell? ⟨w.heap.size + 1, 2, none⟩ = some (.bool bd_b) := (hbw1.cell (p := ⟨w.heap.size + 1, 2, none⟩) hlt1).trans b2
         have f1_7 : w1.cell? ⟨w.heap.size + 1, 3, none⟩ = some (.string bd_s) := (hbw1.cell (p := ⟨w.heap.size + 1, 3, none⟩) hlt1).trans b3
         have H1 := Lib.hid hbw1
         clear hb1 hbw1)
      | (go_simp
         go_at_call 68
         with_reducible refine (HH.out.2.1 w1).mono ?_
         rintro e w2 ⟨rfl, hb2⟩
         have hbw2 : Below X.heap.size X w2 := H1.out.trans (hb2.mono H1.out.size)
         have f2_0 : w2.cell? ⟨w.heap.size, 0, none⟩ = some (.bool an_b) := (hbw2.cell (p := ⟨w.heap.size, 0, none⟩) hlt0).trans a0
         have f2_1 : w2.cell? ⟨w.heap.size, 1, none⟩ = some (.string an_s) := (hbw2.cell (p := ⟨w.heap.size, 1, none⟩) hlt0).trans a1
         have f2_2 : w2.cell? ⟨w.heap.size, 2, none⟩ = some (.bool ad_b) := (hbw2.cell (p := ⟨w.heap.size, 2, none⟩) hlt0).trans a2
         have f2_3 : w2.cell? ⟨w.heap.size, 3, none⟩ = some (.string ad_s) := (hbw2.cell (p := ⟨w.heap.size, 3, none⟩) hlt0).trans a3
         have f2_4 : w2.cell? ⟨w.heap.size + 1, 0, none⟩ = some (.bool bn_b) := (hbw2.cell (p := ⟨w.heap.size + 1, 0, none⟩) hlt1).trans b0
         have f2_5 : w2.cell? ⟨w.heap.size + 1, 1, none⟩ = some (.string bn_s) := (hbw2.cell (p := ⟨w.heap.size + 1, 1, none⟩) hlt1).trans b1
         have f2_6 : w2.cell? ⟨w.heap.size + 1, 2, none⟩ = some (.bool bd_b) := (hbw2.cell (p := ⟨w.heap.size + 1, 2, none⟩) hlt1).trans b2
         have f2_7 : w2.cell? ⟨w.heap.size + 1, 3, none⟩ = some (.string bd_s) := (hbw2.cell (p := ⟨w.heap.size + 1, 3, none⟩) hlt1).trans b3
         have H2 := Lib.hid hbw2
         clear hb2 hbw2 f1_0 f1_1 f1_2 f1_3 f1_4 f1_5 f1_6 f1_7)
      | (go_simp
         go_at_call 68
         with_reducible refine (HH.out.2.2.1 w2).mono ?_
         rintro e w3 ⟨rfl, hb3⟩
         have hbw3 : Below X.heap.size X w3 := H2.out.trans (hb3.mono H2.out.size)
         have f3_0 : w3.cell? ⟨w.heap.size, 0, none⟩ = some (.bool an_b) := (hbw3.cell (p := ⟨w.heap.size, 0, none⟩) hlt0).trans a0
         have f3_1 : w3.cell? ⟨w.heap.size, 1, none⟩ = some (.string an_s) := (hbw3.cell (p := ⟨w.heap.size, 1, none⟩) hlt0).trans a1
         have f3_2 : w3.cell? ⟨w.heap.size, 2, none⟩ = some (.bool ad_b) := (hbw3.cell (p := ⟨w.heap.size, 2, none⟩) hlt0).trans a2
         have f3_3 : w3.cell? ⟨w.heap.size, 3, none⟩ = some (.string ad_s) := (hbw3.cell (p := ⟨w.heap.size, 3, none⟩) hlt0).trans a3
         have f3_4 : w3.cell? ⟨w.heap.size + 1, 0, none⟩ = some (.bool bn_b) := (hbw3.cell (p := ⟨w.heap.size + 1, 0, none⟩) hlt1).trans b0
         have f3_5 : w3.cell? ⟨w.heap.size + 1, 1, none⟩ = some (.string bn_s) := (hbw3.cell (p := ⟨w.heap.size + 1, 1, none⟩) hlt1).trans b1
         have f3_6 : w3.cell? ⟨w.heap.size + 1, 2, none⟩ = some (.bool bd_b) := (hbw3.cell (p := ⟨w.heap.size + 1, 2, none⟩) hlt1).trans b2
         have f3_7 : w3.cell? ⟨w.heap.size + 1, 3, none⟩ = some (.string bd_s) := (hbw3.cell (p := ⟨w.heap.size + 1, 3, none⟩) hlt1).trans b3
         have H3 := Lib.hid hbw3
         clear hb3 hbw3 f2_0 f2_1 f2_2 f2_3 f2_4 f2_5 f2_6 f2_7)
      | (go_simp
         go_at_call 67
         with_reducible refine (HH.out.2.2.2.1 w3).mono ?_
         rintro e w4 ⟨rfl, hb4⟩
         have hbw4 : Below X.heap.size X w4 := H3.out.trans (hb4.mono H3.out.size)
         have f4_0 : w4.cell? ⟨w.heap.size, 0, none⟩ = some (.bool an_b) := (hbw4.cell (p := ⟨w.heap.size, 0, none⟩) hlt0).trans a0
         have f4_1 : w4.cell? ⟨w.heap.size, 1, none⟩ = some (.string an_s) := (hbw4.cell (p := ⟨w.heap.size, 1, none⟩) hlt0).trans a1
         have f4_2 : w4.cell? ⟨w.heap.size, 2, none⟩ = some (.bool ad_b) := (hbw4.cell (p := ⟨w.heap.size, 2, none⟩) hlt0).trans a2
         have f4_3 : w4.cell? ⟨w.heap.size, 3, none⟩ = some (.string ad_s) := (hbw4.cell (p := ⟨w.heap.size, 3, none⟩) hlt0).trans a3
         have f4_4 : w4.cell? ⟨w.heap.size + 1, 0, none⟩ = some (.bool bn_b) := (hbw4.cell (p := ⟨w.heap.size + 1, 0, none⟩) hlt1).trans b0
         have f4_5 : w4.cell? ⟨w.heap.size + 1, 1, none⟩ = some (.string bn_s) := (hbw4.cell (p := ⟨w.heap.size + 1, 1, none⟩) hlt1).trans b1
         have f4_6 : w4.cell? ⟨w.heap.size + 1, 2, none⟩ = some (.bool bd_b) := (hbw4.cell (p := ⟨w.heap.size + 1, 2, none⟩) hlt1).trans b2
         have f4_7 : w4.cell? ⟨w.heap.size + 1, 3, none⟩ = some (.string bd_s) := (hbw4.cell (p := ⟨w.heap.size + 1, 3, none⟩) hlt1).trans b3
         have H4 := Lib.hid hbw4
         clear hb4 hbw4 f3_0 f3_1 f3_2 f3_3 f3_4 f3_5 f3_6 f3_7)
      | (go_simp
         go_at_call 84
         with_reducible refine (HH.out.2.2.2.2 w4).mono ?_
         rintro e w5 ⟨rfl, hb5⟩
         have hbw5 : Below X.heap.size X w5 := H4.out.trans (hb5.mono H4.out.size)
         have f5_0 : w5.cell? ⟨w.heap.size, 0, none⟩ = some (.bool an_b) := (hbw5.cell (p := ⟨w.heap.size, 0, none⟩) hlt0).trans a0
         have f5_1 : w5.cell? ⟨w.heap.size, 1, none⟩ = some (.string an_s) := (hbw5.cell (p := ⟨w.heap.size, 1, none⟩) hlt0).trans a1
         have f5_2 : w5.cell? ⟨w.heap.size, 2, none⟩ = some (.bool ad_b) := (hbw5.cell (p := ⟨w.heap.size, 2, none⟩) hlt0).trans a2
         have f5_3 : w5.cell? ⟨w.heap.size, 3, none⟩ = some (.string ad_s) := (hbw5.cell (p := ⟨w.heap.size, 3, none⟩) hlt0).trans a3
         have f5_4 : w5.cell? ⟨w.heap.size + 1, 0, none⟩ = some (.bool bn_b) := (hbw5.cell (p := ⟨w.heap.size + 1, 0, none⟩) hlt1).trans b0
         have f5_5 : w5.cell? ⟨w.heap.size + 1, 1, none⟩ = some (.string bn_s) := (hbw5.cell (p := ⟨w.heap.size + 1, 1, none⟩) hlt1).trans b1
         have f5_6 : w5.cell? ⟨w.heap.size + 1, 2, none⟩ = some (.bool bd_b) := (hbw5.cell (p := ⟨w.heap.size + 1, 2, none⟩) hlt1).trans b2
         have f5_7 : w5.cell? ⟨w.heap.size + 1, 3, none⟩ = some (.string bd_s) := (hbw5.cell (p := ⟨w.heap.size + 1, 3, none⟩) hlt1).trans b3
         have hk9 := HX.out.2.1.below hbw5 hlt2
         obtain ⟨⟨r0, r1, r2, r3⟩, r4, r5, r6, r7⟩ := num_cells hk9
         have H9 := Lib.hid (And.intro hk9 (HX.out.1.trans (hbw5.mono HX.out.1.size)))
         clear hb5 hbw5 hk9 f4_0 f4_1 f4_2 f4_3 f4_4 f4_5 f4_6 f4_7)
      | fail)
  all_goals go_wp2_with fail
  all_goals
    obtain ⟨Z, hZ⟩ : ∃ Z, Z = (((w5.setCell ⟨w.heap.size + 1 + 1, 0, none⟩ (.bool rn_b)).setCell ⟨w.heap.size + 1 + 1, 1, none⟩ (.string rn_s)).setCell ⟨w.heap.size + 1 + 1, 2, none⟩ (.bool rd_b)).setCell ⟨w.heap.size + 1 + 1, 3, none⟩ (.string rd_s) := ⟨_, rfl⟩
    obtain ⟨⟨z0, z1, z2, z3⟩, z4⟩ := num_put _ _ _ _ hZ H9.out.1 H9.out.2 (by omega)
    rw [← hZ]
    refine bodyPost_ret (v := .agg #[.bool rn_b, .string rn_s, .bool rd_b, .string rd_s]) (by simp [results, Tryz.results64, go_sem, z0, z1, z2, z3]) rfl ⟨rfl, z4⟩
set_option maxRecDepth 100000 in
set_option maxHeartbeats 8000000 in
theorem cmp_num (an ad bn bd : Int) (da db : Nat) (w : World) (hda : (if ad = 0 then 1 else ad) = (da : Int)) (hdb : (if bd = 0 then 1 else bd) = (db : Int)) (h1 : (digN an.natAbs).length ≤ 500) (h2 : (digN bn.natAbs).length ≤ 500) (h3 : (digN da).length ≤ 500) (h4 : (digN db).length ≤ 500) :
    Calls Tryz.prog 49 #[NumV an ad, NumV bn bd] w fun e w' => e = .returned (.int .i64 (cmpI (an * (db : Int)) (bn * (da : Int)))) ∧ Below w.heap.size w w' := by
  have HDA := fun W => den_any an ad W
  have HDB := fun W => den_any bn bd W
  rw [hda] at HDA
  rw [hdb] at HDB
  have e1 : (digN ((da : Int)).natAbs).length ≤ 500 := by rw [Int.natAbs_natCast]; exact h3
  have e2 : (digN ((db : Int)).natAbs).length ≤ 500 := by rw [Int.natAbs_natCast]; exact h4
  have l1 := len_mul h1 e2
  have l2 := len_mul h2 e1
  have HM1 := fun W => xmul_any an (db : Int) W (by omega) (by omega)
  have HM3 := fun W => xmul_any bn (da : Int) W (by omega) (by omega)
  have HC := fun W => lcmp_any (an * (db : Int)) (bn * (da : Int)) W (by omega) (by omega)
  clear l1 l2 e1 e2
  obtain ⟨C, hC⟩ : ∃ C, cmpI (an * (db : Int)) (bn * (da : Int)) = C := ⟨_, rfl⟩
  rw [hC] at HC ⊢
  obtain ⟨an_s, ad_s, hNA, hLan, -⟩ := num_open an ad
  obtain ⟨bn_s, bd_s, hNB, hLbn, -⟩ := num_open bn bd
  obtain ⟨da_s, -, hLda, -⟩ := lng_open (da : Int)
  obtain ⟨db_s, -, hLdb, -⟩ := lng_open (db : Int)
  obtain ⟨A_s, -, hLA, -⟩ := lng_open (an * (db : Int))
  obtain ⟨B_s, -, hLB, -⟩ := lng_open (bn * (da : Int))
  generalize decide (an * (db : Int) < 0) = A_b at hLA
  generalize decide (bn * (da : Int) < 0) = B_b at hLB
  generalize decide (an < 0) = an_b at *
  generalize decide (ad < 0) = ad_b at *
  generalize decide (bn < 0) = bn_b at *
  generalize decide (bd < 0) = bd_b at *
  generalize decide ((da : Int) < 0) = da_b at *
  generalize decide ((db : Int) < 0) = db_b at *
  rw [hNA] at HDA ⊢
  rw [hNB] at HDB ⊢
  rw [hLda] at HDA HM3
  rw [hLdb] at HDB HM1
  rw [hLan, hLA] at HM1
  rw [hLbn, hLB] at HM3
  rw [hLA, hLB] at HC
  have HH := Lib.hid (And.intro HM1 (And.intro HDA (And.intro HDB (And.intro HM3 HC))))
  clear HM1 HDA HDB HM3 HC hC hNA hNB hLan hLbn hLda hLdb hLA hLB hda hdb h1 h2 h3 h4
  go_enter Tryz.func49, Tryz.ntmps49
  go_upto_region 1 with fail
  have hbx := boxesN w 88 88 #[.bool an_b, .string an_s, .bool ad_b, .string ad_s] #[.bool bn_b, .string bn_s, .bool bd_b, .string bd_s]
  generalize (w.alloc (.cells #[.bool an_b, .string an_s, .bool ad_b, .string ad_s] 88)).alloc (.cells #[.bool bn_b, .string bn_s, .bool bd_b, .string bd_s] 88) = X at hbx ⊢
  obtain ⟨hx, hsz, k0, k1⟩ := hbx
  obtain ⟨⟨a0, a1, a2, a3⟩, -⟩ := num_cells k0
  obtain ⟨⟨b0, b1, b2, b3⟩, -⟩ := num_cells k1
  have HX := Lib.hid hx
  have hlt0 : w.heap.size < X.heap.size := by omega
  have hlt1 : w.heap.size + 1 < X.heap.size := by omega
  clear hx k0 k1 hsz
  go_region_held3 (fun w' => w'.cell? ⟨w.heap.size, 0, none⟩ = some (.bool an_b) ∧ w'.cell? ⟨w.heap.size, 1, none⟩ = some (.string an_s) ∧ w'.cell? ⟨w.heap.size, 2, none⟩ = some (.bool ad_b) ∧ w'.cell? ⟨w.heap.size, 3, none⟩ = some (.string ad_s) ∧ w'.cell? ⟨w.heap.size + 1, 0, none⟩ = some (.bool bn_b) ∧ w'.cell? ⟨w.heap.size + 1, 1, none⟩ = some (.string bn_s) ∧ w'.cell? ⟨w.heap.size + 1, 2, none⟩ = some (.bool bd_b) ∧ w'.cell? ⟨w.heap.size + 1, 3, none⟩ = some (.string bd_s))
    ((try dsimp only) <;> (repeat' apply And.intro) <;> (first | go_keep | (repeat (first | (with_reducible assumption) | (with_reducible refine cell_skip (by dsimp only; omega) ?_) | (with_reducible refine cell_old (by dsimp only; omega) ?_)))))
    (first
      | (go_simp
         go_at_call 68
         with_reducible refine (HH.out.2.2.1 X.drew).mono ?_
         rintro e w1 ⟨rfl, hb1⟩
         have hbw1 : Below X.heap.size X w1 := below_of_drew hb1
         have f1_0 : w1.cell? ⟨w.heap.size, 0, none⟩ = some (.bool an_b) := (hbw1.cell (p := ⟨w.heap.size, 0, none⟩) hlt0).trans a0
         have f1_1 : w1.cell? ⟨w.heap.size, 1, none⟩ = some (.string an_s) := (hbw1.cell (p := ⟨w.heap.size, 1, none⟩) hlt0).trans a1
         have f1_2 : w1.cell? ⟨w.heap.size, 2, none⟩ = some (.bool ad_b) := (hbw1.cell (p := ⟨w.heap.size, 2, none⟩) hlt0).trans a2
         have f1_3 : w1.cell? ⟨w.heap.size, 3, none⟩ = some (.string ad_s) := (hbw1.cell (p := ⟨w.heap.size, 3, none⟩) hlt0).trans a3
         have f1_4 : w1.cell? ⟨w.heap.size + 1, 0, none⟩ = some (.bool bn_b) := (hbw1.cell (p := ⟨w.heap.size + 1, 0, none⟩) hlt1).trans b0
         have f1_5 : w1.cell? ⟨w.heap.size + 1, 1, none⟩ = some (.string bn_s) := (hbw1.cell (p := ⟨w.heap.size + 1, 1, none⟩) hlt1).trans b1
         have f1_6 : w1.cell? ⟨w.heap.size + 1, 2, none⟩ = some (.bool bd_b) := (hbw1.cell (p := ⟨w.heap.size + 1, 2, none⟩) hlt1).trans b2
         have f1_7 : w1.cell? ⟨w.heap.size + 1, 3, none⟩ = some (.string bd_s) := (hbw1.cell (p := ⟨w.heap.size + 1, 3, none⟩) hlt1).trans b3
         have H1 := Lib.hid hbw1
         clear hb1 hbw1)
      | (go_simp
         go_at_call 67
         with_reducible refine (HH.out.1 w1).mono ?_
         rintro e w2 ⟨rfl, hb2⟩
         have hbw2 : Below X.heap.size X w2 := H1.out.trans (hb2.mono H1.out.size)
         have f2_0 : w2.cell? ⟨w.heap.size, 0, none⟩ = some (.bool an_b) := (hbw2.cell (p := ⟨w.heap.size, 0, none⟩) hlt0).trans a0
         have f2_1 : w2.cell? ⟨w.heap.size, 1, none⟩ = some (.string an_s) := (hbw2.cell (p := ⟨w.heap.size, 1, none⟩) hlt0).trans a1
         have f2_2 : w2.cell? ⟨w.heap.size, 2, none⟩ = some (.bool ad_b) := (hbw2.cell (p := ⟨w.heap.size, 2, none⟩) hlt0).trans a2
         have f2_3 : w2.cell? ⟨w.heap.size, 3, none⟩ = some (.string ad_s) := (hbw2.cell (p := ⟨w.heap.size, 3, none⟩) hlt0).trans a3
         have f2_4 : w2.cell? ⟨w.heap.size + 1, 0, none⟩ = some (.bool bn_b) := (hbw2.cell (p := ⟨w.heap.size + 1, 0, none⟩) hlt1).trans b0
         have f2_5 : w2.cell? ⟨w.heap.size + 1, 1, none⟩ = some (.string bn_s) := (hbw2.cell (p := ⟨w.heap.size + 1, 1, none⟩) hlt1).trans b1
         have f2_6 : w2.cell? ⟨w.heap.size + 1, 2, none⟩ = some (.bool bd_b) := (hbw2.cell (p := ⟨w.heap.size + 1, 2, none⟩) hlt1).trans b2
         have f2_7 : w2.cell? ⟨w.heap.size + 1, 3, none⟩ = some (.string bd_s) := (hbw2.cell (p := ⟨w.heap.size + 1, 3, none⟩) hlt1).trans b3
         have H2 := Lib.hid hbw2
         clear hb2 hbw2 f1_0 f1_1 f1_2 f1_3 f1_4 f1_5 f1_6 f1_7)
      | (go_simp
         go_at_call 68
         with_reducible refine (HH.out.2.1 w2).mono ?_
         rintro e w3 ⟨rfl, hb3⟩
         have hbw3 : Below X.heap.size X w3 := H2.out.trans (hb3.mono H2.out.size)
         have f3_0 : w3.cell? ⟨w.heap.size, 0, none⟩ = some (.bool an_b) := (hbw3.cell (p := ⟨w.heap.size, 0, none⟩) hlt0).trans a0
         have f3_1 : w3.cell? ⟨w.heap.size, 1, none⟩ = some (.string an_s) := (hbw3.cell (p := ⟨w.heap.size, 1, none⟩) hlt0).trans a1
         have f3_2 : w3.cell? ⟨w.heap.size, 2, none⟩ = some (.bool ad_b) := (hbw3.cell (p := ⟨w.heap.size, 2, none⟩) hlt0).trans a2
         have f3_3 : w3.cell? ⟨w.heap.size, 3, none⟩ = some (.string ad_s) := (hbw3.cell (p := ⟨w.heap.size, 3, none⟩) hlt0).trans a3
         have f3_4 : w3.cell? ⟨w.heap.size + 1, 0, none⟩ = some (.bool bn_b) := (hbw3.cell (p := ⟨w.heap.size + 1, 0, none⟩) hlt1).trans b0
         have f3_5 : w3.cell? ⟨w.heap.size + 1, 1, none⟩ = some (.string bn_s) := (hbw3.cell (p := ⟨w.heap.size + 1, 1, none⟩) hlt1).trans b1
         have f3_6 : w3.cell? ⟨w.heap.size + 1, 2, none⟩ = some (.bool bd_b) := (hbw3.cell (p := ⟨w.heap.size + 1, 2, none⟩) hlt1).trans b2
         have f3_7 : w3.cell? ⟨w.heap.size + 1, 3, none⟩ = some (.string bd_s) := (hbw3.cell (p := ⟨w.heap.size + 1, 3, none⟩) hlt1).trans b3
         have H3 := Lib.hid hbw3
         clear hb3 hbw3 f2_0 f2_1 f2_2 f2_3 f2_4 f2_5 f2_6 f2_7)
      | (go_simp
         go_at_call 67
         with_reducible refine (HH.out.2.2.2.1 w3).mono ?_
         rintro e w4 ⟨rfl, hb4⟩
         have hbw4 : Below X.heap.size X w4 := H3.out.trans (hb4.mono H3.out.size)
         have f4_0 : w4.cell? ⟨w.heap.size, 0, none⟩ = some (.bool an_b) := (hbw4.cell (p := ⟨w.heap.size, 0, none⟩) hlt0).trans a0
         have f4_1 : w4.cell? ⟨w.heap.size, 1, none⟩ = some (.string an_s) := (hbw4.cell (p := ⟨w.heap.size, 1, none⟩) hlt0).trans a1
         have f4_2 : w4.cell? ⟨w.heap.size, 2, none⟩ = some (.bool ad_b) := (hbw4.cell (p := ⟨w.heap.size, 2, none⟩) hlt0).trans a2
         have f4_3 : w4.cell? ⟨w.heap.size, 3, none⟩ = some (.string ad_s) := (hbw4.cell (p := ⟨w.heap.size, 3, none⟩) hlt0).trans a3
         have f4_4 : w4.cell? ⟨w.heap.size + 1, 0, none⟩ = some (.bool bn_b) := (hbw4.cell (p := ⟨w.heap.size + 1, 0, none⟩) hlt1).trans b0
         have f4_5 : w4.cell? ⟨w.heap.size + 1, 1, none⟩ = some (.string bn_s) := (hbw4.cell (p := ⟨w.heap.size + 1, 1, none⟩) hlt1).trans b1
         have f4_6 : w4.cell? ⟨w.heap.size + 1, 2, none⟩ = some (.bool bd_b) := (hbw4.cell (p := ⟨w.heap.size + 1, 2, none⟩) hlt1).trans b2
         have f4_7 : w4.cell? ⟨w.heap.size + 1, 3, none⟩ = some (.string bd_s) := (hbw4.cell (p := ⟨w.heap.size + 1, 3, none⟩) hlt1).trans b3
         have H4 := Lib.hid hbw4
         clear hb4 hbw4 f3_0 f3_1 f3_2 f3_3 f3_4 f3_5 f3_6 f3_7)
      | (go_simp
         go_at_call 66
         with_reducible refine (HH.out.2.2.2.2 w4).mono ?_
         rintro e w5 ⟨rfl, hb5⟩
         have hbw5 : Below X.heap.size X w5 := H4.out.trans (hb5.mono H4.out.size)
         have f5_0 : w5.cell? ⟨w.heap.size, 0, none⟩ = some (.bool an_b) := (hbw5.cell (p := ⟨w.heap.size, 0, none⟩) hlt0).trans a0
         have f5_1 : w5.cell? ⟨w.heap.size, 1, none⟩ = some (.string an_s) := (hbw5.cell (p := ⟨w.heap.size, 1, none⟩) hlt0).trans a1
         have f5_2 : w5.cell? ⟨w.heap.size, 2, none⟩ = some (.bool ad_b) := (hbw5.cell (p := ⟨w.heap.size, 2, none⟩) hlt0).trans a2
         have f5_3 : w5.cell? ⟨w.heap.size, 3, none⟩ = some (.string ad_s) := (hbw5.cell (p := ⟨w.heap.size, 3, none⟩) hlt0).trans a3
         have f5_4 : w5.cell? ⟨w.heap.size + 1, 0, none⟩ = some (.bool bn_b) := (hbw5.cell (p := ⟨w.heap.size + 1, 0, none⟩) hlt1).trans b0
         have f5_5 : w5.cell? ⟨w.heap.size + 1, 1, none⟩ = some (.string bn_s) := (hbw5.cell (p := ⟨w.heap.size + 1, 1, none⟩) hlt1).trans b1
         have f5_6 : w5.cell? ⟨w.heap.size + 1, 2, none⟩ = some (.bool bd_b) := (hbw5.cell (p := ⟨w.heap.size + 1, 2, none⟩) hlt1).trans b2
         have f5_7 : w5.cell? ⟨w.heap.size + 1, 3, none⟩ = some (.string bd_s) := (hbw5.cell (p := ⟨w.heap.size + 1, 3, none⟩) hlt1).trans b3
         have H5 := Lib.hid hbw5
         clear hb5 hbw5 f4_0 f4_1 f4_2 f4_3 f4_4 f4_5 f4_6 f4_7)
      | fail)
  all_goals
    go_wp2_with fail
    go_ret
    exact ⟨rfl, HX.out.trans (H5.out.mono HX.out.size)⟩
end Go.Proofs.YtkkpfdfoojcljaaGreat
namespace Go.Proofs.YtkkpfdfoojcljaaGreat
open Go.RowKit

set_option maxRecDepth 100000 in
set_option maxHeartbeats 8000000 in
theorem plus_num (an ad bn bd : Int) (da db : Nat) (w : World) (hda : (if ad = 0 then 1 else ad) = (da : Int)) (hdb : (if bd = 0 then 1 else bd) = (db : Int)) (hpa : 0 < da) (hpb : 0 < db) (h1 : (digN an.natAbs).length ≤ 500) (h2 : (digN bn.natAbs).length ≤ 500) (h3 : (digN da).length ≤ 500) (h4 : (digN db).length ≤ 500) :
    Calls Tryz.prog 63 #[NumV an ad, NumV bn bd] w fun e w' => e = .returned (NumV ((an * (db : Int) + bn * (da : Int)) / ((Nat.gcd (an * (db : Int) + bn * (da : Int)).natAbs (da * db) : Nat) : Int)) ((da * db / Nat.gcd (an * (db : Int) + bn * (da : Int)).natAbs (da * db) : Nat) : Int)) ∧ Below w.heap.size w w' := by
  have HDA := fun W => den_any an ad W
  have HDB := fun W => den_any bn bd W
  rw [hda] at HDA
  rw [hdb] at HDB
  have e1 : (digN ((da : Int)).natAbs).length ≤ 500 := by rw [Int.natAbs_natCast]; exact h3
  have e2 : (digN ((db : Int)).natAbs).length ≤ 500 := by rw [Int.natAbs_natCast]; exact h4
  have l1 := len_mul h1 e2
  have l2 := len_mul h2 e1
  have l3 := len_sum (k := 1000) l1 l2
  have l4 := len_mul e1 e2
  have HM1 := fun W => xmul_any an (db : Int) W (by omega) (by omega)
  have HM3 := fun W => xmul_any bn (da : Int) W (by omega) (by omega)
  have HAD := fun W => xadd_any (an * (db : Int)) (bn * (da : Int)) W (by omega) (by omega)
  have HM2 := fun W => xmul_any (da : Int) (db : Int) W (by omega) (by omega)
  have HMD := fun W => xmade_any (an * (db : Int) + bn * (da : Int)) (da * db) W (by omega) (by
    rw [← Int.natCast_mul, Int.natAbs_natCast] at l4
    omega) (Nat.mul_pos hpa hpb)
  clear l1 l2 l3 l4 e1 e2
  obtain ⟨rn_s, rd_s, hR, -, -⟩ := num_open ((an * (db : Int) + bn * (da : Int)) / ((Nat.gcd (an * (db : Int) + bn * (da : Int)).natAbs (da * db) : Nat) : Int)) ((da * db / Nat.gcd (an * (db : Int) + bn * (da : Int)).natAbs (da * db) : Nat) : Int)
  rw [hR] at HMD ⊢
  generalize decide ((an * (db : Int) + bn * (da : Int)) / ((Nat.gcd (an * (db : Int) + bn * (da : Int)).natAbs (da * db) : Nat) : Int) < 0) = rn_b at HMD hR ⊢
  generalize decide (((da * db / Nat.gcd (an * (db : Int) + bn * (da : Int)).natAbs (da * db) : Nat) : Int) < 0) = rd_b at HMD hR ⊢
  obtain ⟨an_s, ad_s, hNA, hLan, -⟩ := num_open an ad
  obtain ⟨bn_s, bd_s, hNB, hLbn, -⟩ := num_open bn bd
  obtain ⟨da_s, -, hLda, -⟩ := lng_open (da : Int)
  obtain ⟨db_s, -, hLdb, -⟩ := lng_open (db : Int)
  obtain ⟨A_s, -, hLA, -⟩ := lng_open (an * (db : Int))
  obtain ⟨B_s, -, hLB, -⟩ := lng_open (bn * (da : Int))
  obtain ⟨N_s, -, hLN, -⟩ := lng_open (an * (db : Int) + bn * (da : Int))
  obtain ⟨D_s, -, hLD, -⟩ := lng_open ((da * db : Nat) : Int)
  generalize decide (an * (db : Int) + bn * (da : Int) < 0) = N_b at hLN
  generalize decide (an * (db : Int) < 0) = A_b at hLA
  generalize decide (bn * (da : Int) < 0) = B_b at hLB
  generalize decide (((da * db : Nat) : Int) < 0) = D_b at hLD
  generalize decide (an < 0) = an_b at *
  generalize decide (ad < 0) = ad_b at *
  generalize decide (bn < 0) = bn_b at *
  generalize decide (bd < 0) = bd_b at *
  generalize decide ((da : Int) < 0) = da_b at *
  generalize decide ((db : Int) < 0) = db_b at *
  rw [← Int.natCast_mul] at HM2
  rw [hNA] at HDA ⊢
  rw [hNB] at HDB ⊢
  rw [hLda] at HDA HM2 HM3
  rw [hLdb] at HDB HM2 HM1
  rw [hLan, hLA] at HM1
  rw [hLbn, hLB] at HM3
  rw [hLA, hLB, hLN] at HAD
  rw [hLD] at HM2
  rw [hLN, hLD] at HMD
  have HH := Lib.hid (And.intro HM1 (And.intro HDA (And.intro HDB (And.intro HM2 (And.intro HM3 (And.intro HAD HMD))))))
  clear HM1 HDA HDB HM2 HM3 HAD HMD hR hNA hNB hLan hLbn hLda hLdb hLN hLD hLA hLB hda hdb hpa hpb h1 h2 h3 h4
  go_enter Tryz.func63, Tryz.ntmps63
  go_upto_region 1 with fail
  have hbx := boxesNN w 88 #[.bool an_b, .string an_s, .bool ad_b, .string ad_s] #[.bool bn_b, .string bn_s, .bool bd_b, .string bd_s] #[.bool false, .string ⟨#[]⟩, .bool false, .string ⟨#[]⟩]
  generalize ((w.alloc (.cells #[.bool an_b, .string an_s, .bool ad_b, .string ad_s] 88)).alloc (.cells #[.bool bn_b, .string bn_s, .bool bd_b, .string bd_s] 88)).alloc (.cells #[.bool false, .string ⟨#[]⟩, .bool false, .string ⟨#[]⟩] 88) = X at hbx ⊢
  obtain ⟨hx, hsz, k0, k1, k2⟩ := hbx
  obtain ⟨⟨a0, a1, a2, a3⟩, -⟩ := num_cells k0
  obtain ⟨⟨b0, b1, b2, b3⟩, -⟩ := num_cells k1
  have HX := Lib.hid (And.intro hx (And.intro k2 hsz))
  have hlt0 : w.heap.size < X.heap.size := by omega
  have hlt1 : w.heap.size + 1 < X.heap.size := by omega
  have hlt2 : w.heap.size + 1 + 1 < X.heap.size := by omega
  clear hx k0 k1 k2 hsz
  go_region_held3 (fun w' => w'.cell? ⟨w.heap.size, 0, none⟩ = some (.bool an_b) ∧ w'.cell? ⟨w.heap.size, 1, none⟩ = some (.string an_s) ∧ w'.cell? ⟨w.heap.size, 2, none⟩ = some (.bool ad_b) ∧ w'.cell? ⟨w.heap.size, 3, none⟩ = some (.string ad_s) ∧ w'.cell? ⟨w.heap.size + 1, 0, none⟩ = some (.bool bn_b) ∧ w'.cell? ⟨w.heap.size + 1, 1, none⟩ = some (.string bn_s) ∧ w'.cell? ⟨w.heap.size + 1, 2, none⟩ = some (.bool bd_b) ∧ w'.cell? ⟨w.heap.size + 1, 3, none⟩ = some (.string bd_s))
    ((try dsimp only) <;> (repeat' apply And.intro) <;> (first | go_keep | (repeat (first | (with_reducible assumption) | (with_reducible refine cell_skip (by dsimp only; omega) ?_) | (with_reducible refine cell_old (by dsimp only; omega) ?_)))))
    (first
      | (go_simp
         go_at_call 68
         with_reducible refine (HH.out.2.2.1 X.drew).mono ?_
         rintro e w1 ⟨rfl, hb1⟩
         have hbw1 : Below X.heap.size X w1 := below_of_drew hb1
         have f1_0 : w1.cell? ⟨w.heap.size, 0, none⟩ = some (.bool an_b) := (hbw1.cell (p := ⟨w.heap.size, 0, none⟩) hlt0).trans a0
         have f1_1 : w1.cell? ⟨w.heap.size, 1, none⟩ = some (.string an_s) := (hbw1.cell (p := ⟨w.heap.size, 1, none⟩) hlt0).trans a1
         have f1_2 : w1.cell? ⟨w.heap.size, 2, none⟩ = some (.bool ad_b) := (hbw1.cell (p := ⟨w.heap.size, 2, none⟩) hlt0).trans a2
         have f1_3 : w1.cell? ⟨w.heap.size, 3, none⟩ = some (.string ad_s) := (hbw1.cell (p := ⟨w.heap.size, 3, none⟩) hlt0).trans a3
         have f1_4 : w1.cell? ⟨w.heap.size + 1, 0, none⟩ = some (.bool bn_b) := (hbw1.cell (p := ⟨w.heap.size + 1, 0, none⟩) hlt1).trans b0
         have f1_5 : w1.cell? ⟨w.heap.size + 1, 1, none⟩ = some (.string bn_s) := (hbw1.cell (p := ⟨w.heap.size + 1, 1, none⟩) hlt1).trans b1
         have f1_6 : w1.cell? ⟨w.heap.size + 1, 2, none⟩ = some (.bool bd_b) := (hbw1.cell (p := ⟨w.heap.size + 1, 2, none⟩) hlt1).trans b2
         have f1_7 : w1.cell? ⟨w.heap.size + 1, 3, none⟩ = some (.string bd_s) := (hbw1.cell (p := ⟨w.heap.size + 1, 3, none⟩) hlt1).trans b3
         have H1 := Lib.hid hbw1
         clear hb1 hbw1)
      | (go_simp
         go_at_call 67
         with_reducible refine (HH.out.1 w1).mono ?_
         rintro e w2 ⟨rfl, hb2⟩
         have hbw2 : Below X.heap.size X w2 := H1.out.trans (hb2.mono H1.out.size)
         have f2_0 : w2.cell? ⟨w.heap.size, 0, none⟩ = some (.bool an_b) := (hbw2.cell (p := ⟨w.heap.size, 0, none⟩) hlt0).trans a0
         have f2_1 : w2.cell? ⟨w.heap.size, 1, none⟩ = some (.string an_s) := (hbw2.cell (p := ⟨w.heap.size, 1, none⟩) hlt0).trans a1
         have f2_2 : w2.cell? ⟨w.heap.size, 2, none⟩ = some (.bool ad_b) := (hbw2.cell (p := ⟨w.heap.size, 2, none⟩) hlt0).trans a2
         have f2_3 : w2.cell? ⟨w.heap.size, 3, none⟩ = some (.string ad_s) := (hbw2.cell (p := ⟨w.heap.size, 3, none⟩) hlt0).trans a3
         have f2_4 : w2.cell? ⟨w.heap.size + 1, 0, none⟩ = some (.bool bn_b) := (hbw2.cell (p := ⟨w.heap.size + 1, 0, none⟩) hlt1).trans b0
         have f2_5 : w2.cell? ⟨w.heap.size + 1, 1, none⟩ = some (.string bn_s) := (hbw2.cell (p := ⟨w.heap.size + 1, 1, none⟩) hlt1).trans b1
         have f2_6 : w2.cell? ⟨w.heap.size + 1, 2, none⟩ = some (.bool bd_b) := (hbw2.cell (p := ⟨w.heap.size + 1, 2, none⟩) hlt1).trans b2
         have f2_7 : w2.cell? ⟨w.heap.size + 1, 3, none⟩ = some (.string bd_s) := (hbw2.cell (p := ⟨w.heap.size + 1, 3, none⟩) hlt1).trans b3
         have H2 := Lib.hid hbw2
         clear hb2 hbw2 f1_0 f1_1 f1_2 f1_3 f1_4 f1_5 f1_6 f1_7)
      | (go_simp
         go_at_call 68
         with_reducible refine (HH.out.2.1 w2).mono ?_
         rintro e w3 ⟨rfl, hb3⟩
         have hbw3 : Below X.heap.size X w3 := H2.out.trans (hb3.mono H2.out.size)
         have f3_0 : w3.cell? ⟨w.heap.size, 0, none⟩ = some (.bool an_b) := (hbw3.cell (p := ⟨w.heap.size, 0, none⟩) hlt0).trans a0
         have f3_1 : w3.cell? ⟨w.heap.size, 1, none⟩ = some (.string an_s) := (hbw3.cell (p := ⟨w.heap.size, 1, none⟩) hlt0).trans a1
         have f3_2 : w3.cell? ⟨w.heap.size, 2, none⟩ = some (.bool ad_b) := (hbw3.cell (p := ⟨w.heap.size, 2, none⟩) hlt0).trans a2
         have f3_3 : w3.cell? ⟨w.heap.size, 3, none⟩ = some (.string ad_s) := (hbw3.cell (p := ⟨w.heap.size, 3, none⟩) hlt0).trans a3
         have f3_4 : w3.cell? ⟨w.heap.size + 1, 0, none⟩ = some (.bool bn_b) := (hbw3.cell (p := ⟨w.heap.size + 1, 0, none⟩) hlt1).trans b0
         have f3_5 : w3.cell? ⟨w.heap.size + 1, 1, none⟩ = some (.string bn_s) := (hbw3.cell (p := ⟨w.heap.size + 1, 1, none⟩) hlt1).trans b1
         have f3_6 : w3.cell? ⟨w.heap.size + 1, 2, none⟩ = some (.bool bd_b) := (hbw3.cell (p := ⟨w.heap.size + 1, 2, none⟩) hlt1).trans b2
         have f3_7 : w3.cell? ⟨w.heap.size + 1, 3, none⟩ = some (.string bd_s) := (hbw3.cell (p := ⟨w.heap.size + 1, 3, none⟩) hlt1).trans b3
         have H3 := Lib.hid hbw3
         clear hb3 hbw3 f2_0 f2_1 f2_2 f2_3 f2_4 f2_5 f2_6 f2_7)
      | (go_simp
         go_at_call 67
         with_reducible refine (HH.out.2.2.2.2.1 w3).mono ?_
         rintro e w4 ⟨rfl, hb4⟩
         have hbw4 : Below X.heap.size X w4 := H3.out.trans (hb4.mono H3.out.size)
         have f4_0 : w4.cell? ⟨w.heap.size, 0, none⟩ = some (.bool an_b) := (hbw4.cell (p := ⟨w.heap.size, 0, none⟩) hlt0).trans a0
         have f4_1 : w4.cell? ⟨w.heap.size, 1, none⟩ = some (.string an_s) := (hbw4.cell (p := ⟨w.heap.size, 1, none⟩) hlt0).trans a1
         have f4_2 : w4.cell? ⟨w.heap.size, 2, none⟩ = some (.bool ad_b) := (hbw4.cell (p := ⟨w.heap.size, 2, none⟩) hlt0).trans a2
         have f4_3 : w4.cell? ⟨w.heap.size, 3, none⟩ = some (.string ad_s) := (hbw4.cell (p := ⟨w.heap.size, 3, none⟩) hlt0).trans a3
         have f4_4 : w4.cell? ⟨w.heap.size + 1, 0, none⟩ = some (.bool bn_b) := (hbw4.cell (p := ⟨w.heap.size + 1, 0, none⟩) hlt1).trans b0
         have f4_5 : w4.cell? ⟨w.heap.size + 1, 1, none⟩ = some (.string bn_s) := (hbw4.cell (p := ⟨w.heap.size + 1, 1, none⟩) hlt1).trans b1
         have f4_6 : w4.cell? ⟨w.heap.size + 1, 2, none⟩ = some (.bool bd_b) := (hbw4.cell (p := ⟨w.heap.size + 1, 2, none⟩) hlt1).trans b2
         have f4_7 : w4.cell? ⟨w.heap.size + 1, 3, none⟩ = some (.string bd_s) := (hbw4.cell (p := ⟨w.heap.size + 1, 3, none⟩) hlt1).trans b3
         have H4 := Lib.hid hbw4
         clear hb4 hbw4 f3_0 f3_1 f3_2 f3_3 f3_4 f3_5 f3_6 f3_7)
      | (go_simp
         go_at_call 85
         with_reducible refine (HH.out.2.2.2.2.2.1 w4).mono ?_
         rintro e w5 ⟨rfl, hb5⟩
         have hbw5 : Below X.heap.size X w5 := H4.out.trans (hb5.mono H4.out.size)
         have f5_0 : w5.cell? ⟨w.heap.size, 0, none⟩ = some (.bool an_b) := (hbw5.cell (p := ⟨w.heap.size, 0, none⟩) hlt0).trans a0
         have f5_1 : w5.cell? ⟨w.heap.size, 1, none⟩ = some (.string an_s) := (hbw5.cell (p := ⟨w.heap.size, 1, none⟩) hlt0).trans a1
         have f5_2 : w5.cell? ⟨w.heap.size, 2, none⟩ = some (.bool ad_b) := (hbw5.cell (p := ⟨w.heap.size, 2, none⟩) hlt0).trans a2
         have f5_3 : w5.cell? ⟨w.heap.size, 3, none⟩ = some (.string ad_s) := (hbw5.cell (p := ⟨w.heap.size, 3, none⟩) hlt0).trans a3
         have f5_4 : w5.cell? ⟨w.heap.size + 1, 0, none⟩ = some (.bool bn_b) := (hbw5.cell (p := ⟨w.heap.size + 1, 0, none⟩) hlt1).trans b0
         have f5_5 : w5.cell? ⟨w.heap.size + 1, 1, none⟩ = some (.string bn_s) := (hbw5.cell (p := ⟨w.heap.size + 1, 1, none⟩) hlt1).trans b1
         have f5_6 : w5.cell? ⟨w.heap.size + 1, 2, none⟩ = some (.bool bd_b) := (hbw5.cell (p := ⟨w.heap.size + 1, 2, none⟩) hlt1).trans b2
         have f5_7 : w5.cell? ⟨w.heap.size + 1, 3, none⟩ = some (.string bd_s) := (hbw5.cell (p := ⟨w.heap.size + 1, 3, none⟩) hlt1).trans b3
         have H5 := Lib.hid hbw5
         clear hb5 hbw5 f4_0 f4_1 f4_2 f4_3 f4_4 f4_5 f4_6 f4_7)
      | (go_simp
         go_at_call 68
         with_reducible refine (HH.out.2.1 w5).mono ?_
         rintro e w6 ⟨rfl, hb6⟩
         have hbw6 : Below X.heap.size X w6 := H5.out.trans (hb6.mono H5.out.size)
         have f6_0 : w6.cell? ⟨w.heap.size, 0, none⟩ = some (.bool an_b) := (hbw6.cell (p := ⟨w.heap.size, 0, none⟩) hlt0).trans a0
         have f6_1 : w6.cell? ⟨w.heap.size, 1, none⟩ = some (.string an_s) := (hbw6.cell (p := ⟨w.heap.size, 1, none⟩) hlt0).trans a1
         have f6_2 : w6.cell? ⟨w.heap.size, 2, none⟩ = some (.bool ad_b) := (hbw6.cell (p := ⟨w.heap.size, 2, none⟩) hlt0).trans a2
         have f6_3 : w6.cell? ⟨w.heap.size, 3, none⟩ = some (.string ad_s) := (hbw6.cell (p := ⟨w.heap.size, 3, none⟩) hlt0).trans a3
         have f6_4 : w6.cell? ⟨w.heap.size + 1, 0, none⟩ = some (.bool bn_b) := (hbw6.cell (p := ⟨w.heap.size + 1, 0, none⟩) hlt1).trans b0
         have f6_5 : w6.cell? ⟨w.heap.size + 1, 1, none⟩ = some (.string bn_s) := (hbw6.cell (p := ⟨w.heap.size + 1, 1, none⟩) hlt1).trans b1
         have f6_6 : w6.cell? ⟨w.heap.size + 1, 2, none⟩ = some (.bool bd_b) := (hbw6.cell (p := ⟨w.heap.size + 1, 2, none⟩) hlt1).trans b2
         have f6_7 : w6.cell? ⟨w.heap.size + 1, 3, none⟩ = some (.string bd_s) := (hbw6.cell (p := ⟨w.heap.size + 1, 3, none⟩) hlt1).trans b3
         have H6 := Lib.hid hbw6
         clear hb6 hbw6 f5_0 f5_1 f5_2 f5_3 f5_4 f5_5 f5_6 f5_7)
      | (go_simp
         go_at_call 68
         with_reducible refine (HH.out.2.2.1 w6).mono ?_
         rintro e w7 ⟨rfl, hb7⟩
         have hbw7 : Below X.heap.size X w7 := H6.out.trans (hb7.mono H6.out.size)
         have f7_0 : w7.cell? ⟨w.heap.size, 0, none⟩ = some (.bool an_b) := (hbw7.cell (p := ⟨w.heap.size, 0, none⟩) hlt0).trans a0
         have f7_1 : w7.cell? ⟨w.heap.size, 1, none⟩ = some (.string an_s) := (hbw7.cell (p := ⟨w.heap.size, 1, none⟩) hlt0).trans a1
         have f7_2 : w7.cell? ⟨w.heap.size, 2, none⟩ = some (.bool ad_b) := (hbw7.cell (p := ⟨w.heap.size, 2, none⟩) hlt0).trans a2
         have f7_3 : w7.cell? ⟨w.heap.size, 3, none⟩ = some (.string ad_s) := (hbw7.cell (p := ⟨w.heap.size, 3, none⟩) hlt0).trans a3
         have f7_4 : w7.cell? ⟨w.heap.size + 1, 0, none⟩ = some (.bool bn_b) := (hbw7.cell (p := ⟨w.heap.size + 1, 0, none⟩) hlt1).trans b0
         have f7_5 : w7.cell? ⟨w.heap.size + 1, 1, none⟩ = some (.string bn_s) := (hbw7.cell (p := ⟨w.heap.size + 1, 1, none⟩) hlt1).trans b1
         have f7_6 : w7.cell? ⟨w.heap.size + 1, 2, none⟩ = some (.bool bd_b) := (hbw7.cell (p := ⟨w.heap.size + 1, 2, none⟩) hlt1).trans b2
         have f7_7 : w7.cell? ⟨w.heap.size + 1, 3, none⟩ = some (.string bd_s) := (hbw7.cell (p := ⟨w.heap.size + 1, 3, none⟩) hlt1).trans b3
         have H7 := Lib.hid hbw7
         clear hb7 hbw7 f6_0 f6_1 f6_2 f6_3 f6_4 f6_5 f6_6 f6_7)
      | (go_simp
         go_at_call 67
         with_reducible refine (HH.out.2.2.2.1 w7).mono ?_
         rintro e w8 ⟨rfl, hb8⟩
         have hbw8 : Below X.heap.size X w8 := H7.out.trans (hb8.mono H7.out.size)
         have f8_0 : w8.cell? ⟨w.heap.size, 0, none⟩ = some (.bool an_b) := (hbw8.cell (p := ⟨w.heap.size, 0, none⟩) hlt0).trans a0
         have f8_1 : w8.cell? ⟨w.heap.size, 1, none⟩ = some (.string an_s) := (hbw8.cell (p := ⟨w.heap.size, 1, none⟩) hlt0).trans a1
         have f8_2 : w8.cell? ⟨w.heap.size, 2, none⟩ = some (.bool ad_b) := (hbw8.cell (p := ⟨w.heap.size, 2, none⟩) hlt0).trans a2
         have f8_3 : w8.cell? ⟨w.heap.size, 3, none⟩ = some (.string ad_s) := (hbw8.cell (p := ⟨w.heap.size, 3, none⟩) hlt0).trans a3
         have f8_4 : w8.cell? ⟨w.heap.size + 1, 0, none⟩ = some (.bool bn_b) := (hbw8.cell (p := ⟨w.heap.size + 1, 0, none⟩) hlt1).trans b0
         have f8_5 : w8.cell? ⟨w.heap.size + 1, 1, none⟩ = some (.string bn_s) := (hbw8.cell (p := ⟨w.heap.size + 1, 1, none⟩) hlt1).trans b1
         have f8_6 : w8.cell? ⟨w.heap.size + 1, 2, none⟩ = some (.bool bd_b) := (hbw8.cell (p := ⟨w.heap.size + 1, 2, none⟩) hlt1).trans b2
         have f8_7 : w8.cell? ⟨w.heap.size + 1, 3, none⟩ = some (.string bd_s) := (hbw8.cell (p := ⟨w.heap.size + 1, 3, none⟩) hlt1).trans b3
         have H8 := Lib.hid hbw8
         clear hb8 hbw8 f7_0 f7_1 f7_2 f7_3 f7_4 f7_5 f7_6 f7_7)
      | (go_simp
         go_at_call 84
         with_reducible refine (HH.out.2.2.2.2.2.2 w8).mono ?_
         rintro e w9 ⟨rfl, hb9⟩
         have hbw9 : Below X.heap.size X w9 := H8.out.trans (hb9.mono H8.out.size)
         have f9_0 : w9.cell? ⟨w.heap.size, 0, none⟩ = some (.bool an_b) := (hbw9.cell (p := ⟨w.heap.size, 0, none⟩) hlt0).trans a0
         have f9_1 : w9.cell? ⟨w.heap.size, 1, none⟩ = some (.string an_s) := (hbw9.cell (p := ⟨w.heap.size, 1, none⟩) hlt0).trans a1
         have f9_2 : w9.cell? ⟨w.heap.size, 2, none⟩ = some (.bool ad_b) := (hbw9.cell (p := ⟨w.heap.size, 2, none⟩) hlt0).trans a2
         have f9_3 : w9.cell? ⟨w.heap.size, 3, none⟩ = some (.string ad_s) := (hbw9.cell (p := ⟨w.heap.size, 3, none⟩) hlt0).trans a3
         have f9_4 : w9.cell? ⟨w.heap.size + 1, 0, none⟩ = some (.bool bn_b) := (hbw9.cell (p := ⟨w.heap.size + 1, 0, none⟩) hlt1).trans b0
         have f9_5 : w9.cell? ⟨w.heap.size + 1, 1, none⟩ = some (.string bn_s) := (hbw9.cell (p := ⟨w.heap.size + 1, 1, none⟩) hlt1).trans b1
         have f9_6 : w9.cell? ⟨w.heap.size + 1, 2, none⟩ = some (.bool bd_b) := (hbw9.cell (p := ⟨w.heap.size + 1, 2, none⟩) hlt1).trans b2
         have f9_7 : w9.cell? ⟨w.heap.size + 1, 3, none⟩ = some (.string bd_s) := (hbw9.cell (p := ⟨w.heap.size + 1, 3, none⟩) hlt1).trans b3
         have hk9 := HX.out.2.1.below hbw9 hlt2
         obtain ⟨⟨r0, r1, r2, r3⟩, r4, r5, r6, r7⟩ := num_cells hk9
         have H9 := Lib.hid (And.intro hk9 (HX.out.1.trans (hbw9.mono HX.out.1.size)))
         clear hb9 hbw9 hk9 f8_0 f8_1 f8_2 f8_3 f8_4 f8_5 f8_6 f8_7)
      | fail)
  all_goals go_wp2_with fail
  all_goals
    obtain ⟨Z, hZ⟩ : ∃ Z, Z = (((w9.setCell ⟨w.heap.size + 1 + 1, 0, none⟩ (.bool rn_b)).setCell ⟨w.heap.size + 1 + 1, 1, none⟩ (.string rn_s)).setCell ⟨w.heap.size + 1 + 1, 2, none⟩ (.bool rd_b)).setCell ⟨w.heap.size + 1 + 1, 3, none⟩ (.string rd_s) := ⟨_, rfl⟩
    obtain ⟨⟨z0, z1, z2, z3⟩, z4⟩ := num_put _ _ _ _ hZ H9.out.1 H9.out.2 (by omega)
    rw [← hZ]
    refine bodyPost_ret (v := .agg #[.bool rn_b, .string rn_s, .bool rd_b, .string rd_s]) (by simp [results, Tryz.results63, go_sem, z0, z1, z2, z3]) rfl ⟨rfl, z4⟩
end Go.Proofs.YtkkpfdfoojcljaaGreat
