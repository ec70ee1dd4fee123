/- Walk: the value of a node, operator by operator: the program: comparisons, arrays. -/
import Derived.Test.YthooecojopfjbaaValM
import Derived.Test.YthooecojopfjbaaMeanH
import Derived.Deep.RegionHeld3
import Derived.StillTailTactics
namespace Go.Proofs.Ythooecojopfjbaa
open Go.RowKit

set_option maxRecDepth 100000 in
set_option maxHeartbeats 4000000 in
theorem val_9 (A1 A2 A3 : Option Addr) (n1 c1 n2 c2 n3 c3 : Nat) (AM : Option Addr) (nm cm : Nat) (s : Int) (K : Option Addr) (kn kc : Nat) (N D : Int) (nme : ByteArray) (AK : Option Addr) (ck : Nat) (b : Int) (nk : Nat) (vs : List ValueD) (ds : List DeclD) (ms : List MeaningD) (k : Nat) (m : MeaningD) (S0 : Nat → Prop) (w : World) (hvs : ArrB AtValue 4 w w.heap.size AK nk vs) (hnk : nk ≤ 1000) (hds : ArrB AtDecl 3 w w.heap.size A1 n1 ds) (hn1 : n1 ≤ 9223372036854775807) (hidx : idx (nameIs nme) ds 0 = k) (hms : ArrB AtMeaning 5 w w.heap.size AM nm ms) (hm : ms[k]? = some m) (hrl : m.rows.length ≤ 1000) (hal : ∀ e ∈ m.rows, e.args.length = vs.length ∧ e.to_.cells.length ≤ 1001) (hre : m.rest.cells.length ≤ 1001) :
    Calls Try.prog 75 #[.agg #[.slice A1 n1 c1, .slice A2 n2 c2, .slice A3 n3 c3], .agg #[.slice AM nm cm], .int .i64 s, .agg #[.int .i64 9, .slice K kn kc, .int .i64 N, .int .i64 D, .string nme], .slice AK nk ck, .int .i64 b] w (ValueP S0 w (some (toldF vs m.rest m.rows))) := by
  obtain ⟨X, hX, hI, hsX⟩ := ValI.start w #[.slice A1 n1 c1, .slice A2 n2 c2, .slice A3 n3 c3] #[.slice AM nm cm] #[.int .i64 9, .slice K kn kc, .int .i64 N, .int .i64 D, .string nme] (.slice AK nk ck)
  have x0 : X.cell? ⟨w.heap.size + 2, 0, none⟩ = some (.int .i64 9) := hI.node.cell 0
  have x2 : X.cell? ⟨w.heap.size + 2, 2, none⟩ = some (.int .i64 N) := hI.node.cell 2
  have x3 : X.cell? ⟨w.heap.size + 2, 3, none⟩ = some (.int .i64 D) := hI.node.cell 3
  have x1 : X.cell? ⟨w.heap.size + 2, 1, none⟩ = some (.slice K kn kc) := hI.node.cell 1
  have x4 : X.cell? ⟨w.heap.size + 2, 4, none⟩ = some (.string nme) := hI.node.cell 4
  have xk : X.cell? ⟨w.heap.size + 3, 0, none⟩ = some (.slice AK nk ck) := hI.kids.cell 0
  have hzx : w.heap.size + 4 < X.heap.size := hI.val.lt
  have HX := Lib.hid hX
  have HI := Lib.hid hI
  have hkm : k < ms.length := (List.getElem?_eq_some_iff.1 hm).1
  have hlm := hms.len
  have hkn : k < nm := by omega
  obtain ⟨bm, om, hx, A5, n5, c5, A6, n6, c6, rfl, hbm, q0, q1, q2, q3, q4, hrw, hrc, -, -⟩ := means_get (hms.below stays_meaning hI.below (Nat.le_refl _)) hkn
  have hmk : ms[k] = m := by have := hm; rw [List.getElem?_eq_getElem hkm] at this; injection this
  rw [hmk] at q1 q2 q4 hrw hrc
  have hlr := hrw.len
  have HF : Hid (∀ W : World, Below X.heap.size X W → Calls Try.prog 63 #[.agg #[.slice A1 n1 c1, .slice A2 n2 c2, .slice A3 n3 c3], .string nme] W fun e w' => e = .returned (.int .i64 (k : Int)) ∧ Below W.heap.size W w') := fun W hW =>
    find_any A1 A2 A3 n1 c1 n2 c2 n3 c3 nme ds k W ((hds.below stays_decl hI.below (Nat.le_refl _)).below stays_decl (hW.mono hI.below.size) (Nat.le_trans hI.below.size hW.size)) hn1 hidx
  have HT : Hid (∀ W : World, Below X.heap.size X W → Calls Try.prog 103 #[.agg #[.slice A5 n5 c5, .int .i64 m.rest.num, .int .i64 m.rest.den, .slice A6 n6 c6, .int .i64 m.rest.rest], .slice AK nk ck] W (NewV (toldF vs m.rest m.rows) W)) := fun W hW =>
    told_any A5 n5 c5 m.rows m.rest A6 n6 c6 AK nk ck vs W (ArrB.below (B := w.heap.size) hrw stays_entry (hW.mono hI.below.size) (Nat.le_trans hI.below.size hW.size)) (by omega) (ArrB.below (B := w.heap.size) hrc stays_cell (hW.mono hI.below.size) (Nat.le_trans hI.below.size hW.size)) ((hvs.below stays_value hI.below (Nat.le_refl _)).below stays_value (hW.mono hI.below.size) (Nat.le_trans hI.below.size hW.size)) hnk hal hre
  have y0 : X.cell? ⟨w.heap.size, 0, none⟩ = some (.slice A1 n1 c1) := hI.ask.cell 0
  have y1 : X.cell? ⟨w.heap.size, 1, none⟩ = some (.slice A2 n2 c2) := hI.ask.cell 1
  have y2 : X.cell? ⟨w.heap.size, 2, none⟩ = some (.slice A3 n3 c3) := hI.ask.cell 2
  have y3 : X.cell? ⟨w.heap.size + 1, 0, none⟩ = some (.slice (some ⟨bm, om, none⟩) nm cm) := hI.wld.cell 0
  have hbmX : bm < X.heap.size := Nat.lt_of_lt_of_le hbm hI.below.size
  have zw0 : w.heap.size < X.heap.size := by omega
  have zw1 : w.heap.size + 1 < X.heap.size := by omega
  have zw2 : w.heap.size + 2 < X.heap.size := by omega
  have zw3 : w.heap.size + 3 < X.heap.size := by omega
  have hkI : (k : Int) < (nm : Int) := by omega
  obtain ⟨V, hV⟩ : ∃ V, toldF vs m.rest m.rows = V := ⟨_, rfl⟩
  rw [hV] at HT ⊢
  obtain ⟨Vn, Vd, Vc, Vr⟩ := V
  generalize m.rest.num = mn at q1 HT
  generalize m.rest.den = md at q2 HT
  generalize m.rest.rest = mr at q4 HT
  have ne4 : w.heap.size + 4 ≠ bm := by omega
  clear hX hI hsX hvs hds hms hm hrl hal hre hkm hlm hx hmk hrw hrc hlr hidx hV
  go_enter Try.func75, Try.ntmps75
  go_upto_region 23 with fail
  rw [HX.out]
  clear x0 x1 x2 x3
  go_region_held3 (fun w' => w'.cell? ⟨w.heap.size, 0, none⟩ = some (.slice A1 n1 c1) ∧ w'.cell? ⟨w.heap.size, 1, none⟩ = some (.slice A2 n2 c2) ∧ w'.cell? ⟨w.heap.size, 2, none⟩ = some (.slice A3 n3 c3) ∧ w'.cell? ⟨w.heap.size + 1, 0, none⟩ = some (.slice (some ⟨bm, om, none⟩) nm cm) ∧ w'.cell? ⟨w.heap.size + 2, 4, none⟩ = some (.string nme) ∧ w'.cell? ⟨w.heap.size + 3, 0, none⟩ = some (.slice AK nk ck) ∧ w'.cell? ⟨bm, om + k * 5, none⟩ = some (.slice A5 n5 c5) ∧ w'.cell? ⟨bm, om + k * 5 + 1, none⟩ = some (.int .i64 mn) ∧ w'.cell? ⟨bm, om + k * 5 + 1 + 1, none⟩ = some (.int .i64 md) ∧ w'.cell? ⟨bm, om + k * 5 + 1 + 2, none⟩ = some (.slice A6 n6 c6) ∧ w'.cell? ⟨bm, om + k * 5 + 1 + 3, none⟩ = some (.int .i64 mr))
    ((try dsimp only) <;> (repeat' apply And.intro) <;> first | go_keep | (rw [World.cell?_setCell_far _ _ _ _ (by dsimp only; omega), World.cell?_setCell_far _ _ _ _ (by dsimp only; omega), World.cell?_setCell_far _ _ _ _ (by dsimp only; omega), World.cell?_setCell_far _ _ _ _ (by dsimp only; omega)]; first | exact t0 | exact t1 | exact t2 | exact t3 | exact t4 | exact t5 | exact t6 | exact t7 | exact t8 | exact t9 | exact t10))
    (first
      | (go_simp
         go_at_call 63
         refine (HF.out _ (below_drewN (Below.refl _ _) 1)).mono ?_
         rintro e w5 ⟨rfl, hb5⟩
         have HB5 : Hid (Below X.heap.size X w5) := below_of_drew hb5
         have r0 : w5.cell? ⟨w.heap.size, 0, none⟩ = some (.slice A1 n1 c1) := by rw [HB5.out.cell (p := ⟨w.heap.size, 0, none⟩) (by first | exact hbmX | exact zw0 | exact zw1 | exact zw2 | exact zw3)]; exact y0
         have r1 : w5.cell? ⟨w.heap.size, 1, none⟩ = some (.slice A2 n2 c2) := by rw [HB5.out.cell (p := ⟨w.heap.size, 1, none⟩) (by first | exact hbmX | exact zw0 | exact zw1 | exact zw2 | exact zw3)]; exact y1
         have r2 : w5.cell? ⟨w.heap.size, 2, none⟩ = some (.slice A3 n3 c3) := by rw [HB5.out.cell (p := ⟨w.heap.size, 2, none⟩) (by first | exact hbmX | exact zw0 | exact zw1 | exact zw2 | exact zw3)]; exact y2
         have r3 : w5.cell? ⟨w.heap.size + 1, 0, none⟩ = some (.slice (some ⟨bm, om, none⟩) nm cm) := by rw [HB5.out.cell (p := ⟨w.heap.size + 1, 0, none⟩) (by first | exact hbmX | exact zw0 | exact zw1 | exact zw2 | exact zw3)]; exact y3
         have r4 : w5.cell? ⟨w.heap.size + 2, 4, none⟩ = some (.string nme) := by rw [HB5.out.cell (p := ⟨w.heap.size + 2, 4, none⟩) (by first | exact hbmX | exact zw0 | exact zw1 | exact zw2 | exact zw3)]; exact x4
         have r5 : w5.cell? ⟨w.heap.size + 3, 0, none⟩ = some (.slice AK nk ck) := by rw [HB5.out.cell (p := ⟨w.heap.size + 3, 0, none⟩) (by first | exact hbmX | exact zw0 | exact zw1 | exact zw2 | exact zw3)]; exact xk
         have r6 : w5.cell? ⟨bm, om + k * 5, none⟩ = some (.slice A5 n5 c5) := by rw [HB5.out.cell (p := ⟨bm, om + k * 5, none⟩) (by first | exact hbmX | exact zw0 | exact zw1 | exact zw2 | exact zw3)]; exact q0
         have r7 : w5.cell? ⟨bm, om + k * 5 + 1, none⟩ = some (.int .i64 mn) := by rw [HB5.out.cell (p := ⟨bm, om + k * 5 + 1, none⟩) (by first | exact hbmX | exact zw0 | exact zw1 | exact zw2 | exact zw3)]; exact q1
         have r8 : w5.cell? ⟨bm, om + k * 5 + 1 + 1, none⟩ = some (.int .i64 md) := by rw [HB5.out.cell (p := ⟨bm, om + k * 5 + 1 + 1, none⟩) (by first | exact hbmX | exact zw0 | exact zw1 | exact zw2 | exact zw3)]; exact q2
         have r9 : w5.cell? ⟨bm, om + k * 5 + 1 + 2, none⟩ = some (.slice A6 n6 c6) := by rw [HB5.out.cell (p := ⟨bm, om + k * 5 + 1 + 2, none⟩) (by first | exact hbmX | exact zw0 | exact zw1 | exact zw2 | exact zw3)]; exact q3
         have r10 : w5.cell? ⟨bm, om + k * 5 + 1 + 3, none⟩ = some (.int .i64 mr) := by rw [HB5.out.cell (p := ⟨bm, om + k * 5 + 1 + 3, none⟩) (by first | exact hbmX | exact zw0 | exact zw1 | exact zw2 | exact zw3)]; exact q4
         clear hb5)
      | (go_simp
         go_at_call 103
         refine (HT.out _ HB5.out).mono ?_
         rintro e w6 ⟨A7, c7, rfl, h71, h72, h73, hb6⟩
         have HB6 : Hid (Below X.heap.size X w6) := below_join HB5.out hb6
         have HI6 := Lib.hid (HI.out.keep HB6.out)
         have HA7 := Lib.hid (And.intro h71 (And.intro h72 (And.intro h73 HB5.out.size)))
         have t0 : w6.cell? ⟨w.heap.size, 0, none⟩ = some (.slice A1 n1 c1) := by rw [HB6.out.cell (p := ⟨w.heap.size, 0, none⟩) (by first | exact hbmX | exact zw0 | exact zw1 | exact zw2 | exact zw3)]; exact y0
         have t1 : w6.cell? ⟨w.heap.size, 1, none⟩ = some (.slice A2 n2 c2) := by rw [HB6.out.cell (p := ⟨w.heap.size, 1, none⟩) (by first | exact hbmX | exact zw0 | exact zw1 | exact zw2 | exact zw3)]; exact y1
         have t2 : w6.cell? ⟨w.heap.size, 2, none⟩ = some (.slice A3 n3 c3) := by rw [HB6.out.cell (p := ⟨w.heap.size, 2, none⟩) (by first | exact hbmX | exact zw0 | exact zw1 | exact zw2 | exact zw3)]; exact y2
         have t3 : w6.cell? ⟨w.heap.size + 1, 0, none⟩ = some (.slice (some ⟨bm, om, none⟩) nm cm) := by rw [HB6.out.cell (p := ⟨w.heap.size + 1, 0, none⟩) (by first | exact hbmX | exact zw0 | exact zw1 | exact zw2 | exact zw3)]; exact y3
         have t4 : w6.cell? ⟨w.heap.size + 2, 4, none⟩ = some (.string nme) := by rw [HB6.out.cell (p := ⟨w.heap.size + 2, 4, none⟩) (by first | exact hbmX | exact zw0 | exact zw1 | exact zw2 | exact zw3)]; exact x4
         have t5 : w6.cell? ⟨w.heap.size + 3, 0, none⟩ = some (.slice AK nk ck) := by rw [HB6.out.cell (p := ⟨w.heap.size + 3, 0, none⟩) (by first | exact hbmX | exact zw0 | exact zw1 | exact zw2 | exact zw3)]; exact xk
         have t6 : w6.cell? ⟨bm, om + k * 5, none⟩ = some (.slice A5 n5 c5) := by rw [HB6.out.cell (p := ⟨bm, om + k * 5, none⟩) (by first | exact hbmX | exact zw0 | exact zw1 | exact zw2 | exact zw3)]; exact q0
         have t7 : w6.cell? ⟨bm, om + k * 5 + 1, none⟩ = some (.int .i64 mn) := by rw [HB6.out.cell (p := ⟨bm, om + k * 5 + 1, none⟩) (by first | exact hbmX | exact zw0 | exact zw1 | exact zw2 | exact zw3)]; exact q1
         have t8 : w6.cell? ⟨bm, om + k * 5 + 1 + 1, none⟩ = some (.int .i64 md) := by rw [HB6.out.cell (p := ⟨bm, om + k * 5 + 1 + 1, none⟩) (by first | exact hbmX | exact zw0 | exact zw1 | exact zw2 | exact zw3)]; exact q2
         have t9 : w6.cell? ⟨bm, om + k * 5 + 1 + 2, none⟩ = some (.slice A6 n6 c6) := by rw [HB6.out.cell (p := ⟨bm, om + k * 5 + 1 + 2, none⟩) (by first | exact hbmX | exact zw0 | exact zw1 | exact zw2 | exact zw3)]; exact q3
         have t10 : w6.cell? ⟨bm, om + k * 5 + 1 + 3, none⟩ = some (.int .i64 mr) := by rw [HB6.out.cell (p := ⟨bm, om + k * 5 + 1 + 3, none⟩) (by first | exact hbmX | exact zw0 | exact zw1 | exact zw2 | exact zw3)]; exact q4
         clear hb6 h71 h72 h73
         obtain ⟨m0, m1, m2, m3, u0, u1, u2, u3, zm⟩ := HI6.out.val.four)
      | fail)
  all_goals
    have HZX := Lib.hid hzx
    go_wp2_with fail
    have hF := HI6.out.fin (.int .i64 Vn) (.int .i64 Vd) (.slice A7 Vc.length c7) (.int .i64 Vr)
    have hAZ : Arr AtCell 2 (put4 w6 (w.heap.size + 4) (.int .i64 Vn) (.int .i64 Vd) (.slice A7 Vc.length c7) (.int .i64 Vr)) (fun b => S0 b ∨ (w.heap.size ≤ b ∧ b < (put4 w6 (w.heap.size + 4) (.int .i64 Vn) (.int .i64 Vd) (.slice A7 Vc.length c7) (.int .i64 Vr)).heap.size)) A7 Vc.length Vc := HA7.out.2.2.1.keep stays_cell (fun b hb => .inr (by have h9 : w5.heap.size ≤ b ∧ b < w6.heap.size := hb; have := HA7.out.2.2.2; have := HZX.out; unfold put4; simp; omega)) (fun b o hb => only_cell (row := some (w.heap.size + 4)) (put4_only (only_refl w6 _) _ _ _ _) hb.2 (fun e => by injection e with e; have h9 : w5.heap.size ≤ b ∧ b < w6.heap.size := hb; have := HA7.out.2.2.2; have := HZX.out; omega))
    exact val_ret HI6.out.val rfl rfl rfl rfl (⟨hF.1, A7, c7, rfl, HA7.out.1, HA7.out.2.1, hAZ⟩)

end Go.Proofs.Ythooecojopfjbaa
