/- Walks: fractions of the reference: divisors, which are good, sums and products (JudgeWhySays; printed by genJwP.py). · Walk: the reference's rowsOk (JudgeWhySays; printed by genJwO.py). -/
import Derived.Test.YthjfiomcpihlaaaGreatJwIJ
import Derived.Test.YthjfiomcpihlaaaGreatJuKK
import Derived.Test.YthjfiomcpihlaaaGreatFracCD
import Derived.Test.YthjfiomcpihlaaaGreatFuFr
import Derived.Test.YthjfiomcpihlaaaGreatCore
import Derived.Test.YthjfiomcpihlaaaGreatJuGG
import Derived.Test.YthjfiomcpihlaaaGreatJuHH
namespace Go.Proofs.YthjfiomcpihlaaaGreat
open Go.RowKit

theorem gcd_tmodJ (x y : Int) : Int.gcd y (x.tmod y) = Int.gcd x y := by
  show y.natAbs.gcd (x.tmod y).natAbs = x.natAbs.gcd y.natAbs
  rw [Int.natAbs_tmod, Nat.gcd_comm, ← Nat.gcd_rec, Nat.gcd_comm]
set_option maxHeartbeats 400000 in
theorem gcdI_anyJ (x y : Int) (w : World) (h0 : -4611686018427387904 ≤ x) (h1 : x ≤ 4611686018427387904) (h2 : -4611686018427387904 ≤ y) (h3 : y ≤ 4611686018427387904) :
    Calls Tryz.prog 90 #[.int .i64 x, .int .i64 y] w (DrewP (.int .i64 (Int.gcd x y : Nat)) w) := by
  go_enter Tryz.func90, Tryz.ntmps90
  go_wp2_with fail
  go_loopw [0, 1] (fun s0 s1 wr => ∃ a b : Int, s0 = .int .i64 a ∧ s1 = .int .i64 b ∧ -4611686018427387904 ≤ a ∧ a ≤ 4611686018427387904 ∧ -4611686018427387904 ≤ b ∧ b ≤ 4611686018427387904 ∧ Hid (Int.gcd a b = Int.gcd x y) ∧ Hid (∃ n, wr = w.drewN n)) (fun _ s1 _ => (intOf s1).natAbs)
  case atStart => exact ⟨x, y, rfl, rfl, h0, h1, h2, h3, rfl, 0, rfl⟩
  case round =>
    obtain ⟨a, b, rfl, rfl, ha, ha2, hb, hb2, HG, HW⟩ := hrel
    by_cases hz : b = 0
    · subst hz
      have e1 : (a.natAbs : Int) = (Int.gcd x y : Nat) := by rw [← HG.out, Int.gcd_zero_right]
      have HE := Lib.hid e1
      clear e1
      go_wp2_with fail
      all_goals go_ret
      all_goals exact ⟨ret_int (by rw [← HE.out]; omega), HW.out⟩
    · have hq : (b != 0) = true := by rw [bne_iff_ne]; omega
      have hq2 : (b == 0) = false := by rw [beq_eq_false_iff_ne]; omega
      go_wp2_with fail
      go_quiet (fail)
      go_wp2_with fail
      have h4 := Int.natAbs_tmod a b
      have h5 : (a.tmod b).natAbs < b.natAbs := by rw [h4]; exact Nat.mod_lt _ (by omega)
      go_roundw
      case rel =>
        refine ⟨b, a.tmod b, rfl, rfl, by omega, by omega, by omega, by omega, ?_, ?_⟩
        · show _ = _
          rw [gcd_tmodJ, HG.out]
        · obtain ⟨n, hn⟩ := HW.out
          exact ⟨n + nq, by rw [hn, World.drewN_drewN]⟩
      case measure => exact h5

set_option maxRecDepth 100000 in
set_option maxHeartbeats 1000000 in
theorem good_anyJ (num den : Int) (w : World) :
    Calls Tryz.prog 66 #[.agg #[.int .i64 num, .int .i64 den]] w fun e w' => e = .returned (.bool (fracGood num den)) ∧ Below w.heap.size w w' := by
  by_cases hok : 1 ≤ den ∧ den ≤ 1073741824 ∧ -1073741824 ≤ num ∧ num ≤ 1073741824
  · obtain ⟨h1, h2, h3, h4⟩ := hok
    rw [good_yes h1 h2 h3 h4]
    have HG := Lib.hid (fun W => gcdI_anyJ num den W (by omega) (by omega) (by omega) (by omega))
    generalize Int.gcd num den = g at HG
    go_enter Tryz.func66, Tryz.ntmps66
    go_wp2_with fail
    refine (HG.out _).mono ?_
    rintro e w' ⟨rfl, n, rfl⟩
    go_wp2_with fail
    go_ret
    refine ⟨ret_bool ?_, below_drewN ((Below.refl _ _).alloc (Nat.le_refl _) _) n⟩
    rw [Bool.eq_iff_iff]
    simp
    omega
  · have e1 : fracGood num den = false := by simp [fracGood]; omega
    rw [e1]
    clear e1
    go_enter Tryz.func66, Tryz.ntmps66
    go_wp2_with fail
    all_goals first | omega | skip
    all_goals go_ret
    all_goals exact ⟨rfl, (Below.refl _ _).alloc (Nat.le_refl _) _⟩
theorem boxesVJ (w : World) (t1 t2 t3 : TypeId) (c1 c2 c3 : Array Value) : Below w.heap.size w (((w.alloc (.cells c1 t1)).alloc (.cells c2 t2)).alloc (.cells c3 t3)) ∧ Blk (((w.alloc (.cells c1 t1)).alloc (.cells c2 t2)).alloc (.cells c3 t3)) w.heap.size t1 c1 ∧
    Blk (((w.alloc (.cells c1 t1)).alloc (.cells c2 t2)).alloc (.cells c3 t3)) (w.heap.size + 1) t2 c2 ∧ Blk (((w.alloc (.cells c1 t1)).alloc (.cells c2 t2)).alloc (.cells c3 t3)) (w.heap.size + 2) t3 c3 ∧ (((w.alloc (.cells c1 t1)).alloc (.cells c2 t2)).alloc (.cells c3 t3)).heap.size = w.heap.size + 3 := by
  obtain ⟨h1, h2, h3, h4⟩ := two_boxes w t1 t2 c1 c2
  refine ⟨h1.alloc (by omega) _, h2.alloc _, h3.alloc _, ?_, by simp⟩
  have := Blk.new ((w.alloc (.cells c1 t1)).alloc (.cells c2 t2)) t3 c3
  rwa [h4] at this

def lowVJ : Option FracD → Value
  | some q => .tuple #[.agg #[.int .i64 q.num, .int .i64 q.den], .bool true]
  | none => .tuple #[.agg #[.int .i64 0, .int .i64 0], .bool false]

set_option maxRecDepth 100000 in
set_option maxHeartbeats 2000000 in
theorem lowest_anyJ (n d : Int) (r : Option FracD) (w : World) (h0 : -4611686018427387904 ≤ n) (h1 : n ≤ 4611686018427387904) (h2 : 1 ≤ d) (h3 : d ≤ 4611686018427387904) (hr : lowF n d = r) :
    Calls Tryz.prog 91 #[.int .i64 n, .int .i64 d] w fun e w' => e = .returned (lowVJ r) ∧ Below w.heap.size w w' := by
  have hb := (Below.refl w.heap.size w).alloc (Nat.le_refl _) (.cells #[.int .i64 0, .int .i64 0] 89)
  have hk := Blk.new w 89 #[.int .i64 0, .int .i64 0]
  have HG := Lib.hid (fun W => gcdI_anyJ n d W h0 h1 (by omega) h3)
  have hg := gcd_pos (n := n) (d := d) (by omega)
  have hgd : (Int.gcd n d : Int) ≤ d := Int.le_of_dvd (by omega) (Int.gcd_dvd_right n d)
  unfold lowF at hr
  generalize Int.gcd n d = g at hg hgd HG hr
  have HX := Lib.hid (And.intro hb hk)
  have hz : w.heap.size < (w.alloc (.cells #[.int .i64 0, .int .i64 0] 89)).heap.size := hk.lt
  have hg0 : ((g : Int) == 0) = false := by rw [beq_eq_false_iff_ne]; omega
  have hgn : ¬ g = 0 := by omega
  have q1 : -4611686018427387904 ≤ n.tdiv g ∧ n.tdiv g ≤ 4611686018427387904 := by
    have e : (n.tdiv g).natAbs ≤ n.natAbs := by rw [Int.natAbs_tdiv]; exact Nat.div_le_self _ _
    omega
  have q2 : d.tdiv g = d / g := Int.tdiv_eq_ediv_of_nonneg (by omega)
  have q3 : 0 ≤ d / (g : Int) ∧ d / (g : Int) ≤ 4611686018427387904 := ⟨Int.ediv_nonneg (by omega) (by omega), Int.le_trans (Int.ediv_le_self _ (by omega)) (by omega)⟩
  rw [q2] at hr
  obtain ⟨A, hA⟩ : ∃ A, n.tdiv (g : Int) = A := ⟨_, rfl⟩
  obtain ⟨D, hD⟩ : ∃ D, d / (g : Int) = D := ⟨_, rfl⟩
  rw [hA] at hr q1
  rw [hD] at hr q3 q2
  obtain ⟨q4, q5⟩ := q1
  obtain ⟨q6, q7⟩ := q3
  clear hb hk hg hgd
  by_cases c1 : 1073741824 < A ∨ A < -1073741824 ∨ 1073741824 < D
  · rw [if_pos c1] at hr
    subst hr
    rcases c1 with c1 | c1 | c1
    all_goals
      go_enter Tryz.func91, Tryz.ntmps91
      go_wp2_with fail
      refine (HG.out _).mono ?_
      rintro e w' ⟨rfl, m, rfl⟩
      go_wp2_with fail
      all_goals
        refine bodyPost_ret (v := .tuple #[.agg #[.int .i64 0, .int .i64 0], .bool false]) (by simp [results, Tryz.results91, go_sem]) rfl ⟨rfl, ?_⟩
        exact ((below_drewN HX.out.1 m).setCell (p := ⟨w.heap.size, 0, none⟩) (Nat.le_refl _) _).setCell (p := ⟨w.heap.size, 1, none⟩) (Nat.le_refl _) _
  · rw [if_neg c1] at hr
    subst hr
    have c2 : ¬ 1073741824 < A := by omega
    have c3 : ¬ A < -1073741824 := by omega
    have c4 : ¬ 1073741824 < D := by omega
    go_enter Tryz.func91, Tryz.ntmps91
    go_wp2_with fail
    refine (HG.out _).mono ?_
    rintro e w' ⟨rfl, m, rfl⟩
    go_wp2_with fail
    all_goals
      refine bodyPost_ret (v := .tuple #[.agg #[.int .i64 A, .int .i64 D], .bool true]) (by simp [results, Tryz.results91, go_sem]) rfl ⟨rfl, ?_⟩
      exact ((below_drewN HX.out.1 m).setCell (p := ⟨w.heap.size, 0, none⟩) (Nat.le_refl _) _).setCell (p := ⟨w.heap.size, 1, none⟩) (Nat.le_refl _) _

set_option maxRecDepth 100000 in
set_option maxHeartbeats 2000000 in
theorem refAdd_anyJ (a b : FracD) (r : Option FracD) (w : World) (ha : fracGood a.num a.den = true) (hb : fracGood b.num b.den = true) (hr : addQ a b = r) :
    Calls Tryz.prog 68 #[.agg #[.int .i64 a.num, .int .i64 a.den], .agg #[.int .i64 b.num, .int .i64 b.den]] w fun e w' => e = .returned (lowVJ r) ∧ Below w.heap.size w w' := by
  obtain ⟨⟨h1, h2⟩, ⟨h3, h4⟩, ⟨h5, h6⟩, -⟩ := cross ha hb
  obtain ⟨an, ad⟩ := a
  obtain ⟨bn, bd⟩ := b
  have HL := Lib.hid (fun W => lowest_anyJ (an * bd + bn * ad) (ad * bd) r W (by dsimp only at *; omega) (by dsimp only at *; omega) h5 (by dsimp only at *; omega) hr)
  dsimp only at *
  clear hr
  have hbx := boxesVJ w 89 89 89 #[.int .i64 an, .int .i64 ad] #[.int .i64 bn, .int .i64 bd] #[.int .i64 0, .int .i64 0]
  have HX := Lib.hid hbx
  clear ha hb hbx
  go_enter Tryz.func68, Tryz.ntmps68
  go_wp2_with fail
  refine (HL.out _).mono ?_
  rintro e w5 ⟨rfl, hb5⟩
  obtain ⟨hb0, -, -, hf0, hs0⟩ := HX.out
  have hf5 := hf0.below hb5 (by omega)
  have hbel := hb0.trans (hb5.mono (by omega))
  have c0 : w5.cell? ⟨w.heap.size + 2, 0, none⟩ = some (.int .i64 0) := hf5.cell 0
  have c1 : w5.cell? ⟨w.heap.size + 2, 1, none⟩ = some (.int .i64 0) := hf5.cell 1
  have z0 : w5.frozen? ⟨w.heap.size + 2, 0, none⟩ = false := hf5.frozen 0
  have z1 : w5.frozen? ⟨w.heap.size + 2, 1, none⟩ = false := hf5.frozen 1
  have hz : w.heap.size + 2 < w5.heap.size := hf5.lt
  have HF := Lib.hid (And.intro hf5 hbel)
  clear hb0 hf0 hs0 hf5 hbel hb5 HX HL
  cases r with
  | some q =>
    unfold lowVJ
    go_wp2_with fail
    clear c0 c1 z0 z1
    have hz1 := two_blk HF.out.1 (.int .i64 q.num) (.int .i64 q.den)
    have hz2 : Below w.heap.size w (two w5 (w.heap.size + 2) (.int .i64 q.num) (.int .i64 q.den)) := two_below (g := w.heap.size + 2) HF.out.2 (Nat.le_add_right _ _) (.int .i64 q.num) (.int .i64 q.den)
    have e4 : (w5.setCell ⟨w.heap.size + 1 + 1, 0, none⟩ (.int .i64 q.num)).setCell ⟨w.heap.size + 1 + 1, 1, none⟩ (.int .i64 q.den) = two w5 (w.heap.size + 2) (.int .i64 q.num) (.int .i64 q.den) := rfl
    rw [e4]
    clear e4
    generalize two w5 (w.heap.size + 2) (.int .i64 q.num) (.int .i64 q.den) = Z at hz1 hz2 ⊢
    have d0 := hz1.cell 0
    have d1 := hz1.cell 1
    simp only [List.getElem?_toArray, List.getElem?_cons_zero, List.getElem?_cons_succ] at d0 d1
    exact bodyPost_ret (v := .tuple #[.agg #[.int .i64 q.num, .int .i64 q.den], .bool true]) (by simp [results, Tryz.results68, go_sem, d0, d1]) rfl ⟨rfl, hz2⟩
  | none =>
    unfold lowVJ
    go_wp2_with fail
    clear c0 c1 z0 z1
    have hz1 := two_blk HF.out.1 (.int .i64 0) (.int .i64 0)
    have hz2 : Below w.heap.size w (two w5 (w.heap.size + 2) (.int .i64 0) (.int .i64 0)) := two_below (g := w.heap.size + 2) HF.out.2 (Nat.le_add_right _ _) (.int .i64 0) (.int .i64 0)
    have e4 : (w5.setCell ⟨w.heap.size + 1 + 1, 0, none⟩ (.int .i64 0)).setCell ⟨w.heap.size + 1 + 1, 1, none⟩ (.int .i64 0) = two w5 (w.heap.size + 2) (.int .i64 0) (.int .i64 0) := rfl
    rw [e4]
    clear e4
    generalize two w5 (w.heap.size + 2) (.int .i64 0) (.int .i64 0) = Z at hz1 hz2 ⊢
    have d0 := hz1.cell 0
    have d1 := hz1.cell 1
    simp only [List.getElem?_toArray, List.getElem?_cons_zero, List.getElem?_cons_succ] at d0 d1
    exact bodyPost_ret (v := .tuple #[.agg #[.int .i64 0, .int .i64 0], .bool false]) (by simp [results, Tryz.results68, go_sem, d0, d1]) rfl ⟨rfl, hz2⟩

set_option maxRecDepth 100000 in
set_option maxHeartbeats 2000000 in
theorem refTimes_anyJ (a b : FracD) (r : Option FracD) (w : World) (ha : fracGood a.num a.den = true) (hb : fracGood b.num b.den = true) (hr : timesQ a b = r) :
    Calls Tryz.prog 67 #[.agg #[.int .i64 a.num, .int .i64 a.den], .agg #[.int .i64 b.num, .int .i64 b.den]] w fun e w' => e = .returned (lowVJ r) ∧ Below w.heap.size w w' := by
  obtain ⟨-, -, ⟨h5, h6⟩, ⟨h1, h2⟩⟩ := cross ha hb
  obtain ⟨an, ad⟩ := a
  obtain ⟨bn, bd⟩ := b
  have HL := Lib.hid (fun W => lowest_anyJ (an * bn) (ad * bd) r W (by dsimp only at *; omega) (by dsimp only at *; omega) h5 (by dsimp only at *; omega) hr)
  dsimp only at *
  clear hr
  have hbx := boxesVJ w 89 89 89 #[.int .i64 an, .int .i64 ad] #[.int .i64 bn, .int .i64 bd] #[.int .i64 0, .int .i64 0]
  have HX := Lib.hid hbx
  clear ha hb hbx
  go_enter Tryz.func67, Tryz.ntmps67
  go_wp2_with fail
  refine (HL.out _).mono ?_
  rintro e w5 ⟨rfl, hb5⟩
  obtain ⟨hb0, -, -, hf0, hs0⟩ := HX.out
  have hf5 := hf0.below hb5 (by omega)
  have hbel := hb0.trans (hb5.mono (by omega))
  have c0 : w5.cell? ⟨w.heap.size + 2, 0, none⟩ = some (.int .i64 0) := hf5.cell 0
  have c1 : w5.cell? ⟨w.heap.size + 2, 1, none⟩ = some (.int .i64 0) := hf5.cell 1
  have z0 : w5.frozen? ⟨w.heap.size + 2, 0, none⟩ = false := hf5.frozen 0
  have z1 : w5.frozen? ⟨w.heap.size + 2, 1, none⟩ = false := hf5.frozen 1
  have hz : w.heap.size + 2 < w5.heap.size := hf5.lt
  have HF := Lib.hid (And.intro hf5 hbel)
  clear hb0 hf0 hs0 hf5 hbel hb5 HX HL
  cases r with
  | some q =>
    unfold lowVJ
    go_wp2_with fail
    clear c0 c1 z0 z1
    have hz1 := two_blk HF.out.1 (.int .i64 q.num) (.int .i64 q.den)
    have hz2 : Below w.heap.size w (two w5 (w.heap.size + 2) (.int .i64 q.num) (.int .i64 q.den)) := two_below (g := w.heap.size + 2) HF.out.2 (Nat.le_add_right _ _) (.int .i64 q.num) (.int .i64 q.den)
    have e4 : (w5.setCell ⟨w.heap.size + 1 + 1, 0, none⟩ (.int .i64 q.num)).setCell ⟨w.heap.size + 1 + 1, 1, none⟩ (.int .i64 q.den) = two w5 (w.heap.size + 2) (.int .i64 q.num) (.int .i64 q.den) := rfl
    rw [e4]
    clear e4
    generalize two w5 (w.heap.size + 2) (.int .i64 q.num) (.int .i64 q.den) = Z at hz1 hz2 ⊢
    have d0 := hz1.cell 0
    have d1 := hz1.cell 1
    simp only [List.getElem?_toArray, List.getElem?_cons_zero, List.getElem?_cons_succ] at d0 d1
    exact bodyPost_ret (v := .tuple #[.agg #[.int .i64 q.num, .int .i64 q.den], .bool true]) (by simp [results, Tryz.results67, go_sem, d0, d1]) rfl ⟨rfl, hz2⟩
  | none =>
    unfold lowVJ
    go_wp2_with fail
    clear c0 c1 z0 z1
    have hz1 := two_blk HF.out.1 (.int .i64 0) (.int .i64 0)
    have hz2 : Below w.heap.size w (two w5 (w.heap.size + 2) (.int .i64 0) (.int .i64 0)) := two_below (g := w.heap.size + 2) HF.out.2 (Nat.le_add_right _ _) (.int .i64 0) (.int .i64 0)
    have e4 : (w5.setCell ⟨w.heap.size + 1 + 1, 0, none⟩ (.int .i64 0)).setCell ⟨w.heap.size + 1 + 1, 1, none⟩ (.int .i64 0) = two w5 (w.heap.size + 2) (.int .i64 0) (.int .i64 0) := rfl
    rw [e4]
    clear e4
    generalize two w5 (w.heap.size + 2) (.int .i64 0) (.int .i64 0) = Z at hz1 hz2 ⊢
    have d0 := hz1.cell 0
    have d1 := hz1.cell 1
    simp only [List.getElem?_toArray, List.getElem?_cons_zero, List.getElem?_cons_succ] at d0 d1
    exact bodyPost_ret (v := .tuple #[.agg #[.int .i64 0, .int .i64 0], .bool false]) (by simp [results, Tryz.results67, go_sem, d0, d1]) rfl ⟨rfl, hz2⟩

end Go.Proofs.YthjfiomcpihlaaaGreat
namespace Go.Proofs.YthjfiomcpihlaaaGreat
open Go.RowKit

theorem infoFracJ : (Tryz.prog.info? 89).map (fun i => (i.zero, i.size, i.bytes)) = some (some (.agg #[.int .i64 0, .int .i64 0]), 2, 16) := by kernel_rfl
theorem rowFracsJ : RowT Tryz.prog 43 89 2 16 := rowT_of Tryz.underlying43 infoFracJ rfl (by omega)
theorem OwnF.putJ {w : World} {B g n c : Nat} {xs : List FracD} (h : OwnF w B (.slice (some ⟨g, 0, none⟩) n c) xs) (hn : xs.length = n) {i : Nat} {q : FracD} (hq : fracGood q.num q.den = true) : OwnF (putQ w g (i * 2) q) B (.slice (some ⟨g, 0, none⟩) n c) (xs.set i q) := by
  obtain ⟨cells, hown, hels⟩ := h
  subst hn
  obtain ⟨h1, h2⟩ := hown.stored (i * 2) (.int .i64 q.num)
  obtain ⟨h3, h4⟩ := h1.stored (i * 2 + 1) (.int .i64 q.den)
  refine ⟨_, by rw [List.length_set]; exact h3, ?_⟩
  have : Cels VFrac w (fun _ => False) (xs.set i q) ((cells.set (i * 2) (.int .i64 q.num)).set (i * 2 + 1) (.int .i64 q.den)) := Cels.set2 tells_frac ⟨rfl, good_i64 hq⟩ xs cells i hels
  exact Cels.keep tells_frac (fun _ h => h) (fun _ _ h => False.elim h) _ _ this
theorem OwnF.cellsJ {w : World} {B g n c : Nat} {xs : List FracD} (h : OwnF w B (.slice (some ⟨g, 0, none⟩) n c) xs) {i : Nat} {q : FracD} (hq : xs[i]? = some q) : w.cell? ⟨g, i * 2, none⟩ = some (.int .i64 q.num) ∧ w.cell? ⟨g, i * 2 + 1, none⟩ = some (.int .i64 q.den) := by
  obtain ⟨A, c, he, -, -, har⟩ := OwnV.reads (E := AtFrac) tells_frac (fun _ _ _ _ _ h => atV_frac h) h (S' := fun _ => True) (fun _ h => False.elim h) (fun _ _ => trivial)
  obtain ⟨b, off, hA, -, ⟨h0, -⟩, h1, -⟩ := har.at_ i q hq
  injection he with e1 e2 e3
  rw [hA] at e1
  injection e1 with e1
  injection e1 with e1 e4
  subst e1
  subst e4
  rw [Nat.zero_add] at h0 h1
  exact ⟨h0, h1⟩
/-- the reference's sum in memory: its row of fractions, its last number in a box -/
structure SumR (w : World) (B gt n : Nat) (v : Value) (of_ : List FracD) (to_ : FracD) : Prop where
  blk : Blk w gt 89 #[.int .i64 to_.num, .int .i64 to_.den]
  own : OwnF w B v of_
  len : of_.length = n
  ne : v.ownBlock ≠ some gt
  bG : B ≤ gt
  good : ∀ q ∈ of_, fracGood q.num q.den = true
  good2 : fracGood to_.num to_.den = true
section
variable {w w' : World} {B gt n c g : Nat} {v : Value} {of_ : List FracD} {to_ : FracD}
theorem SumR.later (h : SumR w B gt n v of_ to_) (hb : Below w.heap.size w w') : SumR w' B gt n v of_ to_ :=
  ⟨h.blk.below hb h.blk.lt, frac_later h.own (only_of_below hb none) (by cases v.ownBlock <;> simp), h.len, h.ne, h.bG, h.good, h.good2⟩
theorem SumR.put (h : SumR w B gt n (.slice (some ⟨g, 0, none⟩) n c) of_ to_) {i : Nat} {q : FracD} (hq : fracGood q.num q.den = true) : SumR (putQ w g (i * 2) q) B gt n (.slice (some ⟨g, 0, none⟩) n c) (of_.set i q) to_ ∧ Below B w (putQ w g (i * 2) q) := by
  have hlt := h.own.lt g rfl
  refine ⟨⟨h.blk.grown (only_putQ w g (i * 2) q) (fun e => h.ne (by injection e with e; rw [e]; rfl)), h.own.putJ h.len hq, by rw [List.length_set]; exact h.len, h.ne, h.bG, fun p hp => ?_, h.good2⟩, below_then (Below.refl B w) (only_putQ w g (i * 2) q) (by omega) (fun x hx => by injection hx with hx; omega)⟩
  rcases List.mem_or_eq_of_mem_set hp with h1 | rfl
  · exact h.good p h1
  · exact hq
theorem SumR.putTo (h : SumR w B gt n v of_ to_) {q : FracD} (hq : fracGood q.num q.den = true) : SumR (putQ w gt 0 q) B gt n v of_ q ∧ Below B w (putQ w gt 0 q) := by
  have hlt := h.blk.lt
  have hb1 : Blk (putQ w gt 0 q) gt 89 #[.int .i64 q.num, .int .i64 q.den] := (h.blk.set_ 0 (.int .i64 q.num)).set_ 1 (.int .i64 q.den)
  have := h.bG
  exact ⟨⟨hb1, frac_later h.own (only_putQ w gt 0 q) (.inr h.ne), h.len, h.ne, h.bG, h.good, hq⟩, below_then (Below.refl B w) (only_putQ w gt 0 q) (by omega) (fun x hx => by injection hx with hx; omega)⟩
end
/-- how far a row is taken: k of its numbers -/
def RowI (R : Option SumD) (m : FracD) (S : Int) (tof : List FracD) (tto : FracD) (tl : Bool) (rof : List Int) (rt : Int) (k : Nat) (of_ : List FracD) (to_ : FracD) : Prop :=
  (k ≤ rof.length → to_ = tto ∧ ∃ pre, pre.length = k ∧ of_ = pre ++ tof.drop k ∧ ((addRow m S (tof.drop k) (rof.drop k)).bind fun o => (addC tto (S * rt) m).map fun t' => (⟨pre ++ o, t', tl⟩ : SumD)) = R) ∧
  (rof.length < k → R = some ⟨of_, to_, tl⟩)
theorem RowI.start {R : Option SumD} {m : FracD} {S : Int} {tof : List FracD} {tto : FracD} {tl : Bool} {rof : List Int} {rt : Int} (h : ((addRow m S tof rof).bind fun o => (addC tto (S * rt) m).map fun t' => (⟨o, t', tl⟩ : SumD)) = R) : RowI R m S tof tto tl rof rt 0 tof tto :=
  ⟨fun _ => ⟨rfl, [], rfl, rfl, h⟩, fun h => absurd h (Nat.not_lt_zero _)⟩
theorem addC_none {a m : FracD} {x : Int} (h : timesQ ⟨x, 1⟩ m = none) : addC a x m = none := by unfold addC; rw [h]; rfl
theorem addC_some {a m p : FracD} {x : Int} (h : timesQ ⟨x, 1⟩ m = some p) : addC a x m = addQ a p := by unfold addC; rw [h]; rfl
theorem RowI.step {R : Option SumD} {m : FracD} {S : Int} {tof : List FracD} {tto : FracD} {tl : Bool} {rof : List Int} {rt : Int} {k : Nat} {of_ : List FracD} {to_ : FracD} (h : RowI R m S tof tto tl rof rt k of_ to_) (hk : k < rof.length) (hl : rof.length ≤ tof.length) :
    of_[k]? = some (tof.getD k ⟨0, 1⟩) ∧ (addC (tof.getD k ⟨0, 1⟩) (S * rof[k]) m = none → R = none) ∧ (∀ q, addC (tof.getD k ⟨0, 1⟩) (S * rof[k]) m = some q → RowI R m S tof tto tl rof rt (k + 1) (of_.set k q) to_) := by
  obtain ⟨rfl, pre, hp, rfl, hR⟩ := h.1 (Nat.le_of_lt hk)
  have hkt : k < tof.length := by omega
  have hg : tof.getD k ⟨0, 1⟩ = tof[k] := by rw [List.getD_eq_getElem?_getD, List.getElem?_eq_getElem hkt]; rfl
  rw [hg]
  rw [drop_cons hkt, drop_cons hk, addRow] at hR
  refine ⟨get_at hp hkt, fun h0 => ?_, fun q h0 => ⟨fun _ => ⟨rfl, pre ++ [q], by rw [List.length_append, hp]; rfl, set_at hp hkt, ?_⟩, fun h => by omega⟩⟩
  · rw [h0] at hR
    exact hR.symm
  · rw [h0] at hR
    rw [← hR]
    cases addRow m S (tof.drop (k + 1)) (rof.drop (k + 1)) with
    | none => rfl
    | some o => cases addC to_ (S * rt) m <;> simp
theorem RowI.last {R : Option SumD} {m : FracD} {S : Int} {tof : List FracD} {tto : FracD} {tl : Bool} {rof : List Int} {rt : Int} {of_ : List FracD} {to_ : FracD} (h : RowI R m S tof tto tl rof rt rof.length of_ to_) :
    (addC to_ (S * rt) m = none → R = none) ∧ (∀ q, addC to_ (S * rt) m = some q → RowI R m S tof tto tl rof rt (rof.length + 1) of_ q) := by
  obtain ⟨rfl, pre, hp, rfl, hR⟩ := h.1 (Nat.le_refl _)
  rw [List.drop_of_length_le (Nat.le_refl rof.length), addRow.eq_def] at hR
  have hR2 : ((addC to_ (S * rt) m).map fun t' => (⟨pre ++ tof.drop rof.length, t', tl⟩ : SumD)) = R := by
    rw [← hR]
    cases tof.drop rof.length <;> rfl
  refine ⟨fun h0 => by rw [h0] at hR2; exact hR2.symm, fun q h0 => ⟨fun h => by omega, fun _ => by rw [h0] at hR2; exact hR2.symm⟩⟩
end Go.Proofs.YthjfiomcpihlaaaGreat
