/- Walk: sums and products as values: the program. · Walk: sums as values: the program. · Walks: tests of values, in a row and one by one; is a fraction less than another one: the program. · Walk: is a fraction less than another one: the program. -/
import Derived.Test.YthooecojopfjbaaValH
import Derived.RegionTactic
import Derived.Deep.RegionWith
import Derived.Deep.RegionLaw
import Derived.Test.YthooecojopfjbaaFracE
namespace Go.Proofs.Ythooecojopfjbaa
open Go.RowKit

def numberV : Option FracD → Value
  | some q => .tuple #[.agg #[.int .i64 q.num, .int .i64 q.den, .slice none 0 0, .int .i64 0], .bool true]
  | none => .tuple #[.agg #[.int .i64 0, .int .i64 0, .slice none 0 0, .int .i64 0], .bool false]
theorem boxesN (w : World) (c1 : Array Value) : ∃ X, (((w.alloc (.cells c1 59)).alloc (.cells #[.int .i64 0, .int .i64 0, .slice none 0 0, .int .i64 0] 54)).alloc (.cells #[.int .i64 0, .int .i64 1] 51)).alloc (.cells #[.int .i64 0, .int .i64 0] 29) = X ∧ Below w.heap.size w X ∧ Blk X w.heap.size 59 c1 ∧ Blk X (w.heap.size + 1) 54 #[.int .i64 0, .int .i64 0, .slice none 0 0, .int .i64 0] ∧ Blk X (w.heap.size + 2) 51 #[.int .i64 0, .int .i64 1] ∧ Blk X (w.heap.size + 3) 29 #[.int .i64 0, .int .i64 0] ∧ X.heap.size = w.heap.size + 4 :=
  boxes4 w _ _ _ _ _ _ _ _

theorem four_far {w : World} {g h x : Nat} {t : TypeId} {cs : Array Value} (hk : Blk w x t cs) (h1 : x ≠ g) (h2 : x ≠ h) (a b c d : Value) : Blk (four w g h a b c d) x t cs :=
  (((hk.far (p := ⟨g, 0, none⟩) h1 a).far (p := ⟨g, 1, none⟩) h1 b).far (p := ⟨h, 0, none⟩) h2 c).far (p := ⟨h, 1, none⟩) h2 d

set_option maxRecDepth 100000 in
set_option maxHeartbeats 4000000 in
theorem number12_any (K : Option Addr) (kn kc : Nat) (N D : Int) (nm : ByteArray) (AK : Option Addr) (ck : Nat) (u : ValueD) (r : Option FracD) (w : World)
    (hvs : ArrB AtValue 4 w w.heap.size AK 1 [u]) (hu : fracGood u.num u.den = true) (hn : fracGood N D = true) (hr : timesQ (qOf u) ⟨N, D⟩ = r) :
    Calls Try.prog 104 #[.agg #[.int .i64 12, .slice K kn kc, .int .i64 N, .int .i64 D, .string nm], .slice AK 1 ck] w fun e w' => e = .returned (numberV r) ∧ Below w.heap.size w w' := by
  obtain ⟨X, hX, hbX, k1, k2, k3, k4, hsX⟩ := boxesN w #[.int .i64 12, .slice K kn kc, .int .i64 N, .int .i64 D, .string nm]
  obtain ⟨b, off, hx, A2, n2, c2, rfl, hb, hv0, hv1, -, -, -, -, -, -, -, -⟩ := values_get (hvs.below stays_value hbX (Nat.le_refl _)) (i := 0) (by omega)
  rw [List.getElem_cons_zero] at hv0 hv1
  rw [Nat.zero_mul, Nat.add_zero] at hv0 hv1
  have HT := Lib.hid (fun W => fracTimes_any (qOf u) ⟨N, D⟩ r W hu hn hr)
  have HX := Lib.hid hX
  have HK := Lib.hid (And.intro hbX (And.intro k2 (And.intro k3 (And.intro k4 hsX))))
  have x0 : X.cell? ⟨w.heap.size, 0, none⟩ = some (.int .i64 12) := k1.cell 0
  have x2 : X.cell? ⟨w.heap.size, 2, none⟩ = some (.int .i64 N) := k1.cell 2
  have x3 : X.cell? ⟨w.heap.size, 3, none⟩ = some (.int .i64 D) := k1.cell 3
  have hzx : w.heap.size + 3 < X.heap.size := k4.lt
  unfold qOf at HT
  obtain ⟨un, ud, uc, ur⟩ := u
  dsimp only at hv0 hv1 HT
  clear hX hbX k1 k2 k3 k4 hsX hvs hu hn hr hx hb
  go_enter Try.func104, Try.ntmps104
  go_upto_region 4 with fail
  rw [HX.out]
  cases r with
  | some q =>
    unfold makeV at HT
    go_region_law (first
      | (go_simp
         go_at_call 116
         refine (HT.out _).mono ?_
         rintro e w6 ⟨rfl, hb6⟩
         have hb7 : Below X.heap.size X w6 := below_of_drew hb6
         have hmm := HK.out.2.2.1.below hb7 (by show w.heap.size + 2 < X.heap.size; omega)
         have hmf := HK.out.2.2.2.1.below hb7 (by show w.heap.size + 3 < X.heap.size; omega)
         have c0 : w6.cell? ⟨w.heap.size + 2, 0, none⟩ = some (.int .i64 0) := hmm.cell 0
         have c1 : w6.cell? ⟨w.heap.size + 2, 1, none⟩ = some (.int .i64 1) := hmm.cell 1
         have c2 : w6.cell? ⟨w.heap.size + 3, 0, none⟩ = some (.int .i64 0) := hmf.cell 0
         have c3 : w6.cell? ⟨w.heap.size + 3, 1, none⟩ = some (.int .i64 0) := hmf.cell 1
         have v0 : w6.frozen? ⟨w.heap.size + 2, 0, none⟩ = false := hmm.frozen 0
         have v1 : w6.frozen? ⟨w.heap.size + 2, 1, none⟩ = false := hmm.frozen 1
         have v2 : w6.frozen? ⟨w.heap.size + 3, 0, none⟩ = false := hmf.frozen 0
         have v3 : w6.frozen? ⟨w.heap.size + 3, 1, none⟩ = false := hmf.frozen 1
         have zf : w.heap.size + 3 < w6.heap.size := hmf.lt
         have hmv := HK.out.2.1.below hb7 (by show w.heap.size + 1 < X.heap.size; omega)
         have HB6 := Lib.hid (And.intro (HK.out.1.trans (hb7.mono (show w.heap.size ≤ X.heap.size by omega))) (And.intro hmm (And.intro hmf hmv)))
         clear hmm hmf hmv hb6 hb7)
      | fail)
    all_goals
      clear c0 c1 c2 c3 v0 v1 v2 v3 zf x0 x2 x3 hzx hv0 hv1
      have hF := four_ok HB6.out.1 HB6.out.2.1 HB6.out.2.2.1 (by omega) (by omega) (by omega) (.int .i64 q.num) (.int .i64 q.den) (.int .i64 0) (.int .i64 0)
      have hV := four_far HB6.out.2.2.2 (g := w.heap.size + 2) (h := w.heap.size + 3) (by omega) (by omega) (.int .i64 q.num) (.int .i64 q.den) (.int .i64 0) (.int .i64 0)
      have e4 : (((w6.setCell ⟨w.heap.size + 1 + 1, 0, none⟩ (.int .i64 q.num)).setCell ⟨w.heap.size + 1 + 1, 1, none⟩ (.int .i64 q.den)).setCell ⟨w.heap.size + 1 + 1 + 1, 0, none⟩ (.int .i64 0)).setCell ⟨w.heap.size + 1 + 1 + 1, 1, none⟩ (.int .i64 0) = four w6 (w.heap.size + 2) (w.heap.size + 3) (.int .i64 q.num) (.int .i64 q.den) (.int .i64 0) (.int .i64 0) := rfl
      rw [e4]
      clear e4
      generalize four w6 (w.heap.size + 2) (w.heap.size + 3) (.int .i64 q.num) (.int .i64 q.den) (.int .i64 0) (.int .i64 0) = Z at hF hV ⊢
      have f0 : Z.cell? ⟨w.heap.size + 2, 0, none⟩ = some (.int .i64 q.num) := hF.2.1.cell 0
      have f1 : Z.cell? ⟨w.heap.size + 2, 1, none⟩ = some (.int .i64 q.den) := hF.2.1.cell 1
      have f2 : Z.cell? ⟨w.heap.size + 3, 0, none⟩ = some (.int .i64 0) := hF.2.2.cell 0
      have m0 : Z.cell? ⟨w.heap.size + 1, 0, none⟩ = some (.int .i64 0) := hV.cell 0
      have m1 : Z.cell? ⟨w.heap.size + 1, 1, none⟩ = some (.int .i64 0) := hV.cell 1
      have m2 : Z.cell? ⟨w.heap.size + 1, 2, none⟩ = some (.slice none 0 0) := hV.cell 2
      have m3 : Z.cell? ⟨w.heap.size + 1, 3, none⟩ = some (.int .i64 0) := hV.cell 3
      have u0 : Z.frozen? ⟨w.heap.size + 1, 0, none⟩ = false := hV.frozen 0
      have u1 : Z.frozen? ⟨w.heap.size + 1, 1, none⟩ = false := hV.frozen 1
      have u2 : Z.frozen? ⟨w.heap.size + 1, 2, none⟩ = false := hV.frozen 2
      have u3 : Z.frozen? ⟨w.heap.size + 1, 3, none⟩ = false := hV.frozen 3
      have zf : w.heap.size + 3 < Z.heap.size := hF.2.2.lt
      have HZ := Lib.hid (And.intro hF.1 hV)
      clear hF hV HB6
      go_wp2_with fail
      go_region
      go_wp2_with fail
      clear m0 m1 m2 m3 u0 u1 u2 u3 f0 f1 f2 zf
      have hz1 := (put4_blk HZ.out.2 (.int .i64 q.num) (.int .i64 q.den) (.slice none 0 0) (.int .i64 0)).drew
      have hz2 : Below w.heap.size w (put4 Z (w.heap.size + 1) (.int .i64 q.num) (.int .i64 q.den) (.slice none 0 0) (.int .i64 0)).drew := below_drewN (put4_below HZ.out.1 (Nat.le_succ _) (.int .i64 q.num) (.int .i64 q.den) (.slice none 0 0) (.int .i64 0)) 1
      have e4 : (((Z.setCell ⟨w.heap.size + 1, 0, none⟩ (.int .i64 q.num)).setCell ⟨w.heap.size + 1, 1, none⟩ (.int .i64 q.den)).setCell ⟨w.heap.size + 1, 2, none⟩ (.slice none 0 0)).setCell ⟨w.heap.size + 1, 3, none⟩ (.int .i64 0) = put4 Z (w.heap.size + 1) (.int .i64 q.num) (.int .i64 q.den) (.slice none 0 0) (.int .i64 0) := rfl
      rw [e4]
      clear e4
      generalize (put4 Z (w.heap.size + 1) (.int .i64 q.num) (.int .i64 q.den) (.slice none 0 0) (.int .i64 0)).drew = Z2 at hz1 hz2 ⊢
      have d0 := hz1.cell 0
      have d1 := hz1.cell 1
      have d2 := hz1.cell 2
      have d3 := hz1.cell 3
      simp only [List.getElem?_toArray, List.getElem?_cons_zero, List.getElem?_cons_succ] at d0 d1 d2 d3
      exact bodyPost_ret (v := .tuple #[.agg #[.int .i64 q.num, .int .i64 q.den, .slice none 0 0, .int .i64 0], .bool true]) (by simp [results, Try.results104, go_sem, d0, d1, d2, d3]) rfl ⟨rfl, hz2⟩
  | none =>
    unfold makeV at HT
    go_region_law (first
      | (go_simp
         go_at_call 116
         refine (HT.out _).mono ?_
         rintro e w6 ⟨rfl, hb6⟩
         have hb7 : Below X.heap.size X w6 := below_of_drew hb6
         have hmm := HK.out.2.2.1.below hb7 (by show w.heap.size + 2 < X.heap.size; omega)
         have hmf := HK.out.2.2.2.1.below hb7 (by show w.heap.size + 3 < X.heap.size; omega)
         have c0 : w6.cell? ⟨w.heap.size + 2, 0, none⟩ = some (.int .i64 0) := hmm.cell 0
         have c1 : w6.cell? ⟨w.heap.size + 2, 1, none⟩ = some (.int .i64 1) := hmm.cell 1
         have c2 : w6.cell? ⟨w.heap.size + 3, 0, none⟩ = some (.int .i64 0) := hmf.cell 0
         have c3 : w6.cell? ⟨w.heap.size + 3, 1, none⟩ = some (.int .i64 0) := hmf.cell 1
         have v0 : w6.frozen? ⟨w.heap.size + 2, 0, none⟩ = false := hmm.frozen 0
         have v1 : w6.frozen? ⟨w.heap.size + 2, 1, none⟩ = false := hmm.frozen 1
         have v2 : w6.frozen? ⟨w.heap.size + 3, 0, none⟩ = false := hmf.frozen 0
         have v3 : w6.frozen? ⟨w.heap.size + 3, 1, none⟩ = false := hmf.frozen 1
         have zf : w.heap.size + 3 < w6.heap.size := hmf.lt
         have hmv := HK.out.2.1.below hb7 (by show w.heap.size + 1 < X.heap.size; omega)
         have HB6 := Lib.hid (And.intro (HK.out.1.trans (hb7.mono (show w.heap.size ≤ X.heap.size by omega))) (And.intro hmm (And.intro hmf hmv)))
         clear hmm hmf hmv hb6 hb7)
      | fail)
    all_goals
      clear c0 c1 c2 c3 v0 v1 v2 v3 zf x0 x2 x3 hzx hv0 hv1
      have hF := four_ok HB6.out.1 HB6.out.2.1 HB6.out.2.2.1 (by omega) (by omega) (by omega) (.int .i64 0) (.int .i64 0) (.int .i64 10) (.int .i64 0)
      have hV := four_far HB6.out.2.2.2 (g := w.heap.size + 2) (h := w.heap.size + 3) (by omega) (by omega) (.int .i64 0) (.int .i64 0) (.int .i64 10) (.int .i64 0)
      have e4 : (((w6.setCell ⟨w.heap.size + 1 + 1, 0, none⟩ (.int .i64 0)).setCell ⟨w.heap.size + 1 + 1, 1, none⟩ (.int .i64 0)).setCell ⟨w.heap.size + 1 + 1 + 1, 0, none⟩ (.int .i64 10)).setCell ⟨w.heap.size + 1 + 1 + 1, 1, none⟩ (.int .i64 0) = four w6 (w.heap.size + 2) (w.heap.size + 3) (.int .i64 0) (.int .i64 0) (.int .i64 10) (.int .i64 0) := rfl
      rw [e4]
      clear e4
      generalize four w6 (w.heap.size + 2) (w.heap.size + 3) (.int .i64 0) (.int .i64 0) (.int .i64 10) (.int .i64 0) = Z at hF hV ⊢
      have f0 : Z.cell? ⟨w.heap.size + 2, 0, none⟩ = some (.int .i64 0) := hF.2.1.cell 0
      have f1 : Z.cell? ⟨w.heap.size + 2, 1, none⟩ = some (.int .i64 0) := hF.2.1.cell 1
      have f2 : Z.cell? ⟨w.heap.size + 3, 0, none⟩ = some (.int .i64 10) := hF.2.2.cell 0
      have m0 : Z.cell? ⟨w.heap.size + 1, 0, none⟩ = some (.int .i64 0) := hV.cell 0
      have m1 : Z.cell? ⟨w.heap.size + 1, 1, none⟩ = some (.int .i64 0) := hV.cell 1
      have m2 : Z.cell? ⟨w.heap.size + 1, 2, none⟩ = some (.slice none 0 0) := hV.cell 2
      have m3 : Z.cell? ⟨w.heap.size + 1, 3, none⟩ = some (.int .i64 0) := hV.cell 3
      have u0 : Z.frozen? ⟨w.heap.size + 1, 0, none⟩ = false := hV.frozen 0
      have u1 : Z.frozen? ⟨w.heap.size + 1, 1, none⟩ = false := hV.frozen 1
      have u2 : Z.frozen? ⟨w.heap.size + 1, 2, none⟩ = false := hV.frozen 2
      have u3 : Z.frozen? ⟨w.heap.size + 1, 3, none⟩ = false := hV.frozen 3
      have zf : w.heap.size + 3 < Z.heap.size := hF.2.2.lt
      have HZ := Lib.hid (And.intro hF.1 hV)
      clear hF hV HB6
      go_wp2_with fail
      go_region
      go_wp2_with fail
      clear m0 m1 m2 m3 u0 u1 u2 u3 f0 f1 f2 zf
      have hz1 := (put4_blk HZ.out.2 (.int .i64 0) (.int .i64 0) (.slice none 0 0) (.int .i64 0)).drew
      have hz2 : Below w.heap.size w (put4 Z (w.heap.size + 1) (.int .i64 0) (.int .i64 0) (.slice none 0 0) (.int .i64 0)).drew := below_drewN (put4_below HZ.out.1 (Nat.le_succ _) (.int .i64 0) (.int .i64 0) (.slice none 0 0) (.int .i64 0)) 1
      have e4 : (((Z.setCell ⟨w.heap.size + 1, 0, none⟩ (.int .i64 0)).setCell ⟨w.heap.size + 1, 1, none⟩ (.int .i64 0)).setCell ⟨w.heap.size + 1, 2, none⟩ (.slice none 0 0)).setCell ⟨w.heap.size + 1, 3, none⟩ (.int .i64 0) = put4 Z (w.heap.size + 1) (.int .i64 0) (.int .i64 0) (.slice none 0 0) (.int .i64 0) := rfl
      rw [e4]
      clear e4
      generalize (put4 Z (w.heap.size + 1) (.int .i64 0) (.int .i64 0) (.slice none 0 0) (.int .i64 0)).drew = Z2 at hz1 hz2 ⊢
      have d0 := hz1.cell 0
      have d1 := hz1.cell 1
      have d2 := hz1.cell 2
      have d3 := hz1.cell 3
      simp only [List.getElem?_toArray, List.getElem?_cons_zero, List.getElem?_cons_succ] at d0 d1 d2 d3
      exact bodyPost_ret (v := .tuple #[.agg #[.int .i64 0, .int .i64 0, .slice none 0 0, .int .i64 0], .bool false]) (by simp [results, Try.results104, go_sem, d0, d1, d2, d3]) rfl ⟨rfl, hz2⟩
end Go.Proofs.Ythooecojopfjbaa
namespace Go.Proofs.Ythooecojopfjbaa
open Go.RowKit

/-- the blocks of a sum: the result, the sum so far, no fault -/
structure SumI (w wr : World) (q : FracD) : Prop where
  below : Below w.heap.size w wr
  val : Blk wr (w.heap.size + 1) 54 #[.int .i64 0, .int .i64 0, .slice none 0 0, .int .i64 0]
  sum : Blk wr (w.heap.size + 2) 51 #[.int .i64 q.num, .int .i64 q.den]
  flt : Blk wr (w.heap.size + 3) 29 #[.int .i64 0, .int .i64 0]

set_option maxRecDepth 100000 in
set_option maxHeartbeats 4000000 in
theorem number11_any (K : Option Addr) (kn kc : Nat) (N D : Int) (nm : ByteArray) (AK : Option Addr) (nk ck : Nat) (vs : List ValueD) (r : Option FracD) (w : World)
    (hvs : ArrB AtValue 4 w w.heap.size AK nk vs) (hnk : nk ≤ 9223372036854775807) (hg : ∀ v ∈ vs, fracGood v.num v.den = true) (hr : addF ⟨0, 1⟩ vs = r) :
    Calls Try.prog 104 #[.agg #[.int .i64 11, .slice K kn kc, .int .i64 N, .int .i64 D, .string nm], .slice AK nk ck] w fun e w' => e = .returned (numberV r) ∧ Below w.heap.size w w' := by
  obtain ⟨X, hX, hbX, k1, k2, k3, k4, hsX⟩ := boxesN w #[.int .i64 11, .slice K kn kc, .int .i64 N, .int .i64 D, .string nm]
  have H0 : Hid (SumI w X ⟨0, 1⟩) := ⟨hbX, k2, k3, k4⟩
  have HX := Lib.hid hX
  have HVS := Lib.hid hvs
  have HG := Lib.hid hg
  have HR := Lib.hid hr
  have HL := Lib.hid hvs.len
  have x0 : X.cell? ⟨w.heap.size, 0, none⟩ = some (.int .i64 11) := k1.cell 0
  have hzx : w.heap.size + 3 < X.heap.size := k4.lt
  clear hX hbX k1 k2 k3 k4 hsX hvs hg hr
  go_enter Try.func104, Try.ntmps104
  go_wp2_with fail
  rw [HX.out]
  clear x0 hzx
  go_loopw [34] (fun s wr => ∃ (k : Nat) (q : FracD), k ≤ nk ∧ s = .int .i64 k ∧ SumI w wr q ∧ fracGood q.num q.den = true ∧ Hid (addF q (vs.drop k) = r)) (fun s _ => nk - (intOf s).toNat)
  case atStart => exact ⟨0, ⟨0, 1⟩, Nat.zero_le _, rfl, H0.out, by decide, HR⟩
  case round =>
    clear H0 HR
    obtain ⟨k, q, hk, rfl, hI, hgq, HK⟩ := hrel
    by_cases hlt : k < nk
    · obtain ⟨b, off, hx, A2, n2, c2, rfl, hb, hv0, hv1, hv2, hv3, -, -, -, -, -, -⟩ := values_get (HVS.out.below stays_value hI.below (Nat.le_refl _)) hlt
      have hgu := HG.out _ (List.getElem_mem hx)
      have e1 := HK.out
      rw [drop_cons hx, addF] at e1
      generalize vs[k] = u at e1 hv0 hv1 hv3 hgu
      obtain ⟨un, ud, uc, ur⟩ := u
      unfold qOf at e1
      dsimp only at e1 hv0 hv1 hv3 hgu
      obtain ⟨Y, hY⟩ : ∃ Y, wr.alloc (.cells #[.int .i64 un, .int .i64 ud, .slice A2 n2 c2, .int .i64 ur] 54) = Y := ⟨_, rfl⟩
      have hz3 := hI.flt.lt
      have hIY : SumI w Y q := by rw [← hY]; exact ⟨hI.below.alloc (by omega) _, hI.val.alloc _, hI.sum.alloc _, hI.flt.alloc _⟩
      have hby : Blk Y wr.heap.size 54 #[.int .i64 un, .int .i64 ud, .slice A2 n2 c2, .int .i64 ur] := by rw [← hY]; exact Blk.new _ _ _
      obtain ⟨ar, har⟩ : ∃ ar, addQ q ⟨un, ud⟩ = ar := ⟨_, rfl⟩
      have HA := Lib.hid (fun W => fracAdd_any q ⟨un, ud⟩ ar W hgq hgu har)
      have hgood : ∀ q', ar = some q' → fracGood q'.num q'.den = true := fun q' e => (addQ_good hgq (b := ⟨un, ud⟩) hgu (har.trans e)).1
      rw [har] at e1
      have y0 : Y.cell? ⟨wr.heap.size, 0, none⟩ = some (.int .i64 un) := hby.cell 0
      have y1 : Y.cell? ⟨wr.heap.size, 1, none⟩ = some (.int .i64 ud) := hby.cell 1
      have zy : wr.heap.size < Y.heap.size := hby.lt
      have s0 : Y.cell? ⟨w.heap.size + 2, 0, none⟩ = some (.int .i64 q.num) := hIY.sum.cell 0
      have s1 : Y.cell? ⟨w.heap.size + 2, 1, none⟩ = some (.int .i64 q.den) := hIY.sum.cell 1
      have zs : w.heap.size + 2 < Y.heap.size := hIY.sum.lt
      have hkI : (k : Int) < (nk : Int) := by omega
      have HY := Lib.hid hY
      have HIY := Lib.hid hIY
      clear HK hx hb hI hIY hby hY har hgq hgu hz3
      go_upto_region 9 with fail
      rw [HY.out]
      clear hv0 hv1 hv2 hv3
      go_wp2_with fail
      refine (HA.out _).mono ?_
      rintro e w6 ⟨rfl, hb6⟩
      have hI := HIY.out
      have hbel := hI.below.trans (hb6.mono hI.below.size)
      have hval := hI.val.below hb6 hI.val.lt
      have hsum := hI.sum.below hb6 hI.sum.lt
      have hflt := hI.flt.below hb6 hI.flt.lt
      have HF := Lib.hid (fun a b c d => And.intro (four_ok hbel hsum hflt (by omega) (by omega) (by omega) a b c d) (four_far hval (g := w.heap.size + 2) (h := w.heap.size + 3) (by omega) (by omega) a b c d))
      have c0 : w6.cell? ⟨w.heap.size + 2, 0, none⟩ = some (.int .i64 q.num) := hsum.cell 0
      have c1 : w6.cell? ⟨w.heap.size + 2, 1, none⟩ = some (.int .i64 q.den) := hsum.cell 1
      have c2' : w6.cell? ⟨w.heap.size + 3, 0, none⟩ = some (.int .i64 0) := hflt.cell 0
      have c3 : w6.cell? ⟨w.heap.size + 3, 1, none⟩ = some (.int .i64 0) := hflt.cell 1
      have v0 : w6.frozen? ⟨w.heap.size + 2, 0, none⟩ = false := hsum.frozen 0
      have v1 : w6.frozen? ⟨w.heap.size + 2, 1, none⟩ = false := hsum.frozen 1
      have v2 : w6.frozen? ⟨w.heap.size + 3, 0, none⟩ = false := hflt.frozen 0
      have v3 : w6.frozen? ⟨w.heap.size + 3, 1, none⟩ = false := hflt.frozen 1
      have zf : w.heap.size + 3 < w6.heap.size := hflt.lt
      clear hI hbel hval hsum hflt hb6 y0 y1 zy s0 s1 zs HA HIY HY
      cases ar with
      | some q' =>
        have H1 : Hid (addF q' (vs.drop (k + 1)) = r) := e1
        have HGQ := Lib.hid (hgood q' rfl)
        clear e1 hgood
        unfold makeV
        go_upto_region 10 with fail
        clear c0 c1 c2' c3 v0 v1 v2 v3 zf
        have hF := HF.out (.int .i64 q'.num) (.int .i64 q'.den) (.int .i64 0) (.int .i64 0)
        have e4 : (((w6.setCell ⟨w.heap.size + 1 + 1, 0, none⟩ (.int .i64 q'.num)).setCell ⟨w.heap.size + 1 + 1, 1, none⟩ (.int .i64 q'.den)).setCell ⟨w.heap.size + 1 + 1 + 1, 0, none⟩ (.int .i64 0)).setCell ⟨w.heap.size + 1 + 1 + 1, 1, none⟩ (.int .i64 0) = four w6 (w.heap.size + 2) (w.heap.size + 3) (.int .i64 q'.num) (.int .i64 q'.den) (.int .i64 0) (.int .i64 0) := rfl
        rw [e4]
        clear e4
        generalize four w6 (w.heap.size + 2) (w.heap.size + 3) (.int .i64 q'.num) (.int .i64 q'.den) (.int .i64 0) (.int .i64 0) = Z at hF ⊢
        have f2 : Z.cell? ⟨w.heap.size + 3, 0, none⟩ = some (.int .i64 0) := hF.1.2.2.cell 0
        have zz : w.heap.size + 3 < Z.heap.size := hF.1.2.2.lt
        have HZ : Hid (SumI w Z q') := ⟨hF.1.1, hF.2, hF.1.2.1, hF.1.2.2⟩
        clear hF HF
        go_wp2_with fail
        go_roundw
        case rel => exact ⟨k + 1, q', by omega, by go_num, HZ.out, HGQ.out, H1⟩
        case measure => simp [intOf]; omega
      | none =>
        have H1 : Hid (none = r) := e1
        clear e1 hgood
        unfold makeV
        go_upto_region 10 with fail
        clear c0 c1 c2' c3 v0 v1 v2 v3 zf
        have hF := HF.out (.int .i64 0) (.int .i64 0) (.int .i64 10) (.int .i64 0)
        have e4 : (((w6.setCell ⟨w.heap.size + 1 + 1, 0, none⟩ (.int .i64 0)).setCell ⟨w.heap.size + 1 + 1, 1, none⟩ (.int .i64 0)).setCell ⟨w.heap.size + 1 + 1 + 1, 0, none⟩ (.int .i64 10)).setCell ⟨w.heap.size + 1 + 1 + 1, 1, none⟩ (.int .i64 0) = four w6 (w.heap.size + 2) (w.heap.size + 3) (.int .i64 0) (.int .i64 0) (.int .i64 10) (.int .i64 0) := rfl
        rw [e4]
        clear e4
        generalize four w6 (w.heap.size + 2) (w.heap.size + 3) (.int .i64 0) (.int .i64 0) (.int .i64 10) (.int .i64 0) = Z at hF ⊢
        have f2 : Z.cell? ⟨w.heap.size + 3, 0, none⟩ = some (.int .i64 10) := hF.1.2.2.cell 0
        have zz : w.heap.size + 3 < Z.heap.size := hF.1.2.2.lt
        have m0 : Z.cell? ⟨w.heap.size + 1, 0, none⟩ = some (.int .i64 0) := hF.2.cell 0
        have m1 : Z.cell? ⟨w.heap.size + 1, 1, none⟩ = some (.int .i64 0) := hF.2.cell 1
        have m2 : Z.cell? ⟨w.heap.size + 1, 2, none⟩ = some (.slice none 0 0) := hF.2.cell 2
        have m3 : Z.cell? ⟨w.heap.size + 1, 3, none⟩ = some (.int .i64 0) := hF.2.cell 3
        have u0 : Z.frozen? ⟨w.heap.size + 1, 0, none⟩ = false := hF.2.frozen 0
        have u1 : Z.frozen? ⟨w.heap.size + 1, 1, none⟩ = false := hF.2.frozen 1
        have u2 : Z.frozen? ⟨w.heap.size + 1, 2, none⟩ = false := hF.2.frozen 2
        have u3 : Z.frozen? ⟨w.heap.size + 1, 3, none⟩ = false := hF.2.frozen 3
        have HZ := Lib.hid (And.intro hF.1.1 hF.2)
        clear hF HF
        go_wp2_with fail
        clear m0 m1 m2 m3 u0 u1 u2 u3 f2 zz
        have hz1 := put4_blk HZ.out.2 (.int .i64 0) (.int .i64 0) (.slice none 0 0) (.int .i64 0)
        have hz2 := put4_below HZ.out.1 (Nat.le_succ _) (.int .i64 0) (.int .i64 0) (.slice none 0 0) (.int .i64 0)
        have e4 : (((Z.setCell ⟨w.heap.size + 1, 0, none⟩ (.int .i64 0)).setCell ⟨w.heap.size + 1, 1, none⟩ (.int .i64 0)).setCell ⟨w.heap.size + 1, 2, none⟩ (.slice none 0 0)).setCell ⟨w.heap.size + 1, 3, none⟩ (.int .i64 0) = put4 Z (w.heap.size + 1) (.int .i64 0) (.int .i64 0) (.slice none 0 0) (.int .i64 0) := rfl
        rw [e4]
        clear e4
        generalize put4 Z (w.heap.size + 1) (.int .i64 0) (.int .i64 0) (.slice none 0 0) (.int .i64 0) = Z2 at hz1 hz2 ⊢
        have d0 := hz1.cell 0
        have d1 := hz1.cell 1
        have d2 := hz1.cell 2
        have d3 := hz1.cell 3
        simp only [List.getElem?_toArray, List.getElem?_cons_zero, List.getElem?_cons_succ] at d0 d1 d2 d3
        have hr := H1.out
        subst hr
        exact bodyPost_ret (v := .tuple #[.agg #[.int .i64 0, .int .i64 0, .slice none 0 0, .int .i64 0], .bool false]) (by simp [results, Try.results104, go_sem, d0, d1, d2, d3]) rfl ⟨rfl, hz2⟩
    · obtain rfl : nk = k := by omega
      have e1 := HK.out
      rw [List.drop_of_length_le (by have := HL.out; omega), addF] at e1
      have H1 : Hid (some q = r) := e1
      have s0 : wr.cell? ⟨w.heap.size + 2, 0, none⟩ = some (.int .i64 q.num) := hI.sum.cell 0
      have s1 : wr.cell? ⟨w.heap.size + 2, 1, none⟩ = some (.int .i64 q.den) := hI.sum.cell 1
      have zs : w.heap.size + 3 < wr.heap.size := hI.flt.lt
      have m0 : wr.cell? ⟨w.heap.size + 1, 0, none⟩ = some (.int .i64 0) := hI.val.cell 0
      have m1 : wr.cell? ⟨w.heap.size + 1, 1, none⟩ = some (.int .i64 0) := hI.val.cell 1
      have m2 : wr.cell? ⟨w.heap.size + 1, 2, none⟩ = some (.slice none 0 0) := hI.val.cell 2
      have m3 : wr.cell? ⟨w.heap.size + 1, 3, none⟩ = some (.int .i64 0) := hI.val.cell 3
      have u0 : wr.frozen? ⟨w.heap.size + 1, 0, none⟩ = false := hI.val.frozen 0
      have u1 : wr.frozen? ⟨w.heap.size + 1, 1, none⟩ = false := hI.val.frozen 1
      have u2 : wr.frozen? ⟨w.heap.size + 1, 2, none⟩ = false := hI.val.frozen 2
      have u3 : wr.frozen? ⟨w.heap.size + 1, 3, none⟩ = false := hI.val.frozen 3
      have HZ := Lib.hid (And.intro hI.below hI.val)
      clear HK e1 hI hgq
      go_wp2_with fail
      clear m0 m1 m2 m3 u0 u1 u2 u3 s0 s1 zs
      have hz1 := put4_blk HZ.out.2 (.int .i64 q.num) (.int .i64 q.den) (.slice none 0 0) (.int .i64 0)
      have hz2 := put4_below HZ.out.1 (Nat.le_succ _) (.int .i64 q.num) (.int .i64 q.den) (.slice none 0 0) (.int .i64 0)
      have e4 : (((wr.setCell ⟨w.heap.size + 1, 0, none⟩ (.int .i64 q.num)).setCell ⟨w.heap.size + 1, 1, none⟩ (.int .i64 q.den)).setCell ⟨w.heap.size + 1, 2, none⟩ (.slice none 0 0)).setCell ⟨w.heap.size + 1, 3, none⟩ (.int .i64 0) = put4 wr (w.heap.size + 1) (.int .i64 q.num) (.int .i64 q.den) (.slice none 0 0) (.int .i64 0) := rfl
      rw [e4]
      clear e4
      generalize put4 wr (w.heap.size + 1) (.int .i64 q.num) (.int .i64 q.den) (.slice none 0 0) (.int .i64 0) = Z2 at hz1 hz2 ⊢
      have d0 := hz1.cell 0
      have d1 := hz1.cell 1
      have d2 := hz1.cell 2
      have d3 := hz1.cell 3
      simp only [List.getElem?_toArray, List.getElem?_cons_zero, List.getElem?_cons_succ] at d0 d1 d2 d3
      have hr := H1.out
      subst hr
      exact bodyPost_ret (v := .tuple #[.agg #[.int .i64 q.num, .int .i64 q.den, .slice none 0 0, .int .i64 0], .bool true]) (by simp [results, Try.results104, go_sem, d0, d1, d2, d3]) rfl ⟨rfl, hz2⟩
end Go.Proofs.Ythooecojopfjbaa
namespace Go.Proofs.Ythooecojopfjbaa
open Go.RowKit

/-- the function g tells p of each value of xs, and makes new blocks at most -/
def PredValue (P : Program) (g : Nat) (p : ValueD → Bool) (xs : List ValueD) (w : World) : Prop :=
  ∀ (W : World) (x : ValueD) (A2 : Option Addr) (n2 c2 : Nat), x ∈ xs → Below w.heap.size w W →
    Calls P g #[.agg #[.int .i64 x.num, .int .i64 x.den, .slice A2 n2 c2, .int .i64 x.rest]] W fun e w' => e = .returned (.bool (p x)) ∧ Below w.heap.size w w'

set_option maxHeartbeats 1000000 in
theorem indexValues_any (g : Nat) (eg : ∀ args w, (callFunc g args).run Try.prog w = .ok (.enter g args) w) (p : ValueD → Bool) (A : Option Addr) (n c : Nat) (xs : List ValueD) (R : Int) (w : World)
    (hxs : ArrB AtValue 4 w w.heap.size A n xs) (hn : n ≤ 9223372036854775807) (hp : PredValue Try.prog g p xs w) (hR : idx p xs 0 = R) :
    Calls Try.prog 129 #[.slice A n c, .func (.func g) #[] #[]] w fun e w' => e = .returned (.int .i64 R) ∧ Below w.heap.size w w' := by
  have HP := Lib.hid hp
  have HR := Lib.hid hR
  clear hp hR
  go_enter Try.func129, Try.ntmps129
  go_wp2_with fail
  go_loopw [8] (fun s wr => ∃ k : Nat, k ≤ n ∧ s = .int .i64 k ∧ Hid (idx p (xs.drop k) k = R) ∧ Below w.heap.size w wr) (fun s _ => n - (intOf s).toNat)
  case atStart => exact ⟨0, Nat.zero_le _, rfl, HR, Below.refl _ _⟩
  case round =>
    obtain ⟨k, hk, rfl, HK, hbel⟩ := hrel
    by_cases hlt : k < n
    · obtain ⟨b, off, hx, A2, n2, c2, rfl, hb, hc0, hc1, hc2, hc3, -, -, -, -, -, -⟩ := values_get (hxs.below stays_value hbel (Nat.le_refl _)) hlt
      have hcall := HP.out wr xs[k] A2 n2 c2 (List.getElem_mem hx) hbel
      have e1 := HK.out
      rw [drop_cons hx, idx] at e1
      have HX := Lib.hid hx
      generalize xs[k] = y at hcall e1 hc0 hc1 hc3
      clear HK hx hxs
      cases hq : p y with
      | true =>
        rw [hq] at hcall e1
        have e2 : (k : Int) = R := e1
        have HC := Lib.hid hcall
        have H2 := Lib.hid e2
        clear hcall e1 hq e2
        go_wp2_with (go_at_fn g; refine HC.out.mono ?_; rintro e w' ⟨rfl, hb'⟩)
        go_ret
        exact ⟨ret_int H2.out, hb'⟩
      | false =>
        rw [hq] at hcall e1
        have e2 : idx p (xs.drop (k + 1)) ((k : Int) + 1) = R := e1
        have HC := Lib.hid hcall
        have H2 := Lib.hid e2
        clear hcall e1 hq e2
        go_wp2_with (go_at_fn g; refine HC.out.mono ?_; rintro e w' ⟨rfl, hb'⟩)
        go_roundw
        case rel => exact ⟨k + 1, by omega, by go_num, by show _ = _; rw [Int.natCast_add]; exact H2.out, hb'⟩
        case measure => simp [intOf]; omega
    · obtain rfl : k = n := by omega
      have e1 := HK.out
      rw [List.drop_of_length_le (by have := hxs.len; omega), idx] at e1
      have H1 := Lib.hid e1
      clear e1 HK
      go_wp2_with fail
      go_ret
      exact ⟨ret_int H1.out, hbel⟩

set_option maxHeartbeats 1000000 in
theorem containsValues_any (g : Nat) (eg : ∀ args w, (callFunc g args).run Try.prog w = .ok (.enter g args) w) (p : ValueD → Bool) (A : Option Addr) (n c : Nat) (xs : List ValueD) (R : Bool) (w : World)
    (hxs : ArrB AtValue 4 w w.heap.size A n xs) (hn : n ≤ 9223372036854775807) (hp : PredValue Try.prog g p xs w) (hR : xs.any p = R) :
    Calls Try.prog 102 #[.slice A n c, .func (.func g) #[] #[]] w fun e w' => e = .returned (.bool R) ∧ Below w.heap.size w w' := by
  have HH := Lib.hid (indexValues_any g eg p A n c xs _ w hxs hn hp rfl)
  have h0 := idx_any p xs 0 (by omega)
  rw [hR] at h0
  generalize idx p xs 0 = r at HH h0
  have H0 := Lib.hid h0
  clear h0 hR hp hxs
  go_enter Try.func102, Try.ntmps102
  go_wp2_with fail
  refine HH.out.mono ?_
  rintro e w' ⟨rfl, hb⟩
  go_wp2_with fail
  go_ret
  exact ⟨ret_bool H0.out, hb⟩

set_option maxHeartbeats 1000000 in
theorem holds_pred (xs : List ValueD) (w : World) : PredValue Try.prog 99 isOne xs w := fun W x A2 n2 c2 _ hb => by
  obtain ⟨xn, xd, xc, xr⟩ := x
  dsimp only
  have HB := Lib.hid (hb.trans (((Below.refl W.heap.size W).alloc (Nat.le_refl _) (.cells #[.int .i64 xn, .int .i64 xd, .slice A2 n2 c2, .int .i64 xr] 54)).mono hb.size))
  clear hb
  go_enter Try.func99, Try.ntmps99
  go_wp2_with fail
  go_ret
  exact ⟨ret_bool rfl, HB.out⟩
set_option maxHeartbeats 1000000 in
theorem fails_pred (xs : List ValueD) (w : World) : PredValue Try.prog 100 isZero xs w := fun W x A2 n2 c2 _ hb => by
  obtain ⟨xn, xd, xc, xr⟩ := x
  dsimp only
  have HB := Lib.hid (hb.trans (((Below.refl W.heap.size W).alloc (Nat.le_refl _) (.cells #[.int .i64 xn, .int .i64 xd, .slice A2 n2 c2, .int .i64 xr] 54)).mono hb.size))
  clear hb
  go_enter Try.func100, Try.ntmps100
  go_wp2_with fail
  go_ret
  exact ⟨ret_bool rfl, HB.out⟩

set_option maxHeartbeats 1000000 in
theorem kidIs_any (i : Int) (j : Nat) (hij : i = j) (b : Bool) (A : Option Addr) (n c : Nat) (xs : List ValueD) (B : Nat) (S : Nat → Prop) (w : World) (hxs : Arr AtValue 4 w S A n xs) (hj : j < n) (_hn : n ≤ 9223372036854775807) (hB : w.cell? ⟨B, 0, none⟩ = some (.slice A n c)) (_hlt : B < w.heap.size) (hb : isOne (kidV xs j) = b) :
    Calls Try.prog 98 #[.int .i64 i, .pointer (some ⟨B, 0, none⟩)] w fun e w' => e = .returned (.bool b) ∧ w = w' := by
  subst hij
  obtain ⟨b0, off, hx, A2, n2, c2, rfl, -, hc0, -, -, -, -, -, -, -, -, -⟩ := values_get hxs hj
  have e : kidV xs j = xs[j] := by unfold kidV; rw [List.getD_eq_getElem?_getD, List.getElem?_eq_getElem hx]; rfl
  rw [e, isOne] at hb
  generalize xs[j] = y at hc0 hb
  obtain ⟨yn, yd, yc, yr⟩ := y
  dsimp only at hc0 hb
  have hjI : (j : Int) < (n : Int) := by omega
  have HB := Lib.hid hb
  clear hx hxs e hb
  go_enter Try.func98, Try.ntmps98
  go_wp2_with fail
  go_ret
  exact ⟨ret_bool HB.out, rfl⟩
end Go.Proofs.Ythooecojopfjbaa
namespace Go.Proofs.Ythooecojopfjbaa
open Go.RowKit

set_option maxRecDepth 100000 in
set_option maxHeartbeats 1000000 in
theorem less_any (a b : FracD) (r : Bool) (w : World) (ha : fracGood a.num a.den = true) (hb : fracGood b.num b.den = true) (hr : lessQ a b = r) :
    Calls Try.prog 105 #[.agg #[.int .i64 a.num, .int .i64 a.den], .agg #[.int .i64 b.num, .int .i64 b.den]] w fun e w' => e = .returned (.tuple #[.bool r, .agg #[.int .i64 0, .int .i64 0]]) ∧ Below w.heap.size w w' := by
  obtain ⟨⟨q1, q2⟩, ⟨q3, q4⟩, -, -⟩ := cross ha hb
  obtain ⟨hbX, k1, k2, k3, hsX⟩ := boxesV w 51 51 29 #[.int .i64 a.num, .int .i64 a.den] #[.int .i64 b.num, .int .i64 b.den] #[.int .i64 0, .int .i64 0]
  obtain ⟨X, hX⟩ : ∃ X, ((w.alloc (.cells #[.int .i64 a.num, .int .i64 a.den] 51)).alloc (.cells #[.int .i64 b.num, .int .i64 b.den] 51)).alloc (.cells #[.int .i64 0, .int .i64 0] 29) = X := ⟨_, rfl⟩
  rw [hX] at hbX k1 k2 k3 hsX
  obtain ⟨X2, hX2⟩ : ∃ X2, X.alloc (.cells #[.int .i64 a.num, .int .i64 a.den, .int .i64 b.num, .int .i64 b.den] 51) = X2 := ⟨_, rfl⟩
  have kb : Blk X2 X.heap.size 51 #[.int .i64 a.num, .int .i64 a.den, .int .i64 b.num, .int .i64 b.den] := by rw [← hX2]; exact Blk.new _ _ _
  have hb2 : Below X.heap.size X X2 := by rw [← hX2]; exact (Below.refl _ _).alloc (Nat.le_refl _) _
  have hs2 : X2.heap.size = w.heap.size + 4 := by rw [← hX2]; simp [hsX]
  rw [hsX] at kb
  have HC := Lib.hid (checked_any (some ⟨w.heap.size + 3, 0, none⟩) 2 2 [a, b] X2 (two_fracs kb ha hb) (by omega) (fun x hx => by
    simp only [List.mem_cons, List.not_mem_nil, or_false] at hx
    rcases hx with rfl | rfl
    · exact ha
    · exact hb))
  have hMK : ∀ W : World, Below (w.heap.size + 4) X2 W → Below w.heap.size w W ∧ W.cell? ⟨w.heap.size, 0, none⟩ = some (.int .i64 a.num) ∧ W.cell? ⟨w.heap.size, 1, none⟩ = some (.int .i64 a.den) ∧ W.cell? ⟨w.heap.size + 1, 0, none⟩ = some (.int .i64 b.num) ∧ W.cell? ⟨w.heap.size + 1, 1, none⟩ = some (.int .i64 b.den) ∧
      Blk W (w.heap.size + 2) 29 #[.int .i64 0, .int .i64 0] ∧ w.heap.size + 2 < W.heap.size := fun W hW =>
    have m1 := (k1.below hb2 (by omega)).below hW (by omega)
    have m2 := (k2.below hb2 (by omega)).below hW (by omega)
    have m3 := (k3.below hb2 (by omega)).below hW (by omega)
    ⟨(hbX.trans (hb2.mono (by omega))).trans (hW.mono (by omega)), m1.cell 0, m1.cell 1, m2.cell 0, m2.cell 1, m3, m3.lt⟩
  have MK := Lib.hid hMK
  have HX := Lib.hid hX
  have HX2 := Lib.hid hX2
  have HS := Lib.hid (And.intro hsX hs2)
  have HR := Lib.hid hr
  clear hbX k1 k2 k3 hsX kb hb2 hs2 hMK hX hX2 ha hb hr
  go_enter Try.func105, Try.ntmps105
  go_wp2_with fail
  rw [HX.out, HX2.out]
  refine HC.out.mono ?_
  rintro e w1 ⟨rfl, hb1⟩
  have hb3 : Below (w.heap.size + 4) X2 (w1.alloc (.cells #[.int .i64 0, .int .i64 0] 29)) := (hb1.mono (by have := HS.out.2; omega)).alloc (by have := hb1.size; have := HS.out.2; omega) _
  have kf := Blk.new w1 29 #[.int .i64 0, .int .i64 0]
  obtain ⟨Y, hY⟩ : ∃ Y, w1.alloc (.cells #[.int .i64 0, .int .i64 0] 29) = Y := ⟨_, rfl⟩
  rw [hY] at hb3 kf
  obtain ⟨hbw, a0, a1, b0, b1, hbf, hz⟩ := MK.out Y hb3
  have f0 : Y.cell? ⟨w1.heap.size, 0, none⟩ = some (.int .i64 0) := kf.cell 0
  have f1 : Y.cell? ⟨w1.heap.size, 1, none⟩ = some (.int .i64 0) := kf.cell 1
  have hzf : w1.heap.size < Y.heap.size := kf.lt
  have z0 : Y.cell? ⟨w.heap.size + 2, 0, none⟩ = some (.int .i64 0) := hbf.cell 0
  have z1 : Y.cell? ⟨w.heap.size + 2, 1, none⟩ = some (.int .i64 0) := hbf.cell 1
  have v0 : Y.frozen? ⟨w.heap.size + 2, 0, none⟩ = false := hbf.frozen 0
  have v1 : Y.frozen? ⟨w.heap.size + 2, 1, none⟩ = false := hbf.frozen 1
  have HB := Lib.hid (And.intro hbw hbf)
  have HY := Lib.hid hY
  clear hb1 hb3 hY kf hbw hbf
  go_upto_region 2 with fail
  rw [HY.out]
  go_wp2_with fail
  clear z0 z1 v0 v1 a0 a1 b0 b1 f0 f1 hzf
  have hz1 := two_blk HB.out.2 (.int .i64 0) (.int .i64 0)
  have hz2 : Below w.heap.size w (two Y (w.heap.size + 2) (.int .i64 0) (.int .i64 0)) := two_below HB.out.1 (by omega) (.int .i64 0) (.int .i64 0)
  have e4 : (Y.setCell ⟨w.heap.size + 1 + 1, 0, none⟩ (.int .i64 0)).setCell ⟨w.heap.size + 1 + 1, 1, none⟩ (.int .i64 0) = two Y (w.heap.size + 2) (.int .i64 0) (.int .i64 0) := rfl
  rw [e4]
  clear e4
  generalize two Y (w.heap.size + 2) (.int .i64 0) (.int .i64 0) = Z at hz1 hz2 ⊢
  have d0 := hz1.cell 0
  have d1 := hz1.cell 1
  simp only [List.getElem?_toArray, List.getElem?_cons_zero, List.getElem?_cons_succ] at d0 d1
  have hr := HR.out
  subst hr
  exact bodyPost_ret (v := .tuple #[.bool (lessQ a b), .agg #[.int .i64 0, .int .i64 0]]) (by simp [results, Try.results105, go_sem, d0, d1, lessQ]) rfl ⟨rfl, hz2⟩
end Go.Proofs.Ythooecojopfjbaa
