/- Walk: the law FramesLeftSays. -/
import Derived.Test.YtllgindmcjemeaaFrM
import Derived.Test.YtllgindmcjemeaaFrL
namespace Go.Proofs.Ytllgindmcjemeaa
open Go.RowKit

def resF (F : FormD) (res : (Int × Int) × List Cl × Cl) : FormD := if res.1.1 = 0 then ⟨F.terms, F.ints, F.atoms, F.clauses ++ clOf res.2.1 res.2.2⟩ else ⟨[], [], [], []⟩
def LeftU (F : FormD) (res : (Int × Int) × List Cl × Cl) (w : World) (e : Ending) (w' : World) : Prop :=
  ∃ (B1 B2 B3 B4 : Option Addr) (m1 d1 m2 d2 m3 d3 m4 d4 : Nat), e = .returned (.tuple #[.agg #[.slice B1 m1 d1, .slice B2 m2 d2, .slice B3 m3 d3, .slice B4 m4 d4], .agg #[.int .i64 res.1.1, .int .i64 res.1.2]]) ∧ FormB w' w'.heap.size B1 B2 B3 B4 m1 m2 m3 m4 (resF F res) ∧ Below w.heap.size w w'
theorem left_unify {F : FormD} {res : (Int × Int) × List Cl × Cl} {w w' : World} {e : Ending} (h : LeftP F res w e w') : LeftU F res w e w' := by
  rcases h with ⟨h0, B1, B2, B3, B4, m1, d1, m2, d2, m3, d3, m4, d4, rfl, hF, hb⟩ | ⟨h0, rfl, hb⟩
  · refine ⟨B1, B2, B3, B4, m1, d1, m2, d2, m3, d3, m4, d4, by rw [h0], ?_, hb⟩
    rw [resF, if_pos (by rw [h0])]
    exact hF
  · refine ⟨none, none, none, none, 0, 0, 0, 0, 0, 0, 0, 0, rfl, ?_, hb⟩
    rw [resF, if_neg h0]
    exact ⟨Arr.nil_, Arr.nil_, Arr.nil_, Arr.nil_, by omega, by omega, by omega, by omega⟩

set_option maxRecDepth 100000 in
set_option maxHeartbeats 4000000 in
theorem framesLeftSays_any (A1 A2 A3 A4 : Option Addr) (n1 c1 n2 c2 n3 c3 n4 c4 : Nat) (F : FormD) (L : Option Addr) (n c : Nat) (l : List TermD) (w : World) (hF : FormB w w.heap.size A1 A2 A3 A4 n1 n2 n3 n4 F) (hL : ArrB AtTerm 2 w w.heap.size L n l) (hn : n ≤ 9223372036854775807)
    (h4 : n4 ≤ c4) (h4m : c4 ≤ maxLen) (hlen : ∀ d ∈ l, d.kids.length * 8 ≤ 140737488355328) :
    Calls Try.prog 12 #[.agg #[.slice A1 n1 c1, .slice A2 n2 c2, .slice A3 n3 c3, .slice A4 n4 c4], .slice L n c] w fun e w' => e = .returned (.bool true) ∧ Below w.heap.size w w' := by
  have hb0 : Below w.heap.size w (w.alloc (.cells #[.slice A1 n1 c1, .slice A2 n2 c2, .slice A3 n3 c3, .slice A4 n4 c4] 38)) := (Below.refl _ _).alloc (Nat.le_refl _) _
  have hbk0 := Blk.new w 38 #[.slice A1 n1 c1, .slice A2 n2 c2, .slice A3 n3 c3, .slice A4 n4 c4]
  have HL := Lib.hid (left_any A1 A2 A3 A4 n1 c1 n2 c2 n3 c3 n4 c4 F L n c l _ (hF.below hb0 hb0.size) (hL.below stays_term hb0 hb0.size) hn h4 h4m hlen)
  have HN := Lib.hid (And.intro hF (And.intro hL (And.intro hb0 hbk0)))
  clear hF hL hb0 hbk0 hlen
  go_enter Try.func12, Try.ntmps12
  go_wp2_with fail
  refine HL.out.mono ?_
  rintro e w1 h1
  obtain ⟨B1, B2, B3, B4, m1, d1, m2, d2, m3, d3, m4, d4, rfl, hFx, hb1⟩ := left_unify h1
  clear h1
  rcases hres : playRes F l with ⟨⟨qc, qa⟩, rr, rl⟩
  rw [hres] at hFx
  generalize hG : resF F ((qc, qa), rr, rl) = G at hFx
  dsimp only
  obtain ⟨hF, hL, hb0, hbk0⟩ := HN.out
  have hz1 : w.heap.size < w1.heap.size := by have := hb1.size; simp at this; omega
  have hbk1 := hbk0.below hb1 (by simp)
  have hbel1 := hb0.trans (hb1.mono hb0.size)
  obtain ⟨hb2, hx2, hy2, hs2⟩ := two_boxes w1 38 24 #[.slice B1 m1 d1, .slice B2 m2 d2, .slice B3 m3 d3, .slice B4 m4 d4] #[.int .i64 qc, .int .i64 qa]
  have hbel2 := hbel1.trans (hb2.mono (Nat.le_of_lt hz1))
  have hbk2 := hbk1.below hb2 hz1
  have hFx2 := hFx.below hb2 hb2.size
  have HR := Lib.hid (framesLeft_any A1 A2 A3 A4 n1 c1 n2 c2 n3 c3 n4 c4 F L n c l _ (hF.below hbel2 hbel2.size) (hL.below stays_term hbel2 hbel2.size) hn h4 h4m)
  have HX := Lib.hid (And.intro hb2 (And.intro hx2 (And.intro hy2 (And.intro hbel2 (And.intro hFx hs2)))))
  have k0 := hbk2.cell 0
  have k1 := hbk2.cell 1
  have k2 := hbk2.cell 2
  have k3 := hbk2.cell 3
  simp only [List.getElem?_toArray, List.getElem?_cons_zero, List.getElem?_cons_succ] at k0 k1 k2 k3
  have i0 := hbk1.cell 0
  have i1 := hbk1.cell 1
  have i2 := hbk1.cell 2
  have i3 := hbk1.cell 3
  simp only [List.getElem?_toArray, List.getElem?_cons_zero, List.getElem?_cons_succ] at i0 i1 i2 i3
  clear hF hL hb0 hbk0 hb1 hbk1 hbel1 hb2 hx2 hy2 hs2 hbel2 hbk2 hFx hFx2 HL HN
  go_wp2_with fail
  refine HR.out.mono ?_
  rintro e w2 h2
  obtain ⟨C1, C2, C3, C4, p1, q1, p2, q2, p3, q3, p4, q4, rfl, hFy, hb3⟩ := left_unify h2
  clear h2
  rw [hres] at hFy
  rw [hG] at hFy
  rw [hres]
  dsimp only
  obtain ⟨hb2, hx2, hy2, hbel2, hFx, hs2⟩ := HX.out
  have hx3 := hx2.below hb3 (by omega)
  have hy3 := hy2.below hb3 (by omega)
  have hz2 : w1.heap.size + 1 < w2.heap.size := by have := hb3.size; omega
  have hbel3 := hbel2.trans (hb3.mono hbel2.size)
  obtain ⟨hb4, hx4, hy4, hs4⟩ := two_boxes w2 38 24 #[.slice C1 p1 q1, .slice C2 p2 q2, .slice C3 p3 q3, .slice C4 p4 q4] #[.int .i64 qc, .int .i64 qa]
  have hbel4 := hbel3.trans (hb4.mono (by have := hbel3.size; omega))
  have hFy4 := hFy.below hb4 hb4.size
  have hFx4 := hFx.below (hb2.trans ((hb3.trans (hb4.mono (by have := hb3.size; omega))).mono (by omega))) (show w1.heap.size ≤ ((w2.alloc (.cells #[.slice C1 p1 q1, .slice C2 p2 q2, .slice C3 p3 q3, .slice C4 p4 q4] 38)).alloc (.cells #[.int .i64 qc, .int .i64 qa] 24)).heap.size by omega)
  obtain rfl : p1 = m1 := by rw [← hFy4.terms.len, ← hFx4.terms.len]
  obtain rfl : p2 = m2 := by rw [← hFy4.ints.len, ← hFx4.ints.len]
  obtain rfl : p3 = m3 := by rw [← hFy4.atoms.len, ← hFx4.atoms.len]
  obtain rfl : p4 = m4 := by rw [← hFy4.clauses.len, ← hFx4.clauses.len]
  have HS := Lib.hid (sameForm_any B1 B2 B3 B4 p1 d1 p2 d2 p3 d3 p4 d4 C1 C2 C3 C4 q1 q2 q3 q4 G _ hFx4 hFy4)
  have hx5 := hx3.below hb4 (by omega)
  have hy5 := hy3.below hb4 hz2
  have HE := Lib.hid (And.intro hx5 (And.intro hy5 (And.intro hx4 (And.intro hy4 hbel4))))
  have x0 := hx3.cell 0
  have x1 := hx3.cell 1
  have x2 := hx3.cell 2
  have x3 := hx3.cell 3
  have y0 := hy3.cell 0
  have y1 := hy3.cell 1
  simp only [List.getElem?_toArray, List.getElem?_cons_zero, List.getElem?_cons_succ] at x0 x1 x2 x3 y0 y1
  have hz20 : w1.heap.size < w2.heap.size := by omega
  clear hb2 hx2 hy2 hbel2 hFx hs2 hx3 hy3 hbel3 hb4 hx4 hy4 hs4 hbel4 hFy4 hFx4 hx5 hy5 hFy hb3 HX HR k0 k1 k2 k3 i0 i1 i2 i3
  go_wp2_with fail
  refine HS.out.mono ?_
  rintro e w3 ⟨rfl, hb5⟩
  obtain ⟨hx5, hy5, hx4, hy4, hbel4⟩ := HE.out
  have hx6 := hx5.below hb5 hx5.lt
  have hy6 := hy5.below hb5 hy5.lt
  have hz6 := hy4.below hb5 hy4.lt
  have r0 := hy6.cell 0
  have r1 := hy6.cell 1
  have t0 := hz6.cell 0
  have t1 := hz6.cell 1
  simp only [List.getElem?_toArray, List.getElem?_cons_zero, List.getElem?_cons_succ] at r0 r1 t0 t1
  have HB := Lib.hid (hbel4.trans (hb5.mono hbel4.size))
  clear hx5 hy5 hx4 hy4 hbel4 hx6 hy6 hz6 hb5 HE HS x0 x1 x2 x3 y0 y1
  go_wp2_with fail
  go_ret
  exact ⟨ret_bool (by simp), HB.out⟩
end Go.Proofs.Ytllgindmcjemeaa
