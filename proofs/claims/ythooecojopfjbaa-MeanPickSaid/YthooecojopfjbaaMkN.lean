/- Walks: umpiragelaw1.lastBools, umpiragelaw1.with. -/
import Derived.Test.YthooecojopfjbaaMkJ
import Derived.Test.YthooecojopfjbaaKSame
import Derived.Test.YthooecojopfjbaaCore
namespace Go.Proofs.Ythooecojopfjbaa
open Go.RowKit

theorem node_atV {w : World} {S : Nat → Prop} {b o : Nat} {x : NodeD} (h : AtNode w S b o x) : AtV VNode w S b o x := by
  obtain ⟨h1, ⟨A, n, c, h2, h3, h4, h5⟩, h6, h7, h8⟩ := h
  refine ⟨[.int .i64 x.op, .slice A n c, .int .i64 x.n, .int .i64 x.d, .string x.name], ⟨A, n, c, rfl, ⟨h1.2, h6.2, h7.2, h8.2⟩, h3, h4, h5⟩, fun j u hj => ?_⟩
  rcases j with _ | _ | _ | _ | _ | j
  · simp only [List.getElem?_cons_zero, Option.some.injEq] at hj; rw [← hj]; exact h1.1
  · simp only [List.getElem?_cons_succ, List.getElem?_cons_zero, Option.some.injEq] at hj; rw [← hj]; exact h2
  · simp only [List.getElem?_cons_succ, List.getElem?_cons_zero, Option.some.injEq] at hj; rw [← hj]; exact h6.1
  · simp only [List.getElem?_cons_succ, List.getElem?_cons_zero, Option.some.injEq] at hj; rw [← hj]; exact h7.1
  · simp only [List.getElem?_cons_succ, List.getElem?_cons_zero, Option.some.injEq] at hj; rw [← hj]; exact h8.1
  · simp at hj

/-- two places: -1, or of a Bool -/
def TwoB (ss : List Int) (x y : Int) : Prop := (x = -1 ∨ (0 ≤ x ∧ ss[x.toNat]? = some 1)) ∧ (y = -1 ∨ (0 ≤ y ∧ ss[y.toNat]? = some 1)) ∧ (0 ≤ x → 0 ≤ y)
def LastP (w : World) (ss : List Int) (e : Ending) (w' : World) : Prop := ∃ x y : Int, e = .returned (.tuple #[.int .i64 x, .int .i64 y, .bool (decide (0 ≤ x))]) ∧ TwoB ss x y ∧ Below w.heap.size w w'

set_option maxRecDepth 100000 in
set_option maxHeartbeats 4000000 in
theorem lastBools_any (A1 A2 A3 : Option Addr) (n1 c1 n2 c2 n3 c3 : Nat) (a : AskD) (ss : List Int) (w : World) (ha : AskIn w w.heap.size A1 A2 A3 n1 n2 n3 a) (hc1 : n1 ≤ c1) (hs : sortsF a = (ss, 0, 0)) (hl : ss.length = n2) (hn : n2 ≤ 200) :
    Calls Try.prog 23 #[.agg #[.slice A1 n1 c1, .slice A2 n2 c2, .slice A3 n3 c3]] w (LastP w ss) := by
  have hbx : Below w.heap.size w (w.alloc (.cells #[.slice A1 n1 c1, .slice A2 n2 c2, .slice A3 n3 c3] 26)) := (Below.refl _ _).alloc (Nat.le_refl _) _
  have hk1 := Blk.new w 26 #[.slice A1 n1 c1, .slice A2 n2 c2, .slice A3 n3 c3]
  obtain ⟨X1, hX1⟩ : ∃ X, w.alloc (.cells #[.slice A1 n1 c1, .slice A2 n2 c2, .slice A3 n3 c3] 26) = X := ⟨_, rfl⟩
  rw [hX1] at hbx hk1
  have HS := Lib.hid (sorts_any A1 A2 A3 n1 c1 n2 c2 n3 c3 a X1 (ha.below hbx hbx.size) hc1)
  have x0 := hk1.cell 0
  have x1 := hk1.cell 1
  have x2 := hk1.cell 2
  simp only [List.getElem?_toArray, List.getElem?_cons_zero, List.getElem?_cons_succ] at x0 x1 x2
  have zq := hk1.lt
  have HX1 := Lib.hid hX1
  have H1 := Lib.hid (And.intro hbx (And.intro hs hl))
  clear hX1 hbx hk1 ha hs hl
  go_enter Try.func23, Try.ntmps23
  go_upto_region 1 with fail
  rw [HX1.out]
  go_wp2_with fail
  refine HS.out.mono ?_
  rw [H1.out.2.1]
  rintro e w2 ⟨As, cs, rfl, hb2, hcs, hcsm, harr⟩
  dsimp only at hcs harr ⊢
  rw [H1.out.2.2] at hcs harr ⊢
  have hbf : Below w2.heap.size w2 (w2.alloc (.cells #[.int .i64 0, .int .i64 0] 29)) := (Below.refl _ _).alloc (Nat.le_refl _) _
  have hk6 := Blk.new w2 29 #[.int .i64 0, .int .i64 0]
  have hbx2 : Below X1.heap.size X1 (w2.alloc (.cells #[.int .i64 0, .int .i64 0] 29)) := hb2.alloc hb2.size _
  have hr2 : Arr AtInt 1 (w2.alloc (.cells #[.int .i64 0, .int .i64 0] 29)) (fun b => b < (w2.alloc (.cells #[.int .i64 0, .int .i64 0] 29)).heap.size) As n2 ss := harr.keep stays_int (fun b hb => Nat.lt_of_lt_of_le hb.2 hbf.size) (fun b o hb => hbf.cell (p := ⟨b, o, none⟩) hb.2)
  obtain ⟨X2, hX2⟩ : ∃ X, w2.alloc (.cells #[.int .i64 0, .int .i64 0] 29) = X := ⟨_, rfl⟩
  rw [hX2] at hk6 hbx2 hr2
  have y1 := (hbx2.cell (p := ⟨w.heap.size, 1, none⟩) zq).trans x1
  have c0 := hk6.cell 0
  simp only [List.getElem?_toArray, List.getElem?_cons_zero] at c0
  have H2 := Lib.hid (And.intro (H1.out.1.trans (hbx2.mono H1.out.1.size)) hr2)
  have HX2 := Lib.hid hX2
  clear hb2 hcs hcsm harr hbf hk6 hbx2 hr2 hX2 x0 x1 x2 HS HX1
  go_upto_region 2 with fail
  rw [HX2.out]
  clear HX2
  go_wp2_with fail
  go_loopw [7, 8, 9] (fun v7 v8 i wr => ∃ (j : Nat) (x y : Int), v7 = .int .i64 x ∧ v8 = .int .i64 y ∧ i = .int .i64 (j : Int) ∧ j ≤ n2 ∧ Hid (TwoB ss x y) ∧ Hid (I64 x ∧ I64 y) ∧ wr = X2) (fun _ _ i _ => ((n2 : Int) - intOf i).toNat)
  case atStart => exact ⟨0, -1, -1, rfl, rfl, rfl, Nat.zero_le _, ⟨.inl rfl, .inl rfl, by decide⟩, ⟨⟨by decide, by decide⟩, ⟨by decide, by decide⟩⟩, rfl⟩
  case round =>
    obtain ⟨j, x, y, rfl, rfl, rfl, hj, HT, HI, rfl⟩ := hrel
    by_cases hjl : j < n2
    · have hjI : (j : Int) < (n2 : Int) := by omega
      obtain ⟨b4, off4, hx4, rfl, hb4, hc4, hv0, hv1⟩ := ints_get H2.out.2 hjl
      have hsj : ss[j]? = some ss[j] := List.getElem?_eq_getElem hx4
      have HSJ := Lib.hid hsj
      generalize ss[j] = v at hc4 HSJ hv0 hv1
      clear hx4 hb4 hsj
      by_cases hv : v = 1
      · subst hv
        go_wp2_with fail
        go_roundw
        case rel => exact ⟨j + 1, y, (j : Int), rfl, rfl, by go_num, by omega, ⟨HT.out.2.1, .inr ⟨by omega, by simpa using HSJ.out⟩, fun _ => by omega⟩, ⟨HI.out.2, by unfold I64; omega⟩, trivial⟩
        case measure => simp [intOf]; omega
      · have hvb : (v == 1) = false := by rw [beq_eq_false_iff_ne]; exact hv
        go_wp2_with fail
        go_roundw
        case rel => exact ⟨j + 1, x, y, rfl, rfl, by go_num, by omega, HT, HI, trivial⟩
        case measure => simp [intOf]; omega
    · have hjI : ¬ (j : Int) < (n2 : Int) := by omega
      go_wp2_with fail
      go_ret3
      exact ⟨x, y, rfl, HT.out, H2.out.1⟩

def WithP (w : World) (AD : Option Addr) (cD : Nat) (ls : List NodeD) (e : Ending) (w' : World) : Prop :=
  ∃ (B : Option Addr) (cB : Nat), e = .returned (.agg #[.slice AD 14 cD, .slice B ls.length cB, .slice none 0 0]) ∧ AskIn w' w'.heap.size AD B none 14 ls.length 0 ⟨declsK, ls, []⟩ ∧ ls.length ≤ cB ∧ Below w.heap.size w w'

set_option maxRecDepth 100000 in
set_option maxHeartbeats 4000000 in
theorem with_any (AD An AH Al : Option Addr) (cD cn nh ch cl : Nat) (ns ms : List NodeD) (H : List Int) (w : World) (ha : AskIn w w.heap.size AD An AH 14 ns.length nh ⟨declsK, ns, H⟩) (hl : Arr AtNode 5 w (fun b => b < w.heap.size) Al ms.length ms) (hnm : ns.length + ms.length ≤ 1000) :
    Calls Try.prog 24 #[.agg #[.slice AD 14 cD, .slice An ns.length cn, .slice AH nh ch], .slice Al ms.length cl] w (WithP w AD cD (ns ++ ms)) := by
  obtain ⟨hb0, hk2, hk4, hk5, hs0⟩ := boxes3 w 26 26 26 #[.slice AD 14 cD, .slice An ns.length cn, .slice AH nh ch] #[.slice none 0 0, .slice none 0 0, .slice none 0 0] #[.slice AD 14 cD, .slice none 0 0, .slice none 0 0]
  obtain ⟨X, hX⟩ : ∃ X, ((w.alloc (.cells #[.slice AD 14 cD, .slice An ns.length cn, .slice AH nh ch] 26)).alloc (.cells #[.slice none 0 0, .slice none 0 0, .slice none 0 0] 26)).alloc (.cells #[.slice AD 14 cD, .slice none 0 0, .slice none 0 0] 26) = X := ⟨_, rfl⟩
  rw [hX] at hb0 hk2 hk4 hk5 hs0
  have x0 := hk2.cell 0
  have x1 := hk2.cell 1
  have x2 := hk2.cell 2
  have q0 := hk4.cell 0
  have q1 := hk4.cell 1
  have q2 := hk4.cell 2
  have g0 := hk4.frozen 0
  have g1 := hk4.frozen 1
  have g2 := hk4.frozen 2
  have p0 := hk5.cell 0
  have p1 := hk5.cell 1
  have p2 := hk5.cell 2
  have f1 := hk5.frozen 1
  simp only [List.getElem?_toArray, List.getElem?_cons_zero, List.getElem?_cons_succ] at x0 x1 x2 q0 q1 q2 p0 p1 p2
  have HA := Lib.hid (And.intro (ha.below hb0 hb0.size) (hl.keep stays_node (S' := fun b => b < w.heap.size) (fun b hb => hb) (fun b o hb => hb0.cell (p := ⟨b, o, none⟩) hb)))
  have hwX : w.heap.size + 3 = X.heap.size := hs0.symm
  have hnw : Arr AtNode 5 X (fun b => b < w.heap.size) An ns.length ns := ha.nodes.keep stays_node (fun b hb => hb) (fun b o hb => hb0.cell (p := ⟨b, o, none⟩) hb)
  have HN := Lib.hid hnw
  have HD := Lib.hid ha.decls
  have HX := Lib.hid (And.intro hX (And.intro hb0 (And.intro hk4 hk5)))
  clear hX hb0 hk2 hk4 hk5 hs0 ha hl hnw
  go_enter Try.func24, Try.ntmps24
  go_upto_region 2 with fail
  rw [HX.out.1]
  go_wp2_with (first
    | (at_builtin; refine wpList_append_many rfl _ _ _ rfl rowNodes tells_node (base := w.heap.size + 3) (S := fun b => b < w.heap.size) (v := .slice none 0 0) (xs := []) rfl (OwnV.none_ _ _ _ _ _ _) (fun _ _ _ _ _ h => node_atV h) (A := An) (m := ns.length) (c := cn) rfl HN.out (fun b hb => ⟨by omega, nil_own⟩) (by unfold maxLen; simp; omega) (by simp; omega) (by omega) ?_; intro v6 w6 hown6 hgrow6 hat6; rw [List.nil_append] at hown6; obtain ⟨A6, c6, rfl, hc6, hcm6⟩ := hown6.len; have HL6 := Lib.hid (HA.out.2.keep stays_node (S' := fun b => b < w.heap.size) (w' := w6) (fun b hb => hb) (fun b o hb => only_cell hgrow6 (b := b) (by omega) (by simp [Value.ownBlock]))); have hz6 := hgrow6.size; have HB6 := Lib.hid (And.intro hown6 hgrow6); clear hown6 hgrow6 hat6 hc6 hcm6)
    | (at_builtin; refine wpList_append_many rfl _ _ _ rfl rowNodes tells_node (base := w.heap.size + 3) (S := fun b => b < w.heap.size) (v := .slice A6 ns.length c6) (xs := ns) rfl HB6.out.1 (fun _ _ _ _ _ h => node_atV h) (A := Al) (m := ms.length) (c := cl) rfl HL6.out (fun b hb => ⟨by omega, fun e => by have := (HB6.out.1.lt b e).1; omega⟩) (by unfold maxLen; omega) (by omega) (by omega) ?_; intro v7 w7 hown7 hgrow7 hat7; obtain ⟨A7, c7, rfl, hc7, hcm7⟩ := hown7.len; have hz7 := hgrow7.size; have hk4' := ((HX.out.2.2.1.grown HB6.out.2 (by simp [Value.ownBlock])).grown hgrow7 (fun e => by have := (HB6.out.1.lt _ e.symm).1; omega)); have hk5' := ((HX.out.2.2.2.grown HB6.out.2 (by simp [Value.ownBlock])).grown hgrow7 (fun e => by have := (HB6.out.1.lt _ e.symm).1; omega)); have q0 := hk4'.cell 0; have q1 := hk4'.cell 1; have q2 := hk4'.cell 2; have g0 := hk4'.frozen 0; have g1 := hk4'.frozen 1; have g2 := hk4'.frozen 2; have p0 := hk5'.cell 0; have p1 := hk5'.cell 1; have p2 := hk5'.cell 2; have f1 := hk5'.frozen 1; simp only [List.getElem?_toArray, List.getElem?_cons_zero, List.getElem?_cons_succ] at q0 q1 q2 p0 p1 p2; have HB7 := Lib.hid (And.intro hown7 (And.intro hgrow7 (And.intro hk4' (And.intro hk5' hc7)))); clear hown7 hgrow7 hat7 hk4' hk5' hc7 hcm7)
    | fail)
  obtain ⟨hown7, hgrow7, hk4', hk5', hc7⟩ := HB7.out
  have hY : w7.grownBy (w7.setCell ⟨w.heap.size + 1 + 1, 1, none⟩ (.slice A7 (ns.length + ms.length) c7)) (some (w.heap.size + 1 + 1)) := one_only (only_refl _ _) 1 _
  generalize w7.setCell ⟨w.heap.size + 1 + 1, 1, none⟩ (.slice A7 (ns.length + ms.length) c7) = Y at hY ⊢
  have hkR := hk4'.grown hY (fun e => by injection e with e; omega)
  have hlen : (ns ++ ms).length = ns.length + ms.length := List.length_append
  have hd9 := three_blk hkR (.slice AD 14 cD) (.slice A7 (ns.length + ms.length) c7) (.slice none 0 0)
  have d0 := hd9.cell 0
  have d1 := hd9.cell 1
  have d2 := hd9.cell 2
  simp only [List.getElem?_toArray, List.getElem?_cons_zero, List.getElem?_cons_succ] at d0 d1 d2
  have hzY := hY.size
  have hBY : Below w.heap.size w Y := below_then (below_then (below_then HX.out.2.1 HB6.out.2 (by omega) (fun x hx => absurd hx nil_own)) hgrow7 (by omega) (fun x hx => by have := (HB6.out.1.lt x hx).1; omega)) hY (by omega) (fun x hx => by injection hx with hx; omega)
  have hne7 : (Value.slice A7 (ns ++ ms).length c7).ownBlock = none ∨ (Value.slice A7 (ns ++ ms).length c7).ownBlock ≠ some (w.heap.size + 1 + 1) := by
    cases hv : (Value.slice A7 (ns ++ ms).length c7).ownBlock with
    | none => exact .inl rfl
    | some y => exact .inr (fun e => by injection e with e; have := (hown7.lt y hv).1; omega)
  have hownY := hown7.kept tells_node hY hne7 (S' := fun b => b < w.heap.size) (fun b hb => ⟨hb, by omega, fun e => by injection e with e; omega⟩)
  obtain ⟨A8, c8, e8, hc8, hcm8, hr8⟩ := hownY.reads (E := AtNode) tells_node (fun _ _ _ _ _ h => atV_node h) (S' := fun b => b < Y.heap.size ∧ b ≠ w.heap.size + 1) (fun b hb => ⟨by omega, by omega⟩) (fun g hg => ⟨(hownY.lt g hg).2, by have := (hownY.lt g hg).1; omega⟩)
  cases e8
  have h3 := fun (p : Addr) hp => three_else Y (w.heap.size + 1) (.slice AD 14 cD) (.slice A7 (ns.length + ms.length) c7) (.slice none 0 0) (p := p) hp
  have hBZ := three_below hBY (g := w.heap.size + 1) (by omega) (.slice AD 14 cD) (.slice A7 (ns.length + ms.length) c7) (.slice none 0 0)
  have hz : Y.heap.size ≤ (((Y.setCell ⟨w.heap.size + 1, 0, none⟩ (.slice AD 14 cD)).setCell ⟨w.heap.size + 1, 1, none⟩ (.slice A7 (ns.length + ms.length) c7)).setCell ⟨w.heap.size + 1, 2, none⟩ (.slice none 0 0)).heap.size := (three_below (B := 0) ((Below.refl Y.heap.size Y).mono (Nat.zero_le _)) (Nat.zero_le _) (.slice AD 14 cD) (.slice A7 (ns.length + ms.length) c7) (.slice none 0 0)).size
  refine bodyPost_ret (v := .agg #[.slice AD 14 cD, .slice A7 (ns.length + ms.length) c7, .slice none 0 0]) (by simp [results, Try.results24, go_sem, d0, d1, d2]) rfl ?_
  generalize (((Y.setCell ⟨w.heap.size + 1, 0, none⟩ (.slice AD 14 cD)).setCell ⟨w.heap.size + 1, 1, none⟩ (.slice A7 (ns.length + ms.length) c7)).setCell ⟨w.heap.size + 1, 2, none⟩ (.slice none 0 0)) = Z at h3 hBZ hz ⊢
  refine ⟨A7, c7, by rw [hlen], ⟨?_, ?_, Arr.nil_, by omega, by omega, by omega⟩, hc8, hBZ⟩
  · exact HD.out.keep stays_decl (fun b hb => Nat.lt_of_lt_of_le hb hBZ.size) (fun b o hb => hBZ.cell (p := ⟨b, o, none⟩) hb)
  · exact hr8.keep stays_node (fun b hb => Nat.lt_of_lt_of_le hb.1 hz) (fun b o hb => h3 ⟨b, o, none⟩ hb.2)
end Go.Proofs.Ythooecojopfjbaa
