/- Walks: umpiragekit.AskOf. -/
import Derived.Test.YthooecojopfjbaaMkI
import Derived.Test.YthooecojopfjbaaToldT
import Derived.StillTailTactics
import Derived.Deep.DeepCutAuto
import Derived.Deep.CutBlock
import Derived.BigQuiet
namespace Go.Proofs.Ythooecojopfjbaa
open Go.RowKit

def AskP (w : World) (n : Int) (e : Ending) (w' : World) : Prop := ∃ (AD : Option Addr) (cD : Nat) (An : Option Addr) (cn : Nat) (AH : Option Addr) (cH : Nat) (ns : List NodeD) (ss H : List Int),
  e = .returned (.agg #[.slice AD 14 cD, .slice An ns.length cn, .slice AH H.length cH]) ∧ AskIn w' w'.heap.size AD An AH 14 ns.length H.length ⟨declsK, ns, H⟩ ∧ 14 ≤ cD ∧ ns.length ≤ cn ∧ H.length ≤ cH ∧ Mk ns ss ∧ (ns.length : Int) ≤ 4 * n ∧
  H.length ≤ 3 ∧ (∀ k ∈ H, 0 ≤ k ∧ ss[k.toNat]? = some 1) ∧ Below w.heap.size w w'
/-- the maker, as it lies when it has just been made -/
theorem maker_new {w : World} {q : Nat} (h : Blk w q 76 #[.slice none 0 0, .slice none 0 0]) : MkIn w q (.slice none 0 0) (.slice none 0 0) (fun b => (Value.slice none 0 0).ownBlock = some b) [] [] :=
  ⟨h, OwnV.none_ _ _ _ _ _ _, OwnV.none_ _ _ _ _ _ _, fun _ hx => absurd hx nil_own, fun _ hx => absurd hx nil_own⟩

/-- what the operations that make the ask tell -/
inductive TA where
  | decls
  | is (u : Value)
  | ask (u : Value)
  | box (B : Nat)
  | any
def TA.P : TA → Value → World → Prop
  | .decls => DeclsTold
  | .is u => fun v _ => v = u
  | .ask u => fun v w => ∃ A c, v = .agg #[.slice A 14 c, u, .slice none 0 0] ∧ 14 ≤ c ∧ Arr AtDecl 3 w (fun b => b < w.heap.size) A 14 declsK
  | .box B => BoxTold B
  | .any => fun _ _ => True
theorem TA.keep {t : TA} {v : Value} {w w' : World} (h : t.P v w) (hb : Below w.heap.size w w') : t.P v w' := by
  cases t with
  | decls => exact DeclsTold.keep h hb
  | is u => exact h
  | ask u =>
    obtain ⟨A, c, h1, h3, h2⟩ := h
    exact ⟨A, c, h1, h3, h2.keep stays_decl (fun b hb' => Nat.lt_of_lt_of_le hb' hb.size) (fun b o hb' => hb.cell (p := ⟨b, o, none⟩) hb')⟩
  | box B => exact BoxTold.keep h hb
  | any => exact h
/-- the ask lies in a box of its own, and nothing is to hold as yet -/
def Boxed (w : World) (u v : Value) (W : World) : Prop := ∃ (p : Nat) (AD : Option Addr) (cD : Nat), v = .pointer (some ⟨p, 0, none⟩) ∧ w.heap.size ≤ p ∧ 14 ≤ cD ∧ Blk W p 26 #[.slice AD 14 cD, u, .slice none 0 0] ∧
  Arr AtDecl 3 W (fun b => b < W.heap.size ∧ b ≠ p) AD 14 declsK ∧ Below w.heap.size w W
theorem boxed_of {w X W : World} {vq : Value} {q : Nat} {AD An : Option Addr} {cD n cn : Nat} (hX : Below w.heap.size w X) (hb : Below X.heap.size X W) (vq' : vq = .pointer (some ⟨q, 0, none⟩)) (hq : X.heap.size ≤ q)
    (hkq : Blk W q 26 #[.slice none 0 0, .slice none 0 0, .slice none 0 0]) (hcD : 14 ≤ cD) (hD : Arr AtDecl 3 W (fun b => b < W.heap.size) AD 14 declsK) :
    Boxed w (.slice An n cn) vq (((W.setCell ⟨q, 0, none⟩ (.slice AD 14 cD)).setCell ⟨q, 1, none⟩ (.slice An n cn)).setCell ⟨q, 2, none⟩ (.slice none 0 0)) := by
  have h1 := three_blk hkq (.slice AD 14 cD) (.slice An n cn) (.slice none 0 0)
  have h2 : Below w.heap.size w _ := three_below (hX.trans (hb.mono hX.size)) (Nat.le_trans hX.size hq) (.slice AD 14 cD) (.slice An n cn) (.slice none 0 0)
  have h3 := fun (p : Addr) hp => three_else W q (.slice AD 14 cD) (.slice An n cn) (.slice none 0 0) (p := p) hp
  have hz : W.heap.size ≤ (((W.setCell ⟨q, 0, none⟩ (.slice AD 14 cD)).setCell ⟨q, 1, none⟩ (.slice An n cn)).setCell ⟨q, 2, none⟩ (.slice none 0 0)).heap.size := (three_below (B := 0) ((Below.refl W.heap.size W).mono (Nat.zero_le _)) (Nat.zero_le _) (.slice AD 14 cD) (.slice An n cn) (.slice none 0 0)).size
  refine ⟨q, AD, cD, vq', Nat.le_trans hX.size hq, hcD, h1, ?_, h2⟩
  exact (decls_off hkq.slices hD).keep stays_decl (fun b hb' => ⟨Nat.lt_of_lt_of_le hb'.1 hz, hb'.2⟩) (fun b o hb' => h3 ⟨b, o, none⟩ hb'.2)

theorem quiet_at {A : Option Addr} {n c k : Nat} {xs : List Int} {w : World} {B : Nat} (h : ArrB AtInt 1 w B A n xs) (hn : n ≤ 9223372036854775807) (m : Nat) :
    Calls Try.prog 26 #[.slice A n c, .int .i64 k] (w.drewN m) fun e w'' => e = .returned (.int .i64 (xs.getD k 0)) ∧ ∃ m, w'' = w.drewN m :=
  (at_any A n c xs k (fun b => b < B) _ (ArrB.below h stays_int (below_drewN (Below.refl _ _) _) (Nat.le_refl _)) hn).mono fun _ _ ⟨he, hm⟩ => ⟨he, m, hm.symm⟩
theorem quiet_picked {a n R : Int} (w : World) (ha : I64 a) (h1 : 1 ≤ n) (h2 : n ≤ 1000000) (hR : a % n = R) (m : Nat) :
    Calls Try.prog 13 #[.int .i64 a, .int .i64 n] (w.drewN m) fun e w'' => e = .returned (.int .i64 R) ∧ ∃ m, w'' = w.drewN m :=
  (picked_any a n R _ ha h1 h2 hR).mono fun _ _ ⟨he, hm⟩ => ⟨he, m, hm.symm⟩
/-- the ask is handed out -/
theorem ask_out {w : World} {R : Nat} {AD An AH : Option Addr} {cD cn cH : Nat} {ns : List NodeD} {H : List Int} (hR : Blk w R 26 #[.slice none 0 0, .slice none 0 0, .slice none 0 0]) (hD : Arr AtDecl 3 w (fun b => b < w.heap.size) AD 14 declsK)
    (hN : Arr AtNode 5 w (fun b => b < w.heap.size) An ns.length ns) (hH : Arr AtInt 1 w (fun b => b < w.heap.size) AH H.length H) (hn : ns.length ≤ 1000) (hh : H.length ≤ 1000) :
    AskIn (((w.setCell ⟨R, 0, none⟩ (.slice AD 14 cD)).setCell ⟨R, 1, none⟩ (.slice An ns.length cn)).setCell ⟨R, 2, none⟩ (.slice AH H.length cH)) (((w.setCell ⟨R, 0, none⟩ (.slice AD 14 cD)).setCell ⟨R, 1, none⟩ (.slice An ns.length cn)).setCell ⟨R, 2, none⟩ (.slice AH H.length cH)).heap.size AD An AH 14 ns.length H.length ⟨declsK, ns, H⟩ := by
  have h3 := fun (p : Addr) hp => three_else w R (.slice AD 14 cD) (.slice An ns.length cn) (.slice AH H.length cH) (p := p) hp
  have hz : w.heap.size ≤ (((w.setCell ⟨R, 0, none⟩ (.slice AD 14 cD)).setCell ⟨R, 1, none⟩ (.slice An ns.length cn)).setCell ⟨R, 2, none⟩ (.slice AH H.length cH)).heap.size := (three_below (B := 0) ((Below.refl w.heap.size w).mono (Nat.zero_le _)) (Nat.zero_le _) (.slice AD 14 cD) (.slice An ns.length cn) (.slice AH H.length cH)).size
  generalize (((w.setCell ⟨R, 0, none⟩ (.slice AD 14 cD)).setCell ⟨R, 1, none⟩ (.slice An ns.length cn)).setCell ⟨R, 2, none⟩ (.slice AH H.length cH)) = Z at h3 hz ⊢
  refine ⟨?_, ?_, ?_, by decide, by show ns.length ≤ _; omega, by show H.length ≤ _; omega⟩
  · exact (decls_off hR.slices hD).keep stays_decl (fun b hb' => Nat.lt_of_lt_of_le hb'.1 hz) (fun b o hb' => h3 ⟨b, o, none⟩ hb'.2)
  · exact (nodes_off hR.slices hN).keep stays_node (fun b hb' => Nat.lt_of_lt_of_le hb'.1 hz) (fun b o hb' => h3 ⟨b, o, none⟩ hb'.2)
  · exact (ints_off hR.slices hH).keep stays_int (fun b hb' => Nat.lt_of_lt_of_le hb'.1 hz) (fun b o hb' => h3 ⟨b, o, none⟩ hb'.2)

set_option maxRecDepth 100000 in
set_option maxHeartbeats 4000000 in
theorem askOf_any (A : Option Addr) (ln c : Nat) (xs : List Int) (n : Int) (w : World) (hxs : ArrB AtInt 1 w w.heap.size A ln xs) (hln : ln ≤ 9223372036854775807) (hn : 0 ≤ n ∧ n ≤ 50) :
    Calls Try.prog 11 #[.slice A ln c, .int .i64 n, .int .i64 0] w (AskP w n) := by
  have HXS := Lib.hid hxs
  clear hxs
  have hb0 : Below w.heap.size w ((w.alloc (.cells #[.slice none 0 0, .slice none 0 0, .slice none 0 0] 26)).alloc (.cells #[.slice none 0 0, .slice none 0 0] 76)) := ((Below.refl _ _).alloc (Nat.le_refl _) _).alloc (by simp) _
  have hR := (Blk.new w 26 #[.slice none 0 0, .slice none 0 0, .slice none 0 0]).below ((Below.refl _ _).alloc (Nat.le_refl _) (.cells #[.slice none 0 0, .slice none 0 0] 76)) (Blk.new w _ _).lt
  have hM := maker_new (Blk.new (w.alloc (.cells #[.slice none 0 0, .slice none 0 0, .slice none 0 0] 26)) 76 #[.slice none 0 0, .slice none 0 0])
  have hqs : (w.alloc (.cells #[.slice none 0 0, .slice none 0 0, .slice none 0 0] 26)).heap.size = w.heap.size + 1 := by simp
  go_enter Try.func11, Try.ntmps11
  go_upto_block 0 with fail
  rw [hqs] at hM
  obtain ⟨X, hX⟩ : ∃ X, (w.alloc (.cells #[.slice none 0 0, .slice none 0 0, .slice none 0 0] 26)).alloc (.cells #[.slice none 0 0, .slice none 0 0] 76) = X := ⟨_, rfl⟩
  rw [hX] at hb0 hR hM ⊢
  clear hX hqs
  have HX := Lib.hid (And.intro hb0 (And.intro hR hM))
  have hqX : w.heap.size + 1 < X.heap.size := hM.lt
  clear hb0 hR hM
  go_cut [8] (fun i8 wx => ∃ (vn vs : Value) (ns : List NodeD) (ss : List Int), Hid ((ns.length : Int) ≤ 4 * n) ∧ Hid (MkIn wx (w.heap.size + 1) vn vs (fun b => (Value.slice none 0 0).ownBlock = some b) ns ss) ∧ Hid (MkTo X (w.heap.size + 1) (.slice none 0 0) (.slice none 0 0) wx vn vs) ∧ Hid (Mk ns ss))
  case first =>
    go_wp2_with fail
    go_loopw [8] (fun i wr => ∃ (j : Nat) (vn vs : Value) (ns : List NodeD) (ss : List Int), i = .int .i64 (j : Int) ∧ (j : Int) ≤ n ∧ Hid (ns.length ≤ 4 * j) ∧ Hid (MkIn wr (w.heap.size + 1) vn vs (fun b => (Value.slice none 0 0).ownBlock = some b) ns ss) ∧ Hid (MkTo X (w.heap.size + 1) (.slice none 0 0) (.slice none 0 0) wr vn vs) ∧ Hid (Mk ns ss)) (fun i _ => (n - intOf i).toNat)
    case atStart => exact ⟨0, _, _, [], [], rfl, by omega, Nat.le_refl _, HX.out.2.2, MkTo.refl _ _ _ _, Mk.nil⟩
    case round =>
      obtain ⟨j, vn, vs, ns, ss, rfl, hj, HL, HI, HT, HM⟩ := hrel
      have HB : Hid (Below w.heap.size w wr) := HX.out.1.trans (HT.out.below (B := w.heap.size) (by omega) (by omega) (fun g hg => absurd hg nil_own) (fun g hg => absurd hg nil_own))
      by_cases hjn : (3 * (j : Int) + 2 < ln) ∧ (j : Int) < n
      · obtain ⟨h1, h2⟩ := hjn
        obtain ⟨m0, hm0⟩ : ∃ m : Nat, 3 * j = m := ⟨_, rfl⟩
        obtain ⟨m1, hm1⟩ : ∃ m : Nat, m0 + 1 = m := ⟨_, rfl⟩
        obtain ⟨m2, hm2⟩ : ∃ m : Nat, m0 + 2 = m := ⟨_, rfl⟩
        have hl0 : m0 < ln := by omega
        have hl1 : m1 < ln := by omega
        have hl2 : m2 < ln := by omega
        obtain ⟨b0, off0, hx0, rfl, hb0, c0, i00, i01⟩ := ints_get (ArrB.below HXS.out stays_int HB.out (Nat.le_refl _)) hl0
        obtain ⟨b1, off1, hx1, e1, hb1, c1, i10, i11⟩ := ints_get (ArrB.below HXS.out stays_int HB.out (Nat.le_refl _)) hl1
        obtain ⟨b2, off2, hx2, e2, hb2, c2, i20, i21⟩ := ints_get (ArrB.below HXS.out stays_int HB.out (Nat.le_refl _)) hl2
        cases e1
        cases e2
        have HV := Lib.hid (And.intro (And.intro i00 i01) (And.intro (And.intro i10 i11) (And.intro i20 i21)))
        generalize xs[m0] = y0 at c0 HV i00 i01
        generalize xs[m1] = y1 at c1 HV i10 i11
        generalize xs[m2] = y2 at c2 HV i20 i21
        clear hx0 hx1 hx2 hb0 hb1 hb2 i00 i01 i10 i11 i20 i21
        go_upto_region 5 with fail
        have hw0 : IntKind.i64.wrap (3 * (j : Int)) = (m0 : Int) := by rw [IntWalk.i64_in _ (by omega)]; omega
        have hw1 : IntKind.i64.wrap ((m0 : Int) + 1) = (m1 : Int) := by rw [IntWalk.i64_in _ (by omega)]; omega
        have hw2 : IntKind.i64.wrap ((m0 : Int) + 2) = (m2 : Int) := by rw [IntWalk.i64_in _ (by omega)]; omega
        refine wp_region_still_tail 19 (by kernel_rfl) (by kernel_rfl) ?_
        simp only [List.take_succ_cons, List.take_zero, List.drop_succ_cons, List.drop_zero]
        repeat (first | rw [hw0] | rw [hw1] | rw [hw2] | still_step)
        try refine wpStill_nil ?_
        change wpList _ _ _ _ _ wr.drew
        go_wp2_with fail
        refine (grow_any y0 y1 y2 _ vn vs ns ss wr.drew (HI.out.below (below_drewN (Below.refl _ _) 1)) HM.out (by have := HL.out; omega) HV.out.1 HV.out.2.1 HV.out.2.2).mono ?_
        rintro e w2 ⟨rfl, vn2, vs2, ns2, ss2, hG⟩
        have HG := Lib.hid hG
        clear hG
        go_wp2_with fail
        go_roundw
        case rel => exact ⟨j + 1, vn2, vs2, ns2, ss2, by go_num, by omega, by have := HG.out.le; have := HL.out; show _ ≤ _; omega, HG.out.isIn, HT.out.trans ((MkTo.of_below (below_drewN (Below.refl _ _) 1)).trans HG.out.to), HG.out.made⟩
        case measure => simp [intOf]; omega
      · by_cases h1 : 3 * (j : Int) + 2 < ln
        · have h2 : ¬ (j : Int) < n := fun h2 => hjn ⟨h1, h2⟩
          go_wp2_with fail
          go_meet
          exact ⟨vn, vs, ns, ss, (show _ ≤ _ by have := HL.out; omega), HI, HT, HM⟩
        · go_wp2_with fail
          go_meet
          exact ⟨vn, vs, ns, ss, (show _ ≤ _ by have := HL.out; omega), HI, HT, HM⟩
  case rest =>
    obtain ⟨vn, vs, ns, ss, HL, HI, HT, HM⟩ := hcut
    obtain ⟨wm, rfl⟩ : ∃ wm : World, wm = wc := ⟨_, rfl⟩
    obtain ⟨An, cn, hvn, hcn, hcnm, hrn⟩ := HI.out.nodes.reads (E := AtNode) tells_node (fun _ _ _ _ _ h => atV_node h) (S' := fun b => b < wm.heap.size) (fun b hb => hb.1) (fun g hg => (HI.out.nodes.lt g hg).2)
    obtain ⟨As, cs, hvs, hcs, hcsm, hrs⟩ := HI.out.sorts.reads (E := AtInt) tells_int (fun _ _ _ _ _ h => atV_int.1 h) (S' := fun b => b < wm.heap.size) (fun b hb => False.elim hb) (fun g hg => (HI.out.sorts.lt g hg).2)
    subst hvn
    subst hvs
    have x0 : wm.cell? ⟨w.heap.size + 1, 0, none⟩ = some (.slice An ns.length cn) := HI.out.blk.cell 0
    have x1 : wm.cell? ⟨w.heap.size + 1, 1, none⟩ = some (.slice As ss.length cs) := HI.out.blk.cell 1
    have hqc : w.heap.size + 1 < wm.heap.size := HI.out.lt
    have HN := Lib.hid (And.intro hcn (And.intro hrn hrs))
    have hnlen : (ns.length : Int) ≤ 4 * n := HL.out
    have hsb : ss.length ≤ 1000 := by rw [HM.out.len]; omega
    have hRm : Blk wm w.heap.size 26 #[.slice none 0 0, .slice none 0 0, .slice none 0 0] := HT.out.blk HX.out.2.1 (by omega) nil_own nil_own
    have HRm := Lib.hid hRm
    clear hRm
    clear hcn hcnm hrn hcs hcsm hrs
    go_upto_region 6 with fail
    go_cut [9] (fun v9 wx => Boxed wm (.slice An ns.length cn) v9 wx)
    case first =>
      refine wp_region_told_lit 8 7 (fun j => ([TA.decls, .is (.pointer (some ⟨w.heap.size + 1, 0, none⟩)), .is (.pointer (some ⟨w.heap.size + 1, 0, none⟩)), .is (.pointer (some ⟨w.heap.size + 1, 0, none⟩)), .is (.slice An ns.length cn), .ask (.slice An ns.length cn), .box wm.heap.size, .any].getD j .any).P) (fun vs W => Boxed wm (.slice An ns.length cn) (vs 6) W) _ (by kernel_rfl) (by kernel_rfl) (by kernel_rfl) (fun _ => by kernel_rfl) (fun vs => rfl) (fun j v W W' _ h _ hb => TA.keep h hb) ?_ ?_ ?_
      · refine ⟨?_, ?_, ?_, ?_, ?_, ?_, ?_, ?_, trivial⟩
        · constructor
          rotate_left
          · intro h; exfalso; revert h; decide
          intro _ vs W hb hd K hK
          generalize hA : putFrom vs _ 0 _ = A at hK ⊢
          clear hA
          go_simp
          refine (decls_any W).mono ?_
          rintro e w2 ⟨A2, c2, rfl, d1, d2, d3, hbw⟩
          exact hK _ _ ⟨hbw, A2, c2, rfl, d1, d3.keep stays_decl (fun b hb' => hb'.2) (fun _ _ _ => rfl)⟩
        · constructor
          rotate_left
          · intro h; exfalso; revert h; decide
          intro _ vs W hb hd K hK
          generalize hA : putFrom vs _ 0 _ = A at hK ⊢
          have e7 : A.tmps[7]?.getD undef = .pointer (some ⟨w.heap.size + 1, 0, none⟩) := by rw [← hA]; kernel_rfl
          clear hA
          go_simp
          exact hK _ _ ⟨Below.refl _ _, rfl⟩
        · constructor
          rotate_left
          · intro h; exfalso; revert h; decide
          intro _ vs W hb hd K hK
          generalize hA : putFrom vs _ 0 _ = A at hK ⊢
          have v1 := hd 1 (by kernel_rfl)
          have e47 : A.tmps[47]?.getD undef = _ := (show A.tmps[47]?.getD undef = vs 1 by rw [← hA]; kernel_rfl).trans v1
          clear v1
          clear hA
          go_simp
          exact hK _ _ ⟨Below.refl _ _, rfl⟩
        · constructor
          rotate_left
          · intro h; exfalso; revert h; decide
          intro _ vs W hb hd K hK
          generalize hA : putFrom vs _ 0 _ = A at hK ⊢
          have v2 := hd 2 (by kernel_rfl)
          have e48 : A.tmps[48]?.getD undef = _ := (show A.tmps[48]?.getD undef = vs 2 by rw [← hA]; kernel_rfl).trans v2
          clear v2
          clear hA
          go_simp
          exact hK _ _ ⟨Below.refl _ _, rfl⟩
        · constructor
          rotate_left
          · intro h; exfalso; revert h; decide
          intro _ vs W hb hd K hK
          generalize hA : putFrom vs _ 0 _ = A at hK ⊢
          have v3 := hd 3 (by kernel_rfl)
          have e49 : A.tmps[49]?.getD undef = _ := (show A.tmps[49]?.getD undef = vs 3 by rw [← hA]; kernel_rfl).trans v3
          clear v3
          have y0 := (hb.cell (p := ⟨w.heap.size + 1, 0, none⟩) hqc).trans x0
          clear hA
          go_simp
          exact hK _ _ ⟨Below.refl _ _, rfl⟩
        · constructor
          rotate_left
          · intro h; exfalso; revert h; decide
          intro _ vs W hb hd K hK
          generalize hA : putFrom vs _ 0 _ = A at hK ⊢
          have v4 := hd 4 (by kernel_rfl)
          have e50 : A.tmps[50]?.getD undef = _ := (show A.tmps[50]?.getD undef = vs 4 by rw [← hA]; kernel_rfl).trans v4
          clear v4
          obtain ⟨AD, cD, v0, hcD, hD⟩ := hd 0 (by kernel_rfl)
          have e46 : A.tmps[46]?.getD undef = _ := (show A.tmps[46]?.getD undef = vs 0 by rw [← hA]; kernel_rfl).trans v0
          clear hA v0
          go_simp
          exact hK _ _ ⟨Below.refl _ _, AD, cD, rfl, hcD, hD⟩
        · constructor
          rotate_left
          · intro h; exfalso; revert h; decide
          intro _ vs W hb hd K hK
          generalize hA : putFrom vs _ 0 _ = A at hK ⊢
          have h9 := box_new (w := W) hb.size
          clear hA hb
          go_simp
          exact hK _ _ h9
        · constructor
          · intro h; exfalso; revert h; decide
          intro _ vs W hb hd K hK
          have i6 : 6 < 8 := by decide
          have i5 : 5 < 8 := by decide
          have j6 : 6 ≠ 7 := by decide
          have j5 : 5 ≠ 7 := by decide
          generalize hA : putFrom vs _ 0 _ = A at hK ⊢
          obtain ⟨q, vq, hq, hkq⟩ := hd 6 i6 j6
          obtain ⟨AD, cD, vA, hcD, hD⟩ := hd 5 i5 j5
          have e9 : A.tmps[9]?.getD undef = _ := (show A.tmps[9]?.getD undef = vs 6 by rw [← hA]; kernel_rfl).trans vq
          have e51 : A.tmps[51]?.getD undef = _ := (show A.tmps[51]?.getD undef = vs 5 by rw [← hA]; kernel_rfl).trans vA
          have y0 := hkq.cell 0
          have y1 := hkq.cell 1
          have y2 := hkq.cell 2
          have z0 := hkq.frozen 0
          have z1 := hkq.frozen 1
          have z2 := hkq.frozen 2
          simp only [List.getElem?_toArray, List.getElem?_cons_zero, List.getElem?_cons_succ] at y0 y1 y2
          have hql := hkq.lt
          have HK := Lib.hid (And.intro vq (And.intro hkq (And.intro hq (And.intro hcD (And.intro hD hb)))))
          clear hA vA vq hcD hD hd hkq hq hb
          go_simp
          obtain ⟨vq, hkq, hq, hcD, hD, hb⟩ := HK.out
          exact hK undef _ (boxed_of (Below.refl _ _) hb vq hq hkq hcD hD)
      · exact fun h => absurd h (by decide)
      · intro vs W hE
        simp only [putFrom, Act.put, List.setIfInBounds_toArray, List.set_cons_succ, List.set_cons_zero]
        go_wp2_with fail
        go_meet
        exact hE
    case rest =>
      obtain ⟨p, AD, cD, rfl, hp, hcD, hkp, hD, hbp⟩ := hcut
      obtain ⟨r, hr⟩ : ∃ r : Int, xs.getD 1 0 % 3 = r := ⟨_, rfl⟩
      have hr0 : 0 ≤ r := by omega
      have hr1 : r < 3 := by omega
      have y1 : wc.cell? ⟨w.heap.size + 1, 1, none⟩ = some (.slice As ss.length cs) := (hbp.cell (p := ⟨w.heap.size + 1, 1, none⟩) hqc).trans x1
      have hpc := hkp.lt
      have HP := Lib.hid (And.intro hkp (And.intro hD (And.intro hbp hcD)))
      have HR := Lib.hid hr
      have HBm : Hid (Below w.heap.size w wm) := HX.out.1.trans (HT.out.below (B := w.heap.size) (by omega) (by omega) (fun g hg => absurd hg nil_own) (fun g hg => absurd hg nil_own))
      have hwm : w.heap.size ≤ wm.heap.size := HBm.out.size
      have hmc : wm.heap.size ≤ wc.heap.size := hbp.size
      clear hkp hD hbp hcD hr x0 x1
      go_wp2_with fail
      go_loopw [10] (fun i wr => ∃ (j : Nat) (H : List Int) (vH : Value), j ≤ ss.length ∧ i = .int .i64 ((j : Int) - 1) ∧ H.length ≤ 3 ∧ Hid (Blk wr p 26 #[.slice AD 14 cD, .slice An ns.length cn, vH]) ∧ Hid (OwnV VInt 3 1 wr wc.heap.size (fun _ => False) vH H) ∧ Hid (wc.grownBy wr (some p)) ∧ Hid (∀ x ∈ H, ∃ k : Nat, x = k ∧ ss[k]? = some 1)) (fun i _ => (intOf i + 1).toNat)
      case atStart => exact ⟨ss.length, [], _, Nat.le_refl _, rfl, by simp, HP.out.1, OwnV.none_ _ _ _ _ _ _, only_refl _ _, (fun x hx => by simp at hx)⟩
      case round =>
        obtain ⟨j, H, vH, hj, rfl, hH, HB, HO, HG, HK⟩ := hrel
        obtain ⟨AH, cH, rfl, hcH, hcHm, hrH⟩ := HO.out.reads (E := AtInt) tells_int (fun _ _ _ _ _ h => atV_int.1 h) (S' := fun b => b < wr.heap.size) (fun b hb => False.elim hb) (fun g hg => (HO.out.lt g hg).2)
        have HBr : Hid (Below wm.heap.size wm wr) := below_then HP.out.2.2.1 HG.out hmc (fun x hx => by injection hx with hx; omega)
        have hcr : wc.heap.size ≤ wr.heap.size := HG.out.size
        have HBw : Hid (Below w.heap.size w wr) := HBm.out.trans (HBr.out.mono hwm)
        have HXr := Lib.hid (ArrB.below HXS.out stays_int HBw.out (Nat.le_refl _))
        have z1 : wr.cell? ⟨w.heap.size + 1, 1, none⟩ = some (.slice As ss.length cs) := (only_cell HG.out (b := w.heap.size + 1) (o := 1) (by omega) (fun e => by injection e with e; omega)).trans y1
        have p0 := HB.out.cell 0
        have p1 := HB.out.cell 1
        have p2 := HB.out.cell 2
        have f2 := HB.out.frozen 2
        simp only [List.getElem?_toArray, List.getElem?_cons_zero, List.getElem?_cons_succ] at p0 p1 p2
        have HRr := Lib.hid (HRm.out.below HBr.out HRm.out.lt)
        have q0 := HRr.out.cell 0
        have q1 := HRr.out.cell 1
        have q2 := HRr.out.cell 2
        have g0 := HRr.out.frozen 0
        have g1 := HRr.out.frozen 1
        have g2 := HRr.out.frozen 2
        simp only [List.getElem?_toArray, List.getElem?_cons_zero, List.getElem?_cons_succ] at q0 q1 q2
        have HH := Lib.hid (And.intro hcH (And.intro hrH hcHm))
        clear y1 hcH hrH hcHm
        rcases j with _ | j
        · rw [show ((0 : Nat) : Int) - 1 = -1 from rfl]
          go_upto_region 8 with fail
          go_quiet (fail)
          have HB1 := Lib.hid (HB.out.drewN nq)
          have HO1 := Lib.hid (HO.out.kept tells_int (only_drewN (only_refl wr none) nq) (own_anyM _) (S' := fun _ => False) (fun _ h => h.elim))
          have HG1 := Lib.hid (only_drewN HG.out nq)
          have HBq := Lib.hid (below_drewN HBr.out nq)
          have HRq := Lib.hid (HRr.out.drewN nq)
          have HHq := Lib.hid (HH.out.2.1.keep stays_int (S' := fun b => b < (wr.drewN nq).heap.size) (w' := wr.drewN nq) (fun b hb => hb) (fun _ _ _ => rfl))
          have zq : (wr.drewN nq).cell? ⟨w.heap.size + 1, 1, none⟩ = some (.slice As ss.length cs) := z1
          have hcq : wc.heap.size ≤ (wr.drewN nq).heap.size := hcr
          clear p0 p1 p2 f2 q0 q1 q2 g0 g1 g2 z1 HB HO HG HBr HRr HBw
          obtain ⟨wq, hwq⟩ : ∃ wq : World, wr.drewN nq = wq := ⟨_, rfl⟩
          rw [hwq] at HB1 HO1 HG1 HBq HRq HHq zq hcq ⊢
          have p0 := HB1.out.cell 0
          have p1 := HB1.out.cell 1
          have p2 := HB1.out.cell 2
          have q0 := HRq.out.cell 0
          have q1 := HRq.out.cell 1
          have q2 := HRq.out.cell 2
          have g0 := HRq.out.frozen 0
          have g1 := HRq.out.frozen 1
          have g2 := HRq.out.frozen 2
          simp only [List.getElem?_toArray, List.getElem?_cons_zero, List.getElem?_cons_succ] at p0 p1 p2 q0 q1 q2
          go_wp2_with fail
          have hd9 := three_blk HRq.out (.slice AD 14 cD) (.slice An ns.length cn) (.slice AH H.length cH)
          have d0 := hd9.cell 0
          have d1 := hd9.cell 1
          have d2 := hd9.cell 2
          simp only [List.getElem?_toArray, List.getElem?_cons_zero, List.getElem?_cons_succ] at d0 d1 d2
          have hDr : Arr AtDecl 3 wq (fun b => b < wq.heap.size) AD 14 declsK := HP.out.2.1.keep stays_decl (fun b hb => Nat.lt_of_lt_of_le hb.1 hcq) (fun b o hb => only_cell HG1.out hb.1 (fun e => by injection e with e; exact hb.2 e.symm))
          have hNr : Arr AtNode 5 wq (fun b => b < wq.heap.size) An ns.length ns := HN.out.2.1.keep stays_node (fun b hb => Nat.lt_of_lt_of_le hb HBq.out.size) (fun b o hb => HBq.out.cell (p := ⟨b, o, none⟩) hb)
          refine bodyPost_ret (v := .agg #[.slice AD 14 cD, .slice An ns.length cn, .slice AH H.length cH]) (by simp [results, Try.results11, go_sem, d0, d1, d2]) rfl ?_
          exact ⟨AD, cD, An, cn, AH, cH, ns, ss, H, rfl, ask_out HRq.out hDr hNr HHq.out (by omega) (by omega), HP.out.2.2.2, HN.out.1, HH.out.1, HM.out, HL.out, hH, fun k hk => by obtain ⟨x, rfl, h⟩ := HK.out k hk; exact ⟨by omega, by simpa using h⟩, three_below (HBm.out.trans (HBq.out.mono hwm)) (Nat.le_refl _) _ _ _⟩
        · rw [show ((j + 1 : Nat) : Int) - 1 = (j : Int) from by omega]
          by_cases hl : (H.length : Int) < 1 + r
          · have hdl : decide ((H.length : Int) < 1 + r) = true := by simpa using hl
            have HQ1 : Hid (∀ m : Nat, Calls Try.prog 26 #[.slice A ln c, .int .i64 1] (wr.drewN m) fun e w'' => e = .returned (.int .i64 (xs.getD 1 0)) ∧ ∃ m, w'' = wr.drewN m) := Lib.hid (fun m => quiet_at (k := 1) HXr.out hln m)
            have HQ2 := Lib.hid (fun m : Nat => quiet_picked wr (getD_i64 HXr.out 1) (by omega) (by omega) HR.out m)
            go_upto_region 8 with fail
            go_quiet ((first
              | (go_at_call 26; exact HQ1.out _)
              | (go_at_call 13; exact HQ2.out _)))
            have HB1 := Lib.hid (HB.out.drewN nq)
            have HO1 := Lib.hid (HO.out.kept tells_int (only_drewN (only_refl wr none) nq) (own_anyM _) (S' := fun _ => False) (fun _ h => h.elim))
            have HG1 := Lib.hid (only_drewN HG.out nq)
            have HBq := Lib.hid (below_drewN HBr.out nq)
            have HRq := Lib.hid (HRr.out.drewN nq)
            have HHq := Lib.hid (HH.out.2.1.keep stays_int (S' := fun b => b < (wr.drewN nq).heap.size) (w' := wr.drewN nq) (fun b hb => hb) (fun _ _ _ => rfl))
            have zq : (wr.drewN nq).cell? ⟨w.heap.size + 1, 1, none⟩ = some (.slice As ss.length cs) := z1
            have hcq : wc.heap.size ≤ (wr.drewN nq).heap.size := hcr
            clear p0 p1 p2 f2 q0 q1 q2 g0 g1 g2 z1 HB HO HG HBr HRr HBw HQ1 HQ2
            obtain ⟨wq, hwq⟩ : ∃ wq : World, wr.drewN nq = wq := ⟨_, rfl⟩
            rw [hwq] at HB1 HO1 HG1 HBq HRq HHq zq hcq ⊢
            have hlt : j < ss.length := by omega
            have p2 := HB1.out.cell 2
            simp only [List.getElem?_toArray, List.getElem?_cons_zero, List.getElem?_cons_succ] at p2
            obtain ⟨b4, off4, hx4, rfl, hb4, hc4, hv0, hv1⟩ := ints_get (HN.out.2.2.keep stays_int (fun b hb => hb) (fun b o hb => HBq.out.cell (p := ⟨b, o, none⟩) hb)) hlt
            have hsj : ss[j]? = some ss[j] := List.getElem?_eq_getElem hx4
            have HSJ := Lib.hid hsj
            clear hsj
            generalize ss[j] = v at hc4 HSJ hv0 hv1
            have HBN := Lib.hid (Blk.new wq 3 #[.int .i64 (j : Int)])
            have hba : Below wq.heap.size wq (wq.alloc (.cells #[.int .i64 (j : Int)] 3)) := (Below.refl _ _).alloc (Nat.le_refl _) _
            have HB2 := Lib.hid (HB1.out.below hba HB1.out.lt)
            have HO2 := Lib.hid (HO1.out.kept tells_int (only_alloc (only_refl wq none) (.cells #[.int .i64 (j : Int)] 3)) (own_anyM _) (S' := fun _ => False) (fun _ h => h.elim))
            have HG2 := Lib.hid (only_alloc HG1.out (.cells #[.int .i64 (j : Int)] 3))
            have HIJ : Hid (I64 (j : Int)) := by show I64 _; unfold I64; omega
            clear hx4 hb4 hba
            by_cases hv : v = 1
            · subst hv
              go_wp2_with (at_builtin; refine wpList_append_item rfl _ _ _ rfl rowIntsM tells_int (v := .slice AH H.length cH) (xs := H) (base := wc.heap.size) (S := fun _ => False) rfl HO2.out (g := wq.heap.size) (cs := #[.int .i64 (j : Int)]) rfl HBN.out (y := (j : Int)) ⟨rfl, HIJ.out⟩ (fun b h => h.elim) (by unfold maxLen; omega) (by omega) (by simp; omega) ?_; intro v6 w6 hown6 hgrow6 hat6; obtain ⟨A6, c6, hv6, hc6, hcm6⟩ := hown6.len; rw [show (H ++ [(j : Int)]).length = H.length + 1 from by simp] at hv6; subst hv6; clear hc6 hcm6; have hb6 := HB2.out.grown hgrow6 (fun e => by have := (HO2.out.lt p e.symm).1; omega); have y2 := hb6.cell 2; have f6 := hb6.frozen 2; simp only [List.getElem?_toArray, List.getElem?_cons_zero, List.getElem?_cons_succ] at y2; have HB6 := Lib.hid (And.intro hown6 (And.intro hgrow6 hb6)); clear hown6 hgrow6 hat6 hb6)
              go_roundw
              case rel =>
                refine ⟨j, H ++ [(j : Int)], _, by omega, by go_num, by simp; omega, HB6.out.2.2.set_ 2 _, HB6.out.1.kept tells_int (one_only (only_refl _ _) 2 _) ?_ (S' := fun _ => False) (fun _ h => h.elim), one_only (only_then HG2.out HB6.out.2.1 (fun x hx => .inl (HO2.out.lt x hx).1)) 2 _, fun x hx => ?_⟩
                · cases hv6 : (Value.slice A6 (H.length + 1) c6).ownBlock with
                  | none => exact .inl rfl
                  | some y => exact .inr (fun e => by injection e with e; have := (HB6.out.1.lt y hv6).1; omega)
                · rcases List.mem_append.1 hx with hx | hx
                  · exact HK.out x hx
                  · exact ⟨j, by simpa using hx, HSJ.out⟩
              case measure => simp [intOf]
            · have hvb : (v == 1) = false := by rw [beq_eq_false_iff_ne]; exact hv
              go_wp2_with fail
              go_roundw
              case rel => exact ⟨j, H, _, by omega, by go_num, hH, HB1, HO1, HG1, HK⟩
              case measure => simp [intOf]
          · have hdl : decide ((H.length : Int) < 1 + r) = false := by simpa using hl
            have HQ1 : Hid (∀ m : Nat, Calls Try.prog 26 #[.slice A ln c, .int .i64 1] (wr.drewN m) fun e w'' => e = .returned (.int .i64 (xs.getD 1 0)) ∧ ∃ m, w'' = wr.drewN m) := Lib.hid (fun m => quiet_at (k := 1) HXr.out hln m)
            have HQ2 := Lib.hid (fun m : Nat => quiet_picked wr (getD_i64 HXr.out 1) (by omega) (by omega) HR.out m)
            go_upto_region 8 with fail
            go_quiet ((first
              | (go_at_call 26; exact HQ1.out _)
              | (go_at_call 13; exact HQ2.out _)))
            have HB1 := Lib.hid (HB.out.drewN nq)
            have HO1 := Lib.hid (HO.out.kept tells_int (only_drewN (only_refl wr none) nq) (own_anyM _) (S' := fun _ => False) (fun _ h => h.elim))
            have HG1 := Lib.hid (only_drewN HG.out nq)
            have HBq := Lib.hid (below_drewN HBr.out nq)
            have HRq := Lib.hid (HRr.out.drewN nq)
            have HHq := Lib.hid (HH.out.2.1.keep stays_int (S' := fun b => b < (wr.drewN nq).heap.size) (w' := wr.drewN nq) (fun b hb => hb) (fun _ _ _ => rfl))
            have zq : (wr.drewN nq).cell? ⟨w.heap.size + 1, 1, none⟩ = some (.slice As ss.length cs) := z1
            have hcq : wc.heap.size ≤ (wr.drewN nq).heap.size := hcr
            clear p0 p1 p2 f2 q0 q1 q2 g0 g1 g2 z1 HB HO HG HBr HRr HBw HQ1 HQ2
            obtain ⟨wq, hwq⟩ : ∃ wq : World, wr.drewN nq = wq := ⟨_, rfl⟩
            rw [hwq] at HB1 HO1 HG1 HBq HRq HHq zq hcq ⊢
            have p0 := HB1.out.cell 0
            have p1 := HB1.out.cell 1
            have p2 := HB1.out.cell 2
            have q0 := HRq.out.cell 0
            have q1 := HRq.out.cell 1
            have q2 := HRq.out.cell 2
            have g0 := HRq.out.frozen 0
            have g1 := HRq.out.frozen 1
            have g2 := HRq.out.frozen 2
            simp only [List.getElem?_toArray, List.getElem?_cons_zero, List.getElem?_cons_succ] at p0 p1 p2 q0 q1 q2
            go_wp2_with fail
            have hd9 := three_blk HRq.out (.slice AD 14 cD) (.slice An ns.length cn) (.slice AH H.length cH)
            have d0 := hd9.cell 0
            have d1 := hd9.cell 1
            have d2 := hd9.cell 2
            simp only [List.getElem?_toArray, List.getElem?_cons_zero, List.getElem?_cons_succ] at d0 d1 d2
            have hDr : Arr AtDecl 3 wq (fun b => b < wq.heap.size) AD 14 declsK := HP.out.2.1.keep stays_decl (fun b hb => Nat.lt_of_lt_of_le hb.1 hcq) (fun b o hb => only_cell HG1.out hb.1 (fun e => by injection e with e; exact hb.2 e.symm))
            have hNr : Arr AtNode 5 wq (fun b => b < wq.heap.size) An ns.length ns := HN.out.2.1.keep stays_node (fun b hb => Nat.lt_of_lt_of_le hb HBq.out.size) (fun b o hb => HBq.out.cell (p := ⟨b, o, none⟩) hb)
            refine bodyPost_ret (v := .agg #[.slice AD 14 cD, .slice An ns.length cn, .slice AH H.length cH]) (by simp [results, Try.results11, go_sem, d0, d1, d2]) rfl ?_
            exact ⟨AD, cD, An, cn, AH, cH, ns, ss, H, rfl, ask_out HRq.out hDr hNr HHq.out (by omega) (by omega), HP.out.2.2.2, HN.out.1, HH.out.1, HM.out, HL.out, hH, fun k hk => by obtain ⟨x, rfl, h⟩ := HK.out k hk; exact ⟨by omega, by simpa using h⟩, three_below (HBm.out.trans (HBq.out.mono hwm)) (Nat.le_refl _) _ _ _⟩
end Go.Proofs.Ythooecojopfjbaa
