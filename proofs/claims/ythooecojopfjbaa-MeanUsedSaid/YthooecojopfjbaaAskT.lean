/- Walk: the reference's sort of a node. -/
import Derived.Test.YthooecojopfjbaaAskS
import Derived.Deep.CutBlock
namespace Go.Proofs.Ythooecojopfjbaa
open Go.RowKit

theorem two_boxes2 (w : World) (c1 c2 : Array Value) : Below w.heap.size w ((w.alloc (.cells c1 26)).alloc (.cells c2 59)) ∧ Blk ((w.alloc (.cells c1 26)).alloc (.cells c2 59)) w.heap.size 26 c1 ∧
    Blk ((w.alloc (.cells c1 26)).alloc (.cells c2 59)) (w.heap.size + 1) 59 c2 ∧ ((w.alloc (.cells c1 26)).alloc (.cells c2 59)).heap.size = w.heap.size + 2 := two_boxes w _ _ c1 c2
theorem quiet_same1 {P : Program} {f : FuncId} {args : Array Value} {w : World} {n : Nat} {v : Value} (h : ∀ W : World, Calls P f args W fun e w' => e = .returned v ∧ W = w') :
    Calls P f args (w.drewN n) fun e w'' => e = .returned v ∧ ∃ m, w'' = w.drewN m := (h _).mono fun _ _ ⟨he, hm⟩ => ⟨he, n, hm.symm⟩
theorem allB_snoc (p : Int → Bool) : ∀ (l : List Int) (x : Int), allB p (l ++ [x]) = (allB p l && p x)
  | [], x => by simp [allB]
  | y :: r, x => by rw [List.cons_append, allB_cons, allB_cons, allB_snoc p r x, Bool.and_assoc]
theorem head_get {l : List Int} (h : 0 < l.length) : l[0] = l.headD 0 := by
  cases l with
  | nil => simp at h
  | cons x r => rfl
theorem endF_num {op d : Int} {l : List Int} (h : op = 10 ∨ op = 11 ∨ op = 12) : endF op d l = if allB isIntS l = true ∧ d ≤ 1 then 2 else 3 := by
  rcases h with rfl | rfl | rfl <;> simp [endF]
theorem own_any (v : Value) : v.ownBlock = none ∨ v.ownBlock ≠ none := by
  cases h : v.ownBlock with
  | none => exact .inl rfl
  | some g => exact .inr (by simp)

/-- what the first loop leaves: the kids' sorts, whether all are Ints -/
def SortCut (ksS : List Int) (n : Nat) (X : World) (s7 s8 : Value) (wx : World) : Prop :=
  (∃ ib : Bool, s8 = .bool ib ∧ Hid (allB isIntS ksS = ib)) ∧ Below X.heap.size X wx ∧ ∃ A c, s7 = .slice A n c ∧ n ≤ c ∧ IntsB wx wx.heap.size A n ksS
theorem letter_A {W : ByteArray} {k : Nat} (h : k < W.size) (q : ((W[k].toNat : Int) != 42) = true) : letterF W k = (W[k].toNat : Int) := by
  rw [bne_iff_ne, ← byteAt_get h] at q
  rw [letterF, if_pos ⟨by simpa using h, q⟩, byteAt_get h]
theorem letter_B {W : ByteArray} {k : Nat} (h : k < W.size) (q : ((W[k].toNat : Int) != 42) = false) (h0 : 0 < W.size) : letterF W k = (W[0].toNat : Int) := by
  rw [← byteAt_get h] at q
  rw [letterF, if_neg (by rintro ⟨-, h2⟩; rw [bne_eq_false_iff_eq] at q; exact h2 q), byteAt_get h0]
theorem letter_C {W : ByteArray} {k : Nat} (h : W.size ≤ k) (h0 : 0 < W.size) : letterF W k = (W[0].toNat : Int) := by
  rw [letterF, if_neg (by rintro ⟨h2, -⟩; simp at h2; omega), byteAt_get h0]
theorem wants_pos {op : Int} {ksS : List Int} (h1 : 1 ≤ op) (h2 : op ≤ 25) (h9 : op ≠ 9) (hc : CountOk op ksS) (hk : 0 < ksS.length) : 0 < (wantsF op).size := by
  rcases wants_kinds op h1 h2 with ⟨-, h⟩ | h | ⟨h, -⟩ | ⟨h, -⟩ | ⟨h, -⟩ | ⟨h, -⟩
  · rcases hc with hc | hc
    · omega
    · omega
  · exact absurd h h9
  · omega
  · omega
  · omega
  · omega

set_option maxRecDepth 100000 in
set_option maxHeartbeats 16000000 in
theorem sortOf_any (A1 A2 A3 : Option Addr) (n1 c1 n2 c2 n3 c3 : Nat) (ds : List DeclD) (op nn dd : Int) (nm : ByteArray) (K : Option Addr) (kn kc : Nat) (ks : List Int) (As : Option Addr) (ns cs : Nat) (ss : List Int) (R : Int) (w : World)
    (hd : ArrB AtDecl 3 w w.heap.size A1 n1 ds) (hks : IntsB w w.heap.size K kn ks) (hss : IntsB w w.heap.size As ns ss) (hin : ∀ k ∈ ks, 0 ≤ k ∧ k < (ns : Int)) (hk8 : kn ≤ 8) (hm1 : n1 ≤ 9223372036854775807) (_hns : ns ≤ 1000000)
    (ho1 : 1 ≤ op) (ho2 : op ≤ 25) (h9i : op = 9 → 0 ≤ idx (nameIs nm) ds 0) (hco : op ≠ 9 → CountOk op (ks.map fun k => ss.getD k.toNat 0)) (h15 : op = 15 → 1 ≤ dd ∧ dd ≤ 8)
    (hR : sortOfF op dd (ks.map fun k => ss.getD k.toNat 0) (declAt ds nm).sort = R) :
    Calls Try.prog 39 #[.agg #[.slice A1 n1 c1, .slice A2 n2 c2, .slice A3 n3 c3], .agg #[.int .i64 op, .slice K kn kc, .int .i64 nn, .int .i64 dd, .string nm], .slice As ns cs] w fun e w' => e = .returned (.int .i64 R) ∧ Below w.heap.size w w' := by
  have hops : op = 1 ∨ op = 2 ∨ op = 3 ∨ op = 4 ∨ op = 5 ∨ op = 6 ∨ op = 7 ∨ op = 8 ∨ op = 9 ∨ op = 10 ∨ op = 11 ∨ op = 12 ∨ op = 13 ∨ op = 14 ∨ op = 15 ∨ op = 16 ∨ op = 17 ∨ op = 18 ∨ op = 19 ∨ op = 20 ∨ op = 21 ∨ op = 22 ∨ op = 23 ∨ op = 24 ∨ op = 25 := by omega
  have HOPS := Lib.hid hops
  clear hops
  have hal := hks.len
  have hkl : (ks.map fun k => ss.getD k.toNat 0).length = kn := by simp [hal]
  have HKL := Lib.hid hkl
  have HAL := Lib.hid hal
  have HRR := Lib.hid hR
  have HIN := Lib.hid hin
  have HCO := Lib.hid hco
  have H15 := Lib.hid h15
  have H9I := Lib.hid h9i
  have HDS := Lib.hid (And.intro hd (And.intro hss hks))
  obtain ⟨hb0, ha0, hn0, hs0⟩ := two_boxes2 w #[.slice A1 n1 c1, .slice A2 n2 c2, .slice A3 n3 c3] #[.int .i64 op, .slice K kn kc, .int .i64 nn, .int .i64 dd, .string nm]
  have HX := Lib.hid (And.intro hb0 (And.intro ha0 (And.intro hn0 hs0)))
  clear hd hks hss hin hR hco h15 h9i hkl hal
  have x0 := hn0.cell 0
  have x1 := hn0.cell 1
  have x3 := hn0.cell 3
  have x4 := hn0.cell 4
  have a0 := ha0.cell 0
  simp only [List.getElem?_toArray, List.getElem?_cons_zero, List.getElem?_cons_succ] at x0 x1 x3 x4 a0
  clear hb0 ha0 hn0 hs0
  go_enter Try.func39, Try.ntmps39
  go_upto_block 0 with fail
  generalize (w.alloc (.cells #[.slice A1 n1 c1, .slice A2 n2 c2, .slice A3 n3 c3] 26)).alloc (.cells #[.int .i64 op, .slice K kn kc, .int .i64 nn, .int .i64 dd, .string nm] 59) = X at HX x0 x1 x3 x4 a0 ⊢
  have hz : w.heap.size + 1 < X.heap.size := HX.out.2.2.1.lt
  go_cut [7, 8] (fun s7 s8 wx => SortCut (ks.map fun k => ss.getD k.toNat 0) kn X s7 s8 wx)
  case first =>
    go_wp2_with fail
    go_loopw [7, 8, 9] (fun v1 s8 s9 wr => ∃ k : Nat, k ≤ kn ∧ s9 = .int .i64 k ∧ (∃ ib : Bool, s8 = .bool ib ∧ Hid (allB isIntS ((ks.map fun k => ss.getD k.toNat 0).take k) = ib)) ∧ OwnV VInt 3 1 wr X.heap.size (fun _ => False) v1 ((ks.map fun k => ss.getD k.toNat 0).take k) ∧ Below X.heap.size X wr) (fun _ _ s9 _ => kn - (intOf s9).toNat)
    case atStart => exact ⟨0, Nat.zero_le _, rfl, ⟨true, rfl, rfl⟩, OwnV.none_ _ _ _ _ _ _, Below.refl _ _⟩
    case round =>
      obtain ⟨k, hk, rfl, ⟨ib, rfl, HIB⟩, hown, hbel⟩ := hrel
      have hbw : Below w.heap.size w wr := HX.out.1.trans (hbel.mono (by omega))
      have y1 : wr.cell? ⟨w.heap.size + 1, 1, none⟩ = some (.slice K kn kc) := (hbel.cell (p := ⟨w.heap.size + 1, 1, none⟩) (by show w.heap.size + 1 < _; omega)).trans x1
      by_cases hlt : k < kn
      · obtain ⟨b3, off3, hx3, rfl, hb3, hc3, -, -⟩ := ints_get (HDS.out.2.2.below stays_int hbw (Nat.le_refl _)) hlt
        have hmem := HIN.out _ (List.getElem_mem hx3)
        have hmap : (ks.map fun k => ss.getD k.toNat 0).take (k + 1) = (ks.map fun k => ss.getD k.toNat 0).take k ++ [ss.getD (ks[k]).toNat 0] := by
          rw [take_snoc_l (by rw [HKL.out]; exact hlt)]
          simp
        have HMAP := Lib.hid hmap
        clear hmap
        generalize ks[k] = y at hc3 HMAP hmem
        obtain ⟨hy0, hy1⟩ := hmem
        have hkI2 : (k : Int) < (kn : Int) := by omega
        have hyn : y.toNat < ns := by omega
        obtain ⟨b4, off4, hx4, rfl, hb4, hc4, hv0, hv1⟩ := ints_get (HDS.out.2.1.below stays_int hbw (Nat.le_refl _)) hyn
        have hgd : ss.getD y.toNat 0 = ss[y.toNat] := by rw [List.getD_eq_getElem?_getD, List.getElem?_eq_getElem hx4]; rfl
        rw [hgd] at HMAP
        generalize ss[y.toNat] = v at hc4 HMAP hv0 hv1
        have hbn := Blk.new wr 3 #[.int .i64 v]
        have hown2 : OwnV VInt 3 1 (wr.alloc (.cells #[.int .i64 v] 3)) X.heap.size (fun _ => False) u7 ((ks.map fun k => ss.getD k.toNat 0).take k) := hown.kept tells_int (grown_of wr none _) (own_any _) (S' := fun _ => False) (fun _ hb => False.elim hb)
        have hlen : ((ks.map fun k => ss.getD k.toNat 0).take k).length = k := by rw [List.length_take, HKL.out]; omega
        have HO := Lib.hid (And.intro hown (And.intro hown2 (And.intro hbn (And.intro hlen (And.intro hbel (show I64 v from ⟨hv0, hv1⟩))))))
        have hbs : X.heap.size ≤ wr.heap.size := hbel.size
        clear hx3 hb3 hx4 hb4 hown hown2 hbn hlen hbel hbw hgd hyn
        cases ib
        all_goals
          go_wp2_with (at_builtin; refine wpList_append_item rfl _ _ _ rfl rowInts tells_int (v := u7) (xs := (ks.map fun k => ss.getD k.toNat 0).take k) (base := X.heap.size) (S := fun _ => False) rfl HO.out.2.1 (g := wr.heap.size) (cs := #[.int .i64 v]) rfl HO.out.2.2.1 (y := v) ⟨rfl, HO.out.2.2.2.2.2⟩ (fun b h => h.elim) (by rw [HO.out.2.2.2.1]; unfold maxLen; omega) (by rw [HO.out.2.2.2.1]; omega) (by simp; omega) ?_; intro v' w6 hown6 hgrow6 hat6; obtain ⟨A6, c6, rfl, hc6, hc6m, hrd6⟩ := hown6.reads (E := AtInt) tells_int (fun _ _ _ _ _ h => atV_int.1 h) (S' := fun _ => True) (fun _ _ => trivial) (fun _ _ => trivial); obtain ⟨g6, o6, rfl, -, hcell6, -⟩ := hrd6.at_ k v (by rw [List.getElem?_append_right (by rw [HO.out.2.2.2.1]; omega), HO.out.2.2.2.1]; simp); rw [Nat.mul_one] at hcell6; rw [List.length_append, HO.out.2.2.2.1, List.length_singleton] at hc6 hown6 ⊢; have HB6 := Lib.hid (And.intro hown6 hgrow6); clear hown6 hgrow6 hat6 hrd6)
          go_roundw
          case rel =>
            refine ⟨k + 1, by omega, by go_num, ⟨_, rfl, ?_⟩, by rw [HMAP.out]; exact HB6.out.1, ?_⟩
            · show _ = _
              rw [HMAP.out, allB_snoc, HIB.out]
              first
                | rfl
                | simp [isIntS]
            · exact below_then (HO.out.2.2.2.2.1.alloc hbs _) HB6.out.2 (by simp; omega) (fun x hx => (HO.out.1.lt x hx).1)
          case measure => simp [intOf]; omega
      · obtain rfl : kn = k := by omega
        have hall : (ks.map fun k => ss.getD k.toNat 0).take kn = (ks.map fun k => ss.getD k.toNat 0) := List.take_of_length_le (by rw [HKL.out]; omega)
        rw [hall] at hown HIB
        go_wp2_with fail
        go_meet
        obtain ⟨A5, c5, rfl, hc5, hc5m, hread⟩ := hown.reads (E := AtInt) tells_int (fun _ _ _ _ _ h => atV_int.1 h) (S' := fun b => b < wr.heap.size) (fun b hb => False.elim hb) (fun g hg => (hown.lt g hg).2)
        rw [HKL.out] at hread hc5 ⊢
        exact ⟨⟨ib, rfl, HIB⟩, hbel, A5, c5, rfl, hc5, hread⟩
  case rest =>
    obtain ⟨⟨ib, rfl, HIB⟩, hbelX, A5, c5, rfl, hc5, hread⟩ := hcut
    obtain ⟨hb0, ha0, hn0, hs0⟩ := HX.out
    have hbw0 : Below w.heap.size w wc := hb0.trans (hbelX.mono (by omega))
    have ha1 := ha0.below hbelX (by omega)
    have hn1 := hn0.below hbelX (by omega)
    clear x0 x1 x3 x4 a0 hz
    have x0 : wc.cell? ⟨w.heap.size + 1, 0, none⟩ = some (.int .i64 op) := hn1.cell 0
    have x3 : wc.cell? ⟨w.heap.size + 1, 3, none⟩ = some (.int .i64 dd) := hn1.cell 3
    have x4 : wc.cell? ⟨w.heap.size + 1, 4, none⟩ = some (.string nm) := hn1.cell 4
    have a0 : wc.cell? ⟨w.heap.size, 0, none⟩ = some (.slice A1 n1 c1) := ha1.cell 0
    have hz : w.heap.size + 1 < wc.heap.size := hn1.lt
    have HB := Lib.hid (And.intro hbw0 (And.intro ha1 hn1))
    have HRD := Lib.hid hread
    clear hb0 ha0 hn0 hs0 hbw0 ha1 hn1 hbelX hread
    have hkI : (kn : Int) ≤ 1000 := by omega
    by_cases h9 : op = 9
    · subst h9
      obtain ⟨k, hk, hget, -⟩ := declAt_mem (H9I.out rfl)
      have hkl : k < n1 := by
        have := HDS.out.1.len
        have := (List.getElem?_eq_some_iff.1 hget).1
        omega
      obtain ⟨bd, od, hxd, AR, an, ac, rfl, hbd, -, -, e2, -, -, -, -, -⟩ := decls_get (HDS.out.1.below stays_decl HB.out.1 (Nat.le_refl _)) hkl
      have hgk : ds[k] = declAt ds nm := by rw [List.getElem?_eq_getElem hxd] at hget; simpa using hget
      rw [hgk] at e2
      have hso : ∃ so : Int, (declAt ds nm).sort = so := ⟨_, rfl⟩
      obtain ⟨so, hso⟩ := hso
      rw [hso] at e2
      have hrr := HRR.out
      rw [hso, sortOfF, if_pos rfl] at hrr
      have HRA := Lib.hid hrr
      have HDC := Lib.hid (fun W (hW : Below w.heap.size w W) => declOf_is (some ⟨bd, od, none⟩) n1 c1 nm ds k W _ (HDS.out.1.below stays_decl hW hW.size) hm1 hk)
      have hkI2 : (k : Int) < (n1 : Int) := by omega
      clear hrr hso hgk hget hxd hk
      go_wp2_with fail
      go_loop [10] (fun s => ∃ j : Nat, j ≤ kn ∧ s = .int .i64 j ∧ Hid (((ks.map fun k => ss.getD k.toNat 0).drop j).any notThing = (ks.map fun k => ss.getD k.toNat 0).any notThing)) (fun s => kn - (intOf s).toNat)
      case atStart => exact ⟨0, Nat.zero_le _, rfl, rfl⟩
      case round =>
        obtain ⟨j, hj, rfl, HK⟩ := hrel
        by_cases hjn : j < kn
        · obtain ⟨b3, off3, hx3, rfl, hb3, hc3, -, -⟩ := ints_get HRD.out hjn
          have e1 := HK.out
          rw [drop_cons hx3, List.any_cons] at e1
          generalize (ks.map fun k => ss.getD k.toNat 0)[j] = y at e1 hc3
          have hjI : (j : Int) < (kn : Int) := by omega
          cases hy : notThing y with
          | true =>
            rw [hy, Bool.true_or] at e1
            have HR0 : Hid ((0 : Int) = R) := by show _ = _; rw [← HRA.out, ← e1]; rfl
            have hy2 : (y != 4) = true := hy
            clear e1 hy HK hx3 hb3
            go_wp2_with fail
            go_ret
            exact ⟨ret_int HR0.out, HB.out.1⟩
          | false =>
            rw [hy, Bool.false_or] at e1
            have H1 := Lib.hid e1
            have hy2 : (y != 4) = false := hy
            clear e1 hy HK hx3 hb3
            go_wp2_with fail
            go_round
            case rel => exact ⟨j + 1, by omega, by go_num, H1⟩
            case measure => simp [intOf]; omega
        · obtain rfl : kn = j := by omega
          have e1 := HK.out
          rw [List.drop_of_length_le (by rw [HKL.out]; omega), List.any_nil] at e1
          have HR0 : Hid ((so : Int) = R) := by show _ = _; rw [← HRA.out, ← e1]; rfl
          clear e1 HK
          go_wp2_with fail
          go_quiet ((go_at_call 36; exact Calls.quiet_of (HDC.out _ (by first | exact HB.out.1 | exact below_drewN HB.out.1 _))))
          go_wp2_with fail
          go_ret
          exact ⟨ret_int HR0.out, below_drewN HB.out.1 _⟩
    · have q9 : (op == 9) = false := by rw [beq_eq_false_iff_ne]; exact h9
      have hWW : ∃ W : ByteArray, wantsF op = W := ⟨_, rfl⟩
      obtain ⟨W, hW⟩ := hWW
      have hpos : 0 < kn → 0 < W.size := fun h => by rw [← hW]; exact wants_pos ho1 ho2 h9 (HCO.out h9) (by rw [HKL.out]; exact h)
      have HW := Lib.hid hW
      have H9 := Lib.hid h9
      have HPS := Lib.hid hpos
      have hhd : ∃ h : Int, (ks.map fun k => ss.getD k.toNat 0).headD 0 = h := ⟨_, rfl⟩
      obtain ⟨hd0, hhd⟩ := hhd
      have HHD := Lib.hid hhd
      clear hW h9 hpos hhd
      go_wp2_with fail
      refine (wants_is _ W HW.out _ ho1 ho2).mono ?_
      rintro e Z ⟨rfl, hbZ⟩
      have hbz : Below w.heap.size w Z := HB.out.1.trans (hbZ.mono HB.out.1.size)
      have hn2 := HB.out.2.2.below hbZ (by omega)
      clear x0 x3 x4 a0 hz
      have x0 : Z.cell? ⟨w.heap.size + 1, 0, none⟩ = some (.int .i64 op) := hn2.cell 0
      have x3 : Z.cell? ⟨w.heap.size + 1, 3, none⟩ = some (.int .i64 dd) := hn2.cell 3
      have hz : w.heap.size + 1 < Z.heap.size := hn2.lt
      have HRD := Lib.hid (show IntsB Z Z.heap.size A5 kn (ks.map fun k => ss.getD k.toNat 0) from HRD.out.below stays_int hbZ hbZ.size)
      have HBZ := Lib.hid hbz
      clear hn2 hbz hbZ HB
      go_wp2_with fail
      go_loopw [12] (fun s12 wr => ∃ k : Nat, k ≤ kn ∧ s12 = .int .i64 k ∧ Hid (okL W hd0 k ((ks.map fun k => ss.getD k.toNat 0).drop k) = okL W hd0 0 (ks.map fun k => ss.getD k.toNat 0)) ∧ ∃ m, wr = Z.drewN m) (fun s12 _ => kn - (intOf s12).toNat)
      case atStart => exact ⟨0, Nat.zero_le _, rfl, rfl, 0, rfl⟩
      case round =>
        obtain ⟨k, hk, rfl, HK, m, rfl⟩ := hrel
        by_cases hlt : k < kn
        · obtain ⟨b3, off3, hx3, he3, hb3, hc3, -, -⟩ := ints_get HRD.out hlt
          obtain ⟨b5, off5, hx5, rfl, hb5, hc5', -, -⟩ := ints_get HRD.out (show 0 < kn by omega)
          simp only [Option.some.injEq, Addr.mk.injEq, and_true] at he3
          obtain ⟨rfl, rfl⟩ := he3
          have e1 := HK.out
          rw [drop_cons hx3] at e1
          have hh0 : (ks.map fun k => ss.getD k.toNat 0)[0] = hd0 := by rw [← HHD.out]; exact head_get hx5
          rw [hh0, Nat.add_zero] at hc5'
          have hW0 : 0 < W.size := HPS.out (by omega)
          generalize (ks.map fun k => ss.getD k.toNat 0)[k] = sv at e1 hc3
          have hkI2 : (k : Int) < (kn : Int) := by omega
          clear HK hx3 hb3 hx5 hh0
          rcases Nat.lt_or_ge k W.size with hkW | hkW
          · cases q42 : ((W[k].toNat : Int) != 42) with
            | true =>
              have hlet := letter_A hkW q42
              rw [okL, okOne, hlet] at e1
              cases hb1 : fitsF (W[k].toNat : Int) sv with
              | false =>
                rw [hb1, Bool.false_and, Bool.false_and] at e1
                have HF := Lib.hid (fits_is (W[k].toNat : Int) sv _ hb1)
                clear hb1 hlet
                have HR0 : Hid ((0 : Int) = R) := by
                  show _ = _
                  rw [← HRR.out, sortOfF, if_neg H9.out, HW.out, HHD.out, if_neg (by rw [← e1]; simp)]
                clear e1
                go_wp2_with fail
                go_quiet ((go_at_call 70; exact quiet_same2 HF.out))
                go_wp2_with fail
                go_ret
                exact ⟨ret_int HR0.out, (by first | exact below_drewN (below_drewN HBZ.out _) _ | exact below_drewN HBZ.out _)⟩
              | true =>
                rw [hb1, Bool.true_and] at e1
                have HF := Lib.hid (fits_is (W[k].toNat : Int) sv _ hb1)
                clear hb1 hlet
                cases hb2 : ((W[k].toNat : Int) == 119) with
                | false =>
                  rw [hb2, Bool.false_and, Bool.not_false, Bool.true_and] at e1
                  have H1 := Lib.hid e1
                  clear e1
                  go_wp2_with fail
                  go_quiet ((go_at_call 70; exact quiet_same2 HF.out))
                  go_wp2_with fail
                  go_roundw
                  case rel => exact ⟨k + 1, by omega, by go_num, H1, _, rfl⟩
                  case measure => simp [intOf]; omega
                | true =>
                  rw [hb2, Bool.true_and] at e1
                  cases hb3 : (sv != hd0) with
                  | true =>
                    rw [hb3, Bool.not_true, Bool.false_and] at e1
                    have HR0 : Hid ((0 : Int) = R) := by
                      show _ = _
                      rw [← HRR.out, sortOfF, if_neg H9.out, HW.out, HHD.out, if_neg (by rw [← e1]; simp)]
                    clear e1
                    go_wp2_with fail
                    go_quiet ((go_at_call 70; exact quiet_same2 HF.out))
                    go_wp2_with fail
                    go_ret
                    exact ⟨ret_int HR0.out, (by first | exact below_drewN (below_drewN HBZ.out _) _ | exact below_drewN HBZ.out _)⟩
                  | false =>
                    rw [hb3, Bool.not_false, Bool.true_and] at e1
                    have H1 := Lib.hid e1
                    clear e1
                    go_wp2_with fail
                    go_quiet ((go_at_call 70; exact quiet_same2 HF.out))
                    go_wp2_with fail
                    go_roundw
                    case rel => exact ⟨k + 1, by omega, by go_num, H1, _, rfl⟩
                    case measure => simp [intOf]; omega
            | false =>
              have hlet := letter_B hkW q42 hW0
              rw [okL, okOne, hlet] at e1
              cases hb1 : fitsF (W[0].toNat : Int) sv with
              | false =>
                rw [hb1, Bool.false_and, Bool.false_and] at e1
                have HF := Lib.hid (fits_is (W[0].toNat : Int) sv _ hb1)
                clear hb1 hlet
                have HR0 : Hid ((0 : Int) = R) := by
                  show _ = _
                  rw [← HRR.out, sortOfF, if_neg H9.out, HW.out, HHD.out, if_neg (by rw [← e1]; simp)]
                clear e1
                go_wp2_with fail
                go_quiet ((go_at_call 70; exact quiet_same2 HF.out))
                go_wp2_with fail
                go_ret
                exact ⟨ret_int HR0.out, (by first | exact below_drewN (below_drewN HBZ.out _) _ | exact below_drewN HBZ.out _)⟩
              | true =>
                rw [hb1, Bool.true_and] at e1
                have HF := Lib.hid (fits_is (W[0].toNat : Int) sv _ hb1)
                clear hb1 hlet
                cases hb2 : ((W[0].toNat : Int) == 119) with
                | false =>
                  rw [hb2, Bool.false_and, Bool.not_false, Bool.true_and] at e1
                  have H1 := Lib.hid e1
                  clear e1
                  go_wp2_with fail
                  go_quiet ((go_at_call 70; exact quiet_same2 HF.out))
                  go_wp2_with fail
                  go_roundw
                  case rel => exact ⟨k + 1, by omega, by go_num, H1, _, rfl⟩
                  case measure => simp [intOf]; omega
                | true =>
                  rw [hb2, Bool.true_and] at e1
                  cases hb3 : (sv != hd0) with
                  | true =>
                    rw [hb3, Bool.not_true, Bool.false_and] at e1
                    have HR0 : Hid ((0 : Int) = R) := by
                      show _ = _
                      rw [← HRR.out, sortOfF, if_neg H9.out, HW.out, HHD.out, if_neg (by rw [← e1]; simp)]
                    clear e1
                    go_wp2_with fail
                    go_quiet ((go_at_call 70; exact quiet_same2 HF.out))
                    go_wp2_with fail
                    go_ret
                    exact ⟨ret_int HR0.out, (by first | exact below_drewN (below_drewN HBZ.out _) _ | exact below_drewN HBZ.out _)⟩
                  | false =>
                    rw [hb3, Bool.not_false, Bool.true_and] at e1
                    have H1 := Lib.hid e1
                    clear e1
                    go_wp2_with fail
                    go_quiet ((go_at_call 70; exact quiet_same2 HF.out))
                    go_wp2_with fail
                    go_roundw
                    case rel => exact ⟨k + 1, by omega, by go_num, H1, _, rfl⟩
                    case measure => simp [intOf]; omega
          · have hC := trivial
            clear hC
            have hlet := letter_C hkW hW0
            rw [okL, okOne, hlet] at e1
            cases hb1 : fitsF (W[0].toNat : Int) sv with
            | false =>
              rw [hb1, Bool.false_and, Bool.false_and] at e1
              have HF := Lib.hid (fits_is (W[0].toNat : Int) sv _ hb1)
              clear hb1 hlet
              have HR0 : Hid ((0 : Int) = R) := by
                show _ = _
                rw [← HRR.out, sortOfF, if_neg H9.out, HW.out, HHD.out, if_neg (by rw [← e1]; simp)]
              clear e1
              go_wp2_with fail
              go_quiet ((go_at_call 70; exact quiet_same2 HF.out))
              go_wp2_with fail
              go_ret
              exact ⟨ret_int HR0.out, (by first | exact below_drewN (below_drewN HBZ.out _) _ | exact below_drewN HBZ.out _)⟩
            | true =>
              rw [hb1, Bool.true_and] at e1
              have HF := Lib.hid (fits_is (W[0].toNat : Int) sv _ hb1)
              clear hb1 hlet
              cases hb2 : ((W[0].toNat : Int) == 119) with
              | false =>
                rw [hb2, Bool.false_and, Bool.not_false, Bool.true_and] at e1
                have H1 := Lib.hid e1
                clear e1
                go_wp2_with fail
                go_quiet ((go_at_call 70; exact quiet_same2 HF.out))
                go_wp2_with fail
                go_roundw
                case rel => exact ⟨k + 1, by omega, by go_num, H1, _, rfl⟩
                case measure => simp [intOf]; omega
              | true =>
                rw [hb2, Bool.true_and] at e1
                cases hb3 : (sv != hd0) with
                | true =>
                  rw [hb3, Bool.not_true, Bool.false_and] at e1
                  have HR0 : Hid ((0 : Int) = R) := by
                    show _ = _
                    rw [← HRR.out, sortOfF, if_neg H9.out, HW.out, HHD.out, if_neg (by rw [← e1]; simp)]
                  clear e1
                  go_wp2_with fail
                  go_quiet ((go_at_call 70; exact quiet_same2 HF.out))
                  go_wp2_with fail
                  go_ret
                  exact ⟨ret_int HR0.out, (by first | exact below_drewN (below_drewN HBZ.out _) _ | exact below_drewN HBZ.out _)⟩
                | false =>
                  rw [hb3, Bool.not_false, Bool.true_and] at e1
                  have H1 := Lib.hid e1
                  clear e1
                  go_wp2_with fail
                  go_quiet ((go_at_call 70; exact quiet_same2 HF.out))
                  go_wp2_with fail
                  go_roundw
                  case rel => exact ⟨k + 1, by omega, by go_num, H1, _, rfl⟩
                  case measure => simp [intOf]; omega
        · obtain rfl : kn = k := by omega
          have e1 := HK.out
          rw [List.drop_of_length_le (by rw [HKL.out]; omega), okL] at e1
          have HE : Hid (endF op dd (ks.map fun k => ss.getD k.toNat 0) = R) := by
            show _ = _
            rw [← HRR.out, sortOfF, if_neg H9.out, HW.out, HHD.out, ← e1]
            rfl
          have H9x := H9
          clear e1 HK HW HPS HHD H9 q9
          clear ho1 ho2 hkI _hns hk8
          rcases HOPS.out with h | h | h | h | h | h | h | h | h | h | h | h | h | h | h | h | h | h | h | h | h | h | h | h | h
          · have HQ := Lib.hid h
            have q7 : (op == 7) = false := by rw [h]; rfl
            have q8 : (op == 8) = false := by rw [h]; rfl
            have q10 : (op == 10) = false := by rw [h]; rfl
            have q11 : (op == 11) = false := by rw [h]; rfl
            have q12 : (op == 12) = false := by rw [h]; rfl
            have q15 : (op == 15) = false := by rw [h]; rfl
            have q16 : (op == 16) = false := by rw [h]; rfl
            have q17 : (op == 17) = false := by rw [h]; rfl
            have q18 : (op == 18) = false := by rw [h]; rfl
            have q19 : (op == 19) = false := by rw [h]; rfl
            have q20 : (op == 20) = false := by rw [h]; rfl
            have q21 : (op == 21) = false := by rw [h]; rfl
            have q23 : (op == 23) = false := by rw [h]; rfl
            have q24 : (op == 24) = false := by rw [h]; rfl
            have q25 : (op == 25) = false := by rw [h]; rfl
            clear h
            have HE2 : Hid ((1 : Int) = R) := by show _ = _; rw [← HE.out, HQ.out]; simp [endF]
            go_wp2_with fail
            go_ret
            exact ⟨ret_int (HE2.out), (by first | exact HBZ.out | exact below_drewN HBZ.out _ | exact below_drewN (below_drewN HBZ.out _) _)⟩
          · have HQ := Lib.hid h
            have q7 : (op == 7) = false := by rw [h]; rfl
            have q8 : (op == 8) = false := by rw [h]; rfl
            have q10 : (op == 10) = false := by rw [h]; rfl
            have q11 : (op == 11) = false := by rw [h]; rfl
            have q12 : (op == 12) = false := by rw [h]; rfl
            have q15 : (op == 15) = false := by rw [h]; rfl
            have q16 : (op == 16) = false := by rw [h]; rfl
            have q17 : (op == 17) = false := by rw [h]; rfl
            have q18 : (op == 18) = false := by rw [h]; rfl
            have q19 : (op == 19) = false := by rw [h]; rfl
            have q20 : (op == 20) = false := by rw [h]; rfl
            have q21 : (op == 21) = false := by rw [h]; rfl
            have q23 : (op == 23) = false := by rw [h]; rfl
            have q24 : (op == 24) = false := by rw [h]; rfl
            have q25 : (op == 25) = false := by rw [h]; rfl
            clear h
            have HE2 : Hid ((1 : Int) = R) := by show _ = _; rw [← HE.out, HQ.out]; simp [endF]
            go_wp2_with fail
            go_ret
            exact ⟨ret_int (HE2.out), (by first | exact HBZ.out | exact below_drewN HBZ.out _ | exact below_drewN (below_drewN HBZ.out _) _)⟩
          · have HQ := Lib.hid h
            have q7 : (op == 7) = false := by rw [h]; rfl
            have q8 : (op == 8) = false := by rw [h]; rfl
            have q10 : (op == 10) = false := by rw [h]; rfl
            have q11 : (op == 11) = false := by rw [h]; rfl
            have q12 : (op == 12) = false := by rw [h]; rfl
            have q15 : (op == 15) = false := by rw [h]; rfl
            have q16 : (op == 16) = false := by rw [h]; rfl
            have q17 : (op == 17) = false := by rw [h]; rfl
            have q18 : (op == 18) = false := by rw [h]; rfl
            have q19 : (op == 19) = false := by rw [h]; rfl
            have q20 : (op == 20) = false := by rw [h]; rfl
            have q21 : (op == 21) = false := by rw [h]; rfl
            have q23 : (op == 23) = false := by rw [h]; rfl
            have q24 : (op == 24) = false := by rw [h]; rfl
            have q25 : (op == 25) = false := by rw [h]; rfl
            clear h
            have HE2 : Hid ((1 : Int) = R) := by show _ = _; rw [← HE.out, HQ.out]; simp [endF]
            go_wp2_with fail
            go_ret
            exact ⟨ret_int (HE2.out), (by first | exact HBZ.out | exact below_drewN HBZ.out _ | exact below_drewN (below_drewN HBZ.out _) _)⟩
          · have HQ := Lib.hid h
            have q7 : (op == 7) = false := by rw [h]; rfl
            have q8 : (op == 8) = false := by rw [h]; rfl
            have q10 : (op == 10) = false := by rw [h]; rfl
            have q11 : (op == 11) = false := by rw [h]; rfl
            have q12 : (op == 12) = false := by rw [h]; rfl
            have q15 : (op == 15) = false := by rw [h]; rfl
            have q16 : (op == 16) = false := by rw [h]; rfl
            have q17 : (op == 17) = false := by rw [h]; rfl
            have q18 : (op == 18) = false := by rw [h]; rfl
            have q19 : (op == 19) = false := by rw [h]; rfl
            have q20 : (op == 20) = false := by rw [h]; rfl
            have q21 : (op == 21) = false := by rw [h]; rfl
            have q23 : (op == 23) = false := by rw [h]; rfl
            have q24 : (op == 24) = false := by rw [h]; rfl
            have q25 : (op == 25) = false := by rw [h]; rfl
            clear h
            have HE2 : Hid ((1 : Int) = R) := by show _ = _; rw [← HE.out, HQ.out]; simp [endF]
            go_wp2_with fail
            go_ret
            exact ⟨ret_int (HE2.out), (by first | exact HBZ.out | exact below_drewN HBZ.out _ | exact below_drewN (below_drewN HBZ.out _) _)⟩
          · have HQ := Lib.hid h
            have q7 : (op == 7) = false := by rw [h]; rfl
            have q8 : (op == 8) = false := by rw [h]; rfl
            have q10 : (op == 10) = false := by rw [h]; rfl
            have q11 : (op == 11) = false := by rw [h]; rfl
            have q12 : (op == 12) = false := by rw [h]; rfl
            have q15 : (op == 15) = false := by rw [h]; rfl
            have q16 : (op == 16) = false := by rw [h]; rfl
            have q17 : (op == 17) = false := by rw [h]; rfl
            have q18 : (op == 18) = false := by rw [h]; rfl
            have q19 : (op == 19) = false := by rw [h]; rfl
            have q20 : (op == 20) = false := by rw [h]; rfl
            have q21 : (op == 21) = false := by rw [h]; rfl
            have q23 : (op == 23) = false := by rw [h]; rfl
            have q24 : (op == 24) = false := by rw [h]; rfl
            have q25 : (op == 25) = false := by rw [h]; rfl
            clear h
            have HE2 : Hid ((1 : Int) = R) := by show _ = _; rw [← HE.out, HQ.out]; simp [endF]
            go_wp2_with fail
            go_ret
            exact ⟨ret_int (HE2.out), (by first | exact HBZ.out | exact below_drewN HBZ.out _ | exact below_drewN (below_drewN HBZ.out _) _)⟩
          · have HQ := Lib.hid h
            have q7 : (op == 7) = false := by rw [h]; rfl
            have q8 : (op == 8) = false := by rw [h]; rfl
            have q10 : (op == 10) = false := by rw [h]; rfl
            have q11 : (op == 11) = false := by rw [h]; rfl
            have q12 : (op == 12) = false := by rw [h]; rfl
            have q15 : (op == 15) = false := by rw [h]; rfl
            have q16 : (op == 16) = false := by rw [h]; rfl
            have q17 : (op == 17) = false := by rw [h]; rfl
            have q18 : (op == 18) = false := by rw [h]; rfl
            have q19 : (op == 19) = false := by rw [h]; rfl
            have q20 : (op == 20) = false := by rw [h]; rfl
            have q21 : (op == 21) = false := by rw [h]; rfl
            have q23 : (op == 23) = false := by rw [h]; rfl
            have q24 : (op == 24) = false := by rw [h]; rfl
            have q25 : (op == 25) = false := by rw [h]; rfl
            clear h
            have HE2 : Hid ((1 : Int) = R) := by show _ = _; rw [← HE.out, HQ.out]; simp [endF]
            go_wp2_with fail
            go_ret
            exact ⟨ret_int (HE2.out), (by first | exact HBZ.out | exact below_drewN HBZ.out _ | exact below_drewN (below_drewN HBZ.out _) _)⟩
          · have HQ := Lib.hid h
            have q7 : (op == 7) = true := by rw [h]; rfl
            clear h
            obtain ⟨a, a2, a3, ha⟩ := len3 (ks := (ks.map fun k => ss.getD k.toNat 0)) (by have := HCO.out (by rw [HQ.out]; decide); rw [HQ.out] at this; simpa [CountOk, kidsF] using this)
            have he : ∀ p q : Bool, (a2 != a3) = p → (a2 == 5) = q → (if p || q then (0 : Int) else a2) = R := fun p q hp hq => by
              rw [← HE.out, ha, HQ.out]; subst hp; subst hq
              by_cases e1 : a2 = a3 <;> by_cases e2 : a2 = 5 <;> simp [endF, e1, e2]
            have hr := HRD.out
            have hl := HKL.out
            rw [ha] at hr hl
            obtain rfl : 3 = kn := hl
            obtain ⟨b, off, rfl, hb, k0, k1, k2⟩ := ints_three hr
            clear ha hr
            cases hp : (a2 != a3) <;> cases hq : (a2 == 5)
            all_goals
              have HE2 := Lib.hid (he _ _ hp hq)
              clear he
              go_wp2_with fail
              go_quiet (fail)
              go_wp2_with fail
              go_ret
              exact ⟨ret_int (HE2.out), (by first | exact HBZ.out | exact below_drewN HBZ.out _ | exact below_drewN (below_drewN HBZ.out _) _)⟩
          · have HQ := Lib.hid h
            have q7 : (op == 7) = false := by rw [h]; rfl
            have q8 : (op == 8) = true := by rw [h]; rfl
            clear h
            obtain ⟨a, a2, ha⟩ := len2 (ks := (ks.map fun k => ss.getD k.toNat 0)) (by have := HCO.out (by rw [HQ.out]; decide); rw [HQ.out] at this; simpa [CountOk, kidsF] using this)
            have he : ∀ na nb p q u : Bool, numS a = na → numS a2 = nb → (a != a2) = p → (a != 4) = q → wordB a = u → (if !(na && nb) && (p || (q && !u)) then (0 : Int) else 1) = R := fun na nb p q u h1 h2 h3 h4 h5 => by
              rw [← HE.out, ha, HQ.out]; subst h1; subst h2; subst h3; subst h4; subst h5
              simp [endF]
            have hwb : ∀ u : Bool, wordB a = u → ∃ v : Int, wbits a = v ∧ (v == 0) = !u := fun u hu => by
              subst hu
              refine ⟨_, rfl, ?_⟩
              cases h : wordB a with
              | false => rw [wbits_zero.2 h]; rfl
              | true => simp [wbits, wordB] at h ⊢; omega
            have hr := HRD.out
            have hl := HKL.out
            rw [ha] at hr hl
            obtain rfl : 2 = kn := hl
            obtain ⟨b, off, rfl, hb, k0, k1⟩ := ints_two hr
            clear ha hr
            have he3 : ∀ na nb : Bool, numS a = na → numS a2 = nb → (na && nb) = false → ∀ p : Bool, (a != a2) = p → (p = true → (0 : Int) = R) ∧ (p = false → ∀ q : Bool, (a != 4) = q → (q = false → (1 : Int) = R) ∧ (q = true → ∀ u : Bool, wordB a = u → (if u then (1 : Int) else 0) = R)) := fun na nb h1 h2 hn p h3 => by
              refine ⟨fun e => ?_, fun e q h4 => ⟨fun e2 => ?_, fun e2 u h5 => ?_⟩⟩
              · rw [← he na nb p _ _ h1 h2 h3 rfl rfl, hn, e]; simp
              · rw [← he na nb p q _ h1 h2 h3 h4 rfl, hn, e, e2]; simp
              · rw [← he na nb p q u h1 h2 h3 h4 h5, hn, e, e2]; cases u <;> simp
            have hq1 : (numS a = false ∨ (numS a = true ∧ numS a2 = false)) ∨ (numS a = true ∧ numS a2 = true) := by
              cases numS a <;> cases numS a2 <;> simp
            have HN1 := Lib.hid (fun b h => isNumber_is a b h)
            have HN2 := Lib.hid (fun b h => isNumber_is a2 b h)
            rcases hq1 with hq1 | ⟨h1, h2⟩
            · have hrs : ∀ p : Bool, (a != a2) = p → (p = true → (0 : Int) = R) ∧ (p = false → ∀ q : Bool, (a != 4) = q → (q = false → (1 : Int) = R) ∧ (q = true → ∀ u : Bool, wordB a = u → (if u then (1 : Int) else 0) = R)) := by
                rcases hq1 with h1 | ⟨h1, h2⟩
                · exact he3 false _ h1 rfl rfl
                · exact he3 true false h1 h2 rfl
              clear he he3
              have hwalk : ∀ (r : Int) (hr : r = R), (((a != a2) = true ∧ r = 0) ∨ (((a != a2) = false ∧ (a != 4) = false) ∧ r = 1) ∨ (∃ v : Int, ((a != a2) = false ∧ (a != 4) = true) ∧ wbits a = v ∧ (((v == 0) = true ∧ r = 0) ∨ ((v == 0) = false ∧ r = 1)))) := fun r hr => by
                subst hr
                cases h3 : (a != a2) with
                | true => exact .inl ⟨rfl, ((hrs _ h3).1 rfl).symm⟩
                | false =>
                  cases h4 : (a != 4) with
                  | false => exact .inr (.inl ⟨⟨rfl, rfl⟩, (((hrs _ h3).2 rfl _ h4).1 rfl).symm⟩)
                  | true =>
                    cases h5 : wordB a with
                    | false =>
                      obtain ⟨v, hv, hv0⟩ := hwb _ h5
                      exact .inr (.inr ⟨v, ⟨rfl, rfl⟩, hv, .inl ⟨hv0, ((((hrs _ h3).2 rfl _ h4).2 rfl) _ h5).symm⟩⟩)
                    | true =>
                      obtain ⟨v, hv, hv0⟩ := hwb _ h5
                      exact .inr (.inr ⟨v, ⟨rfl, rfl⟩, hv, .inr ⟨hv0, ((((hrs _ h3).2 rfl _ h4).2 rfl) _ h5).symm⟩⟩)
              have hw2 := hwalk R rfl
              clear hwalk hrs hwb
              rcases hq1 with h1 | ⟨h1, h2⟩
              all_goals
                rcases hw2 with ⟨c3, hr⟩ | ⟨⟨c3, c4⟩, hr⟩ | ⟨v, ⟨c3, c4⟩, hv, ⟨hv0, hr⟩ | ⟨hv0, hr⟩⟩
              all_goals
                have HE2 := Lib.hid hr.symm
                have HM1 := Lib.hid (HN1.out _ h1)
                first
                  | have HM2 := Lib.hid (HN2.out _ h2)
                  | have HM2 := Lib.hid trivial
                first
                  | have HV := Lib.hid (wordBits_is a _ hv)
                  | have HV := Lib.hid trivial
                clear hr h1
                try clear h2
                try clear hv
                go_wp2_with fail
                go_quiet ((first | (go_at_call 27; exact quiet_same2 HV.out) | (go_at_call 71; first | with_reducible exact quiet_same2 HM1.out | with_reducible exact quiet_same2 HM2.out)))
                go_wp2_with fail
                go_ret
                exact ⟨ret_int (HE2.out), (by first | exact HBZ.out | exact below_drewN HBZ.out _ | exact below_drewN (below_drewN HBZ.out _) _)⟩
            · have HE2 : Hid ((1 : Int) = R) := by show _ = _; rw [← he true true _ _ _ h1 h2 rfl rfl rfl]; simp
              have HM1 := Lib.hid (HN1.out _ h1)
              have HM2 := Lib.hid (HN2.out _ h2)
              clear he he3 hwb h1 h2
              go_wp2_with fail
              go_quiet ((first | (go_at_call 71; first | with_reducible exact quiet_same2 HM1.out | with_reducible exact quiet_same2 HM2.out)))
              go_wp2_with fail
              go_ret
              exact ⟨ret_int (HE2.out), (by first | exact HBZ.out | exact below_drewN HBZ.out _ | exact below_drewN (below_drewN HBZ.out _) _)⟩
          · exact absurd h H9x.out
          · have HQ := Lib.hid h
            have q7 : (op == 7) = false := by rw [h]; rfl
            have q8 : (op == 8) = false := by rw [h]; rfl
            have q10 : (op == 10) = true := by rw [h]; rfl
            clear h
            have he : ∀ q : Bool, decide (dd ≤ 1) = q → (if ib && q then (2 : Int) else 3) = R := fun q hq => by rw [← HE.out, endF_num (.inl HQ.out), HIB.out]; subst hq; simp
            cases ib <;> cases hq : decide (dd ≤ 1)
            all_goals
              have HE2 := Lib.hid (he _ hq)
              clear he
              go_wp2_with fail
              go_ret
              exact ⟨ret_int (HE2.out), (by first | exact HBZ.out | exact below_drewN HBZ.out _ | exact below_drewN (below_drewN HBZ.out _) _)⟩
          · have HQ := Lib.hid h
            have q7 : (op == 7) = false := by rw [h]; rfl
            have q8 : (op == 8) = false := by rw [h]; rfl
            have q10 : (op == 10) = false := by rw [h]; rfl
            have q11 : (op == 11) = true := by rw [h]; rfl
            clear h
            have he : ∀ q : Bool, decide (dd ≤ 1) = q → (if ib && q then (2 : Int) else 3) = R := fun q hq => by rw [← HE.out, endF_num (.inr (.inl HQ.out)), HIB.out]; subst hq; simp
            cases ib <;> cases hq : decide (dd ≤ 1)
            all_goals
              have HE2 := Lib.hid (he _ hq)
              clear he
              go_wp2_with fail
              go_ret
              exact ⟨ret_int (HE2.out), (by first | exact HBZ.out | exact below_drewN HBZ.out _ | exact below_drewN (below_drewN HBZ.out _) _)⟩
          · have HQ := Lib.hid h
            have q7 : (op == 7) = false := by rw [h]; rfl
            have q8 : (op == 8) = false := by rw [h]; rfl
            have q10 : (op == 10) = false := by rw [h]; rfl
            have q11 : (op == 11) = false := by rw [h]; rfl
            have q12 : (op == 12) = true := by rw [h]; rfl
            clear h
            have he : ∀ q : Bool, decide (dd ≤ 1) = q → (if ib && q then (2 : Int) else 3) = R := fun q hq => by rw [← HE.out, endF_num (.inr (.inr HQ.out)), HIB.out]; subst hq; simp
            cases ib <;> cases hq : decide (dd ≤ 1)
            all_goals
              have HE2 := Lib.hid (he _ hq)
              clear he
              go_wp2_with fail
              go_ret
              exact ⟨ret_int (HE2.out), (by first | exact HBZ.out | exact below_drewN HBZ.out _ | exact below_drewN (below_drewN HBZ.out _) _)⟩
          · have HQ := Lib.hid h
            have q7 : (op == 7) = false := by rw [h]; rfl
            have q8 : (op == 8) = false := by rw [h]; rfl
            have q10 : (op == 10) = false := by rw [h]; rfl
            have q11 : (op == 11) = false := by rw [h]; rfl
            have q12 : (op == 12) = false := by rw [h]; rfl
            have q15 : (op == 15) = false := by rw [h]; rfl
            have q16 : (op == 16) = false := by rw [h]; rfl
            have q17 : (op == 17) = false := by rw [h]; rfl
            have q18 : (op == 18) = false := by rw [h]; rfl
            have q19 : (op == 19) = false := by rw [h]; rfl
            have q20 : (op == 20) = false := by rw [h]; rfl
            have q21 : (op == 21) = false := by rw [h]; rfl
            have q23 : (op == 23) = false := by rw [h]; rfl
            have q24 : (op == 24) = false := by rw [h]; rfl
            have q25 : (op == 25) = false := by rw [h]; rfl
            clear h
            have HE2 : Hid ((1 : Int) = R) := by show _ = _; rw [← HE.out, HQ.out]; simp [endF]
            go_wp2_with fail
            go_ret
            exact ⟨ret_int (HE2.out), (by first | exact HBZ.out | exact below_drewN HBZ.out _ | exact below_drewN (below_drewN HBZ.out _) _)⟩
          · have HQ := Lib.hid h
            have q7 : (op == 7) = false := by rw [h]; rfl
            have q8 : (op == 8) = false := by rw [h]; rfl
            have q10 : (op == 10) = false := by rw [h]; rfl
            have q11 : (op == 11) = false := by rw [h]; rfl
            have q12 : (op == 12) = false := by rw [h]; rfl
            have q15 : (op == 15) = false := by rw [h]; rfl
            have q16 : (op == 16) = false := by rw [h]; rfl
            have q17 : (op == 17) = false := by rw [h]; rfl
            have q18 : (op == 18) = false := by rw [h]; rfl
            have q19 : (op == 19) = false := by rw [h]; rfl
            have q20 : (op == 20) = false := by rw [h]; rfl
            have q21 : (op == 21) = false := by rw [h]; rfl
            have q23 : (op == 23) = false := by rw [h]; rfl
            have q24 : (op == 24) = false := by rw [h]; rfl
            have q25 : (op == 25) = false := by rw [h]; rfl
            clear h
            have HE2 : Hid ((1 : Int) = R) := by show _ = _; rw [← HE.out, HQ.out]; simp [endF]
            go_wp2_with fail
            go_ret
            exact ⟨ret_int (HE2.out), (by first | exact HBZ.out | exact below_drewN HBZ.out _ | exact below_drewN (below_drewN HBZ.out _) _)⟩
          · have HQ := Lib.hid h
            have q7 : (op == 7) = false := by rw [h]; rfl
            have q8 : (op == 8) = false := by rw [h]; rfl
            have q10 : (op == 10) = false := by rw [h]; rfl
            have q11 : (op == 11) = false := by rw [h]; rfl
            have q12 : (op == 12) = false := by rw [h]; rfl
            have q15 : (op == 15) = true := by rw [h]; rfl
            clear h
            have HE2 : Hid ((10 + dd : Int) = R) := by show _ = _; rw [← HE.out, HQ.out]; simp [endF]
            obtain ⟨hd1, hd8⟩ := H15.out HQ.out
            go_wp2_with fail
            go_ret
            exact ⟨ret_int (HE2.out), (by first | exact HBZ.out | exact below_drewN HBZ.out _ | exact below_drewN (below_drewN HBZ.out _) _)⟩
          · have HQ := Lib.hid h
            have q7 : (op == 7) = false := by rw [h]; rfl
            have q8 : (op == 8) = false := by rw [h]; rfl
            have q10 : (op == 10) = false := by rw [h]; rfl
            have q11 : (op == 11) = false := by rw [h]; rfl
            have q12 : (op == 12) = false := by rw [h]; rfl
            have q15 : (op == 15) = false := by rw [h]; rfl
            have q16 : (op == 16) = true := by rw [h]; rfl
            clear h
            obtain ⟨a, ha⟩ := len1 (ks := (ks.map fun k => ss.getD k.toNat 0)) (by have := HCO.out (by rw [HQ.out]; decide); rw [HQ.out] at this; simpa [CountOk, kidsF] using this)
            have HE2 : Hid ((a : Int) = R) := by show _ = _; rw [← HE.out, ha, HQ.out]; simp [endF]
            have hr := HRD.out
            have hl := HKL.out
            rw [ha] at hr hl
            obtain rfl : 1 = kn := hl
            obtain ⟨b, off, rfl, hb, k0⟩ := ints_one hr
            clear ha hr
            go_wp2_with fail
            go_ret
            exact ⟨ret_int (HE2.out), (by first | exact HBZ.out | exact below_drewN HBZ.out _ | exact below_drewN (below_drewN HBZ.out _) _)⟩
          · have HQ := Lib.hid h
            have q7 : (op == 7) = false := by rw [h]; rfl
            have q8 : (op == 8) = false := by rw [h]; rfl
            have q10 : (op == 10) = false := by rw [h]; rfl
            have q11 : (op == 11) = false := by rw [h]; rfl
            have q12 : (op == 12) = false := by rw [h]; rfl
            have q15 : (op == 15) = false := by rw [h]; rfl
            have q16 : (op == 16) = false := by rw [h]; rfl
            have q17 : (op == 17) = true := by rw [h]; rfl
            clear h
            obtain ⟨a, a2, ha⟩ := len2 (ks := (ks.map fun k => ss.getD k.toNat 0)) (by have := HCO.out (by rw [HQ.out]; decide); rw [HQ.out] at this; simpa [CountOk, kidsF] using this)
            have HE2 : Hid ((a : Int) = R) := by show _ = _; rw [← HE.out, ha, HQ.out]; simp [endF]
            have hr := HRD.out
            have hl := HKL.out
            rw [ha] at hr hl
            obtain rfl : 2 = kn := hl
            obtain ⟨b, off, rfl, hb, k0, k1⟩ := ints_two hr
            clear ha hr
            go_wp2_with fail
            go_ret
            exact ⟨ret_int (HE2.out), (by first | exact HBZ.out | exact below_drewN HBZ.out _ | exact below_drewN (below_drewN HBZ.out _) _)⟩
          · have HQ := Lib.hid h
            have q7 : (op == 7) = false := by rw [h]; rfl
            have q8 : (op == 8) = false := by rw [h]; rfl
            have q10 : (op == 10) = false := by rw [h]; rfl
            have q11 : (op == 11) = false := by rw [h]; rfl
            have q12 : (op == 12) = false := by rw [h]; rfl
            have q15 : (op == 15) = false := by rw [h]; rfl
            have q16 : (op == 16) = false := by rw [h]; rfl
            have q17 : (op == 17) = false := by rw [h]; rfl
            have q18 : (op == 18) = true := by rw [h]; rfl
            clear h
            obtain ⟨a, a2, ha⟩ := len2 (ks := (ks.map fun k => ss.getD k.toNat 0)) (by have := HCO.out (by rw [HQ.out]; decide); rw [HQ.out] at this; simpa [CountOk, kidsF] using this)
            have HE2 : Hid ((a : Int) = R) := by show _ = _; rw [← HE.out, ha, HQ.out]; simp [endF]
            have hr := HRD.out
            have hl := HKL.out
            rw [ha] at hr hl
            obtain rfl : 2 = kn := hl
            obtain ⟨b, off, rfl, hb, k0, k1⟩ := ints_two hr
            clear ha hr
            go_wp2_with fail
            go_ret
            exact ⟨ret_int (HE2.out), (by first | exact HBZ.out | exact below_drewN HBZ.out _ | exact below_drewN (below_drewN HBZ.out _) _)⟩
          · have HQ := Lib.hid h
            have q7 : (op == 7) = false := by rw [h]; rfl
            have q8 : (op == 8) = false := by rw [h]; rfl
            have q10 : (op == 10) = false := by rw [h]; rfl
            have q11 : (op == 11) = false := by rw [h]; rfl
            have q12 : (op == 12) = false := by rw [h]; rfl
            have q15 : (op == 15) = false := by rw [h]; rfl
            have q16 : (op == 16) = false := by rw [h]; rfl
            have q17 : (op == 17) = false := by rw [h]; rfl
            have q18 : (op == 18) = false := by rw [h]; rfl
            have q19 : (op == 19) = true := by rw [h]; rfl
            clear h
            obtain ⟨a, a2, ha⟩ := len2 (ks := (ks.map fun k => ss.getD k.toNat 0)) (by have := HCO.out (by rw [HQ.out]; decide); rw [HQ.out] at this; simpa [CountOk, kidsF] using this)
            have HE2 : Hid ((a : Int) = R) := by show _ = _; rw [← HE.out, ha, HQ.out]; simp [endF]
            have hr := HRD.out
            have hl := HKL.out
            rw [ha] at hr hl
            obtain rfl : 2 = kn := hl
            obtain ⟨b, off, rfl, hb, k0, k1⟩ := ints_two hr
            clear ha hr
            go_wp2_with fail
            go_ret
            exact ⟨ret_int (HE2.out), (by first | exact HBZ.out | exact below_drewN HBZ.out _ | exact below_drewN (below_drewN HBZ.out _) _)⟩
          · have HQ := Lib.hid h
            have q7 : (op == 7) = false := by rw [h]; rfl
            have q8 : (op == 8) = false := by rw [h]; rfl
            have q10 : (op == 10) = false := by rw [h]; rfl
            have q11 : (op == 11) = false := by rw [h]; rfl
            have q12 : (op == 12) = false := by rw [h]; rfl
            have q15 : (op == 15) = false := by rw [h]; rfl
            have q16 : (op == 16) = false := by rw [h]; rfl
            have q17 : (op == 17) = false := by rw [h]; rfl
            have q18 : (op == 18) = false := by rw [h]; rfl
            have q19 : (op == 19) = false := by rw [h]; rfl
            have q20 : (op == 20) = true := by rw [h]; rfl
            clear h
            obtain ⟨a, a2, ha⟩ := len2 (ks := (ks.map fun k => ss.getD k.toNat 0)) (by have := HCO.out (by rw [HQ.out]; decide); rw [HQ.out] at this; simpa [CountOk, kidsF] using this)
            have HE2 : Hid ((a : Int) = R) := by show _ = _; rw [← HE.out, ha, HQ.out]; simp [endF]
            have hr := HRD.out
            have hl := HKL.out
            rw [ha] at hr hl
            obtain rfl : 2 = kn := hl
            obtain ⟨b, off, rfl, hb, k0, k1⟩ := ints_two hr
            clear ha hr
            go_wp2_with fail
            go_ret
            exact ⟨ret_int (HE2.out), (by first | exact HBZ.out | exact below_drewN HBZ.out _ | exact below_drewN (below_drewN HBZ.out _) _)⟩
          · have HQ := Lib.hid h
            have q7 : (op == 7) = false := by rw [h]; rfl
            have q8 : (op == 8) = false := by rw [h]; rfl
            have q10 : (op == 10) = false := by rw [h]; rfl
            have q11 : (op == 11) = false := by rw [h]; rfl
            have q12 : (op == 12) = false := by rw [h]; rfl
            have q15 : (op == 15) = false := by rw [h]; rfl
            have q16 : (op == 16) = false := by rw [h]; rfl
            have q17 : (op == 17) = false := by rw [h]; rfl
            have q18 : (op == 18) = false := by rw [h]; rfl
            have q19 : (op == 19) = false := by rw [h]; rfl
            have q20 : (op == 20) = false := by rw [h]; rfl
            have q21 : (op == 21) = true := by rw [h]; rfl
            clear h
            obtain ⟨a, a2, ha⟩ := len2 (ks := (ks.map fun k => ss.getD k.toNat 0)) (by have := HCO.out (by rw [HQ.out]; decide); rw [HQ.out] at this; simpa [CountOk, kidsF] using this)
            have HE2 : Hid ((a : Int) = R) := by show _ = _; rw [← HE.out, ha, HQ.out]; simp [endF]
            have hr := HRD.out
            have hl := HKL.out
            rw [ha] at hr hl
            obtain rfl : 2 = kn := hl
            obtain ⟨b, off, rfl, hb, k0, k1⟩ := ints_two hr
            clear ha hr
            go_wp2_with fail
            go_ret
            exact ⟨ret_int (HE2.out), (by first | exact HBZ.out | exact below_drewN HBZ.out _ | exact below_drewN (below_drewN HBZ.out _) _)⟩
          · have HQ := Lib.hid h
            have q7 : (op == 7) = false := by rw [h]; rfl
            have q8 : (op == 8) = false := by rw [h]; rfl
            have q10 : (op == 10) = false := by rw [h]; rfl
            have q11 : (op == 11) = false := by rw [h]; rfl
            have q12 : (op == 12) = false := by rw [h]; rfl
            have q15 : (op == 15) = false := by rw [h]; rfl
            have q16 : (op == 16) = false := by rw [h]; rfl
            have q17 : (op == 17) = false := by rw [h]; rfl
            have q18 : (op == 18) = false := by rw [h]; rfl
            have q19 : (op == 19) = false := by rw [h]; rfl
            have q20 : (op == 20) = false := by rw [h]; rfl
            have q21 : (op == 21) = false := by rw [h]; rfl
            have q23 : (op == 23) = false := by rw [h]; rfl
            have q24 : (op == 24) = false := by rw [h]; rfl
            have q25 : (op == 25) = false := by rw [h]; rfl
            clear h
            have HE2 : Hid ((1 : Int) = R) := by show _ = _; rw [← HE.out, HQ.out]; simp [endF]
            go_wp2_with fail
            go_ret
            exact ⟨ret_int (HE2.out), (by first | exact HBZ.out | exact below_drewN HBZ.out _ | exact below_drewN (below_drewN HBZ.out _) _)⟩
          · have HQ := Lib.hid h
            have q7 : (op == 7) = false := by rw [h]; rfl
            have q8 : (op == 8) = false := by rw [h]; rfl
            have q10 : (op == 10) = false := by rw [h]; rfl
            have q11 : (op == 11) = false := by rw [h]; rfl
            have q12 : (op == 12) = false := by rw [h]; rfl
            have q15 : (op == 15) = false := by rw [h]; rfl
            have q16 : (op == 16) = false := by rw [h]; rfl
            have q17 : (op == 17) = false := by rw [h]; rfl
            have q18 : (op == 18) = false := by rw [h]; rfl
            have q19 : (op == 19) = false := by rw [h]; rfl
            have q20 : (op == 20) = false := by rw [h]; rfl
            have q21 : (op == 21) = false := by rw [h]; rfl
            have q23 : (op == 23) = true := by rw [h]; rfl
            clear h
            obtain ⟨a, ha⟩ := len1 (ks := (ks.map fun k => ss.getD k.toNat 0)) (by have := HCO.out (by rw [HQ.out]; decide); rw [HQ.out] at this; simpa [CountOk, kidsF] using this)
            have HE2 : Hid ((a : Int) = R) := by show _ = _; rw [← HE.out, ha, HQ.out]; simp [endF]
            have hr := HRD.out
            have hl := HKL.out
            rw [ha] at hr hl
            obtain rfl : 1 = kn := hl
            obtain ⟨b, off, rfl, hb, k0⟩ := ints_one hr
            clear ha hr
            go_wp2_with fail
            go_ret
            exact ⟨ret_int (HE2.out), (by first | exact HBZ.out | exact below_drewN HBZ.out _ | exact below_drewN (below_drewN HBZ.out _) _)⟩
          · have HQ := Lib.hid h
            have q7 : (op == 7) = false := by rw [h]; rfl
            have q8 : (op == 8) = false := by rw [h]; rfl
            have q10 : (op == 10) = false := by rw [h]; rfl
            have q11 : (op == 11) = false := by rw [h]; rfl
            have q12 : (op == 12) = false := by rw [h]; rfl
            have q15 : (op == 15) = false := by rw [h]; rfl
            have q16 : (op == 16) = false := by rw [h]; rfl
            have q17 : (op == 17) = false := by rw [h]; rfl
            have q18 : (op == 18) = false := by rw [h]; rfl
            have q19 : (op == 19) = false := by rw [h]; rfl
            have q20 : (op == 20) = false := by rw [h]; rfl
            have q21 : (op == 21) = false := by rw [h]; rfl
            have q23 : (op == 23) = false := by rw [h]; rfl
            have q24 : (op == 24) = true := by rw [h]; rfl
            clear h
            have HE2 : Hid ((4 : Int) = R) := by show _ = _; rw [← HE.out, HQ.out]; simp [endF]
            go_wp2_with fail
            go_ret
            exact ⟨ret_int (HE2.out), (by first | exact HBZ.out | exact below_drewN HBZ.out _ | exact below_drewN (below_drewN HBZ.out _) _)⟩
          · have HQ := Lib.hid h
            have q7 : (op == 7) = false := by rw [h]; rfl
            have q8 : (op == 8) = false := by rw [h]; rfl
            have q10 : (op == 10) = false := by rw [h]; rfl
            have q11 : (op == 11) = false := by rw [h]; rfl
            have q12 : (op == 12) = false := by rw [h]; rfl
            have q15 : (op == 15) = false := by rw [h]; rfl
            have q16 : (op == 16) = false := by rw [h]; rfl
            have q17 : (op == 17) = false := by rw [h]; rfl
            have q18 : (op == 18) = false := by rw [h]; rfl
            have q19 : (op == 19) = false := by rw [h]; rfl
            have q20 : (op == 20) = false := by rw [h]; rfl
            have q21 : (op == 21) = false := by rw [h]; rfl
            have q23 : (op == 23) = false := by rw [h]; rfl
            have q24 : (op == 24) = false := by rw [h]; rfl
            have q25 : (op == 25) = true := by rw [h]; rfl
            clear h
            have HE2 : Hid ((5 : Int) = R) := by show _ = _; rw [← HE.out, HQ.out]; simp [endF]
            go_wp2_with fail
            go_ret
            exact ⟨ret_int (HE2.out), (by first | exact HBZ.out | exact below_drewN HBZ.out _ | exact below_drewN (below_drewN HBZ.out _) _)⟩
end Go.Proofs.Ythooecojopfjbaa
