/- Walk: the reference's sorts of all nodes of an ask. -/
import Derived.Test.YtggkfepifnfdoaaGreatAskOU
import Derived.Test.YtggkfepifnfdoaaGreatAskKz
namespace Go.Proofs.YtggkfepifnfdoaaGreat
open Go.RowKit

/-- what is left of a node's rule, the kids' faults ahead -/
def kidsThen (ds : List DeclD) (ss : List Int) (x : NodeD) (kf : Int) : Int × Int :=
  if ¬ kf = 0 then (0, kf) else if ¬ fieldsF x.op x.n x.d x.name = 0 then (0, fieldsF x.op x.n x.d x.name) else if sortN ds ss x = 0 then (0, 8) else (sortN ds ss x, 0)
theorem nodeF_kids {ds : List DeclD} {i : Nat} {ss : List Int} {x : NodeD} (h1 : 1 ≤ x.op) (h2 : x.op ≤ 25) (h9 : x.op = 9 → 0 ≤ idx (nameIs x.name) ds 0) : nodeF ds i ss x = kidsThen ds ss x (kidsCode ds x i) := by
  rw [nodeF, if_neg (by omega), if_neg (by rintro ⟨h, h'⟩; have := h9 h; omega), kidsThen, kidsCode]
  by_cases hb : badCount ds x = true
  · rw [if_pos hb, if_pos hb, if_pos (by omega)]
  · rw [if_neg hb, if_neg hb]
    by_cases ha : x.kids.any (outside i) = true
    · rw [if_pos ha, if_pos ha, if_pos (by omega)]
    · rw [if_neg ha, if_neg ha, if_neg (show ¬ ¬ (0 : Int) = 0 by simp)]
theorem kidsCode_ok {ds : List DeclD} {x : NodeD} {i : Int} (h : kidsCode ds x i = 0) : badCount ds x = false ∧ x.kids.any (outside i) = false := by
  unfold kidsCode at h
  split at h
  · simp at h
  · split at h
    · simp at h
    · rename_i h1 h2
      exact ⟨by simpa using h1, by simpa using h2⟩
theorem outside_no {l : List Int} {i y : Int} (h : l.any (outside i) = false) (hy : y ∈ l) : 0 ≤ y ∧ y < i := by
  have := List.any_eq_false.1 h y hy
  simp only [outside, decide_eq_true_eq] at this
  omega
theorem fields_word {op n d : Int} {nm : ByteArray} (h : fieldsF op n d nm = 0) (h15 : op = 15) : 1 ≤ d ∧ d ≤ 8 := by
  unfold fieldsF at h
  split at h
  · simp at h
  · split at h
    · simp at h
    · rename_i hh
      rw [h15, numbersB, if_neg (by omega), if_pos rfl] at hh
      simp only [Bool.not_eq_false, decide_eq_true_eq] at hh
      exact ⟨hh.1, hh.2.1⟩
theorem op_bad {op : Int} (h : op < 1 ∨ 25 < op) : op < 1 ∨ (1 ≤ op ∧ 25 < op) := by omega
theorem k8_of {ds : List DeclD} {x : NodeD} {n : Nat} (h : badCount ds x = false) (hl : x.kids.length = n) : n ≤ 8 := by
  simp only [badCount, decide_eq_false_iff_not, not_or] at h
  have := h.2
  omega
theorem fields_is (op n d : Int) (A : Option Addr) (m c : Nat) (nm : ByteArray) (R : Int) (h : fieldsF op n d nm = R) (w : World) :
    Calls Tryz.prog 43 #[.agg #[.int .i64 op, .slice A m c, .int .i64 n, .int .i64 d, .string nm]] w fun e w' => e = .returned (.int .i64 R) ∧ Below w.heap.size w w' := by subst h; exact fields_any op n d A m c nm w

set_option maxRecDepth 100000 in
set_option maxHeartbeats 16000000 in
theorem askSorts_any (A1 A2 A3 : Option Addr) (n1 c1 n2 c2 n3 c3 : Nat) (a : AskD) (w : World) (ha : AskIn w w.heap.size A1 A2 A3 n1 n2 n3 a) :
    Calls Tryz.prog 16 #[.agg #[.slice A1 n1 c1, .slice A2 n2 c2, .slice A3 n3 c3]] w (SortsP w (sortsF a)) := by
  obtain ⟨hb0, hk0, hf0, hs0⟩ := two_boxes w 26 32 #[.slice A1 n1 c1, .slice A2 n2 c2, .slice A3 n3 c3] #[.int .i64 0, .int .i64 0]
  have hm1 := ha.m1
  have hm2 := ha.m2
  have hm3 := ha.m3
  have HL := Lib.hid (And.intro ha.decls.len (And.intro ha.nodes.len ha.hold.len))
  have hMK0 : ∀ W : World, Below (w.heap.size + 2) ((w.alloc (.cells #[.slice A1 n1 c1, .slice A2 n2 c2, .slice A3 n3 c3] 26)).alloc (.cells #[.int .i64 0, .int .i64 0] 32)) W → (Below w.heap.size w W ∧ Blk W w.heap.size 26 #[.slice A1 n1 c1, .slice A2 n2 c2, .slice A3 n3 c3] ∧ Blk W (w.heap.size + 1) 32 #[.int .i64 0, .int .i64 0] ∧ AskIn W w.heap.size A1 A2 A3 n1 n2 n3 a) := fun W hW =>
    have hbw : Below w.heap.size w W := hb0.trans (hW.mono (by omega))
    ⟨hbw, hk0.below hW (by omega), hf0.below hW (by omega), ha.below hbw (Nat.le_refl _)⟩
  have hm00 := hMK0 _ (Below.refl _ _)
  have MK0 := Lib.hid hMK0
  have HS0 := Lib.hid hs0
  obtain ⟨hbw0, hkw0, hfw0, -⟩ := hm00
  have HB0 := Lib.hid (And.intro hbw0 hfw0)
  clear ha hb0 hk0 hf0 hs0 hMK0
  go_enter Tryz.func16, Tryz.ntmps16
  go_upto_region 1 with fail
  generalize (w.alloc (.cells #[.slice A1 n1 c1, .slice A2 n2 c2, .slice A3 n3 c3] 26)).alloc (.cells #[.int .i64 0, .int .i64 0] 32) = X0 at MK0 HS0 HB0 hbw0 hkw0 hfw0 ⊢
  have b0 : X0.cell? ⟨w.heap.size, 0, none⟩ = some (.slice A1 n1 c1) := hkw0.cell 0
  have b1 : X0.cell? ⟨w.heap.size, 1, none⟩ = some (.slice A2 n2 c2) := hkw0.cell 1
  have b2 : X0.cell? ⟨w.heap.size, 2, none⟩ = some (.slice A3 n3 c3) := hkw0.cell 2
  have g0 : X0.cell? ⟨w.heap.size + 1, 0, none⟩ = some (.int .i64 0) := hfw0.cell 0
  have g1 : X0.cell? ⟨w.heap.size + 1, 1, none⟩ = some (.int .i64 0) := hfw0.cell 1
  have y0 : X0.frozen? ⟨w.heap.size + 1, 0, none⟩ = false := hfw0.frozen 0
  have y1 : X0.frozen? ⟨w.heap.size + 1, 1, none⟩ = false := hfw0.frozen 1
  have hz0 : w.heap.size + 1 < X0.heap.size := hfw0.lt
  have hs0 : w.heap.size + 2 ≤ X0.heap.size := by have := HS0.out; omega
  clear hbw0 hkw0 hfw0
  by_cases h30 : 30 < n1
  · have hq : declsF a.decls = (2, 0) := by rw [declsF, if_pos (by rw [HL.out.1]; exact h30)]
    have HS := Lib.hid (sortsF_decl hq (by omega))
    have h30I : (n1 : Int) > 30 := by omega
    have HB := Lib.hid HB0.out
    clear hq
    go_wp2_with fail
    clear g0 g1 y0 y1
    have hz1 := two_blk HB.out.2 (.int .i64 2) (.int .i64 0)
    have hz2 : Below w.heap.size w (two X0 (w.heap.size + 1) (.int .i64 2) (.int .i64 0)) := two_below (g := w.heap.size + 1) HB.out.1 (Nat.le_succ _) (.int .i64 2) (.int .i64 0)
    have hz3 := two_only X0 (w.heap.size + 1) (.int .i64 2) (.int .i64 0)
    have e4 : (X0.setCell ⟨w.heap.size + 1, 0, none⟩ (.int .i64 2)).setCell ⟨w.heap.size + 1, 1, none⟩ (.int .i64 0) = two X0 (w.heap.size + 1) (.int .i64 2) (.int .i64 0) := rfl
    rw [e4]
    clear e4
    generalize two X0 (w.heap.size + 1) (.int .i64 2) (.int .i64 0) = Z at hz1 hz2 hz3 ⊢
    have d0 := hz1.cell 0
    have d1 := hz1.cell 1
    simp only [List.getElem?_toArray, List.getElem?_cons_zero, List.getElem?_cons_succ] at d0 d1
    refine bodyPost_ret (v := .tuple #[.slice none 0 0, .agg #[.int .i64 2, .int .i64 0]]) (by simp [results, Tryz.results16, go_sem, d0, d1]) rfl ?_
    rw [HS.out]
    exact sortsP_nil hz2 _ _
  have h30I : ¬ ((n1 : Int) > 30) := by omega
  have hdf : declsF a.decls = firstBad (declCode a.decls) a.decls 0 := by rw [declsF, if_neg (by rw [HL.out.1]; exact h30)]
  have hq : ∃ qc qa : Int, firstBad (declCode a.decls) a.decls 0 = (qc, qa) := ⟨_, _, rfl⟩
  obtain ⟨qc, qa, hq⟩ := hq
  rw [hq] at hdf
  have HQ0 := Lib.hid hdf
  have HFB := Lib.hid hq
  clear hdf hq
  go_wp2_with fail
  go_loopw [4] (fun s4 wr => ∃ k : Nat, k ≤ n1 ∧ s4 = .int .i64 k ∧ Hid (firstBad (declCode a.decls) (a.decls.drop k) k = (qc, qa)) ∧ Below X0.heap.size X0 wr) (fun s4 _ => n1 - (intOf s4).toNat)
  case atStart => exact ⟨0, Nat.zero_le _, rfl, HFB, Below.refl _ _⟩
  case round =>
    obtain ⟨k, hk, rfl, HK, hbel⟩ := hrel
    clear b0 b1 b2 g0 g1 y0 y1
    obtain ⟨hbw, hkr, hfr, har⟩ := MK0.out wr (hbel.mono hs0)
    have b0 : wr.cell? ⟨w.heap.size, 0, none⟩ = some (.slice A1 n1 c1) := hkr.cell 0
    have b1 : wr.cell? ⟨w.heap.size, 1, none⟩ = some (.slice A2 n2 c2) := hkr.cell 1
    have b2 : wr.cell? ⟨w.heap.size, 2, none⟩ = some (.slice A3 n3 c3) := hkr.cell 2
    have g0 : wr.cell? ⟨w.heap.size + 1, 0, none⟩ = some (.int .i64 0) := hfr.cell 0
    have g1 : wr.cell? ⟨w.heap.size + 1, 1, none⟩ = some (.int .i64 0) := hfr.cell 1
    have y0 : wr.frozen? ⟨w.heap.size + 1, 0, none⟩ = false := hfr.frozen 0
    have y1 : wr.frozen? ⟨w.heap.size + 1, 1, none⟩ = false := hfr.frozen 1
    have hbs : X0.heap.size ≤ wr.heap.size := hbel.size
    by_cases hlt : k < n1
    · have hx : k < a.decls.length := by rw [HL.out.1]; exact hlt
      have e1 := HK.out
      rw [drop_cons hx, firstBad] at e1
      have hc : ∃ R : Int, declCode a.decls a.decls[k] k = R := ⟨_, rfl⟩
      obtain ⟨dc, hc⟩ := hc
      rw [hc] at e1
      have HD := Lib.hid (declFault_any A1 n1 c1 a.decls k hlt dc wr (har.decls.below stays_decl (Below.refl _ _) (by omega)) hm1 (fun d hd => by
        rw [List.getElem?_eq_getElem hx] at hd
        injection hd with e
        rw [← e]
        exact hc))
      have hkI : (k : Int) < (n1 : Int) := by omega
      have HBE := Lib.hid hbel
      clear hc hx HK hbw hkr hfr har hbel
      go_wp2_with fail
      refine HD.out.mono ?_
      rintro e w5 ⟨rfl, hb5⟩
      have hb5X : Below X0.heap.size X0 w5 := HBE.out.trans (hb5.mono hbs)
      clear hb5
      by_cases hd0 : dc = 0
      · subst hd0
        rw [if_pos rfl] at e1
        have H1 := Lib.hid e1
        clear e1
        go_wp2_with fail
        go_roundw
        case rel => exact ⟨k + 1, by omega, by go_num, by show _ = _; rw [Int.natCast_add]; exact H1.out, hb5X⟩
        case measure => simp [intOf]; omega
      · have hdb : (dc != 0) = true := by rw [bne_iff_ne]; exact hd0
        rw [if_neg hd0] at e1
        simp only [Prod.mk.injEq] at e1
        obtain ⟨rfl, rfl⟩ := e1
        have HS := Lib.hid (sortsF_decl HQ0.out hd0)
        obtain ⟨hbw5, -, hfr5, -⟩ := MK0.out w5 (hb5X.mono hs0)
        have HB := Lib.hid (And.intro hbw5 hfr5)
        clear g0 g1 y0 y1
        have g0 : w5.cell? ⟨w.heap.size + 1, 0, none⟩ = some (.int .i64 0) := hfr5.cell 0
        have g1 : w5.cell? ⟨w.heap.size + 1, 1, none⟩ = some (.int .i64 0) := hfr5.cell 1
        have y0 : w5.frozen? ⟨w.heap.size + 1, 0, none⟩ = false := hfr5.frozen 0
        have y1 : w5.frozen? ⟨w.heap.size + 1, 1, none⟩ = false := hfr5.frozen 1
        have hz5 : w.heap.size + 1 < w5.heap.size := hfr5.lt
        clear hbw5 hfr5 hb5X hd0 b0 b1 b2
        go_wp2_with fail
        clear g0 g1 y0 y1
        have hz1 := two_blk HB.out.2 (.int .i64 dc) (.int .i64 k)
        have hz2 : Below w.heap.size w (two w5 (w.heap.size + 1) (.int .i64 dc) (.int .i64 k)) := two_below (g := w.heap.size + 1) HB.out.1 (Nat.le_succ _) (.int .i64 dc) (.int .i64 k)
        have hz3 := two_only w5 (w.heap.size + 1) (.int .i64 dc) (.int .i64 k)
        have e4 : (w5.setCell ⟨w.heap.size + 1, 0, none⟩ (.int .i64 dc)).setCell ⟨w.heap.size + 1, 1, none⟩ (.int .i64 k) = two w5 (w.heap.size + 1) (.int .i64 dc) (.int .i64 k) := rfl
        rw [e4]
        clear e4
        generalize two w5 (w.heap.size + 1) (.int .i64 dc) (.int .i64 k) = Z at hz1 hz2 hz3 ⊢
        have d0 := hz1.cell 0
        have d1 := hz1.cell 1
        simp only [List.getElem?_toArray, List.getElem?_cons_zero, List.getElem?_cons_succ] at d0 d1
        refine bodyPost_ret (v := .tuple #[.slice none 0 0, .agg #[.int .i64 dc, .int .i64 k]]) (by simp [results, Tryz.results16, go_sem, d0, d1]) rfl ?_
        rw [HS.out]
        exact sortsP_nil hz2 _ _
    · obtain rfl : n1 = k := by omega
      have e1 := HK.out
      rw [List.drop_of_length_le (by rw [HL.out.1]; omega), firstBad] at e1
      simp only [Prod.mk.injEq] at e1
      obtain ⟨rfl, rfl⟩ := e1
      have HQ := Lib.hid HQ0.out
      have HDO := Lib.hid (declsF_ok (ds := a.decls) (by rw [HQ.out]))
      have HB1 := Lib.hid (And.intro hbw (And.intro hkr (And.intro hfr har)))
      have hzw : w.heap.size + 1 < wr.heap.size := hfr.lt
      clear HK HFB hbw hkr hfr har
      by_cases h200 : 200 < n2
      · have HS : Hid (sortsF a = ([], 2, 0)) := sortsF_many HQ.out (by rw [HL.out.2.1]; exact h200)
        have h2I : (n2 : Int) > 200 := by omega
        have HB := Lib.hid (And.intro HB1.out.1 HB1.out.2.2.1)
        go_wp2_with fail
        clear g0 g1 y0 y1
        have hz1 := two_blk HB.out.2 (.int .i64 2) (.int .i64 0)
        have hz2 : Below w.heap.size w (two wr (w.heap.size + 1) (.int .i64 2) (.int .i64 0)) := two_below (g := w.heap.size + 1) HB.out.1 (Nat.le_succ _) (.int .i64 2) (.int .i64 0)
        have hz3 := two_only wr (w.heap.size + 1) (.int .i64 2) (.int .i64 0)
        have e4 : (wr.setCell ⟨w.heap.size + 1, 0, none⟩ (.int .i64 2)).setCell ⟨w.heap.size + 1, 1, none⟩ (.int .i64 0) = two wr (w.heap.size + 1) (.int .i64 2) (.int .i64 0) := rfl
        rw [e4]
        clear e4
        generalize two wr (w.heap.size + 1) (.int .i64 2) (.int .i64 0) = Z at hz1 hz2 hz3 ⊢
        have d0 := hz1.cell 0
        have d1 := hz1.cell 1
        simp only [List.getElem?_toArray, List.getElem?_cons_zero, List.getElem?_cons_succ] at d0 d1
        refine bodyPost_ret (v := .tuple #[.slice none 0 0, .agg #[.int .i64 2, .int .i64 0]]) (by simp [results, Tryz.results16, go_sem, d0, d1]) rfl ?_
        rw [HS.out]
        exact sortsP_nil hz2 _ _
      · have h2I : ¬ ((n2 : Int) > 200) := by omega
        have h200' : ¬ 200 < a.nodes.length := by rw [HL.out.2.1]; exact h200
        have H2 := Lib.hid h200'
        clear h200'
        have hMK : ∀ W : World, Below wr.heap.size wr W → (Below w.heap.size w W ∧ Blk W w.heap.size 26 #[.slice A1 n1 c1, .slice A2 n2 c2, .slice A3 n3 c3] ∧ Blk W (w.heap.size + 1) 32 #[.int .i64 0, .int .i64 0] ∧ AskIn W w.heap.size A1 A2 A3 n1 n2 n3 a) := fun W hW => MK0.out W ((hbel.mono hs0).trans (hW.mono (by omega)))
        have MK := Lib.hid hMK
        clear hMK hbel
        go_wp2_with fail
        obtain ⟨X, rfl⟩ : ∃ X : World, X = wr := ⟨_, rfl⟩
        clear b0 b1 b2 g0 g1 y0 y1
        go_loopw [6, 7] (fun v6 s7 wr => ∃ (k : Nat) (ss : List Int), k ≤ n2 ∧ s7 = .int .i64 k ∧ ss.length = k ∧ Hid (∀ s ∈ ss, sortB s = true) ∧ OwnV VInt 3 1 wr X.heap.size (fun _ => False) v6 ss ∧ Below X.heap.size X wr ∧ Hid (nodesF a.decls (a.nodes.drop k) k ss = nodesF a.decls a.nodes 0 [])) (fun _ s7 _ => n2 - (intOf s7).toNat)
        case atStart => exact ⟨0, [], Nat.zero_le _, rfl, rfl, (fun s hs => by simp at hs), OwnV.none_ _ _ _ _ _ _, Below.refl _ _, rfl⟩
        case round =>
          obtain ⟨k, ss, hk, rfl, hsl, HGS, hown, hbel, HK⟩ := hrel
          obtain ⟨hbw, hkr, hfr, har⟩ := MK.out wr hbel
          have hbs : X.heap.size ≤ wr.heap.size := hbel.size
          have b0 : wr.cell? ⟨w.heap.size, 0, none⟩ = some (.slice A1 n1 c1) := hkr.cell 0
          have b1 : wr.cell? ⟨w.heap.size, 1, none⟩ = some (.slice A2 n2 c2) := hkr.cell 1
          have b2 : wr.cell? ⟨w.heap.size, 2, none⟩ = some (.slice A3 n3 c3) := hkr.cell 2
          by_cases hlt : k < n2
          · obtain ⟨A5, c5, he5, hc5, hc5m, hread⟩ := hown.reads (E := AtInt) tells_int (fun _ _ _ _ _ h => atV_int.1 h) (S' := fun b => b < wr.heap.size) (fun b hb => False.elim hb) (fun g hg => (hown.lt g hg).2)
            rw [hsl] at he5 hc5 hread
            subst he5
            have hx : k < a.nodes.length := by rw [HL.out.2.1]; exact hlt
            have e1 := HK.out
            rw [drop_cons hx, nodesF] at e1
            have hnx := List.getElem?_eq_getElem hx
            obtain ⟨b, off, hx2, K, kn, kc, rfl, hb, h0, h1, h2, h3, h4, hnc, hcm, hkid, -, -, -, hnm⟩ := nodes_get har.nodes hlt
            generalize a.nodes[k] = x at e1 hnx h0 h2 h3 h4 hkid hnm
            obtain ⟨op, ks, nn, dd, nm⟩ := x
            simp only at h0 h2 h3 h4 hkid hnm
            have HNX := Lib.hid hnx
            have HE1 := Lib.hid e1
            have HKD := Lib.hid hkid
            have HRD := Lib.hid hread
            have HO := Lib.hid (And.intro hown (And.intro hbel hsl))
            have hkI : (k : Int) < (n2 : Int) := by omega
            have HK6 : Hid (k ≤ 1000000 ∧ k + 1 ≤ maxLen ∧ (k + 1) * 8 ≤ 140737488355328) := by
              refine ⟨by omega, by unfold maxLen; omega, by omega⟩
            have HSZ : Hid (w.heap.size ≤ wr.heap.size) := hbw.size
            have hRY : Below wr.heap.size wr (wr.alloc (.cells #[.int .i64 op, .slice K kn kc, .int .i64 nn, .int .i64 dd, .string nm] 43)) := (Below.refl _ _).alloc (Nat.le_refl _) _
            have hnb := Blk.new wr 43 #[.int .i64 op, .slice K kn kc, .int .i64 nn, .int .i64 dd, .string nm]
            have hYs : (wr.alloc (.cells #[.int .i64 op, .slice K kn kc, .int .i64 nn, .int .i64 dd, .string nm] 43)).heap.size = wr.heap.size + 1 := by simp
            have hXY := hbel.trans (hRY.mono hbs)
            obtain ⟨hbY, hkb, hfb, har1⟩ := MK.out _ hXY
            unfold maxLen at hnm hcm
            clear hnx hx hread hown hbel hsl har hkr hfr HK hbw e1 hkid hx2
            go_upto_region 16 with fail
            generalize (wr.alloc (.cells #[.int .i64 op, .slice K kn kc, .int .i64 nn, .int .i64 dd, .string nm] 43)) = Y at hRY hnb hYs hXY hbY hkb hfb har1 ⊢
            clear b0 b1 b2 h0 h1 h2 h3 h4
            have b0 : Y.cell? ⟨w.heap.size, 0, none⟩ = some (.slice A1 n1 c1) := hkb.cell 0
            have b1 : Y.cell? ⟨w.heap.size, 1, none⟩ = some (.slice (some ⟨b, off, none⟩) n2 c2) := hkb.cell 1
            have b2 : Y.cell? ⟨w.heap.size, 2, none⟩ = some (.slice A3 n3 c3) := hkb.cell 2
            have g0 : Y.cell? ⟨w.heap.size + 1, 0, none⟩ = some (.int .i64 0) := hfb.cell 0
            have g1 : Y.cell? ⟨w.heap.size + 1, 1, none⟩ = some (.int .i64 0) := hfb.cell 1
            have y0 : Y.frozen? ⟨w.heap.size + 1, 0, none⟩ = false := hfb.frozen 0
            have y1 : Y.frozen? ⟨w.heap.size + 1, 1, none⟩ = false := hfb.frozen 1
            have m0 : Y.cell? ⟨wr.heap.size, 0, none⟩ = some (.int .i64 op) := hnb.cell 0
            have m1 : Y.cell? ⟨wr.heap.size, 1, none⟩ = some (.slice K kn kc) := hnb.cell 1
            have m2 : Y.cell? ⟨wr.heap.size, 2, none⟩ = some (.int .i64 nn) := hnb.cell 2
            have m3 : Y.cell? ⟨wr.heap.size, 3, none⟩ = some (.int .i64 dd) := hnb.cell 3
            have m4 : Y.cell? ⟨wr.heap.size, 4, none⟩ = some (.string nm) := hnb.cell 4
            have hzY : wr.heap.size < Y.heap.size := hnb.lt
            have hzxY : w.heap.size + 1 < Y.heap.size := hfb.lt
            have HW1 := Lib.hid (And.intro hbY hfb)
            have HAR1 := Lib.hid har1
            have HY := Lib.hid (And.intro hRY (And.intro hnb hYs))
            clear hRY hnb hYs hXY hbY hkb hfb har1
            by_cases hbad : op < 1 ∨ 25 < op
            · have hnf : nodeF a.decls k ss ⟨op, ks, nn, dd, nm⟩ = (0, 4) := by rw [nodeF, if_pos hbad]
              have e1 := HE1.out
              rw [hnf, if_neg (by decide)] at e1
              have HS := Lib.hid (sortsF_node HQ.out H2.out e1.symm (by decide))
              have HB := HW1
              have hc : op < 1 ∨ (1 ≤ op ∧ 25 < op) := op_bad hbad
              clear hbad hnf e1
              rcases hc with hc | ⟨hc, hc2⟩
              all_goals
                go_wp2_with fail
                clear g0 g1 y0 y1
                have hz1 := two_blk HB.out.2 (.int .i64 4) (.int .i64 k)
                have hz2 : Below w.heap.size w (two Y (w.heap.size + 1) (.int .i64 4) (.int .i64 k)) := two_below (g := w.heap.size + 1) HB.out.1 (Nat.le_succ _) (.int .i64 4) (.int .i64 k)
                have hz3 := two_only Y (w.heap.size + 1) (.int .i64 4) (.int .i64 k)
                have e4 : (Y.setCell ⟨w.heap.size + 1, 0, none⟩ (.int .i64 4)).setCell ⟨w.heap.size + 1, 1, none⟩ (.int .i64 k) = two Y (w.heap.size + 1) (.int .i64 4) (.int .i64 k) := rfl
                rw [e4]
                clear e4
                generalize two Y (w.heap.size + 1) (.int .i64 4) (.int .i64 k) = Z at hz1 hz2 hz3 ⊢
                have d0 := hz1.cell 0
                have d1 := hz1.cell 1
                simp only [List.getElem?_toArray, List.getElem?_cons_zero, List.getElem?_cons_succ] at d0 d1
                refine bodyPost_ret (v := .tuple #[.slice none 0 0, .agg #[.int .i64 4, .int .i64 k]]) (by simp [results, Tryz.results16, go_sem, d0, d1]) rfl ?_
                rw [HS.out]
                exact sortsP_nil hz2 _ _
            · have hop1 : 1 ≤ op := Int.not_lt.1 (fun h => hbad (.inl h))
              have hop2 : op ≤ 25 := Int.not_lt.1 (fun h => hbad (.inr h))
              have HBD := Lib.hid hbad
              have hixe : ∃ ix : Int, idx (nameIs nm) a.decls 0 = ix := ⟨_, rfl⟩
              obtain ⟨ix, hixe⟩ := hixe
              have HDC := Lib.hid (declOf_any A1 n1 c1 nm a.decls ix Y _ HAR1.out.decls hm1 hixe)
              have HIX := Lib.hid hixe
              clear hixe hbad
              by_cases h9 : op = 9
              · have q9 : (op == 9) = true := by rw [beq_iff_eq]; exact h9
                by_cases hneg : ix < 0
                · have hnf : nodeF a.decls k ss ⟨op, ks, nn, dd, nm⟩ = (0, 6) := by rw [nodeF, if_neg HBD.out, if_pos ⟨h9, by rw [HIX.out]; exact hneg⟩]
                  have e1 := HE1.out
                  rw [hnf, if_neg (by decide)] at e1
                  have HS := Lib.hid (sortsF_node HQ.out H2.out e1.symm (by decide))
                  have HB := HW1
                  clear hnf e1 h9
                  go_wp2_with (go_at_call 41; refine HDC.out.mono ?_; rintro e w' ⟨rfl, rfl⟩)
                  clear g0 g1 y0 y1
                  have hz1 := two_blk HB.out.2 (.int .i64 6) (.int .i64 k)
                  have hz2 : Below w.heap.size w (two Y (w.heap.size + 1) (.int .i64 6) (.int .i64 k)) := two_below (g := w.heap.size + 1) HB.out.1 (Nat.le_succ _) (.int .i64 6) (.int .i64 k)
                  have hz3 := two_only Y (w.heap.size + 1) (.int .i64 6) (.int .i64 k)
                  have e4 : (Y.setCell ⟨w.heap.size + 1, 0, none⟩ (.int .i64 6)).setCell ⟨w.heap.size + 1, 1, none⟩ (.int .i64 k) = two Y (w.heap.size + 1) (.int .i64 6) (.int .i64 k) := rfl
                  rw [e4]
                  clear e4
                  generalize two Y (w.heap.size + 1) (.int .i64 6) (.int .i64 k) = Z at hz1 hz2 hz3 ⊢
                  have d0 := hz1.cell 0
                  have d1 := hz1.cell 1
                  simp only [List.getElem?_toArray, List.getElem?_cons_zero, List.getElem?_cons_succ] at d0 d1
                  refine bodyPost_ret (v := .tuple #[.slice none 0 0, .agg #[.int .i64 6, .int .i64 k]]) (by simp [results, Tryz.results16, go_sem, d0, d1]) rfl ?_
                  rw [HS.out]
                  exact sortsP_nil hz2 _ _
                · have h9i : op = 9 → 0 ≤ idx (nameIs nm) a.decls 0 := fun _ => by rw [HIX.out]; exact Int.not_lt.1 hneg
                  have H9 := Lib.hid h9i
                  have HNF := Lib.hid (nodeF_kids (ss := ss) (i := k) (x := ⟨op, ks, nn, dd, nm⟩) hop1 hop2 h9i)
                  clear h9i h9
                  have hkc : ∃ R : Int, kidsCode a.decls ⟨op, ks, nn, dd, nm⟩ k = R := ⟨_, rfl⟩
                  obtain ⟨kf, hkc⟩ := hkc
                  have HKF := Lib.hid (fun (W : World) (hW : AskIn W w.heap.size A1 (some ⟨b, off, none⟩) A3 n1 n2 n3 a) (hl : w.heap.size ≤ W.heap.size) => kidsFault_any A1 (some ⟨b, off, none⟩) A3 n1 c1 n2 c2 n3 c3 a.decls a.nodes k hlt kf W (hW.decls.below stays_decl (Below.refl _ _) hl) (hW.nodes.below stays_node (Below.refl _ _) hl) hm1 hm2 (fun x hx' => by
                    rw [HNX.out] at hx'
                    injection hx' with e
                    rw [← e]
                    exact ⟨hop1, hop2, H9.out, hkc⟩))
                  have HKC := Lib.hid hkc
                  clear hkc
                  go_wp2_with (go_at_call 41; refine HDC.out.mono ?_; rintro e w' ⟨rfl, rfl⟩)
                  refine (HKF.out _ HAR1.out (Nat.le_of_lt (Nat.lt_of_succ_lt hzxY))).mono ?_
                  rintro e w5 ⟨rfl, hb5⟩
                  clear m0 m1 m2 m3 m4 b0 b1 b2 g0 g1 y0 y1
                  have hRw5 : Below wr.heap.size wr w5 := HY.out.1.trans (hb5.mono (Nat.le_of_lt hzY))
                  have hnw5 : Blk w5 wr.heap.size 43 #[.int .i64 op, .slice K kn kc, .int .i64 nn, .int .i64 dd, .string nm] := HY.out.2.1.below hb5 hzY
                  have hXw5 : Below X.heap.size X w5 := HO.out.2.1.trans (hRw5.mono hbs)
                  obtain ⟨hbww5, hkw5, hfw5, harw5⟩ := MK.out w5 hXw5
                  have m0 : w5.cell? ⟨wr.heap.size, 0, none⟩ = some (.int .i64 op) := hnw5.cell 0
                  have m1 : w5.cell? ⟨wr.heap.size, 1, none⟩ = some (.slice K kn kc) := hnw5.cell 1
                  have m2 : w5.cell? ⟨wr.heap.size, 2, none⟩ = some (.int .i64 nn) := hnw5.cell 2
                  have m3 : w5.cell? ⟨wr.heap.size, 3, none⟩ = some (.int .i64 dd) := hnw5.cell 3
                  have m4 : w5.cell? ⟨wr.heap.size, 4, none⟩ = some (.string nm) := hnw5.cell 4
                  have b0 : w5.cell? ⟨w.heap.size, 0, none⟩ = some (.slice A1 n1 c1) := hkw5.cell 0
                  have b1 : w5.cell? ⟨w.heap.size, 1, none⟩ = some (.slice (some ⟨b, off, none⟩) n2 c2) := hkw5.cell 1
                  have b2 : w5.cell? ⟨w.heap.size, 2, none⟩ = some (.slice A3 n3 c3) := hkw5.cell 2
                  have g0 : w5.cell? ⟨w.heap.size + 1, 0, none⟩ = some (.int .i64 0) := hfw5.cell 0
                  have g1 : w5.cell? ⟨w.heap.size + 1, 1, none⟩ = some (.int .i64 0) := hfw5.cell 1
                  have y0 : w5.frozen? ⟨w.heap.size + 1, 0, none⟩ = false := hfw5.frozen 0
                  have y1 : w5.frozen? ⟨w.heap.size + 1, 1, none⟩ = false := hfw5.frozen 1
                  have hzw5 : wr.heap.size < w5.heap.size := hnw5.lt
                  have hzxw5 : w.heap.size + 1 < w5.heap.size := hfw5.lt
                  clear hb5
                  by_cases hkf : kf = 0
                  · subst hkf
                    obtain ⟨hbc, hao⟩ := kidsCode_ok HKC.out
                    have hff : ∃ R : Int, fieldsF op nn dd nm = R := ⟨_, rfl⟩
                    obtain ⟨ff, hff⟩ := hff
                    have HFF := Lib.hid (fields_is op nn dd K kn kc nm ff hff)
                    have H5 := Lib.hid (And.intro hbc (And.intro hao (And.intro hff (And.intro hRw5 hnw5))))
                    clear hbc hao hff hnw5 hXw5 hbww5 hkw5 hfw5 harw5 hRw5
                    go_wp2_with fail
                    refine (HFF.out _).mono ?_
                    rintro e w6 ⟨rfl, hb6⟩
                    clear m0 m1 m2 m3 m4 b0 b1 b2 g0 g1 y0 y1
                    have hRw6 : Below wr.heap.size wr w6 := H5.out.2.2.2.1.trans (hb6.mono (Nat.le_of_lt hzw5))
                    have hnw6 : Blk w6 wr.heap.size 43 #[.int .i64 op, .slice K kn kc, .int .i64 nn, .int .i64 dd, .string nm] := H5.out.2.2.2.2.below hb6 hzw5
                    have hXw6 : Below X.heap.size X w6 := HO.out.2.1.trans (hRw6.mono hbs)
                    obtain ⟨hbww6, hkw6, hfw6, harw6⟩ := MK.out w6 hXw6
                    have m0 : w6.cell? ⟨wr.heap.size, 0, none⟩ = some (.int .i64 op) := hnw6.cell 0
                    have m1 : w6.cell? ⟨wr.heap.size, 1, none⟩ = some (.slice K kn kc) := hnw6.cell 1
                    have m2 : w6.cell? ⟨wr.heap.size, 2, none⟩ = some (.int .i64 nn) := hnw6.cell 2
                    have m3 : w6.cell? ⟨wr.heap.size, 3, none⟩ = some (.int .i64 dd) := hnw6.cell 3
                    have m4 : w6.cell? ⟨wr.heap.size, 4, none⟩ = some (.string nm) := hnw6.cell 4
                    have b0 : w6.cell? ⟨w.heap.size, 0, none⟩ = some (.slice A1 n1 c1) := hkw6.cell 0
                    have b1 : w6.cell? ⟨w.heap.size, 1, none⟩ = some (.slice (some ⟨b, off, none⟩) n2 c2) := hkw6.cell 1
                    have b2 : w6.cell? ⟨w.heap.size, 2, none⟩ = some (.slice A3 n3 c3) := hkw6.cell 2
                    have g0 : w6.cell? ⟨w.heap.size + 1, 0, none⟩ = some (.int .i64 0) := hfw6.cell 0
                    have g1 : w6.cell? ⟨w.heap.size + 1, 1, none⟩ = some (.int .i64 0) := hfw6.cell 1
                    have y0 : w6.frozen? ⟨w.heap.size + 1, 0, none⟩ = false := hfw6.frozen 0
                    have y1 : w6.frozen? ⟨w.heap.size + 1, 1, none⟩ = false := hfw6.frozen 1
                    have hzw6 : wr.heap.size < w6.heap.size := hnw6.lt
                    have hzxw6 : w.heap.size + 1 < w6.heap.size := hfw6.lt
                    clear hb6
                    by_cases hf0 : ff = 0
                    · subst hf0
                      have hs : ∃ R : Int, sortN a.decls ss ⟨op, ks, nn, dd, nm⟩ = R := ⟨_, rfl⟩
                      obtain ⟨R, hs⟩ := hs
                      have hq1 := sortN_eq (ss := ss) HDO.out hop1 hop2 H9.out H5.out.1 H5.out.2.2.1
                      rw [hs] at hq1
                      have hr6 : IntsB w6 w6.heap.size A5 k ss := ArrB.below HRD.out stays_int hRw6 hRw6.size
                      have hkd6 : IntsB w6 w6.heap.size K kn ks := HKD.out.below stays_int (hRw6.mono HSZ.out) hbww6.size
                      have hk8 : kn ≤ 8 := k8_of H5.out.1 HKD.out.len
                      have HSO := Lib.hid (sortOf_any A1 (some ⟨b, off, none⟩) A3 n1 c1 n2 c2 n3 c3 a.decls op nn dd nm K kn kc ks A5 k c5 ss R w6 (harw6.decls.below stays_decl (Below.refl _ _) hbww6.size) hkd6 hr6 (fun y hy => outside_no H5.out.2.1 hy) hk8 hm1 HK6.out.1 hop1 hop2 H9.out (fun h9 => count_ok H5.out.1 h9) (fun h15 => fields_word H5.out.2.2.1 h15) hq1)
                      have hnf : nodeF a.decls k ss ⟨op, ks, nn, dd, nm⟩ = if R = 0 then (0, 8) else (R, 0) := by
                        rw [HNF.out, HKC.out, kidsThen, if_neg (by simp), H5.out.2.2.1, if_neg (by simp), hs]
                      rw [hnf] at HE1
                      have H6 := Lib.hid (And.intro hRw6 hnw6)
                      have hgd : ¬ R = 0 → sortB R = true := fun hr => nodeF_good HDO.out HGS.out (x := ⟨op, ks, nn, dd, nm⟩) (i := k) (by rw [hnf, if_neg hr])
                      have HGD := Lib.hid hgd
                      clear hs hq1 hr6 hkd6 hk8 hnw6 hXw6 hbww6 hkw6 hfw6 harw6 hRw6 hnf hgd
                      go_wp2_with fail
                      refine HSO.out.mono ?_
                      rintro e w7 ⟨rfl, hb7⟩
                      clear m0 m1 m2 m3 m4 b0 b1 b2 g0 g1 y0 y1
                      have hRw7 : Below wr.heap.size wr w7 := H6.out.1.trans (hb7.mono (Nat.le_of_lt hzw6))
                      have hnw7 : Blk w7 wr.heap.size 43 #[.int .i64 op, .slice K kn kc, .int .i64 nn, .int .i64 dd, .string nm] := H6.out.2.below hb7 hzw6
                      have hXw7 : Below X.heap.size X w7 := HO.out.2.1.trans (hRw7.mono hbs)
                      obtain ⟨hbww7, hkw7, hfw7, harw7⟩ := MK.out w7 hXw7
                      have m0 : w7.cell? ⟨wr.heap.size, 0, none⟩ = some (.int .i64 op) := hnw7.cell 0
                      have m1 : w7.cell? ⟨wr.heap.size, 1, none⟩ = some (.slice K kn kc) := hnw7.cell 1
                      have m2 : w7.cell? ⟨wr.heap.size, 2, none⟩ = some (.int .i64 nn) := hnw7.cell 2
                      have m3 : w7.cell? ⟨wr.heap.size, 3, none⟩ = some (.int .i64 dd) := hnw7.cell 3
                      have m4 : w7.cell? ⟨wr.heap.size, 4, none⟩ = some (.string nm) := hnw7.cell 4
                      have b0 : w7.cell? ⟨w.heap.size, 0, none⟩ = some (.slice A1 n1 c1) := hkw7.cell 0
                      have b1 : w7.cell? ⟨w.heap.size, 1, none⟩ = some (.slice (some ⟨b, off, none⟩) n2 c2) := hkw7.cell 1
                      have b2 : w7.cell? ⟨w.heap.size, 2, none⟩ = some (.slice A3 n3 c3) := hkw7.cell 2
                      have g0 : w7.cell? ⟨w.heap.size + 1, 0, none⟩ = some (.int .i64 0) := hfw7.cell 0
                      have g1 : w7.cell? ⟨w.heap.size + 1, 1, none⟩ = some (.int .i64 0) := hfw7.cell 1
                      have y0 : w7.frozen? ⟨w.heap.size + 1, 0, none⟩ = false := hfw7.frozen 0
                      have y1 : w7.frozen? ⟨w.heap.size + 1, 1, none⟩ = false := hfw7.frozen 1
                      have hzw7 : wr.heap.size < w7.heap.size := hnw7.lt
                      have hzxw7 : w.heap.size + 1 < w7.heap.size := hfw7.lt
                      clear hb7
                      by_cases hR0 : R = 0
                      · subst hR0
                        have e1 := HE1.out
                        rw [if_pos rfl, if_neg (by decide)] at e1
                        have HS := Lib.hid (sortsF_node HQ.out H2.out e1.symm (by decide))
                        clear e1
                        have HB := Lib.hid (And.intro hbww7 hfw7)
                        clear hbww7 hfw7 hnw7 hkw7 harw7 hXw7 hRw7
                        go_wp2_with fail
                        clear g0 g1 y0 y1
                        have hz1 := two_blk HB.out.2 (.int .i64 8) (.int .i64 k)
                        have hz2 : Below w.heap.size w (two w7 (w.heap.size + 1) (.int .i64 8) (.int .i64 k)) := two_below (g := w.heap.size + 1) HB.out.1 (Nat.le_succ _) (.int .i64 8) (.int .i64 k)
                        have hz3 := two_only w7 (w.heap.size + 1) (.int .i64 8) (.int .i64 k)
                        have e4 : (w7.setCell ⟨w.heap.size + 1, 0, none⟩ (.int .i64 8)).setCell ⟨w.heap.size + 1, 1, none⟩ (.int .i64 k) = two w7 (w.heap.size + 1) (.int .i64 8) (.int .i64 k) := rfl
                        rw [e4]
                        clear e4
                        generalize two w7 (w.heap.size + 1) (.int .i64 8) (.int .i64 k) = Z at hz1 hz2 hz3 ⊢
                        have d0 := hz1.cell 0
                        have d1 := hz1.cell 1
                        simp only [List.getElem?_toArray, List.getElem?_cons_zero, List.getElem?_cons_succ] at d0 d1
                        refine bodyPost_ret (v := .tuple #[.slice none 0 0, .agg #[.int .i64 8, .int .i64 k]]) (by simp [results, Tryz.results16, go_sem, d0, d1]) rfl ?_
                        rw [HS.out]
                        exact sortsP_nil hz2 _ _
                      · have hrb : (R == 0) = false := by rw [beq_eq_false_iff_ne]; exact hR0
                        have e1 := HE1.out
                        rw [if_neg hR0, if_pos rfl] at e1
                        have H1 := Lib.hid e1
                        have hgr : wr.grownBy w7 none := only_of_below hRw7 none
                        have hown5 := HO.out.1.kept tells_int hgr (own_any _) (S' := fun _ => False) (fun _ hb => False.elim hb)
                        have hown2 : OwnV VInt 3 1 (w7.alloc (.cells #[.int .i64 R] 3)) X.heap.size (fun _ => False) (.slice A5 k c5) ss := hown5.kept tells_int (grown_of w7 none _) (own_any _) (S' := fun _ => False) (fun _ hb => False.elim hb)
                        have hbn := Blk.new w7 3 #[.int .i64 R]
                        have H7 := Lib.hid (And.intro hown5 (And.intro hown2 (And.intro hbn hXw7)))
                        have hgs : ∀ x ∈ ss ++ [R], sortB x = true := fun x hx => by
                          rcases List.mem_append.1 hx with h | h
                          · exact HGS.out x h
                          · obtain rfl : x = R := by simpa using h
                            exact HGD.out hR0
                        have HGS2 := Lib.hid hgs
                        have HSI := Lib.hid (sortB_i64 (HGD.out hR0))
                        have hX7s := hXw7.size
                        clear e1 hgr hown5 hown2 hbn hgs hnw7 hXw7 hbww7 hkw7 hfw7 harw7 hRw7 hR0
                        go_wp2_with (at_builtin; refine wpList_append_item rfl _ _ _ rfl rowInts tells_int (v := .slice A5 k c5) (xs := ss) (base := X.heap.size) (S := fun _ => False) rfl H7.out.2.1 (g := w7.heap.size) (cs := #[.int .i64 R]) rfl H7.out.2.2.1 (y := R) ⟨rfl, HSI.out⟩ (fun b h => h.elim) (by rw [HO.out.2.2]; exact HK6.out.2.1) (by rw [HO.out.2.2]; exact HK6.out.2.2) (Nat.le_trans hX7s (by simp)) ?_; intro v' w9 hown6 hgrow6 hat6; have HB6 := Lib.hid (And.intro hown6 hgrow6); clear hown6 hgrow6 hat6)
                        go_roundw
                        case rel =>
                          refine ⟨k + 1, ss ++ [R], hlt, by go_num, by rw [List.length_append, HO.out.2.2]; rfl, HGS2, HB6.out.1, ?_, H1⟩
                          exact below_then (H7.out.2.2.2.alloc hX7s _) HB6.out.2 (Nat.le_trans hX7s (by simp)) (fun x hx => (H7.out.1.lt x hx).1)
                        case measure => simp [intOf]; omega
                    · have hfb : (ff == 0) = false := by rw [beq_eq_false_iff_ne]; exact hf0
                      have hfb2 : (ff != 0) = true := by rw [bne_iff_ne]; exact hf0
                      have e1 := HE1.out
                      have hnf : nodeF a.decls k ss ⟨op, ks, nn, dd, nm⟩ = (0, ff) := by
                        rw [HNF.out, HKC.out, kidsThen, if_neg (by simp), H5.out.2.2.1, if_pos hf0]
                      rw [hnf, if_neg hf0] at e1
                      have HS := Lib.hid (sortsF_node HQ.out H2.out e1.symm hf0)
                      clear e1 hnf hf0
                      have HB := Lib.hid (And.intro hbww6 hfw6)
                      clear hbww6 hfw6 hnw6 hkw6 harw6 hXw6 hRw6
                      go_wp2_with fail
                      clear g0 g1 y0 y1
                      have hz1 := two_blk HB.out.2 (.int .i64 ff) (.int .i64 k)
                      have hz2 : Below w.heap.size w (two w6 (w.heap.size + 1) (.int .i64 ff) (.int .i64 k)) := two_below (g := w.heap.size + 1) HB.out.1 (Nat.le_succ _) (.int .i64 ff) (.int .i64 k)
                      have hz3 := two_only w6 (w.heap.size + 1) (.int .i64 ff) (.int .i64 k)
                      have e4 : (w6.setCell ⟨w.heap.size + 1, 0, none⟩ (.int .i64 ff)).setCell ⟨w.heap.size + 1, 1, none⟩ (.int .i64 k) = two w6 (w.heap.size + 1) (.int .i64 ff) (.int .i64 k) := rfl
                      rw [e4]
                      clear e4
                      generalize two w6 (w.heap.size + 1) (.int .i64 ff) (.int .i64 k) = Z at hz1 hz2 hz3 ⊢
                      have d0 := hz1.cell 0
                      have d1 := hz1.cell 1
                      simp only [List.getElem?_toArray, List.getElem?_cons_zero, List.getElem?_cons_succ] at d0 d1
                      refine bodyPost_ret (v := .tuple #[.slice none 0 0, .agg #[.int .i64 ff, .int .i64 k]]) (by simp [results, Tryz.results16, go_sem, d0, d1]) rfl ?_
                      rw [HS.out]
                      exact sortsP_nil hz2 _ _
                  · have hfb : (kf == 0) = false := by rw [beq_eq_false_iff_ne]; exact hkf
                    have hfb2 : (kf != 0) = true := by rw [bne_iff_ne]; exact hkf
                    have e1 := HE1.out
                    have hnf : nodeF a.decls k ss ⟨op, ks, nn, dd, nm⟩ = (0, kf) := by
                      rw [HNF.out, HKC.out, kidsThen, if_pos hkf]
                    rw [hnf, if_neg hkf] at e1
                    have HS := Lib.hid (sortsF_node HQ.out H2.out e1.symm hkf)
                    clear e1 hnf hkf
                    have HB := Lib.hid (And.intro hbww5 hfw5)
                    clear hbww5 hfw5 hnw5 hkw5 harw5 hXw5 hRw5
                    go_wp2_with fail
                    clear g0 g1 y0 y1
                    have hz1 := two_blk HB.out.2 (.int .i64 kf) (.int .i64 k)
                    have hz2 : Below w.heap.size w (two w5 (w.heap.size + 1) (.int .i64 kf) (.int .i64 k)) := two_below (g := w.heap.size + 1) HB.out.1 (Nat.le_succ _) (.int .i64 kf) (.int .i64 k)
                    have hz3 := two_only w5 (w.heap.size + 1) (.int .i64 kf) (.int .i64 k)
                    have e4 : (w5.setCell ⟨w.heap.size + 1, 0, none⟩ (.int .i64 kf)).setCell ⟨w.heap.size + 1, 1, none⟩ (.int .i64 k) = two w5 (w.heap.size + 1) (.int .i64 kf) (.int .i64 k) := rfl
                    rw [e4]
                    clear e4
                    generalize two w5 (w.heap.size + 1) (.int .i64 kf) (.int .i64 k) = Z at hz1 hz2 hz3 ⊢
                    have d0 := hz1.cell 0
                    have d1 := hz1.cell 1
                    simp only [List.getElem?_toArray, List.getElem?_cons_zero, List.getElem?_cons_succ] at d0 d1
                    refine bodyPost_ret (v := .tuple #[.slice none 0 0, .agg #[.int .i64 kf, .int .i64 k]]) (by simp [results, Tryz.results16, go_sem, d0, d1]) rfl ?_
                    rw [HS.out]
                    exact sortsP_nil hz2 _ _
              · have q9 : (op == 9) = false := by rw [beq_eq_false_iff_ne]; exact h9
                have h9i : op = 9 → 0 ≤ idx (nameIs nm) a.decls 0 := fun h => absurd h h9
                have H9 := Lib.hid h9i
                have HNF := Lib.hid (nodeF_kids (ss := ss) (i := k) (x := ⟨op, ks, nn, dd, nm⟩) hop1 hop2 h9i)
                clear h9i h9
                have hkc : ∃ R : Int, kidsCode a.decls ⟨op, ks, nn, dd, nm⟩ k = R := ⟨_, rfl⟩
                obtain ⟨kf, hkc⟩ := hkc
                have HKF := Lib.hid (fun (W : World) (hW : AskIn W w.heap.size A1 (some ⟨b, off, none⟩) A3 n1 n2 n3 a) (hl : w.heap.size ≤ W.heap.size) => kidsFault_any A1 (some ⟨b, off, none⟩) A3 n1 c1 n2 c2 n3 c3 a.decls a.nodes k hlt kf W (hW.decls.below stays_decl (Below.refl _ _) hl) (hW.nodes.below stays_node (Below.refl _ _) hl) hm1 hm2 (fun x hx' => by
                  rw [HNX.out] at hx'
                  injection hx' with e
                  rw [← e]
                  exact ⟨hop1, hop2, H9.out, hkc⟩))
                have HKC := Lib.hid hkc
                clear hkc
                go_wp2_with fail
                refine (HKF.out _ HAR1.out (Nat.le_of_lt (Nat.lt_of_succ_lt hzxY))).mono ?_
                rintro e w5 ⟨rfl, hb5⟩
                clear m0 m1 m2 m3 m4 b0 b1 b2 g0 g1 y0 y1
                have hRw5 : Below wr.heap.size wr w5 := HY.out.1.trans (hb5.mono (Nat.le_of_lt hzY))
                have hnw5 : Blk w5 wr.heap.size 43 #[.int .i64 op, .slice K kn kc, .int .i64 nn, .int .i64 dd, .string nm] := HY.out.2.1.below hb5 hzY
                have hXw5 : Below X.heap.size X w5 := HO.out.2.1.trans (hRw5.mono hbs)
                obtain ⟨hbww5, hkw5, hfw5, harw5⟩ := MK.out w5 hXw5
                have m0 : w5.cell? ⟨wr.heap.size, 0, none⟩ = some (.int .i64 op) := hnw5.cell 0
                have m1 : w5.cell? ⟨wr.heap.size, 1, none⟩ = some (.slice K kn kc) := hnw5.cell 1
                have m2 : w5.cell? ⟨wr.heap.size, 2, none⟩ = some (.int .i64 nn) := hnw5.cell 2
                have m3 : w5.cell? ⟨wr.heap.size, 3, none⟩ = some (.int .i64 dd) := hnw5.cell 3
                have m4 : w5.cell? ⟨wr.heap.size, 4, none⟩ = some (.string nm) := hnw5.cell 4
                have b0 : w5.cell? ⟨w.heap.size, 0, none⟩ = some (.slice A1 n1 c1) := hkw5.cell 0
                have b1 : w5.cell? ⟨w.heap.size, 1, none⟩ = some (.slice (some ⟨b, off, none⟩) n2 c2) := hkw5.cell 1
                have b2 : w5.cell? ⟨w.heap.size, 2, none⟩ = some (.slice A3 n3 c3) := hkw5.cell 2
                have g0 : w5.cell? ⟨w.heap.size + 1, 0, none⟩ = some (.int .i64 0) := hfw5.cell 0
                have g1 : w5.cell? ⟨w.heap.size + 1, 1, none⟩ = some (.int .i64 0) := hfw5.cell 1
                have y0 : w5.frozen? ⟨w.heap.size + 1, 0, none⟩ = false := hfw5.frozen 0
                have y1 : w5.frozen? ⟨w.heap.size + 1, 1, none⟩ = false := hfw5.frozen 1
                have hzw5 : wr.heap.size < w5.heap.size := hnw5.lt
                have hzxw5 : w.heap.size + 1 < w5.heap.size := hfw5.lt
                clear hb5
                by_cases hkf : kf = 0
                · subst hkf
                  obtain ⟨hbc, hao⟩ := kidsCode_ok HKC.out
                  have hff : ∃ R : Int, fieldsF op nn dd nm = R := ⟨_, rfl⟩
                  obtain ⟨ff, hff⟩ := hff
                  have HFF := Lib.hid (fields_is op nn dd K kn kc nm ff hff)
                  have H5 := Lib.hid (And.intro hbc (And.intro hao (And.intro hff (And.intro hRw5 hnw5))))
                  clear hbc hao hff hnw5 hXw5 hbww5 hkw5 hfw5 harw5 hRw5
                  go_wp2_with fail
                  refine (HFF.out _).mono ?_
                  rintro e w6 ⟨rfl, hb6⟩
                  clear m0 m1 m2 m3 m4 b0 b1 b2 g0 g1 y0 y1
                  have hRw6 : Below wr.heap.size wr w6 := H5.out.2.2.2.1.trans (hb6.mono (Nat.le_of_lt hzw5))
                  have hnw6 : Blk w6 wr.heap.size 43 #[.int .i64 op, .slice K kn kc, .int .i64 nn, .int .i64 dd, .string nm] := H5.out.2.2.2.2.below hb6 hzw5
                  have hXw6 : Below X.heap.size X w6 := HO.out.2.1.trans (hRw6.mono hbs)
                  obtain ⟨hbww6, hkw6, hfw6, harw6⟩ := MK.out w6 hXw6
                  have m0 : w6.cell? ⟨wr.heap.size, 0, none⟩ = some (.int .i64 op) := hnw6.cell 0
                  have m1 : w6.cell? ⟨wr.heap.size, 1, none⟩ = some (.slice K kn kc) := hnw6.cell 1
                  have m2 : w6.cell? ⟨wr.heap.size, 2, none⟩ = some (.int .i64 nn) := hnw6.cell 2
                  have m3 : w6.cell? ⟨wr.heap.size, 3, none⟩ = some (.int .i64 dd) := hnw6.cell 3
                  have m4 : w6.cell? ⟨wr.heap.size, 4, none⟩ = some (.string nm) := hnw6.cell 4
                  have b0 : w6.cell? ⟨w.heap.size, 0, none⟩ = some (.slice A1 n1 c1) := hkw6.cell 0
                  have b1 : w6.cell? ⟨w.heap.size, 1, none⟩ = some (.slice (some ⟨b, off, none⟩) n2 c2) := hkw6.cell 1
                  have b2 : w6.cell? ⟨w.heap.size, 2, none⟩ = some (.slice A3 n3 c3) := hkw6.cell 2
                  have g0 : w6.cell? ⟨w.heap.size + 1, 0, none⟩ = some (.int .i64 0) := hfw6.cell 0
                  have g1 : w6.cell? ⟨w.heap.size + 1, 1, none⟩ = some (.int .i64 0) := hfw6.cell 1
                  have y0 : w6.frozen? ⟨w.heap.size + 1, 0, none⟩ = false := hfw6.frozen 0
                  have y1 : w6.frozen? ⟨w.heap.size + 1, 1, none⟩ = false := hfw6.frozen 1
                  have hzw6 : wr.heap.size < w6.heap.size := hnw6.lt
                  have hzxw6 : w.heap.size + 1 < w6.heap.size := hfw6.lt
                  clear hb6
                  by_cases hf0 : ff = 0
                  · subst hf0
                    have hs : ∃ R : Int, sortN a.decls ss ⟨op, ks, nn, dd, nm⟩ = R := ⟨_, rfl⟩
                    obtain ⟨R, hs⟩ := hs
                    have hq1 := sortN_eq (ss := ss) HDO.out hop1 hop2 H9.out H5.out.1 H5.out.2.2.1
                    rw [hs] at hq1
                    have hr6 : IntsB w6 w6.heap.size A5 k ss := ArrB.below HRD.out stays_int hRw6 hRw6.size
                    have hkd6 : IntsB w6 w6.heap.size K kn ks := HKD.out.below stays_int (hRw6.mono HSZ.out) hbww6.size
                    have hk8 : kn ≤ 8 := k8_of H5.out.1 HKD.out.len
                    have HSO := Lib.hid (sortOf_any A1 (some ⟨b, off, none⟩) A3 n1 c1 n2 c2 n3 c3 a.decls op nn dd nm K kn kc ks A5 k c5 ss R w6 (harw6.decls.below stays_decl (Below.refl _ _) hbww6.size) hkd6 hr6 (fun y hy => outside_no H5.out.2.1 hy) hk8 hm1 HK6.out.1 hop1 hop2 H9.out (fun h9 => count_ok H5.out.1 h9) (fun h15 => fields_word H5.out.2.2.1 h15) hq1)
                    have hnf : nodeF a.decls k ss ⟨op, ks, nn, dd, nm⟩ = if R = 0 then (0, 8) else (R, 0) := by
                      rw [HNF.out, HKC.out, kidsThen, if_neg (by simp), H5.out.2.2.1, if_neg (by simp), hs]
                    rw [hnf] at HE1
                    have H6 := Lib.hid (And.intro hRw6 hnw6)
                    have hgd : ¬ R = 0 → sortB R = true := fun hr => nodeF_good HDO.out HGS.out (x := ⟨op, ks, nn, dd, nm⟩) (i := k) (by rw [hnf, if_neg hr])
                    have HGD := Lib.hid hgd
                    clear hs hq1 hr6 hkd6 hk8 hnw6 hXw6 hbww6 hkw6 hfw6 harw6 hRw6 hnf hgd
                    go_wp2_with fail
                    refine HSO.out.mono ?_
                    rintro e w7 ⟨rfl, hb7⟩
                    clear m0 m1 m2 m3 m4 b0 b1 b2 g0 g1 y0 y1
                    have hRw7 : Below wr.heap.size wr w7 := H6.out.1.trans (hb7.mono (Nat.le_of_lt hzw6))
                    have hnw7 : Blk w7 wr.heap.size 43 #[.int .i64 op, .slice K kn kc, .int .i64 nn, .int .i64 dd, .string nm] := H6.out.2.below hb7 hzw6
                    have hXw7 : Below X.heap.size X w7 := HO.out.2.1.trans (hRw7.mono hbs)
                    obtain ⟨hbww7, hkw7, hfw7, harw7⟩ := MK.out w7 hXw7
                    have m0 : w7.cell? ⟨wr.heap.size, 0, none⟩ = some (.int .i64 op) := hnw7.cell 0
                    have m1 : w7.cell? ⟨wr.heap.size, 1, none⟩ = some (.slice K kn kc) := hnw7.cell 1
                    have m2 : w7.cell? ⟨wr.heap.size, 2, none⟩ = some (.int .i64 nn) := hnw7.cell 2
                    have m3 : w7.cell? ⟨wr.heap.size, 3, none⟩ = some (.int .i64 dd) := hnw7.cell 3
                    have m4 : w7.cell? ⟨wr.heap.size, 4, none⟩ = some (.string nm) := hnw7.cell 4
                    have b0 : w7.cell? ⟨w.heap.size, 0, none⟩ = some (.slice A1 n1 c1) := hkw7.cell 0
                    have b1 : w7.cell? ⟨w.heap.size, 1, none⟩ = some (.slice (some ⟨b, off, none⟩) n2 c2) := hkw7.cell 1
                    have b2 : w7.cell? ⟨w.heap.size, 2, none⟩ = some (.slice A3 n3 c3) := hkw7.cell 2
                    have g0 : w7.cell? ⟨w.heap.size + 1, 0, none⟩ = some (.int .i64 0) := hfw7.cell 0
                    have g1 : w7.cell? ⟨w.heap.size + 1, 1, none⟩ = some (.int .i64 0) := hfw7.cell 1
                    have y0 : w7.frozen? ⟨w.heap.size + 1, 0, none⟩ = false := hfw7.frozen 0
                    have y1 : w7.frozen? ⟨w.heap.size + 1, 1, none⟩ = false := hfw7.frozen 1
                    have hzw7 : wr.heap.size < w7.heap.size := hnw7.lt
                    have hzxw7 : w.heap.size + 1 < w7.heap.size := hfw7.lt
                    clear hb7
                    by_cases hR0 : R = 0
                    · subst hR0
                      have e1 := HE1.out
                      rw [if_pos rfl, if_neg (by decide)] at e1
                      have HS := Lib.hid (sortsF_node HQ.out H2.out e1.symm (by decide))
                      clear e1
                      have HB := Lib.hid (And.intro hbww7 hfw7)
                      clear hbww7 hfw7 hnw7 hkw7 harw7 hXw7 hRw7
                      go_wp2_with fail
                      clear g0 g1 y0 y1
                      have hz1 := two_blk HB.out.2 (.int .i64 8) (.int .i64 k)
                      have hz2 : Below w.heap.size w (two w7 (w.heap.size + 1) (.int .i64 8) (.int .i64 k)) := two_below (g := w.heap.size + 1) HB.out.1 (Nat.le_succ _) (.int .i64 8) (.int .i64 k)
                      have hz3 := two_only w7 (w.heap.size + 1) (.int .i64 8) (.int .i64 k)
                      have e4 : (w7.setCell ⟨w.heap.size + 1, 0, none⟩ (.int .i64 8)).setCell ⟨w.heap.size + 1, 1, none⟩ (.int .i64 k) = two w7 (w.heap.size + 1) (.int .i64 8) (.int .i64 k) := rfl
                      rw [e4]
                      clear e4
                      generalize two w7 (w.heap.size + 1) (.int .i64 8) (.int .i64 k) = Z at hz1 hz2 hz3 ⊢
                      have d0 := hz1.cell 0
                      have d1 := hz1.cell 1
                      simp only [List.getElem?_toArray, List.getElem?_cons_zero, List.getElem?_cons_succ] at d0 d1
                      refine bodyPost_ret (v := .tuple #[.slice none 0 0, .agg #[.int .i64 8, .int .i64 k]]) (by simp [results, Tryz.results16, go_sem, d0, d1]) rfl ?_
                      rw [HS.out]
                      exact sortsP_nil hz2 _ _
                    · have hrb : (R == 0) = false := by rw [beq_eq_false_iff_ne]; exact hR0
                      have e1 := HE1.out
                      rw [if_neg hR0, if_pos rfl] at e1
                      have H1 := Lib.hid e1
                      have hgr : wr.grownBy w7 none := only_of_below hRw7 none
                      have hown5 := HO.out.1.kept tells_int hgr (own_any _) (S' := fun _ => False) (fun _ hb => False.elim hb)
                      have hown2 : OwnV VInt 3 1 (w7.alloc (.cells #[.int .i64 R] 3)) X.heap.size (fun _ => False) (.slice A5 k c5) ss := hown5.kept tells_int (grown_of w7 none _) (own_any _) (S' := fun _ => False) (fun _ hb => False.elim hb)
                      have hbn := Blk.new w7 3 #[.int .i64 R]
                      have H7 := Lib.hid (And.intro hown5 (And.intro hown2 (And.intro hbn hXw7)))
                      have hgs : ∀ x ∈ ss ++ [R], sortB x = true := fun x hx => by
                        rcases List.mem_append.1 hx with h | h
                        · exact HGS.out x h
                        · obtain rfl : x = R := by simpa using h
                          exact HGD.out hR0
                      have HGS2 := Lib.hid hgs
                      have HSI := Lib.hid (sortB_i64 (HGD.out hR0))
                      have hX7s := hXw7.size
                      clear e1 hgr hown5 hown2 hbn hgs hnw7 hXw7 hbww7 hkw7 hfw7 harw7 hRw7 hR0
                      go_wp2_with (at_builtin; refine wpList_append_item rfl _ _ _ rfl rowInts tells_int (v := .slice A5 k c5) (xs := ss) (base := X.heap.size) (S := fun _ => False) rfl H7.out.2.1 (g := w7.heap.size) (cs := #[.int .i64 R]) rfl H7.out.2.2.1 (y := R) ⟨rfl, HSI.out⟩ (fun b h => h.elim) (by rw [HO.out.2.2]; exact HK6.out.2.1) (by rw [HO.out.2.2]; exact HK6.out.2.2) (Nat.le_trans hX7s (by simp)) ?_; intro v' w9 hown6 hgrow6 hat6; have HB6 := Lib.hid (And.intro hown6 hgrow6); clear hown6 hgrow6 hat6)
                      go_roundw
                      case rel =>
                        refine ⟨k + 1, ss ++ [R], hlt, by go_num, by rw [List.length_append, HO.out.2.2]; rfl, HGS2, HB6.out.1, ?_, H1⟩
                        exact below_then (H7.out.2.2.2.alloc hX7s _) HB6.out.2 (Nat.le_trans hX7s (by simp)) (fun x hx => (H7.out.1.lt x hx).1)
                      case measure => simp [intOf]; omega
                  · have hfb : (ff == 0) = false := by rw [beq_eq_false_iff_ne]; exact hf0
                    have hfb2 : (ff != 0) = true := by rw [bne_iff_ne]; exact hf0
                    have e1 := HE1.out
                    have hnf : nodeF a.decls k ss ⟨op, ks, nn, dd, nm⟩ = (0, ff) := by
                      rw [HNF.out, HKC.out, kidsThen, if_neg (by simp), H5.out.2.2.1, if_pos hf0]
                    rw [hnf, if_neg hf0] at e1
                    have HS := Lib.hid (sortsF_node HQ.out H2.out e1.symm hf0)
                    clear e1 hnf hf0
                    have HB := Lib.hid (And.intro hbww6 hfw6)
                    clear hbww6 hfw6 hnw6 hkw6 harw6 hXw6 hRw6
                    go_wp2_with fail
                    clear g0 g1 y0 y1
                    have hz1 := two_blk HB.out.2 (.int .i64 ff) (.int .i64 k)
                    have hz2 : Below w.heap.size w (two w6 (w.heap.size + 1) (.int .i64 ff) (.int .i64 k)) := two_below (g := w.heap.size + 1) HB.out.1 (Nat.le_succ _) (.int .i64 ff) (.int .i64 k)
                    have hz3 := two_only w6 (w.heap.size + 1) (.int .i64 ff) (.int .i64 k)
                    have e4 : (w6.setCell ⟨w.heap.size + 1, 0, none⟩ (.int .i64 ff)).setCell ⟨w.heap.size + 1, 1, none⟩ (.int .i64 k) = two w6 (w.heap.size + 1) (.int .i64 ff) (.int .i64 k) := rfl
                    rw [e4]
                    clear e4
                    generalize two w6 (w.heap.size + 1) (.int .i64 ff) (.int .i64 k) = Z at hz1 hz2 hz3 ⊢
                    have d0 := hz1.cell 0
                    have d1 := hz1.cell 1
                    simp only [List.getElem?_toArray, List.getElem?_cons_zero, List.getElem?_cons_succ] at d0 d1
                    refine bodyPost_ret (v := .tuple #[.slice none 0 0, .agg #[.int .i64 ff, .int .i64 k]]) (by simp [results, Tryz.results16, go_sem, d0, d1]) rfl ?_
                    rw [HS.out]
                    exact sortsP_nil hz2 _ _
                · have hfb : (kf == 0) = false := by rw [beq_eq_false_iff_ne]; exact hkf
                  have hfb2 : (kf != 0) = true := by rw [bne_iff_ne]; exact hkf
                  have e1 := HE1.out
                  have hnf : nodeF a.decls k ss ⟨op, ks, nn, dd, nm⟩ = (0, kf) := by
                    rw [HNF.out, HKC.out, kidsThen, if_pos hkf]
                  rw [hnf, if_neg hkf] at e1
                  have HS := Lib.hid (sortsF_node HQ.out H2.out e1.symm hkf)
                  clear e1 hnf hkf
                  have HB := Lib.hid (And.intro hbww5 hfw5)
                  clear hbww5 hfw5 hnw5 hkw5 harw5 hXw5 hRw5
                  go_wp2_with fail
                  clear g0 g1 y0 y1
                  have hz1 := two_blk HB.out.2 (.int .i64 kf) (.int .i64 k)
                  have hz2 : Below w.heap.size w (two w5 (w.heap.size + 1) (.int .i64 kf) (.int .i64 k)) := two_below (g := w.heap.size + 1) HB.out.1 (Nat.le_succ _) (.int .i64 kf) (.int .i64 k)
                  have hz3 := two_only w5 (w.heap.size + 1) (.int .i64 kf) (.int .i64 k)
                  have e4 : (w5.setCell ⟨w.heap.size + 1, 0, none⟩ (.int .i64 kf)).setCell ⟨w.heap.size + 1, 1, none⟩ (.int .i64 k) = two w5 (w.heap.size + 1) (.int .i64 kf) (.int .i64 k) := rfl
                  rw [e4]
                  clear e4
                  generalize two w5 (w.heap.size + 1) (.int .i64 kf) (.int .i64 k) = Z at hz1 hz2 hz3 ⊢
                  have d0 := hz1.cell 0
                  have d1 := hz1.cell 1
                  simp only [List.getElem?_toArray, List.getElem?_cons_zero, List.getElem?_cons_succ] at d0 d1
                  refine bodyPost_ret (v := .tuple #[.slice none 0 0, .agg #[.int .i64 kf, .int .i64 k]]) (by simp [results, Tryz.results16, go_sem, d0, d1]) rfl ?_
                  rw [HS.out]
                  exact sortsP_nil hz2 _ _
          · obtain rfl : n2 = k := by omega
            have e1 := HK.out
            rw [List.drop_of_length_le (by rw [HL.out.2.1]; omega), nodesF] at e1
            have HS := Lib.hid (sortsF_rest HQ.out H2.out e1.symm)
            obtain ⟨A5, c5, rfl, hc5, hc5m, hread⟩ := hown.reads (E := AtInt) tells_int (fun _ _ _ _ _ h => atV_int.1 h) (S' := fun b => X.heap.size ≤ b ∧ b < wr.heap.size) (fun b hb => False.elim hb) (fun g hg => hown.lt g hg)
            rw [hsl] at hc5 hread ⊢
            have HRD := Lib.hid (And.intro hread (And.intro hsl (And.intro hc5 hc5m)))
            clear e1 HK hown hread hsl b0 b1 b2 hc5m
            have b0 : wr.cell? ⟨w.heap.size, 0, none⟩ = some (.slice A1 n1 c1) := hkr.cell 0
            have b1 : wr.cell? ⟨w.heap.size, 1, none⟩ = some (.slice A2 n2 c2) := hkr.cell 1
            have b2 : wr.cell? ⟨w.heap.size, 2, none⟩ = some (.slice A3 n3 c3) := hkr.cell 2
            have g0 : wr.cell? ⟨w.heap.size + 1, 0, none⟩ = some (.int .i64 0) := hfr.cell 0
            have g1 : wr.cell? ⟨w.heap.size + 1, 1, none⟩ = some (.int .i64 0) := hfr.cell 1
            have y0 : wr.frozen? ⟨w.heap.size + 1, 0, none⟩ = false := hfr.frozen 0
            have y1 : wr.frozen? ⟨w.heap.size + 1, 1, none⟩ = false := hfr.frozen 1
            have HHD := Lib.hid har.hold
            have HB := Lib.hid (And.intro hbw hfr)
            have hzr : w.heap.size + 1 < wr.heap.size := hfr.lt
            clear har hkr hfr hbw hbel
            by_cases h3 : 200 < n3
            · have h3I : (n3 : Int) > 200 := by omega
              have hhf : holdF ss a.hold = (2, 0) := by rw [holdF, if_pos (by rw [HL.out.2.2]; exact h3)]
              have HS2 : Hid (sortsF a = ([], 2, 0)) := by show _ = _; rw [HS.out, hhf]; rfl
              clear hhf
              go_wp2_with fail
              clear g0 g1 y0 y1
              have hz1 := two_blk HB.out.2 (.int .i64 2) (.int .i64 0)
              have hz2 : Below w.heap.size w (two wr (w.heap.size + 1) (.int .i64 2) (.int .i64 0)) := two_below (g := w.heap.size + 1) HB.out.1 (Nat.le_succ _) (.int .i64 2) (.int .i64 0)
              have hz3 := two_only wr (w.heap.size + 1) (.int .i64 2) (.int .i64 0)
              have e4 : (wr.setCell ⟨w.heap.size + 1, 0, none⟩ (.int .i64 2)).setCell ⟨w.heap.size + 1, 1, none⟩ (.int .i64 0) = two wr (w.heap.size + 1) (.int .i64 2) (.int .i64 0) := rfl
              rw [e4]
              clear e4
              generalize two wr (w.heap.size + 1) (.int .i64 2) (.int .i64 0) = Z at hz1 hz2 hz3 ⊢
              have d0 := hz1.cell 0
              have d1 := hz1.cell 1
              simp only [List.getElem?_toArray, List.getElem?_cons_zero, List.getElem?_cons_succ] at d0 d1
              refine bodyPost_ret (v := .tuple #[.slice none 0 0, .agg #[.int .i64 2, .int .i64 0]]) (by simp [results, Tryz.results16, go_sem, d0, d1]) rfl ?_
              rw [HS2.out]
              exact sortsP_nil hz2 _ _
            · have h3I : ¬ ((n3 : Int) > 200) := by omega
              have hhf : holdF ss a.hold = firstBad (holdCode ss) a.hold 0 := by rw [holdF, if_neg (by rw [HL.out.2.2]; exact h3)]
              have hfb : ∃ hc ha : Int, firstBad (holdCode ss) a.hold 0 = (hc, ha) := ⟨_, _, rfl⟩
              obtain ⟨hc, ha', hfb⟩ := hfb
              have HFB := Lib.hid hfb
              have hsr := HS.out
              rw [hhf, hfb] at hsr
              have HSR := Lib.hid hsr
              clear hhf hfb hsr HS
              go_wp2_with fail
              go_loop [11] (fun s54 => ∃ j : Nat, j ≤ n3 ∧ s54 = .int .i64 j ∧ Hid (firstBad (holdCode ss) (a.hold.drop j) j = (hc, ha'))) (fun s54 => n3 - (intOf s54).toNat)
              case atStart => exact ⟨0, Nat.zero_le _, rfl, HFB⟩
              case round =>
                obtain ⟨j, hj, rfl, HK⟩ := hrel
                by_cases hjn : j < n3
                · obtain ⟨b3, off3, hx3, rfl, hb3, hc3, -, -⟩ := ints_get HHD.out hjn
                  have e1 := HK.out
                  rw [drop_cons hx3, firstBad] at e1
                  generalize a.hold[j] = y at e1 hc3
                  have hjI : (j : Int) < (n3 : Int) := by omega
                  have hcode : ((y < 0 ∨ (0 ≤ y ∧ (n2 : Int) ≤ y)) ∧ holdCode ss y j = 3) ∨ ((0 ≤ y ∧ y < (n2 : Int)) ∧ holdCode ss y j = if ss.getD y.toNat 0 = 1 then 0 else 8) := by
                    rw [holdCode, HRD.out.2.1]
                    by_cases h : y < 0 ∨ (n2 : Int) ≤ y
                    · exact .inl ⟨by omega, if_pos h⟩
                    · exact .inr ⟨by omega, if_neg h⟩
                  clear HK hx3 hb3
                  rcases hcode with ⟨hy, hcd⟩ | ⟨⟨hy0, hy1⟩, hcd⟩
                  · rw [hcd, if_neg (by omega)] at e1
                    simp only [Prod.mk.injEq] at e1
                    obtain ⟨rfl, rfl⟩ := e1
                    have HS2 : Hid (sortsF a = ([], 3, (j : Int))) := by show _ = _; rw [HSR.out]; rfl
                    clear hcd
                    rcases hy with hy | ⟨hy, hy2⟩
                    all_goals
                      go_wp2_with fail
                      clear g0 g1 y0 y1
                      have hz1 := two_blk HB.out.2 (.int .i64 3) (.int .i64 j)
                      have hz2 : Below w.heap.size w (two wr (w.heap.size + 1) (.int .i64 3) (.int .i64 j)) := two_below (g := w.heap.size + 1) HB.out.1 (Nat.le_succ _) (.int .i64 3) (.int .i64 j)
                      have hz3 := two_only wr (w.heap.size + 1) (.int .i64 3) (.int .i64 j)
                      have e4 : (wr.setCell ⟨w.heap.size + 1, 0, none⟩ (.int .i64 3)).setCell ⟨w.heap.size + 1, 1, none⟩ (.int .i64 j) = two wr (w.heap.size + 1) (.int .i64 3) (.int .i64 j) := rfl
                      rw [e4]
                      clear e4
                      generalize two wr (w.heap.size + 1) (.int .i64 3) (.int .i64 j) = Z at hz1 hz2 hz3 ⊢
                      have d0 := hz1.cell 0
                      have d1 := hz1.cell 1
                      simp only [List.getElem?_toArray, List.getElem?_cons_zero, List.getElem?_cons_succ] at d0 d1
                      refine bodyPost_ret (v := .tuple #[.slice none 0 0, .agg #[.int .i64 3, .int .i64 j]]) (by simp [results, Tryz.results16, go_sem, d0, d1]) rfl ?_
                      rw [HS2.out]
                      exact sortsP_nil hz2 _ _
                  · have hyn : y.toNat < n2 := by omega
                    obtain ⟨b4, off4, hx4, rfl, hb4, hc4, -, -⟩ := Arr_get HRD.out.1 hyn
                    have hgd : ss.getD y.toNat 0 = ss[y.toNat] := by rw [List.getD_eq_getElem?_getD, List.getElem?_eq_getElem hx4]; rfl
                    rw [hgd] at hcd
                    generalize ss[y.toNat] = v at hc4 hcd
                    clear hgd hx4
                    by_cases hv : v = 1
                    · rw [hcd, if_pos hv, if_pos rfl] at e1
                      have H1 := Lib.hid e1
                      have hvb : (v != 1) = false := by rw [bne_eq_false_iff_eq]; exact hv
                      clear e1 hcd hv
                      go_wp2_with fail
                      go_round
                      case rel => exact ⟨j + 1, by omega, by go_num, by show _ = _; rw [Int.natCast_add]; exact H1.out⟩
                      case measure => simp [intOf]; omega
                    · rw [hcd, if_neg hv, if_neg (by omega)] at e1
                      simp only [Prod.mk.injEq] at e1
                      obtain ⟨rfl, rfl⟩ := e1
                      have HS2 : Hid (sortsF a = ([], 8, (j : Int))) := by show _ = _; rw [HSR.out]; rfl
                      have hvb : (v != 1) = true := by rw [bne_iff_ne]; exact hv
                      clear hcd hv
                      go_wp2_with fail
                      clear g0 g1 y0 y1
                      have hz1 := two_blk HB.out.2 (.int .i64 8) (.int .i64 j)
                      have hz2 : Below w.heap.size w (two wr (w.heap.size + 1) (.int .i64 8) (.int .i64 j)) := two_below (g := w.heap.size + 1) HB.out.1 (Nat.le_succ _) (.int .i64 8) (.int .i64 j)
                      have hz3 := two_only wr (w.heap.size + 1) (.int .i64 8) (.int .i64 j)
                      have e4 : (wr.setCell ⟨w.heap.size + 1, 0, none⟩ (.int .i64 8)).setCell ⟨w.heap.size + 1, 1, none⟩ (.int .i64 j) = two wr (w.heap.size + 1) (.int .i64 8) (.int .i64 j) := rfl
                      rw [e4]
                      clear e4
                      generalize two wr (w.heap.size + 1) (.int .i64 8) (.int .i64 j) = Z at hz1 hz2 hz3 ⊢
                      have d0 := hz1.cell 0
                      have d1 := hz1.cell 1
                      simp only [List.getElem?_toArray, List.getElem?_cons_zero, List.getElem?_cons_succ] at d0 d1
                      refine bodyPost_ret (v := .tuple #[.slice none 0 0, .agg #[.int .i64 8, .int .i64 j]]) (by simp [results, Tryz.results16, go_sem, d0, d1]) rfl ?_
                      rw [HS2.out]
                      exact sortsP_nil hz2 _ _
                · obtain rfl : n3 = j := by omega
                  have e1 := HK.out
                  rw [List.drop_of_length_le (by rw [HL.out.2.2]; omega), firstBad] at e1
                  simp only [Prod.mk.injEq] at e1
                  obtain ⟨rfl, rfl⟩ := e1
                  have HS2 : Hid (sortsF a = (ss, 0, 0)) := by show _ = _; rw [HSR.out]; rfl
                  clear HK
                  go_wp2_with fail
                  clear g0 g1 y0 y1
                  have hz1 := two_blk HB.out.2 (.int .i64 0) (.int .i64 0)
                  have hz2 : Below w.heap.size w (two wr (w.heap.size + 1) (.int .i64 0) (.int .i64 0)) := two_below (g := w.heap.size + 1) HB.out.1 (Nat.le_succ _) (.int .i64 0) (.int .i64 0)
                  have hz3 := two_only wr (w.heap.size + 1) (.int .i64 0) (.int .i64 0)
                  have e4 : (wr.setCell ⟨w.heap.size + 1, 0, none⟩ (.int .i64 0)).setCell ⟨w.heap.size + 1, 1, none⟩ (.int .i64 0) = two wr (w.heap.size + 1) (.int .i64 0) (.int .i64 0) := rfl
                  rw [e4]
                  clear e4
                  generalize two wr (w.heap.size + 1) (.int .i64 0) (.int .i64 0) = Z at hz1 hz2 hz3 ⊢
                  have d0 := hz1.cell 0
                  have d1 := hz1.cell 1
                  simp only [List.getElem?_toArray, List.getElem?_cons_zero, List.getElem?_cons_succ] at d0 d1
                  refine bodyPost_ret (v := .tuple #[.slice A5 n2 c5, .agg #[.int .i64 0, .int .i64 0]]) (by simp [results, Tryz.results16, go_sem, d0, d1]) rfl ?_
                  rw [HS2.out]
                  exact sortsP_of HRD.out.2.1 hz2 HRD.out.2.2.1 HRD.out.2.2.2 (HRD.out.1.keep stays_int (fun b hb => ⟨by omega, by have := hz3.size; omega⟩) (fun b o hb => only_cell hz3 hb.2 (fun e => by injection e; omega)))
end Go.Proofs.YtggkfepifnfdoaaGreat
