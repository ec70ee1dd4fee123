/- Walks: the maker's methods last, number. -/
import Derived.Test.YthooecojopfjbaaMkC
import Derived.Deep.LoopGhost
namespace Go.Proofs.Ythooecojopfjbaa
open Go.RowKit

def SortK (s : Int) : Prop := s = 1 ∨ s = 2 ∨ s = 3 ∨ s = 4 ∨ s = 5 ∨ s = 13
theorem leaf_any (s n : Int) (q : Nat) (vn vs : Value) (av : Nat → Prop) (ns : List NodeD) (ss : List Int) (w : World) (hI : MkIn w q vn vs av ns ss) (hM : Mk ns ss) (hn : ns.length ≤ 900) (hi : I64 n) (hs : SortK s) :
    Calls Try.prog 85 #[.pointer (some ⟨q, 0, none⟩), .int .i64 s, .int .i64 n] w (GotP w q vn vs av ns ss s 1) := by
  rcases hs with rfl | rfl | rfl | rfl | rfl | rfl
  · exact leaf_bool_any n q vn vs av ns ss w hI hM hn hi
  · exact leaf_int_any n q vn vs av ns ss w hI hM hn hi
  · exact leaf_real_any n q vn vs av ns ss w hI hM hn hi
  · exact leaf_thing_any n q vn vs av ns ss w hI hM hn hi
  · exact leaf_array_any n q vn vs av ns ss w hI hM hn hi
  · exact leaf_word_any n q vn vs av ns ss w hI hM hn hi
theorem GotP.pre {w W w' : World} {q : Nat} {vn vs : Value} {av : Nat → Prop} {ns : List NodeD} {ss : List Int} {s : Int} {m : Nat} {e : Ending} (h : GotP W q vn vs av ns ss s m e w') (hb : Below w.heap.size w W) : GotP w q vn vs av ns ss s m e w' := by
  obtain ⟨k, ns', ss', vn', vs', h1, h2, h3, h4⟩ := h
  exact ⟨k, ns', ss', vn', vs', h1, h2, (MkTo.of_below hb).trans h3, h4⟩
theorem own_anyM (v : Value) : v.ownBlock = none ∨ v.ownBlock ≠ none := by cases v.ownBlock <;> simp

set_option maxRecDepth 100000 in
set_option maxHeartbeats 4000000 in
theorem last_any (s back deep : Int) (q : Nat) (vn vs : Value) (av : Nat → Prop) (ns : List NodeD) (ss : List Int) (w : World) (hI : MkIn w q vn vs av ns ss) (hM : Mk ns ss) (hn : ns.length ≤ 900) (hi : I64 back) (hs : SortK s) :
    Calls Try.prog 55 #[.pointer (some ⟨q, 0, none⟩), .int .i64 s, .int .i64 back, .int .i64 deep] w (GotP w q vn vs av ns ss s 1) := by
  obtain ⟨As, cs, hvs, hcs, hcsm, hread⟩ := hI.sorts.reads (E := AtInt) tells_int (fun _ _ _ _ _ h => atV_int.1 h) (S' := fun b => b < w.heap.size) (fun b hb => False.elim hb) (fun g hg => (hI.sorts.lt g hg).2)
  subst hvs
  have x1 : w.cell? ⟨q, 1, none⟩ = some (.slice As ss.length cs) := hI.blk.cell 1
  have hlen : ss.length ≤ 900 := by rw [hM.len]; exact hn
  have hql := hI.lt
  have HI := Lib.hid (And.intro hI (And.intro hM (And.intro hn hs)))
  have HR := Lib.hid hread
  have HB := Lib.hid hi
  clear hI hM hs hread hi hn hcs hcsm
  go_enter Try.func55, Try.ntmps55
  go_wp2_with fail
  go_loopw [9, 10] (fun v1 i wr => ∃ (j : Nat) (L : List Int), j ≤ ss.length ∧ i = .int .i64 ((j : Int) - 1) ∧ OwnV VInt 3 1 wr w.heap.size (fun _ => False) v1 L ∧ L.length + j ≤ ss.length ∧ Hid (∀ x ∈ L, ∃ k : Nat, x = k ∧ ss[k]? = some s) ∧ Below w.heap.size w wr) (fun _ i _ => (intOf i + 1).toNat)
  case atStart => exact ⟨ss.length, [], Nat.le_refl _, rfl, OwnV.none_ _ _ _ _ _ _, by simp, (fun x hx => by simp at hx), Below.refl _ _⟩
  case round =>
    obtain ⟨j, L, hj, rfl, hown, hL, HL, hbel⟩ := hrel
    have y1 : wr.cell? ⟨q, 1, none⟩ = some (.slice As ss.length cs) := (hbel.cell (p := ⟨q, 1, none⟩) hql).trans x1
    rcases j with _ | j
    · rw [show ((0 : Nat) : Int) - 1 = -1 from rfl]
      obtain ⟨A5, c5, rfl, hc5, hc5m, hread⟩ := hown.reads (E := AtInt) tells_int (fun _ _ _ _ _ h => atV_int.1 h) (S' := fun b => b < wr.heap.size) (fun b hb => False.elim hb) (fun g hg => (hown.lt g hg).2)
      have HW := Lib.hid (And.intro hbel (HI.out.1.below hbel))
      have HA := Lib.hid hread
      have hl9 : L.length ≤ 900 := by omega
      clear hown hbel hc5 hc5m hread
      by_cases hL0 : L.length = 0
      · have hLI : ¬ ((0 : Int) < (L.length : Int)) := by omega
        have hLN : ¬ 0 < L.length := by omega
        clear hL0
        go_wp2_with (go_at_call 85; refine (leaf_any s back q _ _ av ns ss _ HW.out.2 HI.out.2.1 HI.out.2.2.1 HB.out HI.out.2.2.2).mono ?_; intro e w' h'; obtain ⟨k', ns', ss', vn', vs', he', h''⟩ := h'; subst he'; have HG := Lib.hid h''; clear h'')
        go_ret
        exact GotP.pre ⟨k', ns', ss', vn', vs', rfl, HG.out⟩ HW.out.1
      · have hLI : ((0 : Int) < (L.length : Int)) := by omega
        have hLN : 0 < L.length := by omega
        have hP : ∃ r : Nat, wrap64 (back.tdiv 3) % (L.length : Int) = (r : Int) ∧ r < L.length := by
          have h1 := Int.emod_nonneg (wrap64 (back.tdiv 3)) (show (L.length : Int) ≠ 0 by omega)
          have h2 := Int.emod_lt_of_pos (wrap64 (back.tdiv 3)) hLI
          exact ⟨(wrap64 (back.tdiv 3) % (L.length : Int)).toNat, by omega, by omega⟩
        obtain ⟨r, hr, hrlt⟩ := hP
        obtain ⟨b5, off5, hx5, rfl, hb5, hc5, hw0, hw1⟩ := ints_get HA.out hrlt
        obtain ⟨k, hk, hks⟩ := HL.out _ (List.getElem_mem hx5)
        rw [hk] at hc5
        have hrI : (r : Int) < (L.length : Int) := by omega
        have HP := Lib.hid hr
        have HK := Lib.hid hks
        clear hL0 hr hk hks hx5 hw0 hw1 hb5
        by_cases hd : deep = 0
        · subst hd
          go_wp2_with (go_at_call 13; (with_reducible refine (picked_any (wrap64 (back.tdiv 3)) (L.length : Int) _ _ (wrapM_i64 _) (by omega) (by omega) HP.out).mono ?_); rintro e w' ⟨rfl, rfl⟩)
          go_ret
          exact ⟨k, ns, ss, _, _, rfl, HW.out.2, MkTo.of_below HW.out.1, HI.out.2.1, List.prefix_refl _, HK.out, by omega⟩
        · have hdb : (deep == 0) = false := by rw [beq_eq_false_iff_ne]; exact hd
          by_cases hb3 : 0 < back.tmod 3
          · go_wp2_with (first | (go_at_call 13; (with_reducible refine (picked_any (wrap64 (back.tdiv 3)) (L.length : Int) _ _ (wrapM_i64 _) (by omega) (by omega) HP.out).mono ?_); rintro e w' ⟨rfl, rfl⟩) | (go_at_call 85; refine (leaf_any s back q _ _ av ns ss _ HW.out.2 HI.out.2.1 HI.out.2.2.1 HB.out HI.out.2.2.2).mono ?_; intro e w' h'; obtain ⟨k', ns', ss', vn', vs', he', h''⟩ := h'; subst he'; have HG := Lib.hid h''; clear h''))
            go_ret
            exact ⟨k, ns, ss, _, _, rfl, HW.out.2, MkTo.of_below HW.out.1, HI.out.2.1, List.prefix_refl _, HK.out, by omega⟩
          · go_wp2_with (first | (go_at_call 13; (with_reducible refine (picked_any (wrap64 (back.tdiv 3)) (L.length : Int) _ _ (wrapM_i64 _) (by omega) (by omega) HP.out).mono ?_); rintro e w' ⟨rfl, rfl⟩) | (go_at_call 85; refine (leaf_any s back q _ _ av ns ss _ HW.out.2 HI.out.2.1 HI.out.2.2.1 HB.out HI.out.2.2.2).mono ?_; intro e w' h'; obtain ⟨k', ns', ss', vn', vs', he', h''⟩ := h'; subst he'; have HG := Lib.hid h''; clear h''))
            go_ret
            exact GotP.pre ⟨k', ns', ss', vn', vs', rfl, HG.out⟩ HW.out.1
    · rw [show ((j + 1 : Nat) : Int) - 1 = (j : Int) from by omega]
      have hlt : j < ss.length := by omega
      obtain ⟨b4, off4, hx4, rfl, hb4, hc4, hv0, hv1⟩ := ints_get (ArrB.below HR.out stays_int hbel (Nat.le_refl _)) hlt
      have hsj : ss[j]? = some ss[j] := List.getElem?_eq_getElem hx4
      have hbn := Blk.new wr 3 #[.int .i64 (j : Int)]
      have hown2 : OwnV VInt 3 1 (wr.alloc (.cells #[.int .i64 (j : Int)] 3)) w.heap.size (fun _ => False) u9 L := hown.kept tells_int (only_alloc (only_refl _ _) _) (own_anyM _) (S' := fun _ => False) (fun _ hb => False.elim hb)
      have HO := Lib.hid (And.intro hown (And.intro hown2 (And.intro hbn hbel)))
      have hbs : w.heap.size ≤ wr.heap.size := hbel.size
      have HSJ := Lib.hid hsj
      generalize ss[j] = v at hc4 HSJ hv0 hv1
      clear hx4 hb4 hown hown2 hbn hbel hsj
      by_cases hv : v = s
      · subst hv
        have hvb : (v == v) = true := by rw [beq_iff_eq]
        have hIj : I64 (j : Int) := by unfold I64; omega
        have HIJ := Lib.hid hIj
        clear hIj
        go_wp2_with (at_builtin; refine wpList_append_item rfl _ _ _ rfl rowIntsM tells_int (v := u9) (xs := L) (base := w.heap.size) (S := fun _ => False) rfl HO.out.2.1 (g := wr.heap.size) (cs := #[.int .i64 (j : Int)]) rfl HO.out.2.2.1 (y := (j : Int)) ⟨rfl, HIJ.out⟩ (fun b h => h.elim) (by unfold maxLen; omega) (by omega) (by simp; omega) ?_; intro v6 w6 hown6 hgrow6 _; have HB6 := Lib.hid (And.intro hown6 hgrow6); clear hown6 hgrow6)
        go_roundw
        case rel =>
          refine ⟨j, L ++ [(j : Int)], by omega, by go_num, HB6.out.1, by simp; omega, fun x hx => ?_, below_then (HO.out.2.2.2.alloc hbs _) HB6.out.2 (by simp; omega) (fun x hx => (HO.out.1.lt x hx).1)⟩
          rcases List.mem_append.1 hx with hx | hx
          · exact HL.out x hx
          · exact ⟨j, by simpa using hx, HSJ.out⟩
        case measure => simp [intOf]
      · have hvb : (v == s) = false := by rw [beq_eq_false_iff_ne]; exact hv
        go_wp2_with fail
        go_roundw
        case rel => exact ⟨j, L, by omega, by go_num, HO.out.1, by omega, HL, HO.out.2.2.2⟩
        case measure => simp [intOf]

set_option maxRecDepth 100000 in
set_option maxHeartbeats 4000000 in
theorem number_any (n deep : Int) (q : Nat) (vn vs : Value) (av : Nat → Prop) (ns : List NodeD) (ss : List Int) (w : World) (hI : MkIn w q vn vs av ns ss) (hM : Mk ns ss) (hn : ns.length ≤ 900) (hi : I64 n) :
    ∃ s, (s = 2 ∨ s = 3) ∧ Calls Try.prog 56 #[.pointer (some ⟨q, 0, none⟩), .int .i64 n, .int .i64 deep] w (GotP w q vn vs av ns ss s 1) := by
  have HI := Lib.hid (And.intro hI (And.intro hM hn))
  have HB := Lib.hid hi
  obtain ⟨k, hk⟩ : ∃ k, n % 5 = k := ⟨_, rfl⟩
  have HK := Lib.hid hk
  clear hI hM hn hi hk
  by_cases h0 : k = 0
  · subst h0
    refine ⟨3, .inr rfl, ?_⟩
    go_enter Try.func56, Try.ntmps56
    go_wp2_with (first | (go_at_call 13; (with_reducible refine (picked_any n 5 _ _ HB.out (by omega) (by omega) HK.out).mono ?_); rintro e w' ⟨rfl, rfl⟩) | (go_at_call 55; refine (last_any 3 (wrap64 (n.tdiv 5)) deep q vn vs av ns ss _ HI.out.1 HI.out.2.1 HI.out.2.2 (wrapM_i64 _) (by simp [SortK])).mono ?_; intro e w' h'; obtain ⟨k', ns', ss', vn', vs', he', h''⟩ := h'; subst he'; have HG := Lib.hid h''; clear h''))
    go_ret
    exact ⟨k', ns', ss', vn', vs', rfl, HG.out⟩
  · have hkb : (k == 0) = false := by rw [beq_eq_false_iff_ne]; exact h0
    refine ⟨2, .inl rfl, ?_⟩
    go_enter Try.func56, Try.ntmps56
    go_wp2_with (first | (go_at_call 13; (with_reducible refine (picked_any n 5 _ _ HB.out (by omega) (by omega) HK.out).mono ?_); rintro e w' ⟨rfl, rfl⟩) | (go_at_call 55; refine (last_any 2 (wrap64 (n.tdiv 5)) deep q vn vs av ns ss _ HI.out.1 HI.out.2.1 HI.out.2.2 (wrapM_i64 _) (by simp [SortK])).mono ?_; intro e w' h'; obtain ⟨k', ns', ss', vn', vs', he', h''⟩ := h'; subst he'; have HG := Lib.hid h''; clear h''))
    go_ret
    exact ⟨k', ns', ss', vn', vs', rfl, HG.out⟩
end Go.Proofs.Ythooecojopfjbaa
