/- Walks: the maker's method grow, kinds 1 2 10 11. -/
import Derived.Test.YthooecojopfjbaaMkF
import Derived.Deep.RegionWith
namespace Go.Proofs.Ythooecojopfjbaa
open Go.RowKit

set_option maxRecDepth 100000 in
set_option maxHeartbeats 4000000 in
theorem grow1_any (a b c : Int) (q : Nat) (vn vs : Value) (ns : List NodeD) (ss : List Int) (w : World) (hI : MkIn w q vn vs (fun b => (Value.slice none 0 0).ownBlock = some b) ns ss) (hM : Mk ns ss) (hn : ns.length ≤ 800) (ha : I64 a) (hb : I64 b) (hc : I64 c) (hk : a % 22 = 1) :
    Calls Try.prog 31 #[.pointer (some ⟨q, 0, none⟩), .int .i64 a, .int .i64 b, .int .i64 c, .int .i64 0] w (GrowP w q vn vs ns ss) := by
  have HG0 := Lib.hid (Grew.start hI hM)
  have HA0 := Lib.hid (Has.nil ss)
  have HB := Lib.hid (And.intro ha (And.intro hb hc))
  obtain ⟨d, hd⟩ : ∃ d, wrap64 (a.tdiv 22) % 4 = d := ⟨_, rfl⟩
  have hd4 : d = 0 ∨ d = 1 ∨ d = 2 ∨ d = 3 := by omega
  have HD := Lib.hid hd
  have HR := Lib.hid hk
  clear hI hM ha hb hc hk hd
  go_enter Try.func31, Try.ntmps31
  go_wp2_with fail
  with_reducible refine (picked_any a 22 _ _ HB.out.1 (by omega) (by omega) HR.out).mono ?_
  rintro e w' ⟨rfl, rfl⟩
  go_wp2_with fail
  with_reducible refine (picked_any (wrap64 (a.tdiv 22)) 4 _ _ (wrapM_i64 _) (by omega) (by omega) HD.out).mono ?_
  rintro e w' ⟨rfl, rfl⟩
  go_wp2_with fail
  go_loopw [14, 15] (fun v14 i wr => ∃ (j : Nat) (vn1 vs1 : Value) (ns1 : List NodeD) (ss1 : List Int) (l : List Nat), i = .int .i64 (j : Int) ∧ (j : Int) ≤ d ∧ l.length = j ∧ Hid (Grew w q vn vs ns ss j wr vn1 vs1 v14 (kidsZ l) ns1 ss1) ∧ Hid (Has ss1 l (List.replicate j 1))) (fun _ i _ => (d - intOf i).toNat)
  case atStart => exact ⟨0, vn, vs, ns, ss, [], rfl, by omega, rfl, HG0, HA0⟩
  case round =>
    obtain ⟨j, vn1, vs1, ns1, ss1, l, rfl, hj, hl, HG1, HA1⟩ := hrel
    have hkl : (kidsZ l).length = j := by simp [kidsZ, hl]
    have hj3 : j ≤ 3 := by omega
    by_cases hjd : (j : Int) < d
    · have hj1 : ((j : Int) + 1 == 0) = false := by rw [beq_eq_false_iff_ne]; omega
      go_wp2_with fail
      refine (last_grew 1 _ _ HG1.out (Below.refl _ _) (by omega) (wrapM_i64 _) (by simp [SortK])).mono ?_
      rintro e w2 ⟨k2, vn2, vs2, ns2, ss2, rfl, hG, hp, hk⟩
      have hGa := hG.below ((Below.refl _ _).alloc (Nat.le_refl _) (.cells #[.int .i64 (k2 : Int)] 3))
      have HG2 := Lib.hid hGa
      have HR2 := Lib.hid (And.intro hGa.row (Blk.new w2 3 #[.int .i64 (k2 : Int)]))
      have HA2 := Lib.hid (Has.app (HA1.out.more hp) (Has.one hk))
      have hk9 : k2 < ss2.length := (List.getElem?_eq_some_iff.1 hk).1
      have hb9 : w.heap.size ≤ (w2.alloc (.cells #[.int .i64 (k2 : Int)] 3)).heap.size := hGa.to.size
      have hle := hG.le
      have hlen := hG.len
      have hIk : I64 (k2 : Int) := by unfold I64; omega
      have HIK := Lib.hid (And.intro hIk hb9)
      clear hG hp hk hGa hIk hb9
      go_wp2_with (at_builtin; refine wpList_append_item rfl _ _ _ rfl rowIntsM tells_int (v := u14) (xs := kidsZ l) (base := w.heap.size) (S := fun _ => False) rfl HR2.out.1 (g := w2.heap.size) (cs := #[.int .i64 (k2 : Int)]) rfl HR2.out.2 (y := (k2 : Int)) ⟨rfl, HIK.out.1⟩ (fun b h => h.elim) (by unfold maxLen; omega) (by omega) HIK.out.2 ?_; intro v6 w6 hown6 hgrow6 hat6; have HB6 := Lib.hid (HG2.out.add hown6 hgrow6 hat6); clear hown6 hgrow6 hat6)
      go_roundw
      case rel => exact ⟨j + 1, vn2, vs2, ns2, ss2, l ++ [k2], by go_num, by omega, by simp [hl], by rw [show kidsZ (l ++ [k2]) = kidsZ l ++ [(k2 : Int)] by simp [kidsZ]]; exact HB6, by rw [List.replicate_succ']; exact HA2⟩
      case measure => simp [intOf]; omega
    · have hjd2 : (j : Int) = d := by omega
      obtain ⟨A5, c5, rfl, hc5, hm5, hk5⟩ := row_kids HG1.out
      rw [hkl] at hk5 hc5
      have HK5 := Lib.hid (And.intro hk5 (And.intro hc5 hm5))
      clear hk5 hc5 hm5
      go_wp2_with fail
      refine (put_grew HG1.out (Below.refl _ _) (by omega) HK5.out.1 HK5.out.2.1 HK5.out.2.2 (mk_junction HG1.out.len HA1.out (by omega) (by omega)) (by omega) (by omega) (by omega) (Nat.zero_le _) (by omega)).mono ?_
      rintro e w9 ⟨k9, vn9, vs9, ns9, ss9, rfl, hG⟩
      have HG9 := Lib.hid hG
      clear hG
      go_wp2_with fail
      go_end0
      exact ⟨rfl, vn9, vs9, ns9, ss9, HG9.out.more (by omega)⟩

set_option maxRecDepth 100000 in
set_option maxHeartbeats 4000000 in
theorem grow2_any (a b c : Int) (q : Nat) (vn vs : Value) (ns : List NodeD) (ss : List Int) (w : World) (hI : MkIn w q vn vs (fun b => (Value.slice none 0 0).ownBlock = some b) ns ss) (hM : Mk ns ss) (hn : ns.length ≤ 800) (ha : I64 a) (hb : I64 b) (hc : I64 c) (hk : a % 22 = 2) :
    Calls Try.prog 31 #[.pointer (some ⟨q, 0, none⟩), .int .i64 a, .int .i64 b, .int .i64 c, .int .i64 0] w (GrowP w q vn vs ns ss) := by
  have HG0 := Lib.hid (Grew.start hI hM)
  have HA0 := Lib.hid (Has.nil ss)
  have HB := Lib.hid (And.intro ha (And.intro hb hc))
  obtain ⟨d, hd⟩ : ∃ d, wrap64 (a.tdiv 22) % 4 = d := ⟨_, rfl⟩
  have hd4 : d = 0 ∨ d = 1 ∨ d = 2 ∨ d = 3 := by omega
  have HD := Lib.hid hd
  have HR := Lib.hid hk
  clear hI hM ha hb hc hk hd
  go_enter Try.func31, Try.ntmps31
  go_wp2_with fail
  with_reducible refine (picked_any a 22 _ _ HB.out.1 (by omega) (by omega) HR.out).mono ?_
  rintro e w' ⟨rfl, rfl⟩
  go_wp2_with fail
  with_reducible refine (picked_any (wrap64 (a.tdiv 22)) 4 _ _ (wrapM_i64 _) (by omega) (by omega) HD.out).mono ?_
  rintro e w' ⟨rfl, rfl⟩
  go_wp2_with fail
  go_loopw [14, 15] (fun v14 i wr => ∃ (j : Nat) (vn1 vs1 : Value) (ns1 : List NodeD) (ss1 : List Int) (l : List Nat), i = .int .i64 (j : Int) ∧ (j : Int) ≤ d ∧ l.length = j ∧ Hid (Grew w q vn vs ns ss j wr vn1 vs1 v14 (kidsZ l) ns1 ss1) ∧ Hid (Has ss1 l (List.replicate j 1))) (fun _ i _ => (d - intOf i).toNat)
  case atStart => exact ⟨0, vn, vs, ns, ss, [], rfl, by omega, rfl, HG0, HA0⟩
  case round =>
    obtain ⟨j, vn1, vs1, ns1, ss1, l, rfl, hj, hl, HG1, HA1⟩ := hrel
    have hkl : (kidsZ l).length = j := by simp [kidsZ, hl]
    have hj3 : j ≤ 3 := by omega
    by_cases hjd : (j : Int) < d
    · have hj1 : ((j : Int) + 1 == 0) = false := by rw [beq_eq_false_iff_ne]; omega
      go_wp2_with fail
      refine (last_grew 1 _ _ HG1.out (Below.refl _ _) (by omega) (wrapM_i64 _) (by simp [SortK])).mono ?_
      rintro e w2 ⟨k2, vn2, vs2, ns2, ss2, rfl, hG, hp, hk⟩
      have hGa := hG.below ((Below.refl _ _).alloc (Nat.le_refl _) (.cells #[.int .i64 (k2 : Int)] 3))
      have HG2 := Lib.hid hGa
      have HR2 := Lib.hid (And.intro hGa.row (Blk.new w2 3 #[.int .i64 (k2 : Int)]))
      have HA2 := Lib.hid (Has.app (HA1.out.more hp) (Has.one hk))
      have hk9 : k2 < ss2.length := (List.getElem?_eq_some_iff.1 hk).1
      have hb9 : w.heap.size ≤ (w2.alloc (.cells #[.int .i64 (k2 : Int)] 3)).heap.size := hGa.to.size
      have hle := hG.le
      have hlen := hG.len
      have hIk : I64 (k2 : Int) := by unfold I64; omega
      have HIK := Lib.hid (And.intro hIk hb9)
      clear hG hp hk hGa hIk hb9
      go_wp2_with (at_builtin; refine wpList_append_item rfl _ _ _ rfl rowIntsM tells_int (v := u14) (xs := kidsZ l) (base := w.heap.size) (S := fun _ => False) rfl HR2.out.1 (g := w2.heap.size) (cs := #[.int .i64 (k2 : Int)]) rfl HR2.out.2 (y := (k2 : Int)) ⟨rfl, HIK.out.1⟩ (fun b h => h.elim) (by unfold maxLen; omega) (by omega) HIK.out.2 ?_; intro v6 w6 hown6 hgrow6 hat6; have HB6 := Lib.hid (HG2.out.add hown6 hgrow6 hat6); clear hown6 hgrow6 hat6)
      go_roundw
      case rel => exact ⟨j + 1, vn2, vs2, ns2, ss2, l ++ [k2], by go_num, by omega, by simp [hl], by rw [show kidsZ (l ++ [k2]) = kidsZ l ++ [(k2 : Int)] by simp [kidsZ]]; exact HB6, by rw [List.replicate_succ']; exact HA2⟩
      case measure => simp [intOf]; omega
    · have hjd2 : (j : Int) = d := by omega
      obtain ⟨A5, c5, rfl, hc5, hm5, hk5⟩ := row_kids HG1.out
      rw [hkl] at hk5 hc5
      have HK5 := Lib.hid (And.intro hk5 (And.intro hc5 hm5))
      clear hk5 hc5 hm5
      go_wp2_with fail
      refine (put_grew HG1.out (Below.refl _ _) (by omega) HK5.out.1 HK5.out.2.1 HK5.out.2.2 (mk_junction HG1.out.len HA1.out (by omega) (by omega)) (by omega) (by omega) (by omega) (Nat.zero_le _) (by omega)).mono ?_
      rintro e w9 ⟨k9, vn9, vs9, ns9, ss9, rfl, hG⟩
      have HG9 := Lib.hid hG
      clear hG
      go_wp2_with fail
      go_end0
      exact ⟨rfl, vn9, vs9, ns9, ss9, HG9.out.more (by omega)⟩

set_option maxRecDepth 100000 in
set_option maxHeartbeats 4000000 in
theorem grow10_any (a b c : Int) (q : Nat) (vn vs : Value) (ns : List NodeD) (ss : List Int) (w : World) (hI : MkIn w q vn vs (fun b => (Value.slice none 0 0).ownBlock = some b) ns ss) (hM : Mk ns ss) (hn : ns.length ≤ 800) (ha : I64 a) (hb : I64 b) (hc : I64 c) (hk : a % 22 = 10) :
    Calls Try.prog 31 #[.pointer (some ⟨q, 0, none⟩), .int .i64 a, .int .i64 b, .int .i64 c, .int .i64 0] w (GrowP w q vn vs ns ss) := by
  have HG0 := Lib.hid (Grew.start hI hM)
  have HA0 := Lib.hid (Has.nil ss)
  have HB := Lib.hid (And.intro ha (And.intro hb hc))
  obtain ⟨d, hd⟩ : ∃ d, wrap64 (a.tdiv 22) % 4 = d := ⟨_, rfl⟩
  have hd4 : d = 0 ∨ d = 1 ∨ d = 2 ∨ d = 3 := by omega
  have HD := Lib.hid hd
  have HR := Lib.hid hk
  clear hI hM ha hb hc hk hd
  go_enter Try.func31, Try.ntmps31
  go_wp2_with fail
  with_reducible refine (picked_any a 22 _ _ HB.out.1 (by omega) (by omega) HR.out).mono ?_
  rintro e w' ⟨rfl, rfl⟩
  go_wp2_with fail
  with_reducible refine (picked_any (wrap64 (a.tdiv 22)) 4 _ _ (wrapM_i64 _) (by omega) (by omega) HD.out).mono ?_
  rintro e w' ⟨rfl, rfl⟩
  go_wp2_with fail
  go_loopw [23, 24, 25] (fun v23 v24 i wr => ∃ (j : Nat) (vn1 vs1 : Value) (ns1 : List NodeD) (ss1 : List Int) (l : List Nat) (sl : List Int), v24 = .int .i64 (sumS sl) ∧ i = .int .i64 (j : Int) ∧ (j : Int) ≤ d ∧ l.length = j ∧ sl.length = j ∧ Hid (Grew w q vn vs ns ss j wr vn1 vs1 v23 (kidsZ l) ns1 ss1) ∧ Hid (Has ss1 l sl) ∧ Hid (∀ s ∈ sl, s = 2 ∨ s = 3)) (fun _ _ i _ => (d - intOf i).toNat)
  case atStart => exact ⟨0, vn, vs, ns, ss, [], [], rfl, rfl, by omega, rfl, rfl, HG0, HA0, (fun s hs => by simp at hs)⟩
  case round =>
    obtain ⟨j, vn1, vs1, ns1, ss1, l, sl, rfl, rfl, hj, hl, hsl, HG1, HA1, HS1⟩ := hrel
    have hkl : (kidsZ l).length = j := by simp [kidsZ, hl]
    have hj3 : j ≤ 3 := by omega
    by_cases hjd : (j : Int) < d
    · have hj1 : ((j : Int) + 1 == 0) = false := by rw [beq_eq_false_iff_ne]; omega
      go_wp2_with fail
      obtain ⟨s2, hs2, hc⟩ := number_grew _ 1 HG1.out (Below.refl _ _) (by omega) (wrapM_i64 _)
      refine hc.mono ?_
      clear hc
      rintro e w2 ⟨k2, vn2, vs2, ns2, ss2, rfl, hG, hp, hk⟩
      have hGa := hG.below ((Below.refl _ _).alloc (Nat.le_refl _) (.cells #[.int .i64 (k2 : Int)] 3))
      have HG2 := Lib.hid hGa
      have HR2 := Lib.hid (And.intro hGa.row (Blk.new w2 3 #[.int .i64 (k2 : Int)]))
      have HA2 := Lib.hid (Has.app (HA1.out.more hp) (Has.one hk))
      have hk9 : k2 < ss2.length := (List.getElem?_eq_some_iff.1 hk).1
      have hb9 : w.heap.size ≤ (w2.alloc (.cells #[.int .i64 (k2 : Int)] 3)).heap.size := hGa.to.size
      have hle := hG.le
      have hlen := hG.len
      have hIk : I64 (k2 : Int) := by unfold I64; omega
      have HIK := Lib.hid (And.intro hIk hb9)
      have HG3 := Lib.hid hG
      obtain ⟨As, cs, hvs, hcs, hcsm, hrd⟩ := HG3.out.isIn.sorts.reads (E := AtInt) tells_int (fun _ _ _ _ _ h => atV_int.1 h) (S' := fun b => b < w2.heap.size) (fun b hb => False.elim hb) (fun g hg => (HG3.out.isIn.sorts.lt g hg).2)
      subst hvs
      have y1 : w2.cell? ⟨q, 1, none⟩ = some (.slice As ss2.length cs) := HG3.out.isIn.blk.cell 1
      obtain ⟨b4, off4, hx4, rfl, hb4, hc4, hv0, hv1⟩ := ints_get hrd hk9
      rw [(List.getElem?_eq_some_iff.1 hk).2] at hc4 hv0 hv1
      clear hG hp hk hGa hIk hb9 hcs hcsm hrd hx4 hb4 hv0 hv1
      have HT := Lib.hid (And.intro hs2 HS1.out)
      rcases hs2 with rfl | rfl
      all_goals
        go_wp2_with (at_builtin; refine wpList_append_item rfl _ _ _ rfl rowIntsM tells_int (v := u23) (xs := kidsZ l) (base := w.heap.size) (S := fun _ => False) rfl HR2.out.1 (g := w2.heap.size) (cs := #[.int .i64 (k2 : Int)]) rfl HR2.out.2 (y := (k2 : Int)) ⟨rfl, HIK.out.1⟩ (fun b h => h.elim) (by unfold maxLen; omega) (by omega) HIK.out.2 ?_; intro v6 w6 hown6 hgrow6 hat6; have HB6 := Lib.hid (HG2.out.add hown6 hgrow6 hat6); clear hown6 hgrow6 hat6)
        go_roundw
        case rel =>
          refine ⟨j + 1, vn2, _, ns2, ss2, l ++ [k2], sl ++ [_], ?_, by go_num, by omega, by simp [hl], by simp [hsl], by rw [show kidsZ (l ++ [k2]) = kidsZ l ++ [(k2 : Int)] by simp [kidsZ]]; exact HB6, HA2, ?_⟩
          · first | rw [sumS_two] | rw [sumS_three]
          · intro s hs; rcases List.mem_append.1 hs with h1 | h1; exact HT.out.2 s h1; rw [List.mem_singleton] at h1; subst h1; first | exact .inl rfl | exact .inr rfl
        case measure => simp [intOf]; omega
    · have hjd2 : (j : Int) = d := by omega
      obtain ⟨A5, c5, rfl, hc5, hm5, hk5⟩ := row_kids HG1.out
      rw [hkl] at hk5 hc5
      have HK5 := Lib.hid (And.intro hk5 (And.intro hc5 hm5))
      clear hk5 hc5 hm5
      have hss := sumS_or sl
      go_wp2_with fail
      refine (put_grew HG1.out (Below.refl _ _) (by omega) HK5.out.1 HK5.out.2.1 HK5.out.2.2 (mk_add HG1.out.len HA1.out (by omega) HS1.out) (by omega) (by omega) (by omega) (Nat.zero_le _) (by omega)).mono ?_
      rintro e w9 ⟨k9, vn9, vs9, ns9, ss9, rfl, hG⟩
      have HG9 := Lib.hid hG
      clear hG
      go_wp2_with fail
      go_end0
      exact ⟨rfl, vn9, vs9, ns9, ss9, HG9.out.more (by omega)⟩

set_option maxRecDepth 100000 in
set_option maxHeartbeats 4000000 in
theorem grow11_any (a b c : Int) (q : Nat) (vn vs : Value) (ns : List NodeD) (ss : List Int) (w : World) (hI : MkIn w q vn vs (fun b => (Value.slice none 0 0).ownBlock = some b) ns ss) (hM : Mk ns ss) (hn : ns.length ≤ 800) (ha : I64 a) (hb : I64 b) (hc : I64 c) (hk : a % 22 = 11) :
    Calls Try.prog 31 #[.pointer (some ⟨q, 0, none⟩), .int .i64 a, .int .i64 b, .int .i64 c, .int .i64 0] w (GrowP w q vn vs ns ss) := by
  have HG0 := Lib.hid (Grew.start hI hM)
  have HA0 := Lib.hid (Has.nil ss)
  have HB := Lib.hid (And.intro ha (And.intro hb hc))
  obtain ⟨d, hd⟩ : ∃ d, wrap64 (a.tdiv 22) % 4 = d := ⟨_, rfl⟩
  have hd4 : d = 0 ∨ d = 1 ∨ d = 2 ∨ d = 3 := by omega
  have HD := Lib.hid hd
  have HR := Lib.hid hk
  clear hI hM ha hb hc hk hd
  go_enter Try.func31, Try.ntmps31
  go_wp2_with fail
  with_reducible refine (picked_any a 22 _ _ HB.out.1 (by omega) (by omega) HR.out).mono ?_
  rintro e w' ⟨rfl, rfl⟩
  go_wp2_with fail
  with_reducible refine (picked_any (wrap64 (a.tdiv 22)) 4 _ _ (wrapM_i64 _) (by omega) (by omega) HD.out).mono ?_
  rintro e w' ⟨rfl, rfl⟩
  obtain ⟨r3, hr3⟩ : ∃ r3, c % 3 = r3 := ⟨_, rfl⟩
  have h30 : r3 = 0 ∨ r3 = 1 ∨ r3 = 2 := by omega
  have HR3 := Lib.hid hr3
  obtain ⟨r7, hr7⟩ : ∃ r7, c % 7 = r7 := ⟨_, rfl⟩
  have h70 : 0 ≤ r7 := by omega
  have h71 : r7 < 7 := by omega
  have HR7 := Lib.hid hr7
  clear hr3 hr7
  go_wp2_with fail
  obtain ⟨s1, hs1, hc⟩ := number_grew b 1 HG0.out (by first | exact Below.refl _ _ | exact (Below.refl _ _).alloc (Nat.le_refl _) _) (by omega) HB.out.2.1
  refine hc.mono ?_
  clear hc
  rintro e w1 ⟨k1, vn1, vs1, ns1, ss1, rfl, hG, hp, hk⟩
  have HG1 := Lib.hid hG
  have HA1 := Lib.hid (Has.app (HA0.out.more hp) (Has.one hk))
  have HS := Lib.hid hs1
  have hk9 : k1 < ss1.length := (List.getElem?_eq_some_iff.1 hk).1
  obtain ⟨As, cs, hvs, hcs, hcsm, hrd⟩ := HG1.out.isIn.sorts.reads (E := AtInt) tells_int (fun _ _ _ _ _ h => atV_int.1 h) (S' := fun b => b < w1.heap.size) (fun b hb => False.elim hb) (fun g hg => (HG1.out.isIn.sorts.lt g hg).2)
  subst hvs
  have y1 : w1.cell? ⟨q, 1, none⟩ = some (.slice As ss1.length cs) := HG1.out.isIn.blk.cell 1
  obtain ⟨b4, off4, hx4, rfl, hb4, hc4, hv0, hv1⟩ := ints_get hrd hk9
  rw [(List.getElem?_eq_some_iff.1 hk).2] at hc4
  have hqw : q < w1.heap.size := HG1.out.isIn.lt
  clear hG hp hk hcs hcsm hrd hx4 hv0 hv1
  by_cases hd0 : d = 0
  · subst hd0
    go_wp2_with fail
    with_reducible refine (picked_any c 3 _ _ HB.out.2.2 (by omega) (by omega) HR3.out).mono ?_
    rintro e w8 ⟨rfl, rfl⟩
    rcases h30 with rfl | rfl | rfl
    all_goals
      go_wp2_with fail
      refine (put_grew HG1.out (by first | exact Below.refl _ _ | exact (Below.refl _ _).alloc (Nat.le_refl _) _) (by omega) (lit_kids (l := [k1]) HG1.out (Nat.le_refl _) (Blk.new _ _ _) HA1.out.sorts.2.2 (by omega)) (Nat.le_refl _) (by unfold maxLen; simp) (mk_times HG1.out.len HA1.out HS.out (by omega) (by omega) (by decide) (by simp)) (by omega) (by omega) (by omega) (Nat.zero_le _) (by omega)).mono ?_
      rintro e w9 ⟨k9, vn9, vs9, ns9, ss9, rfl, hG⟩
      have HG9 := Lib.hid hG
      clear hG
      go_wp2_with fail
      go_end0
      exact ⟨rfl, vn9, vs9, ns9, ss9, HG9.out.more (by omega)⟩
  · have hdb : (d == 0) = false := by rw [beq_eq_false_iff_ne]; exact hd0
    go_upto_region 56 with fail
    have h1s : s1 = if s1 = 2 ∧ (1 : Int) = 1 then 2 else 3 := by rcases HS.out with rfl | rfl <;> rfl
    have H1S := Lib.hid h1s
    have HPUT := Lib.hid (put_grew (op := 12) (n := r7 - 3) (d := 1) (s := s1) (nm := { data := #[] }) (W := (w1.alloc (.cells #[.int .i64 (k1 : Int)] 3)).drew) HG1.out ((Below.refl _ _).alloc (Nat.le_refl _) _).drew (by omega) (lit_kids (l := [k1]) HG1.out (Nat.le_refl _) (Blk.drew (Blk.new _ _ _)) HA1.out.sorts.2.2 (by omega)) (Nat.le_refl _) (by unfold maxLen; simp) (mk_times HG1.out.len HA1.out HS.out (by omega) (by omega) (Int.gcd_one_right _) H1S.out) (by omega) (by omega) (by omega) (Nat.zero_le _) (by omega))
    have HW : Hid (IntKind.i64.wrap (r7 - 3) = r7 - 3) := IntWalk.i64_in _ (by omega)
    clear h1s h30 hd4
    go_region_with
      (first
        | (go_simp
           go_at_call 13
           (with_reducible refine (picked_any c 7 _ _ HB.out.2.2 (by omega) (by omega) HR7.out).mono ?_)
           rintro e w8 ⟨rfl, rfl⟩)
        | (go_simp
           go_at_call 54
           rw [HW.out]
           refine HPUT.out.mono ?_
           rintro e w9 ⟨k9, vn9, vs9, ns9, ss9, rfl, hG⟩
           have HG9 := Lib.hid hG
           clear hG)
        | fail)
    all_goals
      go_wp2_with fail
      go_end0
      exact ⟨rfl, vn9, vs9, ns9, ss9, HG9.out.more (by omega)⟩
end Go.Proofs.Ythooecojopfjbaa
