/- Walk: is a world one of an ask: the program. -/
import Derived.Test.YthooecojopfjbaaMeanF
import Derived.Test.YthooecojopfjbaaAskOU
import Derived.Test.YthooecojopfjbaaAskLM
import Derived.RegionTactic
import Derived.Deep.RegionWith
namespace Go.Proofs.Ythooecojopfjbaa
open Go.RowKit

theorem boxes3 (w : World) (t1 t2 t3 : TypeId) (c1 c2 c3 : Array Value) : Below w.heap.size w (((w.alloc (.cells c1 t1)).alloc (.cells c2 t2)).alloc (.cells c3 t3)) ∧ Blk (((w.alloc (.cells c1 t1)).alloc (.cells c2 t2)).alloc (.cells c3 t3)) w.heap.size t1 c1 ∧
    Blk (((w.alloc (.cells c1 t1)).alloc (.cells c2 t2)).alloc (.cells c3 t3)) (w.heap.size + 1) t2 c2 ∧ Blk (((w.alloc (.cells c1 t1)).alloc (.cells c2 t2)).alloc (.cells c3 t3)) (w.heap.size + 2) t3 c3 ∧ (((w.alloc (.cells c1 t1)).alloc (.cells c2 t2)).alloc (.cells c3 t3)).heap.size = w.heap.size + 3 := by
  obtain ⟨h1, h2, h3, h4⟩ := two_boxes w t1 t2 c1 c2
  refine ⟨h1.alloc (by omega) _, h2.alloc _, h3.alloc _, ?_, by simp⟩
  have := Blk.new ((w.alloc (.cells c1 t1)).alloc (.cells c2 t2)) t3 c3
  rwa [h4] at this

theorem means_get {w : World} {B : Nat} {A : Option Addr} {n : Nat} {xs : List MeaningD} (h : ArrB AtMeaning 5 w B A n xs) {i : Nat} (hi : i < n) :
    ∃ (b off : Nat) (hx : i < xs.length) (A' : Option Addr) (n' c' : Nat) (A2 : Option Addr) (n2 c2 : Nat), A = some ⟨b, off, none⟩ ∧ b < B ∧ w.cell? ⟨b, off + i * 5, none⟩ = some (.slice A' n' c') ∧ w.cell? ⟨b, off + i * 5 + 1, none⟩ = some (.int .i64 xs[i].rest.num) ∧
      w.cell? ⟨b, off + i * 5 + 1 + 1, none⟩ = some (.int .i64 xs[i].rest.den) ∧ w.cell? ⟨b, off + i * 5 + 1 + 2, none⟩ = some (.slice A2 n2 c2) ∧ w.cell? ⟨b, off + i * 5 + 1 + 3, none⟩ = some (.int .i64 xs[i].rest.rest) ∧
      ArrB AtEntry 5 w B A' n' xs[i].rows ∧ ArrB AtCell 2 w B A2 n2 xs[i].rest.cells ∧ n' ≤ c' ∧ n2 ≤ 9223372036854775807 := by
  obtain ⟨b, off, hx, e, hb, ⟨A', n', c', h0, h1, h2, h3⟩, h4, h5, ⟨A2, n2, c2, h6, h7, h8, h9⟩, h10⟩ := Arr.get h hi
  unfold maxLen at h2 h8
  exact ⟨b, off, hx, A', n', c', A2, n2, c2, e, hb, h0, h4.1, h5.1, h6, h10.1, h3, h9, h1, by omega⟩

def meanCode (p : DeclD × MeaningD) (_ : Int) : Int := meaningF p.1 p.2
theorem meansF_is (a : AskD) (ms : List MeaningD) : meansF a ms = if ¬ (sortsF a).2.1 = 0 then (sortsF a).2 else if ¬ ms.length = a.decls.length then (9, 0) else firstBad meanCode (a.decls.zip ms) 0 := rfl

set_option maxRecDepth 100000 in
set_option maxHeartbeats 8000000 in
theorem meanCheck_any (A1 A2 A3 : Option Addr) (n1 c1 n2 c2 n3 c3 : Nat) (a : AskD) (AM : Option Addr) (nm cm : Nat) (ms : List MeaningD) (qc qa : Int) (w : World) (ha : AskIn w w.heap.size A1 A2 A3 n1 n2 n3 a) (hc1 : n1 ≤ c1) (hms : ArrB AtMeaning 5 w w.heap.size AM nm ms) (hq : meansF a ms = (qc, qa)) :
    Calls Try.prog 72 #[.agg #[.slice A1 n1 c1, .slice A2 n2 c2, .slice A3 n3 c3], .agg #[.slice AM nm cm]] w fun e w' => e = .returned (.agg #[.int .i64 qc, .int .i64 qa]) ∧ Below w.heap.size w w' := by
  obtain ⟨hb0, hk0, hm0, hf0, hs0⟩ := boxes3 w 26 47 29 #[.slice A1 n1 c1, .slice A2 n2 c2, .slice A3 n3 c3] #[.slice AM nm cm] #[.int .i64 0, .int .i64 0]
  have hlm := hms.len
  have hld := ha.decls.len
  have hMK : ∀ W : World, Below (w.heap.size + 3) (((w.alloc (.cells #[.slice A1 n1 c1, .slice A2 n2 c2, .slice A3 n3 c3] 26)).alloc (.cells #[.slice AM nm cm] 47)).alloc (.cells #[.int .i64 0, .int .i64 0] 29)) W → Below w.heap.size w W ∧ W.cell? ⟨w.heap.size, 0, none⟩ = some (.slice A1 n1 c1) ∧ W.cell? ⟨w.heap.size, 1, none⟩ = some (.slice A2 n2 c2) ∧ W.cell? ⟨w.heap.size, 2, none⟩ = some (.slice A3 n3 c3) ∧
      W.cell? ⟨w.heap.size + 1, 0, none⟩ = some (.slice AM nm cm) ∧ Blk W (w.heap.size + 2) 29 #[.int .i64 0, .int .i64 0] ∧ w.heap.size + 2 < W.heap.size := fun W hW =>
    have h1 := hk0.below hW (by omega)
    have h2 := hm0.below hW (by omega)
    have h3 := hf0.below hW (by omega)
    ⟨hb0.trans (hW.mono (by omega)), h1.cell 0, h1.cell 1, h1.cell 2, h2.cell 0, h3, h3.lt⟩
  generalize hXd : ((w.alloc (.cells #[.slice A1 n1 c1, .slice A2 n2 c2, .slice A3 n3 c3] 26)).alloc (.cells #[.slice AM nm cm] 47)).alloc (.cells #[.int .i64 0, .int .i64 0] 29) = X at hb0 hk0 hm0 hf0 hs0 hMK
  have HXD := Lib.hid hXd
  have MK := Lib.hid hMK
  have H0 := Lib.hid (And.intro hb0 hs0)
  have HRO := Lib.hid (And.intro ha hms)
  have HC1 := Lib.hid hc1
  obtain ⟨rc, ra, hr⟩ : ∃ rc ra, (sortsF a).2 = (rc, ra) := ⟨_, _, rfl⟩
  have hr1 : (sortsF a).2.1 = rc := by rw [hr]
  have HCK := Lib.hid (check_any A1 A2 A3 n1 c1 n2 c2 n3 c3 a rc ra X (ha.below hb0 hb0.size) hc1 hr)
  rw [meansF_is, hlm, hld, hr] at hq
  dsimp only at hq
  have HOK : Hid (rc = 0 → DeclsOk a.decls) := fun h => (sortsF_ok (a := a) (by rw [hr1, h])).2.2.2.2.2.2
  have HN1 := Lib.hid ha.m1
  clear hb0 hk0 hm0 hf0 hs0 hMK hXd ha hms hc1 hr hr1
  obtain ⟨-, x1, x2, x3, x4, -, hzx⟩ := MK.out X (Below.refl _ _)
  go_enter Try.func72, Try.ntmps72
  go_wp2_with fail
  rw [HXD.out]
  refine HCK.out.mono ?_
  rintro e w3 ⟨rfl, hb3⟩
  have hb4 : Below (w.heap.size + 3) X (w3.alloc (.cells #[.int .i64 rc, .int .i64 ra] 29)) := (hb3.mono (by have := H0.out.2; omega)).alloc (by have := hb3.size; have := H0.out.2; omega) _
  have hf4 := Blk.new w3 29 #[.int .i64 rc, .int .i64 ra]
  clear hb3 HCK x1 x2 x3 x4 hzx
  go_upto_region 2 with fail
  generalize w3.alloc (.cells #[.int .i64 rc, .int .i64 ra] 29) = Y at hb4 hf4 ⊢
  generalize w3.heap.size = g at hf4 ⊢
  obtain ⟨hbw, x1, x2, x3, x4, hfb, hzx⟩ := MK.out Y hb4
  have f0 : Y.cell? ⟨g, 0, none⟩ = some (.int .i64 rc) := hf4.cell 0
  have f1 : Y.cell? ⟨g, 1, none⟩ = some (.int .i64 ra) := hf4.cell 1
  have hzg : g < Y.heap.size := hf4.lt
  by_cases hrc : rc = 0
  · subst hrc
    rw [if_neg (by simp)] at hq
    have hdok := HOK.out rfl
    have q0 : ((0 : Int) != 0) = false := by simp
    by_cases hlen : nm = n1
    · subst hlen
      rw [if_neg (by simp)] at hq
      have q1 : ((nm : Int) != (nm : Int)) = false := by simp
      have HBY := Lib.hid hb4
      have HQ := Lib.hid hq
      have HDOK := Lib.hid hdok
      have HL := Lib.hid (And.intro hld hlm)
      clear hb4 hbw hfb hq hdok HOK hf4
      go_wp2_with fail
      clear x1 x2 x3 x4 f0 f1 hzg hzx
      go_loopw [26] (fun s wr => ∃ k : Nat, k ≤ nm ∧ s = .int .i64 k ∧ Below (w.heap.size + 3) X wr ∧ Hid (firstBad meanCode ((a.decls.zip ms).drop k) k = (qc, qa))) (fun s _ => nm - (intOf s).toNat)
      case atStart => exact ⟨0, Nat.zero_le _, rfl, HBY.out, HQ⟩
      case round =>
        clear HBY HQ q0 q1
        obtain ⟨k, hk, rfl, hbel, HK⟩ := hrel
        obtain ⟨hbw, x1, x2, x3, x4, hfb, hzx⟩ := MK.out wr hbel
        by_cases hlt : k < nm
        · obtain ⟨b, off, hx, A', n', c', rfl, hb, h0, h1, h2, hnc', hcm', har, hso, hnm⟩ := decls_get (HRO.out.1.decls.below stays_decl hbw (Nat.le_refl _)) hlt
          have hxm : k < ms.length := by have := HL.out.2; omega
          have e1 := HK.out
          rw [drop_cons (by rw [List.length_zip]; omega), firstBad, List.getElem_zip] at e1
          have h8 := (HDOK.out.2 _ (List.getElem_mem hx)).2.1
          generalize a.decls[k] = d at e1 h0 h2 har hso hnm h8
          obtain ⟨nme, ar, so⟩ := d
          simp only at h0 h2 har hso hnm h8
          have hal := har.len
          obtain ⟨Y2, hY2⟩ : ∃ Y2, wr.alloc (.cells #[.string nme, .slice A' n' c', .int .i64 so] 61) = Y2 := ⟨_, rfl⟩
          have hbY : Below (w.heap.size + 3) X Y2 := by rw [← hY2]; exact hbel.alloc (by omega) _
          have hbn : Blk Y2 wr.heap.size 61 #[.string nme, .slice A' n' c', .int .i64 so] := by rw [← hY2]; exact Blk.new _ _ _
          obtain ⟨hbwY, y1, y2, y3, y4, hfbY, hzY⟩ := MK.out Y2 hbY
          obtain ⟨b', off', hx2, A5, n5, c5, A6, n6, c6, rfl, hb', m0, m1, m2, m3, m4, hmr, hmc, hmn, hmn2⟩ := means_get (HRO.out.2.below stays_meaning hbwY (Nat.le_refl _)) hlt
          generalize ms[k] = m at e1 m1 m2 m4 hmr hmc
          obtain ⟨rows, num, den, cells, rest⟩ := m
          dsimp only at m1 m2 m4 hmr hmc
          have d0 : Y2.cell? ⟨wr.heap.size, 0, none⟩ = some (.string nme) := hbn.cell 0
          have d1 : Y2.cell? ⟨wr.heap.size, 1, none⟩ = some (.slice A' n' c') := hbn.cell 1
          have d2 : Y2.cell? ⟨wr.heap.size, 2, none⟩ = some (.int .i64 so) := hbn.cell 2
          have hzn : wr.heap.size < Y2.heap.size := hbn.lt
          obtain ⟨q, hq⟩ : ∃ q, meaningF ⟨nme, ar, so⟩ ⟨rows, num, den, cells, rest⟩ = q := ⟨_, rfl⟩
          rw [meanCode, hq] at e1
          have HCM : Hid (∀ (W : World), w.heap.size ≤ W.heap.size → (∀ b o, b < w.heap.size → W.cell? ⟨b, o, none⟩ = Y2.cell? ⟨b, o, none⟩) → Calls Try.prog 96 #[.agg #[.string nme, .slice A' n' c', .int .i64 so], .agg #[.slice A5 n5 c5, .int .i64 num, .int .i64 den, .slice A6 n6 c6, .int .i64 rest]] W fun e w' => e = .returned (.int .i64 q) ∧ Below W.heap.size W w') := fun W hz hk =>
            checkMeaning_any nme A' n' c' ar so A5 n5 c5 rows num den A6 n6 c6 cells rest q W hal (by omega) (hmr.keep stays_entry (fun b hb => Nat.lt_of_lt_of_le hb hz) (fun b o h => hk b o h)) hmn (hmc.keep stays_cell (fun b hb => Nat.lt_of_lt_of_le hb hz) (fun b o h => hk b o h)) hmn2 hq
          have HLT := Lib.hid hlt
          have hkM : (k : Int) + 1 ≤ 9223372036854775807 := by have := HN1.out; omega
          have HBY := Lib.hid hbY
          have HY2 := Lib.hid hY2
          have HN5 := Lib.hid m0
          clear HK hx hx2 hxm har hso hnm hmr hmc hbel hbw hfb hbn hbwY hfbY hq hbY hY2 hb hb' hnc' hcm' h8 hal hmn hmn2
          go_upto_region 9 with fail
          rw [HY2.out]
          clear x1 x2 x3 x4 hzx h0 h1 h2
          by_cases hq0 : q = 0
          · subst hq0
            rw [if_pos rfl] at e1
            have HE := Lib.hid e1
            have q0 : ((0 : Int) != 0) = false := by simp
            clear e1
            go_region_with ((go_at_call 96; refine (HCM.out Y2.drew (by show w.heap.size ≤ Y2.heap.size; omega) (fun _ _ _ => rfl)).mono ?_; rintro e w6 ⟨rfl, hb6⟩))
            all_goals
              have HB6 : Hid (Below (w.heap.size + 3) X w6) := HBY.out.trans (below_of_drew (hb6.mono (by show w.heap.size + 3 ≤ Y2.heap.size; omega)))
              clear hb6
              go_wp2_with fail
              go_roundw
              case rel => exact ⟨k + 1, HLT.out, by go_num, HB6.out, HE⟩
              case measure => have := HLT.out; simp [intOf]; omega
          · rw [if_neg hq0] at e1
            simp only [Prod.mk.injEq] at e1
            obtain ⟨rfl, rfl⟩ := e1
            have q0 : (q != 0) = true := by rw [bne_iff_ne]; exact hq0
            clear hq0
            go_region_with ((go_at_call 96; refine (HCM.out Y2.drew (by show w.heap.size ≤ Y2.heap.size; omega) (fun _ _ _ => rfl)).mono ?_; rintro e w6 ⟨rfl, hb6⟩))
            all_goals
              obtain ⟨hbw6, -, -, -, -, hfb6, hzx6⟩ := MK.out w6 (HBY.out.trans (below_of_drew (hb6.mono (by show w.heap.size + 3 ≤ Y2.heap.size; omega))))
              have HB := Lib.hid (And.intro hbw6 hfb6)
              have z0 : w6.cell? ⟨w.heap.size + 2, 0, none⟩ = some (.int .i64 0) := hfb6.cell 0
              have z1 : w6.cell? ⟨w.heap.size + 2, 1, none⟩ = some (.int .i64 0) := hfb6.cell 1
              have v0 : w6.frozen? ⟨w.heap.size + 2, 0, none⟩ = false := hfb6.frozen 0
              have v1 : w6.frozen? ⟨w.heap.size + 2, 1, none⟩ = false := hfb6.frozen 1
              clear hb6 hbw6 hfb6
              go_wp2_with fail
              clear z0 z1 v0 v1
              have hz1 := two_blk HB.out.2 (.int .i64 q) (.int .i64 k)
              have hz2 : Below w.heap.size w (two w6 (w.heap.size + 2) (.int .i64 q) (.int .i64 k)) := two_below HB.out.1 (by omega) (.int .i64 q) (.int .i64 k)
              have e4 : (w6.setCell ⟨w.heap.size + 2, 0, none⟩ (.int .i64 q)).setCell ⟨w.heap.size + 2, 1, none⟩ (.int .i64 k) = two w6 (w.heap.size + 2) (.int .i64 q) (.int .i64 k) := rfl
              rw [e4]
              clear e4
              generalize two w6 (w.heap.size + 2) (.int .i64 q) (.int .i64 k) = Z at hz1 hz2 ⊢
              have d0 := hz1.cell 0
              have d1 := hz1.cell 1
              simp only [List.getElem?_toArray, List.getElem?_cons_zero, List.getElem?_cons_succ] at d0 d1
              exact bodyPost_ret (v := .agg #[.int .i64 q, .int .i64 k]) (by simp [results, Try.results72, go_sem, d0, d1]) rfl ⟨rfl, hz2⟩
        · obtain rfl : nm = k := by omega
          have e1 := HK.out
          rw [List.drop_of_length_le (by rw [List.length_zip, HL.out.1, HL.out.2]; simp), firstBad] at e1
          simp only [Prod.mk.injEq] at e1
          obtain ⟨rfl, rfl⟩ := e1
          have HB := Lib.hid (And.intro hbw hfb)
          have z0 : wr.cell? ⟨w.heap.size + 2, 0, none⟩ = some (.int .i64 0) := hfb.cell 0
          have z1 : wr.cell? ⟨w.heap.size + 2, 1, none⟩ = some (.int .i64 0) := hfb.cell 1
          have v0 : wr.frozen? ⟨w.heap.size + 2, 0, none⟩ = false := hfb.frozen 0
          have v1 : wr.frozen? ⟨w.heap.size + 2, 1, none⟩ = false := hfb.frozen 1
          clear HK hbel hbw hfb
          go_wp2_with fail
          clear z0 z1 v0 v1
          have hz1 := two_blk HB.out.2 (.int .i64 0) (.int .i64 0)
          have hz2 : Below w.heap.size w (two wr (w.heap.size + 2) (.int .i64 0) (.int .i64 0)) := two_below HB.out.1 (by omega) (.int .i64 0) (.int .i64 0)
          have e4 : (wr.setCell ⟨w.heap.size + 2, 0, none⟩ (.int .i64 0)).setCell ⟨w.heap.size + 2, 1, none⟩ (.int .i64 0) = two wr (w.heap.size + 2) (.int .i64 0) (.int .i64 0) := rfl
          rw [e4]
          clear e4
          generalize two wr (w.heap.size + 2) (.int .i64 0) (.int .i64 0) = Z at hz1 hz2 ⊢
          have d0 := hz1.cell 0
          have d1 := hz1.cell 1
          simp only [List.getElem?_toArray, List.getElem?_cons_zero, List.getElem?_cons_succ] at d0 d1
          exact bodyPost_ret (v := .agg #[.int .i64 0, .int .i64 0]) (by simp [results, Try.results72, go_sem, d0, d1]) rfl ⟨rfl, hz2⟩
    · rw [if_pos hlen] at hq
      simp only [Prod.mk.injEq] at hq
      obtain ⟨rfl, rfl⟩ := hq
      have q1 : ((nm : Int) != (n1 : Int)) = true := by rw [bne_iff_ne]; omega
      have HB := Lib.hid (And.intro hbw hfb)
      have z0 : Y.cell? ⟨w.heap.size + 2, 0, none⟩ = some (.int .i64 0) := hfb.cell 0
      have z1 : Y.cell? ⟨w.heap.size + 2, 1, none⟩ = some (.int .i64 0) := hfb.cell 1
      have v0 : Y.frozen? ⟨w.heap.size + 2, 0, none⟩ = false := hfb.frozen 0
      have v1 : Y.frozen? ⟨w.heap.size + 2, 1, none⟩ = false := hfb.frozen 1
      clear hb4 hbw hfb hf4 hlen
      go_wp2_with fail
      clear z0 z1 v0 v1
      have hz1 := two_blk HB.out.2 (.int .i64 9) (.int .i64 0)
      have hz2 : Below w.heap.size w (two Y (w.heap.size + 2) (.int .i64 9) (.int .i64 0)) := two_below HB.out.1 (by omega) (.int .i64 9) (.int .i64 0)
      have e4 : (Y.setCell ⟨w.heap.size + 2, 0, none⟩ (.int .i64 9)).setCell ⟨w.heap.size + 2, 1, none⟩ (.int .i64 0) = two Y (w.heap.size + 2) (.int .i64 9) (.int .i64 0) := rfl
      rw [e4]
      clear e4
      generalize two Y (w.heap.size + 2) (.int .i64 9) (.int .i64 0) = Z at hz1 hz2 ⊢
      have d0 := hz1.cell 0
      have d1 := hz1.cell 1
      simp only [List.getElem?_toArray, List.getElem?_cons_zero, List.getElem?_cons_succ] at d0 d1
      exact bodyPost_ret (v := .agg #[.int .i64 9, .int .i64 0]) (by simp [results, Try.results72, go_sem, d0, d1]) rfl ⟨rfl, hz2⟩
  · rw [if_pos hrc] at hq
    simp only [Prod.mk.injEq] at hq
    obtain ⟨rfl, rfl⟩ := hq
    have q0 : (rc != 0) = true := by rw [bne_iff_ne]; exact hrc
    have HB := Lib.hid (And.intro hbw hfb)
    have z0 : Y.cell? ⟨w.heap.size + 2, 0, none⟩ = some (.int .i64 0) := hfb.cell 0
    have z1 : Y.cell? ⟨w.heap.size + 2, 1, none⟩ = some (.int .i64 0) := hfb.cell 1
    have v0 : Y.frozen? ⟨w.heap.size + 2, 0, none⟩ = false := hfb.frozen 0
    have v1 : Y.frozen? ⟨w.heap.size + 2, 1, none⟩ = false := hfb.frozen 1
    clear hb4 hbw hfb hf4 hrc
    go_wp2_with fail
    clear z0 z1 v0 v1
    have hz1 := two_blk HB.out.2 (.int .i64 rc) (.int .i64 ra)
    have hz2 : Below w.heap.size w (two Y (w.heap.size + 2) (.int .i64 rc) (.int .i64 ra)) := two_below HB.out.1 (by omega) (.int .i64 rc) (.int .i64 ra)
    have e4 : (Y.setCell ⟨w.heap.size + 2, 0, none⟩ (.int .i64 rc)).setCell ⟨w.heap.size + 2, 1, none⟩ (.int .i64 ra) = two Y (w.heap.size + 2) (.int .i64 rc) (.int .i64 ra) := rfl
    rw [e4]
    clear e4
    generalize two Y (w.heap.size + 2) (.int .i64 rc) (.int .i64 ra) = Z at hz1 hz2 ⊢
    have d0 := hz1.cell 0
    have d1 := hz1.cell 1
    simp only [List.getElem?_toArray, List.getElem?_cons_zero, List.getElem?_cons_succ] at d0 d1
    exact bodyPost_ret (v := .agg #[.int .i64 rc, .int .i64 ra]) (by simp [results, Try.results72, go_sem, d0, d1]) rfl ⟨rfl, hz2⟩
end Go.Proofs.Ythooecojopfjbaa
