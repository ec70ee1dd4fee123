/- Marks of nodes as cells. · Walk: the program's used nodes. -/
import Derived.Test.YthooecojopfjbaaAskLM
import Derived.Test.YthooecojopfjbaaAskOU
import Derived.Test.YthooecojopfjbaaAskQR
import Derived.Deep.LoopGhost
import Derived.Deep.Cut
import Derived.Deep.CutRange
namespace Go.Proofs.Ythooecojopfjbaa
open Go.RowKit

theorem infoBool : (Try.prog.info? 4).map (fun i => (i.zero, i.size, i.bytes)) = some (some (.bool false), 1, 1) := by kernel_rfl
theorem make_bools (n : Nat) (hn : n ≤ 1000000) (W : World) : (Instr.makeSlice 37 (.int .i64 (n : Int)) (.int .i64 (n : Int))).run Try.prog W = .ok (.slice (some ⟨W.heap.size, 0, none⟩) n n) (W.alloc (.cells (boolsC (List.replicate n false)) 4)) := by
  obtain ⟨i0, hi, hz0, hz1, hz2⟩ := info_parts infoBool
  have h := run_make (P := Try.prog) W 37 4 i0 (.bool false) Try.underlying37 hi hz0 .i64 .i64 n n (by omega) (Int.le_refl _) (by rw [hz2]; omega) (by omega)
  rw [hz1, Int.toNat_natCast, made_bools] at h
  exact h
/-- marks of n nodes in new memory -/
def MarksP (w : World) (n : Nat) (F : List Bool) (e : Ending) (w' : World) : Prop := ∃ g : Nat, e = .returned (.slice (some ⟨g, 0, none⟩) n n) ∧ Below w.heap.size w w' ∧ w.heap.size ≤ g ∧ Blk w' g 4 (boolsC F) ∧ F.length = n
theorem kids_in {nodes : List NodeD} (h : KidsLow nodes) {i : Nat} {x : NodeD} (hx : nodes[i]? = some x) {y : Int} (hy : y ∈ x.kids) : 0 ≤ y ∧ y < (i : Int) := h i x hx y hy

end Go.Proofs.Ythooecojopfjbaa
namespace Go.Proofs.Ythooecojopfjbaa
open Go.RowKit

set_option maxRecDepth 100000 in
set_option maxHeartbeats 8000000 in
theorem used_bad (A1 A2 A3 : Option Addr) (n1 c1 n2 c2 n3 c3 : Nat) (a : AskD) (qc qa : Int) (w : World) (ha : AskIn w w.heap.size A1 A2 A3 n1 n2 n3 a) (hc1 : n1 ≤ c1) (hq : (sortsF a).2 = (qc, qa)) (hqc : ¬ qc = 0) :
    Calls Try.prog 17 #[.agg #[.slice A1 n1 c1, .slice A2 n2 c2, .slice A3 n3 c3]] w fun e w' => e = .returned (.tuple #[.slice none 0 0, .agg #[.int .i64 qc, .int .i64 qa]]) ∧ Below w.heap.size w w' := by
  obtain ⟨hb0, hk0, hf0, hs0⟩ := two_boxes w 26 29 #[.slice A1 n1 c1, .slice A2 n2 c2, .slice A3 n3 c3] #[.int .i64 0, .int .i64 0]
  have HC := Lib.hid (check_any A1 A2 A3 n1 c1 n2 c2 n3 c3 a qc qa _ (ha.below hb0 hb0.size) hc1 hq)
  have HX := Lib.hid (And.intro hb0 (And.intro hf0 hs0))
  have hqb : (qc != 0) = true := by rw [bne_iff_ne]; exact hqc
  clear ha hq hqc hb0 hk0 hf0 hs0
  go_enter Try.func17, Try.ntmps17
  go_wp2_with fail
  refine HC.out.mono ?_
  rintro e w3 ⟨rfl, hb3⟩
  obtain ⟨hb0, hf0, hs0⟩ := HX.out
  have hbel : Below w.heap.size w w3 := hb0.trans (hb3.mono (by omega))
  have hf3 := hf0.below hb3 (by omega)
  have hz : w.heap.size + 1 < w3.heap.size := hf3.lt
  have c0 : w3.cell? ⟨w.heap.size + 1, 0, none⟩ = some (.int .i64 0) := hf3.cell 0
  have c1' : w3.cell? ⟨w.heap.size + 1, 1, none⟩ = some (.int .i64 0) := hf3.cell 1
  have z0 : w3.frozen? ⟨w.heap.size + 1, 0, none⟩ = false := hf3.frozen 0
  have z1 : w3.frozen? ⟨w.heap.size + 1, 1, none⟩ = false := hf3.frozen 1
  have HB := Lib.hid hbel
  clear hb0 hf0 hs0 hb3 HX HC hbel hf3
  go_wp2_with fail
  go_region
  go_wp2_with fail
  refine bodyPost_ret (v := .tuple #[.slice none 0 0, .agg #[.int .i64 qc, .int .i64 qa]]) (by simp [results, Try.results17, go_sem, c0, c1', hz]) rfl ?_
  exact ⟨rfl, (((HB.out.setCell (p := ⟨w.heap.size + 1, 0, none⟩) (Nat.le_succ _) _).setCell (p := ⟨w.heap.size + 1, 1, none⟩) (Nat.le_succ _) _).alloc (by simp; omega) _).drew⟩

/-- marks of n nodes in new memory, and no fault -/
def UsedR (w : World) (n : Nat) (F : List Bool) (e : Ending) (w' : World) : Prop := ∃ g : Nat, e = .returned (.tuple #[.slice (some ⟨g, 0, none⟩) n n, .agg #[.int .i64 0, .int .i64 0]]) ∧ Below w.heap.size w w' ∧ w.heap.size ≤ g ∧ Blk w' g 4 (boolsC F) ∧ F.length = n

set_option maxRecDepth 100000 in
set_option maxHeartbeats 16000000 in
theorem used_good (A1 A2 A3 : Option Addr) (n1 c1 n2 c2 n3 c3 : Nat) (a : AskD) (w : World) (ha : AskIn w w.heap.size A1 A2 A3 n1 n2 n3 a) (hc1 : n1 ≤ c1) (hq : (sortsF a).2 = (0, 0)) :
    Calls Try.prog 17 #[.agg #[.slice A1 n1 c1, .slice A2 n2 c2, .slice A3 n3 c3]] w (UsedR w n2 (downM a.nodes a.nodes.length (markAll a.hold (List.replicate n2 false)))) := by
  obtain ⟨hb0, hk0, hf0, hs0⟩ := two_boxes w 26 29 #[.slice A1 n1 c1, .slice A2 n2 c2, .slice A3 n3 c3] #[.int .i64 0, .int .i64 0]
  obtain ⟨-, -, hlow, hhold, h200, h200', -⟩ := sortsF_ok (a := a) (by rw [hq])
  have hl2 := ha.nodes.len
  have hl3 := ha.hold.len
  have hn2 : n2 ≤ 200 := by omega
  have hn3 : n3 ≤ 200 := by omega
  rw [hl2] at hhold
  have HC := Lib.hid (check_any A1 A2 A3 n1 c1 n2 c2 n3 c3 a 0 0 _ (ha.below hb0 hb0.size) hc1 hq)
  have HX := Lib.hid (And.intro hb0 (And.intro hk0 (And.intro hf0 (And.intro hs0 ha))))
  have HLOW := Lib.hid hlow
  have HHOLD := Lib.hid hhold
  have HL := Lib.hid (And.intro hl2 hl3)
  have hF : ∃ F : List Bool, downM a.nodes a.nodes.length (markAll a.hold (List.replicate n2 false)) = F := ⟨_, rfl⟩
  obtain ⟨F, hF⟩ := hF
  have hm1 : ∃ m1 : List Bool, markAll a.hold (List.replicate n2 false) = m1 := ⟨_, rfl⟩
  obtain ⟨m1, hm1⟩ := hm1
  rw [hm1] at hF ⊢
  rw [hF]
  have HM1 := Lib.hid hm1
  have HF := Lib.hid hF
  clear ha hlow hhold hl2 hl3 h200 h200' hb0 hk0 hf0 hs0 hF hm1 hq
  go_enter Try.func17, Try.ntmps17
  go_wp2_with fail
  refine HC.out.mono ?_
  rintro e w3 ⟨rfl, hb3⟩
  obtain ⟨hb0, hk0, hf0, hs0, ha⟩ := HX.out
  have hbel3 : Below w.heap.size w w3 := hb0.trans (hb3.mono (by omega))
  have hb4 : Below w.heap.size w (w3.alloc (.cells #[.int .i64 0, .int .i64 0] 29)) := hbel3.alloc hbel3.size _
  have hk4 := (hk0.below hb3 (by omega)).alloc (.cells #[.int .i64 0, .int .i64 0] 29)
  have hf4 := (hf0.below hb3 (by omega)).alloc (.cells #[.int .i64 0, .int .i64 0] 29)
  have hfx := Blk.new w3 29 #[.int .i64 0, .int .i64 0]
  have hz4 : w3.heap.size < (w3.alloc (.cells #[.int .i64 0, .int .i64 0] 29)).heap.size := by simp
  clear hb0 hk0 hf0 hs0 hb3 HX HC hbel3
  go_upto_region 2 with fail
  generalize w3.alloc (.cells #[.int .i64 0, .int .i64 0] 29) = X0 at hb4 hk4 hf4 hfx hz4 ⊢
  have f0 : X0.cell? ⟨w3.heap.size, 0, none⟩ = some (.int .i64 0) := hfx.cell 0
  have x1 : X0.cell? ⟨w.heap.size, 1, none⟩ = some (.slice A2 n2 c2) := hk4.cell 1
  have hzX : w.heap.size + 1 < X0.heap.size := hf4.lt
  have hmk := make_bools n2 (by omega) X0
  have hx0 : Below X0.heap.size X0 (X0.alloc (.cells (boolsC (List.replicate n2 false)) 4)) := (Below.refl _ _).alloc (Nat.le_refl _) _
  have hg0 := Blk.new X0 4 (boolsC (List.replicate n2 false))
  have hMK : ∀ W : World, Below X0.heap.size (X0.alloc (.cells (boolsC (List.replicate n2 false)) 4)) W → (Below w.heap.size w W ∧ Blk W w.heap.size 26 #[.slice A1 n1 c1, .slice A2 n2 c2, .slice A3 n3 c3] ∧ Blk W (w.heap.size + 1) 29 #[.int .i64 0, .int .i64 0] ∧ AskIn W w.heap.size A1 A2 A3 n1 n2 n3 a) := fun W hW =>
    have h1 := hx0.trans hW
    have hbw : Below w.heap.size w W := hb4.trans (h1.mono (by omega))
    ⟨hbw, hk4.below h1 (by omega), hf4.below h1 (by omega), ha.below hbw (Nat.le_refl _)⟩
  have MK := Lib.hid hMK
  have HG := Lib.hid hg0
  have HG1 : Hid (w.heap.size + 1 < X0.heap.size) := hzX
  have HGW : Hid (w.heap.size ≤ X0.heap.size) := Nat.le_of_lt (Nat.lt_of_succ_lt hzX)
  clear hfx hb4 hk4 hf4 hx0 hg0 hMK ha
  go_upto_region 5 with fail
  generalize X0.alloc (.cells (boolsC (List.replicate n2 false)) 4) = X at MK HG ⊢
  clear hmk f0 x1 hz4 hzX
  generalize X0.heap.size = G at MK HG HG1 HGW ⊢
  have hk0 := (MK.out X (Below.refl _ _)).2.1
  have x2 : X.cell? ⟨w.heap.size, 2, none⟩ = some (.slice A3 n3 c3) := hk0.cell 2
  clear hk0
  go_wp2_with fail
  clear x2
  go_loopw [24] (fun s24 wr => ∃ j : Nat, j ≤ n3 ∧ s24 = .int .i64 j ∧ ∃ ms : List Bool, ms.length = n2 ∧ Below G X wr ∧ Blk wr G 4 (boolsC ms) ∧ Hid (markAll (a.hold.drop j) ms = m1)) (fun s24 _ => n3 - (intOf s24).toNat)
  case atStart => exact ⟨0, Nat.zero_le _, rfl, _, List.length_replicate .., Below.refl _ _, HG.out, HM1⟩
  case round =>
    obtain ⟨j, hj, rfl, ms, hml, hbel, hbm, HK⟩ := hrel
    obtain ⟨hbw, hkr, hfr, har⟩ := MK.out wr hbel
    have b1 : wr.cell? ⟨w.heap.size, 1, none⟩ = some (.slice A2 n2 c2) := hkr.cell 1
    have hzG : G < wr.heap.size := hbm.lt
    by_cases hlt : j < n3
    · obtain ⟨b3, off3, hx3, rfl, hb3, hc3, -, -⟩ := ints_get har.hold hlt
      have e1 := HK.out
      rw [drop_cons hx3, markAll] at e1
      have hmem := HHOLD.out _ (List.getElem_mem hx3)
      generalize a.hold[j] = y at e1 hc3 hmem
      obtain ⟨hy0, hy1⟩ := hmem
      have hjI : (j : Int) < (n3 : Int) := by omega
      have H1 := Lib.hid e1
      have hyn : y.toNat < n2 := by omega
      have c0 := marks_cell hbm (i := y.toNat) (by rw [hml]; exact hyn)
      have z0 : wr.frozen? ⟨G, y.toNat, none⟩ = false := hbm.frozen _
      have HM := Lib.hid (And.intro hml (And.intro hbel hbm))
      clear e1 HK hx3 hb3 hml hbel hbm har hkr hfr hbw
      go_wp2_with fail
      go_roundw
      case rel => exact ⟨j + 1, by omega, by go_num, ms.set y.toNat true, by rw [List.length_set, HM.out.1], HM.out.2.1.setCell (p := ⟨G, y.toNat, none⟩) (Nat.le_refl _) _, marks_set HM.out.2.2, H1⟩
      case measure => simp [intOf]; omega
    · obtain rfl : n3 = j := by omega
      have e1 := HK.out
      rw [List.drop_of_length_le (by rw [HL.out.2]; omega), markAll] at e1
      subst e1
      have HM := Lib.hid (And.intro hml (And.intro hbel hbm))
      have hnI : (n2 : Int) ≤ 200 := by omega
      obtain ⟨W0, rfl⟩ : ∃ W0 : World, W0 = wr := ⟨_, rfl⟩
      clear HK hml hbel hbm har hkr hfr hbw
      go_wp2_with fail
      clear b1 hzG
      go_loopw [8] (fun s8 wr => ∃ i : Int, -1 ≤ i ∧ i < (n2 : Int) ∧ s8 = .int .i64 i ∧ ∃ ms : List Bool, ms.length = n2 ∧ Below G X wr ∧ Blk wr G 4 (boolsC ms) ∧ Hid (downM a.nodes (i + 1).toNat ms = F)) (fun s8 _ => (intOf s8 + 1).toNat)
      case atStart => exact ⟨(n2 : Int) - 1, by omega, by omega, rfl, _, HM.out.1, HM.out.2.1, HM.out.2.2, by show _ = _; rw [← HF.out, HL.out.1, show ((n2 : Int) - 1 + 1).toNat = n2 from by omega]⟩
      case round =>
        clear HM HF HM1
        obtain ⟨i, hi0, hi1, rfl, ms, hml, hbel, hbm, HK⟩ := hrel
        obtain ⟨hbw, hkr, hfr, har⟩ := MK.out wr hbel
        have b1 : wr.cell? ⟨w.heap.size, 1, none⟩ = some (.slice A2 n2 c2) := hkr.cell 1
        have hzG : G < wr.heap.size := hbm.lt
        by_cases h0 : 0 ≤ i
        · obtain ⟨j, rfl⟩ := Int.eq_ofNat_of_zero_le h0
          have hin : j < n2 := by omega
          have e1 := HK.out
          rw [show ((j : Int) + 1).toNat = j + 1 from by omega, downM] at e1
          obtain ⟨b, off, hx, K, kn, kc, he2, hb, -, m1', -, -, -, hknc, hkcm, hkid, -, -, -, -⟩ := nodes_get har.nodes hin
          have hnx := List.getElem?_eq_getElem hx
          have hkat : kidsAt a.nodes j = a.nodes[j].kids := by rw [kidsAt, hnx]
          have hkin : ∀ y ∈ a.nodes[j].kids, 0 ≤ y ∧ y < (n2 : Int) := fun y hy => by have := kids_in HLOW.out hnx hy; omega
          generalize a.nodes[j].kids = ks at hkat hkin hkid
          have HKI := Lib.hid hkin
          have c1' := marks_cell hbm (i := j) (by rw [hml]; exact hin)
          unfold maxLen at hkcm
          subst he2
          have hbe : ∃ bm : Bool, ms.getD j false = bm := ⟨_, rfl⟩
          obtain ⟨bm, hbe⟩ := hbe
          rw [hbe] at c1'
          rw [stepM, hbe, hkat] at e1
          have HKD := Lib.hid (show ∀ W : World, Below w.heap.size w W → IntsB W w.heap.size K kn ks from fun W hW =>
            hkid.keep stays_int (fun _ h => h) (fun b' o' hb' => (hW.cell (p := ⟨b', o', none⟩) hb').trans (hbw.cell (p := ⟨b', o', none⟩) hb').symm))
          have HM := Lib.hid (And.intro hml (And.intro hbel hbm))
          obtain ⟨W2, rfl⟩ : ∃ W2 : World, W2 = wr := ⟨_, rfl⟩
          clear hbe hkat hnx hkid hx HK har hkr hfr hkin hml hbel hbm
          cases bm with
          | false =>
            rw [if_neg (by simp)] at e1
            have H1 := Lib.hid e1
            clear e1 hbw
            go_wp2_with fail
            go_roundw
            case rel => exact ⟨(j : Int) - 1, by omega, by omega, rfl, ms, HM.out.1, HM.out.2.1, HM.out.2.2, by show _ = _; rw [show ((j : Int) - 1 + 1).toNat = j from by omega]; exact H1.out⟩
            case measure => simp [intOf]
          | true =>
            rw [if_pos rfl] at e1
            have H1 := Lib.hid e1
            clear e1
            go_wp2_with fail
            clear b1 hzG c1' hbw m1'
            go_loopw [50] (fun s50 wr => ∃ t : Nat, t ≤ kn ∧ s50 = .int .i64 t ∧ ∃ ms : List Bool, ms.length = n2 ∧ Below G X wr ∧ Blk wr G 4 (boolsC ms) ∧ Hid (downM a.nodes j (markAll (ks.drop t) ms) = F)) (fun s50 _ => kn - (intOf s50).toNat)
            case atStart => exact ⟨0, Nat.zero_le _, rfl, ms, HM.out.1, HM.out.2.1, HM.out.2.2, H1⟩
            case round =>
              clear HM H1
              obtain ⟨t, ht, rfl, ms, hml, hbel, hbm, HK⟩ := hrel
              obtain ⟨hbw, hkr, hfr, har⟩ := MK.out wr hbel
              have b1 : wr.cell? ⟨w.heap.size, 1, none⟩ = some (.slice (some ⟨b, off, none⟩) n2 c2) := hkr.cell 1
              have hzG : G < wr.heap.size := hbm.lt
              by_cases htn : t < kn
              · obtain ⟨b3, off3, hx3, rfl, hb3, hc3, -, -⟩ := ints_get (HKD.out wr hbw) htn
                have e1 := HK.out
                rw [drop_cons hx3, markAll] at e1
                have hmem := HKI.out _ (List.getElem_mem hx3)
                generalize ks[t] = y at e1 hc3 hmem
                obtain ⟨hy0, hy1⟩ := hmem
                have htI : (t : Int) < (kn : Int) := by omega
                have H1 := Lib.hid e1
                have hyn : y.toNat < n2 := by omega
                have c0 := marks_cell hbm (i := y.toNat) (by rw [hml]; exact hyn)
                have z0 : wr.frozen? ⟨G, y.toNat, none⟩ = false := hbm.frozen _
                have HM := Lib.hid (And.intro hml (And.intro hbel hbm))
                clear e1 HK hx3 hb3 hml hbel hbm har hkr hfr hbw
                go_wp2_with fail
                go_roundw
                case rel => exact ⟨t + 1, by omega, by go_num, ms.set y.toNat true, by rw [List.length_set, HM.out.1], HM.out.2.1.setCell (p := ⟨G, y.toNat, none⟩) (Nat.le_refl _) _, marks_set HM.out.2.2, H1⟩
                case measure => simp [intOf]; omega
              · obtain rfl : kn = t := by omega
                have e1 := HK.out
                rw [List.drop_of_length_le (by rw [(HKD.out wr hbw).len]; omega), markAll] at e1
                have H1 := Lib.hid e1
                have HM := Lib.hid (And.intro hml (And.intro hbel hbm))
                clear e1 HK hml hbel hbm har hkr hfr hbw
                go_wp2_with fail
                go_roundw
                case rel => exact ⟨(j : Int) - 1, by omega, by omega, rfl, ms, HM.out.1, HM.out.2.1, HM.out.2.2, by show _ = _; rw [show ((j : Int) - 1 + 1).toNat = j from by omega]; exact H1.out⟩
                case measure => simp [intOf]
        · obtain rfl : i = -1 := by omega
          have e1 := HK.out
          rw [show ((-1 : Int) + 1).toNat = 0 from rfl, downM] at e1
          subst e1
          have HM := Lib.hid (And.intro hml (And.intro hbel hbm))
          have HB := Lib.hid (And.intro hbw hfr)
          have g0 : wr.cell? ⟨w.heap.size + 1, 0, none⟩ = some (.int .i64 0) := hfr.cell 0
          have g1 : wr.cell? ⟨w.heap.size + 1, 1, none⟩ = some (.int .i64 0) := hfr.cell 1
          have y0 : wr.frozen? ⟨w.heap.size + 1, 0, none⟩ = false := hfr.frozen 0
          have y1 : wr.frozen? ⟨w.heap.size + 1, 1, none⟩ = false := hfr.frozen 1
          clear HK hml hbel hbm har hkr hfr hbw
          go_wp2_with fail
          clear g0 g1 y0 y1
          have hz1 := two_blk HB.out.2 (.int .i64 0) (.int .i64 0)
          have hz2 : Below w.heap.size w (two wr (w.heap.size + 1) (.int .i64 0) (.int .i64 0)) := two_below (g := w.heap.size + 1) HB.out.1 (Nat.le_succ _) (.int .i64 0) (.int .i64 0)
          have hz3 := two_only wr (w.heap.size + 1) (.int .i64 0) (.int .i64 0)
          have e4 : (wr.setCell ⟨w.heap.size + 1, 0, none⟩ (.int .i64 0)).setCell ⟨w.heap.size + 1, 1, none⟩ (.int .i64 0) = two wr (w.heap.size + 1) (.int .i64 0) (.int .i64 0) := rfl
          rw [e4]
          clear e4
          generalize two wr (w.heap.size + 1) (.int .i64 0) (.int .i64 0) = Z at hz1 hz2 hz3 ⊢
          have d0 := hz1.cell 0
          have d1 := hz1.cell 1
          simp only [List.getElem?_toArray, List.getElem?_cons_zero, List.getElem?_cons_succ] at d0 d1
          refine bodyPost_ret (v := .tuple #[.slice (some ⟨G, 0, none⟩) n2 n2, .agg #[.int .i64 0, .int .i64 0]]) (by simp [results, Try.results17, go_sem, d0, d1]) rfl ?_
          exact ⟨G, rfl, hz2, HGW.out, HM.out.2.2.grown hz3 (fun e => by injection e with e; have := HG1.out; omega), HM.out.1⟩
end Go.Proofs.Ythooecojopfjbaa
