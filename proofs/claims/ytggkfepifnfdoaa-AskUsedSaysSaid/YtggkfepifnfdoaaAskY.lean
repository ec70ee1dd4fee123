/- Walk: the reference's used nodes. -/
import Derived.Test.YtggkfepifnfdoaaUsedQ
import Derived.Test.YtggkfepifnfdoaaAskO
import Derived.Deep.LoopGhost
import Derived.Deep.Cut
import Derived.Deep.CutRange
import Derived.Test.YtggkfepifnfdoaaAskR
namespace Go.Proofs.Ytggkfepifnfdoaa
open Go.RowKit

theorem infoBool : (Try.prog.info? 4).map (fun i => (i.zero, i.size, i.bytes)) = some (some (.bool false), 1, 1) := by kernel_rfl
theorem make_bools (n : Nat) (hn : n ≤ 1000000) (W : World) : (Instr.makeSlice 38 (.int .i64 (n : Int)) (.int .i64 (n : Int))).run Try.prog W = .ok (.slice (some ⟨W.heap.size, 0, none⟩) n n) (W.alloc (.cells (boolsC (List.replicate n false)) 4)) := by
  obtain ⟨i0, hi, hz0, hz1, hz2⟩ := info_parts infoBool
  have h := run_make (P := Try.prog) W 38 4 i0 (.bool false) Try.underlying38 hi hz0 .i64 .i64 n n (by omega) (Int.le_refl _) (by rw [hz2]; omega) (by omega)
  rw [hz1, Int.toNat_natCast, made_bools] at h
  exact h
/-- marks of n nodes in new memory -/
def MarksP (w : World) (n : Nat) (F : List Bool) (e : Ending) (w' : World) : Prop := ∃ g : Nat, e = .returned (.slice (some ⟨g, 0, none⟩) n n) ∧ Below w.heap.size w w' ∧ w.heap.size ≤ g ∧ Blk w' g 4 (boolsC F) ∧ F.length = n
theorem kids_in {nodes : List NodeD} (h : KidsLow nodes) {i : Nat} {x : NodeD} (hx : nodes[i]? = some x) {y : Int} (hy : y ∈ x.kids) : 0 ≤ y ∧ y < (i : Int) := h i x hx y hy

set_option maxRecDepth 100000 in
set_option maxHeartbeats 16000000 in
theorem askUsed_any (A1 A2 A3 : Option Addr) (n1 c1 n2 c2 n3 c3 : Nat) (a : AskD) (w : World) (ha : AskIn w w.heap.size A1 A2 A3 n1 n2 n3 a) (hlow : KidsLow a.nodes) (hhold : ∀ k ∈ a.hold, 0 ≤ k ∧ k < (a.nodes.length : Int)) (h200 : a.nodes.length ≤ 200) (h200' : a.hold.length ≤ 200) :
    Calls Try.prog 22 #[.agg #[.slice A1 n1 c1, .slice A2 n2 c2, .slice A3 n3 c3]] w (MarksP w n2 (passes a.nodes a.nodes.length (markAll a.hold (List.replicate n2 false)))) := by
  have hb0 : Below w.heap.size w (w.alloc (.cells #[.slice A1 n1 c1, .slice A2 n2 c2, .slice A3 n3 c3] 26)) := (Below.refl _ _).alloc (Nat.le_refl _) _
  have hk0 := Blk.new w 26 #[.slice A1 n1 c1, .slice A2 n2 c2, .slice A3 n3 c3]
  have hl2 := ha.nodes.len
  have hl3 := ha.hold.len
  have hn2 : n2 ≤ 200 := by omega
  have hn3 : n3 ≤ 200 := by omega
  rw [hl2] at hhold
  have hs0 : (w.alloc (.cells #[.slice A1 n1 c1, .slice A2 n2 c2, .slice A3 n3 c3] 26)).heap.size = w.heap.size + 1 := by simp
  have hx0 : Below (w.heap.size + 1) (w.alloc (.cells #[.slice A1 n1 c1, .slice A2 n2 c2, .slice A3 n3 c3] 26)) ((w.alloc (.cells #[.slice A1 n1 c1, .slice A2 n2 c2, .slice A3 n3 c3] 26)).alloc (.cells (boolsC (List.replicate n2 false)) 4)) := (Below.refl _ _).alloc (by omega) _
  have hg0 := Blk.new (w.alloc (.cells #[.slice A1 n1 c1, .slice A2 n2 c2, .slice A3 n3 c3] 26)) 4 (boolsC (List.replicate n2 false))
  rw [hs0] at hg0
  have hMK : ∀ W : World, Below (w.heap.size + 1) ((w.alloc (.cells #[.slice A1 n1 c1, .slice A2 n2 c2, .slice A3 n3 c3] 26)).alloc (.cells (boolsC (List.replicate n2 false)) 4)) W → (Below w.heap.size w W ∧ Blk W w.heap.size 26 #[.slice A1 n1 c1, .slice A2 n2 c2, .slice A3 n3 c3] ∧ AskIn W w.heap.size A1 A2 A3 n1 n2 n3 a) := fun W hW =>
    have h1 := hx0.trans hW
    have hbw : Below w.heap.size w W := hb0.trans (h1.mono (by omega))
    ⟨hbw, hk0.below h1 (by omega), ha.below hbw (Nat.le_refl _)⟩
  have MK := Lib.hid hMK
  have HLOW := Lib.hid hlow
  have HHOLD := Lib.hid hhold
  have HL := Lib.hid (And.intro hl2 hl3)
  have HG := Lib.hid hg0
  have hF : ∃ F : List Bool, passes a.nodes a.nodes.length (markAll a.hold (List.replicate n2 false)) = F := ⟨_, rfl⟩
  obtain ⟨F, hF⟩ := hF
  have hm1 : ∃ m1 : List Bool, markAll a.hold (List.replicate n2 false) = m1 := ⟨_, rfl⟩
  obtain ⟨m1, hm1⟩ := hm1
  rw [hm1] at hF
  have HM1 := Lib.hid hm1
  have HF := Lib.hid hF
  have hmk := make_bools n2 (by omega)
  rw [hm1]
  rw [hF]
  clear ha hlow hhold hl2 hl3 h200 h200' hb0 hk0 hs0 hx0 hg0 hMK hF hm1
  go_enter Try.func22, Try.ntmps22
  go_upto_region 2 with fail
  generalize (w.alloc (.cells #[.slice A1 n1 c1, .slice A2 n2 c2, .slice A3 n3 c3] 26)).alloc (.cells (boolsC (List.replicate n2 false)) 4) = X at MK HG ⊢
  clear hmk
  go_wp2_with fail
  go_loopw [4] (fun s4 wr => ∃ j : Nat, j ≤ n3 ∧ s4 = .int .i64 j ∧ ∃ ms : List Bool, ms.length = n2 ∧ Below (w.heap.size + 1) X wr ∧ Blk wr (w.heap.size + 1) 4 (boolsC ms) ∧ Hid (markAll (a.hold.drop j) ms = m1)) (fun s4 _ => n3 - (intOf s4).toNat)
  case atStart => exact ⟨0, Nat.zero_le _, rfl, _, List.length_replicate .., Below.refl _ _, HG.out, HM1⟩
  case round =>
    obtain ⟨j, hj, rfl, ms, hml, hbel, hbm, HK⟩ := hrel
    obtain ⟨hbw, hkr, har⟩ := MK.out wr hbel
    have b1 : wr.cell? ⟨w.heap.size, 1, none⟩ = some (.slice A2 n2 c2) := hkr.cell 1
    have b2 : wr.cell? ⟨w.heap.size, 2, none⟩ = some (.slice A3 n3 c3) := hkr.cell 2
    have hz : w.heap.size + 1 < wr.heap.size := hbm.lt
    by_cases hlt : j < n3
    · obtain ⟨b3, off3, hx3, rfl, hb3, hc3, -, -⟩ := ints_get har.hold hlt
      have e1 := HK.out
      rw [drop_cons hx3, markAll] at e1
      have hmem := HHOLD.out _ (List.getElem_mem hx3)
      generalize a.hold[j] = y at e1 hc3 hmem
      obtain ⟨hy0, hy1⟩ := hmem
      have hjI : (j : Int) < (n3 : Int) := by omega
      have H1 := Lib.hid e1
      have hyn : y.toNat < n2 := by omega
      have c0 := marks_cell hbm (i := y.toNat) (by rw [hml]; exact hyn)
      have z0 : wr.frozen? ⟨w.heap.size + 1, y.toNat, none⟩ = false := hbm.frozen _
      have HM := Lib.hid (And.intro hml (And.intro hbel hbm))
      clear e1 HK hx3 hb3 hml hbel hbm har hkr hbw
      go_wp2_with fail
      go_roundw
      case rel => exact ⟨j + 1, by omega, by go_num, ms.set y.toNat true, by rw [List.length_set, HM.out.1], HM.out.2.1.setCell (p := ⟨w.heap.size + 1, y.toNat, none⟩) (Nat.le_refl _) _, marks_set HM.out.2.2, H1⟩
      case measure => simp [intOf]; omega
    · obtain rfl : n3 = j := by omega
      have e1 := HK.out
      rw [List.drop_of_length_le (by rw [HL.out.2]; omega), markAll] at e1
      subst e1
      have HM := Lib.hid (And.intro hml (And.intro hbel hbm))
      obtain ⟨W0, rfl⟩ : ∃ W0 : World, W0 = wr := ⟨_, rfl⟩
      clear HK hml hbel hbm har hkr hbw
      go_wp2_with fail
      clear b1 b2 hz
      go_loopw [5] (fun s5 wr => ∃ p : Nat, p ≤ n2 ∧ s5 = .int .i64 p ∧ ∃ ms : List Bool, ms.length = n2 ∧ Below (w.heap.size + 1) X wr ∧ Blk wr (w.heap.size + 1) 4 (boolsC ms) ∧ Hid (passes a.nodes (n2 - p) ms = F)) (fun s5 _ => n2 - (intOf s5).toNat)
      case atStart => exact ⟨0, Nat.zero_le _, rfl, _, HM.out.1, HM.out.2.1, HM.out.2.2, by show _ = _; rw [← HF.out, HL.out.1]; rfl⟩
      case round =>
        clear HM HF HM1
        obtain ⟨p, hp, rfl, ms, hml, hbel, hbm, HK⟩ := hrel
        obtain ⟨hbw, hkr, har⟩ := MK.out wr hbel
        have b1 : wr.cell? ⟨w.heap.size, 1, none⟩ = some (.slice A2 n2 c2) := hkr.cell 1
        have b2 : wr.cell? ⟨w.heap.size, 2, none⟩ = some (.slice A3 n3 c3) := hkr.cell 2
        have hz : w.heap.size + 1 < wr.heap.size := hbm.lt
        by_cases hpn : p < n2
        · have e1 := HK.out
          rw [show n2 - p = (n2 - (p + 1)) + 1 from by omega, passes, HL.out.1] at e1
          have HE := Lib.hid e1
          have HM := Lib.hid (And.intro hml (And.intro hbel hbm))
          have hpI : (p : Int) < (n2 : Int) := by omega
          obtain ⟨W1, rfl⟩ : ∃ W1 : World, W1 = wr := ⟨_, rfl⟩
          clear HK e1 hml hbel hbm har hkr hbw
          go_wp2_with fail
          clear b1 b2 hz
          go_loopw [6] (fun s6 wr => ∃ i : Nat, i ≤ n2 ∧ s6 = .int .i64 i ∧ ∃ ms : List Bool, ms.length = n2 ∧ Below (w.heap.size + 1) X wr ∧ Blk wr (w.heap.size + 1) 4 (boolsC ms) ∧ Hid (passes a.nodes (n2 - (p + 1)) (upM a.nodes i (n2 - i) ms) = F)) (fun s6 _ => n2 - (intOf s6).toNat)
          case atStart => exact ⟨0, Nat.zero_le _, rfl, _, HM.out.1, HM.out.2.1, HM.out.2.2, HE⟩
          case round =>
            clear HM HE
            obtain ⟨i, hi, rfl, ms, hml, hbel, hbm, HK⟩ := hrel
            obtain ⟨hbw, hkr, har⟩ := MK.out wr hbel
            have b1 : wr.cell? ⟨w.heap.size, 1, none⟩ = some (.slice A2 n2 c2) := hkr.cell 1
            have b2 : wr.cell? ⟨w.heap.size, 2, none⟩ = some (.slice A3 n3 c3) := hkr.cell 2
            have hz : w.heap.size + 1 < wr.heap.size := hbm.lt
            by_cases hin : i < n2
            · have e1 := HK.out
              rw [show n2 - i = (n2 - (i + 1)) + 1 from by omega, upM] at e1
              obtain ⟨b, off, hx, K, kn, kc, he2, hb, -, m1', -, -, -, hknc, hkcm, hkid, -, -, -, -⟩ := nodes_get har.nodes hin
              have hnx := List.getElem?_eq_getElem hx
              have hkat : kidsAt a.nodes i = a.nodes[i].kids := by rw [kidsAt, hnx]
              have hkin : ∀ y ∈ a.nodes[i].kids, 0 ≤ y ∧ y < (n2 : Int) := fun y hy => by have := kids_in HLOW.out hnx hy; omega
              generalize a.nodes[i].kids = ks at hkat hkin hkid
              have HKI := Lib.hid hkin
              have hiI : (i : Int) < (n2 : Int) := by omega
              have c1' := marks_cell hbm (i := i) (by rw [hml]; exact hin)
              unfold maxLen at hkcm
              subst he2
              have hbe : ∃ bm : Bool, ms.getD i false = bm := ⟨_, rfl⟩
              obtain ⟨bm, hbe⟩ := hbe
              rw [hbe] at c1'
              rw [stepM, hbe, hkat] at e1
              have HBM := Lib.hid hbe
              have HKD := Lib.hid (show ∀ W : World, Below w.heap.size w W → IntsB W w.heap.size K kn ks from fun W hW => by
                have := hkid
                exact this.keep stays_int (fun _ h => h) (fun b' o' hb' => (hW.cell (p := ⟨b', o', none⟩) hb').trans (hbw.cell (p := ⟨b', o', none⟩) hb').symm))
              have HMB := Lib.hid (show ∀ W : World, Below w.heap.size w W → W.cell? ⟨b, off + i * 5 + 1, none⟩ = some (.slice K kn kc) from fun W hW => ((hW.cell (p := ⟨b, off + i * 5 + 1, none⟩) hb).trans (hbw.cell (p := ⟨b, off + i * 5 + 1, none⟩) hb).symm).trans m1')
              have HM := Lib.hid (And.intro hml (And.intro hbel hbm))
              obtain ⟨W2, rfl⟩ : ∃ W2 : World, W2 = wr := ⟨_, rfl⟩
              clear hbe hkat hnx hkid hx HK har hkr hkin hml hbel hbm
              cases bm with
              | false =>
                rw [if_neg (by simp)] at e1
                have H1 := Lib.hid e1
                have hbw2 := hbw
                clear e1 hbw
                go_wp2_with fail
                go_loopw [7] (fun s7 wr => s7 = .int .i64 0 ∧ wr = W2) (fun _ _ => 0)
                case atStart => exact ⟨rfl, rfl⟩
                case round =>
                  obtain ⟨rfl, hwx⟩ := hrel
                  obtain rfl : W2 = wr := hwx.symm
                  go_wp2_with fail
                  go_roundw
                  case rel => exact ⟨i + 1, by omega, by go_num, ms, HM.out.1, HM.out.2.1, HM.out.2.2, H1⟩
                  case measure => simp [intOf]; omega
              | true =>
                rw [if_pos rfl] at e1
                have H1 := Lib.hid e1
                clear e1
                go_wp2_with fail
                clear b1 b2 hz c1' hbw m1'
                go_loopw [7] (fun s7 wr => ∃ t : Nat, t ≤ kn ∧ s7 = .int .i64 t ∧ ∃ ms : List Bool, ms.length = n2 ∧ Below (w.heap.size + 1) X wr ∧ Blk wr (w.heap.size + 1) 4 (boolsC ms) ∧ Hid (ms.getD i false = true) ∧ Hid (passes a.nodes (n2 - (p + 1)) (upM a.nodes (i + 1) (n2 - (i + 1)) (markAll (ks.drop t) ms)) = F)) (fun s7 _ => kn - (intOf s7).toNat)
                case atStart => exact ⟨0, Nat.zero_le _, rfl, ms, HM.out.1, HM.out.2.1, HM.out.2.2, HBM, H1⟩
                case round =>
                  clear HM H1 HBM
                  obtain ⟨t, ht, rfl, ms, hml, hbel, hbm, HBM, HK⟩ := hrel
                  obtain ⟨hbw, hkr, har⟩ := MK.out wr hbel
                  have b1 : wr.cell? ⟨w.heap.size, 1, none⟩ = some (.slice (some ⟨b, off, none⟩) n2 c2) := hkr.cell 1
                  have b2 : wr.cell? ⟨w.heap.size, 2, none⟩ = some (.slice A3 n3 c3) := hkr.cell 2
                  have hz : w.heap.size + 1 < wr.heap.size := hbm.lt
                  have c1' := marks_cell hbm (i := i) (by rw [hml]; exact hin)
                  rw [HBM.out] at c1'
                  have m1' := HMB.out wr hbw
                  by_cases htn : t < kn
                  · obtain ⟨b3, off3, hx3, rfl, hb3, hc3, -, -⟩ := ints_get (HKD.out wr hbw) htn
                    have e1 := HK.out
                    rw [drop_cons hx3, markAll] at e1
                    have hmem := HKI.out _ (List.getElem_mem hx3)
                    generalize ks[t] = y at e1 hc3 hmem
                    obtain ⟨hy0, hy1⟩ := hmem
                    have htI : (t : Int) < (kn : Int) := by omega
                    have H1 := Lib.hid e1
                    have hyn : y.toNat < n2 := by omega
                    have c0 := marks_cell hbm (i := y.toNat) (by rw [hml]; exact hyn)
                    have z0 : wr.frozen? ⟨w.heap.size + 1, y.toNat, none⟩ = false := hbm.frozen _
                    have HM := Lib.hid (And.intro hml (And.intro hbel hbm))
                    clear e1 HK hx3 hb3 hml hbel hbm har hkr hbw
                    go_wp2_with fail
                    go_roundw
                    case rel =>
                      refine ⟨t + 1, by omega, by go_num, ms.set y.toNat true, by rw [List.length_set, HM.out.1], HM.out.2.1.setCell (p := ⟨w.heap.size + 1, y.toNat, none⟩) (Nat.le_refl _) _, marks_set HM.out.2.2, ?_, H1⟩
                      show _ = _
                      rw [set_getD, HBM.out, Bool.or_true]
                    case measure => simp [intOf]; omega
                  · obtain rfl : kn = t := by omega
                    have e1 := HK.out
                    rw [List.drop_of_length_le (by rw [(HKD.out wr hbw).len]; omega), markAll] at e1
                    have H1 := Lib.hid e1
                    have HM := Lib.hid (And.intro hml (And.intro hbel hbm))
                    clear e1 HK hml hbel hbm har hkr hbw
                    go_wp2_with fail
                    go_roundw
                    case rel => exact ⟨i + 1, by omega, by go_num, ms, HM.out.1, HM.out.2.1, HM.out.2.2, H1⟩
                    case measure => simp [intOf]; omega
            · obtain rfl : n2 = i := by omega
              have e1 := HK.out
              rw [Nat.sub_self, upM] at e1
              have H1 := Lib.hid e1
              have HM := Lib.hid (And.intro hml (And.intro hbel hbm))
              clear HK e1 hml hbel hbm har hkr hbw
              go_wp2_with fail
              go_roundw
              case rel => exact ⟨p + 1, by omega, by go_num, ms, HM.out.1, HM.out.2.1, HM.out.2.2, H1⟩
              case measure => simp [intOf]; omega
        · obtain rfl : n2 = p := by omega
          have e1 := HK.out
          rw [Nat.sub_self, passes] at e1
          subst e1
          go_wp2_with fail
          go_ret
          exact ⟨w.heap.size + 1, rfl, hbw, Nat.le_succ _, hbm, hml⟩
end Go.Proofs.Ytggkfepifnfdoaa
