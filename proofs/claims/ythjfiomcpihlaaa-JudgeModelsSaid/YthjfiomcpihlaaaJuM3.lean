/- Walk: umpiragelaw2.free (printed by genJuM2.py). -/
import Derived.Test.YthjfiomcpihlaaaJuTS
namespace Go.Proofs.Ythjfiomcpihlaaa
open Go.RowKit

def FreeP (m : Nat) (A4 : Option Addr) (n4 c4 : Nat) (w : World) (e : Ending) (w' : World) : Prop := ∃ (A3 : Option Addr) (c3 : Nat), e = .returned (.agg #[.slice none 0 0, .slice none 0 0, .slice A3 m c3, .slice A4 n4 c4]) ∧
  ArrB AtAtom 6 w' w'.heap.size A3 m (List.replicate m ⟨1, 0, 0, ⟨[], 0, 0⟩⟩) ∧ m ≤ c3 ∧ c3 ≤ maxLen ∧ Below w.heap.size w w'

set_option maxRecDepth 100000 in
set_option maxHeartbeats 8000000 in
theorem free_any (m : Nat) (A4 : Option Addr) (n4 c4 : Nat) (w : World) (hm : m ≤ 100) :
    Calls Try.prog 12 #[.int .i64 (m : Int), .slice A4 n4 c4] w (FreeP m A4 n4 c4 w) := by
  obtain ⟨hb0, hkr, hkb, hs0⟩ := two_boxes w 27 27 #[.slice none 0 0, .slice none 0 0, .slice none 0 0, .slice none 0 0] #[.slice none 0 0, .slice none 0 0, .slice none 0 0, .slice A4 n4 c4]
  obtain ⟨X0, hX0⟩ : ∃ X, (w.alloc (.cells #[.slice none 0 0, .slice none 0 0, .slice none 0 0, .slice none 0 0] 27)).alloc (.cells #[.slice none 0 0, .slice none 0 0, .slice none 0 0, .slice A4 n4 c4] 27) = X := ⟨_, rfl⟩
  rw [hX0] at hb0 hkr hkb hs0
  have HX0 := Lib.hid hX0
  have H0 := Lib.hid (And.intro hb0 (And.intro hkr hkb))
  have hs0' : w.heap.size + 2 = X0.heap.size := hs0.symm
  clear hX0 hb0 hkr hkb hs0
  go_enter Try.func12, Try.ntmps12
  go_upto_region 2 with fail
  rw [HX0.out]
  clear HX0
  go_wp2_with fail
  go_loopw [6] (fun s6 wr => ∃ (i : Nat) (v1 : Value), s6 = .int .i64 (i : Int) ∧ i ≤ m ∧ Hid (Blk wr (w.heap.size + 1) 27 #[.slice none 0 0, .slice none 0 0, v1, .slice A4 n4 c4] ∧ Out VAtom 35 6 X0 wr (w.heap.size + 1) v1 (List.replicate i ⟨1, 0, 0, ⟨[], 0, 0⟩⟩))) (fun s6 _ => m - (intOf s6).toNat)
  case atStart => exact ⟨0, .slice none 0 0, rfl, Nat.zero_le _, H0.out.2.2, Out.start VAtom 35 6 X0 H0.out.2.2.lt⟩
  case round =>
    obtain ⟨i, v1, rfl, hi, HR⟩ := hrel
    have hGw : w.heap.size + 1 < wr.heap.size := HR.out.1.lt
    by_cases hlt : i < m
    · have hiI : (i : Int) < (m : Int) := by omega
      have hbY : Below wr.heap.size wr (wr.alloc (.cells #[.int .i64 1, .int .i64 0, .int .i64 0, .slice none 0 0, .int .i64 0, .int .i64 0] 35)) := (Below.refl _ _).alloc (Nat.le_refl _) _
      have HOY := Lib.hid (HR.out.2.step tells_atom hbY)
      have HLT := Lib.hid HR.out.2.own.lt
      have HBN := Lib.hid (Blk.new wr 35 #[.int .i64 1, .int .i64 0, .int .i64 0, .slice none 0 0, .int .i64 0, .int .i64 0])
      have HGY : Hid (Blk (wr.alloc (.cells #[.int .i64 1, .int .i64 0, .int .i64 0, .slice none 0 0, .int .i64 0, .int .i64 0] 35)) (w.heap.size + 1) 27 #[.slice none 0 0, .slice none 0 0, v1, .slice A4 n4 c4]) := HR.out.1.below hbY hGw
      have q0 : wr.cell? ⟨w.heap.size + 1, 2, none⟩ = some v1 := HR.out.1.cell 2
      have hW0 : X0.heap.size ≤ (wr.alloc (.cells #[.int .i64 1, .int .i64 0, .int .i64 0, .slice none 0 0, .int .i64 0, .int .i64 0] 35)).heap.size := Nat.le_trans HR.out.2.only.size hbY.size
      clear hbY
      go_wp2_with (at_builtin; go_loud (refine wpList_append_item rfl _ _ _ rfl rowAtoms tells_atom (v := v1) (xs := List.replicate i ⟨1, 0, 0, ⟨[], 0, 0⟩⟩) (base := X0.heap.size) (S := SO X0.heap.size (wr.alloc (.cells #[.int .i64 1, .int .i64 0, .int .i64 0, .slice none 0 0, .int .i64 0, .int .i64 0] 35)) v1) rfl HOY.out.own (g := wr.heap.size) (cs := #[.int .i64 1, .int .i64 0, .int .i64 0, .slice none 0 0, .int .i64 0, .int .i64 0]) rfl HBN.out (y := ⟨1, 0, 0, ⟨[], 0, 0⟩⟩) (vatom_plain i64_1 i64_0 i64_0) (fun b h => ⟨h.2.1, h.2.2⟩) (by simp; unfold maxLen; omega) (by simp; omega) hW0 ?_); intro v' w6 hown6 hgrow6 hat6; obtain ⟨A6, c6, rfl, hc6, hc6m⟩ := hown6.len; (have hl6 : (List.replicate i (⟨1, 0, 0, ⟨[], 0, 0⟩⟩ : AtomD) ++ [(⟨1, 0, 0, ⟨[], 0, 0⟩⟩ : AtomD)]).length = i + 1 := by simp); rw [hl6] at hown6 hat6 ⊢; clear hl6; (have hgb6 : Blk w6 (w.heap.size + 1) 27 #[.slice none 0 0, .slice none 0 0, v1, .slice A4 n4 c4] := HGY.out.grown hgrow6 (fun e => by have := (HLT.out _ e.symm).1; omega)); (have q6 : w6.cell? ⟨w.heap.size + 1, 2, none⟩ = some v1 := hgb6.cell 2); (have f6 : w6.frozen? ⟨w.heap.size + 1, 2, none⟩ = false := hgb6.frozen 2); (have z6 : w.heap.size + 1 < w6.heap.size := hgb6.lt); (have HB6 := Lib.hid (And.intro hgb6 (And.intro hown6 (And.intro hgrow6 hat6)))); clear hgb6 hown6 hgrow6 hat6 hc6 hc6m)
      go_roundw
      case rel =>
        obtain ⟨hgb6, hown6, hgrow6, hat6⟩ := HB6.out
        refine ⟨i + 1, _, by go_num, by omega, hgb6.set_ 2 _, ?_⟩
        rw [List.replicate_succ']
        exact Out.push tells_atom HOY.out hown6 hgrow6 hat6 2 _
      case measure => simp [intOf]; omega
    · have hiI : ¬ (i : Int) < (m : Int) := by omega
      obtain rfl : i = m := by omega
      obtain ⟨A5, c5, e5, hc5, hc5m, har⟩ := HR.out.2.done tells_atom (E := AtAtom) (fun _ _ _ _ _ h => atV_atom h)
      rw [List.length_replicate] at e5 hc5 har
      have q0 : wr.cell? ⟨w.heap.size + 1, 0, none⟩ = some (.slice none 0 0) := HR.out.1.cell 0
      have q1 : wr.cell? ⟨w.heap.size + 1, 1, none⟩ = some (.slice none 0 0) := HR.out.1.cell 1
      have q2 : wr.cell? ⟨w.heap.size + 1, 2, none⟩ = some (.slice A5 i c5) := by rw [← e5]; exact HR.out.1.cell 2
      have q3 : wr.cell? ⟨w.heap.size + 1, 3, none⟩ = some (.slice A4 n4 c4) := HR.out.1.cell 3
      have kr : Blk wr w.heap.size 27 #[.slice none 0 0, .slice none 0 0, .slice none 0 0, .slice none 0 0] := H0.out.2.1.grown HR.out.2.only (by intro e; injection e with e; omega)
      have zr : w.heap.size < wr.heap.size := kr.lt
      have hBw : Below w.heap.size w wr := below_then H0.out.1 HR.out.2.only (by omega) (fun x hx => by injection hx; omega)
      have hgr : wr.grownBy ((((wr.setCell ⟨w.heap.size, 0, none⟩ (.slice none 0 0)).setCell ⟨w.heap.size, 1, none⟩ (.slice none 0 0)).setCell ⟨w.heap.size, 2, none⟩ (.slice A5 i c5)).setCell ⟨w.heap.size, 3, none⟩ (.slice A4 n4 c4)) (some w.heap.size) := one_only (one_only (one_only (one_only (only_refl wr _) 0 _) 1 _) 2 _) 3 _
      have fin : Hid (FreeP i A4 n4 c4 w (.returned (.agg #[.slice none 0 0, .slice none 0 0, .slice A5 i c5, .slice A4 n4 c4])) ((((wr.setCell ⟨w.heap.size, 0, none⟩ (.slice none 0 0)).setCell ⟨w.heap.size, 1, none⟩ (.slice none 0 0)).setCell ⟨w.heap.size, 2, none⟩ (.slice A5 i c5)).setCell ⟨w.heap.size, 3, none⟩ (.slice A4 n4 c4))) :=
        ⟨A5, c5, rfl, har.keep stays_atom (fun b hb => by have := hgr.size; omega) (fun b o hb => only_cell hgr hb.2 (by intro e; injection e with e; omega)), hc5, hc5m, below_then hBw hgr (by omega) (fun x hx => by injection hx with hx; omega)⟩
      have p0 : wr.cell? ⟨w.heap.size, 0, none⟩ = some (.slice none 0 0) := kr.cell 0
      have p1 : wr.cell? ⟨w.heap.size, 1, none⟩ = some (.slice none 0 0) := kr.cell 1
      have p2 : wr.cell? ⟨w.heap.size, 2, none⟩ = some (.slice none 0 0) := kr.cell 2
      have p3 : wr.cell? ⟨w.heap.size, 3, none⟩ = some (.slice none 0 0) := kr.cell 3
      have f0 : wr.frozen? ⟨w.heap.size, 0, none⟩ = false := kr.frozen 0
      have f1 : wr.frozen? ⟨w.heap.size, 1, none⟩ = false := kr.frozen 1
      have f2 : wr.frozen? ⟨w.heap.size, 2, none⟩ = false := kr.frozen 2
      have f3 : wr.frozen? ⟨w.heap.size, 3, none⟩ = false := kr.frozen 3
      clear e5 hc5 hc5m har kr hBw hgr
      go_wp2_with fail
      refine bodyPost_ret (v := .agg #[.slice none 0 0, .slice none 0 0, .slice A5 i c5, .slice A4 n4 c4]) (by simp [results, Try.results12, go_sem, p0, p1, p2, p3]) rfl ?_
      exact fin.out
end Go.Proofs.Ythjfiomcpihlaaa
