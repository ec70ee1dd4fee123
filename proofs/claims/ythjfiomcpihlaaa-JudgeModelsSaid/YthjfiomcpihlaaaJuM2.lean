/- Walk: umpiragekit.CnfOf (printed by genJuM2.py). -/
import Derived.Test.YthjfiomcpihlaaaKfB
import Derived.Test.YthjfiomcpihlaaaOutP
import Derived.Test.YthjfiomcpihlaaaJuEX
import Derived.Deep.RegionLaw
namespace Go.Proofs.Ythjfiomcpihlaaa
open Go.RowKit

/-- a clause that was made, put into a row -/
theorem clause_itemM {α : Type} {V : Val α} {sz e : Nat} {W0 wr w3 : World} {G : Nat} {v v1 : Value} {xs : List α} {ks : List Int} (hV : Tells V sz) (hout : Out V e sz W0 wr G v1 xs) (hb1 : Below wr.heap.size wr w3) (hown : OwnC w3 wr.heap.size v ks) :
    ∃ A3 c3, v = .slice A3 ks.length c3 ∧ ks.length ≤ c3 ∧ c3 ≤ maxLen ∧ Out V e sz W0 w3 G v1 xs ∧ Arr AtInt 1 w3 (SO W0.heap.size w3 v1) A3 ks.length ks := by
  have hol := hown.lt
  obtain ⟨A3, c3, rfl, h1, h2, h3⟩ := OwnV.reads (E := AtInt) tells_int (fun _ _ _ _ _ h => atV_int.1 h) hown (S' := fun b => wr.heap.size ≤ b ∧ b < w3.heap.size) (fun b h => False.elim h) (fun g hg => hol g hg)
  have hlt := hout.own.lt
  have hz := hout.only.size
  exact ⟨A3, c3, rfl, h1, h2, hout.step hV hb1, h3.keep stays_int (fun b hb => ⟨by omega, hb.2, fun e => by have := (hlt b e).2; omega⟩) (fun _ _ _ => rfl)⟩
def CnfP (vars : Int) (nn : Nat) (w : World) (e : Ending) (w' : World) : Prop := ∃ (A4 : Option Addr) (n4 c4 : Nat) (cls : List (List Int)), e = .returned (.agg #[.int .i64 vars, .slice A4 n4 c4]) ∧
  ArrB (AtArr AtInt 1) 1 w' w'.heap.size A4 n4 cls ∧ n4 ≤ c4 ∧ c4 ≤ maxLen ∧ n4 ≤ nn ∧ (∀ c ∈ cls, Lits vars c) ∧ Below w.heap.size w w'

set_option maxRecDepth 100000 in
set_option maxHeartbeats 8000000 in
theorem cnfOf_any (A : Option Addr) (n c : Nat) (xs : List Int) (vars : Int) (nn : Nat) (w : World) (hxs : ArrB AtInt 1 w w.heap.size A n xs) (hn : n ≤ 9223372036854775807) (h1 : 1 ≤ vars) (h2 : vars ≤ 100) (hnn : nn ≤ 100) :
    Calls Try.prog 11 #[.slice A n c, .int .i64 vars, .int .i64 (nn : Int)] w (CnfP vars nn w) := by
  obtain ⟨hb0, hkr, hkb, hs0⟩ := two_boxes w 38 38 #[.int .i64 0, .slice none 0 0] #[.int .i64 vars, .slice none 0 0]
  obtain ⟨X0, hX0⟩ : ∃ X, (w.alloc (.cells #[.int .i64 0, .slice none 0 0] 38)).alloc (.cells #[.int .i64 vars, .slice none 0 0] 38) = X := ⟨_, rfl⟩
  rw [hX0] at hb0 hkr hkb hs0
  have HX0 := Lib.hid hX0
  have H0 := Lib.hid (And.intro hb0 (And.intro hkr hkb))
  have hs0' : w.heap.size + 2 = X0.heap.size := hs0.symm
  have HXS := Lib.hid hxs
  clear hX0 hb0 hkr hkb hs0 hxs
  go_enter Try.func11, Try.ntmps11
  go_upto_region 2 with fail
  rw [HX0.out]
  clear HX0
  go_wp2_with fail
  go_loopw [8] (fun s8 wr => ∃ (i : Nat) (v4 : Value) (cls : List (List Int)), s8 = .int .i64 (i : Int) ∧ i ≤ nn ∧ Hid (cls.length = i ∧ (∀ c ∈ cls, Lits vars c) ∧ Blk wr (w.heap.size + 1) 38 #[.int .i64 vars, v4] ∧ Out (VArr AtInt 1) 31 1 X0 wr (w.heap.size + 1) v4 cls)) (fun s8 _ => nn - (intOf s8).toNat)
  case atStart => exact ⟨0, .slice none 0 0, [], rfl, Nat.zero_le _, rfl, fun x h => by simp at h, H0.out.2.2, Out.start (VArr AtInt 1) 31 1 X0 H0.out.2.2.lt⟩
  case round =>
    obtain ⟨i, v4, cls, rfl, hi, HR⟩ := hrel
    have hGw : w.heap.size + 1 < wr.heap.size := HR.out.2.2.1.lt
    have hBw : Below w.heap.size w wr := below_then H0.out.1 HR.out.2.2.2.only (by omega) (fun x hx => by injection hx; omega)
    have HB := Lib.hid hBw
    clear hBw
    by_cases hlt : i < nn ∧ i < n
    · obtain ⟨hl1, hl2⟩ := hlt
      have hiI : (i : Int) < (nn : Int) := by omega
      have hiJ : (i : Int) < (n : Int) := by omega
      obtain ⟨bx, ox, hx, rfl, hbx, hcx, hx0, hx1⟩ := ints_get (HXS.out.below stays_int HB.out HB.out.size) hl2
      generalize xs[i] = x at hcx hx0 hx1
      have HC := Lib.hid (clauseOf_any x vars wr.drew ⟨hx0, hx1⟩ (by omega) (by omega))
      have HL := Lib.hid HR.out.1
      have q3 : wr.cell? ⟨w.heap.size + 1, 1, none⟩ = some v4 := HR.out.2.2.1.cell 1
      clear hbx hx hx0 hx1
      have hwj : IntKind.i64.wrap (i : Int) = (i : Int) := by rw [IntKind.wrap_i64]; omega
      have hj0 : (0 : Int) ≤ (i : Int) := by omega
      go_wp2_with fail
      go_region_law (first
        | (refine step_append_item (by rfl) _ _ _ (by rfl) rowLits (tells_arr stays_int) (v := v4) (xs := cls) (base := X0.heap.size) (S := SO X0.heap.size (w3.alloc (.cells #[.slice A3 ks.length c3] 31)) v4) (by rfl) (.inl HOY.out.own) (g := w3.heap.size) (cs := #[.slice A3 ks.length c3]) (by rfl) HBN.out (y := ks) HVY.out (fun b h => ⟨h.2.1, h.2.2⟩) (by unfold maxLen; omega) (by omega) hW0 ?_
           intro g' cap w6 hown6 hgrow6 hat6 hlt6
           have hgb6 : Blk w6 (w.heap.size + 1) 38 #[.int .i64 vars, v4] := HGY.out.grown hgrow6 (fun e => by have := (HLT.out (w.heap.size + 1) e.symm).1; omega)
           have q6 : w6.cell? ⟨w.heap.size + 1, 1, none⟩ = some v4 := hgb6.cell 1
           have z6 : w6.frozen? ⟨w.heap.size + 1, 1, none⟩ = false := hgb6.frozen 1
           have HB6 := Lib.hid (And.intro hgb6 (And.intro hown6 (And.intro hgrow6 hat6)))
           clear hgb6 hown6 hgrow6 hat6)
        | (go_simp
           go_at_call 15
           refine HC.out.mono ?_
           rintro e w3 ⟨v, ks, rfl, hown, hlits, hb3⟩
           have hbX : Below wr.heap.size wr w3 := ((Below.refl wr.heap.size wr).drew).trans hb3
           obtain ⟨A3, c3, rfl, hc3, hc3m, hst, har⟩ := clause_itemM (tells_arr stays_int) (HR.out.2.2.2.step (tells_arr stays_int) (Below.refl wr.heap.size wr).drew) hb3 hown
           have HPX : Hid (Out (VArr AtInt 1) 31 1 X0 w3 (w.heap.size + 1) v4 cls ∧ Blk w3 (w.heap.size + 1) 38 #[.int .i64 vars, v4] ∧ VArr AtInt 1 w3 (SO X0.heap.size w3 v4) [.slice A3 ks.length c3] ks) := ⟨hst, HR.out.2.2.1.below hbX hGw, _, _, _, rfl, hc3, hc3m, har⟩
           have HLI := Lib.hid hlits
           clear hbX hst har hown hlits hb3
           have hbY : Below w3.heap.size w3 (w3.alloc (.cells #[.slice A3 ks.length c3] 31)) := (Below.refl _ _).alloc (Nat.le_refl _) _
           have HOY := Lib.hid (HPX.out.1.step (tells_arr stays_int) hbY)
           have hlt := HPX.out.1.own.lt
           have HBN := Lib.hid (Blk.new w3 31 #[.slice A3 ks.length c3])
           have HVY : Hid (VArr AtInt 1 (w3.alloc (.cells #[.slice A3 ks.length c3] 31)) (SO X0.heap.size (w3.alloc (.cells #[.slice A3 ks.length c3] 31)) v4) [.slice A3 ks.length c3] ks) := (tells_arr stays_int).keep _ _ _ _ _ _ (fun b hb => ⟨hb.1, Nat.lt_of_lt_of_le hb.2.1 hbY.size, hb.2.2⟩) (fun b o hb => hbY.cell (p := ⟨b, o, none⟩) hb.2.1) HPX.out.2.2
           have HGY : Hid (Blk (w3.alloc (.cells #[.slice A3 ks.length c3] 31)) (w.heap.size + 1) 38 #[.int .i64 vars, v4]) := HPX.out.2.1.below hbY HPX.out.2.1.lt
           have qx : w3.cell? ⟨w.heap.size + 1, 1, none⟩ = some v4 := HPX.out.2.1.cell 1
           have zX : w.heap.size + 1 < w3.heap.size := HPX.out.2.1.lt
           have HLT := Lib.hid hlt
           have hlx : cls.length ≤ 100 := by have := HL.out; omega
           have hW0 : X0.heap.size ≤ (w3.alloc (.cells #[.slice A3 ks.length c3] 31)).heap.size := Nat.le_trans HPX.out.1.only.size hbY.size
           clear hbY hlt)
        | fail)
      all_goals
        go_wp2_with fail
        go_roundw
        case rel =>
          obtain ⟨hgb6, hown6, hgrow6, hat6⟩ := HB6.out
          exact ⟨i + 1, _, cls ++ [ks], by go_num, by omega, by simp [HR.out.1], fun x hx => by
            rcases List.mem_append.1 hx with hx | hx
            · exact HR.out.2.1 x hx
            · rw [List.mem_singleton.1 hx]; exact HLI.out, hgb6.set_ 1 _, Out.push (tells_arr stays_int) HOY.out hown6 hgrow6 (hat6.elim (fun h => .inl h.symm) (fun h => .inr (congrArg some h))) 1 _⟩
        case measure => simp [intOf]; omega
    · obtain ⟨A5, c5, e5, hc5, hc5m, har⟩ := HR.out.2.2.2.done (tells_arr stays_int) (E := AtArr AtInt 1) (fun _ _ _ _ _ h => atV_arr.1 h)
      have q0 : wr.cell? ⟨w.heap.size + 1, 0, none⟩ = some (.int .i64 vars) := HR.out.2.2.1.cell 0
      have q1 : wr.cell? ⟨w.heap.size + 1, 1, none⟩ = some (.slice A5 cls.length c5) := by rw [← e5]; exact HR.out.2.2.1.cell 1
      have kr : Blk wr w.heap.size 38 #[.int .i64 0, .slice none 0 0] := H0.out.2.1.grown HR.out.2.2.2.only (by intro e; injection e with e; omega)
      have p0 : wr.cell? ⟨w.heap.size, 0, none⟩ = some (.int .i64 0) := kr.cell 0
      have p1 : wr.cell? ⟨w.heap.size, 1, none⟩ = some (.slice none 0 0) := kr.cell 1
      have p2 : wr.frozen? ⟨w.heap.size, 0, none⟩ = false := kr.frozen 0
      have p3 : wr.frozen? ⟨w.heap.size, 1, none⟩ = false := kr.frozen 1
      have zr : w.heap.size < wr.heap.size := kr.lt
      have HE : Hid (ArrB (AtArr AtInt 1) 1 wr wr.heap.size A5 cls.length cls ∧ cls.length ≤ c5 ∧ c5 ≤ maxLen) := ⟨har.keep (stays_arr stays_int) (fun b hb => hb.2) (fun _ _ _ => rfl), hc5, hc5m⟩
      have HS := Lib.hid (And.intro hs0' har)
      clear e5 hc5 hc5m har kr
      have fin : Hid (CnfP vars nn w (.returned (.agg #[.int .i64 vars, .slice A5 cls.length c5])) ((wr.setCell ⟨w.heap.size, 0, none⟩ (.int .i64 vars)).setCell ⟨w.heap.size, 1, none⟩ (.slice A5 cls.length c5))) := by
        have g1 : wr.grownBy ((wr.setCell ⟨w.heap.size, 0, none⟩ (.int .i64 vars)).setCell ⟨w.heap.size, 1, none⟩ (.slice A5 cls.length c5)) (some w.heap.size) := one_only (one_only (only_refl wr _) 0 _) 1 _
        refine ⟨A5, cls.length, c5, cls, rfl, HS.out.2.keep (stays_arr stays_int) (fun b hb => by have := g1.size; omega) (fun b o hb => only_cell g1 hb.2 (by intro e; injection e with e; have := HS.out.1; omega)), HE.out.2.1, HE.out.2.2, by have := HR.out.1; omega, HR.out.2.1, ?_⟩
        exact (HB.out.setCell (p := ⟨w.heap.size, 0, none⟩) (by simp) _).setCell (p := ⟨w.heap.size, 1, none⟩) (by simp) _
      by_cases h1 : i < nn
      · have hiI : (i : Int) < (nn : Int) := by omega
        have hiJ : ¬ (i : Int) < (n : Int) := by omega
        go_wp2_with fail
        refine bodyPost_ret (v := .agg #[.int .i64 vars, .slice A5 cls.length c5]) (by simp [results, Try.results11, go_sem, p0, p1]) rfl ?_
        exact fin.out
      · have hiI : ¬ (i : Int) < (nn : Int) := by omega
        by_cases h2 : i < n
        · have hiJ : (i : Int) < (n : Int) := by omega
          go_wp2_with fail
          refine bodyPost_ret (v := .agg #[.int .i64 vars, .slice A5 cls.length c5]) (by simp [results, Try.results11, go_sem, p0, p1]) rfl ?_
          exact fin.out
        · have hiJ : ¬ (i : Int) < (n : Int) := by omega
          go_wp2_with fail
          refine bodyPost_ret (v := .agg #[.int .i64 vars, .slice A5 cls.length c5]) (by simp [results, Try.results11, go_sem, p0, p1]) rfl ?_
          exact fin.out
end Go.Proofs.Ythjfiomcpihlaaa
