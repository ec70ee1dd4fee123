/- Walk: commands that are made of raw numbers. -/
import Derived.Test.YtpceiifacendfaaKfB
import Derived.Test.YtpceiifacendfaaFrG
import Derived.Test.YtpceiifacendfaaFitsB
namespace Go.Proofs.Ytpceiifacendfaa
open Go.RowKit

theorem infoDeed : (Try.prog.info? 47).map (fun i => (i.zero, i.size, i.bytes)) = some (some (.agg #[.int .i64 0, .slice none 0 0]), 2, 32) := by kernel_rfl
theorem rowDeeds : RowT Try.prog 44 47 2 32 := rowT_of Try.underlying44 infoDeed rfl (by omega)
theorem own_step {α : Type} {V : Val α} {sz e base H : Nat} {Y w6 : World} {v v' : Value} {zs : List α} (hV : Tells V sz) (h : OwnV V e sz w6 base (SO H Y v) v' zs) (hg : Y.grownBy w6 v.ownBlock) (hat : v'.ownBlock = v.ownBlock ∨ v'.ownBlock = some Y.heap.size) : OwnV V e sz w6 base (SO H w6 v') v' zs := by
  obtain ⟨cells, h1, h2⟩ := h
  refine ⟨cells, h1, Cels.keep hV (fun b hb => ⟨hb.1, Nat.lt_of_lt_of_le hb.2.1 hg.size, ?_⟩) (fun _ _ _ => rfl) _ _ h2⟩
  rcases hat with e | e
  · rw [e]; exact hb.2.2
  · rw [e]; intro e2; injection e2 with e2; have := hb.2.1; omega
/-- a row of commands that the call makes -/
abbrev OwnD (w : World) (B : Nat) (v : Value) (ds : List TermD) : Prop := OwnV VTerm 47 2 w B (SO B w v) v ds
theorem OwnD.later {w w' : World} {B : Nat} {v : Value} {ds : List TermD} (h : OwnD w B v ds) (hb : Below w.heap.size w w') : OwnD w' B v ds :=
  OwnV.kept tells_term h (only_of_below hb none) (by cases v.ownBlock <;> simp) (fun b hS => ⟨⟨hS.1, Nat.lt_of_lt_of_le hS.2.1 hb.size, hS.2.2⟩, hS.2.1, by simp⟩)
def DeedsP (vars : Int) (w : World) (e : Ending) (w' : World) : Prop := ∃ (v : Value) (ds : List TermD) (d : Nat), e = .returned v ∧ OwnD w' w.heap.size v ds ∧ Deeds vars ds d ∧ ds.length ≤ 20 ∧ d ≤ 20 ∧ Below w.heap.size w w'

set_option maxRecDepth 100000 in
set_option maxHeartbeats 4000000 in
theorem deeds_any (A : Option Addr) (n c : Nat) (xs : List Int) (vars : Int) (w : World) (hxs : ArrB AtInt 1 w w.heap.size A n xs) (h1 : 1 ≤ vars) (h2 : vars ≤ 100) :
    Calls Try.prog 13 #[.slice A n c, .int .i64 vars] w (DeedsP vars w) := by
  have HXS := Lib.hid hxs
  clear hxs
  go_enter Try.func13, Try.ntmps13
  go_wp2_with fail
  go_loopw [5, 6, 7] (fun s5 s6 s7 wr => ∃ (ds : List TermD) (d i : Nat), s6 = .int .i64 (d : Int) ∧ s7 = .int .i64 (i : Int) ∧ i ≤ 20 ∧ d ≤ i ∧ Hid (ds.length ≤ i ∧ Deeds vars ds d ∧ OwnD wr w.heap.size s5 ds ∧ Below w.heap.size w wr)) (fun _ _ s7 _ => 20 - (intOf s7).toNat)
  case atStart => exact ⟨[], 0, 0, rfl, rfl, Nat.zero_le _, Nat.le_refl _, Nat.le_refl _, Deeds.nil, OwnV.none_ _ _ _ _ _ _, Below.refl _ _⟩
  case round =>
    obtain ⟨ds, d, i, rfl, rfl, hi, hdi, HR⟩ := hrel
    obtain ⟨A5, c5, rfl, -, -⟩ := HR.out.2.2.1.len
    by_cases hlt : i < n ∧ i < 20
    · obtain ⟨hin, hi20⟩ := hlt
      have hiI : (i : Int) < (n : Int) := by omega
      have hiJ : (i : Int) < 20 := by omega
      obtain ⟨bx, ox, hx, rfl, hbx, hcx, hx0, hx1⟩ := ints_get (HXS.out.below stays_int HR.out.2.2.2 HR.out.2.2.2.size) hin
      generalize xs[i] = x at hcx hx0 hx1
      have HX : Hid (I64 x) := ⟨hx0, hx1⟩
      clear hx hbx hx0 hx1
      go_wp2_with fail
      refine (picked_in x 8 _ HX.out (by omega) (by omega)).mono ?_
      rintro e w9 ⟨r, rfl, rfl, r0, r1⟩
      by_cases q0 : r = 0 ∨ r = 1
      · rcases q0 with rfl | rfl
        all_goals
          have HPX : Hid (OwnD wr w.heap.size (.slice A5 ds.length c5) ds ∧ Below w.heap.size w wr ∧ VTerm wr (SO w.heap.size wr (.slice A5 ds.length c5)) [.int .i64 1, .slice none 0 0] ⟨1, []⟩) := ⟨HR.out.2.2.1, HR.out.2.2.2, none, 0, 0, rfl, ⟨by decide, by decide⟩, Nat.le_refl _, Nat.zero_le _, Arr.nil_⟩
          have hbY : Below wr.heap.size wr (wr.alloc (.cells #[.int .i64 1, .slice none 0 0] 47)) := (Below.refl _ _).alloc (Nat.le_refl _) _
          have HOY : Hid (OwnD (wr.alloc (.cells #[.int .i64 1, .slice none 0 0] 47)) w.heap.size (.slice A5 ds.length c5) ds) := HPX.out.1.later hbY
          have HBN := Lib.hid (Blk.new wr 47 #[.int .i64 1, .slice none 0 0])
          have HVY : Hid (VTerm (wr.alloc (.cells #[.int .i64 1, .slice none 0 0] 47)) (SO w.heap.size (wr.alloc (.cells #[.int .i64 1, .slice none 0 0] 47)) (.slice A5 ds.length c5)) [.int .i64 1, .slice none 0 0] ⟨1, []⟩) := tells_term.keep _ _ _ _ _ _ (fun b hb => ⟨hb.1, Nat.lt_of_lt_of_le hb.2.1 hbY.size, hb.2.2⟩) (fun b o hb => hbY.cell (p := ⟨b, o, none⟩) hb.2.1) HPX.out.2.2
          have HBY : Hid (Below w.heap.size w (wr.alloc (.cells #[.int .i64 1, .slice none 0 0] 47))) := HPX.out.2.1.trans (hbY.mono HPX.out.2.1.size)
          have hW0 : w.heap.size ≤ (wr.alloc (.cells #[.int .i64 1, .slice none 0 0] 47)).heap.size := HBY.out.size
          have hlx : ds.length ≤ 20 := by have := HR.out.1; omega
          clear hbY
          go_wp2_with (at_builtin; refine wpList_append_item rfl _ _ _ rfl rowDeeds tells_term (v := (.slice A5 ds.length c5)) (xs := ds) (base := w.heap.size) (S := SO w.heap.size (wr.alloc (.cells #[.int .i64 1, .slice none 0 0] 47)) (.slice A5 ds.length c5)) rfl HOY.out (g := wr.heap.size) (cs := #[.int .i64 1, .slice none 0 0]) rfl HBN.out (y := ⟨1, []⟩) HVY.out (fun b h => ⟨h.2.1, h.2.2⟩) (by unfold maxLen; omega) (by omega) hW0 ?_; intro v' w6 hown6 hgrow6 hat6; have HB6 := Lib.hid (And.intro (own_step tells_term hown6 hgrow6 hat6) (below_then HBY.out hgrow6 hW0 (fun x hx => (HOY.out.lt x hx).1))); clear hown6 hgrow6 hat6)
          go_roundw
          case rel => exact ⟨ds ++ [⟨1, []⟩], d + 1, i + 1, by go_num, by go_num, by omega, by omega, by have := HR.out.1; simp; omega, Deeds.push HR.out.2.1, HB6.out.1, HB6.out.2⟩
          case measure => simp [intOf]; omega
      by_cases q2 : r = 2
      · subst q2
        by_cases hd : 0 < d
        · have hdI : (0 : Int) < (d : Int) := by omega
          obtain ⟨d', rfl⟩ : ∃ d', d = d' + 1 := ⟨d - 1, by omega⟩
          have HPX : Hid (OwnD wr w.heap.size (.slice A5 ds.length c5) ds ∧ Below w.heap.size w wr ∧ VTerm wr (SO w.heap.size wr (.slice A5 ds.length c5)) [.int .i64 2, .slice none 0 0] ⟨2, []⟩) := ⟨HR.out.2.2.1, HR.out.2.2.2, none, 0, 0, rfl, ⟨by decide, by decide⟩, Nat.le_refl _, Nat.zero_le _, Arr.nil_⟩
          have hbY : Below wr.heap.size wr (wr.alloc (.cells #[.int .i64 2, .slice none 0 0] 47)) := (Below.refl _ _).alloc (Nat.le_refl _) _
          have HOY : Hid (OwnD (wr.alloc (.cells #[.int .i64 2, .slice none 0 0] 47)) w.heap.size (.slice A5 ds.length c5) ds) := HPX.out.1.later hbY
          have HBN := Lib.hid (Blk.new wr 47 #[.int .i64 2, .slice none 0 0])
          have HVY : Hid (VTerm (wr.alloc (.cells #[.int .i64 2, .slice none 0 0] 47)) (SO w.heap.size (wr.alloc (.cells #[.int .i64 2, .slice none 0 0] 47)) (.slice A5 ds.length c5)) [.int .i64 2, .slice none 0 0] ⟨2, []⟩) := tells_term.keep _ _ _ _ _ _ (fun b hb => ⟨hb.1, Nat.lt_of_lt_of_le hb.2.1 hbY.size, hb.2.2⟩) (fun b o hb => hbY.cell (p := ⟨b, o, none⟩) hb.2.1) HPX.out.2.2
          have HBY : Hid (Below w.heap.size w (wr.alloc (.cells #[.int .i64 2, .slice none 0 0] 47))) := HPX.out.2.1.trans (hbY.mono HPX.out.2.1.size)
          have hW0 : w.heap.size ≤ (wr.alloc (.cells #[.int .i64 2, .slice none 0 0] 47)).heap.size := HBY.out.size
          have hlx : ds.length ≤ 20 := by have := HR.out.1; omega
          clear hbY
          go_wp2_with (at_builtin; refine wpList_append_item rfl _ _ _ rfl rowDeeds tells_term (v := (.slice A5 ds.length c5)) (xs := ds) (base := w.heap.size) (S := SO w.heap.size (wr.alloc (.cells #[.int .i64 2, .slice none 0 0] 47)) (.slice A5 ds.length c5)) rfl HOY.out (g := wr.heap.size) (cs := #[.int .i64 2, .slice none 0 0]) rfl HBN.out (y := ⟨2, []⟩) HVY.out (fun b h => ⟨h.2.1, h.2.2⟩) (by unfold maxLen; omega) (by omega) hW0 ?_; intro v' w6 hown6 hgrow6 hat6; have HB6 := Lib.hid (And.intro (own_step tells_term hown6 hgrow6 hat6) (below_then HBY.out hgrow6 hW0 (fun x hx => (HOY.out.lt x hx).1))); clear hown6 hgrow6 hat6)
          go_roundw
          case rel => exact ⟨ds ++ [⟨2, []⟩], d', i + 1, by go_num, by go_num, by omega, by omega, by have := HR.out.1; simp; omega, Deeds.pop HR.out.2.1, HB6.out.1, HB6.out.2⟩
          case measure => simp [intOf]; omega
        · have hdI : ¬ (0 : Int) < (d : Int) := by omega
          go_wp2_with fail
          go_roundw
          case rel => exact ⟨ds, d, i + 1, by go_num, by go_num, by omega, by omega, by have := HR.out.1; omega, HR.out.2⟩
          case measure => simp [intOf]; omega
      by_cases q3 : r = 3 ∨ r = 4
      · rcases q3 with rfl | rfl
        all_goals
          have HPX : Hid (OwnD wr w.heap.size (.slice A5 ds.length c5) ds ∧ Below w.heap.size w wr ∧ VTerm wr (SO w.heap.size wr (.slice A5 ds.length c5)) [.int .i64 4, .slice none 0 0] ⟨4, []⟩) := ⟨HR.out.2.2.1, HR.out.2.2.2, none, 0, 0, rfl, ⟨by decide, by decide⟩, Nat.le_refl _, Nat.zero_le _, Arr.nil_⟩
          have hbY : Below wr.heap.size wr (wr.alloc (.cells #[.int .i64 4, .slice none 0 0] 47)) := (Below.refl _ _).alloc (Nat.le_refl _) _
          have HOY : Hid (OwnD (wr.alloc (.cells #[.int .i64 4, .slice none 0 0] 47)) w.heap.size (.slice A5 ds.length c5) ds) := HPX.out.1.later hbY
          have HBN := Lib.hid (Blk.new wr 47 #[.int .i64 4, .slice none 0 0])
          have HVY : Hid (VTerm (wr.alloc (.cells #[.int .i64 4, .slice none 0 0] 47)) (SO w.heap.size (wr.alloc (.cells #[.int .i64 4, .slice none 0 0] 47)) (.slice A5 ds.length c5)) [.int .i64 4, .slice none 0 0] ⟨4, []⟩) := tells_term.keep _ _ _ _ _ _ (fun b hb => ⟨hb.1, Nat.lt_of_lt_of_le hb.2.1 hbY.size, hb.2.2⟩) (fun b o hb => hbY.cell (p := ⟨b, o, none⟩) hb.2.1) HPX.out.2.2
          have HBY : Hid (Below w.heap.size w (wr.alloc (.cells #[.int .i64 4, .slice none 0 0] 47))) := HPX.out.2.1.trans (hbY.mono HPX.out.2.1.size)
          have hW0 : w.heap.size ≤ (wr.alloc (.cells #[.int .i64 4, .slice none 0 0] 47)).heap.size := HBY.out.size
          have hlx : ds.length ≤ 20 := by have := HR.out.1; omega
          clear hbY
          go_wp2_with (at_builtin; refine wpList_append_item rfl _ _ _ rfl rowDeeds tells_term (v := (.slice A5 ds.length c5)) (xs := ds) (base := w.heap.size) (S := SO w.heap.size (wr.alloc (.cells #[.int .i64 4, .slice none 0 0] 47)) (.slice A5 ds.length c5)) rfl HOY.out (g := wr.heap.size) (cs := #[.int .i64 4, .slice none 0 0]) rfl HBN.out (y := ⟨4, []⟩) HVY.out (fun b h => ⟨h.2.1, h.2.2⟩) (by unfold maxLen; omega) (by omega) hW0 ?_; intro v' w6 hown6 hgrow6 hat6; have HB6 := Lib.hid (And.intro (own_step tells_term hown6 hgrow6 hat6) (below_then HBY.out hgrow6 hW0 (fun x hx => (HOY.out.lt x hx).1))); clear hown6 hgrow6 hat6)
          go_roundw
          case rel => exact ⟨ds ++ [⟨4, []⟩], d, i + 1, by go_num, by go_num, by omega, by omega, by have := HR.out.1; simp; omega, Deeds.ask HR.out.2.1, HB6.out.1, HB6.out.2⟩
          case measure => simp [intOf]; omega
      have k0 : (r == 0) = false := by rw [beq_eq_false_iff_ne]; omega
      have k1 : (r == 1) = false := by rw [beq_eq_false_iff_ne]; omega
      have k2 : (r == 2) = false := by rw [beq_eq_false_iff_ne]; omega
      have k3 : (r == 3) = false := by rw [beq_eq_false_iff_ne]; omega
      have k4 : (r == 4) = false := by rw [beq_eq_false_iff_ne]; omega
      clear q0 q2 q3 r0 r1
      go_wp2_with fail
      refine (clauseOf_any (wrap64 (x.tdiv 8)) vars _ (wrap_i64 _) h1 h2).mono ?_
      rintro e w3 ⟨v3, ks, rfl, hown, hlits, hb3⟩
      have hol := hown.lt
      obtain ⟨A3, c3, rfl, hc3, hc3m, h3⟩ := OwnV.reads (E := AtInt) tells_int (fun _ _ _ _ _ h => atV_int.1 h) hown (S' := fun b => wr.heap.size ≤ b ∧ b < w3.heap.size) (fun b h => False.elim h) (fun g hg => hol g hg)
      have HPX : Hid (OwnD w3 w.heap.size (.slice A5 ds.length c5) ds ∧ Below w.heap.size w w3 ∧ VTerm w3 (SO w.heap.size w3 (.slice A5 ds.length c5)) [.int .i64 3, .slice A3 ks.length c3] ⟨3, ks⟩) :=
        ⟨HR.out.2.2.1.later hb3, HR.out.2.2.2.trans (hb3.mono HR.out.2.2.2.size), _, _, _, rfl, ⟨by show _ ≤ (3 : Int); omega, by show (3 : Int) ≤ _; omega⟩, hc3, hc3m, h3.keep stays_int (fun b hb => ⟨by have := HR.out.2.2.2.size; omega, hb.2, fun e => by have := (HR.out.2.2.1.lt b e).2; omega⟩) (fun _ _ _ => rfl)⟩
      have HLI := Lib.hid hlits
      clear hol h3 hown hlits hb3
      have hbY : Below w3.heap.size w3 (w3.alloc (.cells #[.int .i64 3, .slice A3 ks.length c3] 47)) := (Below.refl _ _).alloc (Nat.le_refl _) _
      have HOY : Hid (OwnD (w3.alloc (.cells #[.int .i64 3, .slice A3 ks.length c3] 47)) w.heap.size (.slice A5 ds.length c5) ds) := HPX.out.1.later hbY
      have HBN := Lib.hid (Blk.new w3 47 #[.int .i64 3, .slice A3 ks.length c3])
      have HVY : Hid (VTerm (w3.alloc (.cells #[.int .i64 3, .slice A3 ks.length c3] 47)) (SO w.heap.size (w3.alloc (.cells #[.int .i64 3, .slice A3 ks.length c3] 47)) (.slice A5 ds.length c5)) [.int .i64 3, .slice A3 ks.length c3] ⟨3, ks⟩) := tells_term.keep _ _ _ _ _ _ (fun b hb => ⟨hb.1, Nat.lt_of_lt_of_le hb.2.1 hbY.size, hb.2.2⟩) (fun b o hb => hbY.cell (p := ⟨b, o, none⟩) hb.2.1) HPX.out.2.2
      have HBY : Hid (Below w.heap.size w (w3.alloc (.cells #[.int .i64 3, .slice A3 ks.length c3] 47))) := HPX.out.2.1.trans (hbY.mono HPX.out.2.1.size)
      have hW0 : w.heap.size ≤ (w3.alloc (.cells #[.int .i64 3, .slice A3 ks.length c3] 47)).heap.size := HBY.out.size
      have hlx : ds.length ≤ 20 := by have := HR.out.1; omega
      clear hbY
      go_wp2_with (at_builtin; refine wpList_append_item rfl _ _ _ rfl rowDeeds tells_term (v := (.slice A5 ds.length c5)) (xs := ds) (base := w.heap.size) (S := SO w.heap.size (w3.alloc (.cells #[.int .i64 3, .slice A3 ks.length c3] 47)) (.slice A5 ds.length c5)) rfl HOY.out (g := w3.heap.size) (cs := #[.int .i64 3, .slice A3 ks.length c3]) rfl HBN.out (y := ⟨3, ks⟩) HVY.out (fun b h => ⟨h.2.1, h.2.2⟩) (by unfold maxLen; omega) (by omega) hW0 ?_; intro v' w6 hown6 hgrow6 hat6; have HB6 := Lib.hid (And.intro (own_step tells_term hown6 hgrow6 hat6) (below_then HBY.out hgrow6 hW0 (fun x hx => (HOY.out.lt x hx).1))); clear hown6 hgrow6 hat6)
      go_roundw
      case rel => exact ⟨ds ++ [⟨3, ks⟩], d, i + 1, by go_num, by go_num, by omega, by omega, by have := HR.out.1; simp; omega, Deeds.hold HLI.out HR.out.2.1, HB6.out.1, HB6.out.2⟩
      case measure => simp [intOf]; omega
    · have HE : Hid (DeedsP vars w (.returned (.slice A5 ds.length c5)) wr) := ⟨(.slice A5 ds.length c5), ds, d, rfl, HR.out.2.2.1, HR.out.2.1, by have := HR.out.1; omega, by omega, HR.out.2.2.2⟩
      by_cases hin : i < n
      · have hiI : (i : Int) < (n : Int) := by omega
        have hiJ : ¬ (i : Int) < 20 := by omega
        go_wp2_with fail
        go_ret
        exact HE.out
      · have hiI : ¬ (i : Int) < (n : Int) := by omega
        go_wp2_with fail
        go_ret
        exact HE.out
end Go.Proofs.Ytpceiifacendfaa
