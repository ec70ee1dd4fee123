/- Walk: what is left behind the commands. -/
import Derived.Test.YtpceiifacendfaaFrF
import Derived.Test.YtpceiifacendfaaFrG
import Derived.Test.YtpceiifacendfaaFrJ
import Derived.Test.YtpceiifacendfaaFitsB
namespace Go.Proofs.Ytpceiifacendfaa
open Go.RowKit

def LeftYes (F : FormD) (cl : Cl) (w : World) (e : Ending) (w' : World) : Prop :=
  ∃ (B1 B2 B3 B4 : Option Addr) (m1 d1 m2 d2 m3 d3 m4 d4 : Nat), e = .returned (.tuple #[.agg #[.slice B1 m1 d1, .slice B2 m2 d2, .slice B3 m3 d3, .slice B4 m4 d4], .agg #[.int .i64 0, .int .i64 0]]) ∧ FormB w' w'.heap.size B1 B2 B3 B4 m1 m2 m3 m4 ⟨F.terms, F.ints, F.atoms, F.clauses ++ cl⟩ ∧ Below w.heap.size w w'
def LeftNo (qc qa : Int) (w : World) (e : Ending) (w' : World) : Prop := e = .returned (.tuple #[.agg #[.slice none 0 0, .slice none 0 0, .slice none 0 0, .slice none 0 0], .agg #[.int .i64 qc, .int .i64 qa]]) ∧ Below w.heap.size w w'
def LeftP (F : FormD) (res : (Int × Int) × List Cl × Cl) (w : World) (e : Ending) (w' : World) : Prop :=
  (res.1 = (0, 0) ∧ LeftYes F (clOf res.2.1 res.2.2) w e w') ∨ (¬ res.1.1 = 0 ∧ LeftNo res.1.1 res.1.2 w e w')

theorem field_three (a b c d : Value) (w : World) : (Instr.field 27 (.agg #[a, b, c, d]) 3).run Try.prog w = .ok d w := by kernel_rfl

set_option maxRecDepth 100000 in
set_option maxHeartbeats 8000000 in
theorem left_any (A1 A2 A3 A4 : Option Addr) (n1 c1 n2 c2 n3 c3 n4 c4 : Nat) (F : FormD) (L : Option Addr) (n c : Nat) (l : List TermD) (w : World) (hF : FormB w w.heap.size A1 A2 A3 A4 n1 n2 n3 n4 F) (hL : ArrB AtTerm 2 w w.heap.size L n l) (hn : n ≤ 9223372036854775807) (h4 : n4 ≤ c4) (h4m : c4 ≤ maxLen) (hlen : ∀ d ∈ l, d.kids.length * 8 ≤ 140737488355328) :
    Calls Try.prog 15 #[.agg #[.slice A1 n1 c1, .slice A2 n2 c2, .slice A3 n3 c3, .slice A4 n4 c4], .slice L n c] w (LeftP F (playRes F l) w) := by
  obtain ⟨hb0, hbk0, hbr0, hbs0, hs0⟩ := three_boxes w 27 27 29 #[.slice A1 n1 c1, .slice A2 n2 c2, .slice A3 n3 c3, .slice A4 n4 c4] #[.slice none 0 0, .slice none 0 0, .slice none 0 0, .slice none 0 0] #[.int .i64 0, .int .i64 0]
  have HC := Lib.hid (play_any A1 A2 A3 A4 n1 c1 n2 c2 n3 c3 n4 c4 F L n c l _ (hF.below hb0 hb0.size) (hL.below stays_term hb0 hb0.size) hn h4 h4m hlen)
  have HN := Lib.hid (And.intro hF (And.intro hb0 (And.intro hbk0 (And.intro hbr0 (And.intro hbs0 hs0)))))
  clear hF hL hb0 hbk0 hbr0 hbs0 hs0 hlen
  go_enter Try.func15, Try.ntmps15
  go_wp2_with fail
  refine HC.out.mono ?_
  rintro e w1 (⟨hres, g, vc, vf, rfl, hst, hg, hb1⟩ | ⟨hres, rfl, hb1⟩)
  · obtain ⟨hF, hb0, hbk0, hbr0, hbs0, hs0⟩ := HN.out
    obtain ⟨hfine, hheld⟩ := playRes_fine (F := F) (l := l) (by rw [hres])
    have HRES := Lib.hid hres
    rw [Held, cnfF_zero] at hheld
    have hcl := hst.cl.lt
    have hclen : (clOf (playRes F l).2.1 (playRes F l).2.2).length ≤ 400 := by have := hheld.1; simp at this; omega
    obtain ⟨A5, c5, hvc, h5, h5m, harr⟩ := hst.cl.reads (E := AtArr AtInt 1) tells_row' (fun _ _ _ _ _ h => atV_arr.1 h) (S' := fun b => b < w1.heap.size) (fun b hb => hb.1) (fun b hb => (hcl b hb).2) (by unfold maxLen; omega)
    subst hvc
    have hgw := hst.blk.lt
    have hbk := hbk0.below hb1 (by omega)
    have hbr := hbr0.below hb1 (by omega)
    have hbs : Blk w1 (w.heap.size + 1 + 1) 29 #[.int .i64 0, .int .i64 0] := hbs0.below hb1 (by omega)
    have hz := hb1.size
    have hz0 : w.heap.size < w1.heap.size := by omega
    have hz1 : w.heap.size + 1 < w1.heap.size := by omega
    have hz2 : w.heap.size + 1 + 1 < w1.heap.size := by omega
    have hbel := hb0.trans (hb1.mono (by omega))
    have hwide : ∀ x ∈ F.clauses ++ clOf (playRes F l).2.1 (playRes F l).2.2, x.length ≤ 24 := fun x hx => clauseCode_wide (hheld.2 x hx)
    have h400 : F.clauses.length ≤ 400 := by have := hheld.1; simp at this; omega
    have k1 := hbk.cell 1
    simp only [List.getElem?_toArray, List.getElem?_cons_zero, List.getElem?_cons_succ] at k1
    have hX1 : Below w1.heap.size w1 (w1.alloc (.cells #[.int .i64 0, .int .i64 0] 29)) := (Below.refl _ _).alloc (Nat.le_refl _) _
    have hib := hF.ints.below stays_bool hbel hbel.size
    have hlb := hF.ints.len
    have hlb2 := hfine.ints
    have HCB := Lib.hid (cloneBools_any A2 n2 c2 F.ints (w1.alloc (.cells #[.int .i64 0, .int .i64 0] 29)) (hib.below stays_bool hX1 (by simp)) (by omega))
    have HE := Lib.hid (And.intro hF (And.intro hfine (And.intro hwide (And.intro hbk (And.intro hbr (And.intro hbs (And.intro hbel (And.intro hst.blk harr))))))))
    clear hF hb0 hbk0 hbr0 hbs0 hs0 hres hfine hheld hst hcl harr hbk hbr hbs hb1 hbel hwide hib hlb hlb2 HC HN hz
    go_wp2_with fail
    refine HCB.out.mono ?_
    rintro e w2 ⟨vb, rfl, hownb, hb2⟩
    obtain ⟨Ab, cb, hvb, hlcb, hcbm, harb⟩ := hownb.reads (E := AtBool) tells_bool (fun _ _ _ _ _ h => atV_bool.1 h) (S' := fun b => w1.heap.size ≤ b ∧ b < w2.heap.size) (fun b h => False.elim h) (fun b hb => by have := hownb.lt b hb; simp at this; omega)
    subst hvb
    obtain ⟨hF, hfine, hwide, hbk, hbr, hbs, hbel, hgblk, harr⟩ := HE.out
    have hb12 : Below w1.heap.size w1 w2 := hX1.trans (hb2.mono (by simp))
    have hz12 := hb12.size
    have hbk2 := hbk.below hb12 hz0
    have k0 := hbk2.cell 0
    have k2 := hbk2.cell 2
    simp only [List.getElem?_toArray, List.getElem?_cons_zero, List.getElem?_cons_succ] at k0 k2
    have hz20 : w.heap.size < w2.heap.size := by omega
    have HE2 := Lib.hid (And.intro harb (And.intro hb12 hbk2))
    clear hF hfine hwide hbk hbr hbs hbel hgblk harr hownb harb hb12 hbk2 hb2 HCB k1
    go_wp2_with fail
    obtain ⟨harb, hb12, hbk2⟩ := HE2.out
    obtain ⟨hF, hfine, hwide, hbk, hbr, hbs, hbel, hgblk, harr⟩ := HE.out
    have hW0 : Below w2.heap.size w2 (w2.alloc (.cells #[.slice none 0 0, .slice Ab F.ints.length cb, .slice none 0 0, .slice none 0 0] 27)) := (Below.refl _ _).alloc (Nat.le_refl _) _
    have hgb0 := Blk.new w2 27 #[.slice none 0 0, .slice Ab F.ints.length cb, .slice none 0 0, .slice none 0 0]
    have hb10 : Below w1.heap.size w1 (w2.alloc (.cells #[.slice none 0 0, .slice Ab F.ints.length cb, .slice none 0 0, .slice none 0 0] 27)) := hb12.trans (hW0.mono hb12.size)
    have hbel0 := hbel.trans (hb10.mono (by omega))
    have hF0 := hF.below hbel0 (Nat.le_refl _)
    have hbk0 := hbk.below hb10 hz0
    have hbr0 := hbr.below hb10 hz1
    have hbs0 := hbs.below hb10 hz2
    have hgblk0 := hgblk.below hb10 hgw
    have harr0 := harr.keep (stays_arr stays_int) (fun _ h => h) (fun b o hb => hb10.cell (p := ⟨b, o, none⟩) hb)
    have harb0 := harb.keep stays_bool (fun _ h => h) (fun b o hb => hW0.cell (p := ⟨b, o, none⟩) hb.2)
    have hGz : w2.heap.size < (w2.alloc (.cells #[.slice none 0 0, .slice Ab F.ints.length cb, .slice none 0 0, .slice none 0 0] 27)).heap.size := by simp
    have hwG : w1.heap.size ≤ w2.heap.size := hb12.size
    clear HE HE2 harb hb12 hbk2 hF hbk hbr hbs hbel hgblk harr hW0 hb10 k0 k2
    generalize w2.alloc (.cells #[.slice none 0 0, .slice Ab F.ints.length cb, .slice none 0 0, .slice none 0 0] 27) = W0 at *
    generalize w2.heap.size = G at *
    have k0 := hbk0.cell 0
    simp only [List.getElem?_toArray, List.getElem?_cons_zero] at k0
    have hlen1 := hF0.terms.len
    have h60 := hfine.terms
    have HX := Lib.hid (And.intro hF0 (And.intro hfine (And.intro hwide (And.intro hbk0 (And.intro hbr0 (And.intro hbs0 (And.intro hbel0 (And.intro hgblk0 (And.intro harr0 harb0)))))))))
    clear hF0 hfine hwide hbk0 hbr0 hbs0 hbel0 hgblk0 harr0 harb0
    go_loopw [33] (fun s wr => ∃ (k : Nat) (v1 : Value), k ≤ n1 ∧ s = .int .i64 k ∧ Blk wr G 27 #[v1, .slice Ab F.ints.length cb, .slice none 0 0, .slice none 0 0] ∧ Out VTerm 72 2 W0 wr G v1 (F.terms.take k)) (fun s _ => n1 - (intOf s).toNat)
    case atStart => exact ⟨0, .slice none 0 0, Nat.zero_le _, rfl, hgb0, by simpa using Out.start VTerm 72 2 W0 hGz⟩
    case round =>
      obtain ⟨k, v1, hk, rfl, hgb, hout⟩ := hrel

      have hbG : Below w.heap.size W0 wr := only_below hout.only (by omega) (by omega)
      have hzr := hout.only.size
      have hGr : G < wr.heap.size := by omega
      by_cases hlt : k < n1
      · obtain ⟨b, off, hx, A', n', c', rfl, hb, h0, h1, hnc, hcm, hks, hlo, hhi⟩ := terms_get ((HX.out.1.terms).below stays_term hbG (Nat.le_refl _)) hlt
        have hkl := HX.out.2.1.kids _ (List.getElem_mem hx)
        have HT0 := Lib.hid (take_snoc_l hx)
        generalize F.terms[k] = t at hkl HT0 h0 h1 hks hlo hhi
        obtain ⟨hd, ks⟩ := t
        simp only at hkl h0 h1 hks hlo hhi
        have HT : Hid (F.terms.take (k + 1) = F.terms.take k ++ [⟨hd, ks⟩]) := HT0
        clear HT0
        have hlk : (F.terms.take k).length = k := by simp; omega
        have HC := Lib.hid (cloneInts_any A' n' c' ks (wr.alloc (.cells #[.int .i64 hd, .slice A' n' c'] 72)) (ArrB.below hks stays_int ((Below.refl _ _).alloc (by omega) _) (by simp; omega)) (by have := hks.len; omega))
        have HO := Lib.hid (And.intro hgb hout)
        clear hout hgb hks hbG
        go_wp2_with fail
        refine HC.out.mono ?_
        rintro e w3 ⟨v, rfl, hown, hb3⟩
        obtain ⟨hgb, hout⟩ := HO.out
        obtain ⟨A3, c3, rfl, hc3, hc3m, hall⟩ := clone_round tells_term hout (.cells #[.int .i64 hd, .slice A' n' c'] 72) hb3 hown 1
        have HALL := Lib.hid (hall (.cells #[.int .i64 hd, .slice A3 ks.length c3] 72))
        have hwa : Below wr.heap.size wr w3 := ((Below.refl _ _).alloc (Nat.le_refl _) _).trans (hb3.mono (by simp))
        have hgb3 := hgb.below hwa hGr
        have q0 : w3.cell? ⟨G, 0, none⟩ = some v1 := hgb3.cell 0
        have hbx3 : Blk w3 wr.heap.size 72 #[.int .i64 hd, .slice A' n' c'] := (Blk.new wr _ _).below hb3 (by simp)
        have m0 := hbx3.cell 0
        have m1 := hbx3.cell 1
        have mz := hbx3.frozen 1
        simp only [List.getElem?_toArray, List.getElem?_cons_zero, List.getElem?_cons_succ] at m0 m1
        have hz3 : wr.heap.size < w3.heap.size := hbx3.lt
        have hG3 : G < w3.heap.size := by omega
        have hne : ¬ G = wr.heap.size := by omega
        have hne' : ¬ wr.heap.size = G := by omega
        have hbn : Blk ((w3.setCell ⟨wr.heap.size, 1, none⟩ (.slice A3 ks.length c3)).alloc (.cells #[.int .i64 hd, .slice A3 ks.length c3] 72)) w3.heap.size 72 #[.int .i64 hd, .slice A3 ks.length c3] := by have := Blk.new (w3.setCell ⟨wr.heap.size, 1, none⟩ (.slice A3 ks.length c3)) 72 #[.int .i64 hd, .slice A3 ks.length c3]; simpa using this
        have HVT : Hid (VTerm ((w3.setCell ⟨wr.heap.size, 1, none⟩ (.slice A3 ks.length c3)).alloc (.cells #[.int .i64 hd, .slice A3 ks.length c3] 72)) (SO W0.heap.size ((w3.setCell ⟨wr.heap.size, 1, none⟩ (.slice A3 ks.length c3)).alloc (.cells #[.int .i64 hd, .slice A3 ks.length c3] 72)) v1) [.int .i64 hd, .slice A3 ks.length c3] ⟨hd, ks⟩) := ⟨A3, _, c3, rfl, ⟨hlo, hhi⟩, hc3, hc3m, HALL.out.2.2⟩
        have HBN := Lib.hid (And.intro hbn (And.intro hgb3 (And.intro hown hall)))
        have hb00 : W0.heap.size ≤ ((w3.setCell ⟨wr.heap.size, 1, none⟩ (.slice A3 ks.length c3)).alloc (.cells #[.int .i64 hd, .slice A3 ks.length c3] 72)).heap.size := by simp; omega
        have hown1 := hout.own.lt
        have HLT := Lib.hid hown1
        clear hgb hout hall hwa hgb3 hbx3 hbn hown hb3 HC hown1
        go_wp2_with (at_builtin; refine wpList_append_item rfl _ _ _ rfl rowTerms tells_term (v := v1) (xs := F.terms.take k) (base := W0.heap.size) (S := SO W0.heap.size ((w3.setCell ⟨wr.heap.size, 1, none⟩ (.slice A3 ks.length c3)).alloc (.cells #[.int .i64 hd, .slice A3 ks.length c3] 72)) v1) rfl HALL.out.1.own (g := w3.heap.size) (cs := #[.int .i64 hd, .slice A3 ks.length c3]) rfl HBN.out.1 (y := ⟨hd, ks⟩) HVT.out (fun b h => ⟨h.2.1, h.2.2⟩) (by unfold maxLen; omega) (by omega) hb00 ?_; intro v' w6 hown6 hgrow6 hat6; obtain ⟨A6, c6, rfl, hc6, hc6m⟩ := hown6.len; (have hgb6 : Blk w6 G 27 #[v1, .slice Ab F.ints.length cb, .slice none 0 0, .slice none 0 0] := (((HBN.out.2.1.grown (one_only (only_refl w3 (some wr.heap.size)) 1 _) (by simpa using hne)).alloc _)).grown hgrow6 (fun e => by have := (HLT.out G e.symm).1; omega)); (have q6 : w6.cell? ⟨G, 0, none⟩ = some v1 := hgb6.cell 0); (have z6 : w6.frozen? ⟨G, 0, none⟩ = false := hgb6.frozen 0); have HB6 := Lib.hid (And.intro hgb6 (And.intro hown6 (And.intro hgrow6 hat6))); clear hgb6 hown6 hgrow6 hat6)
        go_roundw
        case rel =>
          obtain ⟨hgb6, hown6, hgrow6, hat6⟩ := HB6.out
          refine ⟨k + 1, _, by omega, by go_num, hgb6.set_ 0 _, ?_⟩
          rw [HT.out]
          have e7 : (F.terms.take k ++ [(⟨hd, ks⟩ : TermD)]).length = k + 1 := by simp; omega
          rw [e7] at hown6 hat6
          exact Out.push tells_term HALL.out.1 hown6 hgrow6 hat6 0 _
        case measure => simp [intOf]; omega
      · obtain rfl : n1 = k := by omega
        obtain ⟨Wb, hWe⟩ : ∃ Wb, Wb = wr := ⟨_, rfl⟩
        rw [← hWe] at hgb hout hbG hzr hGr ⊢
        clear hWe
        rw [List.take_of_length_le (by omega)] at hout
        obtain ⟨B1, d1, rfl, hd1, hd1m, hT1⟩ := hout.done tells_term (E := AtTerm) (fun _ _ _ _ _ h => atV_term h)
        have hbGG : Below G W0 Wb := only_below hout.only (Nat.le_refl _) (by omega)
        obtain ⟨hF0, hfine, hwide, hbk0, hbr0, hbs0, hbel0, hgblk0, harr0, harb0⟩ := HX.out
        have hF1 := hF0.below (hbGG.mono (by omega)) (Nat.le_refl w.heap.size)
        have hbk1 := hbk0.below hbGG (by omega)
        have hbr1 := hbr0.below hbGG (by omega)
        have hbs1 := hbs0.below hbGG (by omega)
        have hbel1 := hbel0.trans (hbGG.mono (by omega))
        have hgblk1 := hgblk0.below hbGG (by omega)
        have harr1 := harr0.keep (stays_arr stays_int) (fun _ h => h) (fun b o hb => hbGG.cell (p := ⟨b, o, none⟩) (Nat.lt_of_lt_of_le hb hwG))
        have harb1 := harb0.keep stays_bool (fun _ h => h) (fun b o hb => hbGG.cell (p := ⟨b, o, none⟩) hb.2)
        have hgb0 := hgb
        have k2 := hbk1.cell 2
        simp only [List.getElem?_toArray, List.getElem?_cons_zero, List.getElem?_cons_succ] at k2
        clear HX hF0 hbk0 hbr0 hbs0 hbel0 hgblk0 harr0 harb0 hgb hout hbGG hbG k0
        have hlen3 := hF1.atoms.len
        have h120 := hfine.atoms
        have hw0G : w.heap.size < G := by omega
        have HX := Lib.hid (And.intro hF1 (And.intro hfine (And.intro hwide (And.intro hbk1 (And.intro hbr1 (And.intro hbs1 (And.intro hbel1 (And.intro hgblk1 (And.intro harr1 (And.intro harb1 hT1))))))))))
        have HGB := Lib.hid hgb0
        clear hF1 hfine hwide hbk1 hbr1 hbs1 hbel1 hgblk1 harr1 harb1 hT1 hgb0
        go_wp2_with fail
        have hgb0 := HGB.out
        clear HGB k2 hzr
        have hGz : G < Wb.heap.size := hGr
        clear hGr
        go_loopw [51] (fun s wr => ∃ (k : Nat) (v1 : Value), k ≤ n3 ∧ s = .int .i64 k ∧ Blk wr G 27 #[.slice B1 F.terms.length d1, .slice Ab F.ints.length cb, v1, .slice none 0 0] ∧ Out VAtom 35 6 Wb wr G v1 (F.atoms.take k)) (fun s _ => n3 - (intOf s).toNat)
        case atStart => exact ⟨0, .slice none 0 0, Nat.zero_le _, rfl, hgb0, by simpa using Out.start VAtom 35 6 Wb hGz⟩
        case round =>
          obtain ⟨k, v1, hk, rfl, hgb, hout⟩ := hrel

          have hbG : Below w.heap.size Wb wr := only_below hout.only (by omega) (by omega)
          have hzr := hout.only.size
          have hGr : G < wr.heap.size := by omega
          by_cases hlt : k < n3
          · obtain ⟨b, off, hx, rfl, hb, ⟨h0, i0⟩, ⟨h1, i1⟩, ⟨h2, i2⟩, ⟨⟨A', n', c', h3, hnc, hcm, hks⟩, ⟨h4', i4⟩, ⟨h5', i5⟩⟩⟩ := Arr.get ((HX.out.1.atoms).below stays_atom hbG (Nat.le_refl _)) hlt
            have hkl := HX.out.2.1.rows _ (List.getElem_mem hx)
            have HT0 := Lib.hid (take_snoc_l hx)
            generalize F.atoms[k] = t at hkl HT0 h0 h1 h2 h3 h4' h5' hks i0 i1 i2 i4 i5
            obtain ⟨ak, aa, ab, ks, rk, rt⟩ := t
            simp only at hkl h0 h1 h2 h3 h4' h5' hks i0 i1 i2 i4 i5
            have HT : Hid (F.atoms.take (k + 1) = F.atoms.take k ++ [⟨ak, aa, ab, ⟨ks, rk, rt⟩⟩]) := HT0
            clear HT0
            have hlk : (F.atoms.take k).length = k := by simp; omega
            have HC := Lib.hid (cloneInts_any A' n' c' ks (wr.alloc (.cells #[.int .i64 ak, .int .i64 aa, .int .i64 ab, .slice A' n' c', .int .i64 rk, .int .i64 rt] 35)) (ArrB.below hks stays_int ((Below.refl _ _).alloc (by omega) _) (by simp; omega)) (by have := hks.len; omega))
            have HO := Lib.hid (And.intro hgb hout)
            clear hout hgb hks hbG
            go_wp2_with fail
            refine HC.out.mono ?_
            rintro e w3 ⟨v, rfl, hown, hb3⟩
            obtain ⟨hgb, hout⟩ := HO.out
            obtain ⟨A3, c3, rfl, hc3, hc3m, hall⟩ := clone_round tells_atom hout (.cells #[.int .i64 ak, .int .i64 aa, .int .i64 ab, .slice A' n' c', .int .i64 rk, .int .i64 rt] 35) hb3 hown 3
            have HALL := Lib.hid (hall (.cells #[.int .i64 ak, .int .i64 aa, .int .i64 ab, .slice A3 ks.length c3, .int .i64 rk, .int .i64 rt] 35))
            have hwa : Below wr.heap.size wr w3 := ((Below.refl _ _).alloc (Nat.le_refl _) _).trans (hb3.mono (by simp))
            have hgb3 := hgb.below hwa hGr
            have q0 : w3.cell? ⟨G, 2, none⟩ = some v1 := hgb3.cell 2
            have hbx3 : Blk w3 wr.heap.size 35 #[.int .i64 ak, .int .i64 aa, .int .i64 ab, .slice A' n' c', .int .i64 rk, .int .i64 rt] := (Blk.new wr _ _).below hb3 (by simp)
            have m0 := hbx3.cell 0
            have m1 := hbx3.cell 1
            have m2 := hbx3.cell 2
            have m3 := hbx3.cell 3
            have m4 := hbx3.cell 4
            have m5 := hbx3.cell 5
            have mz := hbx3.frozen 3
            simp only [List.getElem?_toArray, List.getElem?_cons_zero, List.getElem?_cons_succ] at m0 m1 m2 m3 m4 m5
            have hz3 : wr.heap.size < w3.heap.size := hbx3.lt
            have hG3 : G < w3.heap.size := by omega
            have hne : ¬ G = wr.heap.size := by omega
            have hne' : ¬ wr.heap.size = G := by omega
            have hbn : Blk ((w3.setCell ⟨wr.heap.size, 3, none⟩ (.slice A3 ks.length c3)).alloc (.cells #[.int .i64 ak, .int .i64 aa, .int .i64 ab, .slice A3 ks.length c3, .int .i64 rk, .int .i64 rt] 35)) w3.heap.size 35 #[.int .i64 ak, .int .i64 aa, .int .i64 ab, .slice A3 ks.length c3, .int .i64 rk, .int .i64 rt] := by have := Blk.new (w3.setCell ⟨wr.heap.size, 3, none⟩ (.slice A3 ks.length c3)) 35 #[.int .i64 ak, .int .i64 aa, .int .i64 ab, .slice A3 ks.length c3, .int .i64 rk, .int .i64 rt]; simpa using this
            have HVT : Hid (VAtom ((w3.setCell ⟨wr.heap.size, 3, none⟩ (.slice A3 ks.length c3)).alloc (.cells #[.int .i64 ak, .int .i64 aa, .int .i64 ab, .slice A3 ks.length c3, .int .i64 rk, .int .i64 rt] 35)) (SO Wb.heap.size ((w3.setCell ⟨wr.heap.size, 3, none⟩ (.slice A3 ks.length c3)).alloc (.cells #[.int .i64 ak, .int .i64 aa, .int .i64 ab, .slice A3 ks.length c3, .int .i64 rk, .int .i64 rt] 35)) v1) [.int .i64 ak, .int .i64 aa, .int .i64 ab, .slice A3 ks.length c3, .int .i64 rk, .int .i64 rt] ⟨ak, aa, ab, ⟨ks, rk, rt⟩⟩) := ⟨A3, _, c3, rfl, ⟨i0, i1, i2, i4, i5⟩, hc3, hc3m, HALL.out.2.2⟩
            have HBN := Lib.hid (And.intro hbn (And.intro hgb3 (And.intro hown hall)))
            have hb00 : Wb.heap.size ≤ ((w3.setCell ⟨wr.heap.size, 3, none⟩ (.slice A3 ks.length c3)).alloc (.cells #[.int .i64 ak, .int .i64 aa, .int .i64 ab, .slice A3 ks.length c3, .int .i64 rk, .int .i64 rt] 35)).heap.size := by simp; omega
            have hown1 := hout.own.lt
            have HLT := Lib.hid hown1
            clear hgb hout hall hwa hgb3 hbx3 hbn hown hb3 HC hown1
            go_wp2_with (at_builtin; refine wpList_append_item rfl _ _ _ rfl rowAtoms tells_atom (v := v1) (xs := F.atoms.take k) (base := Wb.heap.size) (S := SO Wb.heap.size ((w3.setCell ⟨wr.heap.size, 3, none⟩ (.slice A3 ks.length c3)).alloc (.cells #[.int .i64 ak, .int .i64 aa, .int .i64 ab, .slice A3 ks.length c3, .int .i64 rk, .int .i64 rt] 35)) v1) rfl HALL.out.1.own (g := w3.heap.size) (cs := #[.int .i64 ak, .int .i64 aa, .int .i64 ab, .slice A3 ks.length c3, .int .i64 rk, .int .i64 rt]) rfl HBN.out.1 (y := ⟨ak, aa, ab, ⟨ks, rk, rt⟩⟩) HVT.out (fun b h => ⟨h.2.1, h.2.2⟩) (by unfold maxLen; omega) (by omega) hb00 ?_; intro v' w6 hown6 hgrow6 hat6; obtain ⟨A6, c6, rfl, hc6, hc6m⟩ := hown6.len; (have hgb6 : Blk w6 G 27 #[.slice B1 F.terms.length d1, .slice Ab F.ints.length cb, v1, .slice none 0 0] := (((HBN.out.2.1.grown (one_only (only_refl w3 (some wr.heap.size)) 3 _) (by simpa using hne)).alloc _)).grown hgrow6 (fun e => by have := (HLT.out G e.symm).1; omega)); (have q6 : w6.cell? ⟨G, 2, none⟩ = some v1 := hgb6.cell 2); (have z6 : w6.frozen? ⟨G, 2, none⟩ = false := hgb6.frozen 2); have HB6 := Lib.hid (And.intro hgb6 (And.intro hown6 (And.intro hgrow6 hat6))); clear hgb6 hown6 hgrow6 hat6)
            go_roundw
            case rel =>
              obtain ⟨hgb6, hown6, hgrow6, hat6⟩ := HB6.out
              refine ⟨k + 1, _, by omega, by go_num, hgb6.set_ 2 _, ?_⟩
              rw [HT.out]
              have e7 : (F.atoms.take k ++ [(⟨ak, aa, ab, ⟨ks, rk, rt⟩⟩ : AtomD)]).length = k + 1 := by simp; omega
              rw [e7] at hown6 hat6
              exact Out.push tells_atom HALL.out.1 hown6 hgrow6 hat6 2 _
            case measure => simp [intOf]; omega
          · obtain rfl : n3 = k := by omega
            obtain ⟨Wc, hWe⟩ : ∃ Wc, Wc = wr := ⟨_, rfl⟩
            rw [← hWe] at hgb hout hbG hzr hGr ⊢
            clear hWe
            rw [List.take_of_length_le (by omega)] at hout
            obtain ⟨B3, d3, rfl, hd3, hd3m, hT3⟩ := hout.done tells_atom (E := AtAtom) (fun _ _ _ _ _ h => atV_atom h)
            have hbGG : Below G Wb Wc := only_below hout.only (Nat.le_refl _) (by omega)
            have hon := hout.only
            obtain ⟨hF1, hfine, hwide, hbk1, hbr1, hbs1, hbel1, hgblk1, harr1, harb1, hT1⟩ := HX.out
            have hF2 := hF1.below (hbGG.mono (by omega)) (Nat.le_refl w.heap.size)
            have hbr2 := hbr1.below hbGG (by omega)
            have hbs2 := hbs1.below hbGG (by omega)
            have hbel2 := hbel1.trans (hbGG.mono (by omega))
            have hgblk2 := hgblk1.below hbGG (by omega)
            have harr2 := harr1.keep (stays_arr stays_int) (fun _ h => h) (fun b o hb => hbGG.cell (p := ⟨b, o, none⟩) (Nat.lt_of_lt_of_le hb hwG))
            have harb2 := harb1.keep stays_bool (fun _ h => h) (fun b o hb => hbGG.cell (p := ⟨b, o, none⟩) hb.2)
            have hT1' := hT1.keep stays_term (S' := fun b => G < b ∧ b < Wc.heap.size) (fun b hb => by have := hon.size; omega) (fun b o hb => only_cell hon hb.2 (fun e => by injection e with e; omega))
            have HSF := Lib.hid (stackForm_any g A1 A2 A3 A4 A5 n1 c1 n2 c2 n3 c3 n4 c4 _ c5 vf F (clOf (playRes F l).2.1 (playRes F l).2.2) (fun b => b < w1.heap.size) Wc (fun b hb => by omega) (hF1.below (hbGG.mono (by omega)) (by omega)) hgblk2 (hF2.clauses.keep (stays_arr stays_int) (fun b hb => Nat.lt_trans hb hz0) (fun _ _ _ => rfl)) harr2 h4 h4m h5 h5m h400 (by omega))
            have HX := Lib.hid (And.intro hwide (And.intro hbr2 (And.intro hbs2 (And.intro hbel2 (And.intro harb2 (And.intro hT1' hT3))))))
            have HGB := Lib.hid hgb
            have hfd3 := fun (a b c d : Value) (W : World) => field_three a b c d W
            clear hF1 hfine hwide hbk1 hbr1 hbs1 hbel1 hgblk1 harr1 harb1 hT1 hF2 hbr2 hbs2 hbel2 hgblk2 harr2 harb2 hT1' hT3 hgb hout hon hbGG hbG
            go_wp2_with fail
            refine HSF.out.mono ?_
            rintro e W5 ⟨A6, n6, c6, rfl, hF5, hn6, hb5, hcl5⟩
            have hlen6 := hcl5.len
            have hgb0 := HGB.out.below hb5 hGr
            have hGz : G < W5.heap.size := hgb0.lt
            have hc5 := hb5.size
            have hm6 := hF5.m4
            have HX5 := Lib.hid (And.intro hb5 hcl5)
            have HG5 := Lib.hid hgb0
            clear hF5 hcl5 hgb0 HSF hb5 HGB
            go_wp2_with fail
            have hgb0 := HG5.out
            clear HG5
            go_loopw [72] (fun s wr => ∃ (k : Nat) (v1 : Value), k ≤ n6 ∧ s = .int .i64 k ∧ Blk wr G 27 #[.slice B1 F.terms.length d1, .slice Ab F.ints.length cb, .slice B3 F.atoms.length d3, v1] ∧ Out VRow 31 1 W5 wr G v1 ((F.clauses ++ clOf (playRes F l).2.1 (playRes F l).2.2).take k)) (fun s _ => n6 - (intOf s).toNat)
            case atStart => exact ⟨0, .slice none 0 0, Nat.zero_le _, rfl, hgb0, by simpa using Out.start VRow 31 1 W5 hGz⟩
            case round =>
              obtain ⟨k', v1, hk', rfl, hgb, hout⟩ := hrel
              clear hgb0
              have hzr := hout.only.size
              have hGr' : G < wr.heap.size := by omega
              have hon := hout.only
              have hfar : ∀ b, (b < w1.heap.size ∨ (Wc.heap.size ≤ b ∧ b < W5.heap.size)) → b < W5.heap.size ∧ some G ≠ some b := fun b hb => ⟨hb.elim (fun h => by omega) (fun h => h.2), fun e => by injection e with e; exact hb.elim (fun h => by omega) (fun h => by omega)⟩
              by_cases hlt : k' < n6
              · have hcw := HX5.out.2.keep (stays_arr stays_int) (w' := wr) (fun b hb => hb) (fun b o hb => only_cell hon (hfar b hb).1 (hfar b hb).2)
                obtain ⟨b, off, hx, rfl, hb, A', n', c', hcell, hnc, hcm, hks⟩ := Arr.get hcw hlt
                rw [Nat.mul_one] at hcell
                have hkl := HX.out.1 _ (List.getElem_mem hx)
                have HT0 := Lib.hid (take_snoc_l hx)
                generalize (F.clauses ++ clOf (playRes F l).2.1 (playRes F l).2.2)[k'] = ks at hkl HT0 hks
                have hks' : IntsB wr wr.heap.size A' n' ks := hks.keep stays_int (fun b hb => by have := (hfar b hb).1; omega) (fun _ _ _ => rfl)
                have hlk : ((F.clauses ++ clOf (playRes F l).2.1 (playRes F l).2.2).take k').length = k' := by rw [List.length_take, hlen6]; omega
                have hkl2 := hks.len
                have HC := Lib.hid (fun nq => cloneInts_any A' n' c' ks (wr.drewN nq) (hks'.drewN stays_int nq) (by omega))
                have q3 : wr.cell? ⟨G, 3, none⟩ = some v1 := hgb.cell 3
                have HO := Lib.hid (And.intro hgb hout)
                have hcap : k' + 1 ≤ 801 := by have := hclen; simp at hlen6; omega
                clear hout hgb hks hks' hcw hfar hon hb hx hkl2 hkl
                go_wp2_with fail
                go_region_law (first
                  | (refine step_append_item (by rfl) _ _ _ (by rfl) rowRows tells_row' (v := v1) (xs := (F.clauses ++ clOf (playRes F l).2.1 (playRes F l).2.2).take k') (base := W5.heap.size) (S := SO W5.heap.size (w3.alloc (.cells #[.slice A3 ks.length c3] 31)) v1) (by rfl) (.inl HALL.out.1.own) (g := w3.heap.size) (cs := #[.slice A3 ks.length c3]) (by rfl) HBN.out.1 (y := ks) HVT.out (fun b h => ⟨h.2.1, h.2.2⟩) (by unfold maxLen; omega) (by omega) hb00 ?_
                     intro g' cap w6 hown6 hgrow6 hat6 hlt6
                     have hgb6 : Blk w6 G 27 #[.slice B1 F.terms.length d1, .slice Ab F.ints.length cb, .slice B3 F.atoms.length d3, v1] := (HBN.out.2.alloc _).grown hgrow6 (fun e => by have := (HLT.out G e.symm).1; omega)
                     have q6 : w6.cell? ⟨G, 3, none⟩ = some v1 := hgb6.cell 3
                     have z6 : w6.frozen? ⟨G, 3, none⟩ = false := hgb6.frozen 3
                     have HB6 := Lib.hid (And.intro hgb6 (And.intro hown6 (And.intro hgrow6 hat6)))
                     clear hgb6 hown6 hgrow6 hat6)
                  | (go_simp
                     go_at_call 38
                     refine (HC.out 1).mono ?_
                     rintro e w3 ⟨v, rfl, hown, hb3⟩
                     obtain ⟨hgb, hout⟩ := HO.out
                     have houtd := hout.step (wX := wr.drewN 1) tells_row' (below_drewN (Below.refl _ _) 1)
                     obtain ⟨A3, c3, rfl, hc3, hc3m, hall⟩ := clone_item tells_row' houtd hb3 hown
                     have HALL := Lib.hid (hall (.cells #[.slice A3 ks.length c3] 31))
                     have hwa : Below wr.heap.size wr w3 := (below_drewN (Below.refl _ _) 1).trans hb3
                     have hgb3 := hgb.below hwa hGr'
                     have q33 : w3.cell? ⟨G, 3, none⟩ = some v1 := hgb3.cell 3
                     have hG3 : G < w3.heap.size := hgb3.lt
                     have HVT : Hid (VRow (w3.alloc (.cells #[.slice A3 ks.length c3] 31)) (SO W5.heap.size (w3.alloc (.cells #[.slice A3 ks.length c3] 31)) v1) [.slice A3 ks.length c3] ks) := ⟨A3, _, c3, rfl, hc3, hc3m, HALL.out.2.2⟩
                     have HBN := Lib.hid (And.intro (Blk.new w3 31 #[.slice A3 ks.length c3]) hgb3)
                     have hwz := hwa.size
                     have hb00 : W5.heap.size ≤ (w3.alloc (.cells #[.slice A3 ks.length c3] 31)).heap.size := by simp; omega
                     have HLT := Lib.hid hout.own.lt
                     clear hgb hout houtd hall hwa hgb3 hown hb3)
                  | fail)
                all_goals
                  go_wp2_with fail
                  go_roundw
                  case rel =>
                    obtain ⟨hgb6, hown6, hgrow6, hat6⟩ := HB6.out
                    refine ⟨k' + 1, _, by omega, by go_num, hgb6.set_ 3 _, ?_⟩
                    rw [HT0.out]
                    rw [hlk] at hown6
                    exact Out.push tells_row' HALL.out.1 hown6 hgrow6 (hat6.elim (fun h => .inl h.symm) (fun h => .inr (congrArg some h))) 3 _
                  case measure => simp [intOf]; omega
              · obtain rfl : n6 = k' := by omega
                rw [List.take_of_length_le (by omega)] at hout
                obtain ⟨B4, d4, rfl, hd4, hd4m, hT4⟩ := hout.done tells_row' (E := AtArr AtInt 1) (fun _ _ _ _ _ h => atV_arr.1 h)
                obtain ⟨hwide, hbr2, hbs2, hbel2, harb2, hT1, hT3⟩ := HX.out
                obtain ⟨hb5, -⟩ := HX5.out
                have hbr := (hbr2.below hb5 (by omega)).grown hon (fun e => by injection e; omega)
                have hbs := (hbs2.below hb5 (by omega)).grown hon (fun e => by injection e; omega)
                have hbel : Below w.heap.size w wr := below_then (hbel2.trans (hb5.mono (by omega))) hon (by omega) (fun x hx => by injection hx; omega)
                have harb := (harb2.keep stays_bool (w' := wr) (S' := fun b => w1.heap.size ≤ b ∧ b < wr.heap.size) (fun b hb => by omega) (fun b o hb => (only_cell hon (b := b) (by omega) (fun e => by injection e; omega)).trans (hb5.cell (p := ⟨b, o, none⟩) (by show b < Wc.heap.size; omega))))
                have hT1f := hT1.keep stays_term (w' := wr) (S' := fun b => w1.heap.size ≤ b ∧ b < wr.heap.size) (fun b hb => by omega) (fun b o hb => (only_cell hon (b := b) (by omega) (fun e => by injection e; omega)).trans (hb5.cell (p := ⟨b, o, none⟩) hb.2))
                have hT3f := hT3.keep stays_atom (w' := wr) (S' := fun b => w1.heap.size ≤ b ∧ b < wr.heap.size) (fun b hb => by omega) (fun b o hb => (only_cell hon (b := b) (by omega) (fun e => by injection e; omega)).trans (hb5.cell (p := ⟨b, o, none⟩) hb.2))
                have hT4f := hT4.keep (stays_arr stays_int) (w' := wr) (S' := fun b => w1.heap.size ≤ b ∧ b < wr.heap.size) (fun b hb => by omega) (fun _ _ _ => rfl)
                have m0 := hgb.cell 0
                have m1 := hgb.cell 1
                have m2 := hgb.cell 2
                have m3 := hgb.cell 3
                have f0 := hbr.cell 0
                have f1 := hbr.cell 1
                have f2 := hbr.cell 2
                have f3 := hbr.cell 3
                have g0 := hbs.cell 0
                have g1 := hbs.cell 1
                simp only [List.getElem?_toArray, List.getElem?_cons_zero, List.getElem?_cons_succ] at m0 m1 m2 m3 f0 f1 f2 f3 g0 g1
                have u0 := hbr.frozen 0
                have u1 := hbr.frozen 1
                have u2 := hbr.frozen 2
                have u3 := hbr.frozen 3
                have v0 := hbs.frozen 0
                have v1 := hbs.frozen 1
                have HFIN := Lib.hid (And.intro hbr (And.intro hbs (And.intro hbel (And.intro harb (And.intro hT1f (And.intro hT3f hT4f))))))
                have hzw0 : w.heap.size + 1 < wr.heap.size := by omega
                have hzw2 : w.heap.size + 1 + 1 < wr.heap.size := by omega
                clear hbr2 hbs2 hbel2 harb2 hT1 hT3 hb5 hbr hbs hbel harb hT1f hT3f hT4f hT4 hgb hout HX HX5 hon hfar
                go_wp2_with fail
                obtain ⟨hbr, hbs, hbel, harb, hT1, hT3, hT4⟩ := HFIN.out
                clear m0 m1 m2 m3 f0 f1 f2 f3 g0 g1 u0 u1 u2 u3 v0 v1 HFIN
                rw [hlen1] at hT1
                rw [hlen3] at hT3
                rw [hlen6] at hT4
                have y1 := four_blk hbr (.slice B1 n1 d1) (.slice Ab F.ints.length cb) (.slice B3 n3 d3) (.slice B4 n6 d4)
                have y2 := four_only wr (w.heap.size + 1) (.slice B1 n1 d1) (.slice Ab F.ints.length cb) (.slice B3 n3 d3) (.slice B4 n6 d4)
                have y3 := two_blk (hbs.grown y2 (by simp)) (.int .i64 0) (.int .i64 0)
                have y0 := two_only (four wr (w.heap.size + 1) (.slice B1 n1 d1) (.slice Ab F.ints.length cb) (.slice B3 n3 d3) (.slice B4 n6 d4)) (w.heap.size + 1 + 1) (.int .i64 0) (.int .i64 0)
                have y4 := y1.grown y0 (by simp)
                have y5 : Below w.heap.size w (two (four wr (w.heap.size + 1) (.slice B1 n1 d1) (.slice Ab F.ints.length cb) (.slice B3 n3 d3) (.slice B4 n6 d4)) (w.heap.size + 1 + 1) (.int .i64 0) (.int .i64 0)) := two_below (g := (w.heap.size + 1 + 1)) (below_then hbel y2 (by omega) (fun x hx => by injection hx; omega)) (by omega) (.int .i64 0) (.int .i64 0)
                have y6 := y2.size
                have y7 := y0.size
                have h1f := hT1.keep stays_term (w' := two (four wr (w.heap.size + 1) (.slice B1 n1 d1) (.slice Ab F.ints.length cb) (.slice B3 n3 d3) (.slice B4 n6 d4)) (w.heap.size + 1 + 1) (.int .i64 0) (.int .i64 0)) (S' := fun b => b < (two (four wr (w.heap.size + 1) (.slice B1 n1 d1) (.slice Ab F.ints.length cb) (.slice B3 n3 d3) (.slice B4 n6 d4)) (w.heap.size + 1 + 1) (.int .i64 0) (.int .i64 0)).heap.size) (fun b hb => by omega) (fun b o hb => (only_cell y0 (b := b) (by omega) (fun e => by injection e; omega)).trans (only_cell y2 (b := b) (by omega) (fun e => by injection e; omega)))
                have h2f := harb.keep stays_bool (w' := two (four wr (w.heap.size + 1) (.slice B1 n1 d1) (.slice Ab F.ints.length cb) (.slice B3 n3 d3) (.slice B4 n6 d4)) (w.heap.size + 1 + 1) (.int .i64 0) (.int .i64 0)) (S' := fun b => b < (two (four wr (w.heap.size + 1) (.slice B1 n1 d1) (.slice Ab F.ints.length cb) (.slice B3 n3 d3) (.slice B4 n6 d4)) (w.heap.size + 1 + 1) (.int .i64 0) (.int .i64 0)).heap.size) (fun b hb => by omega) (fun b o hb => (only_cell y0 (b := b) (by omega) (fun e => by injection e; omega)).trans (only_cell y2 (b := b) (by omega) (fun e => by injection e; omega)))
                have h3f := hT3.keep stays_atom (w' := two (four wr (w.heap.size + 1) (.slice B1 n1 d1) (.slice Ab F.ints.length cb) (.slice B3 n3 d3) (.slice B4 n6 d4)) (w.heap.size + 1 + 1) (.int .i64 0) (.int .i64 0)) (S' := fun b => b < (two (four wr (w.heap.size + 1) (.slice B1 n1 d1) (.slice Ab F.ints.length cb) (.slice B3 n3 d3) (.slice B4 n6 d4)) (w.heap.size + 1 + 1) (.int .i64 0) (.int .i64 0)).heap.size) (fun b hb => by omega) (fun b o hb => (only_cell y0 (b := b) (by omega) (fun e => by injection e; omega)).trans (only_cell y2 (b := b) (by omega) (fun e => by injection e; omega)))
                have h4f := hT4.keep (stays_arr stays_int) (w' := two (four wr (w.heap.size + 1) (.slice B1 n1 d1) (.slice Ab F.ints.length cb) (.slice B3 n3 d3) (.slice B4 n6 d4)) (w.heap.size + 1 + 1) (.int .i64 0) (.int .i64 0)) (S' := fun b => b < (two (four wr (w.heap.size + 1) (.slice B1 n1 d1) (.slice Ab F.ints.length cb) (.slice B3 n3 d3) (.slice B4 n6 d4)) (w.heap.size + 1 + 1) (.int .i64 0) (.int .i64 0)).heap.size) (fun b hb => by omega) (fun b o hb => (only_cell y0 (b := b) (by omega) (fun e => by injection e; omega)).trans (only_cell y2 (b := b) (by omega) (fun e => by injection e; omega)))
                have e4 : ((((((wr).setCell ⟨w.heap.size + 1, 0, none⟩ (.slice B1 n1 d1)).setCell ⟨w.heap.size + 1, 1, none⟩ (.slice Ab F.ints.length cb)).setCell ⟨w.heap.size + 1, 2, none⟩ (.slice B3 n3 d3)).setCell ⟨w.heap.size + 1, 3, none⟩ (.slice B4 n6 d4)).setCell ⟨w.heap.size + 1 + 1, 0, none⟩ (.int .i64 0)).setCell ⟨w.heap.size + 1 + 1, 1, none⟩ (.int .i64 0) = two (four wr (w.heap.size + 1) (.slice B1 n1 d1) (.slice Ab F.ints.length cb) (.slice B3 n3 d3) (.slice B4 n6 d4)) (w.heap.size + 1 + 1) (.int .i64 0) (.int .i64 0) := rfl
                rw [e4]
                clear e4 y0 y1 y2 y6 y7
                generalize two (four wr (w.heap.size + 1) (.slice B1 n1 d1) (.slice Ab F.ints.length cb) (.slice B3 n3 d3) (.slice B4 n6 d4)) (w.heap.size + 1 + 1) (.int .i64 0) (.int .i64 0) = Z at *
                have g0 := y3.cell 0
                have g1 := y3.cell 1
                have f0 := y4.cell 0
                have f1 := y4.cell 1
                have f2 := y4.cell 2
                have f3 := y4.cell 3
                simp only [List.getElem?_toArray, List.getElem?_cons_zero, List.getElem?_cons_succ] at f0 f1 f2 f3 g0 g1
                refine bodyPost_ret (v := .tuple #[.agg #[.slice B1 n1 d1, .slice Ab F.ints.length cb, .slice B3 n3 d3, .slice B4 n6 d4], .agg #[.int .i64 0, .int .i64 0]]) (by simp [results, Try.results15, go_sem, f0, f1, f2, f3, g0, g1]) rfl ?_
                exact .inl ⟨HRES.out, B1, Ab, B3, B4, _, _, _, _, _, _, _, _, rfl, ⟨h1f, h2f, h3f, h4f, by omega, by unfold maxLen at hcbm; omega, by omega, by omega⟩, y5⟩

  · obtain ⟨hF, hb0, hbk0, hbr0, hbs0, hs0⟩ := HN.out
    rcases hqq : (playRes F l).1 with ⟨qc, qa⟩
    rw [hqq] at hres
    simp only at hres ⊢
    have HP : Hid ((playRes F l).1 = (qc, qa)) := hqq
    have HR := Lib.hid hres
    have hq1 : (qc != 0) = true := by simpa using hres
    have hbr := hbr0.below hb1 (by omega)
    have hbs : Blk w1 (w.heap.size + 1 + 1) 29 #[.int .i64 0, .int .i64 0] := hbs0.below hb1 (by omega)
    have hz := hb1.size
    have hz1 : w.heap.size + 1 < w1.heap.size := by omega
    have hz2 : w.heap.size + 1 + 1 < w1.heap.size := by omega
    have hbel := hb0.trans (hb1.mono (by omega))
    have f0 := hbr.cell 0
    have f1 := hbr.cell 1
    have f2 := hbr.cell 2
    have f3 := hbr.cell 3
    have g0 := hbs.cell 0
    have g1 := hbs.cell 1
    simp only [List.getElem?_toArray, List.getElem?_cons_zero, List.getElem?_cons_succ] at f0 f1 f2 f3 g0 g1
    have u0 := hbr.frozen 0
    have u1 := hbr.frozen 1
    have u2 := hbr.frozen 2
    have u3 := hbr.frozen 3
    have v0 := hbs.frozen 0
    have v1 := hbs.frozen 1
    have HE := Lib.hid (And.intro hbr (And.intro hbs hbel))
    clear hF hb0 hbk0 hbr0 hbs0 hs0 hqq hres hbr hbs hb1 hbel HC HN hz
    go_wp2_with fail
    go_region
    go_wp2_with fail
    obtain ⟨hbr, hbs, hbel⟩ := HE.out
    have y1 := four_blk hbr (.slice none 0 0) (.slice none 0 0) (.slice none 0 0) (.slice none 0 0)
    have y2 := four_only w1 (w.heap.size + 1) (.slice none 0 0) (.slice none 0 0) (.slice none 0 0) (.slice none 0 0)
    have y3 := two_blk (hbs.grown y2 (by simp)) (.int .i64 qc) (.int .i64 qa)
    have y4 := y1.grown (two_only (four w1 (w.heap.size + 1) (.slice none 0 0) (.slice none 0 0) (.slice none 0 0) (.slice none 0 0)) (w.heap.size + 1 + 1) (.int .i64 qc) (.int .i64 qa)) (by simp)
    have y5 : Below w.heap.size w (two (four w1 (w.heap.size + 1) (.slice none 0 0) (.slice none 0 0) (.slice none 0 0) (.slice none 0 0)) (w.heap.size + 1 + 1) (.int .i64 qc) (.int .i64 qa)) := two_below (g := (w.heap.size + 1 + 1)) (below_then hbel y2 (by omega) (fun x hx => by injection hx; omega)) (by omega) (.int .i64 qc) (.int .i64 qa)
    have y6 := y2.size
    have y7 := (two_only (four w1 (w.heap.size + 1) (.slice none 0 0) (.slice none 0 0) (.slice none 0 0) (.slice none 0 0)) (w.heap.size + 1 + 1) (.int .i64 qc) (.int .i64 qa)).size
    have y8 := y3.alloc (.cells #[.int .i64 qc, .int .i64 qa] 29)
    have y9 := y4.alloc (.cells #[.int .i64 qc, .int .i64 qa] 29)
    have y10 : Below w.heap.size w ((two (four w1 (w.heap.size + 1) (.slice none 0 0) (.slice none 0 0) (.slice none 0 0) (.slice none 0 0)) (w.heap.size + 1 + 1) (.int .i64 qc) (.int .i64 qa)).alloc (.cells #[.int .i64 qc, .int .i64 qa] 29)) := y5.alloc (by omega) _
    have y11 := y8.drew
    have y12 := y9.drew
    have y13 : Below w.heap.size w (((two (four w1 (w.heap.size + 1) (.slice none 0 0) (.slice none 0 0) (.slice none 0 0) (.slice none 0 0)) (w.heap.size + 1 + 1) (.int .i64 qc) (.int .i64 qa)).alloc (.cells #[.int .i64 qc, .int .i64 qa] 29)).drew) := below_drewN y10 1
    have e4 : ((((((((w1).setCell ⟨w.heap.size + 1, 0, none⟩ (.slice none 0 0)).setCell ⟨w.heap.size + 1, 1, none⟩ (.slice none 0 0)).setCell ⟨w.heap.size + 1, 2, none⟩ (.slice none 0 0)).setCell ⟨w.heap.size + 1, 3, none⟩ (.slice none 0 0)).setCell ⟨w.heap.size + 1 + 1, 0, none⟩ (.int .i64 qc)).setCell ⟨w.heap.size + 1 + 1, 1, none⟩ (.int .i64 qa)).alloc (.cells #[.int .i64 qc, .int .i64 qa] 29)).drew = ((two (four w1 (w.heap.size + 1) (.slice none 0 0) (.slice none 0 0) (.slice none 0 0) (.slice none 0 0)) (w.heap.size + 1 + 1) (.int .i64 qc) (.int .i64 qa)).alloc (.cells #[.int .i64 qc, .int .i64 qa] 29)).drew := rfl
    rw [e4]
    clear e4
    generalize ((two (four w1 (w.heap.size + 1) (.slice none 0 0) (.slice none 0 0) (.slice none 0 0) (.slice none 0 0)) (w.heap.size + 1 + 1) (.int .i64 qc) (.int .i64 qa)).alloc (.cells #[.int .i64 qc, .int .i64 qa] 29)).drew = Z at y11 y12 y13 ⊢
    have g0 := y11.cell 0
    have g1 := y11.cell 1
    have f0 := y12.cell 0
    have f1 := y12.cell 1
    have f2 := y12.cell 2
    have f3 := y12.cell 3
    simp only [List.getElem?_toArray, List.getElem?_cons_zero, List.getElem?_cons_succ] at f0 f1 f2 f3 g0 g1
    refine bodyPost_ret (v := .tuple #[.agg #[.slice none 0 0, .slice none 0 0, .slice none 0 0, .slice none 0 0], .agg #[.int .i64 qc, .int .i64 qa]]) (by simp [results, Try.results15, go_sem, f0, f1, f2, f3, g0, g1]) rfl ?_
    exact .inr ⟨by rw [HP.out]; exact HR.out, by rw [HP.out]; exact ⟨rfl, y13⟩⟩
end Go.Proofs.Ytpceiifacendfaa
