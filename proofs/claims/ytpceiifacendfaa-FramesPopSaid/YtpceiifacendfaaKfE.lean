/- Walk: the law FramesPop. -/
import Derived.Test.YtpceiifacendfaaKfC
import Derived.Test.YtpceiifacendfaaKfD
import Derived.Test.YtpceiifacendfaaFrH
import Derived.Test.YtpceiifacendfaaFrL
import Derived.Deep.DeepCutAuto
namespace Go.Proofs.Ytpceiifacendfaa
open Go.RowKit

def stepC (h : Int) : Int := if h = 1 then 1 else if h = 2 then -1 else 0
def cntF : List TermD → Int
  | [] => 0
  | x :: r => stepC x.head + cntF r
theorem cntF_app : ∀ l m : List TermD, cntF (l ++ m) = cntF l + cntF m
  | [], m => by simp [cntF]
  | x :: r, m => by rw [List.cons_append, cntF, cntF, cntF_app r m]; omega
theorem cntF_le : ∀ l : List TermD, -(l.length : Int) ≤ cntF l ∧ cntF l ≤ l.length
  | [] => by simp [cntF]
  | x :: r => by
    have := cntF_le r
    simp only [cntF, stepC, List.length_cons]
    split
    · omega
    · split <;> omega
theorem Deeds.cnt {vars : Int} {l : List TermD} {d : Nat} (h : Deeds vars l d) : cntF l = d := by
  induction h with
  | nil => rfl
  | push _ ih => rw [cntF_app, ih]; simp [cntF, stepC]
  | pop _ ih => rw [cntF_app, ih]; simp [cntF, stepC]; omega
  | hold _ _ ih => rw [cntF_app, ih]; simp [cntF, stepC]
  | ask _ ih => rw [cntF_app, ih]; simp [cntF, stepC]
theorem cntF_next {l : List TermD} {i : Nat} (h : i < l.length) : cntF (l.take (i + 1)) = cntF (l.take i) + stepC l[i].head := by
  rw [List.take_succ_eq_append_getElem h, cntF_app]; simp [cntF]
theorem Deeds.wide {vars : Int} {l : List TermD} {d : Nat} (h : Deeds vars l d) : ∀ x ∈ l, x.kids.length * 8 ≤ 140737488355328 := by
  induction h with
  | nil => intro x hx; simp at hx
  | push _ ih => intro x hx; rcases List.mem_append.1 hx with hx | hx; exact ih x hx; rw [List.mem_singleton.1 hx]; simp
  | pop _ ih => intro x hx; rcases List.mem_append.1 hx with hx | hx; exact ih x hx; rw [List.mem_singleton.1 hx]; simp
  | hold hc _ ih =>
    intro x hx
    rcases List.mem_append.1 hx with hx | hx
    · exact ih x hx
    · rw [List.mem_singleton.1 hx]; have := hc.len; dsimp only; omega
  | ask _ ih => intro x hx; rcases List.mem_append.1 hx with hx | hx; exact ih x hx; rw [List.mem_singleton.1 hx]; simp

/-- blocks that are there, but the row v's own -/
def SD (w : World) (v : Value) : Nat → Prop := fun b => b < w.heap.size ∧ v.ownBlock ≠ some b
theorem own_stepD {α : Type} {V : Val α} {sz e base : Nat} {Y w6 : World} {v v' : Value} {zs : List α} (hV : Tells V sz) (h : OwnV V e sz w6 base (SD Y v) v' zs) (hg : Y.grownBy w6 v.ownBlock) (hat : v'.ownBlock = v.ownBlock ∨ v'.ownBlock = some Y.heap.size) : OwnV V e sz w6 base (SD w6 v') v' zs := by
  obtain ⟨cells, h1, h2⟩ := h
  refine ⟨cells, h1, Cels.keep hV (fun b hb => ⟨Nat.lt_of_lt_of_le hb.1 hg.size, ?_⟩) (fun _ _ _ => rfl) _ _ h2⟩
  rcases hat with e | e
  · rw [e]; exact hb.2
  · rw [e]; intro e2; injection e2 with e2; have := hb.1; omega
theorem term_atV {w : World} {S : Nat → Prop} {b o : Nat} {x : TermD} (h : AtTerm w S b o x) : AtV VTerm w S b o x := by
  obtain ⟨⟨h1, i1⟩, A, n, c, h2, h3, h4, h5⟩ := h
  refine ⟨[.int .i64 x.head, .slice A n c], ⟨A, n, c, rfl, i1, h3, h4, h5⟩, fun j u hj => ?_⟩
  rcases j with _ | _ | j
  · simp only [List.getElem?_cons_zero, Option.some.injEq] at hj; rw [← hj]; exact h1
  · simp only [List.getElem?_cons_succ, List.getElem?_cons_zero, Option.some.injEq] at hj; rw [← hj]; exact h2
  · simp at hj
abbrev OwnE (w : World) (B : Nat) (v : Value) (ds : List TermD) : Prop := OwnV VTerm 47 2 w B (SD w v) v ds
theorem OwnE.later {w w' : World} {B : Nat} {v : Value} {ds : List TermD} (h : OwnE w B v ds) (hb : Below w.heap.size w w') : OwnE w' B v ds :=
  OwnV.kept tells_term h (only_of_below hb none) (by cases v.ownBlock <;> simp) (fun b hS => ⟨⟨Nat.lt_of_lt_of_le hS.1 hb.size, hS.2⟩, hS.1, by simp⟩)
/-- behind the first append: the item of the second one is made -/
theorem item_step {w0 w6 : World} {v : Value} {l : List TermD} (h : OwnV VTerm 47 2 w6 w0.heap.size (fun b => b < w0.heap.size) v l) (hg : w0.grownBy w6 none) :
    OwnV VTerm 47 2 (w6.alloc (.cells #[.int .i64 1, .slice none 0 0] 47)) w0.heap.size (SD (w6.alloc (.cells #[.int .i64 1, .slice none 0 0] 47)) v) v l ∧ Blk (w6.alloc (.cells #[.int .i64 1, .slice none 0 0] 47)) w6.heap.size 47 #[.int .i64 1, .slice none 0 0] ∧ VTerm (w6.alloc (.cells #[.int .i64 1, .slice none 0 0] 47)) (SD (w6.alloc (.cells #[.int .i64 1, .slice none 0 0] 47)) v) [.int .i64 1, .slice none 0 0] ⟨1, []⟩ ∧ Below w0.heap.size w0 (w6.alloc (.cells #[.int .i64 1, .slice none 0 0] 47)) := by
  have hb0 : Below w0.heap.size w0 w6 := below_then (Below.refl _ _) hg (Nat.le_refl _) (fun x hx => by cases hx)
  have hb : Below w6.heap.size w6 (w6.alloc (.cells #[.int .i64 1, .slice none 0 0] 47)) := (Below.refl _ _).alloc (Nat.le_refl _) _
  refine ⟨?_, Blk.new _ _ _, ⟨none, 0, 0, rfl, ⟨by decide, by decide⟩, Nat.le_refl _, Nat.zero_le _, Arr.nil_⟩, hb0.trans (hb.mono hb0.size)⟩
  exact OwnV.kept tells_term h (only_of_below hb none) (by cases v.ownBlock <;> simp) (fun b hS => ⟨⟨by have := hb.size; have := hb0.size; omega, fun e => by have := (h.lt b e).1; omega⟩, by have := hb0.size; omega, by simp⟩)

set_option maxRecDepth 100000 in
set_option maxHeartbeats 8000000 in
theorem framesPop_any (A : Option Addr) (n c : Nat) (xs : List Int) (A' : Option Addr) (n' c' : Nat) (xs' : List Int) (A'' : Option Addr) (n'' c'' : Nat) (xs'' : List Int) (w : World) (hxs : ArrB AtInt 1 w w.heap.size A n xs) (hn : n ≤ 9223372036854775807) (hxs' : ArrB AtInt 1 w w.heap.size A' n' xs') (hxs'' : ArrB AtInt 1 w w.heap.size A'' n'' xs'') :
    Calls Try.prog 5 #[.slice A n c, .slice A' n' c', .slice A'' n'' c''] w fun e w' => e = .returned (.bool true) ∧ Below w.heap.size w w' := by
  have HF0 := formOf_any A n c xs 5 w hxs hn (by omega)
  rw [show ((5 : Nat) : Int) = 5 from rfl] at HF0
  have HF := Lib.hid HF0
  have HX1 := Lib.hid hxs'
  have HX2 := Lib.hid hxs''
  clear HF0 hxs hxs' hxs'' hn
  go_enter Try.func5, Try.ntmps5
  go_wp2_with fail
  refine HF.out.mono ?_
  rintro e w1 ⟨A1, A2, A3, A4, n1, c1, n2, c2, n3, c3, n4, c4, F, rfl, hF, hK, h4, h4m, hb1⟩
  have hn3 := hF.atoms.len
  have hl3 : 3 ≤ n3 ∧ n3 ≤ 7 := by rw [← hn3]; exact hK.alen
  have hbx : Below w1.heap.size w1 (w1.alloc (.cells #[.slice A1 n1 c1, .slice A2 n2 c2, .slice A3 n3 c3, .slice A4 n4 c4] 27)) := (Below.refl _ _).alloc (Nat.le_refl _) _
  have hk := Blk.new w1 27 #[.slice A1 n1 c1, .slice A2 n2 c2, .slice A3 n3 c3, .slice A4 n4 c4]
  obtain ⟨X1, hX1⟩ : ∃ X, w1.alloc (.cells #[.slice A1 n1 c1, .slice A2 n2 c2, .slice A3 n3 c3, .slice A4 n4 c4] 27) = X := ⟨_, rfl⟩
  rw [hX1] at hbx hk
  have HE1 := Lib.hid hX1
  have hbX := hb1.trans (hbx.mono hb1.size)
  have x2 := hk.cell 2
  simp only [List.getElem?_toArray, List.getElem?_cons_zero, List.getElem?_cons_succ] at x2
  have zq := hk.lt
  have HD := Lib.hid (deeds_any A' n' c' xs' (n3 : Int) X1 (HX1.out.below stays_int hbX hbX.size) (by omega) (by omega))
  have H1 := Lib.hid (And.intro (hF.below hbx hbx.size) (And.intro hbX (And.intro hk (And.intro hK (And.intro h4 (And.intro h4m hn3))))))
  clear hF hK h4 h4m hb1 hn3 hbx hk hX1 hbX HF HX1
  go_upto_region 2 with fail
  rw [HE1.out]
  clear HE1
  go_wp2_with fail
  refine HD.out.mono ?_
  rintro e w2 ⟨v8, ds, d, rfl, hown, hde, hdl, hd20, hb2⟩
  clear HD
  have hol := hown.lt
  obtain ⟨A8, c8, rfl, hc8, hc8m, har⟩ := OwnV.reads (E := AtTerm) tells_term (fun _ _ _ _ _ h => atV_term h) hown (S' := fun b => b < w2.heap.size) (fun b hb => hb.2.1) (fun g hg => (hol g hg).2)
  obtain ⟨nd, hnd⟩ : ∃ nd : Nat, ds.length = nd := ⟨_, rfl⟩
  rw [hnd] at har hc8 hdl ⊢
  have hz2 : w1.heap.size < w2.heap.size := Nat.lt_of_lt_of_le zq hb2.size
  have hde20 := hdl
  have y2 := (hb2.cell (p := ⟨w1.heap.size, 2, none⟩) zq).trans x2
  obtain ⟨p1, p2, p3, p4, p5, p6, p7⟩ := H1.out
  have H2 := Lib.hid (And.intro (p1.below hb2 hb2.size) (And.intro (p2.trans (hb2.mono p2.size)) (And.intro (p3.below hb2 zq) (And.intro p4 (And.intro p5 (And.intro p6 p7))))))
  have HAR := Lib.hid (And.intro har (And.intro hde hnd))
  clear hol hown hde hnd har hb2 p1 p2 p3 p4 p5 p6 p7 H1 x2 hc8m zq
  go_wp2_with fail
  go_loopw [9, 10] (fun s9 s10 wr => ∃ (i : Nat) (z : Int), s9 = .int .i64 z ∧ s10 = .int .i64 (i : Int) ∧ i ≤ nd ∧ -20 ≤ z ∧ z ≤ 20 ∧ wr = w2 ∧ Hid (cntF (ds.take i) = z)) (fun _ s10 _ => nd - (intOf s10).toNat)
  case atStart => exact ⟨0, 0, rfl, rfl, Nat.zero_le _, by omega, by omega, rfl, rfl⟩
  case round =>
    obtain ⟨i, z, rfl, rfl, hi, hz0, hz1, rfl, HZ⟩ := hrel
    by_cases hlt : i < nd
    · have hiI : (i : Int) < (nd : Int) := by omega
      obtain ⟨b, off, hx, A9, n9, c9, rfl, hb, h0, -, -, -, -, -, -⟩ := terms_get HAR.out.1 hlt
      have hnx := cntF_next hx
      rw [HZ.out] at hnx
      have hle := cntF_le (ds.take (i + 1))
      have hlen : (ds.take (i + 1)).length ≤ 20 := by rw [List.length_take]; omega
      generalize ds[i].head = h at h0 hnx
      have HN : Hid (cntF (ds.take (i + 1)) = z + stepC h ∧ -20 ≤ z + stepC h ∧ z + stepC h ≤ 20) := ⟨hnx, by omega, by omega⟩
      clear hnx hle hlen hx hb
      by_cases e1 : h = 1
      · subst e1
        have hN : Hid (cntF (ds.take (i + 1)) = z + 1) := HN.out.1
        have hz2 : -20 ≤ z + 1 ∧ z + 1 ≤ 20 := HN.out.2
        clear HN
        go_wp2_with fail
        go_roundw
        case rel => exact ⟨i + 1, z + 1, rfl, by go_num, by omega, hz2.1, hz2.2, trivial, hN⟩
        case measure => simp [intOf]; omega
      · have e1b : (h == 1) = false := by simpa using e1
        by_cases e2 : h = 2
        · subst e2
          have hN : Hid (cntF (ds.take (i + 1)) = z - 1) := HN.out.1
          have hz2 : -20 ≤ z - 1 ∧ z - 1 ≤ 20 := HN.out.2
          clear HN
          go_wp2_with fail
          go_roundw
          case rel => exact ⟨i + 1, z - 1, rfl, by go_num, by omega, hz2.1, hz2.2, trivial, hN⟩
          case measure => simp [intOf]; omega
        · have e2b : (h == 2) = false := by simpa using e2
          have hN : Hid (cntF (ds.take (i + 1)) = z) := by
            have := HN.out.1
            rw [stepC, if_neg e1, if_neg e2] at this
            show _ = _
            omega
          clear HN
          go_wp2_with fail
          go_roundw
          case rel => exact ⟨i + 1, z, rfl, by go_num, by omega, hz0, hz1, trivial, hN⟩
          case measure => simp [intOf]; omega
    · obtain rfl : i = nd := by omega
      have hzd : z = d := by
        have e := HZ.out
        rw [List.take_of_length_le (by rw [HAR.out.2.2]; exact Nat.le_refl _), HAR.out.2.1.cnt] at e
        exact e.symm
      subst hzd
      clear hz0 hz1 HZ hi hlt hdl
      obtain ⟨wo, rfl⟩ : ∃ wo : World, wo = wr := ⟨_, rfl⟩
      have hnn0 : i ≤ 20 := by have := hde20; omega
      by_cases h20 : 20 ≤ d
      · have h20I : (20 : Int) ≤ (d : Int) := by omega
        have HL : Hid (ArrB AtTerm 2 wo wo.heap.size none 0 [] ∧ Deeds (n3 : Int) [] 0 ∧ ([] : List TermD).length = 0) := ⟨Arr.nil_, Deeds.nil, rfl⟩
        have hnn : 0 ≤ 20 := by omega
        have hdd : 0 < 20 := by omega
        clear HAR
        go_upto_region 13 with fail
        go_wp2_with (first
          | (at_builtin; refine wpList_append_many rfl _ _ _ rfl rowDeeds tells_term (base := wo.heap.size) (S := fun b => b < wo.heap.size) (v := .slice none 0 0) (xs := []) rfl (OwnV.none_ _ _ _ _ _ _) (fun _ _ _ _ _ h => term_atV h) (A := none) (m := 0) (c := 0) rfl HL.out.1 (fun b hb => ⟨hb, by simp [Value.ownBlock]⟩) (by simp only [List.length_nil]; unfold maxLen; omega) (by simp only [List.length_nil]; omega) (Nat.le_refl _) ?_; intro v6 w6 hown6 hgrow6 hat6; rw [List.nil_append] at hown6; obtain ⟨A6, c6, rfl, hc6, hc6m⟩ := hown6.len; have HB6 := Lib.hid (item_step hown6 hgrow6); have hz6 := hgrow6.size; (have hlen6 : ([] : List TermD).length ≤ 20 := by rw [HL.out.2.2]; exact hnn); clear hown6 hgrow6 hat6)
          | (at_builtin; refine wpList_append_item rfl _ _ _ rfl rowDeeds tells_term (v := .slice A6 ([] : List TermD).length c6) (xs := []) (base := wo.heap.size) (S := SD (w6.alloc (.cells #[.int .i64 1, .slice none 0 0] 47)) (.slice A6 ([] : List TermD).length c6)) rfl HB6.out.1 (g := w6.heap.size) (cs := #[.int .i64 1, .slice none 0 0]) rfl HB6.out.2.1 (y := ⟨1, []⟩) HB6.out.2.2.1 (fun b h => h) (by unfold maxLen; omega) (by omega) (by simp; omega) ?_; intro v7 w7 hown7 hgrow7 hat7; have HB7 := Lib.hid (And.intro (own_stepD tells_term hown7 hgrow7 hat7) (below_then HB6.out.2.2.2 hgrow7 (by simp; omega) (fun x hx => (HB6.out.1.lt x hx).1))); clear hown7 hgrow7 hat7)
          | fail)
        clear hz6 hlen6 HB6 hc6 hc6m
        go_loopw [11, 12] (fun s11 s12 wr => ∃ (i2 : Nat) (cs : List (List Int)), s12 = .int .i64 (i2 : Int) ∧ i2 ≤ 6 ∧ Hid (cs.length ≤ i2 ∧ (∀ c ∈ cs, Lits (n3 : Int) c) ∧ OwnE wr wo.heap.size s11 ([] ++ [⟨1, []⟩] ++ cs.map fun c => ⟨3, c⟩) ∧ Below wo.heap.size wo wr)) (fun _ s12 _ => 6 - (intOf s12).toNat)
        case atStart => exact ⟨0, [], rfl, by omega, Nat.le_refl _, fun c h => by simp at h, by simpa using HB7.out.1, HB7.out.2⟩
        case round =>
          clear HB7
          obtain ⟨i2, cs, rfl, hi2, HR⟩ := hrel
          obtain ⟨A5, c5, rfl, -, -⟩ := HR.out.2.2.1.len
          obtain ⟨LL, hLL⟩ : ∃ LL : List TermD, [] ++ [⟨1, []⟩] ++ (cs.map fun c => (⟨3, c⟩ : TermD)) = LL := ⟨_, rfl⟩
          have hLLl : LL.length ≤ 27 := by
            rw [← hLL]
            have := HL.out.2.2
            have := HR.out.1
            simp only [List.length_append, List.length_cons, List.length_nil, List.length_map] at *
            omega
          rw [hLL] at HR ⊢
          have HLL := Lib.hid hLL
          clear hLL
          have hbk := H2.out.2.2.1.below HR.out.2.2.2 H2.out.2.2.1.lt
          have yk : wr.cell? ⟨w1.heap.size, 2, none⟩ = some (.slice A3 n3 c3) := hbk.cell 2
          have zk := hbk.lt
          have HBW : Hid (Below w.heap.size w wr) := H2.out.2.1.trans (HR.out.2.2.2.mono H2.out.2.1.size)
          have HBK := Lib.hid hbk
          have hW00 : wo.heap.size ≤ wr.heap.size := HR.out.2.2.2.size
          clear hbk
          by_cases hlt : i2 < n'' ∧ i2 < 6
          · have hiI : (i2 : Int) < (n'' : Int) := by omega
            have hiJ : (i2 : Int) < 6 := by omega
            obtain ⟨bx, ox, hx, rfl, hbx, hcx, hx0, hx1⟩ := ints_get (HX2.out.below stays_int HBW.out HBW.out.size) hlt.1
            generalize xs''[i2] = x at hcx hx0 hx1
            have HC := Lib.hid (clauseOf_any x (n3 : Int) wr.drew ⟨hx0, hx1⟩ (by omega) (by omega))
            clear hbx hx hx0 hx1 hlt
            go_wp2_with fail
            go_region_law (first
              | (refine step_append_item (by rfl) _ _ _ (by rfl) rowDeeds tells_term (v := (.slice A5 LL.length c5)) (xs := LL) (base := wo.heap.size) (S := SD (w3.alloc (.cells #[.int .i64 3, .slice A3k ks.length c3k] 47)) (.slice A5 LL.length c5)) (by rfl) (.inl HOY.out) (g := w3.heap.size) (cs := #[.int .i64 3, .slice A3k ks.length c3k]) (by rfl) HBN.out (y := ⟨3, ks⟩) HVY.out (fun b h => h) (by unfold maxLen; omega) (by omega) hW0 ?_
                 intro g' cap w8 hown6 hgrow6 hat6 hlt6
                 have HB8 := Lib.hid (And.intro (own_stepD tells_term hown6 hgrow6 (hat6.elim (fun h => .inl h.symm) (fun h => .inr (congrArg some h)))) (below_then HBY.out hgrow6 hW0 (fun x hx => (HOY.out.lt x hx).1)))
                 clear hown6 hgrow6 hat6)
              | (go_simp
                 go_at_call 14
                 refine HC.out.mono ?_
                 rintro e w3 ⟨v3, ks, rfl, hown, hlits, hb3'⟩
                 have hb3 : Below wr.heap.size wr w3 := ((Below.refl wr.heap.size wr).drew).trans hb3'
                 have hol := hown.lt
                 obtain ⟨A3k, c3k, rfl, hc3, hc3m, h3⟩ := OwnV.reads (E := AtInt) tells_int (fun _ _ _ _ _ h => atV_int.1 h) hown (S' := fun b => wr.heap.size ≤ b ∧ b < w3.heap.size) (fun b h => False.elim h) (fun g hg => hol g hg)
                 have hbY : Below w3.heap.size w3 (w3.alloc (.cells #[.int .i64 3, .slice A3k ks.length c3k] 47)) := (Below.refl _ _).alloc (Nat.le_refl _) _
                 have hbY2 := hb3.trans (hbY.mono hb3.size)
                 have HOY : Hid (OwnE (w3.alloc (.cells #[.int .i64 3, .slice A3k ks.length c3k] 47)) wo.heap.size (.slice A5 LL.length c5) LL) := HR.out.2.2.1.later hbY2
                 have HBN := Lib.hid (Blk.new w3 47 #[.int .i64 3, .slice A3k ks.length c3k])
                 have HVY : Hid (VTerm (w3.alloc (.cells #[.int .i64 3, .slice A3k ks.length c3k] 47)) (SD (w3.alloc (.cells #[.int .i64 3, .slice A3k ks.length c3k] 47)) (.slice A5 LL.length c5)) [.int .i64 3, .slice A3k ks.length c3k] ⟨3, ks⟩) := ⟨_, _, _, rfl, ⟨by show _ ≤ (3 : Int); omega, by show (3 : Int) ≤ _; omega⟩, hc3, hc3m, h3.keep stays_int (fun b hb => ⟨Nat.lt_of_lt_of_le hb.2 hbY.size, fun e => by have := (HR.out.2.2.1.lt b e).2; omega⟩) (fun b o hb => hbY.cell (p := ⟨b, o, none⟩) hb.2)⟩
                 have HBY : Hid (Below wo.heap.size wo (w3.alloc (.cells #[.int .i64 3, .slice A3k ks.length c3k] 47))) := HR.out.2.2.2.trans (hbY2.mono HR.out.2.2.2.size)
                 have hW0 : wo.heap.size ≤ (w3.alloc (.cells #[.int .i64 3, .slice A3k ks.length c3k] 47)).heap.size := HBY.out.size
                 have HLI := Lib.hid hlits
                 have yk3 : w3.cell? ⟨w1.heap.size, 2, none⟩ = some (.slice A3 n3 c3) := (hb3.cell (p := ⟨w1.heap.size, 2, none⟩) zk).trans yk
                 have zk3 : w1.heap.size < w3.heap.size := Nat.lt_of_lt_of_le zk hb3.size
                 clear hol h3 hown hlits hb3 hb3' hbY hbY2 hc3 hc3m)
              | fail)
            all_goals
              go_wp2_with fail
              go_roundw
              case rel =>
                have e : [] ++ [⟨1, []⟩] ++ ((cs ++ [ks]).map fun c => (⟨3, c⟩ : TermD)) = LL ++ [⟨3, ks⟩] := by rw [← HLL.out]; simp
                refine ⟨i2 + 1, cs ++ [ks], by go_num, by omega, by have := HR.out.1; simp; omega, fun c hc => ?_, ?_, HB8.out.2⟩
                · rcases List.mem_append.1 hc with hc | hc
                  · exact HR.out.2.1 c hc
                  · rw [List.mem_singleton.1 hc]; exact HLI.out
                · rw [e]; exact HB8.out.1
              case measure => simp [intOf]; omega
          · obtain ⟨wb, rfl⟩ : ∃ wb : World, wb = wr := ⟨_, rfl⟩
            have hbY : Below wb.heap.size wb (wb.alloc (.cells #[.int .i64 2, .slice none 0 0] 47)) := (Below.refl _ _).alloc (Nat.le_refl _) _
            have HOY : Hid (OwnE (wb.alloc (.cells #[.int .i64 2, .slice none 0 0] 47)) wo.heap.size (.slice A5 LL.length c5) LL) := HR.out.2.2.1.later hbY
            have HBN := Lib.hid (Blk.new wb 47 #[.int .i64 2, .slice none 0 0])
            have HVY : Hid (VTerm (wb.alloc (.cells #[.int .i64 2, .slice none 0 0] 47)) (SD (wb.alloc (.cells #[.int .i64 2, .slice none 0 0] 47)) (.slice A5 LL.length c5)) [.int .i64 2, .slice none 0 0] ⟨2, []⟩) := ⟨none, 0, 0, rfl, ⟨by decide, by decide⟩, Nat.le_refl _, Nat.zero_le _, Arr.nil_⟩
            have HBY : Hid (Below wo.heap.size wo (wb.alloc (.cells #[.int .i64 2, .slice none 0 0] 47))) := HR.out.2.2.2.trans (hbY.mono HR.out.2.2.2.size)
            have HBKY : Hid (Blk (wb.alloc (.cells #[.int .i64 2, .slice none 0 0] 47)) w1.heap.size 27 #[.slice A1 n1 c1, .slice A2 n2 c2, .slice A3 n3 c3, .slice A4 n4 c4]) := HBK.out.below hbY zk
            have hW0 : wo.heap.size ≤ (wb.alloc (.cells #[.int .i64 2, .slice none 0 0] 47)).heap.size := HBY.out.size
            have HZ0 : Hid (w1.heap.size < wo.heap.size) := H2.out.2.2.1.lt
            have HPOP : Hid (∃ r last, playRes F [] = ((0, 0), r, last) ∧ playRes F (LL ++ [⟨2, []⟩]) = ((0, 0), r, last)) := by
              have h7 := H2.out.2.2.2.2.2.2
              have h1 := popped (F := F) (k := 5) H2.out.2.2.2.1 (by omega) (l := []) (d := 0) (by rw [h7]; exact HL.out.2.1) (by rw [HL.out.2.2]; exact hnn) hdd (cs := cs) (by rw [h7]; exact HR.out.2.1) (by have := HR.out.1; omega)
              rw [HLL.out] at h1
              exact h1
            have HWD : Hid (∀ x ∈ LL ++ [(⟨2, []⟩ : TermD)], x.kids.length * 8 ≤ 140737488355328) := fun x hx => by
              rw [← HLL.out] at hx
              rcases List.mem_append.1 hx with hx | hx
              · rcases List.mem_append.1 hx with hx | hx
                · rcases List.mem_append.1 hx with hx | hx
                  · exact HL.out.2.1.wide x hx
                  · rw [List.mem_singleton.1 hx]; simp
                · obtain ⟨k, hk, rfl⟩ := List.mem_map.1 hx
                  have := (HR.out.2.1 k hk).len
                  dsimp only
                  omega
              · rw [List.mem_singleton.1 hx]; simp
            have HX : Hid (i2 < n'' → ¬ i2 < 6) := fun h1 h2 => hlt ⟨h1, h2⟩
            clear hbY hlt yk
            by_cases hx : i2 < n''
            case' pos =>
              have hiI : (i2 : Int) < (n'' : Int) := by omega
              have hiJ : ¬ (i2 : Int) < 6 := by have := HX.out hx; omega
              go_upto_region 18 with fail
            case' neg =>
              have hiI : ¬ (i2 : Int) < (n'' : Int) := by omega
              go_upto_region 18 with fail
            all_goals
              go_wp2_with (first
                | (at_builtin; refine wpList_append_item rfl _ _ _ rfl rowDeeds tells_term (v := (.slice A5 LL.length c5)) (xs := LL) (base := wo.heap.size) (S := SD (wb.alloc (.cells #[.int .i64 2, .slice none 0 0] 47)) (.slice A5 LL.length c5)) rfl HOY.out (g := wb.heap.size) (cs := #[.int .i64 2, .slice none 0 0]) rfl HBN.out (y := ⟨2, []⟩) HVY.out (fun b h => h) (by unfold maxLen; omega) (by omega) hW0 ?_; intro v9 w9 hown9 hgrow9 hat9; obtain ⟨A9, c9, rfl, hc9, hc9m⟩ := hown9.len; (have hbk9 : Blk w9 w1.heap.size 27 #[.slice A1 n1 c1, .slice A2 n2 c2, .slice A3 n3 c3, .slice A4 n4 c4] := HBKY.out.grown hgrow9 (fun e => by have := (HOY.out.lt _ e.symm).1; have := HZ0.out; omega)); (have y0 : w9.cell? ⟨w1.heap.size, 0, none⟩ = some (.slice A1 n1 c1) := hbk9.cell 0); (have y1 : w9.cell? ⟨w1.heap.size, 1, none⟩ = some (.slice A2 n2 c2) := hbk9.cell 1); (have y2 : w9.cell? ⟨w1.heap.size, 2, none⟩ = some (.slice A3 n3 c3) := hbk9.cell 2); (have y3 : w9.cell? ⟨w1.heap.size, 3, none⟩ = some (.slice A4 n4 c4) := hbk9.cell 3); (have z9 := hbk9.lt); have HB9 := Lib.hid (And.intro (own_stepD tells_term hown9 hgrow9 hat9) (And.intro (below_then HBY.out hgrow9 hW0 (fun x hx => (HOY.out.lt x hx).1)) hbk9)); clear hown9 hgrow9 hat9 hbk9 hc9 hc9m)
                | fail)
              have hF9 := H2.out.1.below (HB9.out.2.1) HB9.out.2.1.size
              have hL9 := ArrB.below HL.out.1 stays_term HB9.out.2.1 HB9.out.2.1.size
              have hbw9 := H2.out.2.1.trans (HB9.out.2.1.mono H2.out.2.1.size)
              have hb9 : ArrB AtTerm 2 w9 w9.heap.size A9 (LL.length + 1) (LL ++ [⟨2, []⟩]) := by
                have hlt9 := HB9.out.1.lt
                obtain ⟨Ax, cx, hex, -, -, hax⟩ := OwnV.reads (E := AtTerm) tells_term (fun _ _ _ _ _ h => atV_term h) HB9.out.1 (S' := fun b => b < w9.heap.size) (fun b hb => hb.1) (fun g hg => (hlt9 g hg).2)
                injection hex with hex1
                rw [hex1]
                rw [List.length_append, List.length_singleton] at hax
                exact hax
              obtain ⟨r, last, hp1, hp2⟩ := HPOP.out
              have HLF := left_any A1 A2 A3 A4 n1 c1 n2 c2 n3 c3 n4 c4 F none 0 0 [] w9 hF9 hL9 (by omega) H2.out.2.2.2.2.1 H2.out.2.2.2.2.2.1 HL.out.2.1.wide
              rw [hp1] at HLF
              have HK9 := Lib.hid (And.intro hF9 (And.intro hb9 (And.intro hbw9 hp2)))
              clear hF9 hL9 hbw9 hb9 hp1 hp2
              refine HLF.mono ?_
              rintro e wA (⟨-, B1, B2, B3, B4, m1, d1, m2, d2, m3, d3, m4, d4, rfl, hG, hbA⟩ | ⟨hno, -⟩)
              rotate_left
              · exact absurd rfl hno
              obtain rfl : n1 = m1 := Eq.symm <| hG.terms.len.symm.trans HK9.out.1.terms.len
              obtain rfl : n2 = m2 := Eq.symm <| hG.ints.len.symm.trans HK9.out.1.ints.len
              obtain rfl : n3 = m3 := Eq.symm <| hG.atoms.len.symm.trans HK9.out.1.atoms.len
              obtain ⟨hb0, hk0, hf0, hs0⟩ := two_boxes wA 27 29 #[.slice B1 n1 d1, .slice B2 n2 d2, .slice B3 n3 d3, .slice B4 m4 d4] #[.int .i64 0, .int .i64 0]
              obtain ⟨X10, hX⟩ : ∃ X, (wA.alloc (.cells #[.slice B1 n1 d1, .slice B2 n2 d2, .slice B3 n3 d3, .slice B4 m4 d4] 27)).alloc (.cells #[.int .i64 0, .int .i64 0] 29) = X := ⟨_, rfl⟩
              rw [hX] at hb0 hk0 hf0 hs0
              have HX10e := Lib.hid hX
              clear hX hs0
              have hbX := hbA.trans (hb0.mono hbA.size)
              have HLF2 := Lib.hid (left_any A1 A2 A3 A4 n1 c1 n2 c2 n3 c3 n4 c4 F A9 (LL.length + 1) c9 (LL ++ [⟨2, []⟩]) X10 (HK9.out.1.below hbX hbX.size) (ArrB.below HK9.out.2.1 stays_term hbX hbX.size) (by omega) H2.out.2.2.2.2.1 H2.out.2.2.2.2.2.1 HWD.out)
              rw [HK9.out.2.2.2] at HLF2
              have hbkX := HB9.out.2.2.below hbX z9
              have e0 : X10.cell? ⟨w1.heap.size, 0, none⟩ = some (.slice A1 n1 c1) := hbkX.cell 0
              have e1 : X10.cell? ⟨w1.heap.size, 1, none⟩ = some (.slice A2 n2 c2) := hbkX.cell 1
              have e2 : X10.cell? ⟨w1.heap.size, 2, none⟩ = some (.slice A3 n3 c3) := hbkX.cell 2
              have e3 : X10.cell? ⟨w1.heap.size, 3, none⟩ = some (.slice A4 n4 c4) := hbkX.cell 3
              have zX := hbkX.lt
              have HK10 := Lib.hid (And.intro (hG.below hb0 hb0.size) (And.intro hk0 (And.intro hf0 (And.intro hbkX (HK9.out.2.2.1.trans (hbX.mono HK9.out.2.2.1.size))))))
              clear hb0 hk0 hf0 hbX hbkX hG hbA HK9 y0 y1 y2 y3 HB9 HPOP HWD HL HLL HR
              go_upto_region 20 with fail
              rw [HX10e.out]
              clear HX10e
              go_wp2_with fail
              refine HLF2.out.mono ?_
              rintro e wC (⟨-, C1, C2, C3, C4, k1, g1, k2, g2, k3, g3, k4, g4, rfl, hG2, hbC⟩ | ⟨hno, -⟩)
              rotate_left
              · exact absurd rfl hno
              obtain rfl : n1 = k1 := HK10.out.1.terms.len.symm.trans hG2.terms.len
              obtain rfl : n2 = k2 := HK10.out.1.ints.len.symm.trans hG2.ints.len
              obtain rfl : n3 = k3 := HK10.out.1.atoms.len.symm.trans hG2.atoms.len
              obtain rfl : m4 = k4 := HK10.out.1.clauses.len.symm.trans hG2.clauses.len
              obtain ⟨hb0, hk0, hf0, hs0⟩ := two_boxes wC 27 29 #[.slice C1 n1 g1, .slice C2 n2 g2, .slice C3 n3 g3, .slice C4 m4 g4] #[.int .i64 0, .int .i64 0]
              obtain ⟨X11, hX⟩ : ∃ X, (wC.alloc (.cells #[.slice C1 n1 g1, .slice C2 n2 g2, .slice C3 n3 g3, .slice C4 m4 g4] 27)).alloc (.cells #[.int .i64 0, .int .i64 0] 29) = X := ⟨_, rfl⟩
              rw [hX] at hb0 hk0 hf0 hs0
              have HX11e := Lib.hid hX
              clear hX hs0
              have hbX := hbC.trans (hb0.mono hbC.size)
              have HS := Lib.hid (sameForm_any B1 B2 B3 B4 n1 d1 n2 d2 n3 d3 m4 d4 C1 C2 C3 C4 g1 g2 g3 g4 _ X11 (HK10.out.1.below hbX hbX.size) (hG2.below hb0 hb0.size))
              have hkB := HK10.out.2.1.below hbX HK10.out.2.1.lt
              have hfB := HK10.out.2.2.1.below hbX HK10.out.2.2.1.lt
              have hbkX := HK10.out.2.2.2.1.below hbX HK10.out.2.2.2.1.lt
              have s0 : X11.cell? ⟨wA.heap.size, 0, none⟩ = some (.slice B1 n1 d1) := hkB.cell 0
              have s1 : X11.cell? ⟨wA.heap.size, 1, none⟩ = some (.slice B2 n2 d2) := hkB.cell 1
              have s2 : X11.cell? ⟨wA.heap.size, 2, none⟩ = some (.slice B3 n3 d3) := hkB.cell 2
              have s3 : X11.cell? ⟨wA.heap.size, 3, none⟩ = some (.slice B4 m4 d4) := hkB.cell 3
              have t0 : X11.cell? ⟨wC.heap.size, 0, none⟩ = some (.slice C1 n1 g1) := hk0.cell 0
              have t1 : X11.cell? ⟨wC.heap.size, 1, none⟩ = some (.slice C2 n2 g2) := hk0.cell 1
              have t2 : X11.cell? ⟨wC.heap.size, 2, none⟩ = some (.slice C3 n3 g3) := hk0.cell 2
              have t3 : X11.cell? ⟨wC.heap.size, 3, none⟩ = some (.slice C4 m4 g4) := hk0.cell 3
              have q0 : X11.cell? ⟨wA.heap.size + 1, 0, none⟩ = some (.int .i64 0) := hfB.cell 0
              have q1 : X11.cell? ⟨wC.heap.size + 1, 0, none⟩ = some (.int .i64 0) := hf0.cell 0
              have q2 : X11.cell? ⟨w1.heap.size, 2, none⟩ = some (.slice A3 n3 c3) := hbkX.cell 2
              have z1 := hkB.lt
              have z2 := hfB.lt
              have z3 := hk0.lt
              have z4 := hf0.lt
              have z5 := hbkX.lt
              have HE : Hid (Below w.heap.size w X11) := HK10.out.2.2.2.2.trans (hbX.mono HK10.out.2.2.2.2.size)
              clear hb0 hk0 hf0 hbX hbkX hkB hfB hG2 hbC HK10 HLF2 e0 e1 e2 e3
              go_upto_region 21 with fail
              rw [HX11e.out]
              clear HX11e
              go_wp2_with fail
              refine HS.out.mono ?_
              rintro e wE ⟨rfl, hbE⟩
              have HEE := Lib.hid (HE.out.trans (hbE.mono HE.out.size))
              clear hbE
              go_wp2_with fail
              go_ret
              exact ⟨rfl, HEE.out⟩
      · have h20I : ¬ (20 : Int) ≤ (d : Int) := by omega
        have HL := HAR
        have hnn : i ≤ 20 := hnn0
        have hdd : d < 20 := by omega
        clear HAR
        go_upto_region 13 with fail
        go_wp2_with (first
          | (at_builtin; refine wpList_append_many rfl _ _ _ rfl rowDeeds tells_term (base := wo.heap.size) (S := fun b => b < wo.heap.size) (v := .slice none 0 0) (xs := []) rfl (OwnV.none_ _ _ _ _ _ _) (fun _ _ _ _ _ h => term_atV h) (A := A8) (m := i) (c := c8) rfl HL.out.1 (fun b hb => ⟨hb, by simp [Value.ownBlock]⟩) (by simp only [List.length_nil]; unfold maxLen; omega) (by simp only [List.length_nil]; omega) (Nat.le_refl _) ?_; intro v6 w6 hown6 hgrow6 hat6; rw [List.nil_append] at hown6; obtain ⟨A6, c6, rfl, hc6, hc6m⟩ := hown6.len; have HB6 := Lib.hid (item_step hown6 hgrow6); have hz6 := hgrow6.size; (have hlen6 : (ds : List TermD).length ≤ 20 := by rw [HL.out.2.2]; exact hnn); clear hown6 hgrow6 hat6)
          | (at_builtin; refine wpList_append_item rfl _ _ _ rfl rowDeeds tells_term (v := .slice A6 (ds : List TermD).length c6) (xs := ds) (base := wo.heap.size) (S := SD (w6.alloc (.cells #[.int .i64 1, .slice none 0 0] 47)) (.slice A6 (ds : List TermD).length c6)) rfl HB6.out.1 (g := w6.heap.size) (cs := #[.int .i64 1, .slice none 0 0]) rfl HB6.out.2.1 (y := ⟨1, []⟩) HB6.out.2.2.1 (fun b h => h) (by unfold maxLen; omega) (by omega) (by simp; omega) ?_; intro v7 w7 hown7 hgrow7 hat7; have HB7 := Lib.hid (And.intro (own_stepD tells_term hown7 hgrow7 hat7) (below_then HB6.out.2.2.2 hgrow7 (by simp; omega) (fun x hx => (HB6.out.1.lt x hx).1))); clear hown7 hgrow7 hat7)
          | fail)
        clear hz6 hlen6 HB6 hc6 hc6m
        go_loopw [11, 12] (fun s11 s12 wr => ∃ (i2 : Nat) (cs : List (List Int)), s12 = .int .i64 (i2 : Int) ∧ i2 ≤ 6 ∧ Hid (cs.length ≤ i2 ∧ (∀ c ∈ cs, Lits (n3 : Int) c) ∧ OwnE wr wo.heap.size s11 (ds ++ [⟨1, []⟩] ++ cs.map fun c => ⟨3, c⟩) ∧ Below wo.heap.size wo wr)) (fun _ s12 _ => 6 - (intOf s12).toNat)
        case atStart => exact ⟨0, [], rfl, by omega, Nat.le_refl _, fun c h => by simp at h, by simpa using HB7.out.1, HB7.out.2⟩
        case round =>
          clear HB7
          obtain ⟨i2, cs, rfl, hi2, HR⟩ := hrel
          obtain ⟨A5, c5, rfl, -, -⟩ := HR.out.2.2.1.len
          obtain ⟨LL, hLL⟩ : ∃ LL : List TermD, ds ++ [⟨1, []⟩] ++ (cs.map fun c => (⟨3, c⟩ : TermD)) = LL := ⟨_, rfl⟩
          have hLLl : LL.length ≤ 27 := by
            rw [← hLL]
            have := HL.out.2.2
            have := HR.out.1
            simp only [List.length_append, List.length_cons, List.length_nil, List.length_map] at *
            omega
          rw [hLL] at HR ⊢
          have HLL := Lib.hid hLL
          clear hLL
          have hbk := H2.out.2.2.1.below HR.out.2.2.2 H2.out.2.2.1.lt
          have yk : wr.cell? ⟨w1.heap.size, 2, none⟩ = some (.slice A3 n3 c3) := hbk.cell 2
          have zk := hbk.lt
          have HBW : Hid (Below w.heap.size w wr) := H2.out.2.1.trans (HR.out.2.2.2.mono H2.out.2.1.size)
          have HBK := Lib.hid hbk
          have hW00 : wo.heap.size ≤ wr.heap.size := HR.out.2.2.2.size
          clear hbk
          by_cases hlt : i2 < n'' ∧ i2 < 6
          · have hiI : (i2 : Int) < (n'' : Int) := by omega
            have hiJ : (i2 : Int) < 6 := by omega
            obtain ⟨bx, ox, hx, rfl, hbx, hcx, hx0, hx1⟩ := ints_get (HX2.out.below stays_int HBW.out HBW.out.size) hlt.1
            generalize xs''[i2] = x at hcx hx0 hx1
            have HC := Lib.hid (clauseOf_any x (n3 : Int) wr.drew ⟨hx0, hx1⟩ (by omega) (by omega))
            clear hbx hx hx0 hx1 hlt
            go_wp2_with fail
            go_region_law (first
              | (refine step_append_item (by rfl) _ _ _ (by rfl) rowDeeds tells_term (v := (.slice A5 LL.length c5)) (xs := LL) (base := wo.heap.size) (S := SD (w3.alloc (.cells #[.int .i64 3, .slice A3k ks.length c3k] 47)) (.slice A5 LL.length c5)) (by rfl) (.inl HOY.out) (g := w3.heap.size) (cs := #[.int .i64 3, .slice A3k ks.length c3k]) (by rfl) HBN.out (y := ⟨3, ks⟩) HVY.out (fun b h => h) (by unfold maxLen; omega) (by omega) hW0 ?_
                 intro g' cap w8 hown6 hgrow6 hat6 hlt6
                 have HB8 := Lib.hid (And.intro (own_stepD tells_term hown6 hgrow6 (hat6.elim (fun h => .inl h.symm) (fun h => .inr (congrArg some h)))) (below_then HBY.out hgrow6 hW0 (fun x hx => (HOY.out.lt x hx).1)))
                 clear hown6 hgrow6 hat6)
              | (go_simp
                 go_at_call 14
                 refine HC.out.mono ?_
                 rintro e w3 ⟨v3, ks, rfl, hown, hlits, hb3'⟩
                 have hb3 : Below wr.heap.size wr w3 := ((Below.refl wr.heap.size wr).drew).trans hb3'
                 have hol := hown.lt
                 obtain ⟨A3k, c3k, rfl, hc3, hc3m, h3⟩ := OwnV.reads (E := AtInt) tells_int (fun _ _ _ _ _ h => atV_int.1 h) hown (S' := fun b => wr.heap.size ≤ b ∧ b < w3.heap.size) (fun b h => False.elim h) (fun g hg => hol g hg)
                 have hbY : Below w3.heap.size w3 (w3.alloc (.cells #[.int .i64 3, .slice A3k ks.length c3k] 47)) := (Below.refl _ _).alloc (Nat.le_refl _) _
                 have hbY2 := hb3.trans (hbY.mono hb3.size)
                 have HOY : Hid (OwnE (w3.alloc (.cells #[.int .i64 3, .slice A3k ks.length c3k] 47)) wo.heap.size (.slice A5 LL.length c5) LL) := HR.out.2.2.1.later hbY2
                 have HBN := Lib.hid (Blk.new w3 47 #[.int .i64 3, .slice A3k ks.length c3k])
                 have HVY : Hid (VTerm (w3.alloc (.cells #[.int .i64 3, .slice A3k ks.length c3k] 47)) (SD (w3.alloc (.cells #[.int .i64 3, .slice A3k ks.length c3k] 47)) (.slice A5 LL.length c5)) [.int .i64 3, .slice A3k ks.length c3k] ⟨3, ks⟩) := ⟨_, _, _, rfl, ⟨by show _ ≤ (3 : Int); omega, by show (3 : Int) ≤ _; omega⟩, hc3, hc3m, h3.keep stays_int (fun b hb => ⟨Nat.lt_of_lt_of_le hb.2 hbY.size, fun e => by have := (HR.out.2.2.1.lt b e).2; omega⟩) (fun b o hb => hbY.cell (p := ⟨b, o, none⟩) hb.2)⟩
                 have HBY : Hid (Below wo.heap.size wo (w3.alloc (.cells #[.int .i64 3, .slice A3k ks.length c3k] 47))) := HR.out.2.2.2.trans (hbY2.mono HR.out.2.2.2.size)
                 have hW0 : wo.heap.size ≤ (w3.alloc (.cells #[.int .i64 3, .slice A3k ks.length c3k] 47)).heap.size := HBY.out.size
                 have HLI := Lib.hid hlits
                 have yk3 : w3.cell? ⟨w1.heap.size, 2, none⟩ = some (.slice A3 n3 c3) := (hb3.cell (p := ⟨w1.heap.size, 2, none⟩) zk).trans yk
                 have zk3 : w1.heap.size < w3.heap.size := Nat.lt_of_lt_of_le zk hb3.size
                 clear hol h3 hown hlits hb3 hb3' hbY hbY2 hc3 hc3m)
              | fail)
            all_goals
              go_wp2_with fail
              go_roundw
              case rel =>
                have e : ds ++ [⟨1, []⟩] ++ ((cs ++ [ks]).map fun c => (⟨3, c⟩ : TermD)) = LL ++ [⟨3, ks⟩] := by rw [← HLL.out]; simp
                refine ⟨i2 + 1, cs ++ [ks], by go_num, by omega, by have := HR.out.1; simp; omega, fun c hc => ?_, ?_, HB8.out.2⟩
                · rcases List.mem_append.1 hc with hc | hc
                  · exact HR.out.2.1 c hc
                  · rw [List.mem_singleton.1 hc]; exact HLI.out
                · rw [e]; exact HB8.out.1
              case measure => simp [intOf]; omega
          · obtain ⟨wb, rfl⟩ : ∃ wb : World, wb = wr := ⟨_, rfl⟩
            have hbY : Below wb.heap.size wb (wb.alloc (.cells #[.int .i64 2, .slice none 0 0] 47)) := (Below.refl _ _).alloc (Nat.le_refl _) _
            have HOY : Hid (OwnE (wb.alloc (.cells #[.int .i64 2, .slice none 0 0] 47)) wo.heap.size (.slice A5 LL.length c5) LL) := HR.out.2.2.1.later hbY
            have HBN := Lib.hid (Blk.new wb 47 #[.int .i64 2, .slice none 0 0])
            have HVY : Hid (VTerm (wb.alloc (.cells #[.int .i64 2, .slice none 0 0] 47)) (SD (wb.alloc (.cells #[.int .i64 2, .slice none 0 0] 47)) (.slice A5 LL.length c5)) [.int .i64 2, .slice none 0 0] ⟨2, []⟩) := ⟨none, 0, 0, rfl, ⟨by decide, by decide⟩, Nat.le_refl _, Nat.zero_le _, Arr.nil_⟩
            have HBY : Hid (Below wo.heap.size wo (wb.alloc (.cells #[.int .i64 2, .slice none 0 0] 47))) := HR.out.2.2.2.trans (hbY.mono HR.out.2.2.2.size)
            have HBKY : Hid (Blk (wb.alloc (.cells #[.int .i64 2, .slice none 0 0] 47)) w1.heap.size 27 #[.slice A1 n1 c1, .slice A2 n2 c2, .slice A3 n3 c3, .slice A4 n4 c4]) := HBK.out.below hbY zk
            have hW0 : wo.heap.size ≤ (wb.alloc (.cells #[.int .i64 2, .slice none 0 0] 47)).heap.size := HBY.out.size
            have HZ0 : Hid (w1.heap.size < wo.heap.size) := H2.out.2.2.1.lt
            have HPOP : Hid (∃ r last, playRes F ds = ((0, 0), r, last) ∧ playRes F (LL ++ [⟨2, []⟩]) = ((0, 0), r, last)) := by
              have h7 := H2.out.2.2.2.2.2.2
              have h1 := popped (F := F) (k := 5) H2.out.2.2.2.1 (by omega) (l := ds) (d := d) (by rw [h7]; exact HL.out.2.1) (by rw [HL.out.2.2]; exact hnn) hdd (cs := cs) (by rw [h7]; exact HR.out.2.1) (by have := HR.out.1; omega)
              rw [HLL.out] at h1
              exact h1
            have HWD : Hid (∀ x ∈ LL ++ [(⟨2, []⟩ : TermD)], x.kids.length * 8 ≤ 140737488355328) := fun x hx => by
              rw [← HLL.out] at hx
              rcases List.mem_append.1 hx with hx | hx
              · rcases List.mem_append.1 hx with hx | hx
                · rcases List.mem_append.1 hx with hx | hx
                  · exact HL.out.2.1.wide x hx
                  · rw [List.mem_singleton.1 hx]; simp
                · obtain ⟨k, hk, rfl⟩ := List.mem_map.1 hx
                  have := (HR.out.2.1 k hk).len
                  dsimp only
                  omega
              · rw [List.mem_singleton.1 hx]; simp
            have HX : Hid (i2 < n'' → ¬ i2 < 6) := fun h1 h2 => hlt ⟨h1, h2⟩
            clear hbY hlt yk
            by_cases hx : i2 < n''
            case' pos =>
              have hiI : (i2 : Int) < (n'' : Int) := by omega
              have hiJ : ¬ (i2 : Int) < 6 := by have := HX.out hx; omega
              go_upto_region 18 with fail
            case' neg =>
              have hiI : ¬ (i2 : Int) < (n'' : Int) := by omega
              go_upto_region 18 with fail
            all_goals
              go_wp2_with (first
                | (at_builtin; refine wpList_append_item rfl _ _ _ rfl rowDeeds tells_term (v := (.slice A5 LL.length c5)) (xs := LL) (base := wo.heap.size) (S := SD (wb.alloc (.cells #[.int .i64 2, .slice none 0 0] 47)) (.slice A5 LL.length c5)) rfl HOY.out (g := wb.heap.size) (cs := #[.int .i64 2, .slice none 0 0]) rfl HBN.out (y := ⟨2, []⟩) HVY.out (fun b h => h) (by unfold maxLen; omega) (by omega) hW0 ?_; intro v9 w9 hown9 hgrow9 hat9; obtain ⟨A9, c9, rfl, hc9, hc9m⟩ := hown9.len; (have hbk9 : Blk w9 w1.heap.size 27 #[.slice A1 n1 c1, .slice A2 n2 c2, .slice A3 n3 c3, .slice A4 n4 c4] := HBKY.out.grown hgrow9 (fun e => by have := (HOY.out.lt _ e.symm).1; have := HZ0.out; omega)); (have y0 : w9.cell? ⟨w1.heap.size, 0, none⟩ = some (.slice A1 n1 c1) := hbk9.cell 0); (have y1 : w9.cell? ⟨w1.heap.size, 1, none⟩ = some (.slice A2 n2 c2) := hbk9.cell 1); (have y2 : w9.cell? ⟨w1.heap.size, 2, none⟩ = some (.slice A3 n3 c3) := hbk9.cell 2); (have y3 : w9.cell? ⟨w1.heap.size, 3, none⟩ = some (.slice A4 n4 c4) := hbk9.cell 3); (have z9 := hbk9.lt); have HB9 := Lib.hid (And.intro (own_stepD tells_term hown9 hgrow9 hat9) (And.intro (below_then HBY.out hgrow9 hW0 (fun x hx => (HOY.out.lt x hx).1)) hbk9)); clear hown9 hgrow9 hat9 hbk9 hc9 hc9m)
                | fail)
              have hF9 := H2.out.1.below (HB9.out.2.1) HB9.out.2.1.size
              have hL9 := ArrB.below HL.out.1 stays_term HB9.out.2.1 HB9.out.2.1.size
              have hbw9 := H2.out.2.1.trans (HB9.out.2.1.mono H2.out.2.1.size)
              have hb9 : ArrB AtTerm 2 w9 w9.heap.size A9 (LL.length + 1) (LL ++ [⟨2, []⟩]) := by
                have hlt9 := HB9.out.1.lt
                obtain ⟨Ax, cx, hex, -, -, hax⟩ := OwnV.reads (E := AtTerm) tells_term (fun _ _ _ _ _ h => atV_term h) HB9.out.1 (S' := fun b => b < w9.heap.size) (fun b hb => hb.1) (fun g hg => (hlt9 g hg).2)
                injection hex with hex1
                rw [hex1]
                rw [List.length_append, List.length_singleton] at hax
                exact hax
              obtain ⟨r, last, hp1, hp2⟩ := HPOP.out
              have HLF := left_any A1 A2 A3 A4 n1 c1 n2 c2 n3 c3 n4 c4 F A8 i c8 ds w9 hF9 hL9 (by omega) H2.out.2.2.2.2.1 H2.out.2.2.2.2.2.1 HL.out.2.1.wide
              rw [hp1] at HLF
              have HK9 := Lib.hid (And.intro hF9 (And.intro hb9 (And.intro hbw9 hp2)))
              clear hF9 hL9 hbw9 hb9 hp1 hp2
              refine HLF.mono ?_
              rintro e wA (⟨-, B1, B2, B3, B4, m1, d1, m2, d2, m3, d3, m4, d4, rfl, hG, hbA⟩ | ⟨hno, -⟩)
              rotate_left
              · exact absurd rfl hno
              obtain rfl : n1 = m1 := Eq.symm <| hG.terms.len.symm.trans HK9.out.1.terms.len
              obtain rfl : n2 = m2 := Eq.symm <| hG.ints.len.symm.trans HK9.out.1.ints.len
              obtain rfl : n3 = m3 := Eq.symm <| hG.atoms.len.symm.trans HK9.out.1.atoms.len
              obtain ⟨hb0, hk0, hf0, hs0⟩ := two_boxes wA 27 29 #[.slice B1 n1 d1, .slice B2 n2 d2, .slice B3 n3 d3, .slice B4 m4 d4] #[.int .i64 0, .int .i64 0]
              obtain ⟨X10, hX⟩ : ∃ X, (wA.alloc (.cells #[.slice B1 n1 d1, .slice B2 n2 d2, .slice B3 n3 d3, .slice B4 m4 d4] 27)).alloc (.cells #[.int .i64 0, .int .i64 0] 29) = X := ⟨_, rfl⟩
              rw [hX] at hb0 hk0 hf0 hs0
              have HX10e := Lib.hid hX
              clear hX hs0
              have hbX := hbA.trans (hb0.mono hbA.size)
              have HLF2 := Lib.hid (left_any A1 A2 A3 A4 n1 c1 n2 c2 n3 c3 n4 c4 F A9 (LL.length + 1) c9 (LL ++ [⟨2, []⟩]) X10 (HK9.out.1.below hbX hbX.size) (ArrB.below HK9.out.2.1 stays_term hbX hbX.size) (by omega) H2.out.2.2.2.2.1 H2.out.2.2.2.2.2.1 HWD.out)
              rw [HK9.out.2.2.2] at HLF2
              have hbkX := HB9.out.2.2.below hbX z9
              have e0 : X10.cell? ⟨w1.heap.size, 0, none⟩ = some (.slice A1 n1 c1) := hbkX.cell 0
              have e1 : X10.cell? ⟨w1.heap.size, 1, none⟩ = some (.slice A2 n2 c2) := hbkX.cell 1
              have e2 : X10.cell? ⟨w1.heap.size, 2, none⟩ = some (.slice A3 n3 c3) := hbkX.cell 2
              have e3 : X10.cell? ⟨w1.heap.size, 3, none⟩ = some (.slice A4 n4 c4) := hbkX.cell 3
              have zX := hbkX.lt
              have HK10 := Lib.hid (And.intro (hG.below hb0 hb0.size) (And.intro hk0 (And.intro hf0 (And.intro hbkX (HK9.out.2.2.1.trans (hbX.mono HK9.out.2.2.1.size))))))
              clear hb0 hk0 hf0 hbX hbkX hG hbA HK9 y0 y1 y2 y3 HB9 HPOP HWD HL HLL HR
              go_upto_region 20 with fail
              rw [HX10e.out]
              clear HX10e
              go_wp2_with fail
              refine HLF2.out.mono ?_
              rintro e wC (⟨-, C1, C2, C3, C4, k1, g1, k2, g2, k3, g3, k4, g4, rfl, hG2, hbC⟩ | ⟨hno, -⟩)
              rotate_left
              · exact absurd rfl hno
              obtain rfl : n1 = k1 := HK10.out.1.terms.len.symm.trans hG2.terms.len
              obtain rfl : n2 = k2 := HK10.out.1.ints.len.symm.trans hG2.ints.len
              obtain rfl : n3 = k3 := HK10.out.1.atoms.len.symm.trans hG2.atoms.len
              obtain rfl : m4 = k4 := HK10.out.1.clauses.len.symm.trans hG2.clauses.len
              obtain ⟨hb0, hk0, hf0, hs0⟩ := two_boxes wC 27 29 #[.slice C1 n1 g1, .slice C2 n2 g2, .slice C3 n3 g3, .slice C4 m4 g4] #[.int .i64 0, .int .i64 0]
              obtain ⟨X11, hX⟩ : ∃ X, (wC.alloc (.cells #[.slice C1 n1 g1, .slice C2 n2 g2, .slice C3 n3 g3, .slice C4 m4 g4] 27)).alloc (.cells #[.int .i64 0, .int .i64 0] 29) = X := ⟨_, rfl⟩
              rw [hX] at hb0 hk0 hf0 hs0
              have HX11e := Lib.hid hX
              clear hX hs0
              have hbX := hbC.trans (hb0.mono hbC.size)
              have HS := Lib.hid (sameForm_any B1 B2 B3 B4 n1 d1 n2 d2 n3 d3 m4 d4 C1 C2 C3 C4 g1 g2 g3 g4 _ X11 (HK10.out.1.below hbX hbX.size) (hG2.below hb0 hb0.size))
              have hkB := HK10.out.2.1.below hbX HK10.out.2.1.lt
              have hfB := HK10.out.2.2.1.below hbX HK10.out.2.2.1.lt
              have hbkX := HK10.out.2.2.2.1.below hbX HK10.out.2.2.2.1.lt
              have s0 : X11.cell? ⟨wA.heap.size, 0, none⟩ = some (.slice B1 n1 d1) := hkB.cell 0
              have s1 : X11.cell? ⟨wA.heap.size, 1, none⟩ = some (.slice B2 n2 d2) := hkB.cell 1
              have s2 : X11.cell? ⟨wA.heap.size, 2, none⟩ = some (.slice B3 n3 d3) := hkB.cell 2
              have s3 : X11.cell? ⟨wA.heap.size, 3, none⟩ = some (.slice B4 m4 d4) := hkB.cell 3
              have t0 : X11.cell? ⟨wC.heap.size, 0, none⟩ = some (.slice C1 n1 g1) := hk0.cell 0
              have t1 : X11.cell? ⟨wC.heap.size, 1, none⟩ = some (.slice C2 n2 g2) := hk0.cell 1
              have t2 : X11.cell? ⟨wC.heap.size, 2, none⟩ = some (.slice C3 n3 g3) := hk0.cell 2
              have t3 : X11.cell? ⟨wC.heap.size, 3, none⟩ = some (.slice C4 m4 g4) := hk0.cell 3
              have q0 : X11.cell? ⟨wA.heap.size + 1, 0, none⟩ = some (.int .i64 0) := hfB.cell 0
              have q1 : X11.cell? ⟨wC.heap.size + 1, 0, none⟩ = some (.int .i64 0) := hf0.cell 0
              have q2 : X11.cell? ⟨w1.heap.size, 2, none⟩ = some (.slice A3 n3 c3) := hbkX.cell 2
              have z1 := hkB.lt
              have z2 := hfB.lt
              have z3 := hk0.lt
              have z4 := hf0.lt
              have z5 := hbkX.lt
              have HE : Hid (Below w.heap.size w X11) := HK10.out.2.2.2.2.trans (hbX.mono HK10.out.2.2.2.2.size)
              clear hb0 hk0 hf0 hbX hbkX hkB hfB hG2 hbC HK10 HLF2 e0 e1 e2 e3
              go_upto_region 21 with fail
              rw [HX11e.out]
              clear HX11e
              go_wp2_with fail
              refine HS.out.mono ?_
              rintro e wE ⟨rfl, hbE⟩
              have HEE := Lib.hid (HE.out.trans (hbE.mono HE.out.size))
              clear hbE
              go_wp2_with fail
              go_ret
              exact ⟨rfl, HEE.out⟩
end Go.Proofs.Ytpceiifacendfaa
