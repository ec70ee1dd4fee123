/- Walk: a form that is made of raw numbers. -/
import Derived.Test.YtfkciiiopbanaaaKfB
import Derived.Test.YtfkciiiopbanaaaFrGJ
import Derived.Test.YtfkciiiopbanaaaFitsPC
import Derived.Deep.RegionLaw
import Derived.Deep.RegionHeld3
namespace Go.Proofs.Ytfkciiiopbanaaa
open Go.RowKit

def four (w : World) (g : Nat) (a b c d : Value) : World := (((w.setCell ⟨g, 0, none⟩ a).setCell ⟨g, 1, none⟩ b).setCell ⟨g, 2, none⟩ c).setCell ⟨g, 3, none⟩ d
theorem four_blk {w : World} {g : Nat} {t : TypeId} {a0 b0 c0 d0 : Value} (h : Blk w g t #[a0, b0, c0, d0]) (a b c d : Value) : Blk (four w g a b c d) g t #[a, b, c, d] := by
  have h1 : Blk (w.setCell ⟨g, 0, none⟩ a) g t #[a, b0, c0, d0] := h.set_ 0 a
  have h2 : Blk ((w.setCell ⟨g, 0, none⟩ a).setCell ⟨g, 1, none⟩ b) g t #[a, b, c0, d0] := h1.set_ 1 b
  have h3 : Blk (((w.setCell ⟨g, 0, none⟩ a).setCell ⟨g, 1, none⟩ b).setCell ⟨g, 2, none⟩ c) g t #[a, b, c, d0] := h2.set_ 2 c
  exact h3.set_ 3 d
theorem four_only (w : World) (g : Nat) (a b c d : Value) : w.grownBy (four w g a b c d) (some g) := one_only (one_only (one_only (one_only (only_refl _ _) 0 a) 1 b) 2 c) 3 d
theorem at_int (A : Option Addr) (n c : Nat) (xs : List Int) (i : Int) (w : World) (hxs : ArrB AtInt 1 w w.heap.size A n xs) (hn : n ≤ 9223372036854775807) (hi : 0 ≤ i) : Calls Try.prog 22 #[.slice A n c, .int .i64 i] w fun e w' => ∃ y : Int, e = .returned (.int .i64 y) ∧ w = w' ∧ I64 y := by
  obtain ⟨k, rfl⟩ := Int.eq_ofNat_of_zero_le hi
  exact (at_any A n c xs k (fun b => b < w.heap.size) w hxs hn).mono fun _ _ ⟨h1, h2⟩ => ⟨_, h1, h2, getD_i64 hxs k⟩
theorem kwrap_i64 (x : Int) : I64 (IntKind.i64.wrap x) := by rw [IntKind.wrap_i64]; unfold I64; omega
theorem karr_one {w : World} {S : Nat → Prop} {g : Nat} {t : TypeId} {p : Int} (h : Blk w g t #[.int .i64 p]) (hp : I64 p) (hS : S g) : Arr AtInt 1 w S (some ⟨g, 0, none⟩) 1 [p] :=
  ⟨rfl, fun i x hx => by
    rcases i with _ | i
    · simp only [List.getElem?_cons_zero, Option.some.injEq] at hx
      subst hx
      exact ⟨g, 0, rfl, hS, h.cell 0, hp⟩
    · simp at hx⟩
theorem karr_two {w : World} {S : Nat → Prop} {g : Nat} {t : TypeId} {p q : Int} (h : Blk w g t #[.int .i64 p, .int .i64 q]) (hp : I64 p) (hq : I64 q) (hS : S g) : Arr AtInt 1 w S (some ⟨g, 0, none⟩) 2 [p, q] :=
  ⟨rfl, fun i x hx => by
    rcases i with _ | _ | i
    · simp only [List.getElem?_cons_zero, Option.some.injEq] at hx
      subst hx
      exact ⟨g, 0, rfl, hS, h.cell 0, hp⟩
    · simp only [List.getElem?_cons_succ, List.getElem?_cons_zero, Option.some.injEq] at hx
      subst hx
      exact ⟨g, 0, rfl, hS, h.cell 1, hq⟩
    · simp at hx⟩
/-- a clause that was made, put into a row -/
theorem clause_item {α : Type} {V : Val α} {sz e : Nat} {W0 wr w3 : World} {G : Nat} {v v1 : Value} {xs : List α} {ks : List Int} (hV : Tells V sz) (hout : Out V e sz W0 wr G v1 xs) (hb1 : Below wr.heap.size wr w3) (hown : OwnC w3 wr.heap.size v ks) :
    ∃ A3 c3, v = .slice A3 ks.length c3 ∧ ks.length ≤ c3 ∧ c3 ≤ maxLen ∧ Out V e sz W0 w3 G v1 xs ∧ Arr AtInt 1 w3 (SO W0.heap.size w3 v1) A3 ks.length ks := by
  have hol := hown.lt
  obtain ⟨A3, c3, rfl, h1, h2, h3⟩ := OwnV.reads (E := AtInt) tells_int (fun _ _ _ _ _ h => atV_int.1 h) hown (S' := fun b => wr.heap.size ≤ b ∧ b < w3.heap.size) (fun b h => False.elim h) (fun g hg => hol g hg)
  have hlt := hout.own.lt
  have hz := hout.only.size
  exact ⟨A3, c3, rfl, h1, h2, hout.step hV hb1, h3.keep stays_int (fun b hb => ⟨by omega, hb.2, fun e => by have := (hlt b e).2; omega⟩) (fun _ _ _ => rfl)⟩
def KFormP (k : Nat) (w : World) (e : Ending) (w' : World) : Prop := ∃ (A1 A2 A3 A4 : Option Addr) (n1 c1 n2 c2 n3 c3 n4 c4 : Nat) (F : FormD), e = .returned (.agg #[.slice A1 n1 c1, .slice A2 n2 c2, .slice A3 n3 c3, .slice A4 n4 c4]) ∧
  FormB w' w'.heap.size A1 A2 A3 A4 n1 n2 n3 n4 F ∧ KForm k F ∧ n4 ≤ c4 ∧ c4 ≤ maxLen ∧ n1 ≤ c1 ∧ Below w.heap.size w w'
theorem KTerms.push {ts : List TermD} {t : TermD} {i : Nat} (h : ∀ (j : Nat) (t : TermD), ts[j]? = some t → KTerm j t) (hl : ts.length = i) (ht : KTerm i t) : ∀ (j : Nat) (u : TermD), (ts ++ [t])[j]? = some u → KTerm j u := fun j u hu => by
  rcases Nat.lt_trichotomy j i with hj | hj | hj
  · rw [List.getElem?_append_left (by omega)] at hu
    exact h j u hu
  · subst hj
    rw [List.getElem?_append_right (by omega), show j - ts.length = 0 by omega] at hu
    simp only [List.getElem?_cons_zero, Option.some.injEq] at hu
    rw [← hu]; exact ht
  · rw [List.getElem?_eq_none (by simp; omega)] at hu
    cases hu

set_option maxRecDepth 100000 in
set_option maxHeartbeats 8000000 in
theorem formOf_any (A : Option Addr) (n c : Nat) (xs : List Int) (m : Nat) (w : World) (hxs : ArrB AtInt 1 w w.heap.size A n xs) (hn : n ≤ 9223372036854775807) (hm : m ≤ 100) :
    Calls Try.prog 9 #[.slice A n c, .int .i64 (m : Int)] w (KFormP m w) := by
  have HAT := Lib.hid (fun (W : World) (i : Int) (hb : Below w.heap.size w W) (hi : 0 ≤ i) => at_int A n c xs i W (hxs.below stays_int hb hb.size) hn hi)
  have HXS := Lib.hid hxs
  have hbr : Below w.heap.size w (w.alloc (.cells #[.slice none 0 0, .slice none 0 0, .slice none 0 0, .slice none 0 0] 27)) := (Below.refl _ _).alloc (Nat.le_refl _) _
  have HBR := Lib.hid hbr
  clear hxs hbr
  go_enter Try.func9, Try.ntmps9
  go_wp2_with fail
  refine (HAT.out _ 0 HBR.out (Int.le_refl _)).mono ?_
  rintro e w9 ⟨y0, rfl, rfl, hy0⟩
  obtain ⟨hb0, hkr, hki, hkb, hs0⟩ := three_boxes w 27 4 27 #[.slice none 0 0, .slice none 0 0, .slice none 0 0, .slice none 0 0] #[.bool true, .bool (y0.tmod 2 == 0)] #[.slice none 0 0, .slice (some ⟨w.heap.size + 1, 0, none⟩) 2 2, .slice none 0 0, .slice none 0 0]
  obtain ⟨X0, hX0⟩ : ∃ X, ((w.alloc (.cells #[.slice none 0 0, .slice none 0 0, .slice none 0 0, .slice none 0 0] 27)).alloc (.cells #[.bool true, .bool (y0.tmod 2 == 0)] 4)).alloc (.cells #[.slice none 0 0, .slice (some ⟨w.heap.size + 1, 0, none⟩) 2 2, .slice none 0 0, .slice none 0 0] 27) = X := ⟨_, rfl⟩
  rw [hX0] at hb0 hkr hki hkb hs0
  have HX0 := Lib.hid hX0
  have H0 := Lib.hid (And.intro hb0 (And.intro hkr (And.intro hki hkb)))
  have hs0' : w.heap.size + 3 = X0.heap.size := hs0.symm
  clear hX0 hb0 hkr hki hkb hs0 HBR hy0
  go_upto_region 2 with fail
  rw [HX0.out]
  clear HX0
  go_wp2_with fail
  refine (HAT.out _ 1 H0.out.1 (by omega)).mono ?_
  rintro e w9 ⟨y1, rfl, rfl, hy1⟩
  go_wp2_with fail
  refine (picked_in y1 4 _ hy1 (by omega) (by omega)).mono ?_
  rintro e w9 ⟨p, rfl, rfl, p0, p1⟩
  clear hy1
  obtain ⟨T, hT⟩ : ∃ T : Nat, 2 + p = (T : Int) := ⟨(2 + p).toNat, by omega⟩
  have hT2 : 2 ≤ T := by omega
  have hT5 : T ≤ 5 := by omega
  go_upto_region 3 with fail

  clear hT p0 p1
  go_wp2_with fail
  go_loopw [7] (fun s7 wr => ∃ (i : Nat) (v1 : Value) (ts : List TermD), s7 = .int .i64 (i : Int) ∧ i ≤ T ∧ Hid (ts.length = i ∧ (∀ (j : Nat) (t : TermD), ts[j]? = some t → KTerm j t) ∧ Blk wr (w.heap.size + 1 + 1) 27 #[v1, .slice (some ⟨w.heap.size + 1, 0, none⟩) 2 2, .slice none 0 0, .slice none 0 0] ∧ Out VTerm 58 2 X0 wr (w.heap.size + 1 + 1) v1 ts)) (fun s7 _ => T - (intOf s7).toNat)
  case atStart => exact ⟨0, .slice none 0 0, [], rfl, Nat.zero_le _, rfl, fun j t h => by simp at h, H0.out.2.2.2, Out.start VTerm 58 2 X0 H0.out.2.2.2.lt⟩
  case round =>
    obtain ⟨i, v1, ts, rfl, hi, HR⟩ := hrel
    have hGw : (w.heap.size + 1 + 1) < wr.heap.size := HR.out.2.2.1.lt
    by_cases hlt : i < T
    · have hiI : (i : Int) < (T : Int) := by omega
      have hb1 : Below wr.heap.size wr (wr.alloc (.cells #[.int .i64 (i : Int), .slice none 0 0] 58)) := (Below.refl _ _).alloc (Nat.le_refl _) _
      have hk1 := Blk.new wr 58 #[.int .i64 (i : Int), .slice none 0 0]
      obtain ⟨X1, hX1⟩ : ∃ X, wr.alloc (.cells #[.int .i64 (i : Int), .slice none 0 0] 58) = X := ⟨_, rfl⟩
      rw [hX1] at hb1 hk1
      have HX1 := Lib.hid hX1
      have H1 := Lib.hid (And.intro hb1 hk1)
      have m0 := hk1.cell 0
      have m1 := hk1.cell 1
      simp only [List.getElem?_toArray, List.getElem?_cons_zero, List.getElem?_cons_succ] at m0 m1
      have zk := hk1.lt
      clear hX1 hb1 hk1
      by_cases h2 : 2 ≤ i
      · have h2I : (2 : Int) ≤ (i : Int) := by omega
        have f0 := H1.out.2.frozen 0
        have f1 := H1.out.2.frozen 1
        have hin : ((i : Int) == 0) = false := by rw [beq_eq_false_iff_ne]; omega
        go_upto_region 7 with fail
        rw [HX1.out]
        clear HX1
        go_wp2_with fail
        refine (HAT.out _ (i : Int) (below_then H0.out.1 (only_then HR.out.2.2.2.only (only_of_below H1.out.1 none) (fun x hx => by cases hx)) (by omega) (fun x hx => by injection hx; omega)) (by omega)).mono ?_
        rintro e w9 ⟨y, rfl, rfl, hy⟩
        go_wp2_with fail
        refine (picked_in y (i : Int) _ hy (by omega) (by omega)).mono ?_
        rintro e w9 ⟨p, rfl, rfl, p0, p1⟩
        clear hy
        obtain ⟨q, rfl⟩ := Int.eq_ofNat_of_zero_le p0
        obtain ⟨X2, hX2⟩ : ∃ X, ((X1.setCell ⟨wr.heap.size, 0, none⟩ (.int .i64 7)).setCell ⟨wr.heap.size, 1, none⟩ (.slice (some ⟨X1.heap.size, 0, none⟩) 1 1)).alloc (.cells #[.int .i64 (q : Int)] 3) = X := ⟨_, rfl⟩
        have HX2 := Lib.hid hX2
        go_upto_region 9 with fail
        clear hX2 m0 m1 f0 f1 hin
        have hb2 : Below wr.heap.size wr X2 := by
          rw [← HX2.out]
          exact ((H1.out.1.setCell (p := ⟨wr.heap.size, 0, none⟩) (Nat.le_refl _) _).setCell (p := ⟨wr.heap.size, 1, none⟩) (Nat.le_refl _) _).alloc (by simp; omega) _
        have hk2 : Blk X2 wr.heap.size 58 #[.int .i64 7, .slice (some ⟨X1.heap.size, 0, none⟩) 1 1] := by
          rw [← HX2.out]
          exact ((H1.out.2.set_ 0 _).set_ 1 _).alloc _
        have hkq : Blk X2 X1.heap.size 3 #[.int .i64 (q : Int)] := by
          rw [← HX2.out]
          have := Blk.new ((X1.setCell ⟨wr.heap.size, 0, none⟩ (.int .i64 7)).setCell ⟨wr.heap.size, 1, none⟩ (.slice (some ⟨X1.heap.size, 0, none⟩) 1 1)) 3 #[.int .i64 (q : Int)]
          simpa only [World.size_setCell] using this
        have HPX : Hid (Out VTerm 58 2 X0 X2 (w.heap.size + 1 + 1) v1 ts ∧ Blk X2 (w.heap.size + 1 + 1) 27 #[v1, .slice (some ⟨w.heap.size + 1, 0, none⟩) 2 2, .slice none 0 0, .slice none 0 0] ∧ VTerm X2 (SO X0.heap.size X2 v1) [.int .i64 7, .slice (some ⟨X1.heap.size, 0, none⟩) 1 1] ⟨7, [(q : Int)]⟩) :=
          ⟨HR.out.2.2.2.step tells_term hb2, HR.out.2.2.1.below hb2 hGw, _, _, _, rfl, ⟨by show _ ≤ (7 : Int); omega, by show (7 : Int) ≤ _; omega⟩, Nat.le_refl _, by decide, karr_one hkq (by unfold I64; omega) ⟨by have := HR.out.2.2.2.only.size; have := H1.out.1.size; omega, hkq.lt, fun e => by have := (HR.out.2.2.2.own.lt _ e).2; have := H1.out.1.size; omega⟩⟩
        have m0 := hk2.cell 0
        have m1 := hk2.cell 1
        simp only [List.getElem?_toArray, List.getElem?_cons_zero, List.getElem?_cons_succ] at m0 m1
        have zk2 := hk2.lt
        have HL := Lib.hid HR.out.1
        have hq : (q : Int) < (i : Int) := p1
        clear hb2 hk2 hkq
        have hbY : Below X2.heap.size X2 (X2.alloc (.cells #[.int .i64 7, .slice (some ⟨X1.heap.size, 0, none⟩) 1 1] 58)) := (Below.refl _ _).alloc (Nat.le_refl _) _
        have HOY := Lib.hid (HPX.out.1.step tells_term hbY)
        have hlt := HPX.out.1.own.lt
        have HBN := Lib.hid (Blk.new X2 58 #[.int .i64 7, .slice (some ⟨X1.heap.size, 0, none⟩) 1 1])
        have HVY : Hid (VTerm (X2.alloc (.cells #[.int .i64 7, .slice (some ⟨X1.heap.size, 0, none⟩) 1 1] 58)) (SO X0.heap.size (X2.alloc (.cells #[.int .i64 7, .slice (some ⟨X1.heap.size, 0, none⟩) 1 1] 58)) v1) [.int .i64 7, .slice (some ⟨X1.heap.size, 0, none⟩) 1 1] ⟨7, [(q : Int)]⟩) := tells_term.keep _ _ _ _ _ _ (fun b hb => ⟨hb.1, Nat.lt_of_lt_of_le hb.2.1 hbY.size, hb.2.2⟩) (fun b o hb => hbY.cell (p := ⟨b, o, none⟩) hb.2.1) HPX.out.2.2
        have HGY : Hid (Blk (X2.alloc (.cells #[.int .i64 7, .slice (some ⟨X1.heap.size, 0, none⟩) 1 1] 58)) (w.heap.size + 1 + 1) 27 #[v1, .slice (some ⟨w.heap.size + 1, 0, none⟩) 2 2, .slice none 0 0, .slice none 0 0]) := HPX.out.2.1.below hbY HPX.out.2.1.lt
        have q0 : X2.cell? ⟨(w.heap.size + 1 + 1), 0, none⟩ = some v1 := HPX.out.2.1.cell 0
        have zX : (w.heap.size + 1 + 1) < X2.heap.size := HPX.out.2.1.lt
        have HLT := Lib.hid hlt
        have hlx : ts.length ≤ 100 := by have := HL.out; omega
        have hW0 : X0.heap.size ≤ (X2.alloc (.cells #[.int .i64 7, .slice (some ⟨X1.heap.size, 0, none⟩) 1 1] 58)).heap.size := Nat.le_trans HPX.out.1.only.size hbY.size
        have HGW : Hid ((w.heap.size + 1 + 1) < X0.heap.size) := HPX.out.1.lt
        clear hbY hlt
        go_wp2_with (at_builtin; refine wpList_append_item rfl _ _ _ rfl rowTerms tells_term (v := v1) (xs := ts) (base := X0.heap.size) (S := SO X0.heap.size (X2.alloc (.cells #[.int .i64 7, .slice (some ⟨X1.heap.size, 0, none⟩) 1 1] 58)) v1) rfl HOY.out.own (g := X2.heap.size) (cs := #[.int .i64 7, .slice (some ⟨X1.heap.size, 0, none⟩) 1 1]) rfl HBN.out (y := ⟨7, [(q : Int)]⟩) HVY.out (fun b h => ⟨h.2.1, h.2.2⟩) (by unfold maxLen; omega) (by omega) hW0 ?_; intro v' w6 hown6 hgrow6 hat6; obtain ⟨A6, c6, rfl, hc6, hc6m⟩ := hown6.len; (have hl6 : (ts ++ [(⟨7, [(q : Int)]⟩ : TermD)]).length = i + 1 := by rw [List.length_append, HL.out]; rfl); rw [hl6] at hown6 hat6 hc6 ⊢; (have hgb6 : Blk w6 (w.heap.size + 1 + 1) 27 #[v1, .slice (some ⟨w.heap.size + 1, 0, none⟩) 2 2, .slice none 0 0, .slice none 0 0] := HGY.out.grown hgrow6 (fun e => by have := (HLT.out (w.heap.size + 1 + 1) e.symm).1; have := HGW.out; omega)); (have q6 : w6.cell? ⟨(w.heap.size + 1 + 1), 0, none⟩ = some v1 := hgb6.cell 0); (have z6 : w6.frozen? ⟨(w.heap.size + 1 + 1), 0, none⟩ = false := hgb6.frozen 0); (have zG6 : (w.heap.size + 1 + 1) < w6.heap.size := hgb6.lt); have HB6 := Lib.hid (And.intro hgb6 (And.intro hown6 (And.intro hgrow6 hat6))); clear hgb6 hown6 hgrow6 hat6 hl6)
        go_roundw
        case rel =>
          obtain ⟨hgb6, hown6, hgrow6, hat6⟩ := HB6.out
          exact ⟨i + 1, _, ts ++ [⟨7, [(q : Int)]⟩], by go_num, by omega, by simp [HR.out.1], KTerms.push HR.out.2.1 HR.out.1 (.inr ⟨q, by omega, rfl⟩), hgb6.set_ 0 _, Out.push tells_term HOY.out hown6 hgrow6 hat6 0 _⟩
        case measure => simp [intOf]; omega
      · have h2I : ¬ (2 : Int) ≤ (i : Int) := by omega
        have HPX : Hid (Out VTerm 58 2 X0 X1 (w.heap.size + 1 + 1) v1 ts ∧ Blk X1 (w.heap.size + 1 + 1) 27 #[v1, .slice (some ⟨w.heap.size + 1, 0, none⟩) 2 2, .slice none 0 0, .slice none 0 0] ∧ VTerm X1 (SO X0.heap.size X1 v1) [.int .i64 (i : Int), .slice none 0 0] ⟨(i : Int), []⟩) := ⟨HR.out.2.2.2.step tells_term H1.out.1, HR.out.2.2.1.below H1.out.1 hGw, none, 0, 0, rfl, by show I64 (i : Int); unfold I64; omega, Nat.le_refl _, Nat.zero_le _, Arr.nil_⟩
        go_upto_region 7 with fail
        rw [HX1.out]
        clear HX1
        go_upto_region 9 with fail
        have HL := Lib.hid HR.out.1
        have hbY : Below X1.heap.size X1 (X1.alloc (.cells #[.int .i64 (i : Int), .slice none 0 0] 58)) := (Below.refl _ _).alloc (Nat.le_refl _) _
        have HOY := Lib.hid (HPX.out.1.step tells_term hbY)
        have hlt := HPX.out.1.own.lt
        have HBN := Lib.hid (Blk.new X1 58 #[.int .i64 (i : Int), .slice none 0 0])
        have HVY : Hid (VTerm (X1.alloc (.cells #[.int .i64 (i : Int), .slice none 0 0] 58)) (SO X0.heap.size (X1.alloc (.cells #[.int .i64 (i : Int), .slice none 0 0] 58)) v1) [.int .i64 (i : Int), .slice none 0 0] ⟨(i : Int), []⟩) := tells_term.keep _ _ _ _ _ _ (fun b hb => ⟨hb.1, Nat.lt_of_lt_of_le hb.2.1 hbY.size, hb.2.2⟩) (fun b o hb => hbY.cell (p := ⟨b, o, none⟩) hb.2.1) HPX.out.2.2
        have HGY : Hid (Blk (X1.alloc (.cells #[.int .i64 (i : Int), .slice none 0 0] 58)) (w.heap.size + 1 + 1) 27 #[v1, .slice (some ⟨w.heap.size + 1, 0, none⟩) 2 2, .slice none 0 0, .slice none 0 0]) := HPX.out.2.1.below hbY HPX.out.2.1.lt
        have q0 : X1.cell? ⟨(w.heap.size + 1 + 1), 0, none⟩ = some v1 := HPX.out.2.1.cell 0
        have zX : (w.heap.size + 1 + 1) < X1.heap.size := HPX.out.2.1.lt
        have HLT := Lib.hid hlt
        have hlx : ts.length ≤ 100 := by have := HL.out; omega
        have hW0 : X0.heap.size ≤ (X1.alloc (.cells #[.int .i64 (i : Int), .slice none 0 0] 58)).heap.size := Nat.le_trans HPX.out.1.only.size hbY.size
        have HGW : Hid ((w.heap.size + 1 + 1) < X0.heap.size) := HPX.out.1.lt
        clear hbY hlt
        go_wp2_with (at_builtin; refine wpList_append_item rfl _ _ _ rfl rowTerms tells_term (v := v1) (xs := ts) (base := X0.heap.size) (S := SO X0.heap.size (X1.alloc (.cells #[.int .i64 (i : Int), .slice none 0 0] 58)) v1) rfl HOY.out.own (g := X1.heap.size) (cs := #[.int .i64 (i : Int), .slice none 0 0]) rfl HBN.out (y := ⟨(i : Int), []⟩) HVY.out (fun b h => ⟨h.2.1, h.2.2⟩) (by unfold maxLen; omega) (by omega) hW0 ?_; intro v' w6 hown6 hgrow6 hat6; obtain ⟨A6, c6, rfl, hc6, hc6m⟩ := hown6.len; (have hl6 : (ts ++ [(⟨(i : Int), []⟩ : TermD)]).length = i + 1 := by rw [List.length_append, HL.out]; rfl); rw [hl6] at hown6 hat6 hc6 ⊢; (have hgb6 : Blk w6 (w.heap.size + 1 + 1) 27 #[v1, .slice (some ⟨w.heap.size + 1, 0, none⟩) 2 2, .slice none 0 0, .slice none 0 0] := HGY.out.grown hgrow6 (fun e => by have := (HLT.out (w.heap.size + 1 + 1) e.symm).1; have := HGW.out; omega)); (have q6 : w6.cell? ⟨(w.heap.size + 1 + 1), 0, none⟩ = some v1 := hgb6.cell 0); (have z6 : w6.frozen? ⟨(w.heap.size + 1 + 1), 0, none⟩ = false := hgb6.frozen 0); (have zG6 : (w.heap.size + 1 + 1) < w6.heap.size := hgb6.lt); have HB6 := Lib.hid (And.intro hgb6 (And.intro hown6 (And.intro hgrow6 hat6))); clear hgb6 hown6 hgrow6 hat6 hl6)
        go_roundw
        case rel =>
          obtain ⟨hgb6, hown6, hgrow6, hat6⟩ := HB6.out
          exact ⟨i + 1, _, ts ++ [⟨(i : Int), []⟩], by go_num, by omega, by simp [HR.out.1], KTerms.push HR.out.2.1 HR.out.1 (.inl ⟨by omega, rfl⟩), hgb6.set_ 0 _, Out.push tells_term HOY.out hown6 hgrow6 hat6 0 _⟩
        case measure => simp [intOf]; omega
    · obtain rfl : i = T := by omega
      obtain ⟨B1, d1, rfl, hd1, hd1m, hT1⟩ := HR.out.2.2.2.done tells_term (E := AtTerm) (fun _ _ _ _ _ h => atV_term h)
      obtain ⟨W1, rfl⟩ : ∃ W1 : World, W1 = wr := ⟨_, rfl⟩
      have HW : Hid ((∀ (j : Nat) (t : TermD), ts[j]? = some t → KTerm j t) ∧ Blk W1 (w.heap.size + 1 + 1) 27 #[.slice B1 i d1, .slice (some ⟨w.heap.size + 1, 0, none⟩) 2 2, .slice none 0 0, .slice none 0 0] ∧ X0.grownBy W1 (some (w.heap.size + 1 + 1)) ∧ Arr AtTerm 2 W1 (fun b => X0.heap.size ≤ b ∧ b < W1.heap.size) B1 i ts ∧ Below w.heap.size w W1) := by
        have e := HR.out.1
        have h3 := HR.out.2.2.1
        rw [e] at hT1 h3
        exact ⟨HR.out.2.1, h3, HR.out.2.2.2.only, hT1, below_then H0.out.1 HR.out.2.2.2.only (by omega) (fun x hx => by injection hx; omega)⟩
      have HLT1 := Lib.hid HR.out.1
      have hiI : ¬ (i : Int) < (i : Int) := by omega
      have HN1 := Lib.hid (show i ≤ d1 by have e := HR.out.1; omega)
      clear HR hd1 hd1m hT1 hi hlt
      go_wp2_with fail
      refine (HAT.out _ 2 HW.out.2.2.2.2 (by omega)).mono ?_
      rintro e w9 ⟨y2, rfl, rfl, hy2⟩
      go_wp2_with fail
      refine (picked_in y2 5 _ hy2 (by omega) (by omega)).mono ?_
      rintro e w9 ⟨p, rfl, rfl, p0, p1⟩
      clear hy2 hiI
      obtain ⟨M, hM⟩ : ∃ M : Nat, 3 + p = (M : Int) := ⟨(3 + p).toNat, by omega⟩
      have hM3 : 3 ≤ M := by omega
      have hM7 : M ≤ 7 := by omega
      go_upto_region 11 with fail
      clear hM p0 p1
      obtain ⟨T, rfl⟩ : ∃ T : Nat, T = i := ⟨_, rfl⟩
      go_wp2_with fail
      go_loopw [10] (fun s10 wr => ∃ (i : Nat) (v3 : Value) (ats : List AtomD), s10 = .int .i64 (i : Int) ∧ i ≤ M ∧ Hid (ats.length = i ∧ (∀ x ∈ ats, KAtom (T : Int) x) ∧ Blk wr (w.heap.size + 1 + 1) 27 #[.slice B1 T d1, .slice (some ⟨w.heap.size + 1, 0, none⟩) 2 2, v3, .slice none 0 0] ∧ Out VAtom 35 6 W1 wr (w.heap.size + 1 + 1) v3 ats)) (fun s10 _ => M - (intOf s10).toNat)
      case atStart => exact ⟨0, .slice none 0 0, [], rfl, Nat.zero_le _, rfl, fun x h => by simp at h, HW.out.2.1, Out.start VAtom 35 6 W1 HW.out.2.1.lt⟩
      case round =>
        obtain ⟨i, v3, ats, rfl, hi, HR⟩ := hrel
        have hGw : (w.heap.size + 1 + 1) < wr.heap.size := HR.out.2.2.1.lt
        have HB : Hid (Below w.heap.size w wr) := below_then HW.out.2.2.2.2 HR.out.2.2.2.only HW.out.2.2.2.2.size (fun x hx => by injection hx; omega)
        by_cases hlt : i < M
        · have hiI : (i : Int) < (M : Int) := by omega
          have HL := Lib.hid HR.out.1
          go_wp2_with fail
          refine (HAT.out _ (5 + (i : Int)) HB.out (by omega)).mono ?_
          rintro e w9 ⟨y, rfl, rfl, hy⟩
          have HY := Lib.hid hy
          clear hy
          go_wp2_with fail
          refine (picked_in y 5 _ HY.out (by omega) (by omega)).mono ?_
          rintro e w9 ⟨r, rfl, rfl, r0, r1⟩
          by_cases e0 : r = 0
          · have e0b : (r == 0) = true := by simpa using e0
            have HPX : Hid (Out VAtom 35 6 W1 wr (w.heap.size + 1 + 1) v3 ats ∧ Blk wr (w.heap.size + 1 + 1) 27 #[.slice B1 T d1, .slice (some ⟨w.heap.size + 1, 0, none⟩) 2 2, v3, .slice none 0 0] ∧ VAtom wr (SO W1.heap.size wr v3) [.int .i64 1, .int .i64 0, .int .i64 0, .slice none 0 0, .int .i64 0, .int .i64 0] ⟨1, 0, 0, ⟨[], 0, 0⟩⟩) := ⟨HR.out.2.2.2, HR.out.2.2.1, none, 0, 0, rfl, by unfold I64; dsimp only; omega, Nat.le_refl _, Nat.zero_le _, Arr.nil_⟩
            go_upto_region 19 with fail
            clear e0 r0 r1
            have hbY : Below wr.heap.size wr (wr.alloc (.cells #[.int .i64 1, .int .i64 0, .int .i64 0, .slice none 0 0, .int .i64 0, .int .i64 0] 35)) := (Below.refl _ _).alloc (Nat.le_refl _) _
            have HOY := Lib.hid (HPX.out.1.step tells_atom hbY)
            have hlt := HPX.out.1.own.lt
            have HBN := Lib.hid (Blk.new wr 35 #[.int .i64 1, .int .i64 0, .int .i64 0, .slice none 0 0, .int .i64 0, .int .i64 0])
            have HVY : Hid (VAtom (wr.alloc (.cells #[.int .i64 1, .int .i64 0, .int .i64 0, .slice none 0 0, .int .i64 0, .int .i64 0] 35)) (SO W1.heap.size (wr.alloc (.cells #[.int .i64 1, .int .i64 0, .int .i64 0, .slice none 0 0, .int .i64 0, .int .i64 0] 35)) v3) [.int .i64 1, .int .i64 0, .int .i64 0, .slice none 0 0, .int .i64 0, .int .i64 0] ⟨1, 0, 0, ⟨[], 0, 0⟩⟩) := tells_atom.keep _ _ _ _ _ _ (fun b hb => ⟨hb.1, Nat.lt_of_lt_of_le hb.2.1 hbY.size, hb.2.2⟩) (fun b o hb => hbY.cell (p := ⟨b, o, none⟩) hb.2.1) HPX.out.2.2
            have HGY : Hid (Blk (wr.alloc (.cells #[.int .i64 1, .int .i64 0, .int .i64 0, .slice none 0 0, .int .i64 0, .int .i64 0] 35)) (w.heap.size + 1 + 1) 27 #[.slice B1 T d1, .slice (some ⟨w.heap.size + 1, 0, none⟩) 2 2, v3, .slice none 0 0]) := HPX.out.2.1.below hbY HPX.out.2.1.lt
            have q0 : wr.cell? ⟨(w.heap.size + 1 + 1), 2, none⟩ = some v3 := HPX.out.2.1.cell 2
            have zX : (w.heap.size + 1 + 1) < wr.heap.size := HPX.out.2.1.lt
            have HLT := Lib.hid hlt
            have hlx : ats.length ≤ 100 := by have := HL.out; omega
            have hW0 : W1.heap.size ≤ (wr.alloc (.cells #[.int .i64 1, .int .i64 0, .int .i64 0, .slice none 0 0, .int .i64 0, .int .i64 0] 35)).heap.size := Nat.le_trans HPX.out.1.only.size hbY.size
            have HGW : Hid ((w.heap.size + 1 + 1) < W1.heap.size) := HPX.out.1.lt
            clear hbY hlt
            go_wp2_with (at_builtin; refine wpList_append_item rfl _ _ _ rfl rowAtoms tells_atom (v := v3) (xs := ats) (base := W1.heap.size) (S := SO W1.heap.size (wr.alloc (.cells #[.int .i64 1, .int .i64 0, .int .i64 0, .slice none 0 0, .int .i64 0, .int .i64 0] 35)) v3) rfl HOY.out.own (g := wr.heap.size) (cs := #[.int .i64 1, .int .i64 0, .int .i64 0, .slice none 0 0, .int .i64 0, .int .i64 0]) rfl HBN.out (y := ⟨1, 0, 0, ⟨[], 0, 0⟩⟩) HVY.out (fun b h => ⟨h.2.1, h.2.2⟩) (by unfold maxLen; omega) (by omega) hW0 ?_; intro v' w6 hown6 hgrow6 hat6; obtain ⟨A6, c6, rfl, hc6, hc6m⟩ := hown6.len; (have hl6 : (ats ++ [(⟨1, 0, 0, ⟨[], 0, 0⟩⟩ : AtomD)]).length = i + 1 := by rw [List.length_append, HL.out]; rfl); rw [hl6] at hown6 hat6 hc6 ⊢; (have hgb6 : Blk w6 (w.heap.size + 1 + 1) 27 #[.slice B1 T d1, .slice (some ⟨w.heap.size + 1, 0, none⟩) 2 2, v3, .slice none 0 0] := HGY.out.grown hgrow6 (fun e => by have := (HLT.out (w.heap.size + 1 + 1) e.symm).1; have := HGW.out; omega)); (have q6 : w6.cell? ⟨(w.heap.size + 1 + 1), 2, none⟩ = some v3 := hgb6.cell 2); (have z6 : w6.frozen? ⟨(w.heap.size + 1 + 1), 2, none⟩ = false := hgb6.frozen 2); (have zG6 : (w.heap.size + 1 + 1) < w6.heap.size := hgb6.lt); have HB6 := Lib.hid (And.intro hgb6 (And.intro hown6 (And.intro hgrow6 hat6))); clear hgb6 hown6 hgrow6 hat6 hl6)
            go_roundw
            case rel =>
              obtain ⟨hgb6, hown6, hgrow6, hat6⟩ := HB6.out
              exact ⟨i + 1, _, ats ++ [⟨1, 0, 0, ⟨[], 0, 0⟩⟩], by go_num, by omega, by simp [HR.out.1], fun x hx => by
                rcases List.mem_append.1 hx with hx | hx
                · exact HR.out.2.1 x hx
                · rw [List.mem_singleton.1 hx]; exact .inl rfl, hgb6.set_ 2 _, Out.push tells_atom HOY.out hown6 hgrow6 hat6 2 _⟩
            case measure => simp [intOf]; omega
          · have e0b : (r == 0) = false := by simpa using e0
            by_cases e1 : r = 1 ∨ r = 2
            · rcases e1 with rfl | rfl
              all_goals
                clear e0 e0b r0 r1
                go_wp2_with fail
                refine (picked_in (wrap64 (y.tdiv 5)) ((T : Int) - 1) _ (wrap_i64 _) (by omega) (by omega)).mono ?_
                rintro e w9 ⟨b, rfl, rfl, b0, b1⟩
                go_upto_region 23 with fail
                have HC := Lib.hid (picked_in (IntKind.i64.wrap (y.tdiv 35)) (1 + b) wr.drew (kwrap_i64 _) (by omega) (by omega))
                have q0 : wr.cell? ⟨(w.heap.size + 1 + 1), 2, none⟩ = some v3 := HR.out.2.2.1.cell 2
                go_region_law (first
                  | (refine step_append_item (by rfl) _ _ _ (by rfl) rowAtoms tells_atom (v := v3) (xs := ats) (base := W1.heap.size) (S := SO W1.heap.size (w3.alloc (.cells #[.int .i64 2, .int .i64 a, .int .i64 (1 + b), .slice none 0 0, .int .i64 0, .int .i64 0] 35)) v3) (by rfl) (.inl HOY.out.own) (g := w3.heap.size) (cs := #[.int .i64 2, .int .i64 a, .int .i64 (1 + b), .slice none 0 0, .int .i64 0, .int .i64 0]) (by rfl) HBN.out (y := ⟨2, a, 1 + b, ⟨[], 0, 0⟩⟩) HVY.out (fun b h => ⟨h.2.1, h.2.2⟩) (by unfold maxLen; omega) (by omega) hW0 ?_
                     intro g' cap w6 hown6 hgrow6 hat6 hlt6
                     have hgb6 : Blk w6 (w.heap.size + 1 + 1) 27 #[.slice B1 T d1, .slice (some ⟨w.heap.size + 1, 0, none⟩) 2 2, v3, .slice none 0 0] := HGY.out.grown hgrow6 (fun e => by have := (HLT.out (w.heap.size + 1 + 1) e.symm).1; have := HGW.out; omega)
                     have q6 : w6.cell? ⟨(w.heap.size + 1 + 1), 2, none⟩ = some v3 := hgb6.cell 2
                     have z6 : w6.frozen? ⟨(w.heap.size + 1 + 1), 2, none⟩ = false := hgb6.frozen 2
                     have HB6 := Lib.hid (And.intro hgb6 (And.intro hown6 (And.intro hgrow6 hat6)))
                     clear hgb6 hown6 hgrow6 hat6)
                  | (go_simp
                     go_at_call 14
                     refine HC.out.mono ?_
                     rintro e w3 ⟨a, rfl, hw3, a0, a1⟩
                     have hbX : Below wr.heap.size wr w3 := hw3 ▸ (Below.refl wr.heap.size wr).drew
                     have HPX : Hid (Out VAtom 35 6 W1 w3 (w.heap.size + 1 + 1) v3 ats ∧ Blk w3 (w.heap.size + 1 + 1) 27 #[.slice B1 T d1, .slice (some ⟨w.heap.size + 1, 0, none⟩) 2 2, v3, .slice none 0 0] ∧ VAtom w3 (SO W1.heap.size w3 v3) [.int .i64 2, .int .i64 a, .int .i64 (1 + b), .slice none 0 0, .int .i64 0, .int .i64 0] ⟨2, a, 1 + b, ⟨[], 0, 0⟩⟩) := ⟨HR.out.2.2.2.step tells_atom hbX, HR.out.2.2.1.below hbX hGw, none, 0, 0, rfl, by unfold I64; dsimp only; omega, Nat.le_refl _, Nat.zero_le _, Arr.nil_⟩
                     have HAB : Hid (0 ≤ a ∧ a < 1 + b ∧ 1 + b < (T : Int)) := ⟨a0, a1, by omega⟩
                     clear hbX hw3
                     have hbY : Below w3.heap.size w3 (w3.alloc (.cells #[.int .i64 2, .int .i64 a, .int .i64 (1 + b), .slice none 0 0, .int .i64 0, .int .i64 0] 35)) := (Below.refl _ _).alloc (Nat.le_refl _) _
                     have HOY := Lib.hid (HPX.out.1.step tells_atom hbY)
                     have hlt := HPX.out.1.own.lt
                     have HBN := Lib.hid (Blk.new w3 35 #[.int .i64 2, .int .i64 a, .int .i64 (1 + b), .slice none 0 0, .int .i64 0, .int .i64 0])
                     have HVY : Hid (VAtom (w3.alloc (.cells #[.int .i64 2, .int .i64 a, .int .i64 (1 + b), .slice none 0 0, .int .i64 0, .int .i64 0] 35)) (SO W1.heap.size (w3.alloc (.cells #[.int .i64 2, .int .i64 a, .int .i64 (1 + b), .slice none 0 0, .int .i64 0, .int .i64 0] 35)) v3) [.int .i64 2, .int .i64 a, .int .i64 (1 + b), .slice none 0 0, .int .i64 0, .int .i64 0] ⟨2, a, 1 + b, ⟨[], 0, 0⟩⟩) := tells_atom.keep _ _ _ _ _ _ (fun b hb => ⟨hb.1, Nat.lt_of_lt_of_le hb.2.1 hbY.size, hb.2.2⟩) (fun b o hb => hbY.cell (p := ⟨b, o, none⟩) hb.2.1) HPX.out.2.2
                     have HGY : Hid (Blk (w3.alloc (.cells #[.int .i64 2, .int .i64 a, .int .i64 (1 + b), .slice none 0 0, .int .i64 0, .int .i64 0] 35)) (w.heap.size + 1 + 1) 27 #[.slice B1 T d1, .slice (some ⟨w.heap.size + 1, 0, none⟩) 2 2, v3, .slice none 0 0]) := HPX.out.2.1.below hbY HPX.out.2.1.lt
                     have qx : w3.cell? ⟨(w.heap.size + 1 + 1), 2, none⟩ = some v3 := HPX.out.2.1.cell 2
                     have zX : (w.heap.size + 1 + 1) < w3.heap.size := HPX.out.2.1.lt
                     have HLT := Lib.hid hlt
                     have hlx : ats.length ≤ 100 := by have := HL.out; omega
                     have hW0 : W1.heap.size ≤ (w3.alloc (.cells #[.int .i64 2, .int .i64 a, .int .i64 (1 + b), .slice none 0 0, .int .i64 0, .int .i64 0] 35)).heap.size := Nat.le_trans HPX.out.1.only.size hbY.size
                     have HGW : Hid ((w.heap.size + 1 + 1) < W1.heap.size) := HPX.out.1.lt
                     clear hbY hlt)
                  | fail)
                all_goals
                  go_wp2_with fail
                  go_roundw
                  case rel =>
                    obtain ⟨hgb6, hown6, hgrow6, hat6⟩ := HB6.out
                    exact ⟨i + 1, _, ats ++ [⟨2, a, 1 + b, ⟨[], 0, 0⟩⟩], by go_num, by omega, by simp [HR.out.1], fun x hx => by
                      rcases List.mem_append.1 hx with hx | hx
                      · exact HR.out.2.1 x hx
                      · rw [List.mem_singleton.1 hx]; exact .inr (.inl ⟨_, _, HAB.out.1, HAB.out.2.1, HAB.out.2.2, rfl⟩), hgb6.set_ 2 _, Out.push tells_atom HOY.out hown6 hgrow6 (hat6.elim (fun h => .inl h.symm) (fun h => .inr (congrArg some h))) 2 _⟩
                  case measure => simp [intOf]; omega
            · have e1b : (r == 1) = false := by rw [beq_eq_false_iff_ne]; omega
              have e2b : (r == 2) = false := by rw [beq_eq_false_iff_ne]; omega
              clear e0 e1 r0 r1
              go_wp2_with fail
              refine (picked_in (wrap64 (y.tdiv 5)) 5 _ (wrap_i64 _) (by omega) (by omega)).mono ?_
              rintro e w9 ⟨a1, rfl, rfl, a10, a11⟩
              go_wp2_with fail
              refine (picked_in (wrap64 (y.tdiv 25)) 5 _ (wrap_i64 _) (by omega) (by omega)).mono ?_
              rintro e w9 ⟨a2, rfl, rfl, a20, a21⟩
              have hb1 : Below wr.heap.size wr (wr.alloc (.cells #[.int .i64 (a1 - 2), .int .i64 (a2 - 2)] 3)) := (Below.refl _ _).alloc (Nat.le_refl _) _
              have hk1 := Blk.new wr 3 #[.int .i64 (a1 - 2), .int .i64 (a2 - 2)]
              obtain ⟨X1, hX1⟩ : ∃ X, wr.alloc (.cells #[.int .i64 (a1 - 2), .int .i64 (a2 - 2)] 3) = X := ⟨_, rfl⟩
              rw [hX1] at hb1 hk1
              go_wp2_with fail
              refine (picked_in (wrap64 (y.tdiv 125)) 3 _ (wrap_i64 _) (by omega) (by omega)).mono ?_
              rintro e w9 ⟨a3, rfl, rfl, a30, a31⟩
              go_wp2_with fail
              refine (picked_in (wrap64 (y.tdiv 375)) 9 _ (wrap_i64 _) (by omega) (by omega)).mono ?_
              rintro e w9 ⟨a4, rfl, rfl, a40, a41⟩
              have hb2 : Below X1.heap.size X1 (X1.alloc (.cells #[.slice (some ⟨wr.heap.size, 0, none⟩) 2 2, .int .i64 (1 + a3), .int .i64 (a4 - 4)] 33)) := (Below.refl _ _).alloc (Nat.le_refl _) _
              have hk2 := Blk.new X1 33 #[.slice (some ⟨wr.heap.size, 0, none⟩) 2 2, .int .i64 (1 + a3), .int .i64 (a4 - 4)]
              obtain ⟨X2, hX2⟩ : ∃ X, X1.alloc (.cells #[.slice (some ⟨wr.heap.size, 0, none⟩) 2 2, .int .i64 (1 + a3), .int .i64 (a4 - 4)] 33) = X := ⟨_, rfl⟩
              rw [hX2] at hb2 hk2
              go_upto_region 17 with fail
              have hbX := hb1.trans (hb2.mono hb1.size)
              have hki := hk1.below hb2 hk1.lt
              have HPX : Hid (Out VAtom 35 6 W1 X2 (w.heap.size + 1 + 1) v3 ats ∧ Blk X2 (w.heap.size + 1 + 1) 27 #[.slice B1 T d1, .slice (some ⟨w.heap.size + 1, 0, none⟩) 2 2, v3, .slice none 0 0] ∧ VAtom X2 (SO W1.heap.size X2 v3) [.int .i64 3, .int .i64 0, .int .i64 0, .slice (some ⟨wr.heap.size, 0, none⟩) 2 2, .int .i64 (1 + a3), .int .i64 (a4 - 4)] ⟨3, 0, 0, ⟨[a1 - 2, a2 - 2], 1 + a3, a4 - 4⟩⟩) :=
                ⟨HR.out.2.2.2.step tells_atom hbX, HR.out.2.2.1.below hbX hGw, _, _, _, rfl, by unfold I64; dsimp only; omega, Nat.le_refl _, by decide, karr_two hki (by unfold I64; omega) (by unfold I64; omega) ⟨HR.out.2.2.2.only.size, hki.lt, fun e => by have := (HR.out.2.2.2.own.lt _ e).2; omega⟩⟩
              have m0 := hk2.cell 0
              have m1 := hk2.cell 1
              have m2 := hk2.cell 2
              simp only [List.getElem?_toArray, List.getElem?_cons_zero, List.getElem?_cons_succ] at m0 m1 m2
              have zk2 := hk2.lt
              clear hb1 hk1 hX1 hb2 hk2 hX2 hbX hki
              have hbY : Below X2.heap.size X2 (X2.alloc (.cells #[.int .i64 3, .int .i64 0, .int .i64 0, .slice (some ⟨wr.heap.size, 0, none⟩) 2 2, .int .i64 (1 + a3), .int .i64 (a4 - 4)] 35)) := (Below.refl _ _).alloc (Nat.le_refl _) _
              have HOY := Lib.hid (HPX.out.1.step tells_atom hbY)
              have hlt := HPX.out.1.own.lt
              have HBN := Lib.hid (Blk.new X2 35 #[.int .i64 3, .int .i64 0, .int .i64 0, .slice (some ⟨wr.heap.size, 0, none⟩) 2 2, .int .i64 (1 + a3), .int .i64 (a4 - 4)])
              have HVY : Hid (VAtom (X2.alloc (.cells #[.int .i64 3, .int .i64 0, .int .i64 0, .slice (some ⟨wr.heap.size, 0, none⟩) 2 2, .int .i64 (1 + a3), .int .i64 (a4 - 4)] 35)) (SO W1.heap.size (X2.alloc (.cells #[.int .i64 3, .int .i64 0, .int .i64 0, .slice (some ⟨wr.heap.size, 0, none⟩) 2 2, .int .i64 (1 + a3), .int .i64 (a4 - 4)] 35)) v3) [.int .i64 3, .int .i64 0, .int .i64 0, .slice (some ⟨wr.heap.size, 0, none⟩) 2 2, .int .i64 (1 + a3), .int .i64 (a4 - 4)] ⟨3, 0, 0, ⟨[a1 - 2, a2 - 2], 1 + a3, a4 - 4⟩⟩) := tells_atom.keep _ _ _ _ _ _ (fun b hb => ⟨hb.1, Nat.lt_of_lt_of_le hb.2.1 hbY.size, hb.2.2⟩) (fun b o hb => hbY.cell (p := ⟨b, o, none⟩) hb.2.1) HPX.out.2.2
              have HGY : Hid (Blk (X2.alloc (.cells #[.int .i64 3, .int .i64 0, .int .i64 0, .slice (some ⟨wr.heap.size, 0, none⟩) 2 2, .int .i64 (1 + a3), .int .i64 (a4 - 4)] 35)) (w.heap.size + 1 + 1) 27 #[.slice B1 T d1, .slice (some ⟨w.heap.size + 1, 0, none⟩) 2 2, v3, .slice none 0 0]) := HPX.out.2.1.below hbY HPX.out.2.1.lt
              have q0 : X2.cell? ⟨(w.heap.size + 1 + 1), 2, none⟩ = some v3 := HPX.out.2.1.cell 2
              have zX : (w.heap.size + 1 + 1) < X2.heap.size := HPX.out.2.1.lt
              have HLT := Lib.hid hlt
              have hlx : ats.length ≤ 100 := by have := HL.out; omega
              have hW0 : W1.heap.size ≤ (X2.alloc (.cells #[.int .i64 3, .int .i64 0, .int .i64 0, .slice (some ⟨wr.heap.size, 0, none⟩) 2 2, .int .i64 (1 + a3), .int .i64 (a4 - 4)] 35)).heap.size := Nat.le_trans HPX.out.1.only.size hbY.size
              have HGW : Hid ((w.heap.size + 1 + 1) < W1.heap.size) := HPX.out.1.lt
              clear hbY hlt
              go_wp2_with (at_builtin; refine wpList_append_item rfl _ _ _ rfl rowAtoms tells_atom (v := v3) (xs := ats) (base := W1.heap.size) (S := SO W1.heap.size (X2.alloc (.cells #[.int .i64 3, .int .i64 0, .int .i64 0, .slice (some ⟨wr.heap.size, 0, none⟩) 2 2, .int .i64 (1 + a3), .int .i64 (a4 - 4)] 35)) v3) rfl HOY.out.own (g := X2.heap.size) (cs := #[.int .i64 3, .int .i64 0, .int .i64 0, .slice (some ⟨wr.heap.size, 0, none⟩) 2 2, .int .i64 (1 + a3), .int .i64 (a4 - 4)]) rfl HBN.out (y := ⟨3, 0, 0, ⟨[a1 - 2, a2 - 2], 1 + a3, a4 - 4⟩⟩) HVY.out (fun b h => ⟨h.2.1, h.2.2⟩) (by unfold maxLen; omega) (by omega) hW0 ?_; intro v' w6 hown6 hgrow6 hat6; obtain ⟨A6, c6, rfl, hc6, hc6m⟩ := hown6.len; (have hl6 : (ats ++ [(⟨3, 0, 0, ⟨[a1 - 2, a2 - 2], 1 + a3, a4 - 4⟩⟩ : AtomD)]).length = i + 1 := by rw [List.length_append, HL.out]; rfl); rw [hl6] at hown6 hat6 hc6 ⊢; (have hgb6 : Blk w6 (w.heap.size + 1 + 1) 27 #[.slice B1 T d1, .slice (some ⟨w.heap.size + 1, 0, none⟩) 2 2, v3, .slice none 0 0] := HGY.out.grown hgrow6 (fun e => by have := (HLT.out (w.heap.size + 1 + 1) e.symm).1; have := HGW.out; omega)); (have q6 : w6.cell? ⟨(w.heap.size + 1 + 1), 2, none⟩ = some v3 := hgb6.cell 2); (have z6 : w6.frozen? ⟨(w.heap.size + 1 + 1), 2, none⟩ = false := hgb6.frozen 2); (have zG6 : (w.heap.size + 1 + 1) < w6.heap.size := hgb6.lt); have HB6 := Lib.hid (And.intro hgb6 (And.intro hown6 (And.intro hgrow6 hat6))); clear hgb6 hown6 hgrow6 hat6 hl6)
              go_roundw
              case rel =>
                obtain ⟨hgb6, hown6, hgrow6, hat6⟩ := HB6.out
                exact ⟨i + 1, _, ats ++ [⟨3, 0, 0, ⟨[a1 - 2, a2 - 2], 1 + a3, a4 - 4⟩⟩], by go_num, by omega, by simp [HR.out.1], fun x hx => by
                  rcases List.mem_append.1 hx with hx | hx
                  · exact HR.out.2.1 x hx
                  · rw [List.mem_singleton.1 hx]; exact .inr (.inr ⟨_, _, _, _, by omega, by omega, by omega, by omega, by omega, by omega, by omega, by omega, rfl⟩), hgb6.set_ 2 _, Out.push tells_atom HOY.out hown6 hgrow6 hat6 2 _⟩
              case measure => simp [intOf]; omega
        · obtain rfl : i = M := by omega
          obtain ⟨B3, d3, rfl, hd3, hd3m, hT3⟩ := HR.out.2.2.2.done tells_atom (E := AtAtom) (fun _ _ _ _ _ h => atV_atom h)
          obtain ⟨W2, rfl⟩ : ∃ W2 : World, W2 = wr := ⟨_, rfl⟩
          have HW2 : Hid ((∀ x ∈ ats, KAtom (T : Int) x) ∧ Blk W2 (w.heap.size + 1 + 1) 27 #[.slice B1 T d1, .slice (some ⟨w.heap.size + 1, 0, none⟩) 2 2, .slice B3 i d3, .slice none 0 0] ∧ W1.grownBy W2 (some (w.heap.size + 1 + 1)) ∧ Arr AtTerm 2 W2 (fun b => X0.heap.size ≤ b ∧ b < W2.heap.size) B1 T ts ∧ Arr AtAtom 6 W2 (fun b => X0.heap.size ≤ b ∧ b < W2.heap.size) B3 i ats ∧ Blk W2 (w.heap.size + 1) 4 #[.bool true, .bool (y0.tmod 2 == 0)] ∧ Blk W2 w.heap.size 27 #[.slice none 0 0, .slice none 0 0, .slice none 0 0, .slice none 0 0] ∧ X0.heap.size ≤ W2.heap.size) := by
            have e := HR.out.1
            have h3 := HR.out.2.2.1
            rw [e] at hT3 h3
            have hz1 := HW.out.2.2.1.size
            have hz2 := HR.out.2.2.2.only.size
            have o1 := HW.out.2.2.1
            have o2 := HR.out.2.2.2.only
            refine ⟨HR.out.2.1, h3, o2, HW.out.2.2.2.1.keep stays_term (fun b hb => ⟨hb.1, by omega⟩) (fun b o hb => only_cell o2 hb.2 (fun e => by injection e; omega)), hT3.keep stays_atom (fun b hb => ⟨by omega, hb.2⟩) (fun _ _ _ => rfl), (H0.out.2.2.1.grown o1 (by simp)).grown o2 (by simp), (H0.out.2.1.grown o1 (by simp; omega)).grown o2 (by simp; omega), by omega⟩
          have HLA := Lib.hid HR.out.1
          have hiI : ¬ (i : Int) < (i : Int) := by omega
          clear HR hd3 hd3m hT3 hi hlt
          go_wp2_with fail
          obtain ⟨M, rfl⟩ : ∃ M : Nat, M = i := ⟨_, rfl⟩
          clear hiI
          go_loopw [14] (fun s14 wr => ∃ (i : Nat) (v4 : Value) (cls : List (List Int)), s14 = .int .i64 (i : Int) ∧ i ≤ m ∧ Hid (cls.length = i ∧ (∀ c ∈ cls, Lits (M : Int) c) ∧ Blk wr (w.heap.size + 1 + 1) 27 #[.slice B1 T d1, .slice (some ⟨w.heap.size + 1, 0, none⟩) 2 2, .slice B3 M d3, v4] ∧ Out VRow 31 1 W2 wr (w.heap.size + 1 + 1) v4 cls)) (fun s14 _ => m - (intOf s14).toNat)
          case atStart => exact ⟨0, .slice none 0 0, [], rfl, Nat.zero_le _, rfl, fun x h => by simp at h, HW2.out.2.1, Out.start VRow 31 1 W2 HW2.out.2.1.lt⟩
          case round =>
            clear HB hGw
            obtain ⟨i, v4, cls, rfl, hi, HR⟩ := hrel
            have hGw : (w.heap.size + 1 + 1) < wr.heap.size := HR.out.2.2.1.lt
            have HB : Hid (Below w.heap.size w wr) := below_then (below_then HW.out.2.2.2.2 HW2.out.2.2.1 HW.out.2.2.2.2.size (fun x hx => by injection hx; omega)) HR.out.2.2.2.only (by have := HW.out.2.2.2.2.size; have := HW2.out.2.2.1.size; omega) (fun x hx => by injection hx; omega)
            by_cases hlt : i < m ∧ 12 + i < n
            · have hiI : (i : Int) < (m : Int) := by omega
              have hiJ : 12 + (i : Int) < (n : Int) := by omega
              obtain ⟨j, hj⟩ : ∃ j : Nat, j = 12 + i := ⟨_, rfl⟩
              obtain ⟨bx, ox, hx, rfl, hbx, hcx, hx0, hx1⟩ := ints_get (HXS.out.below stays_int HB.out HB.out.size) (i := j) (by omega)
              generalize xs[j] = x at hcx hx0 hx1
              have HJ : Hid (j = 12 + i ∧ 12 + i < n) := ⟨hj, hlt.2⟩
              clear hj
              have HC := Lib.hid (clauseOf_any x (M : Int) wr.drew ⟨hx0, hx1⟩ (by omega) (by omega))
              have HL := Lib.hid HR.out.1
              have q3 : wr.cell? ⟨(w.heap.size + 1 + 1), 3, none⟩ = some v4 := HR.out.2.2.1.cell 3
              clear hbx hx hx0 hx1
              go_wp2_with fail
              have e12 : 12 + (i : Int) = (j : Int) := by have := HJ.out; omega
              have hjn : (j : Int) < (n : Int) := by have := HJ.out; omega
              have hwj : IntKind.i64.wrap (j : Int) = (j : Int) := by rw [IntKind.wrap_i64]; omega
              have hj0 : (0 : Int) ≤ (j : Int) := by omega
              go_region_law (first
                | (refine step_append_item (by rfl) _ _ _ (by rfl) rowRows tells_row' (v := v4) (xs := cls) (base := W2.heap.size) (S := SO W2.heap.size (w3.alloc (.cells #[.slice A3 ks.length c3] 31)) v4) (by rfl) (.inl HOY.out.own) (g := w3.heap.size) (cs := #[.slice A3 ks.length c3]) (by rfl) HBN.out (y := ks) HVY.out (fun b h => ⟨h.2.1, h.2.2⟩) (by unfold maxLen; omega) (by omega) hW0 ?_
                   intro g' cap w6 hown6 hgrow6 hat6 hlt6
                   have hgb6 : Blk w6 (w.heap.size + 1 + 1) 27 #[.slice B1 T d1, .slice (some ⟨w.heap.size + 1, 0, none⟩) 2 2, .slice B3 M d3, v4] := HGY.out.grown hgrow6 (fun e => by have := (HLT.out (w.heap.size + 1 + 1) e.symm).1; have := HGW.out; omega)
                   have q6 : w6.cell? ⟨(w.heap.size + 1 + 1), 3, none⟩ = some v4 := hgb6.cell 3
                   have z6 : w6.frozen? ⟨(w.heap.size + 1 + 1), 3, none⟩ = false := hgb6.frozen 3
                   have HB6 := Lib.hid (And.intro hgb6 (And.intro hown6 (And.intro hgrow6 hat6)))
                   clear hgb6 hown6 hgrow6 hat6)
                | (go_simp
                   go_at_call 11
                   refine HC.out.mono ?_
                   rintro e w3 ⟨v, ks, rfl, hown, hlits, hb3⟩
                   have hbX : Below wr.heap.size wr w3 := ((Below.refl wr.heap.size wr).drew).trans hb3
                   obtain ⟨A3, c3, rfl, hc3, hc3m, hst, har⟩ := clause_item tells_row' (HR.out.2.2.2.step tells_row' (Below.refl wr.heap.size wr).drew) hb3 hown
                   have HPX : Hid (Out VRow 31 1 W2 w3 (w.heap.size + 1 + 1) v4 cls ∧ Blk w3 (w.heap.size + 1 + 1) 27 #[.slice B1 T d1, .slice (some ⟨w.heap.size + 1, 0, none⟩) 2 2, .slice B3 M d3, v4] ∧ VRow w3 (SO W2.heap.size w3 v4) [.slice A3 ks.length c3] ks) := ⟨hst, HR.out.2.2.1.below hbX hGw, _, _, _, rfl, hc3, hc3m, har⟩
                   have HLI := Lib.hid hlits
                   clear hbX hst har hown hlits hb3
                   have hbY : Below w3.heap.size w3 (w3.alloc (.cells #[.slice A3 ks.length c3] 31)) := (Below.refl _ _).alloc (Nat.le_refl _) _
                   have HOY := Lib.hid (HPX.out.1.step tells_row' hbY)
                   have hlt := HPX.out.1.own.lt
                   have HBN := Lib.hid (Blk.new w3 31 #[.slice A3 ks.length c3])
                   have HVY : Hid (VRow (w3.alloc (.cells #[.slice A3 ks.length c3] 31)) (SO W2.heap.size (w3.alloc (.cells #[.slice A3 ks.length c3] 31)) v4) [.slice A3 ks.length c3] ks) := tells_row'.keep _ _ _ _ _ _ (fun b hb => ⟨hb.1, Nat.lt_of_lt_of_le hb.2.1 hbY.size, hb.2.2⟩) (fun b o hb => hbY.cell (p := ⟨b, o, none⟩) hb.2.1) HPX.out.2.2
                   have HGY : Hid (Blk (w3.alloc (.cells #[.slice A3 ks.length c3] 31)) (w.heap.size + 1 + 1) 27 #[.slice B1 T d1, .slice (some ⟨w.heap.size + 1, 0, none⟩) 2 2, .slice B3 M d3, v4]) := HPX.out.2.1.below hbY HPX.out.2.1.lt
                   have qx : w3.cell? ⟨(w.heap.size + 1 + 1), 3, none⟩ = some v4 := HPX.out.2.1.cell 3
                   have zX : (w.heap.size + 1 + 1) < w3.heap.size := HPX.out.2.1.lt
                   have HLT := Lib.hid hlt
                   have hlx : cls.length ≤ 100 := by have := HL.out; omega
                   have hW0 : W2.heap.size ≤ (w3.alloc (.cells #[.slice A3 ks.length c3] 31)).heap.size := Nat.le_trans HPX.out.1.only.size hbY.size
                   have HGW : Hid ((w.heap.size + 1 + 1) < W2.heap.size) := HPX.out.1.lt
                   clear hbY hlt)
                | fail)
              all_goals
                go_wp2_with fail
                go_roundw
                case rel =>
                  obtain ⟨hgb6, hown6, hgrow6, hat6⟩ := HB6.out
                  exact ⟨i + 1, _, cls ++ [ks], by go_num, by omega, by simp [HR.out.1], fun x hx => by
                    rcases List.mem_append.1 hx with hx | hx
                    · exact HR.out.2.1 x hx
                    · rw [List.mem_singleton.1 hx]; exact HLI.out, hgb6.set_ 3 _, Out.push tells_row' HOY.out hown6 hgrow6 (hat6.elim (fun h => .inl h.symm) (fun h => .inr (congrArg some h))) 3 _⟩
                case measure => simp [intOf]; omega
            · have HQ : Hid (i < m → ¬ 12 + i < n) := fun h1 h2 => hlt ⟨h1, h2⟩
              obtain ⟨B4, d4, rfl, hd4, hd4m, hT4⟩ := HR.out.2.2.2.done tells_row' (E := AtArr AtInt 1) (fun _ _ _ _ _ h => atV_arr.1 h)
              obtain ⟨W3, rfl⟩ : ∃ W3 : World, W3 = wr := ⟨_, rfl⟩
              have HF : Hid (KFormP m w (.returned (.agg #[.slice B1 T d1, .slice (some ⟨w.heap.size + 1, 0, none⟩) 2 2, .slice B3 M d3, .slice B4 i d4])) (four W3 w.heap.size (.slice B1 T d1) (.slice (some ⟨w.heap.size + 1, 0, none⟩) 2 2) (.slice B3 M d3) (.slice B4 i d4)) ∧ Blk (four W3 w.heap.size (.slice B1 T d1) (.slice (some ⟨w.heap.size + 1, 0, none⟩) 2 2) (.slice B3 M d3) (.slice B4 i d4)) w.heap.size 27 #[.slice B1 T d1, .slice (some ⟨w.heap.size + 1, 0, none⟩) 2 2, .slice B3 M d3, .slice B4 i d4]) := by
                have e := HR.out.1
                rw [e] at hT4 hd4
                have o3 := HR.out.2.2.2.only
                have o4 := four_only W3 w.heap.size (.slice B1 T d1) (.slice (some ⟨w.heap.size + 1, 0, none⟩) 2 2) (.slice B3 M d3) (.slice B4 i d4)
                have z3 := o3.size
                have z4 := o4.size
                have z2 := HW2.out.2.2.2.2.2.2.2
                have hk4 := four_blk (HW2.out.2.2.2.2.2.2.1.grown o3 (by simp; omega)) (.slice B1 T d1) (.slice (some ⟨w.heap.size + 1, 0, none⟩) 2 2) (.slice B3 M d3) (.slice B4 i d4)
                have hki := (HW2.out.2.2.2.2.2.1.grown o3 (by simp)).grown o4 (by simp)
                have hkeep : ∀ b o, (X0.heap.size ≤ b ∧ b < W2.heap.size) → (four W3 w.heap.size (.slice B1 T d1) (.slice (some ⟨w.heap.size + 1, 0, none⟩) 2 2) (.slice B3 M d3) (.slice B4 i d4)).cell? ⟨b, o, none⟩ = W2.cell? ⟨b, o, none⟩ := fun b o hb => (only_cell o4 (by omega) (fun e => by injection e; omega)).trans (only_cell o3 hb.2 (fun e => by injection e; omega))
                have t1 := HW2.out.2.2.2.1.keep stays_term (S' := fun b => b < (four W3 w.heap.size (.slice B1 T d1) (.slice (some ⟨w.heap.size + 1, 0, none⟩) 2 2) (.slice B3 M d3) (.slice B4 i d4)).heap.size) (fun b hb => by omega) hkeep
                have t3 := HW2.out.2.2.2.2.1.keep stays_atom (S' := fun b => b < (four W3 w.heap.size (.slice B1 T d1) (.slice (some ⟨w.heap.size + 1, 0, none⟩) 2 2) (.slice B3 M d3) (.slice B4 i d4)).heap.size) (fun b hb => by omega) hkeep
                have t4 := hT4.keep (stays_arr stays_int) (S' := fun b => b < (four W3 w.heap.size (.slice B1 T d1) (.slice (some ⟨w.heap.size + 1, 0, none⟩) 2 2) (.slice B3 M d3) (.slice B4 i d4)).heap.size) (w' := four W3 w.heap.size (.slice B1 T d1) (.slice (some ⟨w.heap.size + 1, 0, none⟩) 2 2) (.slice B3 M d3) (.slice B4 i d4)) (fun b hb => by omega) (fun b o hb => only_cell o4 hb.2 (fun e => by injection e; omega))
                have t2 : Arr AtBool 1 (four W3 w.heap.size (.slice B1 T d1) (.slice (some ⟨w.heap.size + 1, 0, none⟩) 2 2) (.slice B3 M d3) (.slice B4 i d4)) (fun b => b < (four W3 w.heap.size (.slice B1 T d1) (.slice (some ⟨w.heap.size + 1, 0, none⟩) 2 2) (.slice B3 M d3) (.slice B4 i d4)).heap.size) (some ⟨w.heap.size + 1, 0, none⟩) 2 [true, y0.tmod 2 == 0] := ⟨rfl, fun j x hx => by
                  rcases j with _ | _ | j
                  · simp only [List.getElem?_cons_zero, Option.some.injEq] at hx
                    subst hx
                    exact ⟨_, 0, rfl, hki.lt, hki.cell 0⟩
                  · simp only [List.getElem?_cons_succ, List.getElem?_cons_zero, Option.some.injEq] at hx
                    subst hx
                    exact ⟨_, 0, rfl, hki.lt, hki.cell 1⟩
                  · simp at hx⟩
                refine ⟨⟨_, _, _, _, _, _, _, _, _, _, _, _, ⟨ts, [true, y0.tmod 2 == 0], ats, cls⟩, rfl, ⟨t1, t2, t3, t4, by omega, by omega, by omega, by omega⟩, ⟨⟨_, rfl⟩, ?_, HW.out.1, ?_, ?_, ?_, ?_⟩, hd4, hd4m, HN1.out, below_then HB.out o4 HB.out.size (fun x hx => by injection hx; omega)⟩, hk4⟩
                · show 2 ≤ ts.length ∧ ts.length ≤ 5
                  rw [HLT1.out]; exact ⟨hT2, hT5⟩
                · show 3 ≤ ats.length ∧ ats.length ≤ 7
                  rw [HLA.out]; exact ⟨hM3, hM7⟩
                · show ∀ x ∈ ats, KAtom (ts.length : Int) x
                  rw [HLT1.out]; exact HW2.out.1
                · show cls.length ≤ m
                  omega
                · show ∀ c ∈ cls, Lits (ats.length : Int) c
                  rw [HLA.out]; exact HR.out.2.1
              have e := HR.out.1
              have hgb := HR.out.2.2.1
              have hrb := HW2.out.2.2.2.2.2.2.1.grown HR.out.2.2.2.only (by simp; omega)
              rw [e] at hgb
              have HC := Lib.hid (HF.out.2)
              have m0 := hgb.cell 0
              have m1 := hgb.cell 1
              have m2 := hgb.cell 2
              have m3 := hgb.cell 3
              have r0 := hrb.cell 0
              have r1 := hrb.cell 1
              have r2 := hrb.cell 2
              have r3 := hrb.cell 3
              simp only [List.getElem?_toArray, List.getElem?_cons_zero, List.getElem?_cons_succ] at m0 m1 m2 m3 r0 r1 r2 r3
              have u0 := hrb.frozen 0
              have u1 := hrb.frozen 1
              have u2 := hrb.frozen 2
              have u3 := hrb.frozen 3
              have zr := hrb.lt
              have HFO := Lib.hid HF.out.1
              clear e hgb hrb hd4 hd4m hT4 HR HF HW HW2 HB hlt H0 HLT1 HLA
              by_cases him : i < m
              · have himI : (i : Int) < (m : Int) := by omega
                have hin : ¬ 12 + (i : Int) < (n : Int) := by have := HQ.out him; omega
                go_wp2_with fail
                have e0 := HC.out.cell 0
                have e1 := HC.out.cell 1
                have e2 := HC.out.cell 2
                have e3 := HC.out.cell 3
                simp only [List.getElem?_toArray, List.getElem?_cons_zero, List.getElem?_cons_succ, four] at e0 e1 e2 e3
                exact bodyPost_ret (v := .agg #[.slice B1 T d1, .slice (some ⟨w.heap.size + 1, 0, none⟩) 2 2, .slice B3 M d3, .slice B4 i d4]) (by simp [results, Try.results9, go_sem, e0, e1, e2, e3]) rfl HFO.out
              · have himI : ¬ (i : Int) < (m : Int) := by omega
                go_wp2_with fail
                have e0 := HC.out.cell 0
                have e1 := HC.out.cell 1
                have e2 := HC.out.cell 2
                have e3 := HC.out.cell 3
                simp only [List.getElem?_toArray, List.getElem?_cons_zero, List.getElem?_cons_succ, four] at e0 e1 e2 e3
                exact bodyPost_ret (v := .agg #[.slice B1 T d1, .slice (some ⟨w.heap.size + 1, 0, none⟩) 2 2, .slice B3 M d3, .slice B4 i d4]) (by simp [results, Try.results9, go_sem, e0, e1, e2, e3]) rfl HFO.out
end Go.Proofs.Ytfkciiiopbanaaa
