/- Walk: the form of a stack of frames. -/
import Derived.Test.YtpceiifacendfaaFr
import Derived.Test.YtpceiifacendfaaConcat
import Derived.Test.YtpceiifacendfaaFormC
import Derived.Deep.RegionHeld3
namespace Go.Proofs.Ytpceiifacendfaa
open Go.RowKit

def FormP (S : Nat → Prop) (w : World) (A1 A2 A3 : Option Addr) (n1 c1 n2 c2 n3 c3 : Nat) (F : FormD) (e : Ending) (w' : World) : Prop :=
  ∃ (A : Option Addr) (n c : Nat), e = .returned (.agg #[.slice A1 n1 c1, .slice A2 n2 c2, .slice A3 n3 c3, .slice A n c]) ∧ FormB w' w'.heap.size A1 A2 A3 A n1 n2 n3 n F ∧ n ≤ c ∧ Below w.heap.size w w' ∧ Arr (AtArr AtInt 1) 1 w' (fun b => S b ∨ (w.heap.size ≤ b ∧ b < w'.heap.size)) A n F.clauses

theorem arr_two {α : Type} {E : Ent α} {sz : Nat} {w : World} {S : Nat → Prop} {g : Nat} {x y : α} (hg : S g) (h : E w S g 0 x) (h' : E w S g sz y) : Arr E sz w S (some ⟨g, 0, none⟩) 2 [x, y] :=
  ⟨rfl, fun i z hz => by
    rcases i with _ | _ | i
    · simp only [List.getElem?_cons_zero, Option.some.injEq] at hz
      subst hz
      exact ⟨g, 0, rfl, hg, by rw [Nat.zero_mul]; exact h⟩
    · simp only [List.getElem?_cons_succ, List.getElem?_cons_zero, Option.some.injEq] at hz
      subst hz
      exact ⟨g, 0, rfl, hg, by rw [show 0 + (0 + 1) * sz = sz from by omega]; exact h'⟩
    · simp at hz⟩

/-- a block of four cells that is written whole -/
def four (w : World) (g : Nat) (a b c d : Value) : World := (((w.setCell ⟨g, 0, none⟩ a).setCell ⟨g, 1, none⟩ b).setCell ⟨g, 2, none⟩ c).setCell ⟨g, 3, none⟩ d
theorem four_blk {w : World} {g : Nat} {t : TypeId} {a0 b0 c0 d0 : Value} (h : Blk w g t #[a0, b0, c0, d0]) (a b c d : Value) : Blk (four w g a b c d) g t #[a, b, c, d] := by
  have h1 : Blk (w.setCell ⟨g, 0, none⟩ a) g t #[a, b0, c0, d0] := h.set_ 0 a
  have h2 : Blk ((w.setCell ⟨g, 0, none⟩ a).setCell ⟨g, 1, none⟩ b) g t #[a, b, c0, d0] := h1.set_ 1 b
  have h3 : Blk (((w.setCell ⟨g, 0, none⟩ a).setCell ⟨g, 1, none⟩ b).setCell ⟨g, 2, none⟩ c) g t #[a, b, c, d0] := h2.set_ 2 c
  exact h3.set_ 3 d
theorem one_only {w' w : World} {g : Nat} (h : w.grownBy w' (some g)) (o : Nat) (u : Value) : w.grownBy (w'.setCell ⟨g, o, none⟩ u) (some g) := only_setCell (p := ⟨g, o, none⟩) h (.inl rfl) u
theorem four_only (w : World) (g : Nat) (a b c d : Value) : w.grownBy (four w g a b c d) (some g) := one_only (one_only (one_only (one_only (only_refl _ _) 0 a) 1 b) 2 c) 3 d

set_option maxRecDepth 100000 in
set_option maxHeartbeats 4000000 in
theorem stackForm_any (g : Nat) (A1 A2 A3 A4 A5 : Option Addr) (n1 c1 n2 c2 n3 c3 n4 c4 n5 c5 : Nat) (vf : Value) (F : FormD) (cl : Cl) (S : Nat → Prop) (w : World) (hSl : ∀ b, S b → b < w.heap.size) (hF : FormB w w.heap.size A1 A2 A3 A4 n1 n2 n3 n4 F)
    (hblk : Blk w g 95 #[.slice A1 n1 c1, .slice A2 n2 c2, .slice A3 n3 c3, .slice A4 n4 c4, .slice A5 n5 c5, vf]) (hc4 : Arr (AtArr AtInt 1) 1 w S A4 n4 F.clauses) (hcl : Arr (AtArr AtInt 1) 1 w S A5 n5 cl) (h4 : n4 ≤ c4) (h4m : c4 ≤ maxLen) (h5 : n5 ≤ c5) (h5m : c5 ≤ maxLen) (h400 : F.clauses.length ≤ 400) (h401 : cl.length ≤ 1000) :
    Calls Try.prog 39 #[.pointer (some ⟨g, 0, none⟩)] w (FormP S w A1 A2 A3 n1 c1 n2 c2 n3 c3 ⟨F.terms, F.ints, F.atoms, F.clauses ++ cl⟩) := by
  have hgw := hblk.lt
  have x0 : w.cell? ⟨g, 0, none⟩ = some (.slice A1 n1 c1) := hblk.cell 0
  have x1 : w.cell? ⟨g, 1, none⟩ = some (.slice A2 n2 c2) := hblk.cell 1
  have x2 : w.cell? ⟨g, 2, none⟩ = some (.slice A3 n3 c3) := hblk.cell 2
  have x3 : w.cell? ⟨g, 3, none⟩ = some (.slice A4 n4 c4) := hblk.cell 3
  have x4 : w.cell? ⟨g, 4, none⟩ = some (.slice A5 n5 c5) := hblk.cell 4
  obtain ⟨hb0, hbk0, hbm0, hs0⟩ := two_boxes w 27 27 #[.slice none 0 0, .slice none 0 0, .slice none 0 0, .slice none 0 0] #[.slice A1 n1 c1, .slice A2 n2 c2, .slice A3 n3 c3, .slice A4 n4 c4]
  have hbg0 := hblk.below hb0 hgw
  have HF := Lib.hid (And.intro hF hSl)
  clear hblk
  go_enter Try.func39, Try.ntmps39
  go_upto_region 2 with fail
  generalize (w.alloc (.cells #[.slice none 0 0, .slice none 0 0, .slice none 0 0, .slice none 0 0] 27)).alloc (.cells #[.slice A1 n1 c1, .slice A2 n2 c2, .slice A3 n3 c3, .slice A4 n4 c4] 27) = X at hb0 hbk0 hbm0 hs0 hbg0 ⊢
  have hz : g < X.heap.size := by omega
  have hne : ¬ g = w.heap.size + 1 := by omega
  have hne' : ¬ w.heap.size + 1 = g := by omega
  have hzs : w.heap.size + 1 < X.heap.size := by omega
  have p3 : X.cell? ⟨g, 3, none⟩ = some (.slice A4 n4 c4) := hbg0.cell 3
  have p4 : X.cell? ⟨g, 4, none⟩ = some (.slice A5 n5 c5) := hbg0.cell 4
  have q0 : X.cell? ⟨w.heap.size + 1, 0, none⟩ = some (.slice A1 n1 c1) := hbm0.cell 0
  have q1 : X.cell? ⟨w.heap.size + 1, 1, none⟩ = some (.slice A2 n2 c2) := hbm0.cell 1
  have q2 : X.cell? ⟨w.heap.size + 1, 2, none⟩ = some (.slice A3 n3 c3) := hbm0.cell 2
  have q3 : X.cell? ⟨w.heap.size + 1, 3, none⟩ = some (.slice A4 n4 c4) := hbm0.cell 3
  have hbx : Below X.heap.size X (X.alloc (.cells #[.slice A4 n4 c4, .slice A5 n5 c5] 25)) := (Below.refl _ _).alloc (Nat.le_refl _) _
  have hbn := Blk.new X 25 #[.slice A4 n4 c4, .slice A5 n5 c5]
  have hbw := hb0.trans (hbx.mono (by omega))
  have HC := Lib.hid (concat_any (some ⟨X.heap.size, 0, none⟩) 2 2 [F.clauses, cl] (fun b => S b ∨ b = X.heap.size) ((X.alloc (.cells #[.slice A4 n4 c4, .slice A5 n5 c5] 25)).drew)
    (fun b hb => hb.elim (fun h => by have := hSl b h; simp; omega) (fun h => by simp; omega)) (Arr.drew (stays_arr (stays_arr stays_int)) (arr_two (.inr rfl) ⟨A4, n4, c4, hbn.cell 0, h4, h4m, hc4.keep (stays_arr stays_int) (fun b hb => .inl hb) (fun b o hb => hbw.cell (p := ⟨b, o, none⟩) (hSl b hb))⟩ ⟨A5, n5, c5, hbn.cell 1, h5, h5m, hcl.keep (stays_arr stays_int) (fun b hb => .inl hb) (fun b o hb => hbw.cell (p := ⟨b, o, none⟩) (hSl b hb))⟩)) (by omega) (by simp only [sumLen]; omega))
  have hbY : Below X.heap.size X ((X.alloc (.cells #[.slice A4 n4 c4, .slice A5 n5 c5] 25)).drew) := below_drewN hbx 1
  have hzY : ((X.alloc (.cells #[.slice A4 n4 c4, .slice A5 n5 c5] 25)).drew).heap.size = X.heap.size + 1 := by simp
  have HX := Lib.hid (And.intro hb0 (And.intro hbk0 (And.intro hbm0 (And.intro hs0 (And.intro hbY hzY)))))
  clear hb0 hbk0 hbm0 hs0 hbg0 x0 x1 x2 x3 x4 hF hcl hc4 hSl hbx hbn hbw hbY hzY
  go_region_held3 (fun w' => w'.cell? ⟨g, 3, none⟩ = some (.slice A4 n4 c4) ∧ w'.cell? ⟨g, 4, none⟩ = some (.slice A5 n5 c5))
    (go_keep)
    (first
      | (go_simp
         go_at_call 53
         refine HC.out.mono ?_
         rintro e w1 ⟨v, rfl, hown, hb1⟩
         obtain ⟨A, c, rfl, hlc, hcm⟩ := hown.len
         have hXw : Below X.heap.size X w1 := HX.out.2.2.2.2.1.trans (hb1.mono (by rw [HX.out.2.2.2.2.2]; omega))
         have zp3 : w1.cell? ⟨g, 3, none⟩ = some (.slice A4 n4 c4) := by rw [hXw.cell (p := ⟨g, 3, none⟩) (by first | omega | (simp; omega))]; exact p3
         have zp4 : w1.cell? ⟨g, 4, none⟩ = some (.slice A5 n5 c5) := by rw [hXw.cell (p := ⟨g, 4, none⟩) (by first | omega | (simp; omega))]; exact p4
         have zq0 : w1.cell? ⟨w.heap.size + 1, 0, none⟩ = some (.slice A1 n1 c1) := by rw [hXw.cell (p := ⟨w.heap.size + 1, 0, none⟩) (by first | omega | (simp; omega))]; exact q0
         have zq1 : w1.cell? ⟨w.heap.size + 1, 1, none⟩ = some (.slice A2 n2 c2) := by rw [hXw.cell (p := ⟨w.heap.size + 1, 1, none⟩) (by first | omega | (simp; omega))]; exact q1
         have zq2 : w1.cell? ⟨w.heap.size + 1, 2, none⟩ = some (.slice A3 n3 c3) := by rw [hXw.cell (p := ⟨w.heap.size + 1, 2, none⟩) (by first | omega | (simp; omega))]; exact q2
         have zq3 : w1.cell? ⟨w.heap.size + 1, 3, none⟩ = some (.slice A4 n4 c4) := by rw [hXw.cell (p := ⟨w.heap.size + 1, 3, none⟩) (by first | omega | (simp; omega))]; exact q3
         have zf : w1.frozen? ⟨w.heap.size + 1, 3, none⟩ = false := by rw [hXw.frozen (p := ⟨w.heap.size + 1, 3, none⟩) (by first | omega | (simp; omega))]; exact HX.out.2.2.1.frozen 3
         have zs : X.heap.size ≤ w1.heap.size := hXw.size)
      | fail)
  obtain ⟨hb0, hbk0, hbm0, hs0, hbY, hzY⟩ := HX.out
  have hbel := (hb0.trans (hXw.mono (by omega))).setCell (p := ⟨w.heap.size + 1, 3, none⟩) (by simp) (.slice A (F.clauses.length + cl.length) c)
  have hbm : Blk (w1.setCell ⟨w.heap.size + 1, 3, none⟩ (.slice A (F.clauses.length + cl.length) c)) (w.heap.size + 1) 27 #[.slice A1 n1 c1, .slice A2 n2 c2, .slice A3 n3 c3, .slice A (F.clauses.length + cl.length) c] := (hbm0.below hXw (by omega)).set_ 3 _
  have hbk := (hbk0.below hXw (by omega)).far (p := ⟨w.heap.size + 1, 3, none⟩) (by show _ ≠ w.heap.size + 1; omega) (.slice A (F.clauses.length + cl.length) c)
  obtain ⟨hF, hSl⟩ := HF.out
  obtain ⟨A', c', he, hcl2, hclm, harr⟩ := hown.reads (E := AtArr AtInt 1) tells_row' (fun _ _ _ _ _ h => atV_arr.1 h) (S' := fun b => S b ∨ (w.heap.size + 2 ≤ b ∧ b < w1.heap.size)) (fun b hb => hb.elim .inl (fun h => .inr (by have h1 := hb1.size; rw [hzY] at h1; omega))) (fun b hb => .inr (by have := hown.lt b hb; omega))
  have e5 : [F.clauses, cl].flatten = F.clauses ++ cl := by simp
  rw [e5] at harr he hcl2
  rw [List.length_append] at harr he hcl2
  simp only [Value.slice.injEq, true_and] at he
  obtain ⟨rfl, rfl⟩ : A = A' ∧ c = c' := by simpa using he
  have harr2 := harr.keep (w' := w1.setCell ⟨w.heap.size + 1, 3, none⟩ (.slice A (F.clauses.length + cl.length) c)) (stays_arr stays_int) (fun b hb => hb) (fun b o hb => World.cell?_of_block (Below.heap_setCell w1 ⟨w.heap.size + 1, 3, none⟩ _ b (by show b ≠ w.heap.size + 1; exact hb.elim (fun h => by have := hSl b h; omega) (fun h => by omega))))
  have hlc' : F.clauses.length + cl.length ≤ c := hcl2
  have hsz2 : (w1.setCell ⟨w.heap.size + 1, 3, none⟩ (.slice A (F.clauses.length + cl.length) c)).heap.size = w1.heap.size := by simp
  have hz1 : w.heap.size + 1 < w1.heap.size := by omega
  have HEND := Lib.hid (And.intro hSl (And.intro hF (And.intro hbel (And.intro hbk (And.intro harr2 hsz2)))))
  have f0 := hbk.frozen 0
  have f1 := hbk.frozen 1
  have f2 := hbk.frozen 2
  have f3 := hbk.frozen 3
  have g0 := hbk.cell 0
  have g1 := hbk.cell 1
  have g2 := hbk.cell 2
  have g3 := hbk.cell 3
  have m0 := hbm.cell 0
  have m1 := hbm.cell 1
  have m2 := hbm.cell 2
  have m3 := hbm.cell 3
  simp only [List.getElem?_toArray, List.getElem?_cons_zero, List.getElem?_cons_succ] at g0 g1 g2 g3 m0 m1 m2 m3
  clear hbel hbk hbm harr2 harr hF hSl hb0 hbk0 hbm0 hs0 hbY hzY HF HX HC hown hb1 hXw he hcl2 e5
  generalize w1.setCell ⟨w.heap.size + 1, 3, none⟩ (.slice A (F.clauses.length + cl.length) c) = Y at *
  clear zp3 zp4 zq0 zq1 zq2 zq3 zf p3 p4 q0 q1 q2 q3
  have hzy : w.heap.size + 1 < Y.heap.size := by omega
  go_wp2_with fail
  obtain ⟨hSl, hF, hbel, hbk, harr, hsz⟩ := HEND.out
  have hbk4 := four_blk hbk (.slice A1 n1 c1) (.slice A2 n2 c2) (.slice A3 n3 c3) (.slice A (F.clauses.length + cl.length) c)
  have hone := four_only Y w.heap.size (.slice A1 n1 c1) (.slice A2 n2 c2) (.slice A3 n3 c3) (.slice A (F.clauses.length + cl.length) c)
  have hbel4 : Below w.heap.size w (four Y w.heap.size (.slice A1 n1 c1) (.slice A2 n2 c2) (.slice A3 n3 c3) (.slice A (F.clauses.length + cl.length) c)) := below_then hbel hone (by omega) (fun x hx => by injection hx; omega)
  have e4 : (((Y.setCell ⟨w.heap.size, 0, none⟩ (.slice A1 n1 c1)).setCell ⟨w.heap.size, 1, none⟩ (.slice A2 n2 c2)).setCell ⟨w.heap.size, 2, none⟩ (.slice A3 n3 c3)).setCell ⟨w.heap.size, 3, none⟩ (.slice A (F.clauses.length + cl.length) c) = four Y w.heap.size (.slice A1 n1 c1) (.slice A2 n2 c2) (.slice A3 n3 c3) (.slice A (F.clauses.length + cl.length) c) := rfl
  clear HEND f0 f1 f2 f3 g0 g1 g2 g3 m0 m1 m2 m3 hbk hbel
  rw [e4]
  clear e4
  generalize four Y w.heap.size (.slice A1 n1 c1) (.slice A2 n2 c2) (.slice A3 n3 c3) (.slice A (F.clauses.length + cl.length) c) = Z at hbk4 hbel4 hone ⊢
  have g0 := hbk4.cell 0
  have g1 := hbk4.cell 1
  have g2 := hbk4.cell 2
  have g3 := hbk4.cell 3
  simp only [List.getElem?_toArray, List.getElem?_cons_zero, List.getElem?_cons_succ] at g0 g1 g2 g3
  refine bodyPost_ret (v := .agg #[.slice A1 n1 c1, .slice A2 n2 c2, .slice A3 n3 c3, .slice A (F.clauses.length + cl.length) c]) (by simp [results, Try.results39, go_sem, g0, g1, g2, g3]) rfl ⟨A, _, c, rfl, ?_, hlc', hbel4, ?_⟩
  · have hF2 := hF.below hbel4 hbel4.size
    exact ⟨hF2.terms, hF2.ints, hF2.atoms, harr.keep (stays_arr stays_int) (fun b hb => by have := hone.size; exact hb.elim (fun h => by have := hSl b h; omega) (fun h => by omega)) (fun b o hb => only_cell hone (hb.elim (fun h => by have := hSl b h; omega) (fun h => by omega)) (fun e => by injection e with e; exact hb.elim (fun h => by have := hSl b h; omega) (fun h => by omega))), hF2.m1, hF2.m2, hF2.m3, by omega⟩
  · refine harr.keep (stays_arr stays_int) (fun b hb => ?_) (fun b o hb => only_cell hone ?_ (fun e => ?_))
    · have := hone.size
      rcases hb with hb | hb
      · exact .inl hb
      · right; omega
    · rcases hb with hb | hb
      · have := hSl b hb; omega
      · omega
    · injection e with e
      rcases hb with hb | hb
      · have := hSl b hb; omega
      · omega
end Go.Proofs.Ytpceiifacendfaa
