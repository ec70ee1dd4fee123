/- Walks: rows of cells and of values; slices.Clone over cells; numbers, truths and copies as values. · Walks: numbers, truths and copies as values; what an array has at a thing; tests of values. -/
import Derived.Test.YthooecojopfjbaaPlainV
import Derived.Test.YthooecojopfjbaaCore
import Derived.Test.YthooecojopfjbaaFuncs
import Derived.Lib.SliceRun
import Derived.Test.YthooecojopfjbaaFracE
namespace Go.Proofs.Ythooecojopfjbaa
open Go.RowKit

def VCell : Val CellD := fun _ _ cs x => cs = [.int .i64 x.at_, .int .i64 x.it] ∧ I64 x.at_ ∧ I64 x.it
def VValue : Val ValueD := fun w S cs x => ∃ (A : Option Addr) (n c : Nat), cs = [.int .i64 x.num, .int .i64 x.den, .slice A n c, .int .i64 x.rest] ∧ (I64 x.num ∧ I64 x.den ∧ I64 x.rest) ∧ n ≤ c ∧ c ≤ maxLen ∧ Arr AtCell 2 w S A n x.cells
theorem tells_cell : Tells VCell 2 := ⟨fun _ _ _ _ _ _ _ _ h => h, fun _ _ _ _ h => by rw [h.1]; rfl, fun _ _ _ _ h u hu => by rw [h.1] at hu; simp only [List.mem_cons, List.not_mem_nil, or_false] at hu; rcases hu with rfl | rfl <;> rfl⟩
theorem tells_value : Tells VValue 4 := ⟨fun _ _ _ _ _ _ hS hk h => by
    obtain ⟨A, n, c, h0, h1, h2, h3, h4⟩ := h
    exact ⟨A, n, c, h0, h1, h2, h3, h4.keep stays_cell hS hk⟩,
  fun _ _ _ _ h => by obtain ⟨A, n, c, h0, _⟩ := h; rw [h0]; rfl,
  fun _ _ _ _ h u hu => by obtain ⟨A, n, c, h0, _⟩ := h; rw [h0] at hu; simp only [List.mem_cons, List.not_mem_nil, or_false] at hu; rcases hu with rfl | rfl | rfl | rfl <;> rfl⟩
theorem atV_cell {w : World} {S : Nat → Prop} {b o : Nat} {x : CellD} : AtV VCell w S b o x ↔ AtCell w S b o x :=
  ⟨fun ⟨cs, ⟨h0, h1, h2⟩, hc⟩ => by rw [h0] at hc; exact ⟨⟨hc 0 _ rfl, h1⟩, hc 1 _ rfl, h2⟩, fun ⟨⟨h0, h1⟩, h2, h3⟩ => ⟨_, ⟨rfl, h1, h3⟩, fun j u hj => by
    rcases j with _ | _ | j
    · simp only [List.getElem?_cons_zero, Option.some.injEq] at hj
      rw [← hj]; exact h0
    · simp only [Nat.zero_add, List.getElem?_cons_succ, List.getElem?_cons_zero, Option.some.injEq] at hj
      rw [← hj]; exact h2
    · simp at hj⟩⟩
theorem atV_value {w : World} {S : Nat → Prop} {b o : Nat} {x : ValueD} (h : AtV VValue w S b o x) : AtValue w S b o x := by
  obtain ⟨cs, ⟨A, n, c, rfl, ⟨i1, i2, i3⟩, h2, h3, h4⟩, hc⟩ := h
  exact ⟨⟨hc 0 _ rfl, i1⟩, ⟨hc 1 _ rfl, i2⟩, ⟨A, n, c, hc 2 _ rfl, h2, h3, h4⟩, hc 3 _ rfl, i3⟩
theorem infoCell : (Try.prog.info? 93).map (fun i => (i.zero, i.size, i.bytes)) = some (some (.agg #[.int .i64 0, .int .i64 0]), 2, 16) := by kernel_rfl
theorem rowCells : RowT Try.prog 52 93 2 16 := rowT_of Try.underlying52 infoCell rfl (by omega)
theorem infoValue : (Try.prog.info? 54).map (fun i => (i.zero, i.size, i.bytes)) = some (some (.agg #[.int .i64 0, .int .i64 0, .slice none 0 0, .int .i64 0]), 4, 48) := by kernel_rfl
theorem rowValues : RowT Try.prog 42 54 4 48 := rowT_of Try.underlying42 infoValue rfl (by omega)
theorem cels_cell {w w' : World} {S S' : Nat → Prop} : ∀ (xs : List CellD) (cs : List Value), Cels VCell w S xs cs → Cels VCell w' S' xs cs
  | [], _, h => h
  | _ :: r, _, h => by
    obtain ⟨c0, c1, rfl, h0, h1⟩ := h
    exact ⟨c0, c1, rfl, h0, cels_cell r c1 h1⟩
theorem info_partsV {P : Program} {t : TypeId} {z : Value} {sz bytes : Nat} (hi : (P.info? t).map (fun i => (i.zero, i.size, i.bytes)) = some (some z, sz, bytes)) : ∃ i, P.info? t = some i ∧ i.zero = some z ∧ i.size = sz ∧ i.bytes = bytes := by
  cases h : P.info? t with
  | none => rw [h] at hi; cases hi
  | some i =>
    rw [h] at hi
    simp only [Option.map_some, Option.some.injEq, Prod.mk.injEq] at hi
    exact ⟨i, rfl, hi⟩

/-- a clone: cells in new memory -/
def CloneCP (xs : List CellD) (w : World) (e : Ending) (w' : World) : Prop := ∃ (A : Option Addr) (c : Nat), e = .returned (.slice A xs.length c) ∧ xs.length ≤ c ∧ c ≤ maxLen ∧ Arr AtCell 2 w' (fun b => w.heap.size ≤ b ∧ b < w'.heap.size) A xs.length xs ∧ Below w.heap.size w w'

set_option maxRecDepth 100000 in
set_option maxHeartbeats 1000000 in
theorem cloneCells_any (A : Option Addr) (n c : Nat) (xs : List CellD) (w : World) (hxs : ArrB AtCell 2 w w.heap.size A n xs) (hn : n ≤ 1000000) :
    Calls Try.prog 97 #[.slice A n c] w (CloneCP xs w) := by
  have q40 : ∀ (w : World) (a : Option Addr) (n c n' c' : Nat), (binOp .eql 52 (.slice a n c) (.slice none n' c')).run Try.prog w = .ok (.bool a.isNone) w := fun w a n c n' c' => Lib.run_eql_slice_nil w _ _ a n c n' c' Try.underlying52
  have hl := hxs.len
  subst hl
  rcases A with _ | ad
  · have h0 : xs = [] := by
      cases xs with
      | nil => rfl
      | cons x r => obtain ⟨b, off, _, e, _⟩ := Arr.get hxs (show 0 < (x :: r).length by simp); cases e
    subst h0
    go_enter Try.func97, Try.ntmps97
    go_wp2
    go_ret
    exact ⟨none, 0, rfl, Nat.le_refl _, Nat.zero_le _, Arr.nil_, Below.refl _ _⟩
  · have hx2 : ArrB AtCell 2 (w.alloc (.cells #[] 93)) w.heap.size (some ad) xs.length xs := hxs.alloc stays_cell (Nat.le_refl _) _
    obtain ⟨ds, hds, hdl, hd1, hdc⟩ := hx2.news tells_cell (fun _ _ _ _ _ h => atV_cell.2 h)
    obtain ⟨i0, hi0, hz0, hz1, hz2⟩ := info_parts infoCell
    have HI := Lib.hid (And.intro hi0 (And.intro hz0 (And.intro hz1 hz2)))
    have HX := Lib.hid (And.intro hds (And.intro hdl (And.intro hd1 hdc)))
    clear hi0 hz0 hz1 hz2 hxs hx2 hds hdl hd1 hdc
    go_enter Try.func97, Try.ntmps97
    go_wp2_with (at_builtin; go_loud (refine wpList_append_own_at _ rfl (.tmp 5) (.tmp 6) 52 rfl w.heap.size 93 i0 _ 2 16 Try.underlying52 HI.out.1 HI.out.2.1 HI.out.2.2.1 HI.out.2.2.2 rfl (by omega) (.slice (some ⟨w.heap.size, 0, none⟩) 0 0) 0 [] rfl ⟨rfl, .inr ⟨_, 0, #[], rfl, Nat.le_refl _, heap_alloc_new w _, by omega, by omega, rfl, rfl⟩⟩ ad xs.length c ds rfl HX.out.2.1 HX.out.2.2.2 HX.out.2.2.1 (by unfold maxLen; omega) (by omega) (by simp) ?_); intro v' w1 hown hgrow _ hat)
    go_ret
    have hb := below_then (B := w.heap.size) ((Below.refl _ _).alloc (Nat.le_refl _) _) hgrow (by simp) (fun x hx => by simp [Value.ownBlock] at hx; omega)
    have hO : OwnV VCell 93 2 w1 w.heap.size (fun _ => False) v' xs := ⟨ds, by simpa using hown, cels_cell xs ds HX.out.1⟩
    obtain ⟨A', c', rfl, h1, h2, h3⟩ := hO.reads (S' := fun b => w.heap.size ≤ b ∧ b < w1.heap.size) tells_cell (fun _ _ _ _ _ h => atV_cell.1 h) (fun _ h => h.elim) (fun g hg => hO.lt g hg)
    exact ⟨A', c', rfl, h1, h2, h3, hb⟩
end Go.Proofs.Ythooecojopfjbaa
namespace Go.Proofs.Ythooecojopfjbaa
open Go.RowKit

set_option maxRecDepth 100000 in
set_option maxHeartbeats 1000000 in
theorem num_any (n : Int) (w : World) : Calls Try.prog 106 #[.int .i64 n] w fun e w' => e = .returned (.agg #[.int .i64 n, .int .i64 1, .slice none 0 0, .int .i64 0]) ∧ Below w.heap.size w w' := by
  go_enter Try.func106, Try.ntmps106
  go_wp2_with fail
  refine bodyPost_ret (v := .agg #[.int .i64 n, .int .i64 1, .slice none 0 0, .int .i64 0]) (by simp [results, Try.results106, go_sem]) rfl ⟨rfl, ?_⟩
  exact (Below.refl _ _).alloc (Nat.le_refl _) _

/-- four cells of a block, written whole -/
def put4 (w : World) (g : Nat) (a b c d : Value) : World := (((w.setCell ⟨g, 0, none⟩ a).setCell ⟨g, 1, none⟩ b).setCell ⟨g, 2, none⟩ c).setCell ⟨g, 3, none⟩ d
theorem put4_blk {w : World} {g : Nat} {t : TypeId} {a0 b0 c0 d0 : Value} (h : Blk w g t #[a0, b0, c0, d0]) (a b c d : Value) : Blk (put4 w g a b c d) g t #[a, b, c, d] := by
  have h1 : Blk (w.setCell ⟨g, 0, none⟩ a) g t #[a, b0, c0, d0] := h.set_ 0 a
  have h2 : Blk ((w.setCell ⟨g, 0, none⟩ a).setCell ⟨g, 1, none⟩ b) g t #[a, b, c0, d0] := h1.set_ 1 b
  have h3 : Blk (((w.setCell ⟨g, 0, none⟩ a).setCell ⟨g, 1, none⟩ b).setCell ⟨g, 2, none⟩ c) g t #[a, b, c, d0] := h2.set_ 2 c
  exact h3.set_ 3 d
theorem put4_below {w0 w : World} {B g : Nat} (h : Below B w0 w) (hg : B ≤ g) (a b c d : Value) : Below B w0 (put4 w g a b c d) :=
  (((h.setCell (p := ⟨g, 0, none⟩) hg a).setCell (p := ⟨g, 1, none⟩) hg b).setCell (p := ⟨g, 2, none⟩) hg c).setCell (p := ⟨g, 3, none⟩) hg d
theorem put4_only {w0 w : World} {g : Nat} (h : w0.grownBy w (some g)) (a b c d : Value) : w0.grownBy (put4 w g a b c d) (some g) := one_only (one_only (one_only (one_only h 0 a) 1 b) 2 c) 3 d

set_option maxRecDepth 100000 in
set_option maxHeartbeats 1000000 in
theorem truth_any (b : Bool) (w : World) : Calls Try.prog 101 #[.bool b] w fun e w' => e = .returned (.agg #[.int .i64 (bitN b), .int .i64 1, .slice none 0 0, .int .i64 0]) ∧ Below w.heap.size w w' := by
  have hb := (Below.refl w.heap.size w).alloc (Nat.le_refl _) (.cells #[.int .i64 0, .int .i64 0, .slice none 0 0, .int .i64 0] 54)
  have hk := Blk.new w 54 #[.int .i64 0, .int .i64 0, .slice none 0 0, .int .i64 0]
  have HX := Lib.hid (And.intro hb hk)
  clear hb hk
  cases b
  all_goals
    go_enter Try.func101, Try.ntmps101
    go_wp2_with fail
    refine (num_any _ _).mono ?_
    rintro e w1 ⟨rfl, hb1⟩
    obtain ⟨hb, hk⟩ := HX.out
    have hk1 := hk.below hb1 (by simp)
    have hz : w.heap.size < w1.heap.size := hk1.lt
    have HB := Lib.hid (And.intro (hb.trans (hb1.mono (by simp))) hk1)
    have c0 : w1.cell? ⟨w.heap.size, 0, none⟩ = some (.int .i64 0) := hk1.cell 0
    have c1 : w1.cell? ⟨w.heap.size, 1, none⟩ = some (.int .i64 0) := hk1.cell 1
    have c2 : w1.cell? ⟨w.heap.size, 2, none⟩ = some (.slice none 0 0) := hk1.cell 2
    have c3 : w1.cell? ⟨w.heap.size, 3, none⟩ = some (.int .i64 0) := hk1.cell 3
    have v0 : w1.frozen? ⟨w.heap.size, 0, none⟩ = false := hk1.frozen 0
    have v1 : w1.frozen? ⟨w.heap.size, 1, none⟩ = false := hk1.frozen 1
    have v2 : w1.frozen? ⟨w.heap.size, 2, none⟩ = false := hk1.frozen 2
    have v3 : w1.frozen? ⟨w.heap.size, 3, none⟩ = false := hk1.frozen 3
    clear hb hk hb1 hk1 HX
    go_wp2_with fail
    clear c0 c1 c2 c3 v0 v1 v2 v3
  · have hz1 := put4_blk HB.out.2 (.int .i64 0) (.int .i64 1) (.slice none 0 0) (.int .i64 0)
    have hz2 := put4_below HB.out.1 (Nat.le_refl _) (.int .i64 0) (.int .i64 1) (.slice none 0 0) (.int .i64 0)
    have e4 : (((w1.setCell ⟨w.heap.size, 0, none⟩ (.int .i64 0)).setCell ⟨w.heap.size, 1, none⟩ (.int .i64 1)).setCell ⟨w.heap.size, 2, none⟩ (.slice none 0 0)).setCell ⟨w.heap.size, 3, none⟩ (.int .i64 0) = put4 w1 w.heap.size (.int .i64 0) (.int .i64 1) (.slice none 0 0) (.int .i64 0) := rfl
    rw [e4]
    clear e4
    generalize put4 w1 w.heap.size (.int .i64 0) (.int .i64 1) (.slice none 0 0) (.int .i64 0) = Z at hz1 hz2 ⊢
    have d0 := hz1.cell 0
    have d1 := hz1.cell 1
    have d2 := hz1.cell 2
    have d3 := hz1.cell 3
    simp only [List.getElem?_toArray, List.getElem?_cons_zero, List.getElem?_cons_succ] at d0 d1 d2 d3
    exact bodyPost_ret (v := .agg #[.int .i64 0, .int .i64 1, .slice none 0 0, .int .i64 0]) (by simp [results, Try.results101, go_sem, d0, d1, d2, d3]) rfl ⟨rfl, hz2⟩
  · have hz1 := put4_blk HB.out.2 (.int .i64 1) (.int .i64 1) (.slice none 0 0) (.int .i64 0)
    have hz2 := put4_below HB.out.1 (Nat.le_refl _) (.int .i64 1) (.int .i64 1) (.slice none 0 0) (.int .i64 0)
    have e4 : (((w1.setCell ⟨w.heap.size, 0, none⟩ (.int .i64 1)).setCell ⟨w.heap.size, 1, none⟩ (.int .i64 1)).setCell ⟨w.heap.size, 2, none⟩ (.slice none 0 0)).setCell ⟨w.heap.size, 3, none⟩ (.int .i64 0) = put4 w1 w.heap.size (.int .i64 1) (.int .i64 1) (.slice none 0 0) (.int .i64 0) := rfl
    rw [e4]
    clear e4
    generalize put4 w1 w.heap.size (.int .i64 1) (.int .i64 1) (.slice none 0 0) (.int .i64 0) = Z at hz1 hz2 ⊢
    have d0 := hz1.cell 0
    have d1 := hz1.cell 1
    have d2 := hz1.cell 2
    have d3 := hz1.cell 3
    simp only [List.getElem?_toArray, List.getElem?_cons_zero, List.getElem?_cons_succ] at d0 d1 d2 d3
    exact bodyPost_ret (v := .agg #[.int .i64 1, .int .i64 1, .slice none 0 0, .int .i64 0]) (by simp [results, Try.results101, go_sem, d0, d1, d2, d3]) rfl ⟨rfl, hz2⟩

/-- a value whose cells lie in new memory -/
def NewV (x : ValueD) (w : World) (e : Ending) (w' : World) : Prop := ∃ (A : Option Addr) (c : Nat), e = .returned (.agg #[.int .i64 x.num, .int .i64 x.den, .slice A x.cells.length c, .int .i64 x.rest]) ∧ x.cells.length ≤ c ∧ c ≤ maxLen ∧ Arr AtCell 2 w' (fun b => w.heap.size ≤ b ∧ b < w'.heap.size) A x.cells.length x.cells ∧ Below w.heap.size w w'

set_option maxRecDepth 100000 in
set_option maxHeartbeats 1000000 in
theorem copied_any (num den rest : Int) (A : Option Addr) (n c : Nat) (xs : List CellD) (w : World) (hxs : ArrB AtCell 2 w w.heap.size A n xs) (hn : n ≤ 1000000) :
    Calls Try.prog 73 #[.agg #[.int .i64 num, .int .i64 den, .slice A n c, .int .i64 rest]] w (NewV ⟨num, den, xs, rest⟩ w) := by
  obtain ⟨hb0, hk0, hm0, hs0⟩ := two_boxes w 54 54 #[.int .i64 num, .int .i64 den, .slice A n c, .int .i64 rest] #[.int .i64 0, .int .i64 0, .slice none 0 0, .int .i64 0]
  obtain ⟨X, hX⟩ : ∃ X, (w.alloc (.cells #[.int .i64 num, .int .i64 den, .slice A n c, .int .i64 rest] 54)).alloc (.cells #[.int .i64 0, .int .i64 0, .slice none 0 0, .int .i64 0] 54) = X := ⟨_, rfl⟩
  rw [hX] at hb0 hk0 hm0 hs0
  have HC := Lib.hid (cloneCells_any A n c xs X (hxs.below stays_cell hb0 hb0.size) hn)
  have HX := Lib.hid hX
  have HK := Lib.hid (And.intro hb0 (And.intro hk0 (And.intro hm0 hs0)))
  clear hxs hb0 hk0 hm0 hs0 hX
  go_enter Try.func73, Try.ntmps73
  go_wp2_with fail
  rw [HX.out]
  refine HC.out.mono ?_
  rintro e w1 ⟨A1, c1, rfl, h1, h2, h3, hb1⟩
  obtain ⟨hb0, hk0, hm0, hs0⟩ := HK.out
  have hk1 := hk0.below hb1 (by omega)
  have hm1 := hm0.below hb1 (by omega)
  have hbw := hb0.trans (hb1.mono (by omega))
  have hz : w.heap.size + 1 < w1.heap.size := hm1.lt
  have HM := Lib.hid (put4_blk (hm1.far (p := ⟨w.heap.size, 2, none⟩) (by show w.heap.size + 1 ≠ w.heap.size; omega) (.slice A1 xs.length c1)) (.int .i64 num) (.int .i64 den) (.slice A1 xs.length c1) (.int .i64 rest))
  have hB2 := put4_below (hbw.setCell (p := ⟨w.heap.size, 2, none⟩) (Nat.le_refl _) (.slice A1 xs.length c1)) (show w.heap.size ≤ w.heap.size + 1 by omega) (.int .i64 num) (.int .i64 den) (.slice A1 xs.length c1) (.int .i64 rest)
  have hA2 : Arr AtCell 2 (put4 (w1.setCell ⟨w.heap.size, 2, none⟩ (.slice A1 xs.length c1)) (w.heap.size + 1) (.int .i64 num) (.int .i64 den) (.slice A1 xs.length c1) (.int .i64 rest)) (fun b => w.heap.size ≤ b ∧ b < (put4 (w1.setCell ⟨w.heap.size, 2, none⟩ (.slice A1 xs.length c1)) (w.heap.size + 1) (.int .i64 num) (.int .i64 den) (.slice A1 xs.length c1) (.int .i64 rest)).heap.size) A1 xs.length xs :=
    h3.keep stays_cell (fun b hb => ⟨by omega, Nat.lt_of_lt_of_le hb.2 (by unfold put4; simp)⟩) (fun b o hb =>
      (only_cell (row := some (w.heap.size + 1)) (put4_only (only_refl _ _) _ _ _ _) (by simpa using hb.2) (by simp; omega)).trans (only_cell (row := some w.heap.size) (one_only (only_refl w1 _) 2 _) hb.2 (by simp; omega)))
  have HA := Lib.hid (And.intro hB2 hA2)
  have c2 : w1.cell? ⟨w.heap.size, 2, none⟩ = some (.slice A n c) := hk1.cell 2
  have c0 : w1.cell? ⟨w.heap.size, 0, none⟩ = some (.int .i64 num) := hk1.cell 0
  have c1' : w1.cell? ⟨w.heap.size, 1, none⟩ = some (.int .i64 den) := hk1.cell 1
  have c3 : w1.cell? ⟨w.heap.size, 3, none⟩ = some (.int .i64 rest) := hk1.cell 3
  have v2 : w1.frozen? ⟨w.heap.size, 2, none⟩ = false := hk1.frozen 2
  have d0 : w1.cell? ⟨w.heap.size + 1, 0, none⟩ = some (.int .i64 0) := hm1.cell 0
  have d1 : w1.cell? ⟨w.heap.size + 1, 1, none⟩ = some (.int .i64 0) := hm1.cell 1
  have d2 : w1.cell? ⟨w.heap.size + 1, 2, none⟩ = some (.slice none 0 0) := hm1.cell 2
  have d3 : w1.cell? ⟨w.heap.size + 1, 3, none⟩ = some (.int .i64 0) := hm1.cell 3
  have u0 : w1.frozen? ⟨w.heap.size + 1, 0, none⟩ = false := hm1.frozen 0
  have u1 : w1.frozen? ⟨w.heap.size + 1, 1, none⟩ = false := hm1.frozen 1
  have u2 : w1.frozen? ⟨w.heap.size + 1, 2, none⟩ = false := hm1.frozen 2
  have u3 : w1.frozen? ⟨w.heap.size + 1, 3, none⟩ = false := hm1.frozen 3
  have HE := Lib.hid (And.intro h1 h2)
  clear hb0 hk0 hm0 hs0 hk1 hm1 hbw hb1 h3 hB2 hA2 h1 h2
  go_wp2_with fail
  clear c0 c1' c2 c3 v2 d0 d1 d2 d3 u0 u1 u2 u3
  have hz1 := HM.out
  have hz2 := HA.out
  have e4 : ((((w1.setCell ⟨w.heap.size, 2, none⟩ (.slice A1 xs.length c1)).setCell ⟨w.heap.size + 1, 0, none⟩ (.int .i64 num)).setCell ⟨w.heap.size + 1, 1, none⟩ (.int .i64 den)).setCell ⟨w.heap.size + 1, 2, none⟩ (.slice A1 xs.length c1)).setCell ⟨w.heap.size + 1, 3, none⟩ (.int .i64 rest) = put4 (w1.setCell ⟨w.heap.size, 2, none⟩ (.slice A1 xs.length c1)) (w.heap.size + 1) (.int .i64 num) (.int .i64 den) (.slice A1 xs.length c1) (.int .i64 rest) := rfl
  rw [e4]
  clear e4 HM HA
  generalize put4 (w1.setCell ⟨w.heap.size, 2, none⟩ (.slice A1 xs.length c1)) (w.heap.size + 1) (.int .i64 num) (.int .i64 den) (.slice A1 xs.length c1) (.int .i64 rest) = Z at hz1 hz2 ⊢
  have d0 := hz1.cell 0
  have d1 := hz1.cell 1
  have d2 := hz1.cell 2
  have d3 := hz1.cell 3
  simp only [List.getElem?_toArray, List.getElem?_cons_zero, List.getElem?_cons_succ] at d0 d1 d2 d3
  exact bodyPost_ret (v := .agg #[.int .i64 num, .int .i64 den, .slice A1 xs.length c1, .int .i64 rest]) (by simp [results, Try.results73, go_sem, d0, d1, d2, d3]) rfl ⟨A1, c1, rfl, HE.out.1, HE.out.2, hz2.2, hz2.1⟩

set_option maxRecDepth 100000 in
set_option maxHeartbeats 1000000 in
theorem get_any (num den rest a : Int) (A : Option Addr) (n c : Nat) (xs : List CellD) (R : Int) (w : World) (hxs : ArrB AtCell 2 w w.heap.size A n xs) (hn : n ≤ 1000000) (hR : getF a rest xs = R) :
    Calls Try.prog 107 #[.agg #[.int .i64 num, .int .i64 den, .slice A n c, .int .i64 rest], .int .i64 a] w fun e w' => e = .returned (.int .i64 R) ∧ Below w.heap.size w w' := by
  have hb0 : Below w.heap.size w (w.alloc (.cells #[.int .i64 num, .int .i64 den, .slice A n c, .int .i64 rest] 54)) := (Below.refl _ _).alloc (Nat.le_refl _) _
  have hk0 := Blk.new w 54 #[.int .i64 num, .int .i64 den, .slice A n c, .int .i64 rest]
  have HXS := Lib.hid hxs
  have HR := Lib.hid hR
  have HL := Lib.hid hxs.len
  have HX := Lib.hid (And.intro hb0 hk0)
  clear hxs hR hb0 hk0
  go_enter Try.func107, Try.ntmps107
  go_wp2_with fail
  go_loopw [10] (fun s wr => ∃ k : Nat, k ≤ n ∧ s = .int .i64 k ∧ Below w.heap.size w wr ∧ Blk wr w.heap.size 54 #[.int .i64 num, .int .i64 den, .slice A n c, .int .i64 rest] ∧ Hid (getF a rest (xs.drop k) = R)) (fun s _ => n - (intOf s).toNat)
  case atStart => exact ⟨0, Nat.zero_le _, rfl, HX.out.1, HX.out.2, HR⟩
  case round =>
    obtain ⟨k, hk, rfl, hbel, hbf, HK⟩ := hrel
    have hz : w.heap.size < wr.heap.size := hbf.lt
    by_cases hlt : k < n
    · obtain ⟨b, off, hx, rfl, hb, hc0, hc1, -, -⟩ := cells_get (HXS.out.below stays_cell hbel (Nat.le_refl _)) hlt
      have e1 := HK.out
      rw [drop_cons hx, getF] at e1
      generalize xs[k] = y at e1 hc0 hc1
      obtain ⟨ya, yi⟩ := y
      dsimp only at e1 hc0 hc1
      have HW := Lib.hid (And.intro (hbel.alloc (Nat.le_of_lt hz) (.cells #[.int .i64 ya, .int .i64 yi] 93)) (hbf.alloc (.cells #[.int .i64 ya, .int .i64 yi] 93)))
      clear HK hx hbel hbf hb
      by_cases hy : ya = a
      · rw [if_pos hy] at e1
        have hq : (ya == a) = true := by simpa using hy
        have H1 := Lib.hid e1
        clear e1 hy
        go_wp2_with fail
        go_ret
        exact ⟨ret_int H1.out, HW.out.1⟩
      · rw [if_neg hy] at e1
        have hq : (ya == a) = false := by simpa using hy
        have H1 := Lib.hid e1
        clear e1 hy
        go_wp2_with fail
        go_roundw
        case rel => exact ⟨k + 1, by omega, by go_num, HW.out.1, HW.out.2, H1⟩
        case measure => simp [intOf]; omega
    · obtain rfl : n = k := by omega
      have e1 := HK.out
      rw [List.drop_of_length_le (by have := HL.out; omega), getF] at e1
      have H1 := Lib.hid e1
      have r3 : wr.cell? ⟨w.heap.size, 3, none⟩ = some (.int .i64 rest) := hbf.cell 3
      have HB := Lib.hid hbel
      clear e1 HK hbf hbel
      go_wp2_with fail
      go_ret
      exact ⟨ret_int H1.out, HB.out⟩
end Go.Proofs.Ythooecojopfjbaa
