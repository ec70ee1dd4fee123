/- Rows that a call builds one by one and keeps in a struct of its own; terms and atoms told by their cells; slices.Clone over Bools. -/
import Derived.Test.YtpceiifacendfaaCore
import Derived.Test.YtpceiifacendfaaFrA
import Derived.Test.YtpceiifacendfaaDataB
import Derived.Test.YtpceiifacendfaaClone
namespace Go.Proofs.Ytpceiifacendfaa
open Go.RowKit

theorem grown_of (w : World) (row : Option Nat) (o : Obj) : w.grownBy (w.alloc o) row := only_alloc (only_refl _ _) o
def SO (H : Nat) (w : World) (v : Value) : Nat → Prop := fun b => H ≤ b ∧ b < w.heap.size ∧ v.ownBlock ≠ some b
/-- since the world W0 only block G, the row v and new blocks have changed; the row v holds xs -/
structure Out {α : Type} (V : Val α) (e sz : Nat) (W0 wr : World) (G : Nat) (v : Value) (xs : List α) : Prop where
  only : W0.grownBy wr (some G)
  lt : G < W0.heap.size
  own : OwnV V e sz wr W0.heap.size (SO W0.heap.size wr v) v xs

section
variable {α : Type} {V : Val α} {E : Ent α} {sz e : Nat} {W0 wr wX w3 : World} {G : Nat} {v v' : Value} {xs : List α}
theorem Out.start (V : Val α) (e sz : Nat) (W0 : World) {G : Nat} (h : G < W0.heap.size) : Out V e sz W0 W0 G (.slice none 0 0) [] := ⟨only_refl _ _, h, OwnV.none_ _ _ _ _ _ _⟩
theorem Out.step (hV : Tells V sz) (h : Out V e sz W0 wr G v xs) (hb : Below wr.heap.size wr wX) : Out V e sz W0 wX G v xs :=
  ⟨only_then h.only (only_of_below hb none) (fun x hx => by cases hx), h.lt, h.own.kept hV (only_of_below hb none) (by cases hv : v.ownBlock <;> simp) (fun b hS => ⟨⟨hS.1, Nat.lt_of_lt_of_le hS.2.1 hb.size, hS.2.2⟩, hS.2.1, by simp⟩)⟩
theorem Out.push (hV : Tells V sz) {x : α} (h : Out V e sz W0 wX G v xs) (hown : OwnV V e sz w3 W0.heap.size (SO W0.heap.size wX v) v' (xs ++ [x])) (hg : wX.grownBy w3 v.ownBlock) (hat : v'.ownBlock = v.ownBlock ∨ v'.ownBlock = some wX.heap.size) (i : Nat) (u : Value) :
    Out V e sz W0 (w3.setCell ⟨G, i, none⟩ u) G v' (xs ++ [x]) := by
  have hlt := h.own.lt
  have hz := h.only.size
  have hGlt := h.lt
  refine ⟨one_only (only_then h.only hg (fun y hy => .inl (hlt y hy).1)) i u, h.lt, ?_⟩
  refine hown.kept hV (one_only (only_refl w3 (some G)) i u) ?_ (fun b hS => ⟨⟨hS.1, ?_, ?_⟩, Nat.lt_of_lt_of_le hS.2.1 hg.size, fun e => by injection e with e; have := hS.1; omega⟩)
  · right
    intro e
    rcases hat with h1 | h1
    · have := (hlt G (by rw [← h1]; exact e)).1; omega
    · rw [h1] at e; injection e with e; omega
  · have := hS.2.1; have := hg.size; simp; omega
  · intro e
    rcases hat with h1 | h1
    · exact hS.2.2 (by rw [← h1]; exact e)
    · rw [h1] at e; injection e with e; have := hS.2.1; omega
theorem Out.done (hV : Tells V sz) (hE : ∀ w S b o x, AtV V w S b o x → E w S b o x) (h : Out V e sz W0 wr G v xs) :
    ∃ A c, v = .slice A xs.length c ∧ xs.length ≤ c ∧ c ≤ maxLen ∧ Arr E sz wr (fun b => W0.heap.size ≤ b ∧ b < wr.heap.size) A xs.length xs := by
  have hlt := h.own.lt
  exact h.own.reads hV hE (fun b hS => ⟨hS.1, hS.2.1⟩) (fun b hb => hlt b hb)
end

section
variable {α : Type} {V : Val α} {sz e : Nat} {W0 wr w3 : World} {G : Nat} {v v1 : Value} {xs : List α} {ks : List Int}
/-- a clone, put into a struct that was made just ahead of it -/
theorem clone_round (hV : Tells V sz) (hout : Out V e sz W0 wr G v1 xs) (o : Obj) (hb1 : Below (wr.alloc o).heap.size (wr.alloc o) w3) (hown : OwnInts w3 (wr.alloc o).heap.size v ks) (j : Nat) :
    ∃ A3 c3, v = .slice A3 ks.length c3 ∧ ks.length ≤ c3 ∧ c3 ≤ maxLen ∧ ∀ (o2 : Obj), Out V e sz W0 ((w3.setCell ⟨wr.heap.size, j, none⟩ (.slice A3 ks.length c3)).alloc o2) G v1 xs ∧
      Below wr.heap.size wr ((w3.setCell ⟨wr.heap.size, j, none⟩ (.slice A3 ks.length c3)).alloc o2) ∧
      Arr AtInt 1 ((w3.setCell ⟨wr.heap.size, j, none⟩ (.slice A3 ks.length c3)).alloc o2) (SO W0.heap.size ((w3.setCell ⟨wr.heap.size, j, none⟩ (.slice A3 ks.length c3)).alloc o2) v1) A3 ks.length ks := by
  obtain ⟨A3, c3, rfl, h1, h2, h3⟩ := hown.reads
  refine ⟨A3, c3, rfl, h1, h2, fun o2 => ?_⟩
  have hlt := hout.own.lt
  have hz := hout.only.size
  have hsz : (wr.alloc o).heap.size = wr.heap.size + 1 := by simp
  rw [hsz] at hb1 h3
  have hz1 := hb1.size
  rw [hsz] at hz1
  have hb : Below wr.heap.size wr ((w3.setCell ⟨wr.heap.size, j, none⟩ (.slice A3 ks.length c3)).alloc o2) := ((((Below.refl _ _).alloc (Nat.le_refl _) o).trans (hb1.mono (by omega))).setCell (p := ⟨wr.heap.size, j, none⟩) (Nat.le_refl _) _).alloc (by simp; omega) o2
  refine ⟨hout.step hV hb, hb, h3.keep stays_int (fun b hb' => ⟨by omega, by simp; omega, fun e => by have := (hlt b e).2; omega⟩) (fun b o' hb' => ?_)⟩
  exact (only_cell (b := b) (o := o') (grown_of (w3.setCell ⟨wr.heap.size, j, none⟩ (.slice A3 ks.length c3)) none o2) (by simpa using hb'.2.1) (by simp)).trans (only_cell (row := some wr.heap.size) (one_only (only_refl w3 _) j _) hb'.2.1 (fun e => by injection e with e; have := hb'.1; omega))
/-- a clone, put into a row -/
theorem clone_item (hV : Tells V sz) (hout : Out V e sz W0 wr G v1 xs) (hb1 : Below wr.heap.size wr w3) (hown : OwnInts w3 wr.heap.size v ks) :
    ∃ A3 c3, v = .slice A3 ks.length c3 ∧ ks.length ≤ c3 ∧ c3 ≤ maxLen ∧ ∀ (o2 : Obj), Out V e sz W0 (w3.alloc o2) G v1 xs ∧ Below wr.heap.size wr (w3.alloc o2) ∧ Arr AtInt 1 (w3.alloc o2) (SO W0.heap.size (w3.alloc o2) v1) A3 ks.length ks := by
  obtain ⟨A3, c3, rfl, h1, h2, h3⟩ := hown.reads
  refine ⟨A3, c3, rfl, h1, h2, fun o2 => ?_⟩
  have hlt := hout.own.lt
  have hz := hout.only.size
  have hz1 := hb1.size
  have hb : Below wr.heap.size wr (w3.alloc o2) := hb1.alloc (by omega) o2
  exact ⟨hout.step hV hb, hb, h3.keep stays_int (fun b hb' => ⟨by omega, by simp; omega, fun e => by have := (hlt b e).2; omega⟩) (fun b o' hb' => only_cell (grown_of w3 none o2) hb'.2.1 (by simp))⟩
end

def VTerm : Val TermD := fun w S cs x => ∃ (A : Option Addr) (n c : Nat), cs = [.int .i64 x.head, .slice A n c] ∧ I64 x.head ∧ n ≤ c ∧ c ≤ maxLen ∧ Arr AtInt 1 w S A n x.kids
def VAtom : Val AtomD := fun w S cs x => ∃ (A : Option Addr) (n c : Nat), cs = [.int .i64 x.kind, .int .i64 x.a, .int .i64 x.b, .slice A n c, .int .i64 x.row.kind, .int .i64 x.row.to_] ∧ (I64 x.kind ∧ I64 x.a ∧ I64 x.b ∧ I64 x.row.kind ∧ I64 x.row.to_) ∧ n ≤ c ∧ c ≤ maxLen ∧ Arr AtInt 1 w S A n x.row.of_
theorem tells_term : Tells VTerm 2 := ⟨fun _ _ _ _ _ _ hS hk h => by
    obtain ⟨A, n, c, h0, h1, h2, h3, h4⟩ := h
    exact ⟨A, n, c, h0, h1, h2, h3, h4.keep stays_int hS hk⟩,
  fun _ _ _ _ h => by obtain ⟨A, n, c, h0, _⟩ := h; rw [h0]; rfl,
  fun _ _ _ _ h u hu => by obtain ⟨A, n, c, h0, _⟩ := h; rw [h0] at hu; simp only [List.mem_cons, List.not_mem_nil, or_false] at hu; rcases hu with rfl | rfl <;> rfl⟩
theorem tells_atom : Tells VAtom 6 := ⟨fun _ _ _ _ _ _ hS hk h => by
    obtain ⟨A, n, c, h0, h1, h2, h3, h4⟩ := h
    exact ⟨A, n, c, h0, h1, h2, h3, h4.keep stays_int hS hk⟩,
  fun _ _ _ _ h => by obtain ⟨A, n, c, h0, _⟩ := h; rw [h0]; rfl,
  fun _ _ _ _ h u hu => by obtain ⟨A, n, c, h0, _⟩ := h; rw [h0] at hu; simp only [List.mem_cons, List.not_mem_nil, or_false] at hu; rcases hu with rfl | rfl | rfl | rfl | rfl | rfl <;> rfl⟩
theorem atV_term {w : World} {S : Nat → Prop} {b o : Nat} {x : TermD} (h : AtV VTerm w S b o x) : AtTerm w S b o x := by
  obtain ⟨cs, ⟨A, n, c, rfl, h1, h2, h3, h4⟩, hc⟩ := h
  exact ⟨⟨hc 0 _ rfl, h1⟩, A, n, c, hc 1 _ rfl, h2, h3, h4⟩
theorem atV_atom {w : World} {S : Nat → Prop} {b o : Nat} {x : AtomD} (h : AtV VAtom w S b o x) : AtAtom w S b o x := by
  obtain ⟨cs, ⟨A, n, c, rfl, ⟨i1, i2, i3, i4, i5⟩, h2, h3, h4⟩, hc⟩ := h
  exact ⟨⟨hc 0 _ rfl, i1⟩, ⟨hc 1 _ rfl, i2⟩, ⟨hc 2 _ rfl, i3⟩, ⟨A, n, c, hc 3 _ rfl, h2, h3, h4⟩, ⟨hc 4 _ rfl, i4⟩, ⟨hc 5 _ rfl, i5⟩⟩

theorem infoBool : (Try.prog.info? 4).map (fun i => (i.zero, i.size, i.bytes)) = some (some (.bool false), 1, 1) := by kernel_rfl
theorem rowBools : RowT Try.prog 23 4 1 1 := rowT_of Try.underlying23 infoBool rfl (by omega)
theorem infoTerm : (Try.prog.info? 72).map (fun i => (i.zero, i.size, i.bytes)) = some (some (.agg #[.int .i64 0, .slice none 0 0]), 2, 32) := by kernel_rfl
theorem rowTerms : RowT Try.prog 22 72 2 32 := rowT_of Try.underlying22 infoTerm rfl (by omega)
theorem infoAtom : (Try.prog.info? 35).map (fun i => (i.zero, i.size, i.bytes)) = some (some (.agg #[.int .i64 0, .int .i64 0, .int .i64 0, .slice none 0 0, .int .i64 0, .int .i64 0]), 6, 64) := by kernel_rfl
theorem rowAtoms : RowT Try.prog 24 35 6 64 := rowT_of Try.underlying24 infoAtom rfl (by omega)

theorem cels_bool {w w' : World} {S S' : Nat → Prop} : ∀ (xs : List Bool) (cs : List Value), Cels VBool w S xs cs → Cels VBool w' S' xs cs
  | [], _, h => h
  | _ :: r, _, h => by
    obtain ⟨c0, c1, rfl, h0, h1⟩ := h
    exact ⟨c0, c1, rfl, h0, cels_bool r c1 h1⟩

def CloneBP (base : Nat) (xs : List Bool) (w : World) (e : Ending) (w' : World) : Prop := ∃ v, e = .returned v ∧ OwnV VBool 4 1 w' base (fun _ => False) v xs ∧ Below w.heap.size w w'

set_option maxRecDepth 100000 in
set_option maxHeartbeats 1000000 in
theorem cloneBools_any (A : Option Addr) (n c : Nat) (xs : List Bool) (w : World) (hxs : ArrB AtBool 1 w w.heap.size A n xs) (hn : n ≤ 1000000) :
    Calls Try.prog 37 #[.slice A n c] w (CloneBP w.heap.size xs w) := by
  have q40 : ∀ (w : World) (a : Option Addr) (n c n' c' : Nat), (binOp .eql 23 (.slice a n c) (.slice none n' c')).run Try.prog w = .ok (.bool a.isNone) w := fun w a n c n' c' => Lib.run_eql_slice_nil w _ _ a n c n' c' Try.underlying23
  have hl := hxs.len
  subst hl
  rcases A with _ | ad
  · have h0 : xs = [] := by
      cases xs with
      | nil => rfl
      | cons x r => obtain ⟨b, off, _, e, _⟩ := Arr.get hxs (show 0 < (x :: r).length by simp); cases e
    subst h0
    go_enter Try.func37, Try.ntmps37
    go_wp2
    go_ret
    exact ⟨_, rfl, OwnV.none_ _ _ _ _ _ _, Below.refl _ _⟩
  · have hx2 : ArrB AtBool 1 (w.alloc (.cells #[] 4)) w.heap.size (some ad) xs.length xs := hxs.alloc stays_bool (Nat.le_refl _) _
    obtain ⟨ds, hds, hdl, hd1, hdc⟩ := hx2.news tells_bool (fun _ _ _ _ _ h => atV_bool.2 h)
    obtain ⟨i0, hi0, hz0, hz1, hz2⟩ := info_parts infoBool
    have HI := Lib.hid (And.intro hi0 (And.intro hz0 (And.intro hz1 hz2)))
    have HX := Lib.hid (And.intro hds (And.intro hdl (And.intro hd1 hdc)))
    clear hi0 hz0 hz1 hz2 hxs hx2 hds hdl hd1 hdc
    go_enter Try.func37, Try.ntmps37
    go_wp2_with (at_builtin; go_loud (refine wpList_append_own_at _ rfl (.tmp 5) (.tmp 6) 23 rfl w.heap.size 4 i0 _ 1 1 Try.underlying23 HI.out.1 HI.out.2.1 HI.out.2.2.1 HI.out.2.2.2 rfl (by omega) (.slice (some ⟨w.heap.size, 0, none⟩) 0 0) 0 [] rfl ⟨rfl, .inr ⟨_, 0, #[], rfl, Nat.le_refl _, heap_alloc_new w _, by omega, by omega, rfl, rfl⟩⟩ ad xs.length c ds rfl HX.out.2.1 HX.out.2.2.2 HX.out.2.2.1 (by unfold maxLen; omega) (by omega) (by simp) ?_); intro v' w1 hown hgrow _ hat)
    go_ret
    have hb := below_then (B := w.heap.size) ((Below.refl _ _).alloc (Nat.le_refl _) _) hgrow (by simp) (fun x hx => by simp [Value.ownBlock] at hx; omega)
    refine ⟨v', rfl, ⟨ds, by simpa using hown, ?_⟩, hb⟩
    exact cels_bool xs ds HX.out.1
end Go.Proofs.Ytpceiifacendfaa
