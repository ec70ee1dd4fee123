/- Rows that a call builds one by one and keeps in a struct of its own; terms and atoms told by their cells. -/
import Derived.Test.YtdncchlfeanlmaaCore
import Derived.Test.YtdncchlfeanlmaaDataB
import Derived.Test.YtdncchlfeanlmaaFuncs
namespace Go.Proofs.Ytdncchlfeanlmaa
open Go.RowKit

def SO (H : Nat) (w : World) (v : Value) : Nat → Prop := fun b => H ≤ b ∧ b < w.heap.size ∧ v.ownBlock ≠ some b
/-- since the world W0 only block G, the row v and new blocks have changed; the row v holds xs -/
structure Out {α : Type} (V : Val α) (e sz : Nat) (W0 wr : World) (G : Nat) (v : Value) (xs : List α) : Prop where
  only : W0.grownBy wr (some G)
  lt : G < W0.heap.size
  own : OwnV V e sz wr W0.heap.size (SO W0.heap.size wr v) v xs

section
variable {α : Type} {V : Val α} {E : Ent α} {sz e : Nat} {W0 wr wX w3 : World} {G : Nat} {v v' : Value} {xs : List α}
theorem Out.start (V : Val α) (e sz : Nat) (W0 : World) {G : Nat} (h : G < W0.heap.size) : Out V e sz W0 W0 G (.slice none 0 0) [] := ⟨only_refl _ _, h, OwnV.none_ _ _ _ _ _ _⟩
theorem Out.step (hV : Tells V sz) (h : Out V e sz W0 wr G v xs) (hb : Below wr.heap.size wr wX) : Out V e sz W0 wX G v xs :=
  ⟨only_then h.only (only_of_below hb none) (fun x hx => by cases hx), h.lt, h.own.kept hV (only_of_below hb none) (by cases hv : v.ownBlock <;> simp) (fun b hS => ⟨⟨hS.1, Nat.lt_of_lt_of_le hS.2.1 hb.size, hS.2.2⟩, hS.2.1, by simp⟩)⟩
theorem Out.push (hV : Tells V sz) {x : α} (h : Out V e sz W0 wX G v xs) (hown : OwnV V e sz w3 W0.heap.size (SO W0.heap.size wX v) v' (xs ++ [x])) (hg : wX.grownBy w3 v.ownBlock) (hat : v'.ownBlock = v.ownBlock ∨ v'.ownBlock = some wX.heap.size) (i : Nat) (u : Value) :
    Out V e sz W0 (w3.setCell ⟨G, i, none⟩ u) G v' (xs ++ [x]) := by
  have hlt := h.own.lt
  have hz := h.only.size
  have hGlt := h.lt
  refine ⟨one_only (only_then h.only hg (fun y hy => .inl (hlt y hy).1)) i u, h.lt, ?_⟩
  refine hown.kept hV (one_only (only_refl w3 (some G)) i u) ?_ (fun b hS => ⟨⟨hS.1, ?_, ?_⟩, Nat.lt_of_lt_of_le hS.2.1 hg.size, fun e => by injection e with e; have := hS.1; omega⟩)
  · right
    intro e
    rcases hat with h1 | h1
    · have := (hlt G (by rw [← h1]; exact e)).1; omega
    · rw [h1] at e; injection e with e; omega
  · have := hS.2.1; have := hg.size; simp; omega
  · intro e
    rcases hat with h1 | h1
    · exact hS.2.2 (by rw [← h1]; exact e)
    · rw [h1] at e; injection e with e; have := hS.2.1; omega
theorem Out.done (hV : Tells V sz) (hE : ∀ w S b o x, AtV V w S b o x → E w S b o x) (h : Out V e sz W0 wr G v xs) :
    ∃ A c, v = .slice A xs.length c ∧ xs.length ≤ c ∧ c ≤ maxLen ∧ Arr E sz wr (fun b => W0.heap.size ≤ b ∧ b < wr.heap.size) A xs.length xs := by
  have hlt := h.own.lt
  exact h.own.reads hV hE (fun b hS => ⟨hS.1, hS.2.1⟩) (fun b hb => hlt b hb)
end

def VTerm : Val TermD := fun w S cs x => ∃ (A : Option Addr) (n c : Nat), cs = [.int .i64 x.head, .slice A n c] ∧ I64 x.head ∧ n ≤ c ∧ c ≤ maxLen ∧ Arr AtInt 1 w S A n x.kids
def VAtom : Val AtomD := fun w S cs x => ∃ (A : Option Addr) (n c : Nat), cs = [.int .i64 x.kind, .int .i64 x.a, .int .i64 x.b, .slice A n c, .int .i64 x.row.kind, .int .i64 x.row.to_] ∧ (I64 x.kind ∧ I64 x.a ∧ I64 x.b ∧ I64 x.row.kind ∧ I64 x.row.to_) ∧ n ≤ c ∧ c ≤ maxLen ∧ Arr AtInt 1 w S A n x.row.of_
theorem tells_term : Tells VTerm 2 := ⟨fun _ _ _ _ _ _ hS hk h => by
    obtain ⟨A, n, c, h0, h1, h2, h3, h4⟩ := h
    exact ⟨A, n, c, h0, h1, h2, h3, h4.keep stays_int hS hk⟩,
  fun _ _ _ _ h => by obtain ⟨A, n, c, h0, _⟩ := h; rw [h0]; rfl,
  fun _ _ _ _ h u hu => by obtain ⟨A, n, c, h0, _⟩ := h; rw [h0] at hu; simp only [List.mem_cons, List.not_mem_nil, or_false] at hu; rcases hu with rfl | rfl <;> rfl⟩
theorem tells_atom : Tells VAtom 6 := ⟨fun _ _ _ _ _ _ hS hk h => by
    obtain ⟨A, n, c, h0, h1, h2, h3, h4⟩ := h
    exact ⟨A, n, c, h0, h1, h2, h3, h4.keep stays_int hS hk⟩,
  fun _ _ _ _ h => by obtain ⟨A, n, c, h0, _⟩ := h; rw [h0]; rfl,
  fun _ _ _ _ h u hu => by obtain ⟨A, n, c, h0, _⟩ := h; rw [h0] at hu; simp only [List.mem_cons, List.not_mem_nil, or_false] at hu; rcases hu with rfl | rfl | rfl | rfl | rfl | rfl <;> rfl⟩
theorem atV_term {w : World} {S : Nat → Prop} {b o : Nat} {x : TermD} (h : AtV VTerm w S b o x) : AtTerm w S b o x := by
  obtain ⟨cs, ⟨A, n, c, rfl, h1, h2, h3, h4⟩, hc⟩ := h
  exact ⟨⟨hc 0 _ rfl, h1⟩, A, n, c, hc 1 _ rfl, h2, h3, h4⟩
theorem atV_atom {w : World} {S : Nat → Prop} {b o : Nat} {x : AtomD} (h : AtV VAtom w S b o x) : AtAtom w S b o x := by
  obtain ⟨cs, ⟨A, n, c, rfl, ⟨i1, i2, i3, i4, i5⟩, h2, h3, h4⟩, hc⟩ := h
  exact ⟨⟨hc 0 _ rfl, i1⟩, ⟨hc 1 _ rfl, i2⟩, ⟨hc 2 _ rfl, i3⟩, ⟨A, n, c, hc 3 _ rfl, h2, h3, h4⟩, ⟨hc 4 _ rfl, i4⟩, ⟨hc 5 _ rfl, i5⟩⟩

theorem infoBool : (Try.prog.info? 4).map (fun i => (i.zero, i.size, i.bytes)) = some (some (.bool false), 1, 1) := by kernel_rfl
theorem rowBools : RowT Try.prog 23 4 1 1 := rowT_of Try.underlying23 infoBool rfl (by omega)
theorem infoTerm : (Try.prog.info? 39).map (fun i => (i.zero, i.size, i.bytes)) = some (some (.agg #[.int .i64 0, .slice none 0 0]), 2, 32) := by kernel_rfl
theorem rowTerms : RowT Try.prog 22 39 2 32 := rowT_of Try.underlying22 infoTerm rfl (by omega)
theorem infoAtom : (Try.prog.info? 35).map (fun i => (i.zero, i.size, i.bytes)) = some (some (.agg #[.int .i64 0, .int .i64 0, .int .i64 0, .slice none 0 0, .int .i64 0, .int .i64 0]), 6, 64) := by kernel_rfl
theorem rowAtoms : RowT Try.prog 24 35 6 64 := rowT_of Try.underlying24 infoAtom rfl (by omega)

end Go.Proofs.Ytdncchlfeanlmaa
