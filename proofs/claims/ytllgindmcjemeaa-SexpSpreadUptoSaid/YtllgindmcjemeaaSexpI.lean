/- A row of expressions that a call builds: what is kept of it, what an append makes of it; quiet calls. -/
import Derived.Test.YtllgindmcjemeaaSexpH
import Derived.Deep.AppendLies
import Derived.Deep.RegionHeld3
namespace Go.Proofs.Ytllgindmcjemeaa
open Go.RowKit

theorem quiet_left {P : Program} {f : FuncId} {args : Array Value} {w : World} {n : Nat} {v : Value}
    (h : Calls P f args (w.drewN n) fun e w' => e = .returned v ∧ w.drewN n = w') : Calls P f args (w.drewN n) fun e w'' => e = .returned v ∧ ∃ m, w'' = w.drewN m :=
  h.mono fun _ _ ⟨he, hm⟩ => ⟨he, n, hm.symm⟩
theorem quiet_add_left {P : Program} {f : FuncId} {args : Array Value} {w : World} {a n : Nat} {v : Value}
    (h : Calls P f args (w.drewN (a + n)) fun e w' => e = .returned v ∧ w.drewN (a + n) = w') :
    Calls P f args (w.drewN (a + n)) fun e w'' => e = .returned v ∧ ∃ m, w'' = w.drewN (a + m) :=
  h.mono fun _ _ ⟨he, hm⟩ => ⟨he, n, hm.symm⟩

theorem byteOfWord_is (c : Int) (b : Bool) (h : letterB c = b) (w : World) : Calls Try.prog 75 #[.int .u8 c] w fun e w' => e = .returned (.bool b) ∧ w = w' := by
  subst h; exact byteOfWord_any c w
theorem letter_is (c : Int) (b : Bool) (h : letterB c = b) (w : World) : Calls Try.prog 76 #[.int .u8 c] w fun e w' => e = .returned (.bool b) ∧ w = w' := by
  subst h; exact letter_any c w

theorem infoSexp : (Try.prog.info? 86).map (fun i => (i.zero, i.size, i.bytes)) = some (some (.agg #[.string ByteArray.empty, .bool false, .slice none 0 0]), 3, 48) := by kernel_rfl

/-- the slice value v is the call's own row (in blocks from base on) and holds the forest acc -/
def OwnFo (w : World) (base : Nat) (v : Value) (acc : Fo) : Prop :=
  ∃ cells, w.ownsRow base 86 3 v acc.len cells ∧ Els w (fun b => base ≤ b ∧ b < w.heap.size ∧ v.ownBlock ≠ some b) acc cells

theorem OwnFo.none (w : World) (base : Nat) : OwnFo w base (.slice none 0 0) .nil := ⟨[], ⟨by simp [Fo.len], .inl ⟨rfl, rfl⟩⟩, rfl⟩

theorem OwnFo.kept {w w' : World} {base : Nat} {v : Value} {acc : Fo} {row : Option Nat} (h : OwnFo w base v acc) (hg : w.grownBy w' row) (hr : ∀ x, row = some x → x < base) : OwnFo w' base v acc := by
  obtain ⟨cells, hown, hels⟩ := h
  have hne : v.ownBlock = .none ∨ v.ownBlock ≠ row := by
    rcases hown.2 with ⟨rfl, _⟩ | ⟨g, cap, cur, rfl, hb, _⟩
    · exact .inl rfl
    · right
      intro e
      have := hr g (by rw [← e]; rfl)
      omega
  refine ⟨cells, hown.kept hg hne, Els.keep (fun b hb => ⟨hb.1, Nat.lt_of_lt_of_le hb.2.1 hg.size, hb.2.2⟩) (fun b o hb => only_cell hg hb.2.1 (fun e => ?_)) _ _ hels⟩
  have := hr b e
  omega
theorem OwnFo.drewN {w : World} {base : Nat} {v : Value} {acc : Fo} (h : OwnFo w base v acc) (n : Nat) : OwnFo (w.drewN n) base v acc :=
  h.kept (row := .none) (only_drewN (only_refl _ _) n) (fun x hx => by cases hx)
theorem OwnFo.alloc {w : World} {base : Nat} {v : Value} {acc : Fo} (h : OwnFo w base v acc) (o : Obj) : OwnFo (w.alloc o) base v acc :=
  h.kept (row := .none) (only_alloc (only_refl _ _) o) (fun x hx => by cases hx)
theorem OwnFo.setCell {w : World} {base : Nat} {v : Value} {acc : Fo} (h : OwnFo w base v acc) {g : Nat} (hg : g < base) (o : Nat) (u : Value) : OwnFo (w.setCell ⟨g, o, .none⟩ u) base v acc :=
  h.kept (row := some g) (only_setCell (p := ⟨g, o, .none⟩) (only_refl _ _) (.inl rfl) u) (fun x hx => by injection hx; omega)
theorem OwnFo.lt {w : World} {base : Nat} {v : Value} {acc : Fo} (h : OwnFo w base v acc) : ∀ g, v.ownBlock = some g → base ≤ g ∧ g < w.heap.size := by
  obtain ⟨cells, hown, hels⟩ := h
  intro g hg
  rcases hown.2 with ⟨rfl, _⟩ | ⟨g', cap, cur, rfl, hb, hh, _⟩
  · cases hg
  · injection hg with hg
    subst hg
    exact ⟨hb, (Array.getElem?_eq_some_iff.1 hh).1⟩

theorem OwnFo.push {w w' : World} {base : Nat} {v : Value} {acc : Fo} {wd : ByteArray} {ls : Bool} {ks : Fo} {A' : Option Addr} {n' c' g cap : Nat} {cells : List Value}
    (hels : Els w (fun b => base ≤ b ∧ b < w.heap.size ∧ v.ownBlock ≠ some b) acc cells) (hsz : wd.size ≤ maxLen)
    (hks : Lies w (fun b => base ≤ b ∧ b < w.heap.size ∧ v.ownBlock ≠ some b) ks A' 0 n')
    (hown' : w'.ownsRow base 86 3 (.slice (some ⟨g, 0, .none⟩) (acc.len + 1) cap) (acc.len + 1) (cells ++ [.string wd, .bool ls, .slice A' n' c'])) (hg : w.grownBy w' v.ownBlock)
    (hat : v.ownBlock = some g ∨ g = w.heap.size) : OwnFo w' base (.slice (some ⟨g, 0, .none⟩) (acc.len + 1) cap) (acc.app (.cons wd ls ks .nil)) := by
  refine ⟨cells ++ [.string wd, .bool ls, .slice A' n' c'], by rw [Fo.len_app]; exact hown', ?_⟩
  refine Els.keep (fun b hb => ⟨hb.1, Nat.lt_of_lt_of_le hb.2.1 hg.size, ?_⟩) (fun b o hb => only_cell hg hb.2.1 hb.2.2) _ _ (Els.push hsz hks _ _ hels)
  intro e
  have e' : g = b := by injection e
  subst e'
  rcases hat with h | h
  · exact hb.2.2 h
  · have := hb.2.1; omega

theorem OwnFo.lies {w : World} {base : Nat} {v : Value} {acc : Fo} (h : OwnFo w base v acc) : ∃ (A : Option Addr) (c : Nat), v = .slice A acc.len c ∧ Lies w (fun b => base ≤ b ∧ b < w.heap.size) acc A 0 acc.len := by
  have hlt := h.lt
  obtain ⟨cells, hown, hels⟩ := h
  exact own_lies hown hels (fun b hb => ⟨hb.1, hb.2.1⟩) hlt
end Go.Proofs.Ytllgindmcjemeaa
