/- Words for memory that all texts of this seat share: forests of expressions as they lie in memory; small lemmas on worlds. No program is named here. -/
import Derived.WalkKit
import Derived.WalkSpells
import Derived.WalkLawsBesides
import Derived.Lib.Hide
import Derived.Below
import Derived.Laws.OwnMore
import Derived.Deep.Draws
import Derived.Laws.Rows
namespace Go.Proofs.Ytggkfepifnfdoaa
open Go.RowKit

theorem ret_int {k : IntKind} {a b : Int} (h : a = b) : Ending.returned (.int k a) = .returned (.int k b) := by rw [h]
theorem ret_bool {a b : Bool} (h : a = b) : Ending.returned (.bool a) = .returned (.bool b) := by rw [h]
theorem ret_string {a b : ByteArray} (h : a = b) : Ending.returned (.string a) = .returned (.string b) := by rw [h]

theorem bcell {W w1 : World} {B : Nat} (hb : Below B W w1) : (∀ b o, b < B → w1.cell? ⟨b, o, none⟩ = W.cell? ⟨b, o, none⟩) ∧ (∀ b o, b < B → w1.frozen? ⟨b, o, none⟩ = W.frozen? ⟨b, o, none⟩) :=
  ⟨fun b o h => hb.cell (p := ⟨b, o, none⟩) h, fun b o h => hb.frozen (p := ⟨b, o, none⟩) h⟩

/-- block g is just the cells cs of element type t, none frozen -/
def Blk (w : World) (g : Nat) (t : TypeId) (cs : Array Value) : Prop := w.heap[g]? = some (.cells cs t (0, 0))

section
variable {w w' : World} {g : Nat} {t : TypeId} {cs : Array Value}
theorem Blk.lt (h : Blk w g t cs) : g < w.heap.size := by
  rcases Nat.lt_or_ge g w.heap.size with hlt | hge
  · exact hlt
  · unfold Blk at h; rw [Array.getElem?_eq_none hge] at h; cases h
theorem Blk.cell (h : Blk w g t cs) (i : Nat) : w.cell? ⟨g, i, none⟩ = cs[i]? := cell_of_row w g i cs t (0, 0) h
theorem Blk.frozen (h : Blk w g t cs) (i : Nat) : w.frozen? ⟨g, i, none⟩ = false := by
  unfold Blk at h
  simp [World.frozen?, h]
theorem Blk.new (w : World) (t : TypeId) (cs : Array Value) : Blk (w.alloc (.cells cs t)) w.heap.size t cs := heap_alloc_new w _
theorem Blk.drew (h : Blk w g t cs) : Blk w.drew g t cs := h
theorem Blk.drewN (h : Blk w g t cs) (n : Nat) : Blk (w.drewN n) g t cs := h
theorem Blk.alloc (h : Blk w g t cs) (o : Obj) : Blk (w.alloc o) g t cs := (Below.heap_alloc w o g h.lt).trans h
theorem Blk.set_ (h : Blk w g t cs) (i : Nat) (u : Value) : Blk (w.setCell ⟨g, i, none⟩ u) g t (cs.setIfInBounds i u) := by
  unfold Blk at h ⊢
  simp [World.setCell, Array.getElem?_modify, h]
theorem Blk.far (h : Blk w g t cs) {p : Addr} (hp : g ≠ p.block) (u : Value) : Blk (w.setCell p u) g t cs := (Below.heap_setCell w p u g hp).trans h
theorem Blk.below {B : Nat} (h : Blk w g t cs) (hb : Below B w w') (hg : g < B) : Blk w' g t cs := (hb.block g hg).trans h
theorem Blk.grown {row : Option Nat} (h : Blk w g t cs) (hb : w.grownBy w' row) (hg : some g ≠ row) : Blk w' g t cs := (hb.block g h.lt hg).trans h
end

/-- a forest of expressions: nothing, or an expression (its word, whether it is a list, its kids) and those behind it -/
inductive Fo where
  | nil : Fo
  | cons (word : ByteArray) (isList : Bool) (kids : Fo) (next : Fo) : Fo

namespace Fo
def cnt : Fo → Nat
  | nil => 0
  | cons _ _ k n => 1 + cnt k + cnt n
def len : Fo → Nat
  | nil => 0
  | cons _ _ _ n => 1 + len n
theorem len_le : ∀ f : Fo, f.len ≤ f.cnt
  | nil => Nat.le_refl _
  | cons _ _ _ n => by have := len_le n; simp only [len, cnt]; omega
end Fo

/-- the forest lies in w, its slice at address A, from place i on up to n; all of it in blocks that S holds of -/
def Lies (w : World) (S : Nat → Prop) : Fo → Option Addr → Nat → Nat → Prop
  | .nil, _, i, n => i = n
  | .cons wd ls ks nx, A, i, n => i < n ∧ ∃ (b off : Nat) (A' : Option Addr) (n' c' : Nat), A = some ⟨b, off, none⟩ ∧ S b ∧ w.cell? ⟨b, off + i * 3, none⟩ = some (.string wd) ∧
      w.cell? ⟨b, off + i * 3 + 1, none⟩ = some (.bool ls) ∧ w.cell? ⟨b, off + i * 3 + 2, none⟩ = some (.slice A' n' c') ∧ wd.size ≤ maxLen ∧
      Lies w S ks A' 0 n' ∧ Lies w S nx A (i + 1) n

theorem Lies.keep {w w' : World} {S S' : Nat → Prop} (hS : ∀ b, S b → S' b) (hk : ∀ b o, S b → w'.cell? ⟨b, o, none⟩ = w.cell? ⟨b, o, none⟩) : ∀ (f : Fo) (A : Option Addr) (i n : Nat), Lies w S f A i n → Lies w' S' f A i n
  | .nil, _, _, _, h => h
  | .cons _ _ ks nx, _, _, _, h => by
    obtain ⟨hi, b, off, A', n', c', rfl, hb, h0, h1, h2, hsz, hks, hnx⟩ := h
    exact ⟨hi, b, off, A', n', c', rfl, hS b hb, (hk _ _ hb).trans h0, (hk _ _ hb).trans h1, (hk _ _ hb).trans h2, hsz, Lies.keep hS hk ks _ _ _ hks, Lies.keep hS hk nx _ _ _ hnx⟩

theorem Lies.len {w : World} {S : Nat → Prop} : ∀ (f : Fo) (A : Option Addr) (i n : Nat), Lies w S f A i n → i + f.len = n
  | .nil, _, _, _, h => h
  | .cons _ _ ks nx, _, i, n, h => by
    obtain ⟨hi, b, off, A', n', c', rfl, hb, h0, h1, h2, hsz, hks, hnx⟩ := h
    have := Lies.len nx _ _ _ hnx
    simp only [Fo.len]
    omega

/-- below a bound of blocks -/
abbrev LiesB (w : World) (B : Nat) (f : Fo) (A : Option Addr) (i n : Nat) : Prop := Lies w (fun b => b < B) f A i n

theorem LiesB.below {w w' : World} {B B' : Nat} {f : Fo} {A : Option Addr} {i n : Nat} (h : LiesB w B f A i n) (hb : Below B w w') (hB : B ≤ B') : LiesB w' B' f A i n :=
  Lies.keep (fun _ hb' => Nat.lt_of_lt_of_le hb' hB) (fun b o hlt => hb.cell (p := ⟨b, o, none⟩) hlt) f A i n h

theorem LiesB.alloc {w : World} {B : Nat} {f : Fo} {A : Option Addr} {i n : Nat} (h : LiesB w B f A i n) (hB : B ≤ w.heap.size) (o : Obj) : LiesB (w.alloc o) B f A i n :=
  h.below ((Below.refl _ _).alloc hB o) (Nat.le_refl _)
end Go.Proofs.Ytggkfepifnfdoaa
