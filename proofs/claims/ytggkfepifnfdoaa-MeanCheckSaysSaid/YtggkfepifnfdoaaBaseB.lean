/- Forests in memory, further: draws; elements of a row that is being built; worlds that differ in one block and in new ones. -/
import Derived.Test.YtggkfepifnfdoaaBase
import Derived.Maps.AppendAt
import Derived.OwnWalk
namespace Go.Proofs.Ytggkfepifnfdoaa
open Go.RowKit

theorem Lies.drewN {w : World} {S : Nat → Prop} {f : Fo} {A : Option Addr} {i n : Nat} (h : Lies w S f A i n) (k : Nat) : Lies (w.drewN k) S f A i n :=
  Lies.keep (w := w) (w' := w.drewN k) (fun _ h => h) (fun _ _ _ => rfl) f A i n h

theorem only_drewN {a w : World} {row : Option Nat} (h : a.grownBy w row) (n : Nat) : a.grownBy (w.drewN n) row := ⟨h.os, h.tape, h.output, h.size, h.block⟩
theorem only_drew {a w : World} {row : Option Nat} (h : a.grownBy w row) : a.grownBy w.drew row := ⟨h.os, h.tape, h.output, h.size, h.block⟩
theorem only_alloc {a w : World} {row : Option Nat} (h : a.grownBy w row) (o : Obj) : a.grownBy (w.alloc o) row :=
  ⟨h.os, h.tape, h.output, Nat.le_trans h.size (by simp), fun i hi hne => (Below.heap_alloc w o i (Nat.lt_of_lt_of_le hi h.size)).trans (h.block i hi hne)⟩
theorem only_setCell {a w : World} {g : Nat} (h : a.grownBy w (some g)) {p : Addr} (hp : p.block = g ∨ a.heap.size ≤ p.block) (u : Value) : a.grownBy (w.setCell p u) (some g) :=
  ⟨h.os, h.tape, h.output, by simpa [World.setCell] using h.size, fun i hi hne => (Below.heap_setCell w p u i (by
    rintro rfl
    rcases hp with hp | hp
    · exact hne (by rw [hp])
    · omega)).trans (h.block i hi hne)⟩
theorem only_of_below {a w : World} (h : Below a.heap.size a w) (row : Option Nat) : a.grownBy w row := ⟨h.os, h.tape, h.output, h.size, fun i hi _ => h.block i hi⟩
theorem only_refl (a : World) (row : Option Nat) : a.grownBy a row := World.grownBy.refl a row
theorem only_trans {a b c : World} {row : Option Nat} (h : a.grownBy b row) (k : b.grownBy c row) : a.grownBy c row :=
  ⟨k.os.trans h.os, k.tape.trans h.tape, k.output.trans h.output, Nat.le_trans h.size k.size, fun i hi hne => (k.block i (Nat.lt_of_lt_of_le hi h.size) hne).trans (h.block i hi hne)⟩
/-- a change of one block that was not there before the first world, or of the first world's own one -/
theorem only_then {a b c : World} {row row' : Option Nat} (h : a.grownBy b row) (k : b.grownBy c row') (hr : ∀ x, row' = some x → a.heap.size ≤ x ∨ row = some x) : a.grownBy c row :=
  ⟨k.os.trans h.os, k.tape.trans h.tape, k.output.trans h.output, Nat.le_trans h.size k.size, fun i hi hne => (k.block i (Nat.lt_of_lt_of_le hi h.size) (fun e => by
    rcases hr i e.symm with h1 | h1
    · omega
    · exact hne h1.symm)).trans (h.block i hi hne)⟩
theorem only_below {a w : World} {g B : Nat} (h : a.grownBy w (some g)) (hB : B ≤ g) (hs : B ≤ a.heap.size) : Below B a w :=
  ⟨h.os, h.tape, h.output, h.size, fun i hi => h.block i (by omega) (fun e => by injection e; omega)⟩
theorem below_then {a b c : World} {B : Nat} {row : Option Nat} (h : Below B a b) (k : b.grownBy c row) (hB : B ≤ b.heap.size) (hr : ∀ x, row = some x → B ≤ x) : Below B a c :=
  ⟨k.os.trans h.os, k.tape.trans h.tape, k.output.trans h.output, Nat.le_trans h.size k.size, fun i hi => (k.block i (Nat.lt_of_lt_of_le hi hB) (fun e => by have := hr i e.symm; omega)).trans (h.block i hi)⟩
theorem below_drewN {B : Nat} {a w : World} (h : Below B a w) (n : Nat) : Below B a (w.drewN n) := ⟨h.os, h.tape, h.output, h.size, h.block⟩
theorem below_of_drew {B : Nat} {a w : World} (h : Below B a.drew w) : Below B a w := ⟨h.os, h.tape, h.output, h.size, h.block⟩
theorem only_cell {a w : World} {row : Option Nat} (h : a.grownBy w row) {b o : Nat} (hb : b < a.heap.size) (hne : row ≠ some b) : w.cell? ⟨b, o, none⟩ = a.cell? ⟨b, o, none⟩ :=
  World.cell?_of_block (h.block b hb (fun e => hne e.symm))

theorem two_boxes (w : World) (t1 t2 : TypeId) (c1 c2 : Array Value) : Below w.heap.size w ((w.alloc (.cells c1 t1)).alloc (.cells c2 t2)) ∧ Blk ((w.alloc (.cells c1 t1)).alloc (.cells c2 t2)) w.heap.size t1 c1 ∧
    Blk ((w.alloc (.cells c1 t1)).alloc (.cells c2 t2)) (w.heap.size + 1) t2 c2 ∧ ((w.alloc (.cells c1 t1)).alloc (.cells c2 t2)).heap.size = w.heap.size + 2 :=
  ⟨((Below.refl _ _).alloc (Nat.le_refl _) _).alloc (by simp) _, (Blk.new _ _ _).alloc _, by have := Blk.new (w.alloc (.cells c1 t1)) t2 c2; rwa [World.size_alloc] at this, by simp⟩
theorem owns_base {w : World} {base base' : Nat} {e : TypeId} {size : Nat} {v : Value} {n : Nat} {xs : List Value} (h : w.ownsRow base e size v n xs) (hb : base' ≤ base) : w.ownsRow base' e size v n xs := by
  refine ⟨h.1, ?_⟩
  rcases h.2 with h0 | ⟨g, cap, cur, hv, hg, rest⟩
  · exact .inl h0
  · exact .inr ⟨g, cap, cur, hv, Nat.le_trans hb hg, rest⟩
theorem owns_ge {w : World} {base : Nat} {e : TypeId} {size : Nat} {v : Value} {n : Nat} {xs : List Value} (h : w.ownsRow base e size v n xs) : ∀ g, v.ownBlock = some g → base ≤ g ∧ g < w.heap.size := by
  intro g hg
  rcases h.2 with ⟨rfl, _⟩ | ⟨g', cap, cur, rfl, hb, hh, _⟩
  · cases hg
  · injection hg with hg
    subst hg
    exact ⟨hb, (Array.getElem?_eq_some_iff.1 hh).1⟩

namespace Fo
def app : Fo → Fo → Fo
  | nil, g => g
  | cons a b k n, g => cons a b k (app n g)
theorem app_nil : ∀ f : Fo, f.app nil = f
  | nil => rfl
  | cons a b k n => by simp only [app, app_nil n]
theorem app_assoc : ∀ f g h : Fo, (f.app g).app h = f.app (g.app h)
  | nil, _, _ => rfl
  | cons a b k n, g, h => by simp only [app, app_assoc n g h]
theorem len_app : ∀ f g : Fo, (f.app g).len = f.len + g.len
  | nil, _ => by simp [app, len]
  | cons a b k n, g => by simp only [app, len, len_app n g]; omega
theorem cnt_app : ∀ f g : Fo, (f.app g).cnt = f.cnt + g.cnt
  | nil, _ => by simp [app, cnt]
  | cons a b k n, g => by simp only [app, cnt, cnt_app n g]; omega
end Fo

/-- the cells of a row of expressions, whose kids lie in w in blocks that S holds of -/
def Els (w : World) (S : Nat → Prop) : Fo → List Value → Prop
  | .nil, cs => cs = []
  | .cons wd ls ks nx, cs => ∃ (A' : Option Addr) (n' c' : Nat) (r : List Value), cs = .string wd :: .bool ls :: .slice A' n' c' :: r ∧ wd.size ≤ maxLen ∧ Lies w S ks A' 0 n' ∧ Els w S nx r

theorem Els.keep {w w' : World} {S S' : Nat → Prop} (hS : ∀ b, S b → S' b) (hk : ∀ b o, S b → w'.cell? ⟨b, o, none⟩ = w.cell? ⟨b, o, none⟩) : ∀ (f : Fo) (cs : List Value), Els w S f cs → Els w' S' f cs
  | .nil, _, h => h
  | .cons _ _ ks nx, _, h => by
    obtain ⟨A', n', c', r, rfl, hsz, hks, hnx⟩ := h
    exact ⟨A', n', c', r, rfl, hsz, Lies.keep hS hk ks _ _ _ hks, Els.keep hS hk nx _ hnx⟩
theorem Els.drewN {w : World} {S : Nat → Prop} {f : Fo} {cs : List Value} (h : Els w S f cs) (k : Nat) : Els (w.drewN k) S f cs :=
  Els.keep (w := w) (w' := w.drewN k) (fun _ h => h) (fun _ _ _ => rfl) f cs h
theorem Els.push {w : World} {S : Nat → Prop} {wd : ByteArray} {ls : Bool} {ks : Fo} {A' : Option Addr} {n' c' : Nat} (hsz : wd.size ≤ maxLen) (hks : Lies w S ks A' 0 n') : ∀ (f : Fo) (cs : List Value), Els w S f cs →
    Els w S (f.app (.cons wd ls ks .nil)) (cs ++ [.string wd, .bool ls, .slice A' n' c'])
  | .nil, _, h => by
    obtain rfl : _ = [] := h
    exact ⟨A', n', c', [], rfl, hsz, hks, rfl⟩
  | .cons _ _ _ nx, _, h => by
    obtain ⟨A2, n2, c2, r, rfl, hsz2, hks2, hnx⟩ := h
    exact ⟨A2, n2, c2, _, rfl, hsz2, hks2, Els.push hsz hks nx r hnx⟩
theorem Els.len {w : World} {S : Nat → Prop} : ∀ (f : Fo) (cs : List Value), Els w S f cs → cs.length = f.len * 3
  | .nil, _, h => by
    obtain rfl : _ = [] := h
    rfl
  | .cons _ _ _ nx, _, h => by
    obtain ⟨A2, n2, c2, r, rfl, hsz2, hks2, hnx⟩ := h
    have := Els.len nx r hnx
    simp only [List.length_cons, Fo.len, this]
    omega

theorem Els.lies {w : World} {S : Nat → Prop} {g n : Nat} {cells : List Value} (hg : S g) (hc : ∀ j u, cells[j]? = some u → w.cell? ⟨g, j, none⟩ = some u) : ∀ (f : Fo) (i : Nat) (suf : List Value),
    Els w S f suf → (∀ j, suf[j]? = cells[i * 3 + j]?) → i + f.len = n → Lies w S f (some ⟨g, 0, none⟩) i n
  | .nil, i, _, _, _, hn => by simpa [Lies, Fo.len] using hn
  | .cons wd ls ks nx, i, suf, h, hsuf, hn => by
    obtain ⟨A', n', c', r, rfl, hsz, hks, hnx⟩ := h
    simp only [Fo.len] at hn
    refine ⟨by omega, g, 0, A', n', c', rfl, hg, ?_, ?_, ?_, hsz, hks, ?_⟩
    · rw [Nat.zero_add]; exact hc _ _ (by rw [← Nat.add_zero (i * 3), ← hsuf 0]; rfl)
    · rw [Nat.zero_add]; exact hc _ _ (by rw [← hsuf 1]; rfl)
    · rw [Nat.zero_add]; exact hc _ _ (by rw [← hsuf 2]; rfl)
    · refine Els.lies hg hc nx (i + 1) r hnx (fun j => ?_) (by omega)
      have := hsuf (j + 3)
      rw [show (i + 1) * 3 + j = i * 3 + (j + 3) from by omega, ← this]
      rfl

/-- a row that the call made itself, as a forest that lies -/
theorem own_lies {w : World} {S S' : Nat → Prop} {base e : Nat} {f : Fo} {v : Value} {cells : List Value} (hown : w.ownsRow base e 3 v f.len cells) (hels : Els w S f cells) (hS : ∀ b, S b → S' b)
    (hg : ∀ g, v.ownBlock = some g → S' g) : ∃ (A : Option Addr) (c : Nat), v = .slice A f.len c ∧ Lies w S' f A 0 f.len := by
  have hels' : Els w S' f cells := Els.keep hS (fun _ _ _ => rfl) f cells hels
  rcases hown.2 with ⟨rfl, h0⟩ | ⟨g, cap, cur, rfl, hb, hh, hn, hcap, hcs, htake⟩
  · refine ⟨none, 0, by rw [h0], ?_⟩
    cases f with
    | nil => rfl
    | cons a b k n => simp [Fo.len] at h0
  · refine ⟨some ⟨g, 0, none⟩, cap, rfl, ?_⟩
    refine Els.lies (hg g rfl) (fun j u hu => ?_) f 0 cells hels' (fun j => by rw [Nat.zero_mul, Nat.zero_add]) (by omega)
    have := hown.cells (g := g) rfl j u hu
    rwa [Go.WideShapes.add_plain, Nat.zero_add] at this
end Go.Proofs.Ytggkfepifnfdoaa
