/- Words for memory that all texts of this seat share: forests of expressions as they lie in memory; small lemmas on worlds. No program is named here. · Forests in memory, further: draws; elements of a row that is being built; worlds that differ in one block and in new ones. · Lists in memory: a slice that reads as a list of things, whatever a thing is; forms and what is in them. No program is named here. · Rows of the call's own, of whatever things: how a thing is told by its cells; what an append makes of a row; a finished row as a slice that reads as a list. No program is named here. · Laws for the walk: an append to a row of the call's own: of a whole slice, of one thing. No program is named here. · A block of two cells that is written whole. No program is named here. -/
import Derived.WalkKit
import Derived.WalkSpells
import Derived.WalkLawsBesides
import Derived.Lib.Hide
import Derived.Below
import Derived.Laws.OwnMore
import Derived.Deep.Draws
import Derived.Laws.Rows
import Derived.Maps.AppendAt
import Derived.OwnWalk
import Derived.Deep.AppendLies
namespace Go.Proofs.Ytdncchlfeanlmaa
open Go.RowKit

theorem ret_int {k : IntKind} {a b : Int} (h : a = b) : Ending.returned (.int k a) = .returned (.int k b) := by rw [h]
theorem ret_bool {a b : Bool} (h : a = b) : Ending.returned (.bool a) = .returned (.bool b) := by rw [h]
theorem ret_string {a b : ByteArray} (h : a = b) : Ending.returned (.string a) = .returned (.string b) := by rw [h]

theorem bcell {W w1 : World} {B : Nat} (hb : Below B W w1) : (∀ b o, b < B → w1.cell? ⟨b, o, none⟩ = W.cell? ⟨b, o, none⟩) ∧ (∀ b o, b < B → w1.frozen? ⟨b, o, none⟩ = W.frozen? ⟨b, o, none⟩) :=
  ⟨fun b o h => hb.cell (p := ⟨b, o, none⟩) h, fun b o h => hb.frozen (p := ⟨b, o, none⟩) h⟩

/-- block g is just the cells cs of element type t, none frozen -/
def Blk (w : World) (g : Nat) (t : TypeId) (cs : Array Value) : Prop := w.heap[g]? = some (.cells cs t (0, 0))

section
variable {w w' : World} {g : Nat} {t : TypeId} {cs : Array Value}
theorem Blk.lt (h : Blk w g t cs) : g < w.heap.size := by
  rcases Nat.lt_or_ge g w.heap.size with hlt | hge
  · exact hlt
  · unfold Blk at h; rw [Array.getElem?_eq_none hge] at h; cases h
theorem Blk.cell (h : Blk w g t cs) (i : Nat) : w.cell? ⟨g, i, none⟩ = cs[i]? := cell_of_row w g i cs t (0, 0) h
theorem Blk.frozen (h : Blk w g t cs) (i : Nat) : w.frozen? ⟨g, i, none⟩ = false := by
  unfold Blk at h
  simp [World.frozen?, h]
theorem Blk.new (w : World) (t : TypeId) (cs : Array Value) : Blk (w.alloc (.cells cs t)) w.heap.size t cs := heap_alloc_new w _
theorem Blk.drew (h : Blk w g t cs) : Blk w.drew g t cs := h
theorem Blk.drewN (h : Blk w g t cs) (n : Nat) : Blk (w.drewN n) g t cs := h
theorem Blk.alloc (h : Blk w g t cs) (o : Obj) : Blk (w.alloc o) g t cs := (Below.heap_alloc w o g h.lt).trans h
theorem Blk.set_ (h : Blk w g t cs) (i : Nat) (u : Value) : Blk (w.setCell ⟨g, i, none⟩ u) g t (cs.setIfInBounds i u) := by
  unfold Blk at h ⊢
  simp [World.setCell, Array.getElem?_modify, h]
theorem Blk.far (h : Blk w g t cs) {p : Addr} (hp : g ≠ p.block) (u : Value) : Blk (w.setCell p u) g t cs := (Below.heap_setCell w p u g hp).trans h
theorem Blk.below {B : Nat} (h : Blk w g t cs) (hb : Below B w w') (hg : g < B) : Blk w' g t cs := (hb.block g hg).trans h
theorem Blk.grown {row : Option Nat} (h : Blk w g t cs) (hb : w.grownBy w' row) (hg : some g ≠ row) : Blk w' g t cs := (hb.block g h.lt hg).trans h
end

/-- a forest of expressions: nothing, or an expression (its word, whether it is a list, its kids) and those behind it -/
inductive Fo where
  | nil : Fo
  | cons (word : ByteArray) (isList : Bool) (kids : Fo) (next : Fo) : Fo

namespace Fo
def cnt : Fo → Nat
  | nil => 0
  | cons _ _ k n => 1 + cnt k + cnt n
def len : Fo → Nat
  | nil => 0
  | cons _ _ _ n => 1 + len n
theorem len_le : ∀ f : Fo, f.len ≤ f.cnt
  | nil => Nat.le_refl _
  | cons _ _ _ n => by have := len_le n; simp only [len, cnt]; omega
end Fo

/-- the forest lies in w, its slice at address A, from place i on up to n; all of it in blocks that S holds of -/
def Lies (w : World) (S : Nat → Prop) : Fo → Option Addr → Nat → Nat → Prop
  | .nil, _, i, n => i = n
  | .cons wd ls ks nx, A, i, n => i < n ∧ ∃ (b off : Nat) (A' : Option Addr) (n' c' : Nat), A = some ⟨b, off, none⟩ ∧ S b ∧ w.cell? ⟨b, off + i * 3, none⟩ = some (.string wd) ∧
      w.cell? ⟨b, off + i * 3 + 1, none⟩ = some (.bool ls) ∧ w.cell? ⟨b, off + i * 3 + 2, none⟩ = some (.slice A' n' c') ∧ wd.size ≤ maxLen ∧
      Lies w S ks A' 0 n' ∧ Lies w S nx A (i + 1) n

theorem Lies.keep {w w' : World} {S S' : Nat → Prop} (hS : ∀ b, S b → S' b) (hk : ∀ b o, S b → w'.cell? ⟨b, o, none⟩ = w.cell? ⟨b, o, none⟩) : ∀ (f : Fo) (A : Option Addr) (i n : Nat), Lies w S f A i n → Lies w' S' f A i n
  | .nil, _, _, _, h => h
  | .cons _ _ ks nx, _, _, _, h => by
    obtain ⟨hi, b, off, A', n', c', rfl, hb, h0, h1, h2, hsz, hks, hnx⟩ := h
    exact ⟨hi, b, off, A', n', c', rfl, hS b hb, (hk _ _ hb).trans h0, (hk _ _ hb).trans h1, (hk _ _ hb).trans h2, hsz, Lies.keep hS hk ks _ _ _ hks, Lies.keep hS hk nx _ _ _ hnx⟩

theorem Lies.len {w : World} {S : Nat → Prop} : ∀ (f : Fo) (A : Option Addr) (i n : Nat), Lies w S f A i n → i + f.len = n
  | .nil, _, _, _, h => h
  | .cons _ _ ks nx, _, i, n, h => by
    obtain ⟨hi, b, off, A', n', c', rfl, hb, h0, h1, h2, hsz, hks, hnx⟩ := h
    have := Lies.len nx _ _ _ hnx
    simp only [Fo.len]
    omega

/-- below a bound of blocks -/
abbrev LiesB (w : World) (B : Nat) (f : Fo) (A : Option Addr) (i n : Nat) : Prop := Lies w (fun b => b < B) f A i n

theorem LiesB.below {w w' : World} {B B' : Nat} {f : Fo} {A : Option Addr} {i n : Nat} (h : LiesB w B f A i n) (hb : Below B w w') (hB : B ≤ B') : LiesB w' B' f A i n :=
  Lies.keep (fun _ hb' => Nat.lt_of_lt_of_le hb' hB) (fun b o hlt => hb.cell (p := ⟨b, o, none⟩) hlt) f A i n h

theorem LiesB.alloc {w : World} {B : Nat} {f : Fo} {A : Option Addr} {i n : Nat} (h : LiesB w B f A i n) (hB : B ≤ w.heap.size) (o : Obj) : LiesB (w.alloc o) B f A i n :=
  h.below ((Below.refl _ _).alloc hB o) (Nat.le_refl _)
end Go.Proofs.Ytdncchlfeanlmaa
namespace Go.Proofs.Ytdncchlfeanlmaa
open Go.RowKit

theorem Lies.drewN {w : World} {S : Nat → Prop} {f : Fo} {A : Option Addr} {i n : Nat} (h : Lies w S f A i n) (k : Nat) : Lies (w.drewN k) S f A i n :=
  Lies.keep (w := w) (w' := w.drewN k) (fun _ h => h) (fun _ _ _ => rfl) f A i n h

theorem only_drewN {a w : World} {row : Option Nat} (h : a.grownBy w row) (n : Nat) : a.grownBy (w.drewN n) row := ⟨h.os, h.tape, h.output, h.size, h.block⟩
theorem only_drew {a w : World} {row : Option Nat} (h : a.grownBy w row) : a.grownBy w.drew row := ⟨h.os, h.tape, h.output, h.size, h.block⟩
theorem only_alloc {a w : World} {row : Option Nat} (h : a.grownBy w row) (o : Obj) : a.grownBy (w.alloc o) row :=
  ⟨h.os, h.tape, h.output, Nat.le_trans h.size (by simp), fun i hi hne => (Below.heap_alloc w o i (Nat.lt_of_lt_of_le hi h.size)).trans (h.block i hi hne)⟩
theorem only_setCell {a w : World} {g : Nat} (h : a.grownBy w (some g)) {p : Addr} (hp : p.block = g ∨ a.heap.size ≤ p.block) (u : Value) : a.grownBy (w.setCell p u) (some g) :=
  ⟨h.os, h.tape, h.output, by simpa [World.setCell] using h.size, fun i hi hne => (Below.heap_setCell w p u i (by
    rintro rfl
    rcases hp with hp | hp
    · exact hne (by rw [hp])
    · omega)).trans (h.block i hi hne)⟩
theorem only_of_below {a w : World} (h : Below a.heap.size a w) (row : Option Nat) : a.grownBy w row := ⟨h.os, h.tape, h.output, h.size, fun i hi _ => h.block i hi⟩
theorem only_refl (a : World) (row : Option Nat) : a.grownBy a row := World.grownBy.refl a row
theorem only_trans {a b c : World} {row : Option Nat} (h : a.grownBy b row) (k : b.grownBy c row) : a.grownBy c row :=
  ⟨k.os.trans h.os, k.tape.trans h.tape, k.output.trans h.output, Nat.le_trans h.size k.size, fun i hi hne => (k.block i (Nat.lt_of_lt_of_le hi h.size) hne).trans (h.block i hi hne)⟩
/-- a change of one block that was not there before the first world, or of the first world's own one -/
theorem only_then {a b c : World} {row row' : Option Nat} (h : a.grownBy b row) (k : b.grownBy c row') (hr : ∀ x, row' = some x → a.heap.size ≤ x ∨ row = some x) : a.grownBy c row :=
  ⟨k.os.trans h.os, k.tape.trans h.tape, k.output.trans h.output, Nat.le_trans h.size k.size, fun i hi hne => (k.block i (Nat.lt_of_lt_of_le hi h.size) (fun e => by
    rcases hr i e.symm with h1 | h1
    · omega
    · exact hne h1.symm)).trans (h.block i hi hne)⟩
theorem only_below {a w : World} {g B : Nat} (h : a.grownBy w (some g)) (hB : B ≤ g) (hs : B ≤ a.heap.size) : Below B a w :=
  ⟨h.os, h.tape, h.output, h.size, fun i hi => h.block i (by omega) (fun e => by injection e; omega)⟩
theorem below_then {a b c : World} {B : Nat} {row : Option Nat} (h : Below B a b) (k : b.grownBy c row) (hB : B ≤ b.heap.size) (hr : ∀ x, row = some x → B ≤ x) : Below B a c :=
  ⟨k.os.trans h.os, k.tape.trans h.tape, k.output.trans h.output, Nat.le_trans h.size k.size, fun i hi => (k.block i (Nat.lt_of_lt_of_le hi hB) (fun e => by have := hr i e.symm; omega)).trans (h.block i hi)⟩
theorem below_drewN {B : Nat} {a w : World} (h : Below B a w) (n : Nat) : Below B a (w.drewN n) := ⟨h.os, h.tape, h.output, h.size, h.block⟩
theorem below_of_drew {B : Nat} {a w : World} (h : Below B a.drew w) : Below B a w := ⟨h.os, h.tape, h.output, h.size, h.block⟩
theorem only_cell {a w : World} {row : Option Nat} (h : a.grownBy w row) {b o : Nat} (hb : b < a.heap.size) (hne : row ≠ some b) : w.cell? ⟨b, o, none⟩ = a.cell? ⟨b, o, none⟩ :=
  World.cell?_of_block (h.block b hb (fun e => hne e.symm))

theorem two_boxes (w : World) (t1 t2 : TypeId) (c1 c2 : Array Value) : Below w.heap.size w ((w.alloc (.cells c1 t1)).alloc (.cells c2 t2)) ∧ Blk ((w.alloc (.cells c1 t1)).alloc (.cells c2 t2)) w.heap.size t1 c1 ∧
    Blk ((w.alloc (.cells c1 t1)).alloc (.cells c2 t2)) (w.heap.size + 1) t2 c2 ∧ ((w.alloc (.cells c1 t1)).alloc (.cells c2 t2)).heap.size = w.heap.size + 2 :=
  ⟨((Below.refl _ _).alloc (Nat.le_refl _) _).alloc (by simp) _, (Blk.new _ _ _).alloc _, by have := Blk.new (w.alloc (.cells c1 t1)) t2 c2; rwa [World.size_alloc] at this, by simp⟩
theorem owns_base {w : World} {base base' : Nat} {e : TypeId} {size : Nat} {v : Value} {n : Nat} {xs : List Value} (h : w.ownsRow base e size v n xs) (hb : base' ≤ base) : w.ownsRow base' e size v n xs := by
  refine ⟨h.1, ?_⟩
  rcases h.2 with h0 | ⟨g, cap, cur, hv, hg, rest⟩
  · exact .inl h0
  · exact .inr ⟨g, cap, cur, hv, Nat.le_trans hb hg, rest⟩
theorem owns_ge {w : World} {base : Nat} {e : TypeId} {size : Nat} {v : Value} {n : Nat} {xs : List Value} (h : w.ownsRow base e size v n xs) : ∀ g, v.ownBlock = some g → base ≤ g ∧ g < w.heap.size := by
  intro g hg
  rcases h.2 with ⟨rfl, _⟩ | ⟨g', cap, cur, rfl, hb, hh, _⟩
  · cases hg
  · injection hg with hg
    subst hg
    exact ⟨hb, (Array.getElem?_eq_some_iff.1 hh).1⟩

namespace Fo
def app : Fo → Fo → Fo
  | nil, g => g
  | cons a b k n, g => cons a b k (app n g)
theorem app_nil : ∀ f : Fo, f.app nil = f
  | nil => rfl
  | cons a b k n => by simp only [app, app_nil n]
theorem app_assoc : ∀ f g h : Fo, (f.app g).app h = f.app (g.app h)
  | nil, _, _ => rfl
  | cons a b k n, g, h => by simp only [app, app_assoc n g h]
theorem len_app : ∀ f g : Fo, (f.app g).len = f.len + g.len
  | nil, _ => by simp [app, len]
  | cons a b k n, g => by simp only [app, len, len_app n g]; omega
theorem cnt_app : ∀ f g : Fo, (f.app g).cnt = f.cnt + g.cnt
  | nil, _ => by simp [app, cnt]
  | cons a b k n, g => by simp only [app, cnt, cnt_app n g]; omega
end Fo

/-- the cells of a row of expressions, whose kids lie in w in blocks that S holds of -/
def Els (w : World) (S : Nat → Prop) : Fo → List Value → Prop
  | .nil, cs => cs = []
  | .cons wd ls ks nx, cs => ∃ (A' : Option Addr) (n' c' : Nat) (r : List Value), cs = .string wd :: .bool ls :: .slice A' n' c' :: r ∧ wd.size ≤ maxLen ∧ Lies w S ks A' 0 n' ∧ Els w S nx r

theorem Els.keep {w w' : World} {S S' : Nat → Prop} (hS : ∀ b, S b → S' b) (hk : ∀ b o, S b → w'.cell? ⟨b, o, none⟩ = w.cell? ⟨b, o, none⟩) : ∀ (f : Fo) (cs : List Value), Els w S f cs → Els w' S' f cs
  | .nil, _, h => h
  | .cons _ _ ks nx, _, h => by
    obtain ⟨A', n', c', r, rfl, hsz, hks, hnx⟩ := h
    exact ⟨A', n', c', r, rfl, hsz, Lies.keep hS hk ks _ _ _ hks, Els.keep hS hk nx _ hnx⟩
theorem Els.drewN {w : World} {S : Nat → Prop} {f : Fo} {cs : List Value} (h : Els w S f cs) (k : Nat) : Els (w.drewN k) S f cs :=
  Els.keep (w := w) (w' := w.drewN k) (fun _ h => h) (fun _ _ _ => rfl) f cs h
theorem Els.push {w : World} {S : Nat → Prop} {wd : ByteArray} {ls : Bool} {ks : Fo} {A' : Option Addr} {n' c' : Nat} (hsz : wd.size ≤ maxLen) (hks : Lies w S ks A' 0 n') : ∀ (f : Fo) (cs : List Value), Els w S f cs →
    Els w S (f.app (.cons wd ls ks .nil)) (cs ++ [.string wd, .bool ls, .slice A' n' c'])
  | .nil, _, h => by
    obtain rfl : _ = [] := h
    exact ⟨A', n', c', [], rfl, hsz, hks, rfl⟩
  | .cons _ _ _ nx, _, h => by
    obtain ⟨A2, n2, c2, r, rfl, hsz2, hks2, hnx⟩ := h
    exact ⟨A2, n2, c2, _, rfl, hsz2, hks2, Els.push hsz hks nx r hnx⟩
theorem Els.len {w : World} {S : Nat → Prop} : ∀ (f : Fo) (cs : List Value), Els w S f cs → cs.length = f.len * 3
  | .nil, _, h => by
    obtain rfl : _ = [] := h
    rfl
  | .cons _ _ _ nx, _, h => by
    obtain ⟨A2, n2, c2, r, rfl, hsz2, hks2, hnx⟩ := h
    have := Els.len nx r hnx
    simp only [List.length_cons, Fo.len, this]
    omega

theorem Els.lies {w : World} {S : Nat → Prop} {g n : Nat} {cells : List Value} (hg : S g) (hc : ∀ j u, cells[j]? = some u → w.cell? ⟨g, j, none⟩ = some u) : ∀ (f : Fo) (i : Nat) (suf : List Value),
    Els w S f suf → (∀ j, suf[j]? = cells[i * 3 + j]?) → i + f.len = n → Lies w S f (some ⟨g, 0, none⟩) i n
  | .nil, i, _, _, _, hn => by simpa [Lies, Fo.len] using hn
  | .cons wd ls ks nx, i, suf, h, hsuf, hn => by
    obtain ⟨A', n', c', r, rfl, hsz, hks, hnx⟩ := h
    simp only [Fo.len] at hn
    refine ⟨by omega, g, 0, A', n', c', rfl, hg, ?_, ?_, ?_, hsz, hks, ?_⟩
    · rw [Nat.zero_add]; exact hc _ _ (by rw [← Nat.add_zero (i * 3), ← hsuf 0]; rfl)
    · rw [Nat.zero_add]; exact hc _ _ (by rw [← hsuf 1]; rfl)
    · rw [Nat.zero_add]; exact hc _ _ (by rw [← hsuf 2]; rfl)
    · refine Els.lies hg hc nx (i + 1) r hnx (fun j => ?_) (by omega)
      have := hsuf (j + 3)
      rw [show (i + 1) * 3 + j = i * 3 + (j + 3) from by omega, ← this]
      rfl

/-- a row that the call made itself, as a forest that lies -/
theorem own_lies {w : World} {S S' : Nat → Prop} {base e : Nat} {f : Fo} {v : Value} {cells : List Value} (hown : w.ownsRow base e 3 v f.len cells) (hels : Els w S f cells) (hS : ∀ b, S b → S' b)
    (hg : ∀ g, v.ownBlock = some g → S' g) : ∃ (A : Option Addr) (c : Nat), v = .slice A f.len c ∧ Lies w S' f A 0 f.len := by
  have hels' : Els w S' f cells := Els.keep hS (fun _ _ _ => rfl) f cells hels
  rcases hown.2 with ⟨rfl, h0⟩ | ⟨g, cap, cur, rfl, hb, hh, hn, hcap, hcs, htake⟩
  · refine ⟨none, 0, by rw [h0], ?_⟩
    cases f with
    | nil => rfl
    | cons a b k n => simp [Fo.len] at h0
  · refine ⟨some ⟨g, 0, none⟩, cap, rfl, ?_⟩
    refine Els.lies (hg g rfl) (fun j u hu => ?_) f 0 cells hels' (fun j => by rw [Nat.zero_mul, Nat.zero_add]) (by omega)
    have := hown.cells (g := g) rfl j u hu
    rwa [Go.WideShapes.add_plain, Nat.zero_add] at this
theorem quiet_eq {P : Program} {f : FuncId} {args : Array Value} {w : World} {n : Nat} {v : Value}
    (h : Calls P f args (w.drewN n) fun e w' => e = .returned v ∧ w.drewN n = w') : Calls P f args (w.drewN n) fun e w'' => e = .returned v ∧ ∃ m, w'' = w.drewN m :=
  h.mono fun _ _ ⟨he, hm⟩ => ⟨he, n, hm.symm⟩
def DrewP (v : Value) (w : World) (e : Ending) (w' : World) : Prop := e = .returned v ∧ ∃ n, w' = w.drewN n
end Go.Proofs.Ytdncchlfeanlmaa
namespace Go.Proofs.Ytdncchlfeanlmaa
open Go.RowKit

def I64 (x : Int) : Prop := -9223372036854775808 ≤ x ∧ x ≤ 9223372036854775807

/-- how a thing lies from offset o of block b on, all that it leads to in blocks that S holds of -/
abbrev Ent (α : Type) := World → (Nat → Prop) → Nat → Nat → α → Prop
def Stays {α : Type} (E : Ent α) : Prop := ∀ (w w' : World) (S S' : Nat → Prop) (b o : Nat) (x : α), (∀ b, S b → S' b) → (∀ b o, S b → w'.cell? ⟨b, o, none⟩ = w.cell? ⟨b, o, none⟩) → S b → E w S b o x → E w' S' b o x

/-- the slice at A, of n things, each of sz cells, reads as xs -/
structure Arr {α : Type} (E : Ent α) (sz : Nat) (w : World) (S : Nat → Prop) (A : Option Addr) (n : Nat) (xs : List α) : Prop where
  len : xs.length = n
  at_ : ∀ i x, xs[i]? = some x → ∃ b off, A = some ⟨b, off, none⟩ ∧ S b ∧ E w S b (off + i * sz) x

section
variable {α : Type} {E : Ent α} {sz : Nat} {w w' : World} {S S' : Nat → Prop} {A : Option Addr} {n : Nat} {xs : List α}
theorem Arr.nil_ : Arr E sz w S A 0 [] := ⟨rfl, fun i x h => by simp at h⟩
theorem Arr.keep (hE : Stays E) (h : Arr E sz w S A n xs) (hS : ∀ b, S b → S' b) (hk : ∀ b o, S b → w'.cell? ⟨b, o, none⟩ = w.cell? ⟨b, o, none⟩) : Arr E sz w' S' A n xs :=
  ⟨h.len, fun i x hx => by
    obtain ⟨b, off, e, hb, hx'⟩ := h.at_ i x hx
    exact ⟨b, off, e, hS b hb, hE w w' S S' _ _ _ hS hk hb hx'⟩⟩
theorem Arr.drew (hE : Stays E) (h : Arr E sz w S A n xs) : Arr E sz w.drew S A n xs := h.keep hE (fun _ h => h) (fun _ _ _ => rfl)
theorem Arr.drewN (hE : Stays E) (h : Arr E sz w S A n xs) (k : Nat) : Arr E sz (w.drewN k) S A n xs := h.keep hE (fun _ h => h) (fun _ _ _ => rfl)
theorem Arr.get (h : Arr E sz w S A n xs) {i : Nat} (hi : i < n) : ∃ (b off : Nat) (hx : i < xs.length), A = some ⟨b, off, none⟩ ∧ S b ∧ E w S b (off + i * sz) xs[i] := by
  have hl : i < xs.length := by have := h.len; omega
  obtain ⟨b, off, e, hb, hx⟩ := h.at_ i xs[i] (List.getElem?_eq_getElem hl)
  exact ⟨b, off, hl, e, hb, hx⟩
theorem Arr.take (h : Arr E sz w S A n xs) {k : Nat} (hk : k ≤ n) : Arr E sz w S A k (xs.take k) :=
  ⟨by have := h.len; simp; omega, fun i x hx => by
    rw [List.getElem?_take] at hx
    split at hx
    · exact h.at_ i x hx
    · cases hx⟩
end

def AtInt : Ent Int := fun w _ b o x => w.cell? ⟨b, o, none⟩ = some (.int .i64 x) ∧ I64 x
def AtBool : Ent Bool := fun w _ b o x => w.cell? ⟨b, o, none⟩ = some (.bool x)
def AtStr : Ent ByteArray := fun w _ b o x => w.cell? ⟨b, o, none⟩ = some (.string x) ∧ x.size ≤ maxLen
def AtArr {α : Type} (E : Ent α) (sz : Nat) : Ent (List α) := fun w S b o xs => ∃ (A : Option Addr) (n c : Nat), w.cell? ⟨b, o, none⟩ = some (.slice A n c) ∧ n ≤ c ∧ c ≤ maxLen ∧ Arr E sz w S A n xs

theorem stays_int : Stays AtInt := fun _ _ _ _ _ _ _ _ hk hb h => ⟨(hk _ _ hb).trans h.1, h.2⟩
theorem stays_bool : Stays AtBool := fun _ _ _ _ _ _ _ _ hk hb h => (hk _ _ hb).trans h
theorem stays_str : Stays AtStr := fun _ _ _ _ _ _ _ _ hk hb h => ⟨(hk _ _ hb).trans h.1, h.2⟩
theorem stays_arr {α : Type} {E : Ent α} {sz : Nat} (hE : Stays E) : Stays (AtArr E sz) := fun _ _ _ _ _ _ _ hS hk hb h => by
  obtain ⟨A, n, c, h0, h1, h2, h3⟩ := h
  exact ⟨A, n, c, (hk _ _ hb).trans h0, h1, h2, h3.keep hE hS hk⟩

abbrev ArrB {α : Type} (E : Ent α) (sz : Nat) (w : World) (B : Nat) (A : Option Addr) (n : Nat) (xs : List α) : Prop := Arr E sz w (fun b => b < B) A n xs
theorem ArrB.below {α : Type} {E : Ent α} {sz : Nat} {w w' : World} {B B' : Nat} {A : Option Addr} {n : Nat} {xs : List α} (h : ArrB E sz w B A n xs) (hE : Stays E) (hb : Below B w w') (hB : B ≤ B') : ArrB E sz w' B' A n xs :=
  Arr.keep hE h (fun _ hb' => Nat.lt_of_lt_of_le hb' hB) (fun b o hlt => hb.cell (p := ⟨b, o, none⟩) hlt)
theorem ArrB.alloc {α : Type} {E : Ent α} {sz : Nat} {w : World} {B : Nat} {A : Option Addr} {n : Nat} {xs : List α} (h : ArrB E sz w B A n xs) (hE : Stays E) (hB : B ≤ w.heap.size) (o : Obj) : ArrB E sz (w.alloc o) B A n xs :=
  h.below hE ((Below.refl _ _).alloc hB o) (Nat.le_refl _)

/-- a list of numbers in memory -/
abbrev IntsB (w : World) (B : Nat) (A : Option Addr) (n : Nat) (xs : List Int) : Prop := ArrB AtInt 1 w B A n xs
theorem ints_get {w : World} {B : Nat} {A : Option Addr} {n : Nat} {xs : List Int} (h : IntsB w B A n xs) {i : Nat} (hi : i < n) :
    ∃ (b off : Nat) (hx : i < xs.length), A = some ⟨b, off, none⟩ ∧ b < B ∧ w.cell? ⟨b, off + i, none⟩ = some (.int .i64 xs[i]) ∧ -9223372036854775808 ≤ xs[i] ∧ xs[i] ≤ 9223372036854775807 := by
  obtain ⟨b, off, hx, e, hb, hc, h1, h2⟩ := Arr.get h hi
  rw [Nat.mul_one] at hc
  exact ⟨b, off, hx, e, hb, hc, h1, h2⟩

theorem arrs_get {α : Type} {E : Ent α} {sz : Nat} {w : World} {B : Nat} {A : Option Addr} {n : Nat} {xs : List (List α)} (h : ArrB (AtArr E sz) 1 w B A n xs) {i : Nat} (hi : i < n) :
    ∃ (b off : Nat) (hx : i < xs.length) (A' : Option Addr) (n' c' : Nat), A = some ⟨b, off, none⟩ ∧ b < B ∧ w.cell? ⟨b, off + i, none⟩ = some (.slice A' n' c') ∧ n' ≤ c' ∧ c' ≤ maxLen ∧ ArrB E sz w B A' n' xs[i] := by
  obtain ⟨b, off, hx, e, hb, A', n', c', hc, h1, h2, h3⟩ := Arr.get h hi
  rw [Nat.mul_one] at hc
  exact ⟨b, off, hx, A', n', c', e, hb, hc, h1, h2, h3⟩

structure TermD where
  head : Int
  kids : List Int
structure RowD where
  of_ : List Int
  kind : Int
  to_ : Int
structure AtomD where
  kind : Int
  a : Int
  b : Int
  row : RowD
structure FormD where
  terms : List TermD
  ints : List Bool
  atoms : List AtomD
  clauses : List (List Int)

def AtTerm : Ent TermD := fun w S b o x => AtInt w S b o x.head ∧ AtArr AtInt 1 w S b (o + 1) x.kids
def AtRow : Ent RowD := fun w S b o x => AtArr AtInt 1 w S b o x.of_ ∧ AtInt w S b (o + 1) x.kind ∧ AtInt w S b (o + 2) x.to_
def AtAtom : Ent AtomD := fun w S b o x => AtInt w S b o x.kind ∧ AtInt w S b (o + 1) x.a ∧ AtInt w S b (o + 2) x.b ∧ AtRow w S b (o + 3) x.row
theorem stays_term : Stays AtTerm := fun _ _ _ _ _ _ _ hS hk hb h => ⟨stays_int _ _ _ _ _ _ _ hS hk hb h.1, stays_arr stays_int _ _ _ _ _ _ _ hS hk hb h.2⟩
theorem stays_row : Stays AtRow := fun _ _ _ _ _ _ _ hS hk hb h => ⟨stays_arr stays_int _ _ _ _ _ _ _ hS hk hb h.1, stays_int _ _ _ _ _ _ _ hS hk hb h.2.1, stays_int _ _ _ _ _ _ _ hS hk hb h.2.2⟩
theorem stays_atom : Stays AtAtom := fun _ _ _ _ _ _ _ hS hk hb h => ⟨stays_int _ _ _ _ _ _ _ hS hk hb h.1, stays_int _ _ _ _ _ _ _ hS hk hb h.2.1, stays_int _ _ _ _ _ _ _ hS hk hb h.2.2.1, stays_row _ _ _ _ _ _ _ hS hk hb h.2.2.2⟩

theorem terms_get {w : World} {B : Nat} {A : Option Addr} {n : Nat} {xs : List TermD} (h : ArrB AtTerm 2 w B A n xs) {i : Nat} (hi : i < n) :
    ∃ (b off : Nat) (hx : i < xs.length) (A' : Option Addr) (n' c' : Nat), A = some ⟨b, off, none⟩ ∧ b < B ∧ w.cell? ⟨b, off + i * 2, none⟩ = some (.int .i64 xs[i].head) ∧ w.cell? ⟨b, off + i * 2 + 1, none⟩ = some (.slice A' n' c') ∧
      n' ≤ c' ∧ c' ≤ maxLen ∧ IntsB w B A' n' xs[i].kids ∧ -9223372036854775808 ≤ xs[i].head ∧ xs[i].head ≤ 9223372036854775807 := by
  obtain ⟨b, off, hx, e, hb, ⟨h0, h1, h2⟩, A', n', c', hc, h3, h4, h5⟩ := Arr.get h hi
  exact ⟨b, off, hx, A', n', c', e, hb, h0, hc, h3, h4, h5, h1, h2⟩

/-- the first element of which f says something else than 0: what it says, and its number -/
def firstBad {α : Type} (f : α → Int → Int) : List α → Int → Int × Int
  | [], _ => (0, 0)
  | x :: r, i => if f x i = 0 then firstBad f r (i + 1) else (f x i, i)
theorem firstBad_cons {α : Type} {f : α → Int → Int} {x : α} {r : List α} {i qc qa : Int} (h : firstBad f (x :: r) i = (qc, qa)) : (f x i = 0 → firstBad f r (i + 1) = (qc, qa)) ∧ (¬ f x i = 0 → f x i = qc ∧ i = qa) := by
  rw [firstBad] at h
  refine ⟨fun e => by rwa [if_pos e] at h, fun e => ?_⟩
  rw [if_neg e] at h
  simpa using h
theorem drop_cons {α : Type} {l : List α} {k : Nat} (h : k < l.length) : l.drop k = l[k] :: l.drop (k + 1) := List.drop_eq_getElem_cons h
theorem take_snoc_l {α : Type} {l : List α} {k : Nat} (h : k < l.length) : l.take (k + 1) = l.take k ++ [l[k]] := List.take_succ_eq_append_getElem h
end Go.Proofs.Ytdncchlfeanlmaa
namespace Go.Proofs.Ytdncchlfeanlmaa
open Go.RowKit

/-- how a thing is told by its cells, all that it leads to in blocks that S holds of -/
abbrev Val (α : Type) := World → (Nat → Prop) → List Value → α → Prop
structure Tells {α : Type} (V : Val α) (sz : Nat) : Prop where
  keep : ∀ (w w' : World) (S S' : Nat → Prop) (cs : List Value) (x : α), (∀ b, S b → S' b) → (∀ b o, S b → w'.cell? ⟨b, o, none⟩ = w.cell? ⟨b, o, none⟩) → V w S cs x → V w' S' cs x
  len : ∀ (w : World) (S : Nat → Prop) (cs : List Value) (x : α), V w S cs x → cs.length = sz
  one : ∀ (w : World) (S : Nat → Prop) (cs : List Value) (x : α), V w S cs x → ∀ u ∈ cs, u.oneCell' = true

def AtV {α : Type} (V : Val α) : Ent α := fun w S b o x => ∃ cs, V w S cs x ∧ ∀ j u, cs[j]? = some u → w.cell? ⟨b, o + j, none⟩ = some u

def VInt : Val Int := fun _ _ cs x => cs = [.int .i64 x] ∧ I64 x
def VBool : Val Bool := fun _ _ cs x => cs = [.bool x]
def VStr : Val ByteArray := fun _ _ cs x => cs = [.string x] ∧ x.size ≤ maxLen
def VArr {α : Type} (E : Ent α) (sz : Nat) : Val (List α) := fun w S cs xs => ∃ (A : Option Addr) (n c : Nat), cs = [.slice A n c] ∧ n ≤ c ∧ c ≤ maxLen ∧ Arr E sz w S A n xs

theorem tells_int : Tells VInt 1 := ⟨fun _ _ _ _ _ _ _ _ h => h, fun _ _ _ _ h => by rw [h.1]; rfl, fun _ _ _ _ h u hu => by rw [h.1] at hu; simp only [List.mem_singleton] at hu; rw [hu]; rfl⟩
theorem tells_bool : Tells VBool 1 := ⟨fun _ _ _ _ _ _ _ _ h => h, fun _ _ _ _ h => by rw [h]; rfl, fun _ _ _ _ h u hu => by rw [h] at hu; simp only [List.mem_singleton] at hu; rw [hu]; rfl⟩
theorem tells_str : Tells VStr 1 := ⟨fun _ _ _ _ _ _ _ _ h => h, fun _ _ _ _ h => by rw [h.1]; rfl, fun _ _ _ _ h u hu => by rw [h.1] at hu; simp only [List.mem_singleton] at hu; rw [hu]; rfl⟩
theorem tells_arr {α : Type} {E : Ent α} {sz : Nat} (hE : Stays E) : Tells (VArr E sz) 1 := ⟨fun _ _ _ _ _ _ hS hk h => by
    obtain ⟨A, n, c, h0, h1, h2, h3⟩ := h
    exact ⟨A, n, c, h0, h1, h2, h3.keep hE hS hk⟩,
  fun _ _ _ _ h => by obtain ⟨A, n, c, h0, _⟩ := h; rw [h0]; rfl,
  fun _ _ _ _ h u hu => by obtain ⟨A, n, c, h0, _⟩ := h; rw [h0] at hu; simp only [List.mem_singleton] at hu; rw [hu]; rfl⟩

theorem atV_int {w : World} {S : Nat → Prop} {b o : Nat} {x : Int} : AtV VInt w S b o x ↔ AtInt w S b o x :=
  ⟨fun ⟨cs, ⟨h0, hI⟩, hc⟩ => ⟨by rw [h0] at hc; exact hc 0 _ rfl, hI⟩, fun ⟨h0, hI⟩ => ⟨_, ⟨rfl, hI⟩, fun j u hj => by
    rcases j with _ | j
    · simp only [List.getElem?_cons_zero, Option.some.injEq] at hj
      rw [← hj]; exact h0
    · simp at hj⟩⟩
theorem atV_bool {w : World} {S : Nat → Prop} {b o : Nat} {x : Bool} : AtV VBool w S b o x ↔ AtBool w S b o x :=
  ⟨fun ⟨cs, h0, hc⟩ => by rw [h0] at hc; exact hc 0 _ rfl, fun h0 => ⟨_, rfl, fun j u hj => by
    rcases j with _ | j
    · simp only [List.getElem?_cons_zero, Option.some.injEq] at hj
      rw [← hj]; exact h0
    · simp at hj⟩⟩
theorem atV_str {w : World} {S : Nat → Prop} {b o : Nat} {x : ByteArray} : AtV VStr w S b o x ↔ AtStr w S b o x :=
  ⟨fun ⟨cs, ⟨h0, hI⟩, hc⟩ => ⟨by rw [h0] at hc; exact hc 0 _ rfl, hI⟩, fun ⟨h0, hI⟩ => ⟨_, ⟨rfl, hI⟩, fun j u hj => by
    rcases j with _ | j
    · simp only [List.getElem?_cons_zero, Option.some.injEq] at hj
      rw [← hj]; exact h0
    · simp at hj⟩⟩
theorem atV_arr {α : Type} {E : Ent α} {sz : Nat} {w : World} {S : Nat → Prop} {b o : Nat} {x : List α} : AtV (VArr E sz) w S b o x ↔ AtArr E sz w S b o x :=
  ⟨fun ⟨cs, ⟨A, n, c, h0, h1, h2, h3⟩, hc⟩ => ⟨A, n, c, by rw [h0] at hc; exact hc 0 _ rfl, h1, h2, h3⟩, fun ⟨A, n, c, h0, h1, h2, h3⟩ => ⟨_, ⟨A, n, c, rfl, h1, h2, h3⟩, fun j u hj => by
    rcases j with _ | j
    · simp only [List.getElem?_cons_zero, Option.some.injEq] at hj
      rw [← hj]; exact h0
    · simp at hj⟩⟩

/-- the cells of things, one behind the other -/
def Cels {α : Type} (V : Val α) (w : World) (S : Nat → Prop) : List α → List Value → Prop
  | [], cs => cs = []
  | x :: r, cs => ∃ c0 c1, cs = c0 ++ c1 ∧ V w S c0 x ∧ Cels V w S r c1

section
variable {α : Type} {V : Val α} {E : Ent α} {sz : Nat} {w w' : World} {S S' : Nat → Prop}
theorem Cels.keep (hV : Tells V sz) (hS : ∀ b, S b → S' b) (hk : ∀ b o, S b → w'.cell? ⟨b, o, none⟩ = w.cell? ⟨b, o, none⟩) : ∀ (xs : List α) (cs : List Value), Cels V w S xs cs → Cels V w' S' xs cs
  | [], _, h => h
  | _ :: r, _, h => by
    obtain ⟨c0, c1, rfl, h0, h1⟩ := h
    exact ⟨c0, c1, rfl, hV.keep _ _ _ _ _ _ hS hk h0, Cels.keep hV hS hk r c1 h1⟩
theorem Cels.len (hV : Tells V sz) : ∀ (xs : List α) (cs : List Value), Cels V w S xs cs → cs.length = xs.length * sz
  | [], _, h => by obtain rfl : _ = [] := h; simp
  | _ :: r, _, h => by
    obtain ⟨c0, c1, rfl, h0, h1⟩ := h
    have := Cels.len hV r c1 h1
    have := hV.len _ _ _ _ h0
    simp only [List.length_append, List.length_cons, Nat.add_mul, Nat.one_mul]
    omega
theorem Cels.one (hV : Tells V sz) : ∀ (xs : List α) (cs : List Value), Cels V w S xs cs → ∀ u ∈ cs, u.oneCell' = true
  | [], _, h, u, hu => by obtain rfl : _ = [] := h; simp at hu
  | _ :: r, _, h, u, hu => by
    obtain ⟨c0, c1, rfl, h0, h1⟩ := h
    rcases List.mem_append.1 hu with hu | hu
    · exact hV.one _ _ _ _ h0 u hu
    · exact Cels.one hV r c1 h1 u hu
theorem Cels.app : ∀ (xs ys : List α) (cs ds : List Value), Cels V w S xs cs → Cels V w S ys ds → Cels V w S (xs ++ ys) (cs ++ ds)
  | [], _, _, _, h, k => by obtain rfl : _ = [] := h; exact k
  | _ :: r, ys, _, ds, h, k => by
    obtain ⟨c0, c1, rfl, h0, h1⟩ := h
    exact ⟨c0, c1 ++ ds, by simp, h0, Cels.app r ys c1 ds h1 k⟩
theorem Cels.single {x : α} {cs : List Value} (h : V w S cs x) : Cels V w S [x] cs := ⟨cs, [], by simp, h, rfl⟩
theorem Cels.take (hV : Tells V sz) : ∀ (xs : List α) (cs : List Value) (k : Nat), k ≤ xs.length → Cels V w S xs cs → Cels V w S (xs.take k) (cs.take (k * sz))
  | [], _, k, hk, h => by obtain rfl : _ = [] := h; simp [Cels]
  | _ :: r, _, 0, _, h => by simp [Cels]
  | x :: r, _, k + 1, hk, h => by
    obtain ⟨c0, c1, rfl, h0, h1⟩ := h
    have hl := hV.len _ _ _ _ h0
    refine ⟨c0, c1.take (k * sz), ?_, h0, Cels.take hV r c1 k (by simp at hk; omega) h1⟩
    rw [List.take_append, List.take_of_length_le (by rw [hl, Nat.add_mul]; omega), hl]
    congr 2
    rw [Nat.add_mul]; omega
theorem Cels.at_ (hV : Tells V sz) {g : Nat} {cells : List Value} (hc : ∀ j u, cells[j]? = some u → w.cell? ⟨g, j, none⟩ = some u) : ∀ (xs : List α) (i : Nat) (suf : List Value), Cels V w S xs suf → (∀ j, suf[j]? = cells[i * sz + j]?) →
    ∀ k x, xs[k]? = some x → AtV V w S g ((i + k) * sz) x
  | [], _, _, _, _, k, x, hx => by simp at hx
  | y :: r, i, _, h, hsuf, k, x, hx => by
    obtain ⟨c0, c1, rfl, h0, h1⟩ := h
    have hl := hV.len _ _ _ _ h0
    rcases k with _ | k
    · simp only [List.getElem?_cons_zero, Option.some.injEq] at hx
      subst hx
      refine ⟨c0, h0, fun j u hj => ?_⟩
      rw [Nat.add_zero]
      refine hc _ _ ?_
      rw [← hsuf j, List.getElem?_append_left (List.getElem?_eq_some_iff.1 hj).1]
      exact hj
    · have := Cels.at_ hV hc r (i + 1) c1 h1 (fun j => by
        have := hsuf (sz + j)
        rw [List.getElem?_append_right (by omega), hl, Nat.add_sub_cancel_left] at this
        rw [this, Nat.add_mul, Nat.one_mul, Nat.add_assoc]) k x (by simpa using hx)
      rw [show i + (k + 1) = i + 1 + k from by omega]
      exact this

/-- the things of a slice that came in, as the cells that an append takes -/
theorem Arr.cels (hV : Tells V sz) {b off : Nat} : ∀ (xs : List α) (i : Nat), (∀ k x, xs[k]? = some x → S b ∧ AtV V w S b (off + (i + k) * sz) x) → ∃ cells, Cels V w S xs cells ∧ ∀ j u, cells[j]? = some u → w.cell? ⟨b, off + i * sz + j, none⟩ = some u
  | [], _, _ => ⟨[], rfl, fun j u h => by simp at h⟩
  | x :: r, i, h => by
    obtain ⟨hb, c0, h0, hc0⟩ := h 0 x rfl
    have hl := hV.len _ _ _ _ h0
    obtain ⟨c1, h1, hc1⟩ := Arr.cels hV r (i + 1) (fun k y hy => by
      have := h (k + 1) y (by simpa using hy)
      rwa [show i + (k + 1) = i + 1 + k from by omega] at this)
    refine ⟨c0 ++ c1, ⟨c0, c1, rfl, h0, h1⟩, fun j u hj => ?_⟩
    rcases Nat.lt_or_ge j sz with hlt | hge
    · rw [List.getElem?_append_left (by omega)] at hj
      exact hc0 j u hj
    · rw [List.getElem?_append_right (by omega), hl] at hj
      have := hc1 _ u hj
      rw [Nat.add_mul, Nat.one_mul] at this
      rw [show off + i * sz + j = off + (i * sz + sz) + (j - sz) from by omega]
      exact this
theorem Arr.news (hV : Tells V sz) (hE : ∀ w S b o x, E w S b o x → AtV V w S b o x) {ad : Addr} {n : Nat} {xs : List α} (h : Arr E sz w S (some ad) n xs) :
    ∃ cells, Cels V w S xs cells ∧ cells.length = n * sz ∧ (∀ u ∈ cells, u.oneCell' = true) ∧ ∀ j u, cells[j]? = some u → w.cell? (ad.add j) = some u := by
  rcases xs with _ | ⟨x, r⟩
  · have : n = 0 := by have := h.len; simpa using this.symm
    subst this
    exact ⟨[], rfl, by simp, fun u hu => by simp at hu, fun j u hj => by simp at hj⟩
  · obtain ⟨b, off, e, hb, _⟩ := h.at_ 0 x rfl
    injection e with e
    subst e
    obtain ⟨cells, h0, h1⟩ := Arr.cels (w := w) (S := S) hV (b := b) (off := off) (x :: r) 0 (fun k y hy => by
      obtain ⟨b', off', e', hb', hy'⟩ := h.at_ k y hy
      injection e' with e'
      injection e' with e1 e2
      subst e1
      subst e2
      rw [Nat.zero_add]
      exact ⟨hb', hE _ _ _ _ _ hy'⟩)
    refine ⟨cells, h0, by rw [h0.len hV, h.len], h0.one hV, fun j u hj => ?_⟩
    rw [Go.WideShapes.add_plain]
    have := h1 j u hj
    rwa [Nat.zero_mul, Nat.add_zero] at this

/-- the slice value v is the call's own row (in a block from base on) and holds the things xs; what they lead to lies in blocks that S holds of -/
def OwnV {α : Type} (V : Val α) (e sz : Nat) (w : World) (base : Nat) (S : Nat → Prop) (v : Value) (xs : List α) : Prop := ∃ cells, w.ownsRow base e sz v xs.length cells ∧ Cels V w S xs cells

variable {e base : Nat} {v : Value} {xs : List α}
theorem OwnV.none_ (V : Val α) (e sz : Nat) (w : World) (base : Nat) (S : Nat → Prop) : OwnV V e sz w base S (.slice none 0 0) [] := ⟨[], ⟨by simp, .inl ⟨rfl, rfl⟩⟩, rfl⟩
theorem OwnV.lt (h : OwnV V e sz w base S v xs) : ∀ g, v.ownBlock = some g → base ≤ g ∧ g < w.heap.size := by
  obtain ⟨cells, hown, _⟩ := h
  exact owns_ge hown
theorem OwnV.kept (hV : Tells V sz) {row : Option Nat} (h : OwnV V e sz w base S v xs) (hg : w.grownBy w' row) (hne : v.ownBlock = none ∨ v.ownBlock ≠ row) (hS : ∀ b, S b → S' b ∧ b < w.heap.size ∧ row ≠ some b) : OwnV V e sz w' base S' v xs := by
  obtain ⟨cells, hown, hels⟩ := h
  exact ⟨cells, hown.kept hg hne, Cels.keep hV (fun b hb => (hS b hb).1) (fun b o hb => only_cell hg (hS b hb).2.1 (hS b hb).2.2) _ _ hels⟩
theorem OwnV.push (hV : Tells V sz) {x : α} {c0 cells : List Value} {v' : Value} (hels : Cels V w S xs cells) (hx : V w S c0 x) (hown' : w'.ownsRow base e sz v' (xs.length + 1) (cells ++ c0)) (hg : w.grownBy w' v.ownBlock)
    (hS : ∀ b, S b → S' b ∧ b < w.heap.size ∧ v.ownBlock ≠ some b) : OwnV V e sz w' base S' v' (xs ++ [x]) :=
  ⟨cells ++ c0, by rw [List.length_append]; exact hown', Cels.keep hV (fun b hb => (hS b hb).1) (fun b o hb => only_cell hg (hS b hb).2.1 (hS b hb).2.2) _ _ (Cels.app _ _ _ _ hels (Cels.single hx))⟩
theorem OwnV.more (hV : Tells V sz) {ys : List α} {ds cells : List Value} {v' : Value} (hels : Cels V w S xs cells) (hy : Cels V w S ys ds) (hown' : w'.ownsRow base e sz v' (xs.length + ys.length) (cells ++ ds)) (hg : w.grownBy w' v.ownBlock)
    (hS : ∀ b, S b → S' b ∧ b < w.heap.size ∧ v.ownBlock ≠ some b) : OwnV V e sz w' base S' v' (xs ++ ys) :=
  ⟨cells ++ ds, by rw [List.length_append]; exact hown', Cels.keep hV (fun b hb => (hS b hb).1) (fun b o hb => only_cell hg (hS b hb).2.1 (hS b hb).2.2) _ _ (Cels.app _ _ _ _ hels hy)⟩
/-- a row of the call's own reads as a list -/
theorem OwnV.reads (hV : Tells V sz) (hE : ∀ w S b o x, AtV V w S b o x → E w S b o x) (h : OwnV V e sz w base S v xs) (hS : ∀ b, S b → S' b) (hg : ∀ g, v.ownBlock = some g → S' g) :
    ∃ A c, v = .slice A xs.length c ∧ xs.length ≤ c ∧ c ≤ maxLen ∧ Arr E sz w S' A xs.length xs := by
  obtain ⟨cells, hown, hels⟩ := h
  have hels' : Cels V w S' xs cells := Cels.keep hV hS (fun _ _ _ => rfl) _ _ hels
  rcases hown.2 with ⟨rfl, h0⟩ | ⟨g, cap, cur, rfl, hb, hh, hn, hcap, hcs, htake⟩
  · rw [h0, List.eq_nil_of_length_eq_zero h0]
    exact ⟨none, 0, rfl, Nat.le_refl _, by simp [maxLen], Arr.nil_⟩
  · refine ⟨_, _, rfl, hn, hcap, rfl, fun i x hx => ⟨g, 0, rfl, hg g rfl, ?_⟩⟩
    have := Cels.at_ hV (w := w) (S := S') (g := g) (cells := cells) (fun j u hu => by
      have := hown.cells (g := g) rfl j u hu
      rwa [Go.WideShapes.add_plain, Nat.zero_add] at this) xs 0 cells hels' (fun j => by rw [Nat.zero_mul, Nat.zero_add]) i x hx
    rw [Nat.zero_add] at this
    rw [Nat.zero_add]
    exact hE _ _ _ _ _ this
theorem OwnV.len (h : OwnV V e sz w base S v xs) : ∃ A c, v = .slice A xs.length c ∧ xs.length ≤ c ∧ c ≤ maxLen := by
  obtain ⟨cells, hown, _⟩ := h
  rcases hown.2 with ⟨rfl, h0⟩ | ⟨g, cap, cur, rfl, hb, hh, hn, hcap, hcs, htake⟩
  · exact ⟨none, 0, by rw [h0], by omega, by simp [maxLen]⟩
  · exact ⟨_, _, rfl, hn, hcap⟩
end
end Go.Proofs.Ytdncchlfeanlmaa
namespace Go.Proofs.Ytdncchlfeanlmaa
open Go.RowKit

/-- what the table of types says of a slice type t with elements of type e -/
structure RowT (P : Program) (t e : TypeId) (sz bytes : Nat) : Prop where
  ht : P.underlying t = some (.slice e)
  info : ∃ i z, P.info? e = some i ∧ i.zero = some z ∧ i.size = sz ∧ i.bytes = bytes ∧ z.cells.size = sz
  pos : 0 < sz
theorem rowT_of {P : Program} {t e : TypeId} {z : Value} {sz bytes : Nat} (ht : P.underlying t = some (.slice e)) (hi : (P.info? e).map (fun i => (i.zero, i.size, i.bytes)) = some (some z, sz, bytes)) (hz : z.cells.size = sz) (pos : 0 < sz) : RowT P t e sz bytes := by
  obtain ⟨i0, h0, h1, h2, h3⟩ := info_parts hi
  exact ⟨ht, ⟨i0, z, h0, h1, h2, h3, hz⟩, pos⟩

theorem run_append_own_nothing {P : Program} {w : World} (base : Nat) (t ty e : TypeId) (i : TypeInfo) (size c : Nat) (ht : P.underlying t = some (.slice e)) (hi : P.info? e = some i)
    (v : Value) (n : Nat) (xs : List Value) (hown : w.ownsRow base e size v n xs) : (Builtin.append_ #[t, t] ty #[v, .slice none 0 c]).run P w = .ok v w := by
  rcases hown.2 with ⟨rfl, rfl⟩ | ⟨g, cap, cur, rfl, _, _, hnc, _⟩
  · simp [Builtin.append_, run_underlying ht, sizeOf, typeInfo, hi, Builtin.lenOf, Builtin.firstCells]
  · simp [Builtin.append_, run_underlying ht, sizeOf, typeInfo, hi, Builtin.lenOf, Builtin.firstCells, hnc, storeCells]

theorem run_append_many {P : Program} {w : World} {t ty e : TypeId} {sz bytes : Nat} (T : RowT P t e sz bytes) {α : Type} {V : Val α} (hV : Tells V sz) {base : Nat} {S : Nat → Prop} {v : Value} {xs : List α} (hown : OwnV V e sz w base S v xs)
    {E : Ent α} (hE : ∀ w S b o x, E w S b o x → AtV V w S b o x) {A : Option Addr} {m c : Nat} {ys : List α} (hys : Arr E sz w S A m ys) (hS : ∀ b, S b → b < w.heap.size ∧ v.ownBlock ≠ some b)
    (h63 : xs.length + m ≤ maxLen) (hbytes : (xs.length + m) * bytes ≤ 140737488355328) (hbase : base ≤ w.heap.size) :
    ∃ v' w', (Builtin.append_ #[t, t] ty #[v, .slice A m c]).run P w = .ok v' w' ∧ OwnV V e sz w' base S v' (xs ++ ys) ∧ w.grownBy w' v.ownBlock ∧ (v'.ownBlock = v.ownBlock ∨ v'.ownBlock = some w.heap.size) := by
  obtain ⟨ht, ⟨i, z, hi, hz, hsize, hby, hzs⟩, hpos⟩ := T
  obtain ⟨cells, hrow, hels⟩ := hown
  rcases A with _ | ad
  · have h0 : ys = [] := by
      cases ys with
      | nil => rfl
      | cons x r => obtain ⟨b, off, e, _⟩ := hys.at_ 0 x rfl; cases e
    subst h0
    have hm : m = 0 := by have := hys.len; simpa using this.symm
    subst hm
    exact ⟨v, w, run_append_own_nothing base t ty e i sz c ht hi v _ cells hrow, ⟨cells, by simpa using hrow, by simpa using hels⟩, only_refl _ _, .inl rfl⟩
  · obtain ⟨ds, hds, hdl, hd1, hdc⟩ := hys.news hV hE
    obtain ⟨v', w', hr, h2, h3, _, h5⟩ := run_append_own_at (P := P) w base t ty e i z sz bytes ht hi hz hsize hby hzs hpos v xs.length cells hrow ad m c ds hdl hdc hd1 h63 hbytes hbase
    have hl := hys.len
    subst hl
    exact ⟨v', w', hr, OwnV.more hV hels hds h2 h3 (fun b hb => ⟨hb, hS b hb⟩), h3, h5⟩

theorem wpList_append_many {P : Program} {w : World} {ops : Array Oper} {rest : List Oper} {o : Oper} {a : Act} {Q : Exit → Act → World → Prop} (hgd : o.guard = none) (s x : Operand) (t : TypeId)
    (ho : o.op = .call { callee := .builtin .append, args := #[s, x], argTypes := #[t, t] }) {e : TypeId} {sz bytes : Nat} (T : RowT P t e sz bytes) {α : Type} {V : Val α} (hV : Tells V sz) {base : Nat} {S : Nat → Prop} {v : Value} {xs : List α}
    (hs : a.eval s = v) (hown : OwnV V e sz w base S v xs) {E : Ent α} (hE : ∀ w S b o x, E w S b o x → AtV V w S b o x) {A : Option Addr} {m c : Nat} {ys : List α} (hx : a.eval x = .slice A m c) (hys : Arr E sz w S A m ys)
    (hS : ∀ b, S b → b < w.heap.size ∧ v.ownBlock ≠ some b) (h63 : xs.length + m ≤ maxLen) (hbytes : (xs.length + m) * bytes ≤ 140737488355328) (hbase : base ≤ w.heap.size)
    (h : ∀ v' w', OwnV V e sz w' base S v' (xs ++ ys) → w.grownBy w' v.ownBlock → (v'.ownBlock = v.ownBlock ∨ v'.ownBlock = some w.heap.size) → wpList P ops Q rest (a.put o.dst v') w') : wpList P ops Q (o :: rest) a w := by
  refine wpList_plain hgd fun K hK => ?_
  obtain ⟨v', w', hr, h2, h3, h5⟩ := run_append_many (P := P) (ty := o.type) (c := c) T hV hown hE hys hS h63 hbytes hbase
  unfold Oper.wp execOp
  simp only [ho, resolve, invoke, builtin, Sem.run_bind, Sem.run_pure, Result.andThen_ok, List.map_toArray, List.map_cons, List.map_nil, hs, hx, hr]
  exact hK _ _ (h v' w' h2 h3 h5)

theorem run_append_item {P : Program} {w : World} {t ty e : TypeId} {sz bytes : Nat} (T : RowT P t e sz bytes) {α : Type} {V : Val α} (hV : Tells V sz) {base : Nat} {S : Nat → Prop} {v : Value} {xs : List α} (hown : OwnV V e sz w base S v xs)
    {g : Nat} {cs : Array Value} {t' : TypeId} {c : Nat} (hblk : Blk w g t' cs) {x : α} (hx : V w S cs.toList x) (hS : ∀ b, S b → b < w.heap.size ∧ v.ownBlock ≠ some b)
    (h63 : xs.length + 1 ≤ maxLen) (hbytes : (xs.length + 1) * bytes ≤ 140737488355328) (hbase : base ≤ w.heap.size) :
    ∃ v' w', (Builtin.append_ #[t, t] ty #[v, .slice (some ⟨g, 0, none⟩) 1 c]).run P w = .ok v' w' ∧ OwnV V e sz w' base S v' (xs ++ [x]) ∧ w.grownBy w' v.ownBlock ∧ (v'.ownBlock = v.ownBlock ∨ v'.ownBlock = some w.heap.size) := by
  obtain ⟨ht, ⟨i, z, hi, hz, hsize, hby, hzs⟩, hpos⟩ := T
  obtain ⟨cells, hrow, hels⟩ := hown
  have hl := hV.len _ _ _ _ hx
  obtain ⟨v', w', hr, h2, h3, _, h5⟩ := run_append_own_at (P := P) w base t ty e i z sz bytes ht hi hz hsize hby hzs hpos v xs.length cells hrow ⟨g, 0, none⟩ 1 c cs.toList (by omega) (fun j u hj => by
    rw [Go.WideShapes.add_plain, Nat.zero_add, hblk.cell]
    simpa using hj) (hV.one _ _ _ _ hx) h63 hbytes hbase
  exact ⟨v', w', hr, OwnV.push hV hels hx h2 h3 (fun b hb => ⟨hb, hS b hb⟩), h3, h5⟩

theorem wpList_append_item {P : Program} {w : World} {ops : Array Oper} {rest : List Oper} {o : Oper} {a : Act} {Q : Exit → Act → World → Prop} (hgd : o.guard = none) (s x : Operand) (t : TypeId)
    (ho : o.op = .call { callee := .builtin .append, args := #[s, x], argTypes := #[t, t] }) {e : TypeId} {sz bytes : Nat} (T : RowT P t e sz bytes) {α : Type} {V : Val α} (hV : Tells V sz) {base : Nat} {S : Nat → Prop} {v : Value} {xs : List α}
    (hs : a.eval s = v) (hown : OwnV V e sz w base S v xs) {g : Nat} {cs : Array Value} {t' : TypeId} {c : Nat} (hxe : a.eval x = .slice (some ⟨g, 0, none⟩) 1 c) (hblk : Blk w g t' cs) {y : α} (hx : V w S cs.toList y)
    (hS : ∀ b, S b → b < w.heap.size ∧ v.ownBlock ≠ some b) (h63 : xs.length + 1 ≤ maxLen) (hbytes : (xs.length + 1) * bytes ≤ 140737488355328) (hbase : base ≤ w.heap.size)
    (h : ∀ v' w', OwnV V e sz w' base S v' (xs ++ [y]) → w.grownBy w' v.ownBlock → (v'.ownBlock = v.ownBlock ∨ v'.ownBlock = some w.heap.size) → wpList P ops Q rest (a.put o.dst v') w') : wpList P ops Q (o :: rest) a w := by
  refine wpList_plain hgd fun K hK => ?_
  obtain ⟨v', w', hr, h2, h3, h5⟩ := run_append_item (P := P) (ty := o.type) (c := c) T hV hown hblk hx hS h63 hbytes hbase
  unfold Oper.wp execOp
  simp only [ho, resolve, invoke, builtin, Sem.run_bind, Sem.run_pure, Result.andThen_ok, List.map_toArray, List.map_cons, List.map_nil, hs, hxe, hr]
  exact hK _ _ (h v' w' h2 h3 h5)
end Go.Proofs.Ytdncchlfeanlmaa
namespace Go.Proofs.Ytdncchlfeanlmaa
open Go.RowKit

theorem one_only {w' w : World} {g : Nat} (h : w.grownBy w' (some g)) (o : Nat) (u : Value) : w.grownBy (w'.setCell ⟨g, o, none⟩ u) (some g) := only_setCell (p := ⟨g, o, none⟩) h (.inl rfl) u
def two (w : World) (g : Nat) (a b : Value) : World := (w.setCell ⟨g, 0, none⟩ a).setCell ⟨g, 1, none⟩ b
theorem two_blk {w : World} {g : Nat} {t : TypeId} {a0 b0 : Value} (h : Blk w g t #[a0, b0]) (a b : Value) : Blk (two w g a b) g t #[a, b] := by
  have h1 : Blk (w.setCell ⟨g, 0, none⟩ a) g t #[a, b0] := h.set_ 0 a
  exact h1.set_ 1 b
theorem two_only (w : World) (g : Nat) (a b : Value) : w.grownBy (two w g a b) (some g) := one_only (one_only (only_refl _ _) 0 a) 1 b
theorem two_below {w0 w : World} {B g : Nat} (h : Below B w0 w) (hg : B ≤ g) (a b : Value) : Below B w0 (two w g a b) := (h.setCell (p := ⟨g, 0, none⟩) hg a).setCell (p := ⟨g, 1, none⟩) hg b
theorem grown_of (w : World) (row : Option Nat) (o : Obj) : w.grownBy (w.alloc o) row := only_alloc (only_refl _ _) o
end Go.Proofs.Ytdncchlfeanlmaa
