/- Lists in memory: a slice that reads as a list of things, whatever a thing is; forms and what is in them. No program is named here. -/
import Derived.Test.YtggkfepifnfdoaaBaseB
namespace Go.Proofs.Ytggkfepifnfdoaa
open Go.RowKit

def I64 (x : Int) : Prop := -9223372036854775808 ≤ x ∧ x ≤ 9223372036854775807

/-- how a thing lies from offset o of block b on, all that it leads to in blocks that S holds of -/
abbrev Ent (α : Type) := World → (Nat → Prop) → Nat → Nat → α → Prop
def Stays {α : Type} (E : Ent α) : Prop := ∀ (w w' : World) (S S' : Nat → Prop) (b o : Nat) (x : α), (∀ b, S b → S' b) → (∀ b o, S b → w'.cell? ⟨b, o, none⟩ = w.cell? ⟨b, o, none⟩) → S b → E w S b o x → E w' S' b o x

/-- the slice at A, of n things, each of sz cells, reads as xs -/
structure Arr {α : Type} (E : Ent α) (sz : Nat) (w : World) (S : Nat → Prop) (A : Option Addr) (n : Nat) (xs : List α) : Prop where
  len : xs.length = n
  at_ : ∀ i x, xs[i]? = some x → ∃ b off, A = some ⟨b, off, none⟩ ∧ S b ∧ E w S b (off + i * sz) x

section
variable {α : Type} {E : Ent α} {sz : Nat} {w w' : World} {S S' : Nat → Prop} {A : Option Addr} {n : Nat} {xs : List α}
theorem Arr.nil_ : Arr E sz w S A 0 [] := ⟨rfl, fun i x h => by simp at h⟩
theorem Arr.keep (hE : Stays E) (h : Arr E sz w S A n xs) (hS : ∀ b, S b → S' b) (hk : ∀ b o, S b → w'.cell? ⟨b, o, none⟩ = w.cell? ⟨b, o, none⟩) : Arr E sz w' S' A n xs :=
  ⟨h.len, fun i x hx => by
    obtain ⟨b, off, e, hb, hx'⟩ := h.at_ i x hx
    exact ⟨b, off, e, hS b hb, hE w w' S S' _ _ _ hS hk hb hx'⟩⟩
theorem Arr.drew (hE : Stays E) (h : Arr E sz w S A n xs) : Arr E sz w.drew S A n xs := h.keep hE (fun _ h => h) (fun _ _ _ => rfl)
theorem Arr.drewN (hE : Stays E) (h : Arr E sz w S A n xs) (k : Nat) : Arr E sz (w.drewN k) S A n xs := h.keep hE (fun _ h => h) (fun _ _ _ => rfl)
theorem Arr.get (h : Arr E sz w S A n xs) {i : Nat} (hi : i < n) : ∃ (b off : Nat) (hx : i < xs.length), A = some ⟨b, off, none⟩ ∧ S b ∧ E w S b (off + i * sz) xs[i] := by
  have hl : i < xs.length := by have := h.len; omega
  obtain ⟨b, off, e, hb, hx⟩ := h.at_ i xs[i] (List.getElem?_eq_getElem hl)
  exact ⟨b, off, hl, e, hb, hx⟩
theorem Arr.take (h : Arr E sz w S A n xs) {k : Nat} (hk : k ≤ n) : Arr E sz w S A k (xs.take k) :=
  ⟨by have := h.len; simp; omega, fun i x hx => by
    rw [List.getElem?_take] at hx
    split at hx
    · exact h.at_ i x hx
    · cases hx⟩
end

def AtInt : Ent Int := fun w _ b o x => w.cell? ⟨b, o, none⟩ = some (.int .i64 x) ∧ I64 x
def AtBool : Ent Bool := fun w _ b o x => w.cell? ⟨b, o, none⟩ = some (.bool x)
def AtStr : Ent ByteArray := fun w _ b o x => w.cell? ⟨b, o, none⟩ = some (.string x) ∧ x.size ≤ maxLen
def AtArr {α : Type} (E : Ent α) (sz : Nat) : Ent (List α) := fun w S b o xs => ∃ (A : Option Addr) (n c : Nat), w.cell? ⟨b, o, none⟩ = some (.slice A n c) ∧ n ≤ c ∧ c ≤ maxLen ∧ Arr E sz w S A n xs

theorem stays_int : Stays AtInt := fun _ _ _ _ _ _ _ _ hk hb h => ⟨(hk _ _ hb).trans h.1, h.2⟩
theorem stays_bool : Stays AtBool := fun _ _ _ _ _ _ _ _ hk hb h => (hk _ _ hb).trans h
theorem stays_str : Stays AtStr := fun _ _ _ _ _ _ _ _ hk hb h => ⟨(hk _ _ hb).trans h.1, h.2⟩
theorem stays_arr {α : Type} {E : Ent α} {sz : Nat} (hE : Stays E) : Stays (AtArr E sz) := fun _ _ _ _ _ _ _ hS hk hb h => by
  obtain ⟨A, n, c, h0, h1, h2, h3⟩ := h
  exact ⟨A, n, c, (hk _ _ hb).trans h0, h1, h2, h3.keep hE hS hk⟩

abbrev ArrB {α : Type} (E : Ent α) (sz : Nat) (w : World) (B : Nat) (A : Option Addr) (n : Nat) (xs : List α) : Prop := Arr E sz w (fun b => b < B) A n xs
theorem ArrB.below {α : Type} {E : Ent α} {sz : Nat} {w w' : World} {B B' : Nat} {A : Option Addr} {n : Nat} {xs : List α} (h : ArrB E sz w B A n xs) (hE : Stays E) (hb : Below B w w') (hB : B ≤ B') : ArrB E sz w' B' A n xs :=
  Arr.keep hE h (fun _ hb' => Nat.lt_of_lt_of_le hb' hB) (fun b o hlt => hb.cell (p := ⟨b, o, none⟩) hlt)
theorem ArrB.alloc {α : Type} {E : Ent α} {sz : Nat} {w : World} {B : Nat} {A : Option Addr} {n : Nat} {xs : List α} (h : ArrB E sz w B A n xs) (hE : Stays E) (hB : B ≤ w.heap.size) (o : Obj) : ArrB E sz (w.alloc o) B A n xs :=
  h.below hE ((Below.refl _ _).alloc hB o) (Nat.le_refl _)

/-- a list of numbers in memory -/
abbrev IntsB (w : World) (B : Nat) (A : Option Addr) (n : Nat) (xs : List Int) : Prop := ArrB AtInt 1 w B A n xs
theorem ints_get {w : World} {B : Nat} {A : Option Addr} {n : Nat} {xs : List Int} (h : IntsB w B A n xs) {i : Nat} (hi : i < n) :
    ∃ (b off : Nat) (hx : i < xs.length), A = some ⟨b, off, none⟩ ∧ b < B ∧ w.cell? ⟨b, off + i, none⟩ = some (.int .i64 xs[i]) ∧ -9223372036854775808 ≤ xs[i] ∧ xs[i] ≤ 9223372036854775807 := by
  obtain ⟨b, off, hx, e, hb, hc, h1, h2⟩ := Arr.get h hi
  rw [Nat.mul_one] at hc
  exact ⟨b, off, hx, e, hb, hc, h1, h2⟩

theorem arrs_get {α : Type} {E : Ent α} {sz : Nat} {w : World} {B : Nat} {A : Option Addr} {n : Nat} {xs : List (List α)} (h : ArrB (AtArr E sz) 1 w B A n xs) {i : Nat} (hi : i < n) :
    ∃ (b off : Nat) (hx : i < xs.length) (A' : Option Addr) (n' c' : Nat), A = some ⟨b, off, none⟩ ∧ b < B ∧ w.cell? ⟨b, off + i, none⟩ = some (.slice A' n' c') ∧ n' ≤ c' ∧ c' ≤ maxLen ∧ ArrB E sz w B A' n' xs[i] := by
  obtain ⟨b, off, hx, e, hb, A', n', c', hc, h1, h2, h3⟩ := Arr.get h hi
  rw [Nat.mul_one] at hc
  exact ⟨b, off, hx, A', n', c', e, hb, hc, h1, h2, h3⟩

structure TermD where
  head : Int
  kids : List Int
structure RowD where
  of_ : List Int
  kind : Int
  to_ : Int
structure AtomD where
  kind : Int
  a : Int
  b : Int
  row : RowD
structure FormD where
  terms : List TermD
  ints : List Bool
  atoms : List AtomD
  clauses : List (List Int)

def AtTerm : Ent TermD := fun w S b o x => AtInt w S b o x.head ∧ AtArr AtInt 1 w S b (o + 1) x.kids
def AtRow : Ent RowD := fun w S b o x => AtArr AtInt 1 w S b o x.of_ ∧ AtInt w S b (o + 1) x.kind ∧ AtInt w S b (o + 2) x.to_
def AtAtom : Ent AtomD := fun w S b o x => AtInt w S b o x.kind ∧ AtInt w S b (o + 1) x.a ∧ AtInt w S b (o + 2) x.b ∧ AtRow w S b (o + 3) x.row
theorem stays_term : Stays AtTerm := fun _ _ _ _ _ _ _ hS hk hb h => ⟨stays_int _ _ _ _ _ _ _ hS hk hb h.1, stays_arr stays_int _ _ _ _ _ _ _ hS hk hb h.2⟩
theorem stays_row : Stays AtRow := fun _ _ _ _ _ _ _ hS hk hb h => ⟨stays_arr stays_int _ _ _ _ _ _ _ hS hk hb h.1, stays_int _ _ _ _ _ _ _ hS hk hb h.2.1, stays_int _ _ _ _ _ _ _ hS hk hb h.2.2⟩
theorem stays_atom : Stays AtAtom := fun _ _ _ _ _ _ _ hS hk hb h => ⟨stays_int _ _ _ _ _ _ _ hS hk hb h.1, stays_int _ _ _ _ _ _ _ hS hk hb h.2.1, stays_int _ _ _ _ _ _ _ hS hk hb h.2.2.1, stays_row _ _ _ _ _ _ _ hS hk hb h.2.2.2⟩

theorem terms_get {w : World} {B : Nat} {A : Option Addr} {n : Nat} {xs : List TermD} (h : ArrB AtTerm 2 w B A n xs) {i : Nat} (hi : i < n) :
    ∃ (b off : Nat) (hx : i < xs.length) (A' : Option Addr) (n' c' : Nat), A = some ⟨b, off, none⟩ ∧ b < B ∧ w.cell? ⟨b, off + i * 2, none⟩ = some (.int .i64 xs[i].head) ∧ w.cell? ⟨b, off + i * 2 + 1, none⟩ = some (.slice A' n' c') ∧
      n' ≤ c' ∧ c' ≤ maxLen ∧ IntsB w B A' n' xs[i].kids ∧ -9223372036854775808 ≤ xs[i].head ∧ xs[i].head ≤ 9223372036854775807 := by
  obtain ⟨b, off, hx, e, hb, ⟨h0, h1, h2⟩, A', n', c', hc, h3, h4, h5⟩ := Arr.get h hi
  exact ⟨b, off, hx, A', n', c', e, hb, h0, hc, h3, h4, h5, h1, h2⟩

/-- the first element of which f says something else than 0: what it says, and its number -/
def firstBad {α : Type} (f : α → Int → Int) : List α → Int → Int × Int
  | [], _ => (0, 0)
  | x :: r, i => if f x i = 0 then firstBad f r (i + 1) else (f x i, i)
theorem firstBad_cons {α : Type} {f : α → Int → Int} {x : α} {r : List α} {i qc qa : Int} (h : firstBad f (x :: r) i = (qc, qa)) : (f x i = 0 → firstBad f r (i + 1) = (qc, qa)) ∧ (¬ f x i = 0 → f x i = qc ∧ i = qa) := by
  rw [firstBad] at h
  refine ⟨fun e => by rwa [if_pos e] at h, fun e => ?_⟩
  rw [if_neg e] at h
  simpa using h
theorem drop_cons {α : Type} {l : List α} {k : Nat} (h : k < l.length) : l.drop k = l[k] :: l.drop (k + 1) := List.drop_eq_getElem_cons h
theorem take_snoc_l {α : Type} {l : List α} {k : Nat} (h : k < l.length) : l.take (k + 1) = l.take k ++ [l[k]] := List.take_succ_eq_append_getElem h
end Go.Proofs.Ytggkfepifnfdoaa
