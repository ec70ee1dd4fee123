/- Rows of the call's own, of whatever things: how a thing is told by its cells; what an append makes of a row; a finished row as a slice that reads as a list. No program is named here. -/
import Derived.Test.YtggkfepifnfdoaaData
import Derived.Deep.AppendLies
namespace Go.Proofs.Ytggkfepifnfdoaa
open Go.RowKit

/-- how a thing is told by its cells, all that it leads to in blocks that S holds of -/
abbrev Val (α : Type) := World → (Nat → Prop) → List Value → α → Prop
structure Tells {α : Type} (V : Val α) (sz : Nat) : Prop where
  keep : ∀ (w w' : World) (S S' : Nat → Prop) (cs : List Value) (x : α), (∀ b, S b → S' b) → (∀ b o, S b → w'.cell? ⟨b, o, none⟩ = w.cell? ⟨b, o, none⟩) → V w S cs x → V w' S' cs x
  len : ∀ (w : World) (S : Nat → Prop) (cs : List Value) (x : α), V w S cs x → cs.length = sz
  one : ∀ (w : World) (S : Nat → Prop) (cs : List Value) (x : α), V w S cs x → ∀ u ∈ cs, u.oneCell' = true

def AtV {α : Type} (V : Val α) : Ent α := fun w S b o x => ∃ cs, V w S cs x ∧ ∀ j u, cs[j]? = some u → w.cell? ⟨b, o + j, none⟩ = some u

def VInt : Val Int := fun _ _ cs x => cs = [.int .i64 x] ∧ I64 x
def VBool : Val Bool := fun _ _ cs x => cs = [.bool x]
def VStr : Val ByteArray := fun _ _ cs x => cs = [.string x] ∧ x.size ≤ maxLen
def VArr {α : Type} (E : Ent α) (sz : Nat) : Val (List α) := fun w S cs xs => ∃ (A : Option Addr) (n c : Nat), cs = [.slice A n c] ∧ n ≤ c ∧ c ≤ maxLen ∧ Arr E sz w S A n xs

theorem tells_int : Tells VInt 1 := ⟨fun _ _ _ _ _ _ _ _ h => h, fun _ _ _ _ h => by rw [h.1]; rfl, fun _ _ _ _ h u hu => by rw [h.1] at hu; simp only [List.mem_singleton] at hu; rw [hu]; rfl⟩
theorem tells_bool : Tells VBool 1 := ⟨fun _ _ _ _ _ _ _ _ h => h, fun _ _ _ _ h => by rw [h]; rfl, fun _ _ _ _ h u hu => by rw [h] at hu; simp only [List.mem_singleton] at hu; rw [hu]; rfl⟩
theorem tells_str : Tells VStr 1 := ⟨fun _ _ _ _ _ _ _ _ h => h, fun _ _ _ _ h => by rw [h.1]; rfl, fun _ _ _ _ h u hu => by rw [h.1] at hu; simp only [List.mem_singleton] at hu; rw [hu]; rfl⟩
theorem tells_arr {α : Type} {E : Ent α} {sz : Nat} (hE : Stays E) : Tells (VArr E sz) 1 := ⟨fun _ _ _ _ _ _ hS hk h => by
    obtain ⟨A, n, c, h0, h1, h2, h3⟩ := h
    exact ⟨A, n, c, h0, h1, h2, h3.keep hE hS hk⟩,
  fun _ _ _ _ h => by obtain ⟨A, n, c, h0, _⟩ := h; rw [h0]; rfl,
  fun _ _ _ _ h u hu => by obtain ⟨A, n, c, h0, _⟩ := h; rw [h0] at hu; simp only [List.mem_singleton] at hu; rw [hu]; rfl⟩

theorem atV_int {w : World} {S : Nat → Prop} {b o : Nat} {x : Int} : AtV VInt w S b o x ↔ AtInt w S b o x :=
  ⟨fun ⟨cs, ⟨h0, hI⟩, hc⟩ => ⟨by rw [h0] at hc; exact hc 0 _ rfl, hI⟩, fun ⟨h0, hI⟩ => ⟨_, ⟨rfl, hI⟩, fun j u hj => by
    rcases j with _ | j
    · simp only [List.getElem?_cons_zero, Option.some.injEq] at hj
      rw [← hj]; exact h0
    · simp at hj⟩⟩
theorem atV_bool {w : World} {S : Nat → Prop} {b o : Nat} {x : Bool} : AtV VBool w S b o x ↔ AtBool w S b o x :=
  ⟨fun ⟨cs, h0, hc⟩ => by rw [h0] at hc; exact hc 0 _ rfl, fun h0 => ⟨_, rfl, fun j u hj => by
    rcases j with _ | j
    · simp only [List.getElem?_cons_zero, Option.some.injEq] at hj
      rw [← hj]; exact h0
    · simp at hj⟩⟩
theorem atV_str {w : World} {S : Nat → Prop} {b o : Nat} {x : ByteArray} : AtV VStr w S b o x ↔ AtStr w S b o x :=
  ⟨fun ⟨cs, ⟨h0, hI⟩, hc⟩ => ⟨by rw [h0] at hc; exact hc 0 _ rfl, hI⟩, fun ⟨h0, hI⟩ => ⟨_, ⟨rfl, hI⟩, fun j u hj => by
    rcases j with _ | j
    · simp only [List.getElem?_cons_zero, Option.some.injEq] at hj
      rw [← hj]; exact h0
    · simp at hj⟩⟩
theorem atV_arr {α : Type} {E : Ent α} {sz : Nat} {w : World} {S : Nat → Prop} {b o : Nat} {x : List α} : AtV (VArr E sz) w S b o x ↔ AtArr E sz w S b o x :=
  ⟨fun ⟨cs, ⟨A, n, c, h0, h1, h2, h3⟩, hc⟩ => ⟨A, n, c, by rw [h0] at hc; exact hc 0 _ rfl, h1, h2, h3⟩, fun ⟨A, n, c, h0, h1, h2, h3⟩ => ⟨_, ⟨A, n, c, rfl, h1, h2, h3⟩, fun j u hj => by
    rcases j with _ | j
    · simp only [List.getElem?_cons_zero, Option.some.injEq] at hj
      rw [← hj]; exact h0
    · simp at hj⟩⟩

/-- the cells of things, one behind the other -/
def Cels {α : Type} (V : Val α) (w : World) (S : Nat → Prop) : List α → List Value → Prop
  | [], cs => cs = []
  | x :: r, cs => ∃ c0 c1, cs = c0 ++ c1 ∧ V w S c0 x ∧ Cels V w S r c1

section
variable {α : Type} {V : Val α} {E : Ent α} {sz : Nat} {w w' : World} {S S' : Nat → Prop}
theorem Cels.keep (hV : Tells V sz) (hS : ∀ b, S b → S' b) (hk : ∀ b o, S b → w'.cell? ⟨b, o, none⟩ = w.cell? ⟨b, o, none⟩) : ∀ (xs : List α) (cs : List Value), Cels V w S xs cs → Cels V w' S' xs cs
  | [], _, h => h
  | _ :: r, _, h => by
    obtain ⟨c0, c1, rfl, h0, h1⟩ := h
    exact ⟨c0, c1, rfl, hV.keep _ _ _ _ _ _ hS hk h0, Cels.keep hV hS hk r c1 h1⟩
theorem Cels.len (hV : Tells V sz) : ∀ (xs : List α) (cs : List Value), Cels V w S xs cs → cs.length = xs.length * sz
  | [], _, h => by obtain rfl : _ = [] := h; simp
  | _ :: r, _, h => by
    obtain ⟨c0, c1, rfl, h0, h1⟩ := h
    have := Cels.len hV r c1 h1
    have := hV.len _ _ _ _ h0
    simp only [List.length_append, List.length_cons, Nat.add_mul, Nat.one_mul]
    omega
theorem Cels.one (hV : Tells V sz) : ∀ (xs : List α) (cs : List Value), Cels V w S xs cs → ∀ u ∈ cs, u.oneCell' = true
  | [], _, h, u, hu => by obtain rfl : _ = [] := h; simp at hu
  | _ :: r, _, h, u, hu => by
    obtain ⟨c0, c1, rfl, h0, h1⟩ := h
    rcases List.mem_append.1 hu with hu | hu
    · exact hV.one _ _ _ _ h0 u hu
    · exact Cels.one hV r c1 h1 u hu
theorem Cels.app : ∀ (xs ys : List α) (cs ds : List Value), Cels V w S xs cs → Cels V w S ys ds → Cels V w S (xs ++ ys) (cs ++ ds)
  | [], _, _, _, h, k => by obtain rfl : _ = [] := h; exact k
  | _ :: r, ys, _, ds, h, k => by
    obtain ⟨c0, c1, rfl, h0, h1⟩ := h
    exact ⟨c0, c1 ++ ds, by simp, h0, Cels.app r ys c1 ds h1 k⟩
theorem Cels.single {x : α} {cs : List Value} (h : V w S cs x) : Cels V w S [x] cs := ⟨cs, [], by simp, h, rfl⟩
theorem Cels.take (hV : Tells V sz) : ∀ (xs : List α) (cs : List Value) (k : Nat), k ≤ xs.length → Cels V w S xs cs → Cels V w S (xs.take k) (cs.take (k * sz))
  | [], _, k, hk, h => by obtain rfl : _ = [] := h; simp [Cels]
  | _ :: r, _, 0, _, h => by simp [Cels]
  | x :: r, _, k + 1, hk, h => by
    obtain ⟨c0, c1, rfl, h0, h1⟩ := h
    have hl := hV.len _ _ _ _ h0
    refine ⟨c0, c1.take (k * sz), ?_, h0, Cels.take hV r c1 k (by simp at hk; omega) h1⟩
    rw [List.take_append, List.take_of_length_le (by rw [hl, Nat.add_mul]; omega), hl]
    congr 2
    rw [Nat.add_mul]; omega
theorem Cels.at_ (hV : Tells V sz) {g : Nat} {cells : List Value} (hc : ∀ j u, cells[j]? = some u → w.cell? ⟨g, j, none⟩ = some u) : ∀ (xs : List α) (i : Nat) (suf : List Value), Cels V w S xs suf → (∀ j, suf[j]? = cells[i * sz + j]?) →
    ∀ k x, xs[k]? = some x → AtV V w S g ((i + k) * sz) x
  | [], _, _, _, _, k, x, hx => by simp at hx
  | y :: r, i, _, h, hsuf, k, x, hx => by
    obtain ⟨c0, c1, rfl, h0, h1⟩ := h
    have hl := hV.len _ _ _ _ h0
    rcases k with _ | k
    · simp only [List.getElem?_cons_zero, Option.some.injEq] at hx
      subst hx
      refine ⟨c0, h0, fun j u hj => ?_⟩
      rw [Nat.add_zero]
      refine hc _ _ ?_
      rw [← hsuf j, List.getElem?_append_left (List.getElem?_eq_some_iff.1 hj).1]
      exact hj
    · have := Cels.at_ hV hc r (i + 1) c1 h1 (fun j => by
        have := hsuf (sz + j)
        rw [List.getElem?_append_right (by omega), hl, Nat.add_sub_cancel_left] at this
        rw [this, Nat.add_mul, Nat.one_mul, Nat.add_assoc]) k x (by simpa using hx)
      rw [show i + (k + 1) = i + 1 + k from by omega]
      exact this

/-- the things of a slice that came in, as the cells that an append takes -/
theorem Arr.cels (hV : Tells V sz) {b off : Nat} : ∀ (xs : List α) (i : Nat), (∀ k x, xs[k]? = some x → S b ∧ AtV V w S b (off + (i + k) * sz) x) → ∃ cells, Cels V w S xs cells ∧ ∀ j u, cells[j]? = some u → w.cell? ⟨b, off + i * sz + j, none⟩ = some u
  | [], _, _ => ⟨[], rfl, fun j u h => by simp at h⟩
  | x :: r, i, h => by
    obtain ⟨hb, c0, h0, hc0⟩ := h 0 x rfl
    have hl := hV.len _ _ _ _ h0
    obtain ⟨c1, h1, hc1⟩ := Arr.cels hV r (i + 1) (fun k y hy => by
      have := h (k + 1) y (by simpa using hy)
      rwa [show i + (k + 1) = i + 1 + k from by omega] at this)
    refine ⟨c0 ++ c1, ⟨c0, c1, rfl, h0, h1⟩, fun j u hj => ?_⟩
    rcases Nat.lt_or_ge j sz with hlt | hge
    · rw [List.getElem?_append_left (by omega)] at hj
      exact hc0 j u hj
    · rw [List.getElem?_append_right (by omega), hl] at hj
      have := hc1 _ u hj
      rw [Nat.add_mul, Nat.one_mul] at this
      rw [show off + i * sz + j = off + (i * sz + sz) + (j - sz) from by omega]
      exact this
theorem Arr.news (hV : Tells V sz) (hE : ∀ w S b o x, E w S b o x → AtV V w S b o x) {ad : Addr} {n : Nat} {xs : List α} (h : Arr E sz w S (some ad) n xs) :
    ∃ cells, Cels V w S xs cells ∧ cells.length = n * sz ∧ (∀ u ∈ cells, u.oneCell' = true) ∧ ∀ j u, cells[j]? = some u → w.cell? (ad.add j) = some u := by
  rcases xs with _ | ⟨x, r⟩
  · have : n = 0 := by have := h.len; simpa using this.symm
    subst this
    exact ⟨[], rfl, by simp, fun u hu => by simp at hu, fun j u hj => by simp at hj⟩
  · obtain ⟨b, off, e, hb, _⟩ := h.at_ 0 x rfl
    injection e with e
    subst e
    obtain ⟨cells, h0, h1⟩ := Arr.cels (w := w) (S := S) hV (b := b) (off := off) (x :: r) 0 (fun k y hy => by
      obtain ⟨b', off', e', hb', hy'⟩ := h.at_ k y hy
      injection e' with e'
      injection e' with e1 e2
      subst e1
      subst e2
      rw [Nat.zero_add]
      exact ⟨hb', hE _ _ _ _ _ hy'⟩)
    refine ⟨cells, h0, by rw [h0.len hV, h.len], h0.one hV, fun j u hj => ?_⟩
    rw [Go.WideShapes.add_plain]
    have := h1 j u hj
    rwa [Nat.zero_mul, Nat.add_zero] at this

/-- the slice value v is the call's own row (in a block from base on) and holds the things xs; what they lead to lies in blocks that S holds of -/
def OwnV {α : Type} (V : Val α) (e sz : Nat) (w : World) (base : Nat) (S : Nat → Prop) (v : Value) (xs : List α) : Prop := ∃ cells, w.ownsRow base e sz v xs.length cells ∧ Cels V w S xs cells

variable {e base : Nat} {v : Value} {xs : List α}
theorem OwnV.none_ (V : Val α) (e sz : Nat) (w : World) (base : Nat) (S : Nat → Prop) : OwnV V e sz w base S (.slice none 0 0) [] := ⟨[], ⟨by simp, .inl ⟨rfl, rfl⟩⟩, rfl⟩
theorem OwnV.lt (h : OwnV V e sz w base S v xs) : ∀ g, v.ownBlock = some g → base ≤ g ∧ g < w.heap.size := by
  obtain ⟨cells, hown, _⟩ := h
  exact owns_ge hown
theorem OwnV.kept (hV : Tells V sz) {row : Option Nat} (h : OwnV V e sz w base S v xs) (hg : w.grownBy w' row) (hne : v.ownBlock = none ∨ v.ownBlock ≠ row) (hS : ∀ b, S b → S' b ∧ b < w.heap.size ∧ row ≠ some b) : OwnV V e sz w' base S' v xs := by
  obtain ⟨cells, hown, hels⟩ := h
  exact ⟨cells, hown.kept hg hne, Cels.keep hV (fun b hb => (hS b hb).1) (fun b o hb => only_cell hg (hS b hb).2.1 (hS b hb).2.2) _ _ hels⟩
theorem OwnV.push (hV : Tells V sz) {x : α} {c0 cells : List Value} {v' : Value} (hels : Cels V w S xs cells) (hx : V w S c0 x) (hown' : w'.ownsRow base e sz v' (xs.length + 1) (cells ++ c0)) (hg : w.grownBy w' v.ownBlock)
    (hS : ∀ b, S b → S' b ∧ b < w.heap.size ∧ v.ownBlock ≠ some b) : OwnV V e sz w' base S' v' (xs ++ [x]) :=
  ⟨cells ++ c0, by rw [List.length_append]; exact hown', Cels.keep hV (fun b hb => (hS b hb).1) (fun b o hb => only_cell hg (hS b hb).2.1 (hS b hb).2.2) _ _ (Cels.app _ _ _ _ hels (Cels.single hx))⟩
theorem OwnV.more (hV : Tells V sz) {ys : List α} {ds cells : List Value} {v' : Value} (hels : Cels V w S xs cells) (hy : Cels V w S ys ds) (hown' : w'.ownsRow base e sz v' (xs.length + ys.length) (cells ++ ds)) (hg : w.grownBy w' v.ownBlock)
    (hS : ∀ b, S b → S' b ∧ b < w.heap.size ∧ v.ownBlock ≠ some b) : OwnV V e sz w' base S' v' (xs ++ ys) :=
  ⟨cells ++ ds, by rw [List.length_append]; exact hown', Cels.keep hV (fun b hb => (hS b hb).1) (fun b o hb => only_cell hg (hS b hb).2.1 (hS b hb).2.2) _ _ (Cels.app _ _ _ _ hels hy)⟩
/-- a row of the call's own reads as a list -/
theorem OwnV.reads (hV : Tells V sz) (hE : ∀ w S b o x, AtV V w S b o x → E w S b o x) (h : OwnV V e sz w base S v xs) (hS : ∀ b, S b → S' b) (hg : ∀ g, v.ownBlock = some g → S' g) :
    ∃ A c, v = .slice A xs.length c ∧ xs.length ≤ c ∧ c ≤ maxLen ∧ Arr E sz w S' A xs.length xs := by
  obtain ⟨cells, hown, hels⟩ := h
  have hels' : Cels V w S' xs cells := Cels.keep hV hS (fun _ _ _ => rfl) _ _ hels
  rcases hown.2 with ⟨rfl, h0⟩ | ⟨g, cap, cur, rfl, hb, hh, hn, hcap, hcs, htake⟩
  · rw [h0, List.eq_nil_of_length_eq_zero h0]
    exact ⟨none, 0, rfl, Nat.le_refl _, by simp [maxLen], Arr.nil_⟩
  · refine ⟨_, _, rfl, hn, hcap, rfl, fun i x hx => ⟨g, 0, rfl, hg g rfl, ?_⟩⟩
    have := Cels.at_ hV (w := w) (S := S') (g := g) (cells := cells) (fun j u hu => by
      have := hown.cells (g := g) rfl j u hu
      rwa [Go.WideShapes.add_plain, Nat.zero_add] at this) xs 0 cells hels' (fun j => by rw [Nat.zero_mul, Nat.zero_add]) i x hx
    rw [Nat.zero_add] at this
    rw [Nat.zero_add]
    exact hE _ _ _ _ _ this
theorem OwnV.len (h : OwnV V e sz w base S v xs) : ∃ A c, v = .slice A xs.length c ∧ xs.length ≤ c ∧ c ≤ maxLen := by
  obtain ⟨cells, hown, _⟩ := h
  rcases hown.2 with ⟨rfl, h0⟩ | ⟨g, cap, cur, rfl, hb, hh, hn, hcap, hcs, htake⟩
  · exact ⟨none, 0, by rw [h0], by omega, by simp [maxLen]⟩
  · exact ⟨_, _, rfl, hn, hcap⟩
end
end Go.Proofs.Ytggkfepifnfdoaa
