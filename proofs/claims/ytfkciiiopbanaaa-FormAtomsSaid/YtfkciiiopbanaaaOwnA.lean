/- A block that is known whole, as a list of things. No program is named here. -/
import Derived.Test.YtfkciiiopbanaaaOuOC
namespace Go.Proofs.Ytfkciiiopbanaaa
open Go.RowKit

section
variable {α : Type} {V : Val α} {E : Ent α} {sz : Nat} {w : World} {S : Nat → Prop} {g : Nat} {t : TypeId} {cs : Array Value} {xs : List α}
theorem row_of_blk (hV : Tells V sz) (hE : ∀ w S b o x, AtV V w S b o x → E w S b o x) (h : Blk w g t cs) (hc : Cels V w S xs cs.toList) (hg : S g) : Arr E sz w S (some ⟨g, 0, none⟩) xs.length xs :=
  ⟨rfl, fun i x hx => ⟨g, 0, rfl, hg, by
    have := Cels.at_ hV (w := w) (S := S) (g := g) (cells := cs.toList) (fun j u hu => by rw [h.cell]; simpa using hu) xs 0 cs.toList hc (fun j => by rw [Nat.zero_mul, Nat.zero_add]) i x hx
    rw [Nat.zero_add] at this
    rw [Nat.zero_add]
    exact hE _ _ _ _ _ this⟩⟩
theorem cels_of_ints : ∀ xs : List Int, (∀ x ∈ xs, I64 x) → Cels VInt w S xs (xs.map (Value.int .i64))
  | [], _ => rfl
  | x :: r, h => ⟨[.int .i64 x], _, rfl, ⟨rfl, h x (List.mem_cons_self ..)⟩, cels_of_ints r fun y hy => h y (List.mem_cons_of_mem _ hy)⟩
theorem row_ints {xs : List Int} (h : Blk w g t cs) (hc : cs.toList = xs.map (Value.int .i64)) (hi : ∀ x ∈ xs, I64 x) (hg : S g) : Arr AtInt 1 w S (some ⟨g, 0, none⟩) xs.length xs :=
  row_of_blk tells_int (fun _ _ _ _ _ h => atV_int.1 h) h (by rw [hc]; exact cels_of_ints xs hi) hg
/-- a row of one thing, of two -/
theorem row_one (hV : Tells V sz) (hE : ∀ w S b o x, AtV V w S b o x → E w S b o x) {x : α} (h : Blk w g t cs) (hc : V w S cs.toList x) (hg : S g) : Arr E sz w S (some ⟨g, 0, none⟩) 1 [x] :=
  row_of_blk hV hE h (Cels.single hc) hg
theorem row_two (hV : Tells V sz) (hE : ∀ w S b o x, AtV V w S b o x → E w S b o x) {x y : α} {c0 c1 : List Value} (h : Blk w g t cs) (hcs : cs.toList = c0 ++ c1) (h0 : V w S c0 x) (h1 : V w S c1 y) (hg : S g) : Arr E sz w S (some ⟨g, 0, none⟩) 2 [x, y] :=
  row_of_blk (xs := [x, y]) hV hE h (by rw [hcs]; exact ⟨c0, c1, rfl, h0, Cels.single h1⟩) hg
theorem varr_of {E' : Ent α} {sz' n c : Nat} {A : Option Addr} (h : Arr E' sz' w S A n xs) (hn : n ≤ c) (hc : c ≤ maxLen) : VArr E' sz' w S [.slice A n c] xs := ⟨A, n, c, rfl, hn, hc, h⟩
end
theorem i64_small {x : Int} (h : -1000000 ≤ x ∧ x ≤ 1000000) : I64 x := by unfold I64; omega
theorem atArr_of {α : Type} {E : Ent α} {sz : Nat} : ∀ (w : World) (S : Nat → Prop) (b o : Nat) (x : List α), AtV (VArr E sz) w S b o x → AtArr E sz w S b o x := fun _ _ _ _ _ h => atV_arr.1 h
/-- blocks made one behind the other -/
def lay : World → List (TypeId × Array Value) → World
  | W, [] => W
  | W, c :: r => lay (W.alloc (.cells c.2 c.1)) r
theorem lay_size : ∀ (l : List (TypeId × Array Value)) (W : World), (lay W l).heap.size = W.heap.size + l.length
  | [], _ => rfl
  | c :: r, W => by rw [lay, lay_size r]; simp; omega
theorem lay_below : ∀ (l : List (TypeId × Array Value)) (W : World), Below W.heap.size W (lay W l)
  | [], W => Below.refl _ _
  | c :: r, W => by
    have h1 : Below W.heap.size W (W.alloc (.cells c.2 c.1)) := (Below.refl _ _).alloc (Nat.le_refl _) _
    exact h1.trans ((lay_below r (W.alloc (.cells c.2 c.1))).mono h1.size)
theorem lay_blk : ∀ (l : List (TypeId × Array Value)) (W : World) (i : Nat) (t : TypeId) (c : Array Value), l[i]? = some (t, c) → Blk (lay W l) (W.heap.size + i) t c
  | [], _, i, _, _, h => by simp at h
  | x :: r, W, 0, t, c, h => by
    simp only [List.getElem?_cons_zero, Option.some.injEq] at h
    subst h
    have hk := Blk.new W t c
    exact hk.below (lay_below r _) hk.lt
  | x :: r, W, i + 1, t, c, h => by
    have := lay_blk r (W.alloc (.cells x.2 x.1)) i t c (by simpa using h)
    rw [World.size_alloc] at this
    rwa [show W.heap.size + (i + 1) = W.heap.size + 1 + i from by omega]
end Go.Proofs.Ytfkciiiopbanaaa
