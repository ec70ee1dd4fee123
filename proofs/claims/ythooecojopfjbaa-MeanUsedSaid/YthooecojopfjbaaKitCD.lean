/- Rows of entries and meanings that a call makes; what lies in memory while a world is made. · Plain: the meanings that are made are meanings of their declarations; a number that is picked, said by its bounds. -/
import Derived.Test.YthooecojopfjbaaKitAB
import Derived.Test.YthooecojopfjbaaValTU
namespace Go.Proofs.Ythooecojopfjbaa
open Go.RowKit

/-- a row of things, and a value behind it -/
def VHead {α : Type} (E : Ent α) (sz : Nat) : Val (List α × ValueD) := fun w S cs x => ∃ (A : Option Addr) (n c : Nat) (A2 : Option Addr) (n2 c2 : Nat), cs = [.slice A n c, .int .i64 x.2.num, .int .i64 x.2.den, .slice A2 n2 c2, .int .i64 x.2.rest] ∧ (I64 x.2.num ∧ I64 x.2.den ∧ I64 x.2.rest) ∧
  (n ≤ c ∧ c ≤ maxLen ∧ Arr E sz w S A n x.1) ∧ n2 ≤ c2 ∧ c2 ≤ maxLen ∧ Arr AtCell 2 w S A2 n2 x.2.cells
def VEntry : Val EntryD := fun w S cs x => VHead AtInt 1 w S cs (x.args, x.to_)
def VMeaning : Val MeaningD := fun w S cs x => VHead AtEntry 5 w S cs (x.rows, x.rest)
theorem tells_head {α : Type} {E : Ent α} {sz : Nat} (hE : Stays E) : Tells (VHead E sz) 5 := ⟨fun _ _ _ _ _ _ hS hk h => by
    obtain ⟨A, n, c, A2, n2, c2, h0, h1, ⟨h2, h3, h4⟩, h5, h6, h7⟩ := h
    exact ⟨A, n, c, A2, n2, c2, h0, h1, ⟨h2, h3, h4.keep hE hS hk⟩, h5, h6, h7.keep stays_cell hS hk⟩,
  fun _ _ _ _ h => by obtain ⟨A, n, c, A2, n2, c2, h0, _⟩ := h; rw [h0]; rfl,
  fun _ _ _ _ h u hu => by obtain ⟨A, n, c, A2, n2, c2, h0, _⟩ := h; rw [h0] at hu; simp only [List.mem_cons, List.not_mem_nil, or_false] at hu; rcases hu with rfl | rfl | rfl | rfl | rfl <;> rfl⟩
theorem tells_entry : Tells VEntry 5 := ⟨fun w w' S S' cs x hS hk h => (tells_head stays_int).keep w w' S S' cs (x.args, x.to_) hS hk h, fun w S cs x h => (tells_head stays_int).len w S cs (x.args, x.to_) h, fun w S cs x h => (tells_head stays_int).one w S cs (x.args, x.to_) h⟩
theorem tells_meaning : Tells VMeaning 5 := ⟨fun w w' S S' cs x hS hk h => (tells_head stays_entry).keep w w' S S' cs (x.rows, x.rest) hS hk h, fun w S cs x h => (tells_head stays_entry).len w S cs (x.rows, x.rest) h, fun w S cs x h => (tells_head stays_entry).one w S cs (x.rows, x.rest) h⟩
theorem atV_head {α : Type} {E : Ent α} {sz : Nat} {w : World} {S : Nat → Prop} {b o : Nat} {x : List α × ValueD} (h : AtV (VHead E sz) w S b o x) : AtArr E sz w S b o x.1 ∧ AtValue w S b (o + 1) x.2 := by
  obtain ⟨cs, ⟨A, n, c, A2, n2, c2, rfl, ⟨h1, h2, h3⟩, ⟨h4, h5, h6⟩, h7, h8, h9⟩, hc⟩ := h
  exact ⟨⟨A, n, c, hc 0 _ rfl, h4, h5, h6⟩, ⟨hc 1 _ rfl, h1⟩, ⟨hc 2 _ rfl, h2⟩, ⟨A2, n2, c2, hc 3 _ rfl, h7, h8, h9⟩, hc 4 _ rfl, h3⟩
theorem atV_entry {w : World} {S : Nat → Prop} {b o : Nat} {x : EntryD} (h : AtV VEntry w S b o x) : AtEntry w S b o x := atV_head (E := AtInt) (sz := 1) (x := (x.args, x.to_)) h
theorem atV_meaning {w : World} {S : Nat → Prop} {b o : Nat} {x : MeaningD} (h : AtV VMeaning w S b o x) : AtMeaning w S b o x := atV_head (E := AtEntry) (sz := 5) (x := (x.rows, x.rest)) h
theorem infoMeaning : (Try.prog.info? 64).map (fun i => (i.zero, i.size, i.bytes)) = some (some (.agg #[.slice none 0 0, .int .i64 0, .int .i64 0, .slice none 0 0, .int .i64 0]), 5, 72) := by kernel_rfl
theorem rowMeanings : RowT Try.prog 45 64 5 72 := rowT_of Try.underlying45 infoMeaning rfl (by omega)

theorem i64_0 : I64 0 := ⟨by decide, by decide⟩
theorem i64_1 : I64 1 := ⟨by decide, by decide⟩
abbrev whole (n : Int) : ValueD := ⟨n, 1, [], 0⟩
/-- an entry that leads to a whole number -/
theorem ventry_of {w : World} {S : Nat → Prop} {g : Nat} {t : TypeId} {cs : Array Value} {xs : List Int} (h : Blk w g t cs) (hc : cs.toList = xs.map (Value.int .i64)) (hi : ∀ x ∈ xs, I64 x) (hg : S g) (hl : xs.length ≤ 10) (n : Int) (hn : I64 n) :
    VEntry w S [.slice (some ⟨g, 0, none⟩) xs.length xs.length, .int .i64 n, .int .i64 1, .slice none 0 0, .int .i64 0] ⟨xs, whole n⟩ :=
  ⟨_, _, _, none, 0, 0, rfl, ⟨hn, i64_1, i64_0⟩, ⟨Nat.le_refl _, by unfold maxLen; omega, arr_ints h hc hi hg⟩, Nat.le_refl _, Nat.zero_le _, Arr.nil_⟩

/-- block B of W, new since w, is a meaning of the value a b (no cells) r, its rows the slice v -/
structure Rest (w W : World) (v : Value) (a b : Int) (u : Value) (r : Int) : Prop where
  below : Below w.heap.size w W
  blk : Blk W w.heap.size 64 #[v, .int .i64 a, .int .i64 b, u, .int .i64 r]
theorem Rest.lt {w W : World} {v : Value} {a b : Int} {u : Value} {r : Int} (h : Rest w W v a b u r) : w.heap.size < W.heap.size := h.blk.lt
theorem Rest.new (w : World) : Rest w (w.alloc (.cells #[.slice none 0 0, .int .i64 0, .int .i64 0, .slice none 0 0, .int .i64 0] 64)) (.slice none 0 0) 0 0 (.slice none 0 0) 0 :=
  ⟨(Below.refl _ _).alloc (Nat.le_refl _) _, Blk.new _ _ _⟩
theorem Rest.keep {w W W' : World} {v : Value} {a b : Int} {u : Value} {r : Int} (h : Rest w W v a b u r) (hb : Below W.heap.size W W') : Rest w W' v a b u r :=
  ⟨h.below.trans (hb.mono h.below.size), h.blk.below hb h.blk.lt⟩
/-- the value is written -/
theorem Rest.put {w W : World} {v : Value} {a b : Int} {u : Value} {r : Int} (h : Rest w W v a b u r) (a' b' : Int) (u' : Value) (r' : Int) :
    Rest w ((((W.setCell ⟨w.heap.size, 1, none⟩ (.int .i64 a')).setCell ⟨w.heap.size, 2, none⟩ (.int .i64 b')).setCell ⟨w.heap.size, 3, none⟩ u').setCell ⟨w.heap.size, 4, none⟩ (.int .i64 r')) v a' b' u' r' := by
  have hw := Nat.le_refl w.heap.size
  refine ⟨(((h.below.setCell (p := ⟨w.heap.size, 1, none⟩) hw _).setCell (p := ⟨w.heap.size, 2, none⟩) hw _).setCell (p := ⟨w.heap.size, 3, none⟩) hw _).setCell (p := ⟨w.heap.size, 4, none⟩) hw _, ?_⟩
  have h1 : Blk (W.setCell ⟨w.heap.size, 1, none⟩ (.int .i64 a')) w.heap.size 64 #[v, .int .i64 a', .int .i64 b, u, .int .i64 r] := h.blk.set_ 1 _
  have h2 : Blk ((W.setCell ⟨w.heap.size, 1, none⟩ (.int .i64 a')).setCell ⟨w.heap.size, 2, none⟩ (.int .i64 b')) w.heap.size 64 #[v, .int .i64 a', .int .i64 b', u, .int .i64 r] := h1.set_ 2 _
  have h3 : Blk (((W.setCell ⟨w.heap.size, 1, none⟩ (.int .i64 a')).setCell ⟨w.heap.size, 2, none⟩ (.int .i64 b')).setCell ⟨w.heap.size, 3, none⟩ u') w.heap.size 64 #[v, .int .i64 a', .int .i64 b', u', .int .i64 r] := h2.set_ 3 _
  exact h3.set_ 4 _
theorem Rest.rows {w W : World} {v : Value} {a b : Int} {u : Value} {r : Int} (h : Rest w W v a b u r) (v' : Value) : Rest w (W.setCell ⟨w.heap.size, 0, none⟩ v') v' a b u r :=
  ⟨h.below.setCell (p := ⟨w.heap.size, 0, none⟩) (Nat.le_refl _) _, h.blk.set_ 0 _⟩
theorem Rest.cells {w W : World} {v : Value} {a b : Int} {u : Value} {r : Int} (h : Rest w W v a b u r) (u' : Value) : Rest w (W.setCell ⟨w.heap.size, 3, none⟩ u') v a b u' r :=
  ⟨h.below.setCell (p := ⟨w.heap.size, 3, none⟩) (Nat.le_refl _) _, h.blk.set_ 3 _⟩

/-- a meaning of d has been made since w: it lies in W's block w.heap.size -/
def Made (w W : World) (d : DeclD) : Prop := ∃ (A : Option Addr) (n c : Nat) (a b : Int) (A2 : Option Addr) (n2 c2 : Nat) (r : Int) (md : MeaningD), Rest w W (.slice A n c) a b (.slice A2 n2 c2) r ∧
  VMeaning W (fun g => w.heap.size < g ∧ g < W.heap.size) [.slice A n c, .int .i64 a, .int .i64 b, .slice A2 n2 c2, .int .i64 r] md ∧ meaningF d md = 0
theorem made_plain {w W : World} {a b r : Int} {d : DeclD} (h : Rest w W (.slice none 0 0) a b (.slice none 0 0) r) (ha : I64 a) (hb : I64 b) (hr : I64 r) (hm : meaningF d ⟨[], ⟨a, b, [], r⟩⟩ = 0) : Made w W d :=
  ⟨none, 0, 0, a, b, none, 0, 0, r, ⟨[], ⟨a, b, [], r⟩⟩, h, ⟨none, 0, 0, none, 0, 0, rfl, ⟨ha, hb, hr⟩, ⟨Nat.le_refl _, Nat.zero_le _, Arr.nil_⟩, Nat.le_refl _, Nat.zero_le _, Arr.nil_⟩, hm⟩
theorem set_far {W : World} {g o b p : Nat} {u : Value} (h : g < b) : (W.setCell ⟨g, o, none⟩ u).cell? ⟨b, p, none⟩ = W.cell? ⟨b, p, none⟩ :=
  World.cell?_of_block (Below.heap_setCell W ⟨g, o, none⟩ u b (by show b ≠ g; omega))
theorem made_rows {w W : World} {a b r : Int} {d : DeclD} {g : Nat} {t : TypeId} {cs : Array Value} {l : List EntryD} (h : Rest w W (.slice none 0 0) a b (.slice none 0 0) r) (hk : Blk W g t cs) (hc : Cels VEntry W (fun x => w.heap.size < x ∧ x < W.heap.size) l cs.toList) (hg : w.heap.size < g) (hl : l.length ≤ 10)
    (ha : I64 a) (hb : I64 b) (hr : I64 r) (hm : meaningF d ⟨l, ⟨a, b, [], r⟩⟩ = 0) : Made w (W.setCell ⟨w.heap.size, 0, none⟩ (.slice (some ⟨g, 0, none⟩) l.length l.length)) d := by
  have harr := arr_of_blk tells_entry (fun _ _ _ _ _ h => atV_entry h) hk hc (S := fun x => w.heap.size < x ∧ x < W.heap.size) ⟨hg, hk.lt⟩
  refine ⟨_, _, _, a, b, none, 0, 0, r, ⟨l, ⟨a, b, [], r⟩⟩, h.rows _, ⟨_, _, _, none, 0, 0, rfl, ⟨ha, hb, hr⟩, ⟨Nat.le_refl _, by unfold maxLen; omega, ?_⟩, Nat.le_refl _, Nat.zero_le _, Arr.nil_⟩, hm⟩
  exact harr.keep stays_entry (fun x hx => ⟨hx.1, by rw [World.size_setCell]; exact hx.2⟩) (fun x o hx => set_far hx.1)
theorem made_cells {w W : World} {r x y : Int} {d : DeclD} {g : Nat} {t : TypeId} (h : Rest w W (.slice none 0 0) 0 0 (.slice none 0 0) r) (hk : Blk W g t #[.int .i64 x, .int .i64 y]) (hg : w.heap.size < g) (hx : I64 x) (hy : I64 y) (hr : I64 r)
    (hm : meaningF d ⟨[], ⟨0, 0, [⟨x, y⟩], r⟩⟩ = 0) : Made w (W.setCell ⟨w.heap.size, 3, none⟩ (.slice (some ⟨g, 0, none⟩) 1 1)) d := by
  have harr : Arr AtCell 2 W (fun x => w.heap.size < x ∧ x < W.heap.size) (some ⟨g, 0, none⟩) 1 [⟨x, y⟩] := arr_of_blk (xs := [(⟨x, y⟩ : CellD)]) tells_cell (fun _ _ _ _ _ h => atV_cell.1 h) hk ⟨_, _, rfl, ⟨rfl, hx, hy⟩, rfl⟩ ⟨hg, hk.lt⟩
  refine ⟨none, 0, 0, 0, 0, _, _, _, r, ⟨[], ⟨0, 0, [⟨x, y⟩], r⟩⟩, h.cells _, ⟨none, 0, 0, _, _, _, rfl, ⟨i64_0, i64_0, hr⟩, ⟨Nat.le_refl _, Nat.zero_le _, Arr.nil_⟩, Nat.le_refl _, by decide, ?_⟩, hm⟩
  exact harr.keep stays_cell (fun x hx => ⟨hx.1, by rw [World.size_setCell]; exact hx.2⟩) (fun x o hx => set_far hx.1)

/-- the meanings fit the first declarations -/
def MadeTo (ms : List MeaningD) : Prop := ∀ (k : Nat) d m, declsK[k]? = some d → ms[k]? = some m → meaningF d m = 0
theorem MadeTo.nil : MadeTo [] := fun k d m _ h => by simp at h
theorem MadeTo.push {ms : List MeaningD} {k : Nat} {d : DeclD} {m : MeaningD} (h : MadeTo ms) (hk : ms.length = k) (hd : declsK[k]? = some d) (hm : meaningF d m = 0) : MadeTo (ms ++ [m]) := fun j d' m' hd' hm' => by
  rcases Nat.lt_trichotomy j k with hj | hj | hj
  · rw [List.getElem?_append_left (by omega)] at hm'
    exact h j d' m' hd' hm'
  · subst hj
    rw [List.getElem?_append_right (by omega), show j - ms.length = 0 by omega] at hm'
    simp only [List.getElem?_cons_zero, Option.some.injEq] at hm'
    rw [hd] at hd'
    injection hd' with hd'
    rw [← hd', ← hm']
    exact hm
  · rw [List.getElem?_eq_none (by simp; omega)] at hm'
    cases hm'

/-- what lies in memory while a world is made -/
structure WorldI (w W : World) (v : Value) (ms : List MeaningD) : Prop where
  below : Below w.heap.size w W
  ret : Blk W w.heap.size 47 #[.slice none 0 0]
  box : Blk W (w.heap.size + 1) 47 #[v]
  own : OwnV VMeaning 64 5 W (w.heap.size + 2) (Fr (w.heap.size + 2) W v) v ms
section
variable {w W X w6 : World} {v v' : Value} {ms : List MeaningD} {md : MeaningD} {cs : Array Value}
theorem WorldI.keep (h : WorldI w W v ms) (hb : Below W.heap.size W X) : WorldI w X v ms :=
  ⟨h.below.trans (hb.mono h.below.size), h.ret.below hb h.ret.lt, h.box.below hb h.box.lt, h.own.later tells_meaning hb⟩
theorem WorldI.row (h : WorldI w W v ms) (hb : Below W.heap.size W X) (hm : VMeaning X (fun g => W.heap.size < g ∧ g < X.heap.size) cs.toList md) :
    WorldI w (X.alloc (.cells cs 64)) v ms ∧ VMeaning (X.alloc (.cells cs 64)) (Fr (w.heap.size + 2) (X.alloc (.cells cs 64)) v) cs.toList md ∧ Blk (X.alloc (.cells cs 64)) X.heap.size 64 cs ∧
    w.heap.size + 2 ≤ (X.alloc (.cells cs 64)).heap.size := by
  have hba : Below X.heap.size X (X.alloc (.cells cs 64)) := (Below.refl _ _).alloc (Nat.le_refl _) _
  have h1 := h.box.lt
  refine ⟨(h.keep hb).keep hba, tells_meaning.keep _ _ _ _ _ _ (fun g hg => ⟨by omega, Nat.lt_of_lt_of_le hg.2 hba.size, fun e => by have := (h.own.lt g e).2; omega⟩) (fun g o hg => hba.cell (p := ⟨g, o, none⟩) hg.2) hm, Blk.new _ _ _, ?_⟩
  have := hb.size
  have := hba.size
  omega
theorem WorldI.push (h : WorldI w X v ms) (hown : OwnV VMeaning 64 5 w6 (w.heap.size + 2) (Fr (w.heap.size + 2) X v) v' (ms ++ [md])) (hg : X.grownBy w6 v.ownBlock) (hv : v'.ownBlock = v.ownBlock ∨ v'.ownBlock = some X.heap.size) :
    WorldI w (w6.setCell ⟨w.heap.size + 1, 0, none⟩ v') v' (ms ++ [md]) := by
  have h1 := h.box.lt
  have hb6 : Below w.heap.size w w6 := below_then h.below hg (by omega) (fun x hx => by have := (h.own.lt x hx).1; omega)
  have hne : ∀ b, b < w.heap.size + 2 → some b ≠ v.ownBlock := fun b hb e => by have := (h.own.lt b e.symm).1; omega
  refine ⟨hb6.setCell (p := ⟨w.heap.size + 1, 0, none⟩) (by show w.heap.size ≤ w.heap.size + 1; omega) _, (h.ret.grown hg (hne _ (by omega))).far (by show w.heap.size ≠ w.heap.size + 1; omega) _, (h.box.grown hg (hne _ (by omega))).set_ 0 _, ?_⟩
  refine (hown.weak tells_meaning (S' := Fr (w.heap.size + 2) w6 v') (Fr.step hg hv)).kept tells_meaning (one_only (only_refl w6 _) 0 v') (.inr fun e => ?_) (fun b hb => ⟨⟨hb.1, by rw [World.size_setCell]; exact hb.2.1, hb.2.2⟩, hb.2.1, fun e => by injection e with e; have := hb.1; omega⟩)
  have := (hown.lt _ e).1
  omega
end
end Go.Proofs.Ythooecojopfjbaa
namespace Go.Proofs.Ythooecojopfjbaa
open Go.RowKit

theorem wrap_i64 (x : Int) : I64 (wrap64 x) := by unfold wrap64 I64; omega
theorem picked_in (a n : Int) (w : World) (ha : I64 a) (h1 : 1 ≤ n) (h2 : n ≤ 1000000) : Calls Try.prog 13 #[.int .i64 a, .int .i64 n] w fun e w' => ∃ R : Int, e = .returned (.int .i64 R) ∧ w = w' ∧ 0 ≤ R ∧ R < n :=
  (picked_any a n (a % n) w ha h1 h2 rfl).mono fun _ _ ⟨h3, h4⟩ => ⟨a % n, h3, h4, Int.emod_nonneg a (by omega), Int.emod_lt_of_pos a (by omega)⟩

theorem m_bool (nm : ByteArray) (p : Int) (h0 : 0 ≤ p) (h1 : p < 2) : meaningF ⟨nm, [], 1⟩ ⟨[], whole p⟩ = 0 := by
  obtain rfl | rfl : p = 0 ∨ p = 1 := by omega
  all_goals kernel_rfl
theorem m_int (nm : ByteArray) (p : Int) (h0 : 0 ≤ p) (h1 : p < 7) : meaningF ⟨nm, [], 2⟩ ⟨[], whole (p - 3)⟩ = 0 := by
  obtain rfl | rfl | rfl | rfl | rfl | rfl | rfl : p = 0 ∨ p = 1 ∨ p = 2 ∨ p = 3 ∨ p = 4 ∨ p = 5 ∨ p = 6 := by omega
  all_goals kernel_rfl
theorem m_half (nm : ByteArray) (p : Int) (h0 : 0 ≤ p) (h1 : p < 4) : meaningF ⟨nm, [], 3⟩ ⟨[], ⟨2 * p - 3, 2, [], 0⟩⟩ = 0 := by
  obtain rfl | rfl | rfl | rfl : p = 0 ∨ p = 1 ∨ p = 2 ∨ p = 3 := by omega
  all_goals kernel_rfl
theorem m_real (nm : ByteArray) (p : Int) (h0 : 0 ≤ p) (h1 : p < 5) : meaningF ⟨nm, [], 3⟩ ⟨[], whole (p - 2)⟩ = 0 := by
  obtain rfl | rfl | rfl | rfl | rfl : p = 0 ∨ p = 1 ∨ p = 2 ∨ p = 3 ∨ p = 4 := by omega
  all_goals kernel_rfl
theorem m_thing (nm : ByteArray) (p : Int) (h0 : 0 ≤ p) (h1 : p < 3) : meaningF ⟨nm, [], 4⟩ ⟨[], whole p⟩ = 0 := by
  obtain rfl | rfl | rfl : p = 0 ∨ p = 1 ∨ p = 2 := by omega
  all_goals kernel_rfl
theorem m_word (nm : ByteArray) (p : Int) (h0 : 0 ≤ p) (h1 : p < 8) : meaningF ⟨nm, [], 13⟩ ⟨[], whole p⟩ = 0 := by
  obtain rfl | rfl | rfl | rfl | rfl | rfl | rfl | rfl : p = 0 ∨ p = 1 ∨ p = 2 ∨ p = 3 ∨ p = 4 ∨ p = 5 ∨ p = 6 ∨ p = 7 := by omega
  all_goals kernel_rfl
theorem m_f (nm : ByteArray) (p q r : Int) (h0 : 0 ≤ p) (h1 : p < 3) (h2 : 0 ≤ q) (h3 : q < 3) (h4 : 0 ≤ r) (h5 : r < 3) : meaningF ⟨nm, [4], 4⟩ ⟨[⟨[0], whole q⟩, ⟨[1], whole r⟩], whole p⟩ = 0 := by
  obtain rfl | rfl | rfl : p = 0 ∨ p = 1 ∨ p = 2 := by omega
  all_goals
    obtain rfl | rfl | rfl : q = 0 ∨ q = 1 ∨ q = 2 := by omega
    all_goals
      obtain rfl | rfl | rfl : r = 0 ∨ r = 1 ∨ r = 2 := by omega
      all_goals kernel_rfl
theorem m_g (nm : ByteArray) (p q r : Int) (h0 : 0 ≤ p) (h1 : p < 2) (h2 : 0 ≤ q) (h3 : q < 2) (h4 : 0 ≤ r) (h5 : r < 2) : meaningF ⟨nm, [4, 4], 1⟩ ⟨[⟨[0, 1], whole q⟩, ⟨[1, 1], whole r⟩], whole p⟩ = 0 := by
  obtain rfl | rfl : p = 0 ∨ p = 1 := by omega
  all_goals
    obtain rfl | rfl : q = 0 ∨ q = 1 := by omega
    all_goals
      obtain rfl | rfl : r = 0 ∨ r = 1 := by omega
      all_goals kernel_rfl
theorem m_h (nm : ByteArray) (p q : Int) (h0 : 0 ≤ p) (h1 : p < 5) (h2 : 0 ≤ q) (h3 : q < 5) : meaningF ⟨nm, [4], 2⟩ ⟨[⟨[2], whole (q - 2)⟩], whole (p - 2)⟩ = 0 := by
  obtain rfl | rfl | rfl | rfl | rfl : p = 0 ∨ p = 1 ∨ p = 2 ∨ p = 3 ∨ p = 4 := by omega
  all_goals
    obtain rfl | rfl | rfl | rfl | rfl : q = 0 ∨ q = 1 ∨ q = 2 ∨ q = 3 ∨ q = 4 := by omega
    all_goals kernel_rfl
theorem m_arr0 (nm : ByteArray) (p : Int) (h0 : 0 ≤ p) (h1 : p < 3) : meaningF ⟨nm, [], 5⟩ ⟨[], ⟨0, 0, [], p⟩⟩ = 0 := by
  obtain rfl | rfl | rfl : p = 0 ∨ p = 1 ∨ p = 2 := by omega
  all_goals kernel_rfl
theorem m_arr1 (nm : ByteArray) (p q r : Int) (h0 : 0 ≤ p) (h1 : p < 3) (h2 : 0 ≤ q) (h3 : q < 3) (h4 : 0 ≤ r) (h5 : r < 3) (hne : ¬ q = p) : meaningF ⟨nm, [], 5⟩ ⟨[], ⟨0, 0, [⟨r, q⟩], p⟩⟩ = 0 := by
  obtain rfl | rfl | rfl : p = 0 ∨ p = 1 ∨ p = 2 := by omega
  all_goals
    obtain rfl | rfl | rfl : q = 0 ∨ q = 1 ∨ q = 2 := by omega
    all_goals
      obtain rfl | rfl | rfl : r = 0 ∨ r = 1 ∨ r = 2 := by omega
      all_goals first | exact absurd rfl hne | kernel_rfl

/-- what a world that is made comes to -/
def WorldP (w : World) (e : Ending) (w' : World) : Prop := ∃ A c ms, e = .returned (.agg #[.slice A 14 c]) ∧ 14 ≤ c ∧ c ≤ maxLen ∧ Arr AtMeaning 5 w' (fun b => w.heap.size ≤ b ∧ b < w'.heap.size) A 14 ms ∧ MeansOk declsK ms ∧ Below w.heap.size w w'
/-- the meanings lie in block g, one behind the other, and all that they lead to in blocks that S holds of -/
def MeansAt (w : World) (S : Nat → Prop) (g : Nat) (ms : List MeaningD) : Prop := ∀ (i : Nat) (x : MeaningD), ms[i]? = some x → AtV VMeaning w S g (i * 5) x
theorem MeansAt.keep {w w' : World} {S S' : Nat → Prop} {g : Nat} {ms : List MeaningD} (h : MeansAt w S g ms) (hS : ∀ b, S b → S' b) (hk : ∀ b o, S b → w'.cell? ⟨b, o, none⟩ = w.cell? ⟨b, o, none⟩) (hg : ∀ o, w'.cell? ⟨g, o, none⟩ = w.cell? ⟨g, o, none⟩) : MeansAt w' S' g ms := fun i x hx => by
  obtain ⟨cs, hv, hc⟩ := h i x hx
  exact ⟨cs, tells_meaning.keep _ _ _ _ _ _ hS hk hv, fun j u hj => (hg _).trans (hc j u hj)⟩
theorem MeansAt.arr {w : World} {S S' : Nat → Prop} {g : Nat} {ms : List MeaningD} (h : MeansAt w S g ms) (hS : ∀ b, S b → S' b) (hg : S' g) : Arr AtMeaning 5 w S' (some ⟨g, 0, none⟩) ms.length ms :=
  ⟨rfl, fun i x hx => ⟨g, 0, rfl, hg, by
    obtain ⟨cs, hv, hc⟩ := h i x hx
    rw [Nat.zero_add]
    exact atV_meaning ⟨cs, tells_meaning.keep _ _ _ _ _ _ hS (fun _ _ _ => rfl) hv, hc⟩⟩⟩
/-- likewise, as the cells of a block -/
def MeansC (w : World) (S : Nat → Prop) (cs : Array Value) (ms : List MeaningD) : Prop := ∀ (i : Nat) (x : MeaningD), ms[i]? = some x → ∃ l, VMeaning w S l x ∧ ∀ (j : Nat) (u : Value), l[j]? = some u → cs[i * 5 + j]? = some u
theorem MeansC.at_ {w : World} {S : Nat → Prop} {g : Nat} {t : TypeId} {cs : Array Value} {ms : List MeaningD} (h : MeansC w S cs ms) (hk : Blk w g t cs) : MeansAt w S g ms := fun i x hx => by
  obtain ⟨l, hv, hc⟩ := h i x hx
  exact ⟨l, hv, fun j u hj => (hk.cell _).trans (hc j u hj)⟩
theorem MeansAt.cs {w : World} {S : Nat → Prop} {g : Nat} {t : TypeId} {cs : Array Value} {ms : List MeaningD} (h : MeansAt w S g ms) (hk : Blk w g t cs) : MeansC w S cs ms := fun i x hx => by
  obtain ⟨l, hv, hc⟩ := h i x hx
  exact ⟨l, hv, fun j u hj => (hk.cell _).symm.trans (hc j u hj)⟩
theorem MeansC.keep {w w' : World} {S S' : Nat → Prop} {cs : Array Value} {ms : List MeaningD} (h : MeansC w S cs ms) (hS : ∀ b, S b → S' b) (hk : ∀ b o, S b → w'.cell? ⟨b, o, none⟩ = w.cell? ⟨b, o, none⟩) : MeansC w' S' cs ms := fun i x hx => by
  obtain ⟨l, hv, hc⟩ := h i x hx
  exact ⟨l, tells_meaning.keep _ _ _ _ _ _ hS hk hv, hc⟩
/-- likewise, with the block of the meanings told -/
def WorldQ (w : World) (e : Ending) (w' : World) : Prop := ∃ (g c : Nat) (ms : List MeaningD) (cs : Array Value), e = .returned (.agg #[.slice (some ⟨g, 0, none⟩) 14 c]) ∧ 14 ≤ c ∧ c ≤ maxLen ∧ w.heap.size ≤ g ∧ Blk w' g 64 cs ∧
  MeansC w' (fun b => w.heap.size ≤ b ∧ b < w'.heap.size ∧ b ≠ g) cs ms ∧ MeansOk declsK ms ∧ Below w.heap.size w w'
theorem WorldQ.p {w w' : World} {e : Ending} (h : WorldQ w e w') : WorldP w e w' := by
  obtain ⟨g, c, ms, cs, he, h1, h2, h3, h4, h6, h7, h8⟩ := h
  have := (h6.at_ h4).arr (S' := fun b => w.heap.size ≤ b ∧ b < w'.heap.size) (fun b hb => ⟨hb.1, hb.2.1⟩) ⟨h3, h4.lt⟩
  rw [h7.1] at this
  exact ⟨_, c, ms, he, h1, h2, this, h7, h8⟩
theorem worldQ_of {w wr : World} {A9 : Option Addr} {c9 : Nat} {ms : List MeaningD} (hI : WorldI w wr (.slice A9 14 c9) ms) (h1 : 14 ≤ c9) (h2 : c9 ≤ maxLen) (hM : MeansOk declsK ms) : WorldQ w (.returned (.agg #[.slice A9 14 c9])) (wr.setCell ⟨w.heap.size, 0, none⟩ (.slice A9 14 c9)) := by
  have hbz : Below w.heap.size w (wr.setCell ⟨w.heap.size, 0, none⟩ (.slice A9 14 c9)) := hI.below.setCell (p := ⟨w.heap.size, 0, none⟩) (Nat.le_refl _) _
  have hlt := hI.own.lt
  obtain ⟨cells, hown, hels⟩ := hI.own
  rcases hown.2 with ⟨he, _⟩ | ⟨g, cap, cur, he, hb, hh, hn, hcap, hcs, htake⟩
  · simp at he
  · simp only [Value.slice.injEq] at he
    obtain ⟨rfl, -, rfl⟩ := he
    have hg := hlt g rfl
    have hk : Blk wr g 64 cur := hh
    have hne : g ≠ w.heap.size := by omega
    refine ⟨g, c9, ms, cur, rfl, h1, h2, by omega, hk.far (p := ⟨w.heap.size, 0, none⟩) hne _, ?_, hM, hbz⟩
    have h3 : MeansAt wr (Fr (w.heap.size + 2) wr (.slice (some ⟨g, 0, none⟩) 14 c9)) g ms := fun i x hx => by
      have h3 := Cels.at_ tells_meaning (w := wr) (S := Fr (w.heap.size + 2) wr (.slice (some ⟨g, 0, none⟩) 14 c9)) (g := g) (cells := cells) (fun j u hu => by
        have := hown.cells (g := g) rfl j u hu
        rwa [Go.WideShapes.add_plain, Nat.zero_add] at this) ms 0 cells hels (fun j => by rw [Nat.zero_mul, Nat.zero_add]) i x hx
      rwa [Nat.zero_add] at h3
    exact (h3.cs hk).keep (fun b hb => ⟨by have := hb.1; omega, by rw [World.size_setCell]; exact hb.2.1, fun e => hb.2.2 (by rw [e]; rfl)⟩) (fun b o hb => set_far (by have := hb.1; omega))
end Go.Proofs.Ythooecojopfjbaa
