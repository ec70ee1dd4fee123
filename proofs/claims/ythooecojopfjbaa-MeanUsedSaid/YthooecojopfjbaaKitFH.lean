/- Plain: what was put is got, and all else is as it was; words are reckoned as numbers. · Rows of numbers that are made one behind the other; the nodes of the two fixed asks as they lie in memory. · Walks: a node of a name alone; the values of an ask in a world, as the laws take them. -/
import Derived.Test.YthooecojopfjbaaKitCD
import Derived.Test.YthooecojopfjbaaKitE
import Derived.Test.YthooecojopfjbaaValV
import Derived.RegionTactic
namespace Go.Proofs.Ythooecojopfjbaa
open Go.RowKit

theorem getF_ne {a t x rest : Int} (h : ¬ x = a) : ∀ (l : List CellD) (d : Bool), getF x rest (putP a t d l) = getF x rest l
  | [], d => by
    cases d
    · simp [putP, getF]; omega
    · simp [putP, getF]
  | c :: r, d => by
    have ih := getF_ne (t := t) (rest := rest) h r (d || decide (a ≤ c.at_))
    have hax : ¬ a = x := fun e => h e.symm
    rw [putP]
    by_cases h1 : d = false ∧ a ≤ c.at_
    · rw [if_pos h1]
      by_cases h2 : c.at_ = a
      · rw [if_pos h2]
        simp only [List.cons_append, List.nil_append, getF, if_neg hax, if_neg (show ¬ c.at_ = x by omega)]
        exact ih
      · rw [if_neg h2]
        simp only [List.cons_append, List.nil_append, getF, if_neg hax]
        rw [ih]
    · rw [if_neg h1]
      by_cases h2 : c.at_ = a
      · rw [if_pos h2]
        simp only [List.nil_append, getF, if_neg (show ¬ c.at_ = x by omega)]
        exact ih
      · rw [if_neg h2]
        simp only [List.cons_append, List.nil_append, getF]
        rw [ih]
theorem getF_done {a t rest : Int} : ∀ (l : List CellD), getF a rest (putP a t true l) = rest
  | [] => by simp [putP, getF]
  | c :: r => by
    have ih := getF_done (t := t) (rest := rest) (a := a) r
    rw [putP, if_neg (by simp)]
    by_cases h2 : c.at_ = a
    · rw [if_pos h2]; simpa using ih
    · rw [if_neg h2]
      simp only [List.cons_append, List.nil_append, getF, if_neg h2, Bool.true_or]
      exact ih
theorem getF_put {a t rest : Int} : ∀ (l : List CellD), getF a rest (putP a t false l) = t
  | [] => by simp [putP, getF]
  | c :: r => by
    rw [putP]
    by_cases h1 : a ≤ c.at_
    · rw [if_pos ⟨rfl, h1⟩]
      simp [getF]
    · have ih := getF_put (t := t) (rest := rest) (a := a) r
      rw [if_neg (by simp [h1]), if_neg (show ¬ c.at_ = a by omega)]
      simp only [List.cons_append, List.nil_append, getF, if_neg (show ¬ c.at_ = a by omega), Bool.false_or, decide_eq_false h1]
      exact ih

theorem firstBad_all {α : Type} {f : α → Int → Int} : ∀ {l : List α} {i : Int}, (∀ (j : Nat) x, l[j]? = some x → f x (i + j) = 0) → firstBad f l i = (0, 0)
  | [], _, _ => rfl
  | x :: r, i, h => by
    have h0 := h 0 x rfl
    rw [show i + ((0 : Nat) : Int) = i by simp] at h0
    rw [firstBad, if_pos h0]
    exact firstBad_all fun j y hy => by
      have := h (j + 1) y (by simpa using hy)
      rwa [show i + ((j + 1 : Nat) : Int) = i + 1 + j by omega] at this
theorem means_zero {a : AskD} {ms : List MeaningD} (hs : (sortsF a).2.1 = 0) (hm : MeansOk a.decls ms) : meansF a ms = (0, 0) := by
  rw [meansF, if_neg (by simp [hs]), if_neg (by simp [hm.1])]
  refine firstBad_all fun j p hp => ?_
  rw [List.getElem?_zip_eq_some] at hp
  exact hm.2 j p.1 p.2 hp.1 hp.2

/-- the value of a name alone -/
abbrev told (ms : List MeaningD) (nm : ByteArray) : ValueD := toldF [] (meanAt ms declsK nm).rest (meanAt ms declsK nm).rows
theorem told_good {ms : List MeaningD} {nm : ByteArray} {s : Int} (hm : MeansOk declsK ms) (hi : 0 ≤ idx (nameIs nm) declsK 0) (hs : (declAt declsK nm).sort = s) : goodV s (told ms nm) = true := by
  obtain ⟨k, -, -, h⟩ := meanAt_ok hm hi
  obtain ⟨-, h2, h3⟩ := meaningF_ok h
  rw [hs] at h2 h3
  rcases toldF_mem [] (meanAt ms declsK nm).rest (meanAt ms declsK nm).rows with e | ⟨x, hx, e⟩
  · rw [told, e]; exact h3
  · rw [told, e]; exact (h2 x hx).2

def nameN (c : UInt8) : NodeD := ⟨9, [], 0, 0, nameC c⟩
def opN (op : Int) (kids : List Int) (n d : Int) : NodeD := ⟨op, kids, n, d, .empty⟩
def arrNodes : List NodeD := [nameN 109, nameN 97, nameN 98, nameN 99, opN 25 [0, 1, 2] 0 0, opN 24 [4, 3] 0 0, opN 24 [0, 3] 0 0, opN 8 [1, 3] 0 0, opN 7 [7, 2, 6] 0 0, opN 8 [5, 8] 0 0]
theorem arr_sorts : sortsF ⟨declsK, arrNodes, []⟩ = ([5, 4, 4, 4, 5, 4, 4, 1, 4, 1], 0, 0) := by kernel_rfl
def v4 (m a b : ValueD) : ValueD := ⟨0, 0, putP a.num b.num (b.num == m.rest) m.cells, m.rest⟩
def v8 (m a b c : ValueD) : ValueD := if isOne (bitV (a.num == c.num && a.den == c.den)) = true then b else numV (getF c.num m.rest m.cells)
theorem arr_vals (ms : List MeaningD) (m a b c : ValueD) (h1 : told ms (nameC 109) = m) (h2 : told ms (nameC 97) = a) (h3 : told ms (nameC 98) = b) (h4 : told ms (nameC 99) = c) : valuesF declsK ms [5, 4, 4, 4, 5, 4, 4, 1, 4, 1] arrNodes 0 [] =
    ([m, a, b, c, v4 m a b, numV (getF c.num m.rest (v4 m a b).cells), numV (getF c.num m.rest m.cells), bitV (a.num == c.num && a.den == c.den), v8 m a b c, bitV (getF c.num m.rest (v4 m a b).cells == (v8 m a b c).num && 1 == (v8 m a b c).den)], 0, 0) := by
  subst h1 h2 h3 h4
  kernel_rfl
theorem arr_law {ms : List MeaningD} (hm : MeansOk declsK ms) : ∃ vs, meanValF ⟨declsK, arrNodes, []⟩ ms = (vs, 0, 0) ∧ vs.length = 10 ∧ (kidV vs 9).num = 1 := by
  have hs : (sortsF ⟨declsK, arrNodes, []⟩).2.1 = 0 := by rw [arr_sorts]
  rw [meanValF, means_zero hs hm, if_neg (by simp), arr_sorts]
  obtain ⟨m, h1⟩ : ∃ m, told ms (nameC 109) = m := ⟨_, rfl⟩
  obtain ⟨a, h2⟩ : ∃ m, told ms (nameC 97) = m := ⟨_, rfl⟩
  obtain ⟨b, h3⟩ : ∃ m, told ms (nameC 98) = m := ⟨_, rfl⟩
  obtain ⟨c, h4⟩ : ∃ m, told ms (nameC 99) = m := ⟨_, rfl⟩
  have ga : goodV 4 a = true := by rw [← h2]; exact told_good hm (by decide +kernel) (by kernel_rfl)
  have gb : goodV 4 b = true := by rw [← h3]; exact told_good hm (by decide +kernel) (by kernel_rfl)
  have gc : goodV 4 c = true := by rw [← h4]; exact told_good hm (by decide +kernel) (by kernel_rfl)
  refine ⟨_, arr_vals ms m a b c h1 h2 h3 h4, rfl, ?_⟩
  have da := (goodV_num ga (by omega)).2.2.2
  have db := (goodV_num gb (by omega)).2.2.2
  have dc := (goodV_num gc (by omega)).2.2.2
  have da : a.den = 1 := by omega
  have db : b.den = 1 := by omega
  have dc : c.den = 1 := by omega
  show bitN _ = 1
  have hk : (getF c.num m.rest (v4 m a b).cells == (v8 m a b c).num && 1 == (v8 m a b c).den) = true := by
    by_cases hac : c.num = a.num
    · have e8 : v8 m a b c = b := by
        rw [v8, if_pos]
        simp [isOne, bitV, bitN, numV, hac, da, dc]
      rw [e8, db, v4]
      dsimp only
      rw [hac]
      cases hb : (b.num == m.rest)
      · rw [getF_put]; simp
      · rw [getF_done]
        rw [beq_iff_eq] at hb
        simp [hb]
    · have e8 : v8 m a b c = numV (getF c.num m.rest m.cells) := by
        rw [v8, if_neg]
        have : ¬ a.num = c.num := fun e => hac e.symm
        simp [isOne, bitV, bitN, numV, this]
      rw [e8, v4]
      dsimp only
      rw [getF_ne hac]
      simp [numV]
  rw [hk]
  rfl

def wordNodes : List NodeD := [nameN 118, nameN 119, opN 20 [0, 1] 0 0, opN 19 [0, 1] 0 0, opN 17 [0, 1] 0 0, opN 23 [4] 1 0, opN 20 [3, 5] 0 0, opN 8 [2, 6] 0 0, opN 16 [0] 0 0, opN 20 [0, 8] 0 0, opN 15 [] 7 3, opN 8 [9, 10] 0 0, opN 15 [] 3 3, opN 21 [0, 12] 0 0, opN 23 [0] 1 0, opN 20 [0, 14] 0 0, opN 8 [13, 15] 0 0]
theorem word_sorts : sortsF ⟨declsK, wordNodes, []⟩ = ([13, 13, 13, 13, 13, 13, 13, 1, 13, 13, 13, 1, 13, 13, 13, 13, 1], 0, 0) := by kernel_rfl
/-- three truths among the values -/
def wordOk (r : List ValueD × Int × Int) : Bool := decide (r.2.1 = 0 ∧ r.2.2 = 0 ∧ r.1.length = 17 ∧ (kidV r.1 7).num = 1 ∧ (kidV r.1 11).num = 1 ∧ (kidV r.1 16).num = 1)
/-- the nodes behind the names, of two words -/
def wordRest (ms : List MeaningD) (v w : ValueD) : List ValueD × Int × Int := valuesF declsK ms [13, 13, 13, 13, 13, 13, 13, 1, 13, 13, 13, 1, 13, 13, 13, 13, 1] (wordNodes.drop 2) 2 [v, w]
theorem word_vals (ms : List MeaningD) (v w : ValueD) (h1 : told ms (nameC 118) = v) (h2 : told ms (nameC 119) = w) : valuesF declsK ms [13, 13, 13, 13, 13, 13, 13, 1, 13, 13, 13, 1, 13, 13, 13, 13, 1] wordNodes 0 [] = wordRest ms v w := by
  subst h1 h2
  kernel_rfl
theorem word_all (ms : List MeaningD) (x y : Int) (hx : 0 ≤ x ∧ x < 8) (hy : 0 ≤ y ∧ y < 8) : wordOk (wordRest ms (numV x) (numV y)) = true := by
  obtain rfl | rfl | rfl | rfl | rfl | rfl | rfl | rfl : x = 0 ∨ x = 1 ∨ x = 2 ∨ x = 3 ∨ x = 4 ∨ x = 5 ∨ x = 6 ∨ x = 7 := by omega
  all_goals
    obtain rfl | rfl | rfl | rfl | rfl | rfl | rfl | rfl : y = 0 ∨ y = 1 ∨ y = 2 ∨ y = 3 ∨ y = 4 ∨ y = 5 ∨ y = 6 ∨ y = 7 := by omega
    all_goals kernel_rfl
theorem word_law {ms : List MeaningD} (hm : MeansOk declsK ms) : ∃ vs, meanValF ⟨declsK, wordNodes, []⟩ ms = (vs, 0, 0) ∧ vs.length = 17 ∧ (kidV vs 7).num = 1 ∧ (kidV vs 11).num = 1 ∧ (kidV vs 16).num = 1 := by
  have hs : (sortsF ⟨declsK, wordNodes, []⟩).2.1 = 0 := by rw [word_sorts]
  rw [meanValF, means_zero hs hm, if_neg (by simp), word_sorts]
  obtain ⟨v, h1⟩ : ∃ m, told ms (nameC 118) = m := ⟨_, rfl⟩
  obtain ⟨w, h2⟩ : ∃ m, told ms (nameC 119) = m := ⟨_, rfl⟩
  have gv : goodV 13 v = true := by rw [← h1]; exact told_good hm (by decide +kernel) (by kernel_rfl)
  have gw : goodV 13 w = true := by rw [← h2]; exact told_good hm (by decide +kernel) (by kernel_rfl)
  obtain ⟨v0, v1, hv⟩ := goodV_word (by decide) gv
  obtain ⟨w0, w1, hw⟩ := goodV_word (by decide) gw
  have ha := word_all ms v.num w.num ⟨v0, v1⟩ ⟨w0, w1⟩
  rw [← hv, ← hw] at ha
  rw [word_vals ms v w h1 h2]
  rw [wordOk, decide_eq_true_eq] at ha
  obtain ⟨e1, e2, e3, e4, e5, e6⟩ := ha
  exact ⟨(wordRest ms v w).1, Prod.ext rfl (Prod.ext e1 e2), e3, e4, e5, e6⟩
end Go.Proofs.Ythooecojopfjbaa
namespace Go.Proofs.Ythooecojopfjbaa
open Go.RowKit

def allocs (t : TypeId) : World → List (Array Value) → World
  | W, [] => W
  | W, c :: r => allocs t (W.alloc (.cells c t)) r
theorem allocs_size (t : TypeId) : ∀ (l : List (Array Value)) (W : World), (allocs t W l).heap.size = W.heap.size + l.length
  | [], _ => rfl
  | c :: r, W => by rw [allocs, allocs_size t r]; simp; omega
theorem allocs_below (t : TypeId) : ∀ (l : List (Array Value)) (W : World), Below W.heap.size W (allocs t W l)
  | [], W => Below.refl _ _
  | c :: r, W => by
    have h1 : Below W.heap.size W (W.alloc (.cells c t)) := (Below.refl _ _).alloc (Nat.le_refl _) _
    exact h1.trans ((allocs_below t r (W.alloc (.cells c t))).mono h1.size)
theorem allocs_blk (t : TypeId) : ∀ (l : List (Array Value)) (W : World) (i : Nat) (c : Array Value), l[i]? = some c → Blk (allocs t W l) (W.heap.size + i) t c
  | [], _, _, _, h => by simp at h
  | x :: r, W, 0, c, h => by
    simp only [List.getElem?_cons_zero, Option.some.injEq] at h
    subst h
    have hk := Blk.new W t x
    exact hk.below (allocs_below t r _) hk.lt
  | x :: r, W, i + 1, c, h => by
    have := allocs_blk t r (W.alloc (.cells x t)) i c (by simpa using h)
    rw [World.size_alloc] at this
    rw [show W.heap.size + (i + 1) = W.heap.size + 1 + i by omega]
    exact this
section
variable {w : World} {S : Nat → Prop}
theorem vnode_name (c : UInt8) : VNode w S [.int .i64 9, .slice none 0 0, .int .i64 0, .int .i64 0, .string { data := #[c] }] (nameN c) :=
  ⟨none, 0, 0, rfl, ⟨⟨by show (-9223372036854775808 : Int) ≤ 9; decide, by show (9 : Int) ≤ 9223372036854775807; decide⟩, i64_0, i64_0, nameC_size c⟩, Nat.le_refl _, Nat.zero_le _, Arr.nil_⟩
theorem vnode_plain (op n d : Int) (ho : I64 op) (hn : I64 n) (hd : I64 d) : VNode w S [.int .i64 op, .slice none 0 0, .int .i64 n, .int .i64 d, .string { data := #[] }] (opN op [] n d) :=
  ⟨none, 0, 0, rfl, ⟨ho, hn, hd, by show (0 : Nat) ≤ maxLen; exact Nat.zero_le _⟩, Nat.le_refl _, Nat.zero_le _, Arr.nil_⟩
theorem vnode_kids {g : Nat} {t : TypeId} {cs : Array Value} (kids : List Int) (h : Blk w g t cs) (hc : cs.toList = kids.map (Value.int .i64)) (hi : ∀ x ∈ kids, 0 ≤ x ∧ x ≤ 100) (hg : S g) (hl : kids.length ≤ 10) (op n d : Int) (ho : I64 op) (hn : I64 n) (hd : I64 d) :
    VNode w S [.int .i64 op, .slice (some ⟨g, 0, none⟩) kids.length kids.length, .int .i64 n, .int .i64 d, .string { data := #[] }] (opN op kids n d) :=
  ⟨_, _, _, rfl, ⟨ho, hn, hd, by show (0 : Nat) ≤ maxLen; exact Nat.zero_le _⟩, Nat.le_refl _, by unfold maxLen; omega, arr_ints h hc (fun x hx => by have := hi x hx; unfold I64; omega) hg⟩
end
def intsC (l : List Int) : Array Value := (l.map (Value.int .i64)).toArray
def arrRows : List (Array Value) := [#[.int .i64 0, .int .i64 1, .int .i64 2], #[.int .i64 4, .int .i64 3], #[.int .i64 0, .int .i64 3], #[.int .i64 1, .int .i64 3], #[.int .i64 7, .int .i64 2, .int .i64 6], #[.int .i64 5, .int .i64 8]]
def nodeC (op : Int) (k : Value) (n d : Int) (nm : ByteArray) : List Value := [.int .i64 op, k, .int .i64 n, .int .i64 d, .string nm]
def rowAt (g L : Nat) : Value := .slice (some ⟨g, 0, none⟩) L L
def arrCells (g : Nat) : List Value := nodeC 9 (.slice none 0 0) 0 0 { data := #[109] } ++ (nodeC 9 (.slice none 0 0) 0 0 { data := #[97] } ++ (nodeC 9 (.slice none 0 0) 0 0 { data := #[98] } ++ (nodeC 9 (.slice none 0 0) 0 0 { data := #[99] } ++
  (nodeC 25 (rowAt g 3) 0 0 { data := #[] } ++ (nodeC 24 (rowAt (g + 1) 2) 0 0 { data := #[] } ++ (nodeC 24 (rowAt (g + 2) 2) 0 0 { data := #[] } ++ (nodeC 8 (rowAt (g + 3) 2) 0 0 { data := #[] } ++ (nodeC 7 (rowAt (g + 4) 3) 0 0 { data := #[] } ++ (nodeC 8 (rowAt (g + 5) 2) 0 0 { data := #[] } ++ [])))))))))
theorem arr_cels {w : World} {S : Nat → Prop} {g : Nat} (h : ∀ i c, arrRows[i]? = some c → Blk w (g + i) 3 c ∧ S (g + i)) : Cels VNode w S arrNodes (arrCells g) := by
  have hi : ∀ n : Int, 0 ≤ n → n ≤ 100 → I64 n := fun n h1 h2 => by unfold I64; omega
  refine ⟨_, _, rfl, vnode_name 109, _, _, rfl, vnode_name 97, _, _, rfl, vnode_name 98, _, _, rfl, vnode_name 99, ?_⟩
  refine ⟨_, _, rfl, vnode_kids [0, 1, 2] (h 0 _ rfl).1 rfl (by simp) (h 0 _ rfl).2 (by simp) 25 0 0 (hi _ (by omega) (by omega)) i64_0 i64_0, ?_⟩
  refine ⟨_, _, rfl, vnode_kids [4, 3] (h 1 _ rfl).1 rfl (by simp) (h 1 _ rfl).2 (by simp) 24 0 0 (hi _ (by omega) (by omega)) i64_0 i64_0, ?_⟩
  refine ⟨_, _, rfl, vnode_kids [0, 3] (h 2 _ rfl).1 rfl (by simp) (h 2 _ rfl).2 (by simp) 24 0 0 (hi _ (by omega) (by omega)) i64_0 i64_0, ?_⟩
  refine ⟨_, _, rfl, vnode_kids [1, 3] (h 3 _ rfl).1 rfl (by simp) (h 3 _ rfl).2 (by simp) 8 0 0 (hi _ (by omega) (by omega)) i64_0 i64_0, ?_⟩
  refine ⟨_, _, rfl, vnode_kids [7, 2, 6] (h 4 _ rfl).1 rfl (by simp) (h 4 _ rfl).2 (by simp) 7 0 0 (hi _ (by omega) (by omega)) i64_0 i64_0, ?_⟩
  exact ⟨_, _, rfl, vnode_kids [5, 8] (h 5 _ rfl).1 rfl (by simp) (h 5 _ rfl).2 (by simp) 8 0 0 (hi _ (by omega) (by omega)) i64_0 i64_0, rfl⟩
/-- the ask of the arrays' law: its declarations lie below, its kids' rows, its nodes and its box are made one behind the other -/
theorem arr_ask {w W : World} {A2 : Option Addr} {c2 : Nat} (hb : Below w.heap.size w W) (hd : Arr AtDecl 3 W (fun b => b < W.heap.size) A2 14 declsK) :
    ∃ Z, (((allocs 3 W arrRows).alloc (.cells (arrCells W.heap.size).toArray 59)).alloc (.cells #[.slice A2 14 c2, .slice (some ⟨W.heap.size + 6, 0, none⟩) 10 10, .slice none 0 0] 26)) = Z ∧
      Below w.heap.size w Z ∧ Blk Z (W.heap.size + 7) 26 #[.slice A2 14 c2, .slice (some ⟨W.heap.size + 6, 0, none⟩) 10 10, .slice none 0 0] ∧ AskIn Z Z.heap.size A2 (some ⟨W.heap.size + 6, 0, none⟩) none 14 10 0 ⟨declsK, arrNodes, []⟩ := by
  have hs := allocs_size 3 arrRows W
  have hb1 := allocs_below 3 arrRows W
  have hk := fun i c h => allocs_blk 3 arrRows W i c h
  rw [show arrRows.length = 6 from rfl] at hs
  generalize allocs 3 W arrRows = Y at hs hb1 hk ⊢
  obtain ⟨h1, h2, h3, h4⟩ := two_boxes Y 59 26 (arrCells W.heap.size).toArray #[.slice A2 14 c2, .slice (some ⟨W.heap.size + 6, 0, none⟩) 10 10, .slice none 0 0]
  rw [hs] at h2 h3 h4
  refine ⟨_, rfl, ?_⟩
  generalize (Y.alloc (.cells (arrCells W.heap.size).toArray 59)).alloc (.cells #[.slice A2 14 c2, .slice (some ⟨W.heap.size + 6, 0, none⟩) 10 10, .slice none 0 0] 26) = Z at h1 h2 h3 h4 ⊢
  have hbz : Below W.heap.size W Z := hb1.trans (h1.mono hb1.size)
  refine ⟨hb.trans (hbz.mono hb.size), h3, ⟨ArrB.below hd stays_decl hbz hbz.size, ?_, Arr.nil_, by decide, by decide, Nat.zero_le _⟩⟩
  refine arr_of_blk (xs := arrNodes) tells_node (fun _ _ _ _ _ h => atV_node h) h2 ?_ h2.lt
  refine arr_cels fun i c hi => ?_
  have hk2 := (hk i c hi).below h1 (hk i c hi).lt
  exact ⟨hk2, hk2.lt⟩
end Go.Proofs.Ythooecojopfjbaa
namespace Go.Proofs.Ythooecojopfjbaa
open Go.RowKit

theorem one_val : meanValF ⟨[], [⟨1, [], 0, 0, .empty⟩], []⟩ [] = ([⟨1, 1, [], 0⟩], 0, 0) := by kernel_rfl
/-- what a law takes for the values: no fault and a value for each node, or the fault that the reckoning is too much -/
def valuedF (r : List ValueD × Int × Int) (n : Nat) : List ValueD × Bool := if r.2.1 = 10 ∧ r.1.length = 0 then ([], true) else (r.1, decide (r.2.1 = 0 ∧ r.1.length = n))
def ValuedP (w : World) (r : List ValueD × Bool) (e : Ending) (w' : World) : Prop :=
  ∃ (A : Option Addr) (c : Nat), e = .returned (.tuple #[.slice A r.1.length c, .bool r.2]) ∧ Below w.heap.size w w' ∧ r.1.length ≤ c ∧ c ≤ maxLen ∧ Arr AtValue 4 w' (fun b => b < w'.heap.size) A r.1.length r.1
theorem valuedP_of {w w' : World} {vs : List ValueD} {qc qa : Int} {n c : Nat} {A : Option Addr} (ok : Bool) (hn : ¬ (qc = 10 ∧ vs.length = 0)) (hok : decide (qc = 0 ∧ vs.length = n) = ok) (h : Below w.heap.size w w') (hc : vs.length ≤ c) (hcm : c ≤ maxLen) (harr : Arr AtValue 4 w' (fun b => b < w'.heap.size) A vs.length vs) :
    ValuedP w (valuedF (vs, qc, qa) n) (.returned (.tuple #[.slice A vs.length c, .bool ok])) w' := by
  rw [valuedF, if_neg hn, hok]
  exact ⟨A, c, rfl, h, hc, hcm, harr⟩
theorem valuedP_drew {w W : World} {r : List ValueD × Bool} {e : Ending} (h : ValuedP w r e W) : ValuedP w r e W.drew := by
  obtain ⟨A, c, he, hb, h1, h2, h3⟩ := h
  exact ⟨A, c, he, hb.drew, h1, h2, h3.keep stays_value (fun _ h => h) (fun _ _ _ => rfl)⟩
theorem node_one {Y : World} : AskIn (Y.alloc (.cells #[.int .i64 1, .slice none 0 0, .int .i64 0, .int .i64 0, .string .empty] 59)) (Y.alloc (.cells #[.int .i64 1, .slice none 0 0, .int .i64 0, .int .i64 0, .string .empty] 59)).heap.size none (some ⟨Y.heap.size, 0, none⟩) none 0 1 0 ⟨[], [⟨1, [], 0, 0, .empty⟩], []⟩ := by
  have hk := Blk.new Y 59 #[.int .i64 1, .slice none 0 0, .int .i64 0, .int .i64 0, .string .empty]
  refine ⟨Arr.nil_, ?_, Arr.nil_, Nat.zero_le _, by decide, Nat.zero_le _⟩
  exact arr_of_blk (xs := [(⟨1, [], 0, 0, .empty⟩ : NodeD)]) tells_node (fun _ _ _ _ _ h => atV_node h) hk ⟨_, _, rfl, ⟨none, 0, 0, rfl, ⟨i64_1, i64_0, i64_0, by decide⟩, Nat.le_refl _, Nat.zero_le _, Arr.nil_⟩, rfl⟩ hk.lt

set_option maxRecDepth 100000 in
set_option maxHeartbeats 4000000 in
theorem valued_any (A1 A2 A3 : Option Addr) (n1 c1 n2 c2 n3 c3 : Nat) (a : AskD) (AM : Option Addr) (nm cm : Nat) (ms : List MeaningD) (w : World) (ha : AskIn w w.heap.size A1 A2 A3 n1 n2 n3 a) (hc1 : n1 ≤ c1) (hms : ArrB AtMeaning 5 w w.heap.size AM nm ms) :
    Calls Try.prog 20 #[.agg #[.slice A1 n1 c1, .slice A2 n2 c2, .slice A3 n3 c3], .agg #[.slice AM nm cm]] w (ValuedP w (valuedF (meanValF a ms) a.nodes.length)) := by
  obtain ⟨hb0, hk0, hm0, hs0⟩ := two_boxes w 26 47 #[.slice A1 n1 c1, .slice A2 n2 c2, .slice A3 n3 c3] #[.slice AM nm cm]
  obtain ⟨X, hX⟩ : ∃ X, (w.alloc (.cells #[.slice A1 n1 c1, .slice A2 n2 c2, .slice A3 n3 c3] 26)).alloc (.cells #[.slice AM nm cm] 47) = X := ⟨_, rfl⟩
  rw [hX] at hb0 hk0 hm0 hs0
  obtain ⟨vs, qc, qa, hr⟩ : ∃ vs qc qa, meanValF a ms = (vs, qc, qa) := ⟨_, _, _, rfl⟩
  have hv := values_any A1 A2 A3 n1 c1 n2 c2 n3 c3 a AM nm cm ms X (ha.below hb0 hb0.size) hc1 (ArrB.below hms stays_meaning hb0 hb0.size)
  rw [hr] at hv ⊢
  have HV := Lib.hid hv
  have HX := Lib.hid hX
  have HK := Lib.hid (And.intro hb0 (And.intro hk0 hm0))
  have HL := Lib.hid ha.nodes.len
  have x0 : X.cell? ⟨w.heap.size, 0, none⟩ = some (.slice A1 n1 c1) := hk0.cell 0
  have x1 : X.cell? ⟨w.heap.size, 1, none⟩ = some (.slice A2 n2 c2) := hk0.cell 1
  have x2 : X.cell? ⟨w.heap.size, 2, none⟩ = some (.slice A3 n3 c3) := hk0.cell 2
  have x3 : X.cell? ⟨w.heap.size + 1, 0, none⟩ = some (.slice AM nm cm) := hm0.cell 0
  have hz : w.heap.size + 1 < X.heap.size := hm0.lt
  clear hX hb0 hk0 hm0 hs0 ha hc1 hms hr hv
  go_enter Try.func20, Try.ntmps20
  go_wp2_with fail
  rw [HX.out]
  refine HV.out.mono ?_
  rintro e w3 ⟨B1, d1, rfl, hb3, h31, h32, h33⟩
  dsimp only at h31 h33 ⊢
  have hb4 : Below X.heap.size X (w3.alloc (.cells #[.int .i64 qc, .int .i64 qa] 29)) := hb3.alloc hb3.size _
  have hf4 := Blk.new w3 29 #[.int .i64 qc, .int .i64 qa]
  have hv4 : ArrB AtValue 4 (w3.alloc (.cells #[.int .i64 qc, .int .i64 qa] 29)) w3.heap.size B1 vs.length vs := ArrB.alloc h33 stays_value (Nat.le_refl _) _
  clear hb3 h33 x0 x1 x2 x3 hz
  go_upto_region 2 with fail
  generalize w3.alloc (.cells #[.int .i64 qc, .int .i64 qa] 29) = Y at hb4 hf4 hv4 ⊢
  generalize w3.heap.size = g at hf4 hv4 ⊢
  have hv1 := values_any none (some ⟨Y.heap.size, 0, none⟩) none 0 0 1 1 0 0 ⟨[], [⟨1, [], 0, 0, .empty⟩], []⟩ none 0 0 [] _ node_one (Nat.le_refl _) Arr.nil_
  rw [one_val] at hv1
  have HV1 := Lib.hid hv1
  have HY := Lib.hid (And.intro hb4 (And.intro hf4 hv4))
  have H3 := Lib.hid (And.intro h31 h32)
  clear hb4 hf4 hv4 h31 h32 hv1
  go_wp2_with fail
  refine HV1.out.mono ?_
  rintro e w5 ⟨B2, d2, rfl, hb5, h51, h52, h53⟩
  dsimp only at h51 h53 ⊢
  have hb6 : Below Y.heap.size Y (w5.alloc (.cells #[.int .i64 0, .int .i64 0] 29)) := ((((Below.refl Y.heap.size Y).alloc (Nat.le_refl _) (.cells #[.int .i64 1, .slice none 0 0, .int .i64 0, .int .i64 0, .string .empty] 59))).trans (hb5.mono (by simp))).alloc (by have := hb5.size; simp at this; omega) _
  have hf6 := Blk.new w5 29 #[.int .i64 0, .int .i64 0]
  have hv6 : ArrB AtValue 4 (w5.alloc (.cells #[.int .i64 0, .int .i64 0] 29)) w5.heap.size B2 1 [(⟨1, 1, [], 0⟩ : ValueD)] := ArrB.alloc h53 stays_value (Nat.le_refl _) _
  clear hb5 h53 HV1
  go_upto_region 3 with fail
  generalize w5.alloc (.cells #[.int .i64 0, .int .i64 0] 29) = Z at hb6 hf6 hv6 ⊢
  generalize w5.heap.size = h at hf6 hv6 ⊢
  obtain ⟨b, off, hx, A9, n9, c9, rfl, hb, v0, -⟩ := values_get hv6 (i := 0) (by omega)
  have hbz : Below w.heap.size w Z := HK.out.1.trans ((HY.out.1.trans (hb6.mono HY.out.1.size)).mono HK.out.1.size)
  have hvz : Arr AtValue 4 Z (fun b => b < Z.heap.size) B1 vs.length vs := HY.out.2.2.keep stays_value (fun b hb => by have := HY.out.2.1.lt; have := hb6.size; show b < Z.heap.size; have hb' : b < g := hb; omega) (fun b o hb => hb6.cell (p := ⟨b, o, none⟩) (by have := HY.out.2.1.lt; have hb' : b < g := hb; show b < Y.heap.size; omega))
  have hfz := HY.out.2.1.below hb6 HY.out.2.1.lt
  have hkz := HK.out.2.1.below (HY.out.1.trans (hb6.mono HY.out.1.size)) HK.out.2.1.lt
  have v0' : Z.cell? ⟨b, off, none⟩ = some (.int .i64 1) := by simpa using v0
  have f0 : Z.cell? ⟨g, 0, none⟩ = some (.int .i64 qc) := hfz.cell 0
  have f1 : Z.cell? ⟨h, 0, none⟩ = some (.int .i64 0) := hf6.cell 0
  have x1 : Z.cell? ⟨w.heap.size, 1, none⟩ = some (.slice A2 n2 c2) := hkz.cell 1
  have z1 : g < Z.heap.size := hfz.lt
  have z2 : h < Z.heap.size := hf6.lt
  have z3 : w.heap.size < Z.heap.size := hkz.lt
  have z4 : b < Z.heap.size := by have hb' : b < h := hb; omega
  have HF : Hid (∀ ok : Bool, ¬ (qc = 10 ∧ vs.length = 0) → decide (qc = 0 ∧ vs.length = a.nodes.length) = ok → ValuedP w (valuedF (vs, qc, qa) a.nodes.length) (.returned (.tuple #[.slice B1 vs.length d1, .bool ok])) Z) := fun ok hn hok => valuedP_of ok hn hok hbz H3.out.1 H3.out.2 hvz
  have HN : Hid (qc = 10 → vs.length = 0 → ValuedP w (valuedF (vs, qc, qa) a.nodes.length) (.returned (.tuple #[.slice none 0 0, .bool true])) Z) := fun h1 h2 => by
    rw [valuedF, if_pos ⟨h1, h2⟩]
    exact ⟨none, 0, rfl, hbz, Nat.le_refl _, Nat.zero_le _, Arr.nil_⟩
  clear hb6 hf6 hv6 hx v0 hb hbz hvz hfz hkz HV
  rw [HL.out] at HF HN
  by_cases h10 : qc = 10
  · have q1 : (qc == 10) = true := by rw [beq_iff_eq]; exact h10
    have q2 : (qc == 0) = false := by rw [beq_eq_false_iff_ne]; omega
    by_cases h0 : vs.length = 0
    · have q3 : ((vs.length : Int) == 0) = true := by rw [beq_iff_eq]; omega
      have HE := Lib.hid (HN.out h10 h0)
      clear h10 h0 HF HN
      go_wp2_with fail
      go_ret2
      rw [HL.out]
      first | exact HE.out | exact valuedP_drew HE.out
    · have q3 : ((vs.length : Int) == 0) = false := by rw [beq_eq_false_iff_ne]; omega
      have HE := Lib.hid (HF.out false (by omega) (by rw [decide_eq_false_iff_not]; omega))
      clear h10 h0 HF HN
      go_wp2_with fail
      go_region
      go_wp2_with fail
      go_ret2
      rw [HL.out]
      first | exact HE.out | exact valuedP_drew HE.out
  · have q1 : (qc == 10) = false := by rw [beq_eq_false_iff_ne]; exact h10
    by_cases h0 : qc = 0
    · have q2 : (qc == 0) = true := by rw [beq_iff_eq]; exact h0
      by_cases hl : vs.length = n2
      · have q3 : ((vs.length : Int) == (n2 : Int)) = true := by rw [beq_iff_eq]; omega
        have HE := Lib.hid (HF.out true (by omega) (by rw [decide_eq_true_eq]; omega))
        clear h10 h0 hl HF HN
        go_wp2_with fail
        go_region
        go_wp2_with fail
        go_ret2
        rw [HL.out]
        first | exact HE.out | exact valuedP_drew HE.out
      · have q3 : ((vs.length : Int) == (n2 : Int)) = false := by rw [beq_eq_false_iff_ne]; omega
        have HE := Lib.hid (HF.out false (by omega) (by rw [decide_eq_false_iff_not]; omega))
        clear h10 h0 hl HF HN
        go_wp2_with fail
        go_region
        go_wp2_with fail
        go_ret2
        rw [HL.out]
        first | exact HE.out | exact valuedP_drew HE.out
    · have q2 : (qc == 0) = false := by rw [beq_eq_false_iff_ne]; exact h0
      have HE := Lib.hid (HF.out false (by omega) (by rw [decide_eq_false_iff_not]; omega))
      clear h10 h0 HF HN
      go_wp2_with fail
      go_region
      go_wp2_with fail
      go_ret2
      rw [HL.out]
      first | exact HE.out | exact valuedP_drew HE.out
end Go.Proofs.Ythooecojopfjbaa
