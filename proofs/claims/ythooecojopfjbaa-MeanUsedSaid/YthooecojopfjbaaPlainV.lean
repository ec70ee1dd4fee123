/- Plain: the value of a node by its kids' values; fractions, arrays and words reckoned. No program is named here. · Plain: what good values are; fractions in lowest terms; a put array stays in its form. No program is named here. · Plain: the value of a node is one of its sort. No program is named here. · Plain: all nodes' values are ones of their sorts. No program is named here. · Plain: what is known of a node that is valued, operator by operator. No program is named here. -/
import Derived.Test.YthooecojopfjbaaAskLM
namespace Go.Proofs.Ythooecojopfjbaa
open Go.RowKit

def numV (n : Int) : ValueD := ⟨n, 1, [], 0⟩
def bitN (b : Bool) : Int := if b then 1 else 0
def bitV (b : Bool) : ValueD := numV (bitN b)
def fracV (q : FracD) : ValueD := ⟨q.num, q.den, [], 0⟩
def isOne (v : ValueD) : Bool := v.num == 1
def isZero (v : ValueD) : Bool := v.num == 0
/-- n / d in lowest terms (d above 0); none: it is beyond -/
def lowF (n d : Int) : Option FracD :=
  if 1073741824 < n.tdiv (Int.gcd n d : Nat) ∨ n.tdiv (Int.gcd n d : Nat) < -1073741824 ∨ 1073741824 < d.tdiv (Int.gcd n d : Nat) then none else some ⟨n.tdiv (Int.gcd n d : Nat), d.tdiv (Int.gcd n d : Nat)⟩
def addQ (a b : FracD) : Option FracD := lowF (a.num * b.den + b.num * a.den) (a.den * b.den)
def timesQ (a b : FracD) : Option FracD := lowF (a.num * b.num) (a.den * b.den)
def lessQ (a b : FracD) : Bool := decide (a.num * b.den < b.num * a.den)
def qOf (v : ValueD) : FracD := ⟨v.num, v.den⟩
def addF : FracD → List ValueD → Option FracD
  | q, [] => some q
  | q, v :: r => (addQ q (qOf v)).bind fun q' => addF q' r

def argsAre : List Int → List ValueD → Bool
  | n :: r, v :: s => v.num == n && argsAre r s
  | _, _ => true
def toldF (v : List ValueD) (rest : ValueD) : List EntryD → ValueD
  | [] => rest
  | e :: r => if argsAre e.args v = true then e.to_ else toldF v rest r
def getF (at_ rest : Int) : List CellD → Int
  | [] => rest
  | c :: r => if c.at_ = at_ then c.it else getF at_ rest r
/-- the cells that are put, as the program puts them -/
def putP (a t : Int) : Bool → List CellD → List CellD
  | done, [] => if done then [] else [⟨a, t⟩]
  | done, c :: r => (if done = false ∧ a ≤ c.at_ then [⟨a, t⟩] else []) ++ (if c.at_ = a then [] else [c]) ++ putP a t (done || decide (a ≤ c.at_)) r
/-- and as the reference does -/
def putR (a t : Int) : Bool → List CellD → List CellD
  | done, [] => if done then [] else [⟨a, t⟩]
  | done, c :: r => (if done = false ∧ a < c.at_ then [⟨a, t⟩] else []) ++ (if c.at_ = a then [] else [c]) ++ putR a t (done || decide (a < c.at_)) r
def landN (a b : Int) : Int := ((a.toNat &&& b.toNat : Nat) : Int)
def lorN (a b : Int) : Int := ((a.toNat ||| b.toNat : Nat) : Int)
def lxorN (a b : Int) : Int := ((a.toNat ^^^ b.toNat : Nat) : Int)
def wordF (op b x y n : Int) : Int :=
  if op = 16 then 2 ^ b.toNat - 1 - x else if op = 17 then landN x y else if op = 18 then lorN x y else if op = 19 then lxorN x y
  else if op = 20 then (x + y) % 2 ^ b.toNat else if op = 21 then x * y % 2 ^ b.toNat else if op = 22 then bitN (decide (x < y)) else if op = 23 then x * 2 ^ n.toNat % 2 ^ b.toNat else n
def kidV (v : List ValueD) (i : Nat) : ValueD := v.getD i ⟨0, 0, [], 0⟩
def meanAt (ms : List MeaningD) (ds : List DeclD) (nm : ByteArray) : MeaningD := ms.getD (idx (nameIs nm) ds 0).toNat ⟨[], ⟨0, 0, [], 0⟩⟩
/-- the bits of the words that a node reckons with -/
def bitsF (s : Int) : List Int → Int
  | [] => s - 10
  | ks => ks.foldl (fun b k => if wordB k = true then k - 10 else b) (s - 10)
/-- the value of a node of the operator op, of its numbers n and d, of words of b bits, of its kids' values v; what its name tells of them -/
def valX (op n d b : Int) (v : List ValueD) (told : ValueD) : Option ValueD :=
  if op = 1 ∨ op = 2 then some (bitV (op == 1)) else if op = 3 then some (bitV (!isOne (kidV v 0))) else if op = 4 then some (bitV (!v.any isZero)) else if op = 5 then some (bitV (v.any isOne))
  else if op = 6 then some (bitV (isOne (kidV v 0) == isOne (kidV v 1))) else if op = 7 then some (if isOne (kidV v 0) = true then kidV v 1 else kidV v 2)
  else if op = 8 then some (bitV ((kidV v 0).num == (kidV v 1).num && (kidV v 0).den == (kidV v 1).den)) else if op = 9 then some told
  else if op = 10 then some ⟨n, d, [], 0⟩ else if op = 11 then (addF ⟨0, 1⟩ v).map fracV else if op = 12 then (timesQ (qOf (kidV v 0)) ⟨n, d⟩).map fracV
  else if op = 13 then some (bitV (lessQ (qOf (kidV v 0)) (qOf (kidV v 1)))) else if op = 14 then some (bitV (!lessQ (qOf (kidV v 1)) (qOf (kidV v 0))))
  else if op = 24 then some (numV (getF (kidV v 1).num (kidV v 0).rest (kidV v 0).cells))
  else if op = 25 then some ⟨0, 0, putP (kidV v 1).num (kidV v 2).num ((kidV v 2).num == (kidV v 0).rest) (kidV v 0).cells, (kidV v 0).rest⟩
  else some (numV (wordF op b (kidV v 0).num (kidV v 1).num n))
def valF (ds : List DeclD) (ms : List MeaningD) (x : NodeD) (b : Int) (v : List ValueD) : Option ValueD := valX x.op x.n x.d b v (toldF v (meanAt ms ds x.name).rest (meanAt ms ds x.name).rows)
def kidVals (out : List ValueD) (x : NodeD) : List ValueD := x.kids.map fun k => kidV out k.toNat
/-- the values of nodes: those that are there, the sorts, the nodes to come: the values or the place beyond -/
def valuesF (ds : List DeclD) (ms : List MeaningD) (ss : List Int) : List NodeD → Nat → List ValueD → List ValueD × Int × Int
  | [], _, out => (out, 0, 0)
  | x :: r, i, out => match valF ds ms x (bitsF (ss.getD i 0) (kidSorts ss x)) (kidVals out x) with
    | none => ([], 10, i)
    | some v => valuesF ds ms ss r (i + 1) (out ++ [v])
def meanValF (a : AskD) (ms : List MeaningD) : List ValueD × Int × Int :=
  if ¬ (meansF a ms).1 = 0 then ([], meansF a ms) else valuesF a.decls ms (sortsF a).1 a.nodes 0 []
def meanHoldsF (a : AskD) (ms : List MeaningD) : Bool × Int × Int :=
  if ¬ (meanValF a ms).2.1 = 0 then (false, (meanValF a ms).2) else (!(a.hold.any fun k => isZero (kidV (meanValF a ms).1 k.toNat)), 0, 0)
end Go.Proofs.Ythooecojopfjbaa
namespace Go.Proofs.Ythooecojopfjbaa
open Go.RowKit

def GoodL : List Int → List ValueD → Prop
  | [], [] => True
  | s :: r, v :: t => goodV s v = true ∧ GoodL r t
  | _, _ => False
theorem GoodL.len : ∀ {ks : List Int} {vs : List ValueD}, GoodL ks vs → ks.length = vs.length
  | [], [], _ => rfl
  | _ :: _, _ :: _, h => by rw [List.length_cons, List.length_cons, GoodL.len h.2]

theorem goodV_num {s : Int} {v : ValueD} (h : goodV s v = true) (h5 : ¬ s = 5) : v.cells = [] ∧ v.rest = 0 ∧ fracGood v.num v.den = true ∧ (s = 3 ∨ v.den = 1) := by
  rw [goodV, if_neg h5] at h
  split at h
  · cases h
  · rename_i hc
    simp only [not_or, not_and, Classical.not_not, Bool.not_eq_false] at hc
    obtain ⟨h1, h2, h3, h4⟩ := hc
    refine ⟨List.eq_nil_of_length_eq_zero (by omega), h2, h3, ?_⟩
    by_cases e : s = 3
    · exact .inl e
    · exact .inr (h4 e)
theorem goodV_plain {s : Int} {v : ValueD} (h : goodV s v = true) (h5 : ¬ s = 5) (h3 : ¬ s = 3) : v = numV v.num := by
  obtain ⟨h1, h2, _, h4⟩ := goodV_num h h5
  have hd := h4.resolve_left h3
  obtain ⟨n, d, c, r⟩ := v
  simp only at h1 h2 hd
  rw [h1, h2, hd]
  rfl
theorem goodV_rest {s : Int} {v : ValueD} (h : goodV s v = true) (h5 : ¬ s = 5) (h3 : ¬ s = 3) : (if s = 1 then decide (v.num = 0 ∨ v.num = 1) else if s = 4 then thingB v.num else if wordB s = true then decide (0 ≤ v.num ∧ v.num < 2 ^ (s - 10).toNat) else true) = true := by
  obtain ⟨h1, h2, hf, h4⟩ := goodV_num h h5
  rw [goodV, if_neg h5, if_neg (by rw [h1, h2, hf]; simp [h3, h4.resolve_left h3])] at h
  exact h
theorem goodV_bool {v : ValueD} (h : goodV 1 v = true) : (v = numV 0 ∨ v = numV 1) := by
  have h1 := goodV_rest h (by omega) (by omega)
  have h2 := goodV_plain h (by omega) (by omega)
  rw [if_pos rfl, decide_eq_true_eq] at h1
  rcases h1 with e | e
  · exact .inl (by rw [h2, e])
  · exact .inr (by rw [h2, e])
theorem goodV_thing {v : ValueD} (h : goodV 4 v = true) : thingB v.num = true ∧ v = numV v.num := by
  have h1 := goodV_rest h (by omega) (by omega)
  rw [if_neg (by omega), if_pos rfl] at h1
  exact ⟨h1, goodV_plain h (by omega) (by omega)⟩
theorem goodV_word {s : Int} {v : ValueD} (hs : wordB s = true) (h : goodV s v = true) : 0 ≤ v.num ∧ v.num < 2 ^ (s - 10).toNat ∧ v = numV v.num := by
  have hs' : 10 < s ∧ s ≤ 18 := by simpa [wordB] using hs
  have h1 := goodV_rest h (by omega) (by omega)
  rw [if_neg (by omega), if_neg (by omega), if_pos hs, decide_eq_true_eq] at h1
  exact ⟨h1.1, h1.2, goodV_plain h (by omega) (by omega)⟩
theorem good_num {s n : Int} (hf : -1073741824 ≤ n ∧ n ≤ 1073741824) (h5 : ¬ s = 5) (h : s = 3 ∨ (if s = 1 then decide (n = 0 ∨ n = 1) else if s = 4 then thingB n else if wordB s = true then decide (0 ≤ n ∧ n < 2 ^ (s - 10).toNat) else true) = true) : goodV s (numV n) = true := by
  have hg : fracGood n 1 = true := by simp [fracGood, hf.1, hf.2]
  rw [goodV, if_neg h5, if_neg (by simp [numV, hg])]
  rcases h with rfl | h
  · simp [wordB]
  · exact h
theorem good_bit (b : Bool) : goodV 1 (bitV b) = true := by cases b <;> exact good_num (by simp [bitN]) (by omega) (.inr (by simp [bitN]))
theorem good_thing {n : Int} (h : thingB n = true) : goodV 4 (numV n) = true := by
  have h' : 0 ≤ n ∧ n ≤ 1000 := by simpa [thingB] using h
  exact good_num (by omega) (by omega) (.inr (by simpa using h))
theorem pow_le_256 {s : Int} (hs : wordB s = true) : (2 : Int) ^ (s - 10).toNat ≤ 256 := by
  have hs' : 10 < s ∧ s ≤ 18 := by simpa [wordB] using hs
  have h : s = 11 ∨ s = 12 ∨ s = 13 ∨ s = 14 ∨ s = 15 ∨ s = 16 ∨ s = 17 ∨ s = 18 := by omega
  rcases h with rfl | rfl | rfl | rfl | rfl | rfl | rfl | rfl <;> decide
theorem good_word {s n : Int} (hs : wordB s = true) (h0 : 0 ≤ n) (h1 : n < 2 ^ (s - 10).toNat) : goodV s (numV n) = true := by
  have hs' : 10 < s ∧ s ≤ 18 := by simpa [wordB] using hs
  have := pow_le_256 hs
  refine good_num (by omega) (by omega) (.inr ?_)
  rw [if_neg (by omega), if_neg (by omega), if_pos hs, decide_eq_true_eq]
  exact ⟨h0, h1⟩
theorem good_frac {s : Int} {q : FracD} (h : fracGood q.num q.den = true) (hs : s = 3 ∨ (s = 2 ∧ q.den = 1)) : goodV s (fracV q) = true := by
  have h5 : ¬ s = 5 := by omega
  rw [goodV, if_neg h5, if_neg (by simp only [fracV, h]; rcases hs with e | ⟨e, e2⟩ <;> simp [e] <;> omega)]
  rcases hs with e | ⟨e, e2⟩ <;> subst e <;> simp [wordB]

theorem gcd_pos {n d : Int} (hd : 0 < d) : 0 < Int.gcd n d := Int.gcd_pos_of_ne_zero_right _ (by omega)
theorem lowF_spec {n d : Int} {q : FracD} (hd : 0 < d) (h : lowF n d = some q) : fracGood q.num q.den = true ∧ (d = 1 → q.den = 1) := by
  unfold lowF at h
  split at h
  · cases h
  · rename_i hc
    injection h with h
    subst h
    have hg := gcd_pos (n := n) hd
    obtain ⟨a, ha⟩ := Int.gcd_dvd_left n d
    obtain ⟨b, hb⟩ := Int.gcd_dvd_right n d
    have hg0 : ((Int.gcd n d : Nat) : Int) ≠ 0 := by omega
    have e1 : n.tdiv (Int.gcd n d : Nat) = a := Int.tdiv_eq_of_eq_mul_right hg0 ha
    have e2 : d.tdiv (Int.gcd n d : Nat) = b := Int.tdiv_eq_of_eq_mul_right hg0 hb
    rw [e1, e2] at hc ⊢
    have hbp : 0 < b := by
      rcases Int.lt_trichotomy b 0 with h | h | h
      · have : (Int.gcd n d : Int) * b ≤ 0 := Int.mul_nonpos_of_nonneg_of_nonpos (by omega) (by omega)
        omega
      · rw [h] at hb; omega
      · exact h
    have hco : Int.gcd a b = 1 := by
      have h1 : Int.gcd ((Int.gcd n d : Nat) * a) ((Int.gcd n d : Nat) * b) = Int.gcd n d * Int.gcd a b := by rw [Int.gcd_mul_left]; simp
      rw [← ha, ← hb] at h1
      have h2 : Int.gcd n d * Int.gcd a b = Int.gcd n d * 1 := by omega
      exact Nat.eq_of_mul_eq_mul_left hg h2
    refine ⟨?_, ?_⟩
    · simp only [fracGood, decide_eq_true_eq]
      exact ⟨by omega, by omega, by omega, by omega, hco⟩
    · intro h1
      show b = 1
      rw [h1] at hb
      have : b ∣ 1 := ⟨(Int.gcd n d : Nat), by rw [Int.mul_comm]; exact (by rw [h1]; exact hb)⟩
      exact Int.eq_one_of_dvd_one (by omega) this

theorem qgood {q : FracD} (h : fracGood q.num q.den = true) : 1 ≤ q.den ∧ q.den ≤ 1073741824 ∧ -1073741824 ≤ q.num ∧ q.num ≤ 1073741824 := by
  simp only [fracGood, decide_eq_true_eq] at h
  exact ⟨h.1, h.2.1, h.2.2.1, h.2.2.2.1⟩
theorem addQ_good {a b q : FracD} (ha : fracGood a.num a.den = true) (hb : fracGood b.num b.den = true) (h : addQ a b = some q) : fracGood q.num q.den = true ∧ (a.den = 1 → b.den = 1 → q.den = 1) := by
  have h1 := qgood ha
  have h2 := qgood hb
  obtain ⟨h3, h4⟩ := lowF_spec (Int.mul_pos (by omega) (by omega)) h
  exact ⟨h3, fun e1 e2 => h4 (by rw [e1, e2]; rfl)⟩
theorem timesQ_good {a b q : FracD} (ha : fracGood a.num a.den = true) (hb : fracGood b.num b.den = true) (h : timesQ a b = some q) : fracGood q.num q.den = true ∧ (a.den = 1 → b.den = 1 → q.den = 1) := by
  have h1 := qgood ha
  have h2 := qgood hb
  obtain ⟨h3, h4⟩ := lowF_spec (Int.mul_pos (by omega) (by omega)) h
  exact ⟨h3, fun e1 e2 => h4 (by rw [e1, e2]; rfl)⟩
theorem addF_good : ∀ {vs : List ValueD} {q q' : FracD}, fracGood q.num q.den = true → (∀ v ∈ vs, fracGood v.num v.den = true) → addF q vs = some q' → fracGood q'.num q'.den = true ∧ (q.den = 1 → (∀ v ∈ vs, v.den = 1) → q'.den = 1)
  | [], q, q', hq, _, h => by
    injection h with h
    subst h
    exact ⟨hq, fun e _ => e⟩
  | v :: r, q, q', hq, hv, h => by
    rw [addF] at h
    cases hs : addQ q (qOf v) with
    | none => rw [hs] at h; cases h
    | some q1 =>
      rw [hs] at h
      obtain ⟨h1, h2⟩ := addQ_good hq (b := qOf v) (hv v (by simp)) hs
      obtain ⟨h3, h4⟩ := addF_good h1 (fun x hx => hv x (by simp [hx])) h
      exact ⟨h3, fun e he => h4 (h2 e (he v (by simp))) fun x hx => he x (by simp [hx])⟩

theorem toldF_mem (v : List ValueD) (rest : ValueD) : ∀ rows : List EntryD, toldF v rest rows = rest ∨ ∃ e ∈ rows, toldF v rest rows = e.to_
  | [] => .inl rfl
  | e :: r => by
    rw [toldF]
    split
    · exact .inr ⟨e, by simp, rfl⟩
    · rcases toldF_mem v rest r with h | ⟨x, hx, h⟩
      · exact .inl h
      · exact .inr ⟨x, by simp [hx], h⟩
theorem getF_thing {a rest : Int} (hr : thingB rest = true) : ∀ {cs : List CellD} {p : Int}, cellsOk rest p cs = true → thingB (getF a rest cs) = true
  | [], _, _ => hr
  | c :: r, p, h => by
    rw [cellsOk, Bool.and_eq_true, cellOk] at h
    simp only [Bool.and_eq_true] at h
    rw [getF]
    split
    · exact h.1.1.1.2
    · exact getF_thing hr h.2

/-- the cells behind p, in their form -/
theorem cellsOk_up {rest p p' : Int} (hp : p' ≤ p) : ∀ {cs : List CellD}, cellsOk rest p cs = true → cellsOk rest p' cs = true
  | [], _ => rfl
  | c :: r, h => by
    rw [cellsOk, Bool.and_eq_true, cellOk, Bool.and_eq_true, decide_eq_true_eq] at h ⊢
    exact ⟨⟨h.1.1, by omega⟩, h.2⟩
theorem putP_done {a t : Int} : ∀ {cs : List CellD} {rest p : Int}, a ≤ p → cellsOk rest p cs = true → putP a t true cs = cs ∧ putR a t true cs = cs
  | [], _, _, _, _ => ⟨rfl, rfl⟩
  | c :: r, rest, p, hp, h => by
    rw [cellsOk, Bool.and_eq_true, cellOk, Bool.and_eq_true, decide_eq_true_eq] at h
    have hlt := h.1.2
    obtain ⟨h1, h2⟩ := putP_done (a := a) (t := t) (rest := rest) (p := c.at_) (by omega) h.2
    simp [putP, putR, h1, h2, show ¬ c.at_ = a from by omega]
theorem cellsOk_skip {a t rest : Int} (hdone : t = rest) : ∀ {cs : List CellD} {p : Int}, cellsOk rest p cs = true → cellsOk rest p (putP a t true cs) = true ∧ putR a t true cs = putP a t true cs
  | [], _, _ => ⟨rfl, rfl⟩
  | c :: r, p, h => by
    have h' := h
    rw [cellsOk, Bool.and_eq_true, cellOk, Bool.and_eq_true, decide_eq_true_eq] at h
    obtain ⟨h1, h2⟩ := cellsOk_skip (a := a) hdone h.2
    rw [putP, putR]
    simp only [Bool.true_eq_false, false_and, if_false, List.nil_append, Bool.true_or, h2, and_true]
    split
    · exact cellsOk_up (by omega) h1
    · rw [List.singleton_append, cellsOk, Bool.and_eq_true, cellOk, Bool.and_eq_true, decide_eq_true_eq]
      exact ⟨h.1, h1⟩
theorem put_ok {a t rest : Int} (ha : thingB a = true) (ht : thingB t = true) (hne : ¬ t = rest) : ∀ {cs : List CellD} {p : Int}, p < a → cellsOk rest p cs = true → cellsOk rest p (putP a t false cs) = true ∧ putR a t false cs = putP a t false cs
  | [], p, hp, _ => by
    simp only [putP, putR, Bool.false_eq_true, if_false, and_true]
    simp [cellsOk, cellOk, ha, ht, hne, hp]
  | c :: r, p, hp, h => by
    have h' := h
    rw [cellsOk, Bool.and_eq_true, cellOk, Bool.and_eq_true, decide_eq_true_eq] at h
    obtain ⟨⟨h0, h1⟩, h2⟩ := h
    rcases Int.lt_trichotomy c.at_ a with hlt | heq | hgt
    · obtain ⟨h3, h4⟩ := put_ok ha ht hne hlt h2
      have e1 : ¬ a ≤ c.at_ := by omega
      have e2 : ¬ a < c.at_ := by omega
      have e3 : ¬ c.at_ = a := by omega
      simp only [putP, putR, e1, e2, e3, and_false, if_false, List.nil_append, decide_false, Bool.or_false, h4, and_true, List.singleton_append]
      rw [cellsOk, Bool.and_eq_true, cellOk, Bool.and_eq_true, decide_eq_true_eq]
      exact ⟨⟨h0, h1⟩, h3⟩
    · subst heq
      obtain ⟨h3, -⟩ := putP_done (a := c.at_) (t := t) (rest := rest) (p := c.at_) (Int.le_refl _) h2
      have h4 : putR c.at_ t false r = ⟨c.at_, t⟩ :: r := by
        rcases r with _ | ⟨d, r⟩
        · simp [putR]
        · rw [cellsOk, Bool.and_eq_true, cellOk, Bool.and_eq_true, decide_eq_true_eq] at h2
          have hd := h2.1.2
          obtain ⟨-, h5⟩ := putP_done (a := c.at_) (t := t) (rest := rest) (p := d.at_) (by omega) h2.2
          simp [putR, hd, show ¬ d.at_ = c.at_ from by omega, h5]
      have p1 : putP c.at_ t false (c :: r) = ⟨c.at_, t⟩ :: r := by simp [putP, h3]
      have p2 : putR c.at_ t false (c :: r) = ⟨c.at_, t⟩ :: r := by simp [putR, h4]
      rw [p1, p2]
      exact ⟨by rw [cellsOk, Bool.and_eq_true]; exact ⟨by simp [cellOk, ha, ht, hne, hp], h2⟩, rfl⟩
    · have e1 : a ≤ c.at_ := by omega
      have e3 : ¬ c.at_ = a := by omega
      obtain ⟨h3, h4⟩ := putP_done (a := a) (t := t) (rest := rest) (p := c.at_) (by omega) h2
      have p1 : putP a t false (c :: r) = ⟨a, t⟩ :: c :: r := by simp [putP, e1, e3, h3]
      have p2 : putR a t false (c :: r) = ⟨a, t⟩ :: c :: r := by simp [putR, hgt, e3, h4]
      rw [p1, p2]
      refine ⟨?_, rfl⟩
      rw [cellsOk, Bool.and_eq_true]
      refine ⟨by simp [cellOk, ha, ht, hne, hp], ?_⟩
      rw [cellsOk, Bool.and_eq_true, cellOk, Bool.and_eq_true, decide_eq_true_eq]
      exact ⟨⟨h0, hgt⟩, h2⟩
/-- a put array is in its form, and the reference puts the same -/
theorem put_good {a t : Int} {v : ValueD} (ha : thingB a = true) (ht : thingB t = true) (h : goodV 5 v = true) :
    goodV 5 ⟨0, 0, putP a t (t == v.rest) v.cells, v.rest⟩ = true ∧ putR a t (t == v.rest) v.cells = putP a t (t == v.rest) v.cells := by
  rw [goodV, if_pos rfl, arrB] at h ⊢
  simp only [Bool.and_eq_true] at h
  obtain ⟨⟨-, hr⟩, hc⟩ := h
  have ha' : 0 ≤ a := by have : 0 ≤ a ∧ a ≤ 1000 := by simpa [thingB] using ha
                         omega
  cases he : (t == v.rest) with
  | true =>
    have e : t = v.rest := by simpa using he
    obtain ⟨h1, h2⟩ := cellsOk_skip (a := a) e hc
    exact ⟨by simp [hr, h1], h2⟩
  | false =>
    have e : ¬ t = v.rest := by simpa using he
    obtain ⟨h1, h2⟩ := put_ok ha ht e (by omega) hc
    exact ⟨by simp [hr, h1], h2⟩
end Go.Proofs.Ythooecojopfjbaa
namespace Go.Proofs.Ythooecojopfjbaa
open Go.RowKit

theorem good0 {vs : List ValueD} (h : GoodL [] vs) : vs = [] := by
  match vs, h with
  | [], _ => rfl
theorem good1 {a : Int} {vs : List ValueD} (h : GoodL [a] vs) : ∃ u, vs = [u] ∧ goodV a u = true := by
  match vs, h with
  | [u], h => exact ⟨u, rfl, h.1⟩
theorem good2 {a b : Int} {vs : List ValueD} (h : GoodL [a, b] vs) : ∃ u v, vs = [u, v] ∧ goodV a u = true ∧ goodV b v = true := by
  match vs, h with
  | [u, v], h => exact ⟨u, v, rfl, h.1, h.2.1⟩
theorem good3 {a b c : Int} {vs : List ValueD} (h : GoodL [a, b, c] vs) : ∃ u v w, vs = [u, v, w] ∧ goodV a u = true ∧ goodV b v = true ∧ goodV c w = true := by
  match vs, h with
  | [u, v, w], h => exact ⟨u, v, w, rfl, h.1, h.2.1, h.2.2.1⟩
theorem good_all {p : Int → Prop} : ∀ {ks : List Int} {vs : List ValueD}, GoodL ks vs → (∀ k ∈ ks, p k) → ∀ v ∈ vs, ∃ k, p k ∧ goodV k v = true
  | [], [], _, _, v, hv => by simp at hv
  | s :: r, u :: t, h, hp, v, hv => by
    rcases List.mem_cons.1 hv with e | e
    · subst e
      exact ⟨s, hp s (by simp), h.1⟩
    · exact good_all h.2 (fun k hk => hp k (by simp [hk])) v e
theorem allB_mem {p : Int → Bool} {l : List Int} (h : allB p l = true) : ∀ k ∈ l, p k = true := fun k hk => by
  simp only [allB, Bool.not_eq_true', List.any_eq_false] at h
  simpa using h k hk
theorem word_good {op b x y n : Int} (hop : op = 16 ∨ op = 17 ∨ op = 18 ∨ op = 19 ∨ op = 20 ∨ op = 21 ∨ op = 23) (hx0 : 0 ≤ x) (hx : x < 2 ^ b.toNat) (hy0 : op = 16 ∨ op = 23 ∨ 0 ≤ y) (hy : op = 16 ∨ op = 23 ∨ y < 2 ^ b.toNat) : 0 ≤ wordF op b x y n ∧ wordF op b x y n < 2 ^ b.toNat := by
  have hp : (0 : Int) < 2 ^ b.toNat := Int.pow_pos (by omega)
  have hc : ((2 ^ b.toNat : Nat) : Int) = 2 ^ b.toNat := by simp
  have hxn : x.toNat < 2 ^ b.toNat := by omega
  rcases hop with rfl | rfl | rfl | rfl | rfl | rfl | rfl
  · simp only [wordF, if_true]; omega
  · have hyn : y.toNat < 2 ^ b.toNat := by omega
    have := Nat.and_lt_two_pow x.toNat hyn
    have e : wordF 17 b x y n = landN x y := by simp [wordF]
    rw [e, landN]; omega
  · have hyn : y.toNat < 2 ^ b.toNat := by omega
    have := Nat.or_lt_two_pow hxn hyn
    have e : wordF 18 b x y n = lorN x y := by simp [wordF]
    rw [e, lorN]; omega
  · have hyn : y.toNat < 2 ^ b.toNat := by omega
    have := Nat.xor_lt_two_pow hxn hyn
    have e : wordF 19 b x y n = lxorN x y := by simp [wordF]
    rw [e, lxorN]; omega
  · have e : wordF 20 b x y n = (x + y) % 2 ^ b.toNat := by simp [wordF]
    rw [e]; exact ⟨Int.emod_nonneg _ (by omega), Int.emod_lt_of_pos _ hp⟩
  · have e : wordF 21 b x y n = x * y % 2 ^ b.toNat := by simp [wordF]
    rw [e]; exact ⟨Int.emod_nonneg _ (by omega), Int.emod_lt_of_pos _ hp⟩
  · have e : wordF 23 b x y n = x * 2 ^ n.toNat % 2 ^ b.toNat := by simp [wordF]
    rw [e]; exact ⟨Int.emod_nonneg _ (by omega), Int.emod_lt_of_pos _ hp⟩
theorem numS_cases {s : Int} (h : numS s = true) : s = 2 ∨ s = 3 := by simpa [numS] using h

set_option maxHeartbeats 2000000 in
theorem val_good {op n d b : Int} {nm : ByteArray} {ks : List Int} {vs : List ValueD} {args : List Int} {ds' s : Int} {told v : ValueD} (h1 : 1 ≤ op) (h25 : op ≤ 25) (hcnt : ¬ op = 9 → CountOk op ks) (hform : formedB op n d nm = true) (hnum : numbersB op n d = true)
    (hs : sortF op d ks args ds' = s) (hne : ¬ s = 0) (hg : GoodL ks vs) (hb : b = bitsF s ks) (htold : op = 9 → goodV ds' told = true) (hv : valX op n d b vs told = some v) : goodV s v = true := by
  have h : op = 1 ∨ op = 2 ∨ op = 3 ∨ op = 4 ∨ op = 5 ∨ op = 6 ∨ op = 7 ∨ op = 8 ∨ op = 9 ∨ op = 10 ∨ op = 11 ∨ op = 12 ∨ op = 13 ∨ op = 14 ∨ op = 15 ∨ op = 16 ∨ op = 17 ∨ op = 18 ∨ op = 19 ∨ op = 20 ∨ op = 21 ∨ op = 22 ∨ op = 23 ∨ op = 24 ∨ op = 25 := by omega
  clear h1 h25
  have bit : ∀ {k : Bool} {r : Int}, r = s → r = 1 → bitV k = v → goodV s v = true := fun e1 e2 e3 => by rw [← e1, e2, ← e3]; exact good_bit _
  rcases h with rfl | rfl | rfl | rfl | rfl | rfl | rfl | rfl | rfl | rfl | rfl | rfl | rfl | rfl | rfl | rfl | rfl | rfl | rfl | rfl | rfl | rfl | rfl | rfl | rfl
  · exact bit (r := 1) (by simpa [sortF] using hs) rfl (by simpa [valX] using hv)
  · exact bit (r := 1) (by simpa [sortF] using hs) rfl (by simpa [valX] using hv)
  · simp only [sortF] at hs; simp only [valX] at hv
    simp at hs hv
    split at hs
    · exact bit hs rfl hv
    · exact absurd hs.symm hne
  · simp only [sortF] at hs; simp only [valX] at hv
    simp at hs hv
    split at hs
    · rw [← hs, ← hv]; exact good_bit _
    · exact absurd hs.symm hne
  · simp only [sortF] at hs; simp only [valX] at hv
    simp at hs hv
    split at hs
    · rw [← hs, ← hv]; exact good_bit _
    · exact absurd hs.symm hne
  · simp only [sortF] at hs; simp only [valX] at hv
    simp at hs hv
    split at hs
    · rw [← hs, ← hv]; exact good_bit _
    · exact absurd hs.symm hne
  · obtain ⟨k0, k1, k2, rfl⟩ := len3 (ks := ks) (by simpa [CountOk, kidsF] using hcnt (by omega))
    obtain ⟨u0, u1, u2, rfl, g0, g1, g2⟩ := good3 hg
    simp [sortF, pickF] at hs
    simp [valX, kidV] at hv
    split at hs
    · rename_i hc
      obtain ⟨-, e2, -⟩ := hc
      subst e2 hs
      rw [← hv]
      split
      · exact g1
      · exact g2
    · exact absurd hs.symm hne
  · obtain ⟨k0, k1, rfl⟩ := len2 (ks := ks) (by simpa [CountOk, kidsF] using hcnt (by omega))
    simp only [sortF] at hs; simp only [valX] at hv
    simp [sameF] at hs
    simp at hv
    split at hs
    · rw [← hs, ← hv]; exact good_bit _
    · exact absurd hs.symm hne
  · simp [sortF] at hs
    simp [valX] at hv
    split at hs
    · rw [← hs, ← hv]; exact htold rfl
    · exact absurd hs.symm hne
  · simp [sortF] at hs
    simp [valX] at hv
    simp only [numbersB, true_or, if_true, decide_eq_true_eq] at hnum
    rw [← hv]
    refine good_frac (q := ⟨n, d⟩) (by simp only [fracGood, decide_eq_true_eq]; exact ⟨by omega, by omega, by omega, by omega, hnum.2.2.2.2⟩) ?_
    rw [← hs]
    split
    · rename_i e; exact .inr ⟨rfl, e⟩
    · exact .inl rfl
  · simp only [sortF] at hs
    simp at hs
    simp only [valX] at hv
    simp at hv
    obtain ⟨q, hq, rfl⟩ := hv
    split at hs
    · rename_i ha
      have hn := allB_mem ha
      have hgn : ∀ v ∈ vs, fracGood v.num v.den = true := fun v hv => by
        obtain ⟨k, hk, hgk⟩ := good_all (p := fun k => numS k = true) hg hn v hv
        have := numS_cases hk
        exact (goodV_num hgk (by omega)).2.2.1
      obtain ⟨h3, h4⟩ := addF_good (q := ⟨0, 1⟩) (by decide) hgn hq
      refine good_frac h3 ?_
      split at hs
      · rename_i hi
        refine .inr ⟨hs.symm, h4 rfl fun v hv => ?_⟩
        obtain ⟨k, hk, hgk⟩ := good_all (p := fun k => isIntS k = true) hg (allB_mem hi) v hv
        have hk2 : k = 2 := by simpa [isIntS] using hk
        subst hk2
        exact (goodV_num hgk (by omega)).2.2.2.resolve_left (by omega)
      · exact .inl hs.symm
    · exact absurd hs.symm hne
  · obtain ⟨k0, rfl⟩ := len1 (ks := ks) (by simpa [CountOk, kidsF] using hcnt (by omega))
    obtain ⟨u0, rfl, g0⟩ := good1 hg
    simp [sortF, timesF] at hs
    simp only [valX] at hv
    simp [kidV] at hv
    obtain ⟨q, hq, rfl⟩ := hv
    simp only [numbersB, or_true, if_true, decide_eq_true_eq] at hnum
    split at hs
    · rename_i hk
      have := numS_cases hk
      obtain ⟨-, -, hgq, hd⟩ := goodV_num g0 (by omega)
      obtain ⟨h3, h4⟩ := timesQ_good (a := qOf u0) (b := ⟨n, d⟩) hgq (by simp only [fracGood, decide_eq_true_eq]; exact ⟨by omega, by omega, by omega, by omega, hnum.2.2.2.2⟩) hq
      refine good_frac h3 ?_
      split at hs
      · rename_i e
        exact .inr ⟨hs.symm, h4 (hd.resolve_left (by omega)) e.2⟩
      · exact .inl hs.symm
    · exact absurd hs.symm hne
  · simp only [sortF] at hs; simp only [valX] at hv
    simp at hs hv
    split at hs
    · rw [← hs, ← hv]; exact good_bit _
    · exact absurd hs.symm hne
  · simp only [sortF] at hs; simp only [valX] at hv
    simp at hs hv
    split at hs
    · rw [← hs, ← hv]; exact good_bit _
    · exact absurd hs.symm hne
  · simp [sortF] at hs
    simp [valX, wordF] at hv
    simp [numbersB] at hnum
    rw [← hv, ← hs]
    refine good_word (by simp [wordB]; omega) hnum.2.2.1 ?_
    rw [show 10 + d - 10 = d from by omega]
    exact hnum.2.2.2
  · obtain ⟨k0, rfl⟩ := len1 (ks := ks) (by simpa [CountOk, kidsF] using hcnt (by omega))
    obtain ⟨u0, rfl, g0⟩ := good1 hg
    simp [sortF, word1F] at hs
    split at hs
    · rename_i hw
      subst hs
      obtain ⟨w0, w1, -⟩ := goodV_word hw g0
      have hbb : b = k0 - 10 := by rw [hb]; simp [bitsF, hw]
      rw [← hbb] at w1
      have := word_good (op := 16) (b := b) (x := u0.num) (y := 0) (n := n) (by omega) w0 w1 (by omega) (by omega)
      simp [valX, kidV] at hv
      rw [← hv]
      rw [hbb] at this ⊢
      exact good_word hw this.1 this.2
    · exact absurd hs.symm hne
  · obtain ⟨k0, k1, rfl⟩ := len2 (ks := ks) (by simpa [CountOk, kidsF] using hcnt (by omega))
    obtain ⟨u0, u1, rfl, g0, g1⟩ := good2 hg
    simp [sortF, word2F] at hs
    split at hs
    · rename_i hw
      obtain ⟨e, hw⟩ := hw
      subst e hs
      obtain ⟨w0, w1, -⟩ := goodV_word hw g0
      obtain ⟨w2, w3, -⟩ := goodV_word hw g1
      have hbb : b = k0 - 10 := by rw [hb]; simp [bitsF, hw]
      rw [← hbb] at w1 w3
      have := word_good (op := 17) (b := b) (x := u0.num) (y := u1.num) (n := n) (by omega) w0 w1 (by omega) (by omega)
      simp [valX, kidV] at hv
      rw [← hv]
      rw [hbb] at this ⊢
      exact good_word hw this.1 this.2
    · exact absurd hs.symm hne
  · obtain ⟨k0, k1, rfl⟩ := len2 (ks := ks) (by simpa [CountOk, kidsF] using hcnt (by omega))
    obtain ⟨u0, u1, rfl, g0, g1⟩ := good2 hg
    simp [sortF, word2F] at hs
    split at hs
    · rename_i hw
      obtain ⟨e, hw⟩ := hw
      subst e hs
      obtain ⟨w0, w1, -⟩ := goodV_word hw g0
      obtain ⟨w2, w3, -⟩ := goodV_word hw g1
      have hbb : b = k0 - 10 := by rw [hb]; simp [bitsF, hw]
      rw [← hbb] at w1 w3
      have := word_good (op := 18) (b := b) (x := u0.num) (y := u1.num) (n := n) (by omega) w0 w1 (by omega) (by omega)
      simp [valX, kidV] at hv
      rw [← hv]
      rw [hbb] at this ⊢
      exact good_word hw this.1 this.2
    · exact absurd hs.symm hne
  · obtain ⟨k0, k1, rfl⟩ := len2 (ks := ks) (by simpa [CountOk, kidsF] using hcnt (by omega))
    obtain ⟨u0, u1, rfl, g0, g1⟩ := good2 hg
    simp [sortF, word2F] at hs
    split at hs
    · rename_i hw
      obtain ⟨e, hw⟩ := hw
      subst e hs
      obtain ⟨w0, w1, -⟩ := goodV_word hw g0
      obtain ⟨w2, w3, -⟩ := goodV_word hw g1
      have hbb : b = k0 - 10 := by rw [hb]; simp [bitsF, hw]
      rw [← hbb] at w1 w3
      have := word_good (op := 19) (b := b) (x := u0.num) (y := u1.num) (n := n) (by omega) w0 w1 (by omega) (by omega)
      simp [valX, kidV] at hv
      rw [← hv]
      rw [hbb] at this ⊢
      exact good_word hw this.1 this.2
    · exact absurd hs.symm hne
  · obtain ⟨k0, k1, rfl⟩ := len2 (ks := ks) (by simpa [CountOk, kidsF] using hcnt (by omega))
    obtain ⟨u0, u1, rfl, g0, g1⟩ := good2 hg
    simp [sortF, word2F] at hs
    split at hs
    · rename_i hw
      obtain ⟨e, hw⟩ := hw
      subst e hs
      obtain ⟨w0, w1, -⟩ := goodV_word hw g0
      obtain ⟨w2, w3, -⟩ := goodV_word hw g1
      have hbb : b = k0 - 10 := by rw [hb]; simp [bitsF, hw]
      rw [← hbb] at w1 w3
      have := word_good (op := 20) (b := b) (x := u0.num) (y := u1.num) (n := n) (by omega) w0 w1 (by omega) (by omega)
      simp [valX, kidV] at hv
      rw [← hv]
      rw [hbb] at this ⊢
      exact good_word hw this.1 this.2
    · exact absurd hs.symm hne
  · obtain ⟨k0, k1, rfl⟩ := len2 (ks := ks) (by simpa [CountOk, kidsF] using hcnt (by omega))
    obtain ⟨u0, u1, rfl, g0, g1⟩ := good2 hg
    simp [sortF, word2F] at hs
    split at hs
    · rename_i hw
      obtain ⟨e, hw⟩ := hw
      subst e hs
      obtain ⟨w0, w1, -⟩ := goodV_word hw g0
      obtain ⟨w2, w3, -⟩ := goodV_word hw g1
      have hbb : b = k0 - 10 := by rw [hb]; simp [bitsF, hw]
      rw [← hbb] at w1 w3
      have := word_good (op := 21) (b := b) (x := u0.num) (y := u1.num) (n := n) (by omega) w0 w1 (by omega) (by omega)
      simp [valX, kidV] at hv
      rw [← hv]
      rw [hbb] at this ⊢
      exact good_word hw this.1 this.2
    · exact absurd hs.symm hne
  · obtain ⟨k0, k1, rfl⟩ := len2 (ks := ks) (by simpa [CountOk, kidsF] using hcnt (by omega))
    simp [sortF, wlessF] at hs
    simp [valX, wordF] at hv
    split at hs
    · rw [← hs, ← hv]; exact good_bit _
    · exact absurd hs.symm hne
  · obtain ⟨k0, rfl⟩ := len1 (ks := ks) (by simpa [CountOk, kidsF] using hcnt (by omega))
    obtain ⟨u0, rfl, g0⟩ := good1 hg
    simp [sortF, word1F] at hs
    split at hs
    · rename_i hw
      subst hs
      obtain ⟨w0, w1, -⟩ := goodV_word hw g0
      have hbb : b = k0 - 10 := by rw [hb]; simp [bitsF, hw]
      rw [← hbb] at w1
      have := word_good (op := 23) (b := b) (x := u0.num) (y := 0) (n := n) (by omega) w0 w1 (by omega) (by omega)
      simp [valX, kidV] at hv
      rw [← hv]
      rw [hbb] at this ⊢
      exact good_word hw this.1 this.2
    · exact absurd hs.symm hne
  · obtain ⟨k0, k1, rfl⟩ := len2 (ks := ks) (by simpa [CountOk, kidsF] using hcnt (by omega))
    obtain ⟨u0, u1, rfl, g0, g1⟩ := good2 hg
    simp [sortF] at hs
    split at hs
    · rename_i e
      obtain ⟨rfl, rfl⟩ := e
      subst hs
      simp [valX, kidV] at hv
      rw [← hv]
      rw [goodV, if_pos rfl, arrB] at g0
      simp only [Bool.and_eq_true] at g0
      exact good_thing (getF_thing g0.1.2 g0.2)
    · exact absurd hs.symm hne
  · obtain ⟨k0, k1, k2, rfl⟩ := len3 (ks := ks) (by simpa [CountOk, kidsF] using hcnt (by omega))
    obtain ⟨u0, u1, u2, rfl, g0, g1, g2⟩ := good3 hg
    simp [sortF] at hs
    split at hs
    · rename_i e
      obtain ⟨rfl, rfl, rfl⟩ := e
      subst hs
      simp [valX, kidV] at hv
      rw [← hv]
      exact (put_good (goodV_thing g1).1 (goodV_thing g2).1 g0).1
    · exact absurd hs.symm hne

/-- what is known of a node without a fault -/
structure NodeOk (ds : List DeclD) (i : Nat) (ss : List Int) (x : NodeD) (s : Int) : Prop where
  op1 : 1 ≤ x.op
  op25 : x.op ≤ 25
  nam : x.op = 9 → 0 ≤ idx (nameIs x.name) ds 0
  cnt : badCount ds x = false
  low : x.kids.any (outside i) = false
  fld : fieldsF x.op x.n x.d x.name = 0
  srt : sortN ds ss x = s
  ne : ¬ s = 0
theorem nodeOk_of {ds : List DeclD} {i : Nat} {ss : List Int} {x : NodeD} {s : Int} (h : nodeF ds i ss x = (s, 0)) : NodeOk ds i ss x s := by
  unfold nodeF at h
  split at h
  · simp at h
  rename_i h1
  split at h
  · simp at h
  rename_i h2
  split at h
  · simp at h
  rename_i h3
  split at h
  · simp at h
  rename_i h4
  split at h
  · rename_i h5; simp only [Prod.mk.injEq] at h; exact absurd h.2 h5
  rename_i h5
  split at h
  · simp at h
  rename_i h6
  simp only [Prod.mk.injEq, and_true] at h
  exact ⟨by omega, by omega, fun e => by
    rcases Int.lt_or_le (idx (nameIs x.name) ds 0) 0 with hl | hl
    · exact absurd ⟨e, hl⟩ h2
    · exact hl, by simpa using h3, by simpa using h4, by simpa using h5, h, by rw [← h]; exact h6⟩
theorem NodeOk.formed {ds : List DeclD} {i : Nat} {ss : List Int} {x : NodeD} {s : Int} (h : NodeOk ds i ss x s) : formedB x.op x.n x.d x.name = true ∧ numbersB x.op x.n x.d = true := by
  have hf := h.fld
  cases h1 : formedB x.op x.n x.d x.name with
  | false => rw [fieldsF, if_pos h1] at hf; simp at hf
  | true =>
    cases h2 : numbersB x.op x.n x.d with
    | true => exact ⟨rfl, rfl⟩
    | false => rw [fieldsF, if_neg (by rw [h1]; simp), if_pos h2] at hf; simp at hf
theorem kidSorts_len (ss : List Int) (x : NodeD) : (kidSorts ss x).length = x.kids.length := by simp [kidSorts]
theorem NodeOk.count {ds : List DeclD} {i : Nat} {ss : List Int} {x : NodeD} {s : Int} (h : NodeOk ds i ss x s) : ¬ x.op = 9 → CountOk x.op (kidSorts ss x) := fun h9 => by
  have hc := h.cnt
  have h1 := h.op1
  have h2 := h.op25
  simp only [badCount, decide_eq_false_iff_not, not_or, not_and, Classical.not_not] at hc
  have hw : wantI ds x = kidsF x.op := by rw [wantI, if_neg h9]
  rw [hw] at hc
  by_cases hk : kidsF x.op = -1
  · exact .inl hk
  · refine .inr ?_
    rw [kidSorts_len]
    refine hc.1 ?_
    unfold kidsF at hk ⊢
    repeat' split at hk
    all_goals first | omega | (simp_all; try omega)
/-- a name has as many kids as it wants -/
theorem NodeOk.args {ds : List DeclD} {i : Nat} {ss : List Int} {x : NodeD} {s : Int} (h : NodeOk ds i ss x s) (h9 : x.op = 9) : x.kids.length = (declAt ds x.name).args.length ∧ kidSorts ss x = (declAt ds x.name).args ∧ (declAt ds x.name).sort = s := by
  have hc := h.cnt
  simp only [badCount, decide_eq_false_iff_not, not_or, not_and, Classical.not_not] at hc
  have hw : wantI ds x = (declAt ds x.name).args.length := by rw [wantI, if_pos h9]
  rw [hw] at hc
  have h1 := hc.1 (by omega)
  have h2 := h.srt
  have h3 := h.ne
  rw [sortN, h9, sortF, if_neg (by omega), if_neg (by omega), if_neg (by omega), if_neg (by omega), if_pos rfl] at h2
  refine ⟨by omega, ?_⟩
  split at h2
  · rename_i e; exact ⟨e, h2⟩
  · exact absurd h2.symm h3

/-- the meanings are of their declarations -/
def MeansOk (ds : List DeclD) (ms : List MeaningD) : Prop := ms.length = ds.length ∧ ∀ (k : Nat) d m, ds[k]? = some d → ms[k]? = some m → meaningF d m = 0
theorem meansF_ok {a : AskD} {ms : List MeaningD} (h : (meansF a ms).1 = 0) : meansF a ms = (0, 0) ∧ (sortsF a).2.1 = 0 ∧ MeansOk a.decls ms := by
  unfold meansF at h ⊢
  by_cases h1 : (sortsF a).2.1 = 0
  · rw [if_neg (by simpa using h1)] at h ⊢
    by_cases h2 : ms.length = a.decls.length
    · rw [if_neg (by simpa using h2)] at h ⊢
      obtain ⟨h3, h4⟩ := firstBad_zero (f := fun (p : DeclD × MeaningD) _ => meaningF p.1 p.2) (l := a.decls.zip ms) (i := 0) (a := (firstBad (fun (p : DeclD × MeaningD) _ => meaningF p.1 p.2) (a.decls.zip ms) 0).2) (Prod.ext h rfl)
      refine ⟨Prod.ext h h3, h1, h2, fun k d m hd hm => h4 k (d, m) ?_⟩
      rw [List.getElem?_zip_eq_some]
      exact ⟨hd, hm⟩
    · rw [if_pos (by simpa using h2)] at h; simp at h
  · rw [if_pos (by simpa using h1)] at h; exact absurd h h1
theorem meaningF_ok {d : DeclD} {m : MeaningD} (h : meaningF d m = 0) : m.rows.length ≤ 1000 ∧ (∀ e ∈ m.rows, e.args.length = d.args.length ∧ goodV d.sort e.to_ = true) ∧ goodV d.sort m.rest = true := by
  unfold meaningF at h
  split at h
  · simp at h
  rename_i h1
  split at h
  · simp at h
  split at h
  · simp at h
  split at h
  · simp at h
  rename_i h4
  simp only [not_or, Bool.not_eq_true, List.any_eq_false, Bool.not_eq_false] at h1 h4
  exact ⟨by omega, fun e he => ⟨by have := h1.2 e he; simpa [sizeBad] using this, by have := h4.2 e he; simpa [toBad] using this⟩, h4.1⟩
/-- the meaning of a name that a node has -/
theorem meanAt_ok {ds : List DeclD} {ms : List MeaningD} {nm : ByteArray} (h : MeansOk ds ms) (hi : 0 ≤ idx (nameIs nm) ds 0) : ∃ k : Nat, idx (nameIs nm) ds 0 = k ∧ ms[k]? = some (meanAt ms ds nm) ∧ meaningF (declAt ds nm) (meanAt ms ds nm) = 0 := by
  obtain ⟨k, hk, hd, -⟩ := declAt_mem hi
  have hlt : k < ms.length := by rw [h.1]; exact (List.getElem?_eq_some_iff.1 hd).1
  have hm : ms[k]? = some (meanAt ms ds nm) := by rw [meanAt, hk, Int.toNat_natCast, List.getD_eq_getElem?_getD, List.getElem?_eq_getElem hlt]; rfl
  exact ⟨k, hk, hm, h.2 k _ _ hd hm⟩
theorem valF_good {ds : List DeclD} {ms : List MeaningD} {i : Nat} {ss : List Int} {x : NodeD} {s : Int} {vs : List ValueD} {v : ValueD} (hms : MeansOk ds ms) (hx : NodeOk ds i ss x s) (hg : GoodL (kidSorts ss x) vs) (hv : valF ds ms x (bitsF s (kidSorts ss x)) vs = some v) : goodV s v = true := by
  refine val_good hx.op1 hx.op25 hx.count hx.formed.1 hx.formed.2 hx.srt hx.ne hg rfl (fun h9 => ?_) hv
  obtain ⟨k, -, -, hm⟩ := meanAt_ok hms (hx.nam h9)
  obtain ⟨-, h1, h2⟩ := meaningF_ok hm
  rcases toldF_mem vs (meanAt ms ds x.name).rest (meanAt ms ds x.name).rows with e | ⟨y, hy, e⟩
  · rw [e]; exact h2
  · rw [e]; exact (h1 y hy).2
end Go.Proofs.Ythooecojopfjbaa
namespace Go.Proofs.Ythooecojopfjbaa
open Go.RowKit

theorem nodesF_all {ds : List DeclD} : ∀ (l : List NodeD) (i : Nat) (ss : List Int), ss.length = i → (nodesF ds l i ss).2.1 = 0 → (nodesF ds l i ss).1.take i = ss ∧ ∀ (j : Nat) (x : NodeD), l[j]? = some x → nodeF ds (i + j) ((nodesF ds l i ss).1.take (i + j)) x = ((nodesF ds l i ss).1.getD (i + j) 0, 0)
  | [], i, ss, hl, _ => ⟨by rw [nodesF, ← hl]; exact List.take_length, fun j x hx => by simp at hx⟩
  | y :: r, i, ss, hl, h => by
    rw [nodesF] at h ⊢
    by_cases hc : (nodeF ds i ss y).2 = 0
    · rw [if_pos hc] at h ⊢
      obtain ⟨h1, h2⟩ := nodesF_all r (i + 1) (ss ++ [(nodeF ds i ss y).1]) (by simp [hl]) h
      generalize (nodesF ds r (i + 1) (ss ++ [(nodeF ds i ss y).1])).1 = F at h1 h2 ⊢
      have h3 : F.take i = ss := by
        have := congrArg (List.take i) h1
        rw [List.take_take, Nat.min_eq_left (by omega), List.take_left' hl] at this
        exact this
      refine ⟨h3, fun j x hx => ?_⟩
      rcases j with _ | j
      · simp only [List.getElem?_cons_zero, Option.some.injEq] at hx
        subst hx
        rw [Nat.add_zero, h3]
        have h4 : F[i]? = some (nodeF ds i ss y).1 := by
          have := congrArg (fun l : List Int => l[i]?) h1
          simp only [List.getElem?_take_of_lt (show i < i + 1 by omega)] at this
          rw [this, List.getElem?_append_right (by omega), hl]
          simp
        rw [List.getD_eq_getElem?_getD, h4]
        exact Prod.ext rfl hc
      · have := h2 j x (by simpa using hx)
        rw [show i + (j + 1) = i + 1 + j from by omega]
        exact this
    · rw [if_neg hc] at h
      exact absurd h hc
theorem sortsF_is {a : AskD} (h : (sortsF a).2.1 = 0) : (sortsF a).1 = (nodesF a.decls a.nodes 0 []).1 ∧ (nodesF a.decls a.nodes 0 []).2.1 = 0 := by
  unfold sortsF at h ⊢
  split at h
  · rename_i h1; exact absurd h h1
  rename_i h1
  rw [if_neg h1]
  split at h
  · simp at h
  rename_i h2
  rw [if_neg h2]
  split at h
  · rename_i h3; exact absurd h h3
  rename_i h3
  rw [if_neg h3]
  split at h
  · rename_i h4; exact absurd h h4
  rename_i h4
  rw [if_neg h4]
  exact ⟨rfl, by simpa using h3⟩
theorem kidSorts_take {ss : List Int} {x : NodeD} {i : Nat} (h : x.kids.any (outside i) = false) : kidSorts (ss.take i) x = kidSorts ss x := by
  unfold kidSorts
  refine List.map_congr_left fun k hk => ?_
  have := List.any_eq_false.1 h k hk
  simp only [outside, decide_eq_true_eq] at this
  rw [List.getD_eq_getElem?_getD, List.getD_eq_getElem?_getD, List.getElem?_take_of_lt (by omega)]
theorem sorts_nodes {a : AskD} (h : (sortsF a).2.1 = 0) {j : Nat} {x : NodeD} (hx : a.nodes[j]? = some x) : NodeOk a.decls j (sortsF a).1 x ((sortsF a).1.getD j 0) := by
  obtain ⟨h1, h2⟩ := sortsF_is h
  have h3 := (nodesF_all a.nodes 0 [] rfl h2).2 j x hx
  rw [← h1, Nat.zero_add] at h3
  obtain ⟨a1, a2, a3, a4, a5, a6, a7, a8⟩ := nodeOk_of h3
  refine ⟨a1, a2, a3, a4, a5, a6, ?_, a8⟩
  rw [← a7, sortN, sortN, kidSorts_take a5]

/-- values are ones of their sorts, as far as they go -/
def GoodTo (ss : List Int) (out : List ValueD) : Prop := ∀ (j : Nat) v, out[j]? = some v → goodV (ss.getD j 0) v = true
theorem GoodTo.nil (ss : List Int) : GoodTo ss [] := fun j v h => by simp at h
theorem GoodTo.snoc {ss : List Int} {out : List ValueD} {v : ValueD} (h : GoodTo ss out) (hv : goodV (ss.getD out.length 0) v = true) : GoodTo ss (out ++ [v]) := fun j u hu => by
  rcases Nat.lt_or_ge j out.length with hlt | hge
  · rw [List.getElem?_append_left hlt] at hu
    exact h j u hu
  · rw [List.getElem?_append_right hge] at hu
    have h0 : j - out.length = 0 := by
      rcases Nat.eq_zero_or_pos (j - out.length) with h0 | h0
      · exact h0
      · rw [List.getElem?_eq_none (by simp; omega)] at hu; cases hu
    rw [h0] at hu
    obtain rfl : v = u := by simpa using hu
    rw [show j = out.length from by omega]
    exact hv
theorem goodL_map {ss : List Int} {out : List ValueD} (h : GoodTo ss out) : ∀ {kids : List Int}, (∀ k ∈ kids, 0 ≤ k ∧ k < (out.length : Int)) → GoodL (kids.map fun k => ss.getD k.toNat 0) (kids.map fun k => kidV out k.toNat)
  | [], _ => trivial
  | k :: r, hk => by
    refine ⟨?_, goodL_map h fun x hx => hk x (by simp [hx])⟩
    obtain ⟨h0, h1⟩ := hk k (by simp)
    have hlt : k.toNat < out.length := by omega
    refine h k.toNat _ ?_
    show out[k.toNat]? = some (out.getD k.toNat ⟨0, 0, [], 0⟩)
    rw [List.getD_eq_getElem?_getD, List.getElem?_eq_getElem hlt]
    rfl
theorem kids_good {ss : List Int} {out : List ValueD} {x : NodeD} (h : GoodTo ss out) (hk : ∀ k ∈ x.kids, 0 ≤ k ∧ k < (out.length : Int)) : GoodL (kidSorts ss x) (kidVals out x) := goodL_map h hk
theorem NodeOk.kids {ds : List DeclD} {i : Nat} {ss : List Int} {x : NodeD} {s : Int} (h : NodeOk ds i ss x s) : (∀ k ∈ x.kids, 0 ≤ k ∧ k < (i : Int)) ∧ x.kids.length ≤ 8 := by
  refine ⟨fun k hk => ?_, ?_⟩
  · have := List.any_eq_false.1 h.low k hk
    simp only [outside, decide_eq_true_eq] at this
    omega
  · have hc := h.cnt
    simp only [badCount, decide_eq_false_iff_not, not_or, not_and, Classical.not_not] at hc
    omega
theorem valuesF_good {a : AskD} {ms : List MeaningD} (h : (sortsF a).2.1 = 0) (hm : MeansOk a.decls ms) : ∀ (l : List NodeD) (i : Nat) (out : List ValueD), a.nodes.drop i = l → out.length = i → GoodTo (sortsF a).1 out →
    (valuesF a.decls ms (sortsF a).1 l i out).2.1 = 0 → GoodTo (sortsF a).1 (valuesF a.decls ms (sortsF a).1 l i out).1 ∧ (valuesF a.decls ms (sortsF a).1 l i out).1.length = i + l.length
  | [], i, out, _, ho, hg, _ => ⟨hg, ho⟩
  | x :: r, i, out, hd, ho, hg, hz => by
    have hx : a.nodes[i]? = some x := by have := List.getElem?_drop (xs := a.nodes) (i := i) (j := 0); rw [hd] at this; simpa using this.symm
    have hn := sorts_nodes h hx
    have hk := kids_good hg (x := x) (by rw [ho]; exact hn.kids.1)
    rw [valuesF] at hz ⊢
    cases hv : valF a.decls ms x (bitsF ((sortsF a).1.getD i 0) (kidSorts (sortsF a).1 x)) (kidVals out x) with
    | none => rw [hv] at hz; simp at hz
    | some v =>
      rw [hv] at hz
      have hgv := valF_good hm hn hk hv
      obtain ⟨h1, h2⟩ := valuesF_good h hm r (i + 1) (out ++ [v]) (by rw [← List.drop_drop, hd]; rfl) (by simp [ho]) (hg.snoc (by rw [ho]; exact hgv)) hz
      exact ⟨h1, by rw [h2, List.length_cons]; omega⟩
theorem meanValF_good {a : AskD} {ms : List MeaningD} (h : (meanValF a ms).2.1 = 0) : GoodTo (sortsF a).1 (meanValF a ms).1 ∧ (meanValF a ms).1.length = a.nodes.length ∧ (sortsF a).2.1 = 0 := by
  unfold meanValF at h ⊢
  by_cases h0 : (meansF a ms).1 = 0
  · rw [if_neg (by simpa using h0)] at h ⊢
    obtain ⟨-, h1, h2⟩ := meansF_ok h0
    obtain ⟨h3, h4⟩ := valuesF_good h1 h2 a.nodes 0 [] (by simp) rfl (GoodTo.nil _) h
    exact ⟨h3, by rw [h4]; omega, h1⟩
  · rw [if_pos (by simpa using h0)] at h
    exact absurd h h0
end Go.Proofs.Ythooecojopfjbaa
namespace Go.Proofs.Ythooecojopfjbaa
open Go.RowKit

def BoolV (v : ValueD) : Prop := v = numV 0 ∨ v = numV 1
/-- a word of b bits -/
structure WordV (b : Int) (v : ValueD) : Prop where
  lo : 0 ≤ v.num
  hi : v.num < 2 ^ b.toNat
  is : v = numV v.num
/-- a node that is valued: its operator, its kids' values and its value, by its numbers n and d, the bits b of the words, its sort s -/
inductive Ready (told : ValueD) (n d b s : Int) : Int → List ValueD → Option ValueD → Prop
  | yes : Ready told n d b s 1 [] (some (bitV true))
  | no : Ready told n d b s 2 [] (some (bitV false))
  | not_ (u : ValueD) (hu : BoolV u) : Ready told n d b s 3 [u] (some (bitV (!isOne u)))
  | and_ (vs : List ValueD) (hv : ∀ v ∈ vs, BoolV v) : Ready told n d b s 4 vs (some (bitV (!vs.any isZero)))
  | or_ (vs : List ValueD) (hv : ∀ v ∈ vs, BoolV v) : Ready told n d b s 5 vs (some (bitV (vs.any isOne)))
  | iff_ (u v : ValueD) (hu : BoolV u) (hv : BoolV v) : Ready told n d b s 6 [u, v] (some (bitV (isOne u == isOne v)))
  | pick (u v x : ValueD) : Ready told n d b s 7 [u, v, x] (some (if isOne u = true then v else x))
  | same (u v : ValueD) : Ready told n d b s 8 [u, v] (some (bitV (u.num == v.num && u.den == v.den)))
  | name_ (vs : List ValueD) : Ready told n d b s 9 vs (some told)
  | num_ : Ready told n d b s 10 [] (some ⟨n, d, [], 0⟩)
  | add_ (vs : List ValueD) (hv : ∀ v ∈ vs, fracGood v.num v.den = true) : Ready told n d b s 11 vs ((addF ⟨0, 1⟩ vs).map fracV)
  | times (u : ValueD) (hu : fracGood u.num u.den = true) (hn : fracGood n d = true) : Ready told n d b s 12 [u] ((timesQ (qOf u) ⟨n, d⟩).map fracV)
  | less (u v : ValueD) (hu : fracGood u.num u.den = true) (hv : fracGood v.num v.den = true) : Ready told n d b s 13 [u, v] (some (bitV (lessQ (qOf u) (qOf v))))
  | most (u v : ValueD) (hu : fracGood u.num u.den = true) (hv : fracGood v.num v.den = true) : Ready told n d b s 14 [u, v] (some (bitV (!lessQ (qOf v) (qOf u))))
  | word (h1 : 1 ≤ b) (h8 : b ≤ 8) (hn0 : 0 ≤ n) (hn : n < 2 ^ b.toNat) : Ready told n d b s 15 [] (some (numV n))
  | wnot (u : ValueD) (h1 : 1 ≤ b) (h8 : b ≤ 8) (hs : s = 10 + b) (hn : n = 0) (hu : WordV b u) : Ready told n d b s 16 [u] (some (numV (wordF 16 b u.num 0 0)))
  | word2 (op : Int) (u v : ValueD) (hop : op = 17 ∨ op = 18 ∨ op = 19 ∨ op = 20 ∨ op = 21) (h1 : 1 ≤ b) (h8 : b ≤ 8) (hs : s = 10 + b) (hn : n = 0) (hu : WordV b u) (hv : WordV b v) : Ready told n d b s op [u, v] (some (numV (wordF op b u.num v.num 0)))
  | wless (u v : ValueD) (h1 : 1 ≤ b) (h8 : b ≤ 8) (hn : n = 0) (hu : WordV b u) (hv : WordV b v) : Ready told n d b s 22 [u, v] (some (numV (wordF 22 b u.num v.num 0)))
  | wleft (u : ValueD) (h1 : 1 ≤ b) (h8 : b ≤ 8) (hs : s = 10 + b) (hn0 : 0 ≤ n) (hn : n ≤ 8) (hu : WordV b u) : Ready told n d b s 23 [u] (some (numV (wordF 23 b u.num 0 n)))
  | get_ (u v : ValueD) (hu : goodV 5 u = true) (hv : thingB v.num = true) : Ready told n d b s 24 [u, v] (some (numV (getF v.num u.rest u.cells)))
  | put_ (u v x : ValueD) (hu : goodV 5 u = true) (hv : thingB v.num = true) (hx : thingB x.num = true) : Ready told n d b s 25 [u, v, x] (some ⟨0, 0, putP v.num x.num (x.num == u.rest) u.cells, u.rest⟩)

theorem isBoolS_is {k : Int} (h : isBoolS k = true) : k = 1 := by simpa [isBoolS] using h
theorem bools_of {ks : List Int} {vs : List ValueD} (hg : GoodL ks vs) (h : allB isBoolS ks = true) : ∀ v ∈ vs, BoolV v := fun v hv => by
  obtain ⟨k, hk, hgk⟩ := good_all (p := fun k => isBoolS k = true) hg (allB_mem h) v hv
  have := isBoolS_is hk
  subst this
  exact goodV_bool hgk
theorem nums_of {ks : List Int} {vs : List ValueD} (hg : GoodL ks vs) (h : allB numS ks = true) : ∀ v ∈ vs, fracGood v.num v.den = true := fun v hv => by
  obtain ⟨k, hk, hgk⟩ := good_all (p := fun k => numS k = true) hg (allB_mem h) v hv
  have := numS_cases hk
  exact (goodV_num hgk (by omega)).2.2.1
theorem wordV_of {k b : Int} {v : ValueD} (hw : wordB k = true) (hb : b = k - 10) (h : goodV k v = true) : WordV b v := by
  subst hb
  obtain ⟨h1, h2, h3⟩ := goodV_word hw h
  exact ⟨h1, h2, h3⟩
theorem wordB_bits {k : Int} (h : wordB k = true) : 1 ≤ k - 10 ∧ k - 10 ≤ 8 := by
  have : 10 < k ∧ k ≤ 18 := by simpa [wordB] using h
  omega
theorem not_fracOp {op n d : Int} {nm : ByteArray} (h : formedB op n d nm = true) (h1 : ¬ op = 10) (h2 : ¬ op = 12) (h3 : ¬ op = 15) (h4 : ¬ op = 23) : n = 0 := by
  simp only [formedB, fracOp, Bool.and_eq_true, Bool.or_eq_true, beq_iff_eq, decide_eq_true_eq] at h
  omega

set_option maxHeartbeats 2000000 in
theorem ready_of {op n d b : Int} {nm : ByteArray} {ks : List Int} {vs : List ValueD} {args : List Int} {ds' s : Int} {told : ValueD} (h1 : 1 ≤ op) (h25 : op ≤ 25) (hcnt : ¬ op = 9 → CountOk op ks) (hform : formedB op n d nm = true) (hnum : numbersB op n d = true)
    (hs : sortF op d ks args ds' = s) (hne : ¬ s = 0) (hg : GoodL ks vs) (hb : b = bitsF s ks) : Ready told n d b s op vs (valX op n d b vs told) := by
  have h : op = 1 ∨ op = 2 ∨ op = 3 ∨ op = 4 ∨ op = 5 ∨ op = 6 ∨ op = 7 ∨ op = 8 ∨ op = 9 ∨ op = 10 ∨ op = 11 ∨ op = 12 ∨ op = 13 ∨ op = 14 ∨ op = 15 ∨ op = 16 ∨ op = 17 ∨ op = 18 ∨ op = 19 ∨ op = 20 ∨ op = 21 ∨ op = 22 ∨ op = 23 ∨ op = 24 ∨ op = 25 := by omega
  clear h1 h25
  rcases h with rfl | rfl | rfl | rfl | rfl | rfl | rfl | rfl | rfl | rfl | rfl | rfl | rfl | rfl | rfl | rfl | rfl | rfl | rfl | rfl | rfl | rfl | rfl | rfl | rfl
  · obtain rfl := len0 (ks := ks) (by simpa [CountOk, kidsF] using hcnt (by omega))
    obtain rfl := good0 hg
    exact .yes
  · obtain rfl := len0 (ks := ks) (by simpa [CountOk, kidsF] using hcnt (by omega))
    obtain rfl := good0 hg
    exact .no
  · obtain ⟨k0, rfl⟩ := len1 (ks := ks) (by simpa [CountOk, kidsF] using hcnt (by omega))
    obtain ⟨u0, rfl, g0⟩ := good1 hg
    have ha : allB isBoolS [k0] = true := by
      simp only [sortF] at hs
      simp at hs
      split at hs
      · assumption
      · exact absurd hs.symm hne
    rw [show valX 3 n d b [u0] told = some (bitV (!isOne u0)) from by simp [valX, kidV]]
    exact .not_ u0 (bools_of hg ha u0 (by simp))
  · skip
    have ha : allB isBoolS ks = true := by
      simp only [sortF] at hs
      simp at hs
      split at hs
      · assumption
      · exact absurd hs.symm hne
    rw [show valX 4 n d b vs told = some (bitV (!vs.any isZero)) from by simp [valX]]
    exact .and_ vs (bools_of hg ha)
  · skip
    have ha : allB isBoolS ks = true := by
      simp only [sortF] at hs
      simp at hs
      split at hs
      · assumption
      · exact absurd hs.symm hne
    rw [show valX 5 n d b vs told = some (bitV (vs.any isOne)) from by simp [valX]]
    exact .or_ vs (bools_of hg ha)
  · obtain ⟨k0, k1, rfl⟩ := len2 (ks := ks) (by simpa [CountOk, kidsF] using hcnt (by omega))
    obtain ⟨u0, u1, rfl, g0, g1⟩ := good2 hg
    have ha : allB isBoolS [k0, k1] = true := by
      simp only [sortF] at hs
      simp at hs
      split at hs
      · assumption
      · exact absurd hs.symm hne
    rw [show valX 6 n d b [u0, u1] told = some (bitV (isOne u0 == isOne u1)) from by simp [valX, kidV]]
    exact .iff_ u0 u1 (bools_of hg ha u0 (by simp)) (bools_of hg ha u1 (by simp))
  · obtain ⟨k0, k1, k2, rfl⟩ := len3 (ks := ks) (by simpa [CountOk, kidsF] using hcnt (by omega))
    obtain ⟨u0, u1, u2, rfl, g0, g1, g2⟩ := good3 hg
    rw [show valX 7 n d b [u0, u1, u2] told = some (if isOne u0 = true then u1 else u2) from by simp [valX, kidV]]
    exact .pick u0 u1 u2
  · obtain ⟨k0, k1, rfl⟩ := len2 (ks := ks) (by simpa [CountOk, kidsF] using hcnt (by omega))
    obtain ⟨u0, u1, rfl, g0, g1⟩ := good2 hg
    rw [show valX 8 n d b [u0, u1] told = some (bitV (u0.num == u1.num && u0.den == u1.den)) from by simp [valX, kidV]]
    exact .same u0 u1
  · rw [show valX 9 n d b vs told = some told from by simp [valX]]
    exact .name_ vs
  · obtain rfl := len0 (ks := ks) (by simpa [CountOk, kidsF] using hcnt (by omega))
    obtain rfl := good0 hg
    exact .num_
  · skip
    have ha : allB numS ks = true := by
      simp only [sortF] at hs
      simp at hs
      split at hs
      · assumption
      · exact absurd hs.symm hne
    rw [show valX 11 n d b vs told = (addF ⟨0, 1⟩ vs).map fracV from by simp [valX]]
    exact .add_ vs (nums_of hg ha)
  · obtain ⟨k0, rfl⟩ := len1 (ks := ks) (by simpa [CountOk, kidsF] using hcnt (by omega))
    obtain ⟨u0, rfl, g0⟩ := good1 hg
    simp [sortF, timesF] at hs
    split at hs
    rotate_left
    · exact absurd hs.symm hne
    rename_i hk
    have := numS_cases hk
    simp only [numbersB, or_true, if_true, decide_eq_true_eq] at hnum
    rw [show valX 12 n d b [u0] told = (timesQ (qOf u0) ⟨n, d⟩).map fracV from by simp [valX, kidV]]
    exact .times u0 (goodV_num g0 (by omega)).2.2.1 (by simp only [fracGood, decide_eq_true_eq]; exact ⟨by omega, by omega, by omega, by omega, hnum.2.2.2.2⟩)
  · obtain ⟨k0, k1, rfl⟩ := len2 (ks := ks) (by simpa [CountOk, kidsF] using hcnt (by omega))
    obtain ⟨u0, u1, rfl, g0, g1⟩ := good2 hg
    have ha : allB numS [k0, k1] = true := by
      simp only [sortF] at hs
      simp at hs
      split at hs
      · assumption
      · exact absurd hs.symm hne
    rw [show valX 13 n d b [u0, u1] told = some (bitV (lessQ (qOf u0) (qOf u1))) from by simp [valX, kidV]]
    exact .less u0 u1 (nums_of hg ha u0 (by simp)) (nums_of hg ha u1 (by simp))
  · obtain ⟨k0, k1, rfl⟩ := len2 (ks := ks) (by simpa [CountOk, kidsF] using hcnt (by omega))
    obtain ⟨u0, u1, rfl, g0, g1⟩ := good2 hg
    have ha : allB numS [k0, k1] = true := by
      simp only [sortF] at hs
      simp at hs
      split at hs
      · assumption
      · exact absurd hs.symm hne
    rw [show valX 14 n d b [u0, u1] told = some (bitV (!lessQ (qOf u1) (qOf u0))) from by simp [valX, kidV]]
    exact .most u0 u1 (nums_of hg ha u0 (by simp)) (nums_of hg ha u1 (by simp))
  · obtain rfl := len0 (ks := ks) (by simpa [CountOk, kidsF] using hcnt (by omega))
    obtain rfl := good0 hg
    simp [sortF] at hs
    simp [numbersB] at hnum
    have hbd : b = d := by rw [hb, ← hs]; simp [bitsF]; omega
    subst hbd
    rw [show valX 15 n b b [] told = some (numV n) from by simp [valX, wordF]]
    exact .word hnum.1 hnum.2.1 hnum.2.2.1 hnum.2.2.2
  · obtain ⟨k0, rfl⟩ := len1 (ks := ks) (by simpa [CountOk, kidsF] using hcnt (by omega))
    obtain ⟨u0, rfl, g0⟩ := good1 hg
    have hn : n = 0 := not_fracOp hform (by omega) (by omega) (by omega) (by omega)
    simp [sortF, word1F] at hs
    split at hs
    rotate_left
    · exact absurd hs.symm hne
    rename_i hw
    subst hs
    have hbb : b = k0 - 10 := by rw [hb]; simp [bitsF, hw]
    have hbt := wordB_bits hw
    rw [show valX 16 n d b [u0] told = some (numV (wordF 16 b u0.num 0 0)) from by simp [valX, kidV, wordF]]
    exact .wnot u0 (by omega) (by omega) (by omega) hn (wordV_of hw hbb g0)
  · obtain ⟨k0, k1, rfl⟩ := len2 (ks := ks) (by simpa [CountOk, kidsF] using hcnt (by omega))
    obtain ⟨u0, u1, rfl, g0, g1⟩ := good2 hg
    have hn : n = 0 := not_fracOp hform (by omega) (by omega) (by omega) (by omega)
    simp [sortF, word2F] at hs
    split at hs
    rotate_left
    · exact absurd hs.symm hne
    rename_i hw
    obtain ⟨e, hw⟩ := hw
    subst e hs
    have hbb : b = k0 - 10 := by rw [hb]; simp [bitsF, hw]
    have hbt := wordB_bits hw
    rw [show valX 17 n d b [u0, u1] told = some (numV (wordF 17 b u0.num u1.num 0)) from by simp [valX, kidV, hn]]
    exact .word2 17 u0 u1 (by omega) (by omega) (by omega) (by omega) hn (wordV_of hw hbb g0) (wordV_of hw hbb g1)
  · obtain ⟨k0, k1, rfl⟩ := len2 (ks := ks) (by simpa [CountOk, kidsF] using hcnt (by omega))
    obtain ⟨u0, u1, rfl, g0, g1⟩ := good2 hg
    have hn : n = 0 := not_fracOp hform (by omega) (by omega) (by omega) (by omega)
    simp [sortF, word2F] at hs
    split at hs
    rotate_left
    · exact absurd hs.symm hne
    rename_i hw
    obtain ⟨e, hw⟩ := hw
    subst e hs
    have hbb : b = k0 - 10 := by rw [hb]; simp [bitsF, hw]
    have hbt := wordB_bits hw
    rw [show valX 18 n d b [u0, u1] told = some (numV (wordF 18 b u0.num u1.num 0)) from by simp [valX, kidV, hn]]
    exact .word2 18 u0 u1 (by omega) (by omega) (by omega) (by omega) hn (wordV_of hw hbb g0) (wordV_of hw hbb g1)
  · obtain ⟨k0, k1, rfl⟩ := len2 (ks := ks) (by simpa [CountOk, kidsF] using hcnt (by omega))
    obtain ⟨u0, u1, rfl, g0, g1⟩ := good2 hg
    have hn : n = 0 := not_fracOp hform (by omega) (by omega) (by omega) (by omega)
    simp [sortF, word2F] at hs
    split at hs
    rotate_left
    · exact absurd hs.symm hne
    rename_i hw
    obtain ⟨e, hw⟩ := hw
    subst e hs
    have hbb : b = k0 - 10 := by rw [hb]; simp [bitsF, hw]
    have hbt := wordB_bits hw
    rw [show valX 19 n d b [u0, u1] told = some (numV (wordF 19 b u0.num u1.num 0)) from by simp [valX, kidV, hn]]
    exact .word2 19 u0 u1 (by omega) (by omega) (by omega) (by omega) hn (wordV_of hw hbb g0) (wordV_of hw hbb g1)
  · obtain ⟨k0, k1, rfl⟩ := len2 (ks := ks) (by simpa [CountOk, kidsF] using hcnt (by omega))
    obtain ⟨u0, u1, rfl, g0, g1⟩ := good2 hg
    have hn : n = 0 := not_fracOp hform (by omega) (by omega) (by omega) (by omega)
    simp [sortF, word2F] at hs
    split at hs
    rotate_left
    · exact absurd hs.symm hne
    rename_i hw
    obtain ⟨e, hw⟩ := hw
    subst e hs
    have hbb : b = k0 - 10 := by rw [hb]; simp [bitsF, hw]
    have hbt := wordB_bits hw
    rw [show valX 20 n d b [u0, u1] told = some (numV (wordF 20 b u0.num u1.num 0)) from by simp [valX, kidV, hn]]
    exact .word2 20 u0 u1 (by omega) (by omega) (by omega) (by omega) hn (wordV_of hw hbb g0) (wordV_of hw hbb g1)
  · obtain ⟨k0, k1, rfl⟩ := len2 (ks := ks) (by simpa [CountOk, kidsF] using hcnt (by omega))
    obtain ⟨u0, u1, rfl, g0, g1⟩ := good2 hg
    have hn : n = 0 := not_fracOp hform (by omega) (by omega) (by omega) (by omega)
    simp [sortF, word2F] at hs
    split at hs
    rotate_left
    · exact absurd hs.symm hne
    rename_i hw
    obtain ⟨e, hw⟩ := hw
    subst e hs
    have hbb : b = k0 - 10 := by rw [hb]; simp [bitsF, hw]
    have hbt := wordB_bits hw
    rw [show valX 21 n d b [u0, u1] told = some (numV (wordF 21 b u0.num u1.num 0)) from by simp [valX, kidV, hn]]
    exact .word2 21 u0 u1 (by omega) (by omega) (by omega) (by omega) hn (wordV_of hw hbb g0) (wordV_of hw hbb g1)
  · obtain ⟨k0, k1, rfl⟩ := len2 (ks := ks) (by simpa [CountOk, kidsF] using hcnt (by omega))
    obtain ⟨u0, u1, rfl, g0, g1⟩ := good2 hg
    have hn : n = 0 := not_fracOp hform (by omega) (by omega) (by omega) (by omega)
    simp [sortF, wlessF] at hs
    split at hs
    rotate_left
    · exact absurd hs.symm hne
    rename_i hw
    obtain ⟨e, hw⟩ := hw
    subst e
    have hbb : b = k0 - 10 := by rw [hb]; simp [bitsF, hw]
    have hbt := wordB_bits hw
    rw [show valX 22 n d b [u0, u1] told = some (numV (wordF 22 b u0.num u1.num 0)) from by simp [valX, kidV, hn]]
    exact .wless u0 u1 (by omega) (by omega) hn (wordV_of hw hbb g0) (wordV_of hw hbb g1)
  · obtain ⟨k0, rfl⟩ := len1 (ks := ks) (by simpa [CountOk, kidsF] using hcnt (by omega))
    obtain ⟨u0, rfl, g0⟩ := good1 hg
    simp [numbersB] at hnum
    simp [sortF, word1F] at hs
    split at hs
    rotate_left
    · exact absurd hs.symm hne
    rename_i hw
    subst hs
    have hbb : b = k0 - 10 := by rw [hb]; simp [bitsF, hw]
    have hbt := wordB_bits hw
    rw [show valX 23 n d b [u0] told = some (numV (wordF 23 b u0.num 0 n)) from by simp [valX, kidV, wordF]]
    exact .wleft u0 (by omega) (by omega) (by omega) hnum.1 hnum.2 (wordV_of hw hbb g0)
  · obtain ⟨k0, k1, rfl⟩ := len2 (ks := ks) (by simpa [CountOk, kidsF] using hcnt (by omega))
    obtain ⟨u0, u1, rfl, g0, g1⟩ := good2 hg
    simp [sortF] at hs
    split at hs
    rotate_left
    · exact absurd hs.symm hne
    rename_i e
    obtain ⟨rfl, rfl⟩ := e
    rw [show valX 24 n d b [u0, u1] told = some (numV (getF u1.num u0.rest u0.cells)) from by simp [valX, kidV]]
    exact .get_ u0 u1 g0 (goodV_thing g1).1
  · obtain ⟨k0, k1, k2, rfl⟩ := len3 (ks := ks) (by simpa [CountOk, kidsF] using hcnt (by omega))
    obtain ⟨u0, u1, u2, rfl, g0, g1, g2⟩ := good3 hg
    simp [sortF] at hs
    split at hs
    rotate_left
    · exact absurd hs.symm hne
    rename_i e
    obtain ⟨rfl, rfl, rfl⟩ := e
    rw [show valX 25 n d b [u0, u1, u2] told = some ⟨0, 0, putP u1.num u2.num (u2.num == u0.rest) u0.cells, u0.rest⟩ from by simp [valX, kidV]]
    exact .put_ u0 u1 u2 g0 (goodV_thing g1).1 (goodV_thing g2).1
/-- a node without a fault, its kids valued -/
theorem NodeOk.ready {ds : List DeclD} {ms : List MeaningD} {i : Nat} {ss : List Int} {x : NodeD} {s : Int} {vs : List ValueD} (hx : NodeOk ds i ss x s) (hg : GoodL (kidSorts ss x) vs) :
    Ready (toldF vs (meanAt ms ds x.name).rest (meanAt ms ds x.name).rows) x.n x.d (bitsF s (kidSorts ss x)) s x.op vs (valF ds ms x (bitsF s (kidSorts ss x)) vs) :=
  ready_of hx.op1 hx.op25 hx.count hx.formed.1 hx.formed.2 hx.srt hx.ne hg rfl
end Go.Proofs.Ythooecojopfjbaa
