/- Walks: rows of values that are the call's own; what lies in memory while all nodes are valued; the sorts of an ask without a fault are ones. · Walk: the value of a node without a fault: the program. -/
import Derived.Test.YthooecojopfjbaaPlainV
import Derived.Test.YthooecojopfjbaaValEF
import Derived.Test.YthooecojopfjbaaAskOU
import Derived.Test.YthooecojopfjbaaValN
import Derived.Test.YthooecojopfjbaaValOQ
import Derived.Test.YthooecojopfjbaaValR
namespace Go.Proofs.Ythooecojopfjbaa
open Go.RowKit

/-- blocks from B on that are there, but the row v's own -/
def Fr (B : Nat) (w : World) (v : Value) : Nat → Prop := fun b => B ≤ b ∧ b < w.heap.size ∧ v.ownBlock ≠ some b
theorem Fr.step {B : Nat} {w w' : World} {v v' : Value} (hg : w.grownBy w' v.ownBlock) (hv : v'.ownBlock = v.ownBlock ∨ v'.ownBlock = some w.heap.size) : ∀ b, Fr B w v b → Fr B w' v' b := fun b ⟨h1, h2, h3⟩ =>
  ⟨h1, Nat.lt_of_lt_of_le h2 hg.size, by
    rcases hv with e | e
    · rw [e]; exact h3
    · rw [e]; intro e2; injection e2 with e2; omega⟩
section
variable {α : Type} {V : Val α} {e sz : Nat} {w w' : World} {base : Nat} {S S' : Nat → Prop} {v v' : Value} {xs : List α}
theorem OwnV.weak (hV : Tells V sz) (h : OwnV V e sz w base S v xs) (hS : ∀ b, S b → S' b) : OwnV V e sz w base S' v xs := by
  obtain ⟨cells, hown, hels⟩ := h
  exact ⟨cells, hown, Cels.keep hV hS (fun _ _ _ => rfl) _ _ hels⟩
theorem OwnV.later (hV : Tells V sz) {B : Nat} (h : OwnV V e sz w base (Fr B w v) v xs) (hb : Below w.heap.size w w') : OwnV V e sz w' base (Fr B w' v) v xs :=
  h.kept hV (only_of_below hb none) (by cases v.ownBlock <;> simp) (fun b hb' => ⟨⟨hb'.1, Nat.lt_of_lt_of_le hb'.2.1 hb.size, hb'.2.2⟩, hb'.2.1, by simp⟩)
theorem fr_out {B : Nat} (b : Nat) (h : Fr B w v b) : b < w.heap.size ∧ v.ownBlock ≠ some b := ⟨h.2.1, h.2.2⟩
end

/-- what the values of an ask's nodes come to: a list, and a fault -/
def ValuesP (w : World) (r : List ValueD × Int × Int) (e : Ending) (w' : World) : Prop :=
  ∃ (A : Option Addr) (c : Nat), e = .returned (.tuple #[.slice A r.1.length c, .agg #[.int .i64 r.2.1, .int .i64 r.2.2]]) ∧ Below w.heap.size w w' ∧ r.1.length ≤ c ∧ c ≤ maxLen ∧ Arr AtValue 4 w' (fun b => b < w'.heap.size) A r.1.length r.1
theorem valuesP_nil {w w' : World} (h : Below w.heap.size w w') (c a : Int) : ValuesP w ([], c, a) (.returned (.tuple #[.slice none 0 0, .agg #[.int .i64 c, .int .i64 a]])) w' :=
  ⟨none, 0, rfl, h, Nat.le_refl _, Nat.zero_le _, Arr.nil_⟩
theorem valuesP_of {w w' : World} {vs : List ValueD} {n c : Nat} {A : Option Addr} (hl : vs.length = n) (h : Below w.heap.size w w') (hc : n ≤ c) (hcm : c ≤ maxLen) (harr : Arr AtValue 4 w' (fun b => b < w'.heap.size) A n vs) :
    ValuesP w (vs, 0, 0) (.returned (.tuple #[.slice A n c, .agg #[.int .i64 0, .int .i64 0]])) w' := by
  subst hl
  exact ⟨A, c, rfl, h, hc, hcm, harr⟩

/-- what lies in memory while all nodes are valued -/
structure ValsI (w W : World) (ca cw : Array Value) (As : Option Addr) (ns : Nat) (ss : List Int) : Prop where
  below : Below w.heap.size w W
  ask : Blk W w.heap.size 26 ca
  wld : Blk W (w.heap.size + 1) 47 cw
  flt : Blk W (w.heap.size + 2) 29 #[.int .i64 0, .int .i64 0]
  sorts : Arr AtInt 1 W (fun b => b < W.heap.size) As ns ss
theorem ValsI.keep {w W W' : World} {ca cw : Array Value} {As : Option Addr} {ns : Nat} {ss : List Int} (h : ValsI w W ca cw As ns ss) (hb : Below W.heap.size W W') : ValsI w W' ca cw As ns ss :=
  ⟨h.below.trans (hb.mono h.below.size), h.ask.below hb h.ask.lt, h.wld.below hb h.wld.lt, h.flt.below hb h.flt.lt, ArrB.below h.sorts stays_int hb hb.size⟩

theorem sorts_good {a : AskD} (h : (sortsF a).2.1 = 0) : ∀ (n j : Nat), j < n → j < a.nodes.length → sortB ((sortsF a).1.getD j 0) = true
  | 0, _, hj, _ => by omega
  | n + 1, j, hj, hl => by
    obtain ⟨-, hlen, -, -, -, -, hd⟩ := sortsF_ok h
    obtain ⟨e1, e2⟩ := sortsF_is h
    obtain ⟨-, hall⟩ := nodesF_all a.nodes 0 [] rfl e2
    have h1 := hall j _ (List.getElem?_eq_getElem hl)
    rw [Nat.zero_add, ← e1] at h1
    refine nodeF_good hd (fun k hk => ?_) h1
    obtain ⟨i, hi, rfl⟩ := List.getElem_of_mem hk
    rw [List.length_take] at hi
    have := sorts_good h n i (by omega) (by omega)
    rw [List.getD_eq_getElem?_getD, List.getElem?_eq_getElem (by omega)] at this
    rw [List.getElem_take]
    exact this
theorem bits_range {s : Int} (h : sortB s = true) : -9 ≤ s - 10 ∧ s - 10 ≤ 8 := by
  have : (1 ≤ s ∧ s ≤ 5) ∨ (10 < s ∧ s ≤ 18) := by simpa [sortB] using h
  omega
theorem goodV_i64 {s : Int} {v : ValueD} (h : goodV s v = true) : I64 v.num ∧ I64 v.den ∧ I64 v.rest := by
  unfold I64
  by_cases h5 : s = 5
  · subst h5
    rw [goodV, if_pos rfl, arrB] at h
    simp only [Bool.and_eq_true, beq_iff_eq] at h
    have : 0 ≤ v.rest ∧ v.rest ≤ 1000 := by simpa [thingB] using h.1.2
    omega
  · obtain ⟨-, h2, h3, -⟩ := goodV_num h h5
    have := qgood (q := ⟨v.num, v.den⟩) h3
    dsimp only at this
    omega
def bitStep (b k : Int) : Int := if wordB k = true then k - 10 else b
theorem bitsF_fold (s : Int) (ks : List Int) : bitsF s ks = ks.foldl bitStep (s - 10) := by
  cases ks <;> rfl
end Go.Proofs.Ythooecojopfjbaa
namespace Go.Proofs.Ythooecojopfjbaa
open Go.RowKit

set_option maxRecDepth 100000 in
set_option maxHeartbeats 2000000 in
theorem value_any {ds : List DeclD} {ms : List MeaningD} {i : Nat} {ss : List Int} (x : NodeD) (s : Int) (vs : List ValueD) (A1 A2 A3 : Option Addr) (n1 c1 n2 c2 n3 c3 : Nat) (AM : Option Addr) (nm cm : Nat) (K : Option Addr) (kn kc : Nat) (AK : Option Addr) (nk ck : Nat) (S0 : Nat → Prop) (w : World)
    (hds : ArrB AtDecl 3 w w.heap.size A1 n1 ds) (hn1 : n1 ≤ 9223372036854775807) (hms : ArrB AtMeaning 5 w w.heap.size AM nm ms) (hmo : MeansOk ds ms) (hx : NodeOk ds i ss x s) (hg : GoodL (kidSorts ss x) vs) (hvs : Arr AtValue 4 w S0 AK nk vs) (hS0 : ∀ b, S0 b → b < w.heap.size) :
    Calls Try.prog 75 #[.agg #[.slice A1 n1 c1, .slice A2 n2 c2, .slice A3 n3 c3], .agg #[.slice AM nm cm], .int .i64 s, .agg #[.int .i64 x.op, .slice K kn kc, .int .i64 x.n, .int .i64 x.d, .string x.name], .slice AK nk ck, .int .i64 (bitsF s (kidSorts ss x))] w
      (ValueP S0 w (valF ds ms x (bitsF s (kidSorts ss x)) vs)) := by
  have hr := hx.ready (ms := ms) hg
  have hvw : ArrB AtValue 4 w w.heap.size AK nk vs := Arr.keep stays_value hvs hS0 (fun _ _ _ => rfl)
  have hl := hvs.len
  have h8 : nk ≤ 8 := by have := hx.kids.2; have := hg.len; have := kidSorts_len ss x; omega
  have h9 : x.op = 9 → ∃ k : Nat, idx (nameIs x.name) ds 0 = k ∧ ms[k]? = some (meanAt ms ds x.name) ∧ (meanAt ms ds x.name).rows.length ≤ 1000 ∧ (∀ e ∈ (meanAt ms ds x.name).rows, e.args.length = vs.length ∧ e.to_.cells.length ≤ 1001) ∧ (meanAt ms ds x.name).rest.cells.length ≤ 1001 := fun e9 => by
    obtain ⟨k, hk, hm, hme⟩ := meanAt_ok hmo (hx.nam e9)
    obtain ⟨m1, m2, m3⟩ := meaningF_ok hme
    have ha := (hx.args e9).1
    have hgl := hg.len
    have hkl := kidSorts_len ss x
    exact ⟨k, hk, hm, m1, fun e he => ⟨by have := (m2 e he).1; omega, goodV_cells (m2 e he).2⟩, goodV_cells m3⟩
  generalize htold : toldF vs (meanAt ms ds x.name).rest (meanAt ms ds x.name).rows = told at hr
  generalize valF ds ms x (bitsF s (kidSorts ss x)) vs = r at hr ⊢
  generalize bitsF s (kidSorts ss x) = b at hr ⊢
  generalize x.op = op at hr h9 ⊢
  clear hg hx hmo
  cases hr with
  | yes =>
    obtain rfl : nk = 0 := by simpa using hl.symm
    exact val_1 A1 A2 A3 n1 c1 n2 c2 n3 c3 AM nm cm s K kn kc x.n x.d x.name AK ck b S0 w
  | no =>
    obtain rfl : nk = 0 := by simpa using hl.symm
    exact val_2 A1 A2 A3 n1 c1 n2 c2 n3 c3 AM nm cm s K kn kc x.n x.d x.name AK ck b S0 w
  | not_ u hu =>
    obtain rfl : nk = 1 := by simpa using hl.symm
    exact val_3 A1 A2 A3 n1 c1 n2 c2 n3 c3 AM nm cm s K kn kc x.n x.d x.name AK ck b u S0 w hvw
  | and_ _ hv => exact val_4 A1 A2 A3 n1 c1 n2 c2 n3 c3 AM nm cm s K kn kc x.n x.d x.name AK ck b nk vs S0 w hvw (by omega)
  | or_ _ hv => exact val_5 A1 A2 A3 n1 c1 n2 c2 n3 c3 AM nm cm s K kn kc x.n x.d x.name AK ck b nk vs S0 w hvw (by omega)
  | iff_ u v hu hv =>
    obtain rfl : nk = 2 := by simpa using hl.symm
    exact val_6 A1 A2 A3 n1 c1 n2 c2 n3 c3 AM nm cm s K kn kc x.n x.d x.name AK ck b u v S0 w hvw
  | pick u v y =>
    obtain rfl : nk = 3 := by simpa using hl.symm
    cases hq : isOne u with
    | true => exact val_7a A1 A2 A3 n1 c1 n2 c2 n3 c3 AM nm cm s K kn kc x.n x.d x.name AK ck b u v y S0 w hvs hS0 hq
    | false => exact val_7b A1 A2 A3 n1 c1 n2 c2 n3 c3 AM nm cm s K kn kc x.n x.d x.name AK ck b u v y S0 w hvs hS0 hq
  | same u v =>
    obtain rfl : nk = 2 := by simpa using hl.symm
    cases hq1 : (u.num == v.num) with
    | false => exact val_8a A1 A2 A3 n1 c1 n2 c2 n3 c3 AM nm cm s K kn kc x.n x.d x.name AK ck b u v S0 w hvw hq1
    | true =>
      cases hq2 : (u.den == v.den) with
      | false => exact val_8b A1 A2 A3 n1 c1 n2 c2 n3 c3 AM nm cm s K kn kc x.n x.d x.name AK ck b u v S0 w hvw hq1 hq2
      | true => exact val_8c A1 A2 A3 n1 c1 n2 c2 n3 c3 AM nm cm s K kn kc x.n x.d x.name AK ck b u v S0 w hvw hq1 hq2
  | name_ _ =>
    obtain ⟨k, hk, hm, m1, m2, m3⟩ := h9 rfl
    rw [← htold]
    exact val_9 A1 A2 A3 n1 c1 n2 c2 n3 c3 AM nm cm s K kn kc x.n x.d x.name AK ck b nk vs ds ms k _ S0 w hvw (by omega) hds hn1 hk hms hm m1 m2 m3
  | num_ =>
    obtain rfl : nk = 0 := by simpa using hl.symm
    exact val_10 A1 A2 A3 n1 c1 n2 c2 n3 c3 AM nm cm s K kn kc x.n x.d x.name AK ck b S0 w
  | add_ _ hv => exact val_11 A1 A2 A3 n1 c1 n2 c2 n3 c3 AM nm cm s K kn kc x.n x.d x.name AK ck b nk vs _ S0 w hvw (by omega) hv rfl
  | times u hu hn =>
    obtain rfl : nk = 1 := by simpa using hl.symm
    exact val_12 A1 A2 A3 n1 c1 n2 c2 n3 c3 AM nm cm s K kn kc x.n x.d x.name AK ck b u _ S0 w hvw hu hn rfl
  | less u v hu hv =>
    obtain rfl : nk = 2 := by simpa using hl.symm
    exact val_13 A1 A2 A3 n1 c1 n2 c2 n3 c3 AM nm cm s K kn kc x.n x.d x.name AK ck b u v S0 w hvw hu hv
  | most u v hu hv =>
    obtain rfl : nk = 2 := by simpa using hl.symm
    exact val_14 A1 A2 A3 n1 c1 n2 c2 n3 c3 AM nm cm s K kn kc x.n x.d x.name AK ck b u v S0 w hvw hu hv
  | word h1 h8' hn0 hn =>
    obtain rfl : nk = 0 := by simpa using hl.symm
    exact val_word A1 A2 A3 n1 c1 n2 c2 n3 c3 AM nm cm s K kn kc x.n x.d x.name AK ck b 15 0 [] S0 w hvw (by omega) (by omega) x.n fun A5 c5 W hks => do_15 b x.n A5 c5 x.n W h1 h8' hn0 hn hks (by simp [wordF])
  | wnot u h1 h8' hs hn hu =>
    obtain rfl : nk = 1 := by simpa using hl.symm
    rw [hn]
    exact val_word A1 A2 A3 n1 c1 n2 c2 n3 c3 AM nm cm s K kn kc 0 x.d x.name AK ck b 16 1 [u] S0 w hvw (by omega) (by omega) _ fun A5 c5 W hks => do_16 b u.num A5 c5 _ W h1 h8' hu.lo hu.hi hks rfl
  | word2 _ u v hop h1 h8' hs hn hu hv =>
    obtain rfl : nk = 2 := by simpa using hl.symm
    rw [hn]
    refine val_word A1 A2 A3 n1 c1 n2 c2 n3 c3 AM nm cm s K kn kc 0 x.d x.name AK ck b op 2 [u, v] S0 w hvw (by omega) (by rcases hop with h | h | h | h | h <;> rw [h] <;> decide) _ fun A5 c5 W hks => ?_
    rcases hop with rfl | rfl | rfl | rfl | rfl
    · exact do_17 b u.num v.num A5 c5 _ W h1 h8' hu.lo hu.hi hv.lo hv.hi hks rfl
    · exact do_18 b u.num v.num A5 c5 _ W h1 h8' hu.lo hu.hi hv.lo hv.hi hks rfl
    · exact do_19 b u.num v.num A5 c5 _ W h1 h8' hu.lo hu.hi hv.lo hv.hi hks rfl
    · exact do_20 b u.num v.num A5 c5 _ W h1 h8' hu.lo hu.hi hv.lo hv.hi hks rfl
    · exact do_21 b u.num v.num A5 c5 _ W h1 h8' hu.lo hu.hi hv.lo hv.hi hks rfl
  | wless u v h1 h8' hn hu hv =>
    obtain rfl : nk = 2 := by simpa using hl.symm
    rw [hn]
    exact val_word A1 A2 A3 n1 c1 n2 c2 n3 c3 AM nm cm s K kn kc 0 x.d x.name AK ck b 22 2 [u, v] S0 w hvw (by omega) (by omega) _ fun A5 c5 W hks => do_22 b u.num v.num A5 c5 _ W h1 h8' hu.lo hu.hi hv.lo hv.hi hks rfl
  | wleft u h1 h8' hs hn0 hn hu =>
    obtain rfl : nk = 1 := by simpa using hl.symm
    exact val_word A1 A2 A3 n1 c1 n2 c2 n3 c3 AM nm cm s K kn kc x.n x.d x.name AK ck b 23 1 [u] S0 w hvw (by omega) (by omega) _ fun A5 c5 W hks => do_23 b u.num x.n A5 c5 _ W h1 h8' hu.lo hu.hi hn0 hn hks rfl
  | get_ u v hu hv =>
    obtain rfl : nk = 2 := by simpa using hl.symm
    exact val_24 A1 A2 A3 n1 c1 n2 c2 n3 c3 AM nm cm s K kn kc x.n x.d x.name AK ck b u v S0 w hvw (by have := goodV_cells hu; omega)
  | put_ u v y hu hv hy =>
    obtain rfl : nk = 3 := by simpa using hl.symm
    exact val_25 A1 A2 A3 n1 c1 n2 c2 n3 c3 AM nm cm s K kn kc x.n x.d x.name AK ck b u v y S0 w hvw (by have := goodV_cells hu; omega)
end Go.Proofs.Ythooecojopfjbaa
