/- Arguments opened: asks. · Walk: the program's sorts of all nodes of an ask. · Walk: ask.Check. -/
import Derived.Test.YthooecojopfjbaaLawA
import Derived.Test.YthooecojopfjbaaAskAB
import Derived.Test.YthooecojopfjbaaAskT
import Derived.RegionTactic
import Derived.ChangeAlike
namespace Go.Proofs.Ythooecojopfjbaa
open Go.ChangeShapes Go.WideShapes Go.ChangeAt Go.RowKit Go.Deep Go.Joins

/-- an ask whose three slices are as told, in blocks below B -/
structure AskIn (w : World) (B : Nat) (A1 A2 A3 : Option Addr) (n1 n2 n3 : Nat) (a : AskD) : Prop where
  decls : ArrB AtDecl 3 w B A1 n1 a.decls
  nodes : ArrB AtNode 5 w B A2 n2 a.nodes
  hold : IntsB w B A3 n3 a.hold
  m1 : n1 ≤ 9223372036854775807
  m2 : n2 ≤ 9223372036854775807
  m3 : n3 ≤ 9223372036854775807
theorem AskIn.below {w w' : World} {B B' : Nat} {A1 A2 A3 : Option Addr} {n1 n2 n3 : Nat} {a : AskD} (h : AskIn w B A1 A2 A3 n1 n2 n3 a) (hb : Below B w w') (hB : B ≤ B') : AskIn w' B' A1 A2 A3 n1 n2 n3 a :=
  ⟨h.decls.below stays_decl hb hB, h.nodes.below stays_node hb hB, h.hold.below stays_int hb hB, h.m1, h.m2, h.m3⟩

section
variable {H : Type} {enc : TypeId × Value → H} {w : World} {base : Nat} {spare : Nat → Bool} {held : Bool}

theorem cellsDecl : Try.prog.cellsOf 61 = 3 := by kernel_rfl
theorem cellsNode : Try.prog.cellsOf 59 = 5 := by kernel_rfl

set_option maxRecDepth 100000 in
theorem opens_decl : Opens H enc w base spare held AtDecl 61 3 := fun fuel b o cs x hc hl h => by
  obtain ⟨ys, n, _, _, _, hyl, hf⟩ := DataW.trod_struct Try.underlying61 h
  match cs, hl with
  | [v0, v1, v2], _ =>
    match ys, hyl with
    | [y0, y1, y2], _ =>
      have f0 : DataW.trod enc Try.prog w base spare held n 9 (([v0, v1, v2].drop 0).take (Try.prog.cellsOf 9)) = some y0 := hf 0 _ rfl
      have f1 : DataW.trod enc Try.prog w base spare held n 22 (([v0, v1, v2].drop 1).take (Try.prog.cellsOf 22)) = some y1 := hf 1 _ rfl
      have f2 : DataW.trod enc Try.prog w base spare held n 3 (([v0, v1, v2].drop 2).take (Try.prog.cellsOf 3)) = some y2 := hf 2 _ rfl
      rw [cellsStr] at f0
      rw [cellsInts] at f1
      rw [cellsInt] at f2
      obtain ⟨a0, ha0⟩ := opens_str n b o [v0] y0 (one_cell (hc 0 (by omega))) rfl f0
      obtain ⟨a1, ha1⟩ := opens_ints n b (o + 1) [v1] y1 (one_cell (hc 1 (by omega))) rfl f1
      obtain ⟨a2, ha2⟩ := opens_int n b (o + 2) [v2] y2 (one_cell (hc 2 (by omega))) rfl f2
      exact ⟨⟨a0, a1, a2⟩, ha0, ha1, ha2⟩

set_option maxRecDepth 100000 in
theorem opens_node : Opens H enc w base spare held AtNode 59 5 := fun fuel b o cs x hc hl h => by
  obtain ⟨ys, n, _, _, _, hyl, hf⟩ := DataW.trod_struct Try.underlying59 h
  match cs, hl with
  | [v0, v1, v2, v3, v4], _ =>
    match ys, hyl with
    | [y0, y1, y2, y3, y4], _ =>
      have f0 : DataW.trod enc Try.prog w base spare held n 3 (([v0, v1, v2, v3, v4].drop 0).take (Try.prog.cellsOf 3)) = some y0 := hf 0 _ rfl
      have f1 : DataW.trod enc Try.prog w base spare held n 22 (([v0, v1, v2, v3, v4].drop 1).take (Try.prog.cellsOf 22)) = some y1 := hf 1 _ rfl
      have f2 : DataW.trod enc Try.prog w base spare held n 3 (([v0, v1, v2, v3, v4].drop 2).take (Try.prog.cellsOf 3)) = some y2 := hf 2 _ rfl
      have f3 : DataW.trod enc Try.prog w base spare held n 3 (([v0, v1, v2, v3, v4].drop 3).take (Try.prog.cellsOf 3)) = some y3 := hf 3 _ rfl
      have f4 : DataW.trod enc Try.prog w base spare held n 9 (([v0, v1, v2, v3, v4].drop 4).take (Try.prog.cellsOf 9)) = some y4 := hf 4 _ rfl
      rw [cellsInt] at f0
      rw [cellsInts] at f1
      rw [cellsInt] at f2
      rw [cellsInt] at f3
      rw [cellsStr] at f4
      obtain ⟨a0, ha0⟩ := opens_int n b o [v0] y0 (one_cell (hc 0 (by omega))) rfl f0
      obtain ⟨a1, ha1⟩ := opens_ints n b (o + 1) [v1] y1 (one_cell (hc 1 (by omega))) rfl f1
      obtain ⟨a2, ha2⟩ := opens_int n b (o + 2) [v2] y2 (one_cell (hc 2 (by omega))) rfl f2
      obtain ⟨a3, ha3⟩ := opens_int n b (o + 3) [v3] y3 (one_cell (hc 3 (by omega))) rfl f3
      obtain ⟨a4, ha4⟩ := opens_str n b (o + 4) [v4] y4 (one_cell (hc 4 (by omega))) rfl f4
      exact ⟨⟨a0, a1, a2, a3, a4⟩, ha0, ha1, ha2, ha3, ha4⟩

set_option maxRecDepth 100000 in
theorem open_ask {r : Reach} {b0 : Nat} {v : Value} {d : DataW H} {p : List MemPlace} (hv : Value.okWide Try.prog w r b0 26 v) (h : DataW.Trod enc Try.prog w base spare held 26 v d p) :
    ∃ (A1 A2 A3 : Option Addr) (n1 c1 n2 c2 n3 c3 : Nat) (a : AskD), v = .agg #[.slice A1 n1 c1, .slice A2 n2 c2, .slice A3 n3 c3] ∧ AskIn w w.heap.size A1 A2 A3 n1 n2 n3 a ∧ n1 ≤ c1 ∧ n2 ≤ c2 ∧ n3 ≤ c3 := by
  obtain ⟨v0, v1, v2, y0, y1, y2, n, rfl, _, _, h0, h1, h2⟩ := open_agg3 Try.underlying26 (by kernel_rfl) (by kernel_rfl) hv h
  obtain ⟨A1, n1, c1, xs1, rfl, a1, b1, e1⟩ := open_arr Try.underlying23 cellsDecl (by omega) opens_decl h0
  obtain ⟨A2, n2, c2, xs2, rfl, a2, b2, e2⟩ := open_arr Try.underlying24 cellsNode (by omega) opens_node h1
  obtain ⟨A3, n3, c3, xs3, rfl, a3, b3, e3⟩ := open_arr Try.underlying22 cellsInt (by omega) opens_int h2
  unfold maxLen at b1 b2 b3
  exact ⟨A1, A2, A3, n1, c1, n2, c2, n3, c3, ⟨xs1, xs2, xs3⟩, rfl, ⟨e1, e2, e3, by omega, by omega, by omega⟩, a1, a2, a3⟩
end
end Go.Proofs.Ythooecojopfjbaa
namespace Go.Proofs.Ythooecojopfjbaa
open Go.RowKit

/-- what the sorts of an ask's nodes come to: a list in new memory, and a fault -/
def SortsP (w : World) (r : List Int × Int × Int) (e : Ending) (w' : World) : Prop :=
  ∃ (A : Option Addr) (c : Nat), e = .returned (.tuple #[.slice A r.1.length c, .agg #[.int .i64 r.2.1, .int .i64 r.2.2]]) ∧ Below w.heap.size w w' ∧ r.1.length ≤ c ∧ c ≤ maxLen ∧ Arr AtInt 1 w' (fun b => w.heap.size ≤ b ∧ b < w'.heap.size) A r.1.length r.1
theorem sortsP_nil {w w' : World} (h : Below w.heap.size w w') (c a : Int) : SortsP w ([], c, a) (.returned (.tuple #[.slice none 0 0, .agg #[.int .i64 c, .int .i64 a]])) w' :=
  ⟨none, 0, rfl, h, Nat.le_refl _, Nat.zero_le _, Arr.nil_⟩
theorem Arr_get {w : World} {S : Nat → Prop} {A : Option Addr} {n : Nat} {xs : List Int} (h : Arr AtInt 1 w S A n xs) {i : Nat} (hi : i < n) :
    ∃ (b off : Nat) (hx : i < xs.length), A = some ⟨b, off, none⟩ ∧ S b ∧ w.cell? ⟨b, off + i, none⟩ = some (.int .i64 xs[i]) ∧ -9223372036854775808 ≤ xs[i] ∧ xs[i] ≤ 9223372036854775807 := by
  obtain ⟨b, off, hx, e, hb, hc, h1, h2⟩ := Arr.get h hi
  rw [Nat.mul_one] at hc
  exact ⟨b, off, hx, e, hb, hc, h1, h2⟩
theorem sortsP_of {w w' : World} {ss : List Int} {n c : Nat} {A : Option Addr} (hl : ss.length = n) (h : Below w.heap.size w w') (hc : n ≤ c) (hcm : c ≤ maxLen) (harr : Arr AtInt 1 w' (fun b => w.heap.size ≤ b ∧ b < w'.heap.size) A n ss) :
    SortsP w (ss, 0, 0) (.returned (.tuple #[.slice A n c, .agg #[.int .i64 0, .int .i64 0]])) w' := by
  subst hl
  exact ⟨A, c, rfl, h, hc, hcm, harr⟩
theorem sortB_i64 {s : Int} (h : sortB s = true) : I64 s := by
  simp only [sortB, decide_eq_true_eq] at h
  unfold I64; omega
theorem sortF_good {op d : Int} {ks ar : List Int} {ds s : Int} (h : sortF op d ks ar ds = s) (hs : ¬ s = 0) (hks : ∀ k ∈ ks, k = 0 ∨ sortB k = true) (hds : op = 9 → sortB ds = true) (hd : op = 15 → 1 ≤ d ∧ d ≤ 8) : sortB s = true := by
  have hw : ∀ a, wordB a = true → sortB a = true := fun a ha => by simp only [wordB, sortB, decide_eq_true_eq] at ha ⊢; omega
  have hlit : ∀ x : Int, (x = 1 ∨ x = 2 ∨ x = 3 ∨ x = 4 ∨ x = 5) → sortB x = true := fun x hx => by simp only [sortB, decide_eq_true_eq]; omega
  unfold sortF at h
  by_cases e1 : op = 1 ∨ op = 2
  · rw [if_pos e1] at h; exact hlit s (by omega)
  rw [if_neg e1] at h
  by_cases e2 : op = 3 ∨ op = 4 ∨ op = 5 ∨ op = 6
  · rw [if_pos e2] at h; split at h <;> first | exact hlit s (by omega) | exact absurd h.symm hs
  rw [if_neg e2] at h
  by_cases e3 : op = 7
  · rw [if_pos e3] at h
    match ks, hks, h with
    | [a, b, c], hks, h =>
      simp only [pickF] at h
      split at h
      · rcases hks b (by simp) with e | e
        · exact absurd (by rw [← h, e]) hs
        · rw [← h]; exact e
      · exact absurd h.symm hs
    | [], _, h => exact absurd h.symm hs
    | [_], _, h => exact absurd h.symm hs
    | [_, _], _, h => exact absurd h.symm hs
    | _ :: _ :: _ :: _ :: _, _, h => exact absurd h.symm hs
  rw [if_neg e3] at h
  by_cases e4 : op = 8
  · rw [if_pos e4] at h
    match ks, h with
    | [a, b], h =>
      simp only [sameF] at h
      split at h <;> first | exact hlit s (by omega) | exact absurd h.symm hs
    | [], h => exact absurd h.symm hs
    | [_], h => exact absurd h.symm hs
    | _ :: _ :: _ :: _, h => exact absurd h.symm hs
  rw [if_neg e4] at h
  by_cases e5 : op = 9
  · rw [if_pos e5] at h
    split at h
    · rw [← h]; exact hds e5
    · exact absurd h.symm hs
  rw [if_neg e5] at h
  by_cases e6 : op = 10
  · rw [if_pos e6] at h; split at h <;> exact hlit s (by omega)
  rw [if_neg e6] at h
  by_cases e7 : op = 11
  · rw [if_pos e7] at h; split at h
    · split at h <;> exact hlit s (by omega)
    · exact absurd h.symm hs
  rw [if_neg e7] at h
  by_cases e8 : op = 12
  · rw [if_pos e8] at h
    match ks, h with
    | [a], h =>
      simp only [timesF] at h
      split at h
      · split at h <;> exact hlit s (by omega)
      · exact absurd h.symm hs
    | [], h => exact absurd h.symm hs
    | _ :: _ :: _, h => exact absurd h.symm hs
  rw [if_neg e8] at h
  by_cases e9 : op = 13 ∨ op = 14
  · rw [if_pos e9] at h; split at h <;> first | exact hlit s (by omega) | exact absurd h.symm hs
  rw [if_neg e9] at h
  by_cases e10 : op = 15
  · rw [if_pos e10] at h
    have := hd e10
    simp only [sortB, decide_eq_true_eq]; omega
  rw [if_neg e10] at h
  by_cases e11 : op = 16 ∨ op = 23
  · rw [if_pos e11] at h
    match ks, h with
    | [a], h =>
      simp only [word1F] at h
      split at h
      · rename_i hwa; rw [← h]; exact hw a hwa
      · exact absurd h.symm hs
    | [], h => exact absurd h.symm hs
    | _ :: _ :: _, h => exact absurd h.symm hs
  rw [if_neg e11] at h
  by_cases e12 : op = 22
  · rw [if_pos e12] at h
    match ks, h with
    | [a, b], h =>
      simp only [wlessF] at h
      split at h <;> first | exact hlit s (by omega) | exact absurd h.symm hs
    | [], h => exact absurd h.symm hs
    | [_], h => exact absurd h.symm hs
    | _ :: _ :: _ :: _, h => exact absurd h.symm hs
  rw [if_neg e12] at h
  by_cases e13 : op = 24
  · rw [if_pos e13] at h; split at h <;> first | exact hlit s (by omega) | exact absurd h.symm hs
  rw [if_neg e13] at h
  by_cases e14 : op = 25
  · rw [if_pos e14] at h; split at h <;> first | exact hlit s (by omega) | exact absurd h.symm hs
  rw [if_neg e14] at h
  match ks, h with
  | [a, b], h =>
    simp only [word2F] at h
    split at h
    · rename_i hwa; rw [← h]; exact hw a hwa.2
    · exact absurd h.symm hs
  | [], h => exact absurd h.symm hs
  | [_], h => exact absurd h.symm hs
  | _ :: _ :: _ :: _, h => exact absurd h.symm hs
/-- a node without a fault has a sort that is one -/
theorem nodeF_good {ds : List DeclD} {i : Nat} {ss : List Int} {x : NodeD} {s : Int} (hd : DeclsOk ds) (hss : ∀ k ∈ ss, sortB k = true) (h : nodeF ds i ss x = (s, 0)) : sortB s = true := by
  unfold nodeF at h
  by_cases e1 : x.op < 1 ∨ 25 < x.op
  · rw [if_pos e1] at h; simp at h
  rw [if_neg e1] at h
  by_cases e2 : x.op = 9 ∧ idx (nameIs x.name) ds 0 < 0
  · rw [if_pos e2] at h; simp at h
  rw [if_neg e2] at h
  by_cases e3 : badCount ds x = true
  · rw [if_pos e3] at h; simp at h
  rw [if_neg e3] at h
  by_cases e4 : x.kids.any (outside i) = true
  · rw [if_pos e4] at h; simp at h
  rw [if_neg e4] at h
  by_cases e5 : fieldsF x.op x.n x.d x.name = 0
  · rw [if_neg (by simpa using e5)] at h
    by_cases e6 : sortN ds ss x = 0
    · rw [if_pos e6] at h; simp at h
    rw [if_neg e6] at h
    simp only [Prod.mk.injEq, and_true] at h
    refine sortF_good h (by rw [← h]; exact e6) (fun k hk => ?_) (fun h9 => ?_) (fun h15 => ?_)
    · simp only [kidSorts, List.mem_map] at hk
      obtain ⟨y, -, rfl⟩ := hk
      rw [List.getD_eq_getElem?_getD]
      cases hy : ss[y.toNat]? with
      | none => exact .inl rfl
      | some v => exact .inr (hss v (List.mem_of_getElem? hy))
    · have : 0 ≤ idx (nameIs x.name) ds 0 := by
        have := not_and.1 e2 h9
        omega
      obtain ⟨k, -, hg, -⟩ := declAt_mem this
      exact (hd.2 _ (List.mem_of_getElem? hg)).2.2.2.1
    · have hn : numbersB x.op x.n x.d = true := by
        unfold fieldsF at e5
        split at e5
        · simp at e5
        · split at e5
          · simp at e5
          · rename_i hh; simpa using hh
      rw [h15, numbersB, if_neg (by omega), if_pos rfl] at hn
      simp only [decide_eq_true_eq] at hn
      exact ⟨hn.1, hn.2.1⟩
  · rw [if_pos (by simpa using e5)] at h
    simp only [Prod.mk.injEq] at h
    exact absurd h.2 e5
theorem node_all (A1 A2 A3 : Option Addr) (n1 c1 n2 c2 n3 c3 : Nat) (ds : List DeclD) (nodes : List NodeD) (i : Nat) (hi : i < n2) (As : Option Addr) (cs : Nat) (ss : List Int) (s code : Int) (w : World) (hd : ArrB AtDecl 3 w w.heap.size A1 n1 ds)
    (hnd : ArrB AtNode 5 w w.heap.size A2 n2 nodes) (hss : IntsB w w.heap.size As i ss) (hm1 : n1 ≤ 9223372036854775807) (hm2 : n2 ≤ 9223372036854775807) (hR : ∀ x, nodes[i]? = some x → nodeF ds i ss x = (s, code)) :
    Calls Try.prog 34 #[.agg #[.slice A1 n1 c1, .slice A2 n2 c2, .slice A3 n3 c3], .int .i64 i, .slice As i cs] w fun e w' => e = .returned (.tuple #[.int .i64 s, .int .i64 code]) ∧ Below w.heap.size w w' := by
  have hl := hnd.len
  have hx : i < nodes.length := by omega
  have h1 := hR _ (List.getElem?_eq_getElem hx)
  by_cases hop : nodes[i].op < 1 ∨ 25 < nodes[i].op
  · rw [nodeF, if_pos hop] at h1
    simp only [Prod.mk.injEq] at h1
    obtain ⟨rfl, rfl⟩ := h1
    exact node_bad A1 A2 A3 n1 c1 n2 c2 n3 c3 nodes i hi As i cs w hnd (fun x hx' => by rw [List.getElem?_eq_getElem hx] at hx'; injection hx' with e; rw [← e]; exact hop)
  · exact node_any A1 A2 A3 n1 c1 n2 c2 n3 c3 ds nodes i hi As cs ss s code w hd hnd hss hm1 hm2 (fun x hx' => by
      rw [List.getElem?_eq_getElem hx] at hx'
      injection hx' with e
      rw [← e]
      exact ⟨by omega, by omega, h1⟩)
theorem sortsF_decl {a : AskD} {qc qa : Int} (h : declsF a.decls = (qc, qa)) (h0 : ¬ qc = 0) : sortsF a = ([], qc, qa) := by rw [sortsF, h, if_pos h0]
theorem sortsF_many {a : AskD} {qa : Int} (h : declsF a.decls = (0, qa)) (h2 : 200 < a.nodes.length) : sortsF a = ([], 2, 0) := by rw [sortsF, h, if_neg (by simp), if_pos h2]
theorem sortsF_node {a : AskD} {qa c i : Int} {l : List Int} (h : declsF a.decls = (0, qa)) (h2 : ¬ 200 < a.nodes.length) (h3 : nodesF a.decls a.nodes 0 [] = (l, c, i)) (h4 : ¬ c = 0) : sortsF a = (l, c, i) := by rw [sortsF, h, if_neg (by simp), if_neg h2, h3, if_pos h4]
theorem sortsF_rest {a : AskD} {qa : Int} {ss : List Int} (h : declsF a.decls = (0, qa)) (h2 : ¬ 200 < a.nodes.length) (h3 : nodesF a.decls a.nodes 0 [] = (ss, 0, 0)) : sortsF a = if ¬ (holdF ss a.hold).1 = 0 then ([], holdF ss a.hold) else (ss, 0, 0) := by
  rw [sortsF, h, if_neg (by simp), if_neg h2, h3, if_neg (by simp)]

set_option maxRecDepth 100000 in
set_option maxHeartbeats 16000000 in
theorem sorts_any (A1 A2 A3 : Option Addr) (n1 c1 n2 c2 n3 c3 : Nat) (a : AskD) (w : World) (ha : AskIn w w.heap.size A1 A2 A3 n1 n2 n3 a) (hc1 : n1 ≤ c1) :
    Calls Try.prog 12 #[.agg #[.slice A1 n1 c1, .slice A2 n2 c2, .slice A3 n3 c3]] w (SortsP w (sortsF a)) := by
  obtain ⟨hb0, hk0, hf0, hs0⟩ := two_boxes w 26 29 #[.slice A1 n1 c1, .slice A2 n2 c2, .slice A3 n3 c3] #[.int .i64 0, .int .i64 0]
  have hq : ∃ qc qa : Int, declsF a.decls = (qc, qa) := ⟨_, _, rfl⟩
  obtain ⟨qc, qa, hq⟩ := hq
  have hm1 := ha.m1
  have hm2 := ha.m2
  have hm3 := ha.m3
  have hl2 := ha.nodes.len
  have hl3 := ha.hold.len
  have HC := Lib.hid (checkDecls_any A1 n1 c1 a.decls qc qa _ (ha.decls.below stays_decl hb0 hb0.size) hc1 hq)
  have HA := Lib.hid ha
  have HQ := Lib.hid hq
  have HL := Lib.hid (And.intro hl2 hl3)
  have HX := Lib.hid (And.intro hb0 (And.intro hk0 (And.intro hf0 hs0)))
  clear ha hq hb0 hk0 hf0 hs0 hl2 hl3
  go_enter Try.func12, Try.ntmps12
  go_wp2_with fail
  refine HC.out.mono ?_
  rintro e w3 ⟨rfl, hb3⟩
  obtain ⟨hb0, hk0, hf0, hs0⟩ := HX.out
  have hbel : Below w.heap.size w w3 := hb0.trans (hb3.mono (by omega))
  have hk3 := hk0.below hb3 (by omega)
  have hf3 := hf0.below hb3 (by omega)
  have hz : w.heap.size + 1 < w3.heap.size := hf3.lt
  have c0 : w3.cell? ⟨w.heap.size + 1, 0, none⟩ = some (.int .i64 0) := hf3.cell 0
  have c1' : w3.cell? ⟨w.heap.size + 1, 1, none⟩ = some (.int .i64 0) := hf3.cell 1
  have z0 : w3.frozen? ⟨w.heap.size + 1, 0, none⟩ = false := hf3.frozen 0
  have z1 : w3.frozen? ⟨w.heap.size + 1, 1, none⟩ = false := hf3.frozen 1
  clear hb0 hk0 hf0 hs0 hb3 HX HC
  by_cases hqc : qc = 0
  · subst hqc
    have hb4 : Below w.heap.size w (w3.alloc (.cells #[.int .i64 0, .int .i64 qa] 29)) := hbel.alloc (by omega) _
    have hk4 := hk3.alloc (.cells #[.int .i64 0, .int .i64 qa] 29)
    have hf4 := hf3.alloc (.cells #[.int .i64 0, .int .i64 qa] 29)
    clear hbel hk3 hf3 c0 c1' z0 z1
    go_upto_region 2 with fail
    have hfx := Blk.new w3 29 #[.int .i64 0, .int .i64 qa]
    have hz4 : w3.heap.size < (w3.alloc (.cells #[.int .i64 0, .int .i64 qa] 29)).heap.size := by simp
    generalize w3.alloc (.cells #[.int .i64 0, .int .i64 qa] 29) = X at hb4 hk4 hf4 hfx hz4 ⊢
    have f0 : X.cell? ⟨w3.heap.size, 0, none⟩ = some (.int .i64 0) := hfx.cell 0
    have x0 : X.cell? ⟨w.heap.size, 0, none⟩ = some (.slice A1 n1 c1) := hk4.cell 0
    have x1 : X.cell? ⟨w.heap.size, 1, none⟩ = some (.slice A2 n2 c2) := hk4.cell 1
    have x2 : X.cell? ⟨w.heap.size, 2, none⟩ = some (.slice A3 n3 c3) := hk4.cell 2
    have g0 : X.cell? ⟨w.heap.size + 1, 0, none⟩ = some (.int .i64 0) := hf4.cell 0
    have g1 : X.cell? ⟨w.heap.size + 1, 1, none⟩ = some (.int .i64 0) := hf4.cell 1
    have y0 : X.frozen? ⟨w.heap.size + 1, 0, none⟩ = false := hf4.frozen 0
    have y1 : X.frozen? ⟨w.heap.size + 1, 1, none⟩ = false := hf4.frozen 1
    have hzX : w.heap.size + 1 < X.heap.size := hf4.lt
    clear hfx
    by_cases h200 : 200 < n2
    · have HS : Hid (sortsF a = ([], 2, 0)) := sortsF_many HQ.out (by rw [HL.out.1]; exact h200)
      have h2I : (n2 : Int) > 200 := by omega
      have HB := Lib.hid (And.intro hb4 hf4)
      clear hb4 hf4 hk4
      go_wp2_with fail
      have hz1 := two_blk HB.out.2 (.int .i64 2) (.int .i64 0)
      have hz2 : Below w.heap.size w (two X (w.heap.size + 1) (.int .i64 2) (.int .i64 0)) := two_below (g := w.heap.size + 1) HB.out.1 (Nat.le_succ _) (.int .i64 2) (.int .i64 0)
      have hz3 := two_only X (w.heap.size + 1) (.int .i64 2) (.int .i64 0)
      have e4 : (X.setCell ⟨w.heap.size + 1, 0, none⟩ (.int .i64 2)).setCell ⟨w.heap.size + 1, 1, none⟩ (.int .i64 0) = two X (w.heap.size + 1) (.int .i64 2) (.int .i64 0) := rfl
      rw [e4]
      clear e4
      generalize two X (w.heap.size + 1) (.int .i64 2) (.int .i64 0) = Z at hz1 hz2 hz3 ⊢
      have d0 := hz1.cell 0
      have d1 := hz1.cell 1
      simp only [List.getElem?_toArray, List.getElem?_cons_zero, List.getElem?_cons_succ] at d0 d1
      refine bodyPost_ret (v := .tuple #[.slice none 0 0, .agg #[.int .i64 2, .int .i64 0]]) (by simp [results, Try.results12, go_sem, d0, d1]) rfl ?_
      rw [HS.out]
      exact sortsP_nil hz2 _ _
    · have h2I : ¬ ((n2 : Int) > 200) := by omega
      have h200' : ¬ 200 < a.nodes.length := by rw [HL.out.1]; exact h200
      have H2 := Lib.hid h200'
      have hMK : ∀ W : World, Below X.heap.size X W → (Below w.heap.size w W ∧ Blk W w.heap.size 26 #[.slice A1 n1 c1, .slice A2 n2 c2, .slice A3 n3 c3] ∧ Blk W (w.heap.size + 1) 29 #[.int .i64 0, .int .i64 0] ∧ AskIn W w.heap.size A1 A2 A3 n1 n2 n3 a) := fun W hW =>
        have hbw : Below w.heap.size w W := hb4.trans (hW.mono (by omega))
        ⟨hbw, hk4.below hW (by omega), hf4.below hW (by omega), HA.out.below hbw (Nat.le_refl _)⟩
      have MK := Lib.hid hMK
      clear h200' hMK hb4 hk4 hf4
      go_wp2_with fail
      go_loopw [5, 26] (fun v5 s26 wr => ∃ (k : Nat) (ss : List Int), k ≤ n2 ∧ s26 = .int .i64 k ∧ ss.length = k ∧ Hid (∀ s ∈ ss, sortB s = true) ∧ OwnV VInt 3 1 wr X.heap.size (fun _ => False) v5 ss ∧ Below X.heap.size X wr ∧ Hid (nodesF a.decls (a.nodes.drop k) k ss = nodesF a.decls a.nodes 0 [])) (fun _ s26 _ => n2 - (intOf s26).toNat)
      case atStart => exact ⟨0, [], Nat.zero_le _, rfl, rfl, (fun s hs => by simp at hs), OwnV.none_ _ _ _ _ _ _, Below.refl _ _, rfl⟩
      case round =>
        obtain ⟨k, ss, hk, rfl, hsl, HGS, hown, hbel, HK⟩ := hrel
        obtain ⟨hbw, hkr, hfr, har⟩ := MK.out wr hbel
        have hbs : X.heap.size ≤ wr.heap.size := hbel.size
        by_cases hlt : k < n2
        · obtain ⟨A5, c5, he5, hc5, hc5m, hread⟩ := hown.reads (E := AtInt) tells_int (fun _ _ _ _ _ h => atV_int.1 h) (S' := fun b => b < wr.heap.size) (fun b hb => False.elim hb) (fun g hg => (hown.lt g hg).2)
          rw [hsl] at he5 hc5 hread
          subst he5
          have hx : k < a.nodes.length := by rw [HL.out.1]; exact hlt
          have e1 := HK.out
          rw [drop_cons hx, nodesF] at e1
          have hnx := List.getElem?_eq_getElem hx
          have hp : ∃ s code : Int, nodeF a.decls k ss a.nodes[k] = (s, code) := ⟨_, _, rfl⟩
          obtain ⟨s, code, hp⟩ := hp
          rw [hp] at e1
          have hN := node_all A1 A2 A3 n1 c1 n2 c2 n3 c3 a.decls a.nodes k hlt A5 c5 ss s code wr (har.decls.below stays_decl (Below.refl _ _) (by omega)) (har.nodes.below stays_node (Below.refl _ _) (by omega)) hread hm1 hm2 (fun x hx' => by
            rw [hnx] at hx'
            injection hx' with e
            rw [← e]
            exact hp)
          have HN := Lib.hid hN
          have hgd : code = 0 → sortB s = true := fun hc => nodeF_good (declsF_ok (by rw [HQ.out])) HGS.out (by rw [← hc]; exact hp)
          have HGD := Lib.hid hgd
          clear hgd
          have HO := Lib.hid (And.intro hown (And.intro hbel hsl))
          have b0 : wr.cell? ⟨w.heap.size, 0, none⟩ = some (.slice A1 n1 c1) := hkr.cell 0
          have b1 : wr.cell? ⟨w.heap.size, 1, none⟩ = some (.slice A2 n2 c2) := hkr.cell 1
          have b2 : wr.cell? ⟨w.heap.size, 2, none⟩ = some (.slice A3 n3 c3) := hkr.cell 2
          have hkI : (k : Int) < (n2 : Int) := by omega
          clear hp hN hnx hx hread hown hbel hsl har hkr hfr HK hbw f0 x0 x1 x2 g0 g1 y0 y1
          go_wp2_with fail
          refine HN.out.mono ?_
          rintro e w5 ⟨rfl, hb5⟩
          have hb5X : Below X.heap.size X w5 := HO.out.2.1.trans (hb5.mono hbs)
          have hz5 : X.heap.size ≤ w5.heap.size := hb5X.size
          by_cases hcode : code = 0
          · subst hcode
            rw [if_pos rfl] at e1
            have H1 := Lib.hid e1
            have hgr : wr.grownBy w5 none := only_of_below hb5 none
            have hown5 := HO.out.1.kept tells_int hgr (own_any _) (S' := fun _ => False) (fun _ hb => False.elim hb)
            have hown2 : OwnV VInt 3 1 (w5.alloc (.cells #[.int .i64 s] 3)) X.heap.size (fun _ => False) (.slice A5 k c5) ss := hown5.kept tells_int (grown_of w5 none _) (own_any _) (S' := fun _ => False) (fun _ hb => False.elim hb)
            have hbn := Blk.new w5 3 #[.int .i64 s]
            have H5 := Lib.hid (And.intro hown5 (And.intro hown2 (And.intro hbn hb5X)))
            have hgs : ∀ x ∈ ss ++ [s], sortB x = true := fun x hx => by
              rcases List.mem_append.1 hx with h | h
              · exact HGS.out x h
              · obtain rfl : x = s := by simpa using h
                exact HGD.out rfl
            have HGS2 := Lib.hid hgs
            have hsI : I64 s := sortB_i64 (HGD.out rfl)
            clear hgs
            have HSI := Lib.hid hsI
            clear e1 hgr hown5 hown2 hbn hb5X hb5 hsI b0 b1 b2
            go_wp2_with (at_builtin; refine wpList_append_item rfl _ _ _ rfl rowInts tells_int (v := .slice A5 k c5) (xs := ss) (base := X.heap.size) (S := fun _ => False) rfl H5.out.2.1 (g := w5.heap.size) (cs := #[.int .i64 s]) rfl H5.out.2.2.1 (y := s) ⟨rfl, HSI.out⟩ (fun b h => h.elim) (by rw [HO.out.2.2]; unfold maxLen; omega) (by rw [HO.out.2.2]; omega) (by simp; omega) ?_; intro v' w6 hown6 hgrow6 hat6; have HB6 := Lib.hid (And.intro hown6 hgrow6); clear hown6 hgrow6 hat6)
            go_roundw
            case rel =>
              refine ⟨k + 1, ss ++ [s], by omega, by go_num, by rw [List.length_append, HO.out.2.2]; rfl, HGS2, HB6.out.1, ?_, H1⟩
              exact below_then (H5.out.2.2.2.alloc hz5 _) HB6.out.2 (by simp; omega) (fun x hx => (H5.out.1.lt x hx).1)
            case measure => simp [intOf]; omega
          · have hcb : (code != 0) = true := by rw [bne_iff_ne]; exact hcode
            rw [if_neg hcode] at e1
            have HS := Lib.hid (sortsF_node HQ.out H2.out e1.symm hcode)
            obtain ⟨hbw, -, hfr, -⟩ := MK.out w5 hb5X
            have HB := Lib.hid (And.intro hbw hfr)
            have g0 : w5.cell? ⟨w.heap.size + 1, 0, none⟩ = some (.int .i64 0) := hfr.cell 0
            have g1 : w5.cell? ⟨w.heap.size + 1, 1, none⟩ = some (.int .i64 0) := hfr.cell 1
            have y0 : w5.frozen? ⟨w.heap.size + 1, 0, none⟩ = false := hfr.frozen 0
            have y1 : w5.frozen? ⟨w.heap.size + 1, 1, none⟩ = false := hfr.frozen 1
            clear e1 hcode hbw hfr hb5X hb5 b0 b1 b2
            go_wp2_with fail
            clear g0 g1 y0 y1
            have hz1 := two_blk HB.out.2 (.int .i64 code) (.int .i64 k)
            have hz2 : Below w.heap.size w (two w5 (w.heap.size + 1) (.int .i64 code) (.int .i64 k)) := two_below (g := w.heap.size + 1) HB.out.1 (Nat.le_succ _) (.int .i64 code) (.int .i64 k)
            have hz3 := two_only w5 (w.heap.size + 1) (.int .i64 code) (.int .i64 k)
            have e4 : (w5.setCell ⟨w.heap.size + 1, 0, none⟩ (.int .i64 code)).setCell ⟨w.heap.size + 1, 1, none⟩ (.int .i64 k) = two w5 (w.heap.size + 1) (.int .i64 code) (.int .i64 k) := rfl
            rw [e4]
            clear e4
            generalize two w5 (w.heap.size + 1) (.int .i64 code) (.int .i64 k) = Z at hz1 hz2 hz3 ⊢
            have d0 := hz1.cell 0
            have d1 := hz1.cell 1
            simp only [List.getElem?_toArray, List.getElem?_cons_zero, List.getElem?_cons_succ] at d0 d1
            refine bodyPost_ret (v := .tuple #[.slice none 0 0, .agg #[.int .i64 code, .int .i64 k]]) (by simp [results, Try.results12, go_sem, d0, d1]) rfl ?_
            rw [HS.out]
            exact sortsP_nil hz2 _ _
        · obtain rfl : n2 = k := by omega
          have e1 := HK.out
          rw [List.drop_of_length_le (by rw [HL.out.1]; omega), nodesF] at e1
          have HS := Lib.hid (sortsF_rest HQ.out H2.out e1.symm)
          obtain ⟨A5, c5, rfl, hc5, hc5m, hread⟩ := hown.reads (E := AtInt) tells_int (fun _ _ _ _ _ h => atV_int.1 h) (S' := fun b => X.heap.size ≤ b ∧ b < wr.heap.size) (fun b hb => False.elim hb) (fun g hg => hown.lt g hg)
          rw [hsl] at hc5 hread ⊢
          have HRD := Lib.hid (And.intro hread (And.intro hsl (And.intro hc5 hc5m)))
          clear e1 HK hown hread hsl f0 x0 x1 x2 g0 g1 y0 y1 hc5m
          have b2 : wr.cell? ⟨w.heap.size, 2, none⟩ = some (.slice A3 n3 c3) := hkr.cell 2
          have g0 : wr.cell? ⟨w.heap.size + 1, 0, none⟩ = some (.int .i64 0) := hfr.cell 0
          have g1 : wr.cell? ⟨w.heap.size + 1, 1, none⟩ = some (.int .i64 0) := hfr.cell 1
          have y0 : wr.frozen? ⟨w.heap.size + 1, 0, none⟩ = false := hfr.frozen 0
          have y1 : wr.frozen? ⟨w.heap.size + 1, 1, none⟩ = false := hfr.frozen 1
          have HHD := Lib.hid har.hold
          have HB := Lib.hid (And.intro hbw hfr)
          have hzr : w.heap.size + 1 < wr.heap.size := hfr.lt
          clear har hkr hfr hbw hbel
          by_cases h3 : 200 < n3
          · have h3I : (n3 : Int) > 200 := by omega
            have hhf : holdF ss a.hold = (2, 0) := by rw [holdF, if_pos (by rw [HL.out.2]; exact h3)]
            have HS2 : Hid (sortsF a = ([], 2, 0)) := by show _ = _; rw [HS.out, hhf]; rfl
            clear hhf
            go_wp2_with fail
            clear g0 g1 y0 y1
            have hz1 := two_blk HB.out.2 (.int .i64 2) (.int .i64 0)
            have hz2 : Below w.heap.size w (two wr (w.heap.size + 1) (.int .i64 2) (.int .i64 0)) := two_below (g := w.heap.size + 1) HB.out.1 (Nat.le_succ _) (.int .i64 2) (.int .i64 0)
            have hz3 := two_only wr (w.heap.size + 1) (.int .i64 2) (.int .i64 0)
            have e4 : (wr.setCell ⟨w.heap.size + 1, 0, none⟩ (.int .i64 2)).setCell ⟨w.heap.size + 1, 1, none⟩ (.int .i64 0) = two wr (w.heap.size + 1) (.int .i64 2) (.int .i64 0) := rfl
            rw [e4]
            clear e4
            generalize two wr (w.heap.size + 1) (.int .i64 2) (.int .i64 0) = Z at hz1 hz2 hz3 ⊢
            have d0 := hz1.cell 0
            have d1 := hz1.cell 1
            simp only [List.getElem?_toArray, List.getElem?_cons_zero, List.getElem?_cons_succ] at d0 d1
            refine bodyPost_ret (v := .tuple #[.slice none 0 0, .agg #[.int .i64 2, .int .i64 0]]) (by simp [results, Try.results12, go_sem, d0, d1]) rfl ?_
            rw [HS2.out]
            exact sortsP_nil hz2 _ _
          · have h3I : ¬ ((n3 : Int) > 200) := by omega
            have hhf : holdF ss a.hold = firstBad (holdCode ss) a.hold 0 := by rw [holdF, if_neg (by rw [HL.out.2]; exact h3)]
            have hfb : ∃ hc ha : Int, firstBad (holdCode ss) a.hold 0 = (hc, ha) := ⟨_, _, rfl⟩
            obtain ⟨hc, ha', hfb⟩ := hfb
            have HFB := Lib.hid hfb
            have hsr := HS.out
            rw [hhf, hfb] at hsr
            have HSR := Lib.hid hsr
            clear hhf hfb hsr HS
            go_wp2_with fail
            go_loop [54] (fun s54 => ∃ j : Nat, j ≤ n3 ∧ s54 = .int .i64 j ∧ Hid (firstBad (holdCode ss) (a.hold.drop j) j = (hc, ha'))) (fun s54 => n3 - (intOf s54).toNat)
            case atStart => exact ⟨0, Nat.zero_le _, rfl, HFB⟩
            case round =>
              obtain ⟨j, hj, rfl, HK⟩ := hrel
              by_cases hjn : j < n3
              · obtain ⟨b3, off3, hx3, rfl, hb3, hc3, -, -⟩ := ints_get HHD.out hjn
                have e1 := HK.out
                rw [drop_cons hx3, firstBad] at e1
                generalize a.hold[j] = y at e1 hc3
                have hjI : (j : Int) < (n3 : Int) := by omega
                have hcode : ((y < 0 ∨ (0 ≤ y ∧ (n2 : Int) ≤ y)) ∧ holdCode ss y j = 3) ∨ ((0 ≤ y ∧ y < (n2 : Int)) ∧ holdCode ss y j = if ss.getD y.toNat 0 = 1 then 0 else 8) := by
                  rw [holdCode, HRD.out.2.1]
                  by_cases h : y < 0 ∨ (n2 : Int) ≤ y
                  · exact .inl ⟨by omega, if_pos h⟩
                  · exact .inr ⟨by omega, if_neg h⟩
                clear HK hx3 hb3
                rcases hcode with ⟨hy, hcd⟩ | ⟨⟨hy0, hy1⟩, hcd⟩
                · rw [hcd, if_neg (by omega)] at e1
                  simp only [Prod.mk.injEq] at e1
                  obtain ⟨rfl, rfl⟩ := e1
                  have HS2 : Hid (sortsF a = ([], 3, (j : Int))) := by show _ = _; rw [HSR.out]; rfl
                  clear hcd
                  rcases hy with hy | ⟨hy, hy2⟩
                  all_goals
                    go_wp2_with fail
                    clear g0 g1 y0 y1
                    have hz1 := two_blk HB.out.2 (.int .i64 3) (.int .i64 j)
                    have hz2 : Below w.heap.size w (two wr (w.heap.size + 1) (.int .i64 3) (.int .i64 j)) := two_below (g := w.heap.size + 1) HB.out.1 (Nat.le_succ _) (.int .i64 3) (.int .i64 j)
                    have hz3 := two_only wr (w.heap.size + 1) (.int .i64 3) (.int .i64 j)
                    have e4 : (wr.setCell ⟨w.heap.size + 1, 0, none⟩ (.int .i64 3)).setCell ⟨w.heap.size + 1, 1, none⟩ (.int .i64 j) = two wr (w.heap.size + 1) (.int .i64 3) (.int .i64 j) := rfl
                    rw [e4]
                    clear e4
                    generalize two wr (w.heap.size + 1) (.int .i64 3) (.int .i64 j) = Z at hz1 hz2 hz3 ⊢
                    have d0 := hz1.cell 0
                    have d1 := hz1.cell 1
                    simp only [List.getElem?_toArray, List.getElem?_cons_zero, List.getElem?_cons_succ] at d0 d1
                    refine bodyPost_ret (v := .tuple #[.slice none 0 0, .agg #[.int .i64 3, .int .i64 j]]) (by simp [results, Try.results12, go_sem, d0, d1]) rfl ?_
                    rw [HS2.out]
                    exact sortsP_nil hz2 _ _
                · have hyn : y.toNat < n2 := by omega
                  obtain ⟨b4, off4, hx4, rfl, hb4, hc4, -, -⟩ := Arr_get HRD.out.1 hyn
                  have hgd : ss.getD y.toNat 0 = ss[y.toNat] := by rw [List.getD_eq_getElem?_getD, List.getElem?_eq_getElem hx4]; rfl
                  rw [hgd] at hcd
                  generalize ss[y.toNat] = v at hc4 hcd
                  clear hgd hx4
                  by_cases hv : v = 1
                  · rw [hcd, if_pos hv, if_pos rfl] at e1
                    have H1 := Lib.hid e1
                    have hvb : (v != 1) = false := by rw [bne_eq_false_iff_eq]; exact hv
                    clear e1 hcd hv
                    go_wp2_with fail
                    go_round
                    case rel => exact ⟨j + 1, by omega, by go_num, by show _ = _; rw [Int.natCast_add]; exact H1.out⟩
                    case measure => simp [intOf]; omega
                  · rw [hcd, if_neg hv, if_neg (by omega)] at e1
                    simp only [Prod.mk.injEq] at e1
                    obtain ⟨rfl, rfl⟩ := e1
                    have HS2 : Hid (sortsF a = ([], 8, (j : Int))) := by show _ = _; rw [HSR.out]; rfl
                    have hvb : (v != 1) = true := by rw [bne_iff_ne]; exact hv
                    clear hcd hv
                    go_wp2_with fail
                    clear g0 g1 y0 y1
                    have hz1 := two_blk HB.out.2 (.int .i64 8) (.int .i64 j)
                    have hz2 : Below w.heap.size w (two wr (w.heap.size + 1) (.int .i64 8) (.int .i64 j)) := two_below (g := w.heap.size + 1) HB.out.1 (Nat.le_succ _) (.int .i64 8) (.int .i64 j)
                    have hz3 := two_only wr (w.heap.size + 1) (.int .i64 8) (.int .i64 j)
                    have e4 : (wr.setCell ⟨w.heap.size + 1, 0, none⟩ (.int .i64 8)).setCell ⟨w.heap.size + 1, 1, none⟩ (.int .i64 j) = two wr (w.heap.size + 1) (.int .i64 8) (.int .i64 j) := rfl
                    rw [e4]
                    clear e4
                    generalize two wr (w.heap.size + 1) (.int .i64 8) (.int .i64 j) = Z at hz1 hz2 hz3 ⊢
                    have d0 := hz1.cell 0
                    have d1 := hz1.cell 1
                    simp only [List.getElem?_toArray, List.getElem?_cons_zero, List.getElem?_cons_succ] at d0 d1
                    refine bodyPost_ret (v := .tuple #[.slice none 0 0, .agg #[.int .i64 8, .int .i64 j]]) (by simp [results, Try.results12, go_sem, d0, d1]) rfl ?_
                    rw [HS2.out]
                    exact sortsP_nil hz2 _ _
              · obtain rfl : n3 = j := by omega
                have e1 := HK.out
                rw [List.drop_of_length_le (by rw [HL.out.2]; omega), firstBad] at e1
                simp only [Prod.mk.injEq] at e1
                obtain ⟨rfl, rfl⟩ := e1
                have HS2 : Hid (sortsF a = (ss, 0, 0)) := by show _ = _; rw [HSR.out]; rfl
                clear HK
                go_wp2_with fail
                clear g0 g1 y0 y1
                have hz1 := two_blk HB.out.2 (.int .i64 0) (.int .i64 0)
                have hz2 : Below w.heap.size w (two wr (w.heap.size + 1) (.int .i64 0) (.int .i64 0)) := two_below (g := w.heap.size + 1) HB.out.1 (Nat.le_succ _) (.int .i64 0) (.int .i64 0)
                have hz3 := two_only wr (w.heap.size + 1) (.int .i64 0) (.int .i64 0)
                have e4 : (wr.setCell ⟨w.heap.size + 1, 0, none⟩ (.int .i64 0)).setCell ⟨w.heap.size + 1, 1, none⟩ (.int .i64 0) = two wr (w.heap.size + 1) (.int .i64 0) (.int .i64 0) := rfl
                rw [e4]
                clear e4
                generalize two wr (w.heap.size + 1) (.int .i64 0) (.int .i64 0) = Z at hz1 hz2 hz3 ⊢
                have d0 := hz1.cell 0
                have d1 := hz1.cell 1
                simp only [List.getElem?_toArray, List.getElem?_cons_zero, List.getElem?_cons_succ] at d0 d1
                refine bodyPost_ret (v := .tuple #[.slice A5 n2 c5, .agg #[.int .i64 0, .int .i64 0]]) (by simp [results, Try.results12, go_sem, d0, d1]) rfl ?_
                rw [HS2.out]
                exact sortsP_of HRD.out.2.1 hz2 HRD.out.2.2.1 HRD.out.2.2.2 (HRD.out.1.keep stays_int (fun b hb => ⟨by omega, by have := hz3.size; omega⟩) (fun b o hb => only_cell hz3 hb.2 (fun e => by injection e; omega)))
  · have hqb : (qc != 0) = true := by rw [bne_iff_ne]; exact hqc
    have HS := Lib.hid (sortsF_decl HQ.out hqc)
    have HB := Lib.hid (And.intro hbel hf3)
    clear hqc hbel hk3 hf3
    go_wp2_with fail
    go_region
    go_wp2_with fail
    refine bodyPost_ret (v := .tuple #[.slice none 0 0, .agg #[.int .i64 qc, .int .i64 qa]]) (by simp [results, Try.results12, go_sem, c0, c1', hz]) rfl ?_
    rw [HS.out]
    exact sortsP_nil ((((HB.out.1.setCell (p := ⟨w.heap.size + 1, 0, none⟩) (Nat.le_succ _) _).setCell (p := ⟨w.heap.size + 1, 1, none⟩) (Nat.le_succ _) _).alloc (by simp; omega) _).drew) _ _
end Go.Proofs.Ythooecojopfjbaa
namespace Go.Proofs.Ythooecojopfjbaa
open Go.RowKit

set_option maxRecDepth 100000 in
set_option maxHeartbeats 4000000 in
theorem check_any (A1 A2 A3 : Option Addr) (n1 c1 n2 c2 n3 c3 : Nat) (a : AskD) (qc qa : Int) (w : World) (ha : AskIn w w.heap.size A1 A2 A3 n1 n2 n3 a) (hc1 : n1 ≤ c1) (hq : (sortsF a).2 = (qc, qa)) :
    Calls Try.prog 29 #[.agg #[.slice A1 n1 c1, .slice A2 n2 c2, .slice A3 n3 c3]] w fun e w' => e = .returned (.agg #[.int .i64 qc, .int .i64 qa]) ∧ Below w.heap.size w w' := by
  obtain ⟨hb0, hk0, hf0, hs0⟩ := two_boxes w 26 29 #[.slice A1 n1 c1, .slice A2 n2 c2, .slice A3 n3 c3] #[.int .i64 0, .int .i64 0]
  have HC := Lib.hid (sorts_any A1 A2 A3 n1 c1 n2 c2 n3 c3 a _ (ha.below hb0 hb0.size) hc1)
  have HQ := Lib.hid hq
  have HX := Lib.hid (And.intro hb0 (And.intro hf0 hs0))
  clear ha hq hb0 hk0 hf0 hs0
  go_enter Try.func29, Try.ntmps29
  go_wp2_with fail
  refine HC.out.mono ?_
  rintro e w3 ⟨A, c, rfl, hb3, -⟩
  rw [HQ.out]
  dsimp only
  generalize (sortsF a).1.length = ln
  obtain ⟨hb0, hf0, hs0⟩ := HX.out
  have hbel : Below w.heap.size w w3 := hb0.trans (hb3.mono (by omega))
  have hf3 := hf0.below hb3 (by omega)
  have hz : w.heap.size + 1 < w3.heap.size := hf3.lt
  have g0 : w3.cell? ⟨w.heap.size + 1, 0, none⟩ = some (.int .i64 0) := hf3.cell 0
  have g1 : w3.cell? ⟨w.heap.size + 1, 1, none⟩ = some (.int .i64 0) := hf3.cell 1
  have y0 : w3.frozen? ⟨w.heap.size + 1, 0, none⟩ = false := hf3.frozen 0
  have y1 : w3.frozen? ⟨w.heap.size + 1, 1, none⟩ = false := hf3.frozen 1
  have HB := Lib.hid (And.intro hbel hf3)
  clear hb0 hf0 hs0 hbel hf3 hb3 HC HX
  go_wp2_with fail
  clear g0 g1 y0 y1
  have hz1 := (two_blk HB.out.2 (.int .i64 qc) (.int .i64 qa)).alloc (.cells #[.int .i64 qc, .int .i64 qa] 29)
  have hz2 : Below w.heap.size w ((two w3 (w.heap.size + 1) (.int .i64 qc) (.int .i64 qa)).alloc (.cells #[.int .i64 qc, .int .i64 qa] 29)) := (two_below (g := w.heap.size + 1) HB.out.1 (Nat.le_succ _) (.int .i64 qc) (.int .i64 qa)).alloc (by have := (two_below (g := w.heap.size + 1) HB.out.1 (Nat.le_succ _) (.int .i64 qc) (.int .i64 qa)).size; exact this) _
  have e4 : ((w3.setCell ⟨w.heap.size + 1, 0, none⟩ (.int .i64 qc)).setCell ⟨w.heap.size + 1, 1, none⟩ (.int .i64 qa)).alloc (.cells #[.int .i64 qc, .int .i64 qa] 29) = (two w3 (w.heap.size + 1) (.int .i64 qc) (.int .i64 qa)).alloc (.cells #[.int .i64 qc, .int .i64 qa] 29) := rfl
  rw [e4]
  clear e4
  generalize (two w3 (w.heap.size + 1) (.int .i64 qc) (.int .i64 qa)).alloc (.cells #[.int .i64 qc, .int .i64 qa] 29) = Z at hz1 hz2 ⊢
  have d0 := hz1.cell 0
  have d1 := hz1.cell 1
  simp only [List.getElem?_toArray, List.getElem?_cons_zero, List.getElem?_cons_succ] at d0 d1
  exact bodyPost_ret (v := .agg #[.int .i64 qc, .int .i64 qa]) (by simp [results, Try.results29, go_sem, d0, d1]) rfl ⟨rfl, hz2⟩
end Go.Proofs.Ythooecojopfjbaa
