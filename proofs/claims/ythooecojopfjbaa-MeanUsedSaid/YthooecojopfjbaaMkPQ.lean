/- Plain: nodes that are made one behind the other, none with a fault. No program is named here. · Plain: the nodes that the maker grows have no fault. No program is named here. -/
import Derived.Test.YthooecojopfjbaaAskLM
import Derived.Test.YthooecojopfjbaaKitAB
namespace Go.Proofs.Ythooecojopfjbaa
open Go.RowKit

/-- the nodes ns have the sorts ss, and no fault -/
def Mk (ns : List NodeD) (ss : List Int) : Prop := nodesF declsK ns 0 [] = (ss, 0, 0)

theorem nodesF_app (ds : List DeclD) : ∀ (ns ms : List NodeD) (i : Nat) (ss : List Int), (nodesF ds ns i ss).2.1 = 0 → nodesF ds (ns ++ ms) i ss = nodesF ds ms (i + ns.length) (nodesF ds ns i ss).1
  | [], _, _, _, _ => rfl
  | x :: r, ms, i, ss, h => by
    rw [nodesF] at h
    by_cases h0 : (nodeF ds i ss x).2 = 0
    · rw [if_pos h0] at h
      have := nodesF_app ds r ms (i + 1) _ h
      rw [List.cons_append, nodesF, if_pos h0, this, nodesF, if_pos h0, List.length_cons]
      congr 1; omega
    · rw [if_neg h0] at h; exact absurd h h0
theorem nodesF_len (ds : List DeclD) : ∀ (ns : List NodeD) (i : Nat) (ss : List Int), (nodesF ds ns i ss).2.1 = 0 → (nodesF ds ns i ss).2.2 = 0 ∧ ∃ tt, (nodesF ds ns i ss).1 = ss ++ tt ∧ tt.length = ns.length
  | [], _, ss, _ => ⟨rfl, [], by simp [nodesF], rfl⟩
  | x :: r, i, ss, h => by
    rw [nodesF] at h ⊢
    by_cases h0 : (nodeF ds i ss x).2 = 0
    · rw [if_pos h0] at h ⊢
      obtain ⟨h1, tt, h2, h3⟩ := nodesF_len ds r (i + 1) _ h
      exact ⟨h1, (nodeF ds i ss x).1 :: tt, by rw [h2]; simp, by simp [h3]⟩
    · rw [if_neg h0] at h; exact absurd h h0
theorem Mk.nil : Mk [] [] := rfl
theorem Mk.len {ns : List NodeD} {ss : List Int} (h : Mk ns ss) : ss.length = ns.length := by
  obtain ⟨-, tt, h2, h3⟩ := nodesF_len declsK ns 0 [] (by rw [h])
  rw [h] at h2
  simp only [List.nil_append] at h2
  rw [h2, h3]
theorem Mk.put {ns : List NodeD} {ss : List Int} {x : NodeD} {s : Int} (h : Mk ns ss) (hx : nodeF declsK ns.length ss x = (s, 0)) : Mk (ns ++ [x]) (ss ++ [s]) := by
  unfold Mk
  rw [nodesF_app declsK ns [x] 0 [] (by rw [h]), h]
  simp only [Nat.zero_add]
  rw [nodesF, hx, if_pos rfl]
  rfl
theorem nodesF_part (ds : List DeclD) : ∀ (ns ms : List NodeD) (i : Nat) (ss : List Int), (nodesF ds (ns ++ ms) i ss).2.1 = 0 → (nodesF ds ns i ss).2.1 = 0
  | [], _, _, _, _ => rfl
  | x :: r, ms, i, ss, h => by
    rw [List.cons_append, nodesF] at h
    rw [nodesF]
    by_cases h0 : (nodeF ds i ss x).2 = 0
    · rw [if_pos h0] at h ⊢
      exact nodesF_part ds r ms _ _ h
    · rw [if_neg h0] at h; exact absurd h h0
/-- a beginning of nodes without a fault is one -/
theorem Mk.take {ns : List NodeD} {ss : List Int} (h : Mk ns ss) (k : Nat) (hk : k ≤ ns.length) : Mk (ns.take k) (ss.take k) := by
  have h0 : (nodesF declsK (ns.take k ++ ns.drop k) 0 []).2.1 = 0 := by rw [List.take_append_drop, h]
  have h1 := nodesF_part declsK (ns.take k) (ns.drop k) 0 [] h0
  obtain ⟨h2, tt, h3, h4⟩ := nodesF_len declsK (ns.take k) 0 [] h1
  have h5 := nodesF_app declsK (ns.take k) (ns.drop k) 0 [] h1
  rw [List.take_append_drop, h] at h5
  obtain ⟨-, uu, h6, -⟩ := nodesF_len declsK (ns.drop k) (0 + (ns.take k).length) (nodesF declsK (ns.take k) 0 []).1 (by rw [← h5])
  rw [← h5, h3] at h6
  simp only [List.nil_append] at h6 h3
  have h7 : tt.length = k := by rw [h4, List.length_take]; omega
  have h8 : ss.take k = tt := by rw [h6, ← h7]; simp
  unfold Mk
  rw [h8]
  exact Prod.ext h3 (Prod.ext h1 h2)

theorem nodeF_ok {ds : List DeclD} {i : Nat} {ss : List Int} {x : NodeD} {s : Int} (h1 : 1 ≤ x.op ∧ x.op ≤ 25) (h9 : x.op = 9 → 0 ≤ idx (nameIs x.name) ds 0) (hc : badCount ds x = false) (hk : ∀ k ∈ x.kids, 0 ≤ k ∧ k < (i : Int))
    (hf : fieldsF x.op x.n x.d x.name = 0) (hs : sortN ds ss x = s) (h0 : s ≠ 0) : nodeF ds i ss x = (s, 0) := by
  rw [nodeF, if_neg (by omega), if_neg (by rintro ⟨e, h⟩; have := h9 e; omega), if_neg (by rw [hc]; simp), if_neg, if_neg (by rw [hf]; simp), hs, if_neg h0]
  rw [List.any_eq_true]
  rintro ⟨k, hm, ho⟩
  have := hk k hm
  simp only [outside, decide_eq_true_eq] at ho
  omega

/-- at these places of the sorts ss stand the sorts sl -/
def Has (ss : List Int) (l : List Nat) (sl : List Int) : Prop := l.map (fun k => ss[k]?) = sl.map some
def kidsZ (l : List Nat) : List Int := l.map fun (k : Nat) => (k : Int)
theorem Has.sorts {ss : List Int} : ∀ {l : List Nat} {sl : List Int}, Has ss l sl → (kidsZ l).map (fun k => ss.getD k.toNat 0) = sl ∧ l.length = sl.length ∧ ∀ k ∈ kidsZ l, 0 ≤ k ∧ k < (ss.length : Int)
  | [], [], _ => ⟨rfl, rfl, fun k hk => by simp [kidsZ] at hk⟩
  | [], _ :: _, h => by simp [Has] at h
  | _ :: _, [], h => by simp [Has] at h
  | k :: l, s :: sl, h => by
    simp only [Has, List.map_cons, List.cons.injEq] at h
    obtain ⟨h1, h2, h3⟩ := Has.sorts (ss := ss) (l := l) (sl := sl) h.2
    have hk : k < ss.length := (List.getElem?_eq_some_iff.1 h.1).1
    refine ⟨?_, by simp [h2], fun j hj => ?_⟩
    · simp only [kidsZ, List.map_cons, List.cons.injEq, Int.toNat_natCast]
      exact ⟨by rw [List.getD_eq_getElem?_getD, h.1]; rfl, h1⟩
    · simp only [kidsZ, List.map_cons, List.mem_cons] at hj
      rcases hj with rfl | hj
      · omega
      · exact h3 j hj
theorem Has.more {ss tt : List Int} {l : List Nat} {sl : List Int} (h : Has ss l sl) (ht : ss <+: tt) : Has tt l sl := by
  obtain ⟨uu, rfl⟩ := ht
  unfold Has at *
  rw [← h]
  apply List.map_congr_left
  intro k hk
  have h1 : ss[k]? ∈ sl.map some := by rw [← h]; exact List.mem_map.2 ⟨k, hk, rfl⟩
  obtain ⟨s, -, hs⟩ := List.mem_map.1 h1
  rw [← hs, List.getElem?_append_left (List.getElem?_eq_some_iff.1 hs.symm).1, ← hs]
theorem Has.one {ss : List Int} {k : Nat} {s : Int} (h : ss[k]? = some s) : Has ss [k] [s] := by simp [Has, h]
theorem Has.app {ss : List Int} {l m : List Nat} {sl sm : List Int} (h : Has ss l sl) (k : Has ss m sm) : Has ss (l ++ m) (sl ++ sm) := by
  unfold Has at *
  rw [List.map_append, List.map_append, h, k]
theorem Has.cons {ss : List Int} {k : Nat} {s : Int} {l : List Nat} {sl : List Int} (h : ss[k]? = some s) (hl : Has ss l sl) : Has ss (k :: l) (s :: sl) := by
  unfold Has at *
  rw [List.map_cons, List.map_cons, h, hl]

/-- a node of an operator that is no name -/
theorem node_op {ss : List Int} {i : Nat} {op n d s : Int} {l : List Nat} {sl : List Int} (hh : Has ss l sl) (hi : ss.length = i) (h1 : 1 ≤ op ∧ op ≤ 25) (h9 : op ≠ 9) (hw : kidsF op = -1 ∨ kidsF op = (l.length : Int)) (h8 : l.length ≤ 8)
    (hf : fieldsF op n d .empty = 0) (hs : ∀ args ds, sortF op d sl args ds = s) (h0 : s ≠ 0) : nodeF declsK i ss ⟨op, kidsZ l, n, d, .empty⟩ = (s, 0) := by
  obtain ⟨e1, e2, e3⟩ := hh.sorts
  have hl : (kidsZ l).length = l.length := by simp [kidsZ]
  refine nodeF_ok h1 (fun e => absurd e h9) ?_ (fun k hk => by have := e3 k hk; omega) hf ?_ h0
  · have hwi : wantI declsK ⟨op, kidsZ l, n, d, .empty⟩ = kidsF op := by rw [wantI, if_neg h9]
    rw [badCount, hwi, decide_eq_false_iff_not]
    simp only [hl]
    rcases hw with hw | hw <;> rw [hw] <;> omega
  · rw [sortN, kidSorts, e1]; exact hs _ _
/-- a node of a name -/
theorem node_named {ss : List Int} {i : Nat} {nm : ByteArray} {D : DeclD} {l : List Nat} (h0 : 0 ≤ idx (nameIs nm) declsK 0) (hD : declAt declsK nm = D) (hh : Has ss l D.args) (hi : ss.length = i) (h8 : l.length ≤ 8) (hs : D.sort ≠ 0) :
    nodeF declsK i ss ⟨9, kidsZ l, 0, 0, nm⟩ = (D.sort, 0) := by
  obtain ⟨e1, e2, e3⟩ := hh.sorts
  have hl : (kidsZ l).length = l.length := by simp [kidsZ]
  refine nodeF_ok ⟨by show (1 : Int) ≤ 9; omega, by show (9 : Int) ≤ 25; omega⟩ (fun _ => h0) ?_ (fun k hk => by have := e3 k hk; omega) ?_ ?_ hs
  · have hwi : wantI declsK ⟨9, kidsZ l, 0, 0, nm⟩ = (D.args.length : Int) := by rw [wantI, if_pos rfl]; show ((declAt declsK nm).args.length : Int) = _; rw [hD]
    rw [badCount, hwi, decide_eq_false_iff_not]
    simp only [hl]
    omega
  · simp [fieldsF, formedB, numbersB]
  · rw [sortN, kidSorts, e1]
    show sortF 9 0 D.args (declAt declsK nm).args (declAt declsK nm).sort = _
    rw [hD]
    simp [sortF]
theorem name_leaf {ss : List Int} {i : Nat} {c : UInt8} {D : DeclD} (h0 : 0 ≤ idx (nameIs (nameC c)) declsK 0) (hD : declAt declsK (nameC c) = D) (ha : D.args = []) (hi : ss.length = i) (hs : D.sort ≠ 0) :
    nodeF declsK i ss ⟨9, [], 0, 0, nameC c⟩ = (D.sort, 0) := node_named (l := []) h0 hD (by rw [ha]; rfl) hi (by simp) hs

section
variable {ss : List Int} {i : Nat}
theorem leaf_p (hi : ss.length = i) : nodeF declsK i ss ⟨9, [], 0, 0, nameC 112⟩ = (1, 0) := name_leaf (c := 112) (D := ⟨nameC 112, [], 1⟩) (by decide +kernel) (by kernel_rfl) rfl hi (by decide)
theorem leaf_q (hi : ss.length = i) : nodeF declsK i ss ⟨9, [], 0, 0, nameC 113⟩ = (1, 0) := name_leaf (c := 113) (D := ⟨nameC 113, [], 1⟩) (by decide +kernel) (by kernel_rfl) rfl hi (by decide)
theorem leaf_x (hi : ss.length = i) : nodeF declsK i ss ⟨9, [], 0, 0, nameC 120⟩ = (2, 0) := name_leaf (c := 120) (D := ⟨nameC 120, [], 2⟩) (by decide +kernel) (by kernel_rfl) rfl hi (by decide)
theorem leaf_y (hi : ss.length = i) : nodeF declsK i ss ⟨9, [], 0, 0, nameC 121⟩ = (2, 0) := name_leaf (c := 121) (D := ⟨nameC 121, [], 2⟩) (by decide +kernel) (by kernel_rfl) rfl hi (by decide)
theorem leaf_r (hi : ss.length = i) : nodeF declsK i ss ⟨9, [], 0, 0, nameC 114⟩ = (3, 0) := name_leaf (c := 114) (D := ⟨nameC 114, [], 3⟩) (by decide +kernel) (by kernel_rfl) rfl hi (by decide)
theorem leaf_a (hi : ss.length = i) : nodeF declsK i ss ⟨9, [], 0, 0, nameC 97⟩ = (4, 0) := name_leaf (c := 97) (D := ⟨nameC 97, [], 4⟩) (by decide +kernel) (by kernel_rfl) rfl hi (by decide)
theorem leaf_b (hi : ss.length = i) : nodeF declsK i ss ⟨9, [], 0, 0, nameC 98⟩ = (4, 0) := name_leaf (c := 98) (D := ⟨nameC 98, [], 4⟩) (by decide +kernel) (by kernel_rfl) rfl hi (by decide)
theorem leaf_c (hi : ss.length = i) : nodeF declsK i ss ⟨9, [], 0, 0, nameC 99⟩ = (4, 0) := name_leaf (c := 99) (D := ⟨nameC 99, [], 4⟩) (by decide +kernel) (by kernel_rfl) rfl hi (by decide)
theorem leaf_m (hi : ss.length = i) : nodeF declsK i ss ⟨9, [], 0, 0, nameC 109⟩ = (5, 0) := name_leaf (c := 109) (D := ⟨nameC 109, [], 5⟩) (by decide +kernel) (by kernel_rfl) rfl hi (by decide)
theorem leaf_v (hi : ss.length = i) : nodeF declsK i ss ⟨9, [], 0, 0, nameC 118⟩ = (13, 0) := name_leaf (c := 118) (D := ⟨nameC 118, [], 13⟩) (by decide +kernel) (by kernel_rfl) rfl hi (by decide)
theorem leaf_w (hi : ss.length = i) : nodeF declsK i ss ⟨9, [], 0, 0, nameC 119⟩ = (13, 0) := name_leaf (c := 119) (D := ⟨nameC 119, [], 13⟩) (by decide +kernel) (by kernel_rfl) rfl hi (by decide)
theorem node_f {k : Nat} (hi : ss.length = i) (h : ss[k]? = some 4) : nodeF declsK i ss ⟨9, [(k : Int)], 0, 0, nameC 102⟩ = (4, 0) := node_named (nm := nameC 102) (l := [k]) (D := ⟨nameC 102, [4], 4⟩) (by decide +kernel) (by kernel_rfl) (Has.one h) hi (by simp) (by decide)
theorem node_h {k : Nat} (hi : ss.length = i) (h : ss[k]? = some 4) : nodeF declsK i ss ⟨9, [(k : Int)], 0, 0, nameC 104⟩ = (2, 0) := node_named (nm := nameC 104) (l := [k]) (D := ⟨nameC 104, [4], 2⟩) (by decide +kernel) (by kernel_rfl) (Has.one h) hi (by simp) (by decide)
theorem node_g {k j : Nat} (hi : ss.length = i) (h : ss[k]? = some 4) (h' : ss[j]? = some 4) : nodeF declsK i ss ⟨9, [(k : Int), (j : Int)], 0, 0, nameC 103⟩ = (1, 0) := node_named (nm := nameC 103) (l := [k, j]) (D := ⟨nameC 103, [4, 4], 1⟩) (by decide +kernel) (by kernel_rfl) (Has.cons h (Has.one h')) hi (by simp) (by decide)
theorem leaf_bool {op : Int} (hi : ss.length = i) (h : op = 1 ∨ op = 2) : nodeF declsK i ss ⟨op, [], 0, 0, .empty⟩ = (1, 0) :=
  node_op (l := []) (sl := []) rfl hi (by omega) (by omega) (.inr (by rcases h with rfl | rfl <;> rfl)) (by simp) (by rcases h with rfl | rfl <;> decide +kernel) (fun _ _ => by rcases h with rfl | rfl <;> simp [sortF]) (by decide)
theorem fields_num {op n d : Int} (ho : op = 10 ∨ op = 12) (hn : -1000000 ≤ n ∧ n ≤ 1000000) (hd : 1 ≤ d ∧ d ≤ 1000000) (hg : Int.gcd n d = 1) : fieldsF op n d .empty = 0 := by
  have h1 : formedB op n d .empty = true := by rcases ho with rfl | rfl <;> simp [formedB, fracOp]
  have h2 : numbersB op n d = true := by rcases ho with rfl | rfl <;> simp [numbersB] <;> omega
  simp [fieldsF, h1, h2]
theorem leaf_num {n d s : Int} (hi : ss.length = i) (hn : -1000000 ≤ n ∧ n ≤ 1000000) (hd : 1 ≤ d ∧ d ≤ 1000000) (hg : Int.gcd n d = 1) (hs : s = if d = 1 then 2 else 3) : nodeF declsK i ss ⟨10, [], n, d, .empty⟩ = (s, 0) :=
  node_op (l := []) (sl := []) rfl hi ⟨by decide, by decide⟩ (by decide) (.inr rfl) (by simp) (fields_num (.inl rfl) hn hd hg) (fun _ _ => by rw [hs]; simp [sortF]) (by rw [hs]; split <;> decide)
theorem leaf_word {n : Int} (hi : ss.length = i) (hn : 0 ≤ n ∧ n < 8) : nodeF declsK i ss ⟨15, [], n, 3, .empty⟩ = (13, 0) := by
  have h2 : numbersB 15 n 3 = true := by simp [numbersB]; exact ⟨hn.1, by show n < 2 ^ 3; omega⟩
  exact node_op (l := []) (sl := []) rfl hi ⟨by decide, by decide⟩ (by decide) (.inr rfl) (by simp) (by simp [fieldsF, formedB, fracOp, h2]) (fun _ _ => by simp [sortF]) (by decide)
end
end Go.Proofs.Ythooecojopfjbaa
namespace Go.Proofs.Ythooecojopfjbaa
open Go.RowKit

section
variable {ss : List Int} {i : Nat} {l : List Nat}
theorem mk_not {k : Nat} (hi : ss.length = i) (h : Has ss [k] [1]) : nodeF declsK i ss ⟨3, kidsZ [k], 0, 0, .empty⟩ = (1, 0) :=
  node_op h hi ⟨by decide, by decide⟩ (by decide) (.inr rfl) (by simp) (by decide +kernel) (fun _ _ => by simp [sortF, allB, isBoolS]) (by decide)
theorem allB_same {p : Int → Bool} {s : Int} (h : p s = true) : ∀ n, allB p (List.replicate n s) = true
  | 0 => rfl
  | n + 1 => by rw [List.replicate_succ, allB_cons, h, allB_same h n]; rfl
theorem mk_junction {op : Int} {n : Nat} (hi : ss.length = i) (h : Has ss l (List.replicate n 1)) (hn : n ≤ 8) (ho : op = 4 ∨ op = 5) : nodeF declsK i ss ⟨op, kidsZ l, 0, 0, .empty⟩ = (1, 0) := by
  have hl : l.length = n := by rw [h.sorts.2.1]; simp
  refine node_op h hi (by omega) (by omega) (.inl (by rcases ho with rfl | rfl <;> rfl)) (by omega) (by rcases ho with rfl | rfl <;> decide +kernel) (fun _ _ => ?_) (by decide)
  have h1 := allB_same (p := isBoolS) (s := 1) rfl n
  rcases ho with rfl | rfl <;> simp [sortF, h1]
theorem mk_iff {x y : Nat} (hi : ss.length = i) (h : Has ss [x, y] [1, 1]) : nodeF declsK i ss ⟨6, kidsZ [x, y], 0, 0, .empty⟩ = (1, 0) :=
  node_op h hi ⟨by decide, by decide⟩ (by decide) (.inr rfl) (by simp) (by decide +kernel) (fun _ _ => by simp [sortF, allB, isBoolS]) (by decide)
theorem mk_pick {x y z : Nat} {s : Int} (hi : ss.length = i) (h : Has ss [x, y, z] [1, s, s]) (hs : s = 1 ∨ s = 2 ∨ s = 3 ∨ s = 4) : nodeF declsK i ss ⟨7, kidsZ [x, y, z], 0, 0, .empty⟩ = (s, 0) :=
  node_op h hi ⟨by decide, by decide⟩ (by decide) (.inr rfl) (by simp) (by decide +kernel) (fun _ _ => by rcases hs with rfl | rfl | rfl | rfl <;> simp [sortF, pickF]) (by omega)
theorem mk_sameN {x y : Nat} {s t : Int} (hi : ss.length = i) (h : Has ss [x, y] [s, t]) (hs : s = 2 ∨ s = 3) (ht : t = 2 ∨ t = 3) : nodeF declsK i ss ⟨8, kidsZ [x, y], 0, 0, .empty⟩ = (1, 0) :=
  node_op h hi ⟨by decide, by decide⟩ (by decide) (.inr rfl) (by simp) (by decide +kernel) (fun _ _ => by rcases hs with rfl | rfl <;> rcases ht with rfl | rfl <;> rfl) (by decide)
theorem mk_same4 {x y : Nat} (hi : ss.length = i) (h : Has ss [x, y] [4, 4]) : nodeF declsK i ss ⟨8, kidsZ [x, y], 0, 0, .empty⟩ = (1, 0) :=
  node_op h hi ⟨by decide, by decide⟩ (by decide) (.inr rfl) (by simp) (by decide +kernel) (fun _ _ => by rfl) (by decide)
theorem mk_same13 {x y : Nat} (hi : ss.length = i) (h : Has ss [x, y] [13, 13]) : nodeF declsK i ss ⟨8, kidsZ [x, y], 0, 0, .empty⟩ = (1, 0) :=
  node_op h hi ⟨by decide, by decide⟩ (by decide) (.inr rfl) (by simp) (by decide +kernel) (fun _ _ => by rfl) (by decide)
/-- the sort of a sum -/
def sumS (sl : List Int) : Int := if allB isIntS sl then 2 else 3
theorem mk_add {sl : List Int} (hi : ss.length = i) (h : Has ss l sl) (hn : sl.length ≤ 8) (hs : ∀ s ∈ sl, s = 2 ∨ s = 3) : nodeF declsK i ss ⟨11, kidsZ l, 0, 0, .empty⟩ = (sumS sl, 0) := by
  have hl : l.length = sl.length := h.sorts.2.1
  refine node_op h hi ⟨by decide, by decide⟩ (by decide) (.inl rfl) (by omega) (by decide +kernel) (fun _ _ => ?_) (by unfold sumS; split <;> decide)
  have h1 : allB numS sl = true := by
    unfold allB
    rw [Bool.not_eq_true', List.any_eq_false]
    intro s hm
    rcases hs s hm with rfl | rfl <;> decide
  simp [sortF, h1, sumS]
theorem mk_times {x : Nat} {s n d r : Int} (hi : ss.length = i) (h : Has ss [x] [s]) (hs : s = 2 ∨ s = 3) (hn : -1000000 ≤ n ∧ n ≤ 1000000) (hd : 1 ≤ d ∧ d ≤ 1000000) (hg : Int.gcd n d = 1) (hr : r = if s = 2 ∧ d = 1 then 2 else 3) :
    nodeF declsK i ss ⟨12, kidsZ [x], n, d, .empty⟩ = (r, 0) :=
  node_op h hi ⟨by decide, by decide⟩ (by decide) (.inr rfl) (by simp) (fields_num (.inr rfl) hn hd hg) (fun _ _ => by
    rw [hr]
    have h1 : numS s = true := by rcases hs with rfl | rfl <;> rfl
    simp [sortF, timesF, h1]) (by rw [hr]; split <;> decide)
theorem mk_less {op : Int} {x y : Nat} {s t : Int} (hi : ss.length = i) (h : Has ss [x, y] [s, t]) (hs : s = 2 ∨ s = 3) (ht : t = 2 ∨ t = 3) (ho : op = 13 ∨ op = 14) : nodeF declsK i ss ⟨op, kidsZ [x, y], 0, 0, .empty⟩ = (1, 0) := by
  rcases ho with rfl | rfl
  · exact node_op h hi ⟨by decide, by decide⟩ (by decide) (.inr rfl) (by simp) (by decide +kernel) (fun _ _ => by rcases hs with rfl | rfl <;> rcases ht with rfl | rfl <;> rfl) (by decide)
  · exact node_op h hi ⟨by decide, by decide⟩ (by decide) (.inr rfl) (by simp) (by decide +kernel) (fun _ _ => by rcases hs with rfl | rfl <;> rcases ht with rfl | rfl <;> rfl) (by decide)
theorem mk_wleft {x : Nat} {n : Int} (hi : ss.length = i) (h : Has ss [x] [13]) (hn : n = 0 ∨ n = 1 ∨ n = 2 ∨ n = 3) : nodeF declsK i ss ⟨23, kidsZ [x], n, 0, .empty⟩ = (13, 0) :=
  node_op h hi ⟨by decide, by decide⟩ (by decide) (.inr rfl) (by simp) (by rcases hn with rfl | rfl | rfl | rfl <;> decide +kernel) (fun _ _ => by rfl) (by decide)
theorem mk_wnot {x : Nat} (hi : ss.length = i) (h : Has ss [x] [13]) : nodeF declsK i ss ⟨16, kidsZ [x], 0, 0, .empty⟩ = (13, 0) :=
  node_op h hi ⟨by decide, by decide⟩ (by decide) (.inr rfl) (by simp) (by decide +kernel) (fun _ _ => by rfl) (by decide)
theorem mk_word2 {op : Int} {x y : Nat} (hi : ss.length = i) (h : Has ss [x, y] [13, 13]) (ho : op = 17 ∨ op = 18 ∨ op = 19 ∨ op = 20 ∨ op = 21) : nodeF declsK i ss ⟨op, kidsZ [x, y], 0, 0, .empty⟩ = (13, 0) := by
  rcases ho with rfl | rfl | rfl | rfl | rfl <;>
    exact node_op h hi ⟨by decide, by decide⟩ (by decide) (.inr rfl) (by simp) (by decide +kernel) (fun _ _ => by rfl) (by decide)
theorem mk_wless {x y : Nat} (hi : ss.length = i) (h : Has ss [x, y] [13, 13]) : nodeF declsK i ss ⟨22, kidsZ [x, y], 0, 0, .empty⟩ = (1, 0) :=
  node_op h hi ⟨by decide, by decide⟩ (by decide) (.inr rfl) (by simp) (by decide +kernel) (fun _ _ => by rfl) (by decide)
theorem mk_get {x y : Nat} (hi : ss.length = i) (h : Has ss [x, y] [5, 4]) : nodeF declsK i ss ⟨24, kidsZ [x, y], 0, 0, .empty⟩ = (4, 0) :=
  node_op h hi ⟨by decide, by decide⟩ (by decide) (.inr rfl) (by simp) (by decide +kernel) (fun _ _ => by rfl) (by decide)
theorem mk_put {x y z : Nat} (hi : ss.length = i) (h : Has ss [x, y, z] [5, 4, 4]) : nodeF declsK i ss ⟨25, kidsZ [x, y, z], 0, 0, .empty⟩ = (5, 0) :=
  node_op h hi ⟨by decide, by decide⟩ (by decide) (.inr rfl) (by simp) (by decide +kernel) (fun _ _ => by rfl) (by decide)
end
end Go.Proofs.Ythooecojopfjbaa
