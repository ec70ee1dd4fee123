/- Plain: the sorts of an ask's nodes, its first fault. No program is named here. -/
import Derived.Test.YtggkfepifnfdoaaAskL
namespace Go.Proofs.Ytggkfepifnfdoaa
open Go.RowKit

def declAt (ds : List DeclD) (nm : ByteArray) : DeclD := ds.getD (idx (nameIs nm) ds 0).toNat ⟨⟨#[]⟩, [], 0⟩
def outside (i : Int) (k : Int) : Bool := decide (k < 0 ∨ i ≤ k)
def wantI (ds : List DeclD) (x : NodeD) : Int := if x.op = 9 then (declAt ds x.name).args.length else kidsF x.op
def badCount (ds : List DeclD) (x : NodeD) : Bool := decide ((0 ≤ wantI ds x ∧ ¬ (x.kids.length : Int) = wantI ds x) ∨ 8 < x.kids.length)
def kidSorts (ss : List Int) (x : NodeD) : List Int := x.kids.map fun k => ss.getD k.toNat 0
def sortN (ds : List DeclD) (ss : List Int) (x : NodeD) : Int := sortF x.op x.d (kidSorts ss x) (declAt ds x.name).args (declAt ds x.name).sort
/-- the sort of a node, and its fault -/
def nodeF (ds : List DeclD) (i : Nat) (ss : List Int) (x : NodeD) : Int × Int :=
  if x.op < 1 ∨ 25 < x.op then (0, 4) else if x.op = 9 ∧ idx (nameIs x.name) ds 0 < 0 then (0, 6) else if badCount ds x = true then (0, 9)
  else if x.kids.any (outside i) = true then (0, 3) else if ¬ fieldsF x.op x.n x.d x.name = 0 then (0, fieldsF x.op x.n x.d x.name)
  else if sortN ds ss x = 0 then (0, 8) else (sortN ds ss x, 0)
def nodesF (ds : List DeclD) : List NodeD → Nat → List Int → List Int × Int × Int
  | [], _, ss => (ss, 0, 0)
  | x :: r, i, ss => if (nodeF ds i ss x).2 = 0 then nodesF ds r (i + 1) (ss ++ [(nodeF ds i ss x).1]) else ([], (nodeF ds i ss x).2, i)
def holdCode (ss : List Int) (k _i : Int) : Int := if k < 0 ∨ (ss.length : Int) ≤ k then 3 else if ss.getD k.toNat 0 = 1 then 0 else 8
def holdF (ss : List Int) (l : List Int) : Int × Int := if 200 < l.length then (2, 0) else firstBad (holdCode ss) l 0
def sortsF (a : AskD) : List Int × Int × Int :=
  if ¬ (declsF a.decls).1 = 0 then ([], declsF a.decls) else if 200 < a.nodes.length then ([], 2, 0)
  else if ¬ (nodesF a.decls a.nodes 0 []).2.1 = 0 then nodesF a.decls a.nodes 0 []
  else if ¬ (holdF (nodesF a.decls a.nodes 0 []).1 a.hold).1 = 0 then ([], holdF (nodesF a.decls a.nodes 0 []).1 a.hold) else ((nodesF a.decls a.nodes 0 []).1, 0, 0)

theorem firstBad_zero {α : Type} {f : α → Int → Int} : ∀ {l : List α} {i a : Int}, firstBad f l i = (0, a) → a = 0 ∧ ∀ (j : Nat) x, l[j]? = some x → f x (i + j) = 0
  | [], i, a, h => by simp [firstBad] at h; exact ⟨h.symm, fun j x hx => by simp at hx⟩
  | y :: r, i, a, h => by
    rw [firstBad] at h
    by_cases h0 : f y i = 0
    · rw [if_pos h0] at h
      obtain ⟨ha, hr⟩ := firstBad_zero h
      refine ⟨ha, fun j x hx => ?_⟩
      rcases j with _ | j
      · simp only [List.getElem?_cons_zero, Option.some.injEq] at hx
        subst hx
        simpa using h0
      · have := hr j x (by simpa using hx)
        rw [show i + ((j + 1 : Nat) : Int) = i + 1 + (j : Int) from by omega]
        exact this
    · rw [if_neg h0] at h
      simp only [Prod.mk.injEq] at h
      exact absurd h.1 h0

/-- what is known of declarations that have no fault -/
def DeclsOk (ds : List DeclD) : Prop := ds.length ≤ 30 ∧ ∀ x ∈ ds, nameB x.name = true ∧ x.args.length ≤ 8 ∧ (∀ s ∈ x.args, s = 4) ∧ sortB x.sort = true ∧ (x.sort = 5 → x.args = [])
theorem declsF_ok {ds : List DeclD} (h : (declsF ds).1 = 0) : DeclsOk ds := by
  unfold declsF at h
  by_cases h30 : 30 < ds.length
  · rw [if_pos h30] at h; simp at h
  · rw [if_neg h30] at h
    obtain ⟨-, hr⟩ := firstBad_zero (f := declCode ds) (l := ds) (i := 0) (a := (firstBad (declCode ds) ds 0).2) (Prod.ext h rfl)
    refine ⟨by omega, fun x hx => ?_⟩
    obtain ⟨j, hj, hjx⟩ := List.getElem_of_mem hx
    have hc := hr j x (by rw [List.getElem?_eq_getElem hj, hjx])
    rw [Int.zero_add, declCode] at hc
    by_cases q1 : nameB x.name = false
    · rw [if_pos q1] at hc; simp at hc
    rw [if_neg q1] at hc
    by_cases q2 : (ds.take (j : Int).toNat).any (nameIs x.name) = true
    · rw [if_pos q2] at hc; simp at hc
    rw [if_neg q2] at hc
    by_cases q3 : 8 < x.args.length
    · rw [if_pos q3] at hc; simp at hc
    rw [if_neg q3] at hc
    by_cases q4 : sortB x.sort = false ∨ x.args.any notThing = true ∨ (x.sort = 5 ∧ 0 < x.args.length)
    · rw [if_pos q4] at hc; simp at hc
    simp only [not_or, not_and, Bool.not_eq_true, Bool.not_eq_false] at q1 q4
    obtain ⟨q5, q6, q7⟩ := q4
    refine ⟨q1, by omega, fun s hs => ?_, q5, fun e => ?_⟩
    · have := List.any_eq_false.1 q6 s hs
      simpa [notThing] using this
    · have := q7 e
      exact List.eq_nil_of_length_eq_zero (by omega)
theorem idx_get {α : Type} {p : α → Bool} : ∀ {l : List α} {i : Int}, 0 ≤ i → 0 ≤ idx p l i → ∃ k : Nat, ∃ x : α, idx p l i = i + k ∧ l[k]? = some x ∧ p x = true
  | [], i, _, h => by simp [idx] at h
  | y :: r, i, hi, h => by
    rw [idx] at h ⊢
    cases hy : p y with
    | true => exact ⟨0, y, by simp, rfl, hy⟩
    | false =>
      simp only [hy, Bool.false_eq_true, if_false] at h ⊢
      obtain ⟨k, x, e, hx, hp⟩ := idx_get (by omega) h
      exact ⟨k + 1, x, by omega, by simpa using hx, hp⟩
theorem idx_neg {α : Type} {p : α → Bool} : ∀ {l : List α} {i : Int}, 0 ≤ i → idx p l i < 0 → idx p l i = -1
  | [], i, _, _ => rfl
  | y :: r, i, hi, h => by
    rw [idx] at h ⊢
    cases hy : p y with
    | true => simp [hy] at h; omega
    | false =>
      simp only [hy, Bool.false_eq_true, if_false] at h ⊢
      exact idx_neg (by omega) h
theorem declAt_mem {ds : List DeclD} {nm : ByteArray} (h : 0 ≤ idx (nameIs nm) ds 0) : ∃ k : Nat, idx (nameIs nm) ds 0 = k ∧ ds[k]? = some (declAt ds nm) ∧ nameIs nm (declAt ds nm) = true := by
  obtain ⟨k, x, e, hx, hp⟩ := idx_get (by omega) h
  rw [Int.zero_add] at e
  have : declAt ds nm = x := by rw [declAt, e, Int.toNat_natCast, List.getD_eq_getElem?_getD, hx]; rfl
  exact ⟨k, e, by rw [this]; exact hx, by rw [this]; exact hp⟩

/-- the reference's sort of a node is the program's -/
theorem sortN_eq {ds : List DeclD} {ss : List Int} {x : NodeD} (hd : DeclsOk ds) (h1 : 1 ≤ x.op) (h2 : x.op ≤ 25) (h9 : x.op = 9 → 0 ≤ idx (nameIs x.name) ds 0) (hc : badCount ds x = false) (hf : fieldsF x.op x.n x.d x.name = 0) :
    sortOfF x.op x.d (kidSorts ss x) (declAt ds x.name).sort = sortN ds ss x := by
  simp only [badCount, decide_eq_false_iff_not, not_or, not_and, Classical.not_not] at hc
  have hlen : (kidSorts ss x).length = x.kids.length := by simp [kidSorts]
  by_cases e9 : x.op = 9
  · obtain ⟨k, hk, hx, -⟩ := declAt_mem (h9 e9)
    obtain ⟨-, -, h4, -⟩ := hd.2 _ (List.mem_of_getElem? hx)
    have hw : wantI ds x = (declAt ds x.name).args.length := by rw [wantI, if_pos e9]
    have hcl := hc.1 (by omega)
    rw [hw] at hcl
    have hl2 : (kidSorts ss x).length = (declAt ds x.name).args.length := by omega
    rw [sortN, e9, sortOfF, if_pos rfl]
    have hs : sortF 9 x.d (kidSorts ss x) (declAt ds x.name).args (declAt ds x.name).sort = if kidSorts ss x = (declAt ds x.name).args then (declAt ds x.name).sort else 0 := by
      rw [sortF, if_neg (by omega), if_neg (by omega), if_neg (by omega), if_neg (by omega), if_pos rfl]
    rw [hs]
    generalize (declAt ds x.name).args = args at h4 hl2
    have hq : (kidSorts ss x = args) ↔ ¬ ((kidSorts ss x).any notThing = true) := by
      constructor
      · intro e
        rw [e]
        simp only [List.any_eq_true, not_exists, not_and]
        intro s hs
        rw [h4 s hs]; simp [notThing]
      · intro hn
        simp only [List.any_eq_true, not_exists, not_and] at hn
        refine List.ext_getElem hl2 (fun i h1 h2 => ?_)
        rw [h4 _ (List.getElem_mem h2)]
        have := hn _ (List.getElem_mem h1)
        simpa [notThing] using this
    by_cases he : kidSorts ss x = args
    · rw [if_neg (hq.1 he), if_pos he]
    · rw [if_pos (by
        cases hb : (kidSorts ss x).any notThing with
        | true => rfl
        | false => exact absurd (hq.2 (by rw [hb]; simp)) he), if_neg he]
  · have hw : wantI ds x = kidsF x.op := by rw [wantI, if_neg e9]
    rw [hw] at hc
    have hform : formedB x.op x.n x.d x.name = true := by
      cases h : formedB x.op x.n x.d x.name with
      | true => rfl
      | false => rw [fieldsF, if_pos h] at hf; simp at hf
    have hnum : numbersB x.op x.n x.d = true := by
      cases h : numbersB x.op x.n x.d with
      | true => rfl
      | false => rw [fieldsF, if_neg (by rw [hform]; simp), if_pos h] at hf; simp at hf
    refine sortOf_eq h1 h2 e9 ?_ hform hnum _ _
    by_cases hk : kidsF x.op = -1
    · exact .inl hk
    · refine .inr ?_
      rw [hlen]
      refine hc.1 ?_
      unfold kidsF at hk ⊢
      repeat' split at hk
      all_goals first | omega | (simp_all; try omega)
end Go.Proofs.Ytggkfepifnfdoaa
