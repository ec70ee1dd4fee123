/- Plain: commands on frames: what each does, what is left. No program is named here. · Plain: what a form without a fault is like; what commands keep. No program is named here. · Plain: clauses and forms that are made of raw numbers. No program is named here. -/
import Derived.Test.YtfkciiiopbanaaaForm
import Derived.Test.YtfkciiiopbanaaaRow2
namespace Go.Proofs.Ytfkciiiopbanaaa
open Go.RowKit

abbrev Cl := List (List Int)
/-- the clauses held: the frames below (the newest first), the last frame -/
def clOf (r : List Cl) (last : Cl) : Cl := r.reverse.flatten ++ last
/-- how many clauses were held when each frame was pushed -/
def frR : List Cl → List Int
  | [] => []
  | x :: r => frR r ++ [((x :: r).reverse.flatten.length : Int)]
theorem frR_len : ∀ r : List Cl, (frR r).length = r.length
  | [] => rfl
  | x :: r => by simp [frR, frR_len r]
theorem frR_push (r : List Cl) (last : Cl) : frR (last :: r) = frR r ++ [((clOf r last).length : Int)] := by
  simp [frR, clOf]
theorem clOf_push (r : List Cl) (last : Cl) : clOf (last :: r) [] = clOf r last := by simp [clOf]
theorem clOf_hold (r : List Cl) (last : Cl) (c : List Int) : clOf r (last ++ [c]) = clOf r last ++ [c] := by simp [clOf]
theorem clOf_pop (x : Cl) (r : List Cl) (last : Cl) : (clOf (x :: r) last).take (clOf r x).length = clOf r x := by
  simp only [clOf, List.reverse_cons, List.flatten_append, List.flatten_cons, List.flatten_nil, List.append_nil]
  rw [List.take_append_of_le_length (Nat.le_refl _), List.take_length]
theorem frR_last (x : Cl) (r : List Cl) : frR (x :: r) = frR r ++ [((clOf r x).length : Int)] := frR_push r x

def stepF (F : FormD) (d : TermD) (r : List Cl) (last : Cl) : Int × List Cl × Cl :=
  if d.head < 1 ∨ 4 < d.head then (4, r, last)
  else if 0 < d.kids.length ∧ ¬ d.head = 3 then (5, r, last)
  else if d.head = 1 then (if r.length = 20 then (2, r, last) else (0, last :: r, []))
  else if d.head = 2 then (match r with
    | [] => (11, r, last)
    | x :: r' => (0, r', x))
  else if d.head = 3 then ((cnfF F.atoms.length (F.clauses ++ clOf r (last ++ [d.kids]))).1, r, last ++ [d.kids])
  else (0, r, last)

def playF (F : FormD) : List TermD → Int → List Cl → Cl → (Int × Int) × List Cl × Cl
  | [], _, r, last => ((0, 0), r, last)
  | d :: l, i, r, last =>
    if (stepF F d r last).1 = 0 then playF F l (i + 1) (stepF F d r last).2.1 (stepF F d r last).2.2 else (((stepF F d r last).1, i), (stepF F d r last).2.1, (stepF F d r last).2.2)

def leftF (F : FormD) (l : List TermD) : (Int × Int) × Cl :=
  if ¬ (formF F).1 = 0 then (formF F, []) else if 40 < l.length then ((2, -1), [])
  else ((playF F l 0 [] []).1, F.clauses ++ clOf (playF F l 0 [] []).2.1 (playF F l 0 [] []).2.2)

theorem formF_cl {F : FormD} (h : (formF F).1 = 0) (cs : Cl) : formF ⟨F.terms, F.ints, F.atoms, cs⟩ = cnfF F.atoms.length cs := by
  obtain ⟨ts, is_, as_, cc⟩ := F
  simp only [formF] at h ⊢
  have e : atomsF ⟨ts, is_, as_, cs⟩ = atomsF ⟨ts, is_, as_, cc⟩ := rfl
  rw [e]
  by_cases h1 : (termsF ts).1 = 0
  · rw [if_pos h1] at h ⊢
    by_cases h2 : 12 < is_.length ∨ 120 < as_.length
    · rw [if_pos h2] at h; simp at h
    · rw [if_neg h2] at h ⊢
      by_cases h3 : (atomsF ⟨ts, is_, as_, cc⟩).1 = 0
      · rw [if_pos h3]
      · rw [if_neg h3] at h; exact absurd h h3
  · rw [if_neg h1] at h; exact absurd h h1
end Go.Proofs.Ytfkciiiopbanaaa
namespace Go.Proofs.Ytfkciiiopbanaaa
open Go.RowKit

theorem firstBad_zero {α : Type} {f : α → Int → Int} : ∀ {l : List α} {i : Int}, (firstBad f l i).1 = 0 ↔ ∀ (k : Nat) (x : α), l[k]? = some x → f x (i + k) = 0
  | [], i => by simp [firstBad]
  | y :: r, i => by
    rw [firstBad]
    constructor
    · intro h k x hx
      split at h
      · rename_i h0
        rcases k with _ | k
        · simp only [List.getElem?_cons_zero, Option.some.injEq] at hx
          subst hx
          simpa using h0
        · have := (firstBad_zero (l := r) (i := i + 1)).1 h k x (by simpa using hx)
          rw [show i + ((k + 1 : Nat) : Int) = i + 1 + (k : Int) from by omega]
          exact this
      · rename_i h0
        exact absurd h h0
    · intro h
      have h0 := h 0 y rfl
      rw [show i + ((0 : Nat) : Int) = i from by omega] at h0
      rw [if_pos h0]
      refine (firstBad_zero (l := r) (i := i + 1)).2 (fun k x hx => ?_)
      have := h (k + 1) x (by simpa using hx)
      rwa [show i + ((k + 1 : Nat) : Int) = i + 1 + (k : Int) from by omega] at this
theorem cnfF_zero {v : Int} {l : List (List Int)} : (cnfF v l).1 = 0 ↔ l.length ≤ 400 ∧ ∀ c ∈ l, clauseCode v c = 0 := by
  rw [cnfF]
  by_cases h : 400 < l.length
  · rw [if_pos h]; simp; omega
  · rw [if_neg h, firstBad_zero]
    constructor
    · exact fun hk => ⟨by omega, fun c hc => by obtain ⟨k, hk', rfl⟩ := List.mem_iff_getElem.1 hc; exact hk k _ (List.getElem?_eq_getElem hk')⟩
    · exact fun hk k x hx => hk.2 x (List.mem_of_getElem? hx)
theorem clauseCode_wide {v : Int} {c : List Int} (h : clauseCode v c = 0) : c.length ≤ 24 := by
  rw [clauseCode] at h
  split at h
  · simp at h
  · omega
theorem termsF_kids {ts : List TermD} (h : (termsF ts).1 = 0) : ∀ t ∈ ts, t.kids.length ≤ 8 := by
  intro t ht
  rw [termsF] at h
  split at h
  · simp at h
  · obtain ⟨k, hk, rfl⟩ := List.mem_iff_getElem.1 ht
    have := firstBad_zero.1 h k _ (List.getElem?_eq_getElem hk)
    rw [termCode] at this
    split at this
    · simp at this
    · split at this
      · simp at this
      · omega
theorem atomCode_of {x : AtomD} {nt ni : Int} (h0 : 0 ≤ ni) (h : atomCode x nt ni = 0) : (x.row.of_.length : Int) ≤ ni := by
  unfold atomCode at h
  by_cases c1 : x.kind < 1 ∨ 3 < x.kind
  · rw [if_pos c1] at h; simp at h
  rw [if_neg c1] at h
  by_cases c2 : (¬ x.kind = 2 ∧ (¬ x.a = 0 ∨ ¬ x.b = 0)) ∨ (¬ x.kind = 3 ∧ (0 < x.row.of_.length ∨ ¬ x.row.kind = 0 ∨ ¬ x.row.to_ = 0))
  · rw [if_pos c2] at h; simp at h
  rw [if_neg c2] at h
  by_cases c3 : x.kind = 2 ∧ (x.a < 0 ∨ x.b ≤ x.a ∨ nt ≤ x.b)
  · rw [if_pos c3] at h; simp at h
  rw [if_neg c3] at h
  by_cases c4 : x.kind = 3
  · rw [if_pos c4] at h
    rw [rowCode, rowF] at h
    split at h
    · simp at h
    · split at h
      · simp at h
      · omega
  · have : ¬ 0 < x.row.of_.length := fun e => c2 (.inr ⟨c4, .inl e⟩)
    omega

/-- a form without a fault -/
structure Fine (F : FormD) : Prop where
  terms : F.terms.length ≤ 60
  kids : ∀ t ∈ F.terms, t.kids.length ≤ 8
  ints : F.ints.length ≤ 12
  atoms : F.atoms.length ≤ 120
  rows : ∀ x ∈ F.atoms, x.row.of_.length ≤ 12
  cnf : (cnfF F.atoms.length F.clauses).1 = 0
theorem fine_of {F : FormD} (h : (formF F).1 = 0) : Fine F := by
  obtain ⟨ts, is_, as_, cc⟩ := F
  simp only [formF] at h
  by_cases h1 : (termsF ts).1 = 0
  · rw [if_pos h1] at h
    by_cases h2 : 12 < is_.length ∨ 120 < as_.length
    · rw [if_pos h2] at h; simp at h
    · rw [if_neg h2] at h
      by_cases h3 : (atomsF ⟨ts, is_, as_, cc⟩).1 = 0
      · rw [if_pos h3] at h
        have ht : ts.length ≤ 60 := by
          rw [termsF] at h1
          split at h1
          · simp at h1
          · omega
        refine ⟨ht, termsF_kids h1, by simp; omega, by simp; omega, fun x hx => ?_, h⟩
        obtain ⟨k, hk, rfl⟩ := List.mem_iff_getElem.1 hx
        have := firstBad_zero.1 h3 k _ (List.getElem?_eq_getElem hk)
        have h5 : (as_[k].row.of_.length : Int) ≤ is_.length := atomCode_of (by omega) this
        show as_[k].row.of_.length ≤ 12
        omega
      · rw [if_neg h3] at h; exact absurd h h3
  · rw [if_neg h1] at h; exact absurd h h1

/-- what every good command keeps: the clauses are good -/
def Held (F : FormD) (r : List Cl) (last : Cl) : Prop := (cnfF F.atoms.length (F.clauses ++ clOf r last)).1 = 0
theorem stepF_held {F : FormD} {d : TermD} {r : List Cl} {last : Cl} (h : Held F r last) (h0 : (stepF F d r last).1 = 0) : Held F (stepF F d r last).2.1 (stepF F d r last).2.2 := by
  unfold stepF at h0 ⊢
  by_cases c1 : d.head < 1 ∨ 4 < d.head
  · rw [if_pos c1] at h0; simp at h0
  rw [if_neg c1] at h0 ⊢
  by_cases c2 : 0 < d.kids.length ∧ ¬ d.head = 3
  · rw [if_pos c2] at h0; simp at h0
  rw [if_neg c2] at h0 ⊢
  by_cases c3 : d.head = 1
  · rw [if_pos c3] at h0 ⊢
    by_cases c4 : r.length = 20
    · rw [if_pos c4] at h0; simp at h0
    · rw [if_neg c4]
      simp only [Held]
      rw [clOf_push]
      exact h
  rw [if_neg c3] at h0 ⊢
  by_cases c4 : d.head = 2
  · rw [if_pos c4] at h0 ⊢
    cases r with
    | nil => simp at h0
    | cons x r' =>
      simp only [Held]
      rw [Held, cnfF_zero] at h
      rw [cnfF_zero]
      have e := clOf_pop x r' last
      have hl : (clOf r' x).length ≤ (clOf (x :: r') last).length := by rw [← e]; simp; omega
      refine ⟨by have := h.1; simp at this ⊢; omega, fun c hc => h.2 c ?_⟩
      rcases List.mem_append.1 hc with hc | hc
      · exact List.mem_append_left _ hc
      · rw [← e] at hc
        exact List.mem_append_right _ (List.mem_of_mem_take hc)
  rw [if_neg c4] at h0 ⊢
  by_cases c5 : d.head = 3
  · rw [if_pos c5] at h0 ⊢
    exact h0
  · rw [if_neg c5]
    exact h
theorem playF_held {F : FormD} : ∀ (l : List TermD) (i : Int) (r : List Cl) (last : Cl), Held F r last → (playF F l i r last).1.1 = 0 → Held F (playF F l i r last).2.1 (playF F l i r last).2.2
  | [], _, _, _, h, _ => h
  | d :: l, i, r, last, h, h0 => by
    rw [playF] at h0 ⊢
    by_cases hc : (stepF F d r last).1 = 0
    · rw [if_pos hc] at h0 ⊢
      exact playF_held l _ _ _ (stepF_held h hc) h0
    · rw [if_neg hc] at h0
      exact absurd h0 hc
def playRes (F : FormD) (l : List TermD) : (Int × Int) × List Cl × Cl :=
  if ¬ (formF F).1 = 0 then (formF F, [], []) else if 40 < l.length then ((2, -1), [], []) else playF F l 0 [] []
theorem playRes_fine {F : FormD} {l : List TermD} (h : (playRes F l).1.1 = 0) : Fine F ∧ Held F (playRes F l).2.1 (playRes F l).2.2 := by
  unfold playRes at h ⊢
  by_cases h1 : (formF F).1 = 0
  · rw [if_neg (by simpa using h1)] at h ⊢
    by_cases h2 : 40 < l.length
    · rw [if_pos h2] at h; simp at h
    · rw [if_neg h2] at h ⊢
      have hf := fine_of h1
      exact ⟨hf, playF_held l 0 [] [] (by rw [Held]; simpa [clOf] using hf.cnf) h⟩
  · rw [if_pos h1] at h; exact absurd h h1
end Go.Proofs.Ytfkciiiopbanaaa
namespace Go.Proofs.Ytfkciiiopbanaaa
open Go.RowKit

/-- literals of so many variables, no variable twice: what a made clause is -/
structure Lits (vars : Int) (c : List Int) : Prop where
  len : c.length ≤ 3
  rng : ∀ z ∈ c, ¬ z = 0 ∧ -vars ≤ z ∧ z ≤ vars
  two : c.Pairwise fun a b => ¬ b = a ∧ ¬ b = -a
theorem badL_zero {vars : Int} : ∀ (c pre : List Int) (i : Int), (∀ z ∈ c, ¬ z = 0 ∧ -vars ≤ z ∧ z ≤ vars) → (pre ++ c).Pairwise (fun a b => ¬ b = a ∧ ¬ b = -a) → badL vars pre c i = (0, 0)
  | [], _, _, _, _ => rfl
  | x :: r, pre, i, h, hp => by
    have hx := h x (List.mem_cons_self ..)
    rw [badL, if_neg, if_neg]
    · exact badL_zero r (pre ++ [x]) (i + 1) (fun z hz => h z (List.mem_cons_of_mem _ hz)) (by simpa using hp)
    · rw [Bool.not_eq_true, List.any_eq_false]
      intro y hy
      have := (List.pairwise_append.1 hp).2.2 y hy x (List.mem_cons_self ..)
      simp only [sameVar, decide_eq_true_eq]
      omega
    · simp only [litBad, decide_eq_true_eq]
      omega
section
variable {vars : Int} {c d : List Int}
theorem Lits.code (h : Lits vars c) : clauseCode vars c = 0 := by
  rw [clauseCode, if_neg (by have := h.len; omega), badL_zero c [] 0 h.rng (by simpa using h.two)]
theorem Lits.nil : Lits vars [] := ⟨Nat.zero_le _, fun z hz => absurd hz (by simp), List.Pairwise.nil⟩
theorem Lits.push {z : Int} (h : Lits vars c) (hl : c.length ≤ 2) (hv : ¬ z = 0 ∧ -vars ≤ z ∧ z ≤ vars) (hn : ∀ y ∈ c, ¬ z = y ∧ ¬ z = -y) : Lits vars (c ++ [z]) :=
  ⟨by simp; omega, fun y hy => by
    rcases List.mem_append.1 hy with hy | hy
    · exact h.rng y hy
    · rw [List.mem_singleton.1 hy]; exact hv,
   List.pairwise_append.2 ⟨h.two, List.pairwise_singleton _ _, fun a ha b hb => by rw [List.mem_singleton.1 hb]; exact hn a ha⟩⟩
theorem Lits.perm (h : Lits vars c) (hp : c.Perm d) : Lits vars d :=
  ⟨by rw [← hp.length_eq]; exact h.len, fun z hz => h.rng z (hp.mem_iff.2 hz), (hp.pairwise_iff (fun {a b} hab => by omega)).1 h.two⟩
/-- two neighbours change places -/
theorem Lits.swap {j : Nat} (h : Lits vars c) (hj : 0 < j) (hl : j < c.length) : Lits vars ((c.set j (c.getD (j - 1) 0)).set (j - 1) (c.getD j 0)) := by
  refine h.perm ?_
  have h3 := h.len
  match c, j with
  | [a, b], 1 => exact List.Perm.swap b a []
  | [a, b, e], 1 => exact List.Perm.swap b a [e]
  | [a, b, e], 2 => exact List.Perm.cons a (List.Perm.swap e b [])
  | [], _ => exact absurd hl (by simp)
  | [_], j + 1 => exact absurd hl (by simp)
  | [_, _], j + 2 => exact absurd hl (by simp)
  | [_, _, _], j + 3 => exact absurd hl (by simp)
  | _ :: _ :: _ :: _ :: _, _ => exact absurd h3 (by simp)
end

/-- an atom of a made form of nt terms -/
def KAtom (nt : Int) (x : AtomD) : Prop := x = ⟨1, 0, 0, ⟨[], 0, 0⟩⟩ ∨ (∃ a b : Int, 0 ≤ a ∧ a < b ∧ b < nt ∧ x = ⟨2, a, b, ⟨[], 0, 0⟩⟩) ∨
  ∃ c d k t : Int, -2 ≤ c ∧ c ≤ 2 ∧ -2 ≤ d ∧ d ≤ 2 ∧ 1 ≤ k ∧ k ≤ 3 ∧ -4 ≤ t ∧ t ≤ 4 ∧ x = ⟨3, 0, 0, ⟨[c, d], k, t⟩⟩
/-- the term number i of a made form -/
def KTerm (i : Nat) (t : TermD) : Prop := (i < 2 ∧ t = ⟨i, []⟩) ∨ ∃ x : Nat, x < i ∧ t = ⟨7, [(x : Int)]⟩
/-- a made form of at most k clauses -/
structure KForm (k : Nat) (F : FormD) : Prop where
  ints : ∃ b, F.ints = [true, b]
  tlen : 2 ≤ F.terms.length ∧ F.terms.length ≤ 5
  terms : ∀ (i : Nat) (t : TermD), F.terms[i]? = some t → KTerm i t
  alen : 3 ≤ F.atoms.length ∧ F.atoms.length ≤ 7
  atoms : ∀ x ∈ F.atoms, KAtom F.terms.length x
  clen : F.clauses.length ≤ k
  clauses : ∀ c ∈ F.clauses, Lits F.atoms.length c

theorem firstBad_all {α : Type} {f : α → Int → Int} : ∀ {l : List α} {i : Int}, (∀ (k : Nat) (x : α), l[k]? = some x → f x (i + k) = 0) → firstBad f l i = (0, 0)
  | [], _, _ => rfl
  | y :: r, i, h => by
    rw [firstBad, if_pos (by simpa using h 0 y rfl)]
    exact firstBad_all fun k x hx => by have := h (k + 1) x (by simpa using hx); rwa [show i + ((k + 1 : Nat) : Int) = i + 1 + k by omega] at this
theorem KTerm.code {i : Nat} {t : TermD} (h : KTerm i t) : termCode t i = 0 := by
  rcases h with ⟨h1, rfl⟩ | ⟨x, h1, rfl⟩
  · simp only [termCode]
    rw [if_neg (by omega), if_neg (by simp), if_neg (by simp)]
  · simp only [termCode]
    rw [if_neg (by omega), if_neg (by simp), if_neg (by simp [kidBad]; omega)]
theorem KAtom.code {nt : Int} {x : AtomD} (h : KAtom nt x) : atomCode x nt 2 = 0 := by
  rcases h with rfl | ⟨a, b, h1, h2, h3, rfl⟩ | ⟨c, d, k, t, h1, h2, h3, h4, h5, h6, h7, h8, rfl⟩
  · simp [atomCode]
  · simp only [atomCode]
    rw [if_neg (by omega), if_neg (by simp), if_neg (by omega), if_neg (by omega)]
  · simp only [atomCode]
    rw [if_neg (by omega), if_neg (by simp), if_neg (by omega), if_pos trivial, rowCode, rowF]
    dsimp only
    rw [if_neg (by omega), if_neg (by simp), firstBad_all]
    intro j x hx
    have hw : -1000000 ≤ x ∧ x ≤ 1000000 := by
      have := List.mem_of_getElem? hx
      simp only [List.mem_append, List.mem_cons, List.not_mem_nil, or_false] at this
      rcases this with (rfl | rfl) | rfl <;> omega
    simp [wholeC, wholeB, hw]
theorem KForm.fault {k : Nat} {F : FormD} (h : KForm k F) (hk : k ≤ 400) : formF F = (0, 0) := by
  have h1 : termsF F.terms = (0, 0) := by
    rw [termsF, if_neg (by have := h.tlen; omega)]
    exact firstBad_all fun i t ht => by rw [Int.zero_add]; exact (h.terms i t ht).code
  have h2 : atomsF F = (0, 0) := by
    obtain ⟨b, hb⟩ := h.ints
    rw [atomsF, hb]
    exact firstBad_all fun i t ht => (h.atoms t (List.mem_of_getElem? ht)).code
  have h3 : cnfF F.atoms.length F.clauses = (0, 0) := by
    rw [cnfF, if_neg (by have := h.clen; omega)]
    exact firstBad_all fun i t ht => (h.clauses t (List.mem_of_getElem? ht)).code
  rw [formF, h1, if_pos rfl, if_neg, h2, if_pos rfl, h3]
  obtain ⟨b, hb⟩ := h.ints
  rw [hb]
  have := h.alen
  simp only [List.length_cons, List.length_nil]
  omega

/-- commands that may be given, and how many frames are open behind them -/
inductive Deeds (vars : Int) : List TermD → Nat → Prop
  | nil : Deeds vars [] 0
  | push {l : List TermD} {d : Nat} : Deeds vars l d → Deeds vars (l ++ [⟨1, []⟩]) (d + 1)
  | pop {l : List TermD} {d : Nat} : Deeds vars l (d + 1) → Deeds vars (l ++ [⟨2, []⟩]) d
  | hold {l : List TermD} {d : Nat} {c : List Int} : Lits vars c → Deeds vars l d → Deeds vars (l ++ [⟨3, c⟩]) d
  | ask {l : List TermD} {d : Nat} : Deeds vars l d → Deeds vars (l ++ [⟨4, []⟩]) d
theorem playF_app {F : FormD} : ∀ (l m : List TermD) (i : Int) (r : List Cl) (last : Cl), (playF F l i r last).1.1 = 0 → playF F (l ++ m) i r last = playF F m (i + l.length) (playF F l i r last).2.1 (playF F l i r last).2.2
  | [], m, i, r, last, _ => by simp [playF]
  | d :: l, m, i, r, last, h => by
    rw [playF] at h
    rw [List.cons_append, playF, playF]
    by_cases hc : (stepF F d r last).1 = 0
    · rw [if_pos hc] at h
      rw [if_pos hc, if_pos hc, playF_app l m _ _ _ h]
      congr 1
      simp only [List.length_cons]
      omega
    · rw [if_neg hc] at h
      exact absurd h hc
/-- one command more -/
theorem playF_snoc {F : FormD} {l : List TermD} {x : TermD} {r : List Cl} {last : Cl} {r' : List Cl} {last' : Cl} (h : playF F l 0 [] [] = ((0, 0), r, last)) (hs : stepF F x r last = (0, r', last')) : playF F (l ++ [x]) 0 [] [] = ((0, 0), r', last') := by
  rw [playF_app l [x] 0 [] [] (by rw [h]), h]
  dsimp only
  rw [playF, hs, if_pos rfl, playF]
/-- what commands that may be given come to -/
structure Played (F : FormD) (l : List TermD) (d : Nat) (r : List Cl) (last : Cl) : Prop where
  play : playF F l 0 [] [] = ((0, 0), r, last)
  deep : r.length = d
  len : (clOf r last).length ≤ l.length
  good : ∀ c ∈ clOf r last, clauseCode F.atoms.length c = 0
theorem Deeds.played {F : FormD} (hF : F.clauses.length ≤ 100) (hG : ∀ c ∈ F.clauses, clauseCode F.atoms.length c = 0) {l : List TermD} {d : Nat} (h : Deeds F.atoms.length l d) : l.length ≤ 20 → ∃ r last, Played F l d r last := by
  induction h with
  | nil => exact fun _ => ⟨[], [], rfl, rfl, Nat.zero_le _, fun c hc => by simp [clOf] at hc⟩
  | @push l d h ih =>
    intro hl
    simp only [List.length_append, List.length_cons, List.length_nil] at hl
    obtain ⟨r, last, h1, h2, h3, h4⟩ := ih (by omega)
    have hd : d ≤ l.length := by
      clear h1 h2 h3 h4 ih hl
      induction h with
      | nil => exact Nat.le_refl _
      | push _ ih => simp; omega
      | pop _ ih => simp; omega
      | hold _ _ ih => simp; omega
      | ask _ ih => simp; omega
    refine ⟨last :: r, [], playF_snoc h1 ?_, by simp [h2], by rw [clOf_push]; simp; omega, by rw [clOf_push]; exact h4⟩
    simp only [stepF]
    rw [if_neg (by decide), if_neg (by decide), if_pos trivial, if_neg (by omega)]
  | @pop l d h ih =>
    intro hl
    simp only [List.length_append, List.length_cons, List.length_nil] at hl
    obtain ⟨r, last, h1, h2, h3, h4⟩ := ih (by omega)
    match r, h2 with
    | x :: r', h2 =>
      have hcl : ∃ t, clOf (x :: r') last = clOf r' x ++ t := ⟨last, by simp [clOf]⟩
      obtain ⟨t, ht⟩ := hcl
      rw [ht] at h3 h4
      refine ⟨r', x, playF_snoc h1 ?_, by simpa using h2, by simp at h3 ⊢; omega, fun c hc => h4 c (List.mem_append_left _ hc)⟩
      simp only [stepF]
      rw [if_neg (by decide), if_neg (by decide), if_neg (by decide), if_pos trivial]
  | @hold l d c hc h ih =>
    intro hl
    simp only [List.length_append, List.length_cons, List.length_nil] at hl
    obtain ⟨r, last, h1, h2, h3, h4⟩ := ih (by omega)
    have hg : ∀ e ∈ F.clauses ++ clOf r (last ++ [c]), clauseCode F.atoms.length e = 0 := fun e he => by
      rw [clOf_hold, ← List.append_assoc] at he
      rcases List.mem_append.1 he with he | he
      · rcases List.mem_append.1 he with he | he
        · exact hG e he
        · exact h4 e he
      · rw [List.mem_singleton.1 he]; exact hc.code
    have hz : (cnfF F.atoms.length (F.clauses ++ clOf r (last ++ [c]))).1 = 0 := cnfF_zero.2 ⟨by rw [clOf_hold]; simp; omega, hg⟩
    refine ⟨r, last ++ [c], playF_snoc h1 ?_, h2, by rw [clOf_hold]; simp; omega, fun e he => hg e (List.mem_append_right _ he)⟩
    simp only [stepF]
    rw [if_neg (by decide), if_neg (by simp), if_neg (by decide), if_neg (by decide), if_pos trivial, hz]
  | @ask l d h ih =>
    intro hl
    simp only [List.length_append, List.length_cons, List.length_nil] at hl
    obtain ⟨r, last, h1, h2, h3, h4⟩ := ih (by omega)
    refine ⟨r, last, playF_snoc h1 ?_, h2, by simp; omega, h4⟩
    simp only [stepF]
    rw [if_neg (by decide), if_neg (by decide), if_neg (by decide), if_neg (by decide), if_neg (by decide)]
/-- the clauses held in one more frame -/
theorem held_played {F : FormD} (hF : F.clauses.length ≤ 100) (hG : ∀ c ∈ F.clauses, clauseCode F.atoms.length c = 0) {x : Cl} {r : List Cl} : ∀ (cs : List (List Int)) (l : List TermD) (last : Cl), playF F l 0 [] [] = ((0, 0), x :: r, last) → (∀ c ∈ cs, Lits F.atoms.length c) →
    (∀ c ∈ clOf (x :: r) last, clauseCode F.atoms.length c = 0) → (clOf (x :: r) last).length + cs.length ≤ 200 → playF F (l ++ cs.map (fun c => ⟨3, c⟩)) 0 [] [] = ((0, 0), x :: r, last ++ cs)
  | [], l, last, h, _, _, _ => by simpa using h
  | c :: cs, l, last, h, hc, h4, hl => by
    have hg : ∀ e ∈ F.clauses ++ clOf (x :: r) (last ++ [c]), clauseCode F.atoms.length e = 0 := fun e he => by
      rw [clOf_hold, ← List.append_assoc] at he
      rcases List.mem_append.1 he with he | he
      · rcases List.mem_append.1 he with he | he
        · exact hG e he
        · exact h4 e he
      · rw [List.mem_singleton.1 he]; exact (hc c (List.mem_cons_self ..)).code
    have hz : (cnfF F.atoms.length (F.clauses ++ clOf (x :: r) (last ++ [c]))).1 = 0 := cnfF_zero.2 ⟨by rw [clOf_hold]; simp only [List.length_append, List.length_cons, List.length_nil] at hl ⊢; omega, hg⟩
    have h1 : playF F (l ++ [⟨3, c⟩]) 0 [] [] = ((0, 0), x :: r, last ++ [c]) := playF_snoc h (by
      simp only [stepF]
      rw [if_neg (by decide), if_neg (by simp), if_neg (by decide), if_neg (by decide), if_pos trivial, hz])
    have := held_played hF hG cs (l ++ [⟨3, c⟩]) (last ++ [c]) h1 (fun e he => hc e (List.mem_cons_of_mem _ he)) (fun e he => hg e (List.mem_append_right _ he)) (by rw [clOf_hold]; simp only [List.length_append, List.length_cons, List.length_nil] at hl ⊢; omega)
    simpa using this
theorem popped {F : FormD} {k : Nat} (hF : KForm k F) (hk : k ≤ 100) {l : List TermD} {d : Nat} (h : Deeds F.atoms.length l d) (hl : l.length ≤ 20) (hd : d < 20) {cs : List (List Int)} (hc : ∀ c ∈ cs, Lits F.atoms.length c) (hcl : cs.length ≤ 6) :
    ∃ r last, playRes F l = ((0, 0), r, last) ∧ playRes F (l ++ [⟨1, []⟩] ++ cs.map (fun c => ⟨3, c⟩) ++ [⟨2, []⟩]) = ((0, 0), r, last) := by
  have hG : ∀ c ∈ F.clauses, clauseCode F.atoms.length c = 0 := fun c hc => (hF.clauses c hc).code
  have hFl : F.clauses.length ≤ 100 := Nat.le_trans hF.clen hk
  obtain ⟨r, last, h1, h2, h3, h4⟩ := h.played hFl hG hl
  have hz : (formF F).1 = 0 := by rw [hF.fault (by omega)]
  refine ⟨r, last, ?_, ?_⟩
  · rw [playRes, if_neg (by simpa using hz), if_neg (by omega), h1]
  · rw [playRes, if_neg (by simpa using hz), if_neg (by simp; omega)]
    have h5 : playF F (l ++ [⟨1, []⟩]) 0 [] [] = ((0, 0), last :: r, []) := playF_snoc h1 (by
      simp only [stepF]
      rw [if_neg (by decide), if_neg (by decide), if_pos trivial, if_neg (by omega)])
    have h6 := held_played hFl hG cs (l ++ [⟨1, []⟩]) [] h5 hc (by rw [clOf_push]; exact h4) (by rw [clOf_push]; omega)
    refine playF_snoc h6 ?_
    simp only [stepF]
    rw [if_neg (by decide), if_neg (by decide), if_neg (by decide), if_pos trivial]
end Go.Proofs.Ytfkciiiopbanaaa
