/- Plain: clauses and forms that are made of raw numbers. No program is named here. -/
import Derived.Test.YthjfiomcpihlaaaFrI
namespace Go.Proofs.Ythjfiomcpihlaaa
open Go.RowKit

/-- literals of so many variables, no variable twice: what a made clause is -/
structure Lits (vars : Int) (c : List Int) : Prop where
  len : c.length ≤ 3
  rng : ∀ z ∈ c, ¬ z = 0 ∧ -vars ≤ z ∧ z ≤ vars
  two : c.Pairwise fun a b => ¬ b = a ∧ ¬ b = -a
theorem badL_zero {vars : Int} : ∀ (c pre : List Int) (i : Int), (∀ z ∈ c, ¬ z = 0 ∧ -vars ≤ z ∧ z ≤ vars) → (pre ++ c).Pairwise (fun a b => ¬ b = a ∧ ¬ b = -a) → badL vars pre c i = (0, 0)
  | [], _, _, _, _ => rfl
  | x :: r, pre, i, h, hp => by
    have hx := h x (List.mem_cons_self ..)
    rw [badL, if_neg, if_neg]
    · exact badL_zero r (pre ++ [x]) (i + 1) (fun z hz => h z (List.mem_cons_of_mem _ hz)) (by simpa using hp)
    · rw [Bool.not_eq_true, List.any_eq_false]
      intro y hy
      have := (List.pairwise_append.1 hp).2.2 y hy x (List.mem_cons_self ..)
      simp only [sameVar, decide_eq_true_eq]
      omega
    · simp only [litBad, decide_eq_true_eq]
      omega
section
variable {vars : Int} {c d : List Int}
theorem Lits.code (h : Lits vars c) : clauseCode vars c = 0 := by
  rw [clauseCode, if_neg (by have := h.len; omega), badL_zero c [] 0 h.rng (by simpa using h.two)]
theorem Lits.nil : Lits vars [] := ⟨Nat.zero_le _, fun z hz => absurd hz (by simp), List.Pairwise.nil⟩
theorem Lits.push {z : Int} (h : Lits vars c) (hl : c.length ≤ 2) (hv : ¬ z = 0 ∧ -vars ≤ z ∧ z ≤ vars) (hn : ∀ y ∈ c, ¬ z = y ∧ ¬ z = -y) : Lits vars (c ++ [z]) :=
  ⟨by simp; omega, fun y hy => by
    rcases List.mem_append.1 hy with hy | hy
    · exact h.rng y hy
    · rw [List.mem_singleton.1 hy]; exact hv,
   List.pairwise_append.2 ⟨h.two, List.pairwise_singleton _ _, fun a ha b hb => by rw [List.mem_singleton.1 hb]; exact hn a ha⟩⟩
theorem Lits.perm (h : Lits vars c) (hp : c.Perm d) : Lits vars d :=
  ⟨by rw [← hp.length_eq]; exact h.len, fun z hz => h.rng z (hp.mem_iff.2 hz), (hp.pairwise_iff (fun {a b} hab => by omega)).1 h.two⟩
/-- two neighbours change places -/
theorem Lits.swap {j : Nat} (h : Lits vars c) (hj : 0 < j) (hl : j < c.length) : Lits vars ((c.set j (c.getD (j - 1) 0)).set (j - 1) (c.getD j 0)) := by
  refine h.perm ?_
  have h3 := h.len
  match c, j with
  | [a, b], 1 => exact List.Perm.swap b a []
  | [a, b, e], 1 => exact List.Perm.swap b a [e]
  | [a, b, e], 2 => exact List.Perm.cons a (List.Perm.swap e b [])
  | [], _ => exact absurd hl (by simp)
  | [_], j + 1 => exact absurd hl (by simp)
  | [_, _], j + 2 => exact absurd hl (by simp)
  | [_, _, _], j + 3 => exact absurd hl (by simp)
  | _ :: _ :: _ :: _ :: _, _ => exact absurd h3 (by simp)
end

/-- an atom of a made form of nt terms -/
def KAtom (nt : Int) (x : AtomD) : Prop := x = ⟨1, 0, 0, ⟨[], 0, 0⟩⟩ ∨ (∃ a b : Int, 0 ≤ a ∧ a < b ∧ b < nt ∧ x = ⟨2, a, b, ⟨[], 0, 0⟩⟩) ∨
  ∃ c d k t : Int, -2 ≤ c ∧ c ≤ 2 ∧ -2 ≤ d ∧ d ≤ 2 ∧ 1 ≤ k ∧ k ≤ 3 ∧ -4 ≤ t ∧ t ≤ 4 ∧ x = ⟨3, 0, 0, ⟨[c, d], k, t⟩⟩
/-- the term number i of a made form -/
def KTerm (i : Nat) (t : TermD) : Prop := (i < 2 ∧ t = ⟨i, []⟩) ∨ ∃ x : Nat, x < i ∧ t = ⟨7, [(x : Int)]⟩
/-- a made form of at most k clauses -/
structure KForm (k : Nat) (F : FormD) : Prop where
  ints : ∃ b, F.ints = [true, b]
  tlen : 2 ≤ F.terms.length ∧ F.terms.length ≤ 5
  terms : ∀ (i : Nat) (t : TermD), F.terms[i]? = some t → KTerm i t
  alen : 3 ≤ F.atoms.length ∧ F.atoms.length ≤ 7
  atoms : ∀ x ∈ F.atoms, KAtom F.terms.length x
  clen : F.clauses.length ≤ k
  clauses : ∀ c ∈ F.clauses, Lits F.atoms.length c

theorem firstBad_all {α : Type} {f : α → Int → Int} : ∀ {l : List α} {i : Int}, (∀ (k : Nat) (x : α), l[k]? = some x → f x (i + k) = 0) → firstBad f l i = (0, 0)
  | [], _, _ => rfl
  | y :: r, i, h => by
    rw [firstBad, if_pos (by simpa using h 0 y rfl)]
    exact firstBad_all fun k x hx => by have := h (k + 1) x (by simpa using hx); rwa [show i + ((k + 1 : Nat) : Int) = i + 1 + k by omega] at this
theorem KTerm.code {i : Nat} {t : TermD} (h : KTerm i t) : termCode t i = 0 := by
  rcases h with ⟨h1, rfl⟩ | ⟨x, h1, rfl⟩
  · simp only [termCode]
    rw [if_neg (by omega), if_neg (by simp), if_neg (by simp)]
  · simp only [termCode]
    rw [if_neg (by omega), if_neg (by simp), if_neg (by simp [kidBad]; omega)]
theorem KAtom.code {nt : Int} {x : AtomD} (h : KAtom nt x) : atomCode x nt 2 = 0 := by
  rcases h with rfl | ⟨a, b, h1, h2, h3, rfl⟩ | ⟨c, d, k, t, h1, h2, h3, h4, h5, h6, h7, h8, rfl⟩
  · simp [atomCode]
  · simp only [atomCode]
    rw [if_neg (by omega), if_neg (by simp), if_neg (by omega), if_neg (by omega)]
  · simp only [atomCode]
    rw [if_neg (by omega), if_neg (by simp), if_neg (by omega), if_pos trivial, rowCode, rowF]
    dsimp only
    rw [if_neg (by omega), if_neg (by simp), firstBad_all]
    intro j x hx
    have hw : -1000000 ≤ x ∧ x ≤ 1000000 := by
      have := List.mem_of_getElem? hx
      simp only [List.mem_append, List.mem_cons, List.not_mem_nil, or_false] at this
      rcases this with (rfl | rfl) | rfl <;> omega
    simp [wholeC, wholeB, hw]
theorem KForm.fault {k : Nat} {F : FormD} (h : KForm k F) (hk : k ≤ 400) : formF F = (0, 0) := by
  have h1 : termsF F.terms = (0, 0) := by
    rw [termsF, if_neg (by have := h.tlen; omega)]
    exact firstBad_all fun i t ht => by rw [Int.zero_add]; exact (h.terms i t ht).code
  have h2 : atomsF F = (0, 0) := by
    obtain ⟨b, hb⟩ := h.ints
    rw [atomsF, hb]
    exact firstBad_all fun i t ht => (h.atoms t (List.mem_of_getElem? ht)).code
  have h3 : cnfF F.atoms.length F.clauses = (0, 0) := by
    rw [cnfF, if_neg (by have := h.clen; omega)]
    exact firstBad_all fun i t ht => (h.clauses t (List.mem_of_getElem? ht)).code
  rw [formF, h1, if_pos rfl, if_neg, h2, if_pos rfl, h3]
  obtain ⟨b, hb⟩ := h.ints
  rw [hb]
  have := h.alen
  simp only [List.length_cons, List.length_nil]
  omega

/-- commands that may be given, and how many frames are open behind them -/
inductive Deeds (vars : Int) : List TermD → Nat → Prop
  | nil : Deeds vars [] 0
  | push {l : List TermD} {d : Nat} : Deeds vars l d → Deeds vars (l ++ [⟨1, []⟩]) (d + 1)
  | pop {l : List TermD} {d : Nat} : Deeds vars l (d + 1) → Deeds vars (l ++ [⟨2, []⟩]) d
  | hold {l : List TermD} {d : Nat} {c : List Int} : Lits vars c → Deeds vars l d → Deeds vars (l ++ [⟨3, c⟩]) d
  | ask {l : List TermD} {d : Nat} : Deeds vars l d → Deeds vars (l ++ [⟨4, []⟩]) d
theorem playF_app {F : FormD} : ∀ (l m : List TermD) (i : Int) (r : List Cl) (last : Cl), (playF F l i r last).1.1 = 0 → playF F (l ++ m) i r last = playF F m (i + l.length) (playF F l i r last).2.1 (playF F l i r last).2.2
  | [], m, i, r, last, _ => by simp [playF]
  | d :: l, m, i, r, last, h => by
    rw [playF] at h
    rw [List.cons_append, playF, playF]
    by_cases hc : (stepF F d r last).1 = 0
    · rw [if_pos hc] at h
      rw [if_pos hc, if_pos hc, playF_app l m _ _ _ h]
      congr 1
      simp only [List.length_cons]
      omega
    · rw [if_neg hc] at h
      exact absurd h hc
/-- one command more -/
theorem playF_snoc {F : FormD} {l : List TermD} {x : TermD} {r : List Cl} {last : Cl} {r' : List Cl} {last' : Cl} (h : playF F l 0 [] [] = ((0, 0), r, last)) (hs : stepF F x r last = (0, r', last')) : playF F (l ++ [x]) 0 [] [] = ((0, 0), r', last') := by
  rw [playF_app l [x] 0 [] [] (by rw [h]), h]
  dsimp only
  rw [playF, hs, if_pos rfl, playF]
/-- what commands that may be given come to -/
structure Played (F : FormD) (l : List TermD) (d : Nat) (r : List Cl) (last : Cl) : Prop where
  play : playF F l 0 [] [] = ((0, 0), r, last)
  deep : r.length = d
  len : (clOf r last).length ≤ l.length
  good : ∀ c ∈ clOf r last, clauseCode F.atoms.length c = 0
theorem Deeds.played {F : FormD} (hF : F.clauses.length ≤ 100) (hG : ∀ c ∈ F.clauses, clauseCode F.atoms.length c = 0) {l : List TermD} {d : Nat} (h : Deeds F.atoms.length l d) : l.length ≤ 20 → ∃ r last, Played F l d r last := by
  induction h with
  | nil => exact fun _ => ⟨[], [], rfl, rfl, Nat.zero_le _, fun c hc => by simp [clOf] at hc⟩
  | @push l d h ih =>
    intro hl
    simp only [List.length_append, List.length_cons, List.length_nil] at hl
    obtain ⟨r, last, h1, h2, h3, h4⟩ := ih (by omega)
    have hd : d ≤ l.length := by
      clear h1 h2 h3 h4 ih hl
      induction h with
      | nil => exact Nat.le_refl _
      | push _ ih => simp; omega
      | pop _ ih => simp; omega
      | hold _ _ ih => simp; omega
      | ask _ ih => simp; omega
    refine ⟨last :: r, [], playF_snoc h1 ?_, by simp [h2], by rw [clOf_push]; simp; omega, by rw [clOf_push]; exact h4⟩
    simp only [stepF]
    rw [if_neg (by decide), if_neg (by decide), if_pos trivial, if_neg (by omega)]
  | @pop l d h ih =>
    intro hl
    simp only [List.length_append, List.length_cons, List.length_nil] at hl
    obtain ⟨r, last, h1, h2, h3, h4⟩ := ih (by omega)
    match r, h2 with
    | x :: r', h2 =>
      have hcl : ∃ t, clOf (x :: r') last = clOf r' x ++ t := ⟨last, by simp [clOf]⟩
      obtain ⟨t, ht⟩ := hcl
      rw [ht] at h3 h4
      refine ⟨r', x, playF_snoc h1 ?_, by simpa using h2, by simp at h3 ⊢; omega, fun c hc => h4 c (List.mem_append_left _ hc)⟩
      simp only [stepF]
      rw [if_neg (by decide), if_neg (by decide), if_neg (by decide), if_pos trivial]
  | @hold l d c hc h ih =>
    intro hl
    simp only [List.length_append, List.length_cons, List.length_nil] at hl
    obtain ⟨r, last, h1, h2, h3, h4⟩ := ih (by omega)
    have hg : ∀ e ∈ F.clauses ++ clOf r (last ++ [c]), clauseCode F.atoms.length e = 0 := fun e he => by
      rw [clOf_hold, ← List.append_assoc] at he
      rcases List.mem_append.1 he with he | he
      · rcases List.mem_append.1 he with he | he
        · exact hG e he
        · exact h4 e he
      · rw [List.mem_singleton.1 he]; exact hc.code
    have hz : (cnfF F.atoms.length (F.clauses ++ clOf r (last ++ [c]))).1 = 0 := cnfF_zero.2 ⟨by rw [clOf_hold]; simp; omega, hg⟩
    refine ⟨r, last ++ [c], playF_snoc h1 ?_, h2, by rw [clOf_hold]; simp; omega, fun e he => hg e (List.mem_append_right _ he)⟩
    simp only [stepF]
    rw [if_neg (by decide), if_neg (by simp), if_neg (by decide), if_neg (by decide), if_pos trivial, hz]
  | @ask l d h ih =>
    intro hl
    simp only [List.length_append, List.length_cons, List.length_nil] at hl
    obtain ⟨r, last, h1, h2, h3, h4⟩ := ih (by omega)
    refine ⟨r, last, playF_snoc h1 ?_, h2, by simp; omega, h4⟩
    simp only [stepF]
    rw [if_neg (by decide), if_neg (by decide), if_neg (by decide), if_neg (by decide), if_neg (by decide)]
/-- the clauses held in one more frame -/
theorem held_played {F : FormD} (hF : F.clauses.length ≤ 100) (hG : ∀ c ∈ F.clauses, clauseCode F.atoms.length c = 0) {x : Cl} {r : List Cl} : ∀ (cs : List (List Int)) (l : List TermD) (last : Cl), playF F l 0 [] [] = ((0, 0), x :: r, last) → (∀ c ∈ cs, Lits F.atoms.length c) →
    (∀ c ∈ clOf (x :: r) last, clauseCode F.atoms.length c = 0) → (clOf (x :: r) last).length + cs.length ≤ 200 → playF F (l ++ cs.map (fun c => ⟨3, c⟩)) 0 [] [] = ((0, 0), x :: r, last ++ cs)
  | [], l, last, h, _, _, _ => by simpa using h
  | c :: cs, l, last, h, hc, h4, hl => by
    have hg : ∀ e ∈ F.clauses ++ clOf (x :: r) (last ++ [c]), clauseCode F.atoms.length e = 0 := fun e he => by
      rw [clOf_hold, ← List.append_assoc] at he
      rcases List.mem_append.1 he with he | he
      · rcases List.mem_append.1 he with he | he
        · exact hG e he
        · exact h4 e he
      · rw [List.mem_singleton.1 he]; exact (hc c (List.mem_cons_self ..)).code
    have hz : (cnfF F.atoms.length (F.clauses ++ clOf (x :: r) (last ++ [c]))).1 = 0 := cnfF_zero.2 ⟨by rw [clOf_hold]; simp only [List.length_append, List.length_cons, List.length_nil] at hl ⊢; omega, hg⟩
    have h1 : playF F (l ++ [⟨3, c⟩]) 0 [] [] = ((0, 0), x :: r, last ++ [c]) := playF_snoc h (by
      simp only [stepF]
      rw [if_neg (by decide), if_neg (by simp), if_neg (by decide), if_neg (by decide), if_pos trivial, hz])
    have := held_played hF hG cs (l ++ [⟨3, c⟩]) (last ++ [c]) h1 (fun e he => hc e (List.mem_cons_of_mem _ he)) (fun e he => hg e (List.mem_append_right _ he)) (by rw [clOf_hold]; simp only [List.length_append, List.length_cons, List.length_nil] at hl ⊢; omega)
    simpa using this
theorem popped {F : FormD} {k : Nat} (hF : KForm k F) (hk : k ≤ 100) {l : List TermD} {d : Nat} (h : Deeds F.atoms.length l d) (hl : l.length ≤ 20) (hd : d < 20) {cs : List (List Int)} (hc : ∀ c ∈ cs, Lits F.atoms.length c) (hcl : cs.length ≤ 6) :
    ∃ r last, playRes F l = ((0, 0), r, last) ∧ playRes F (l ++ [⟨1, []⟩] ++ cs.map (fun c => ⟨3, c⟩) ++ [⟨2, []⟩]) = ((0, 0), r, last) := by
  have hG : ∀ c ∈ F.clauses, clauseCode F.atoms.length c = 0 := fun c hc => (hF.clauses c hc).code
  have hFl : F.clauses.length ≤ 100 := Nat.le_trans hF.clen hk
  obtain ⟨r, last, h1, h2, h3, h4⟩ := h.played hFl hG hl
  have hz : (formF F).1 = 0 := by rw [hF.fault (by omega)]
  refine ⟨r, last, ?_, ?_⟩
  · rw [playRes, if_neg (by simpa using hz), if_neg (by omega), h1]
  · rw [playRes, if_neg (by simpa using hz), if_neg (by simp; omega)]
    have h5 : playF F (l ++ [⟨1, []⟩]) 0 [] [] = ((0, 0), last :: r, []) := playF_snoc h1 (by
      simp only [stepF]
      rw [if_neg (by decide), if_neg (by decide), if_pos trivial, if_neg (by omega)])
    have h6 := held_played hFl hG cs (l ++ [⟨1, []⟩]) [] h5 hc (by rw [clOf_push]; exact h4) (by rw [clOf_push]; omega)
    refine playF_snoc h6 ?_
    simp only [stepF]
    rw [if_neg (by decide), if_neg (by decide), if_neg (by decide), if_pos trivial]
end Go.Proofs.Ythjfiomcpihlaaa
