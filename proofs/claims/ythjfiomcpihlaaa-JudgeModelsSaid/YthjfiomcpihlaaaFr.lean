/- Plain: commands on frames: what each does, what is left. No program is named here. -/
import Derived.Test.YthjfiomcpihlaaaForm
namespace Go.Proofs.Ythjfiomcpihlaaa
open Go.RowKit

abbrev Cl := List (List Int)
/-- the clauses held: the frames below (the newest first), the last frame -/
def clOf (r : List Cl) (last : Cl) : Cl := r.reverse.flatten ++ last
/-- how many clauses were held when each frame was pushed -/
def frR : List Cl → List Int
  | [] => []
  | x :: r => frR r ++ [((x :: r).reverse.flatten.length : Int)]
theorem frR_len : ∀ r : List Cl, (frR r).length = r.length
  | [] => rfl
  | x :: r => by simp [frR, frR_len r]
theorem frR_push (r : List Cl) (last : Cl) : frR (last :: r) = frR r ++ [((clOf r last).length : Int)] := by
  simp [frR, clOf]
theorem clOf_push (r : List Cl) (last : Cl) : clOf (last :: r) [] = clOf r last := by simp [clOf]
theorem clOf_hold (r : List Cl) (last : Cl) (c : List Int) : clOf r (last ++ [c]) = clOf r last ++ [c] := by simp [clOf]
theorem clOf_pop (x : Cl) (r : List Cl) (last : Cl) : (clOf (x :: r) last).take (clOf r x).length = clOf r x := by
  simp only [clOf, List.reverse_cons, List.flatten_append, List.flatten_cons, List.flatten_nil, List.append_nil]
  rw [List.take_append_of_le_length (Nat.le_refl _), List.take_length]
theorem frR_last (x : Cl) (r : List Cl) : frR (x :: r) = frR r ++ [((clOf r x).length : Int)] := frR_push r x

def stepF (F : FormD) (d : TermD) (r : List Cl) (last : Cl) : Int × List Cl × Cl :=
  if d.head < 1 ∨ 4 < d.head then (4, r, last)
  else if 0 < d.kids.length ∧ ¬ d.head = 3 then (5, r, last)
  else if d.head = 1 then (if r.length = 20 then (2, r, last) else (0, last :: r, []))
  else if d.head = 2 then (match r with
    | [] => (11, r, last)
    | x :: r' => (0, r', x))
  else if d.head = 3 then ((cnfF F.atoms.length (F.clauses ++ clOf r (last ++ [d.kids]))).1, r, last ++ [d.kids])
  else (0, r, last)

def playF (F : FormD) : List TermD → Int → List Cl → Cl → (Int × Int) × List Cl × Cl
  | [], _, r, last => ((0, 0), r, last)
  | d :: l, i, r, last =>
    if (stepF F d r last).1 = 0 then playF F l (i + 1) (stepF F d r last).2.1 (stepF F d r last).2.2 else (((stepF F d r last).1, i), (stepF F d r last).2.1, (stepF F d r last).2.2)

def leftF (F : FormD) (l : List TermD) : (Int × Int) × Cl :=
  if ¬ (formF F).1 = 0 then (formF F, []) else if 40 < l.length then ((2, -1), [])
  else ((playF F l 0 [] []).1, F.clauses ++ clOf (playF F l 0 [] []).2.1 (playF F l 0 [] []).2.2)

theorem formF_cl {F : FormD} (h : (formF F).1 = 0) (cs : Cl) : formF ⟨F.terms, F.ints, F.atoms, cs⟩ = cnfF F.atoms.length cs := by
  obtain ⟨ts, is_, as_, cc⟩ := F
  simp only [formF] at h ⊢
  have e : atomsF ⟨ts, is_, as_, cs⟩ = atomsF ⟨ts, is_, as_, cc⟩ := rfl
  rw [e]
  by_cases h1 : (termsF ts).1 = 0
  · rw [if_pos h1] at h ⊢
    by_cases h2 : 12 < is_.length ∨ 120 < as_.length
    · rw [if_pos h2] at h; simp at h
    · rw [if_neg h2] at h ⊢
      by_cases h3 : (atomsF ⟨ts, is_, as_, cc⟩).1 = 0
      · rw [if_pos h3]
      · rw [if_neg h3] at h; exact absurd h h3
  · rw [if_neg h1] at h; exact absurd h h1
end Go.Proofs.Ythjfiomcpihlaaa
