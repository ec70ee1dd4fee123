/- Plain: the laws FormMore and FormAtoms. No program is named here. · Plain: the law FormNames: things' names do not matter. No program is named here. · Plain: a model that is made of raw numbers fits its form. No program is named here. -/
import Derived.Test.YtfogiljgecmakaaGreatLhRS
namespace Go.Proofs.YtfogiljgecmakaaGreat
open Go.RowKit

/-- with a clause more -/
theorem more_law (t : List TermD) (i : List Bool) (a : List AtomD) (cs : List (List Int)) (c : List Int) (M : ModelD) :
    formH ⟨t, i, a, cs ++ [c]⟩ M = (formH ⟨t, i, a, cs⟩ M && formH ⟨t, i, a, [c]⟩ M) := by
  simp only [formH, clsH, List.any_append, Bool.not_or]
  generalize intsH M i 0 = p
  generalize atomsH M a 0 = q
  generalize funH M t t 0 = r
  generalize (!cs.any fun l => !l.any (litH M.holds)) = x
  generalize (![c].any fun l => !l.any (litH M.holds)) = y
  cases p <;> cases q <;> cases r <;> cases x <;> cases y <;> rfl
theorem atomsH_iff {M : ModelD} : ∀ (xs : List AtomD) (i : Nat), atomsH M xs i = true ↔ ∀ (j : Nat) (x : AtomD), xs[j]? = some x → atomV M x (i + j) = M.holds[i + j]?.getD false
  | [], i => by simp [atomsH]
  | y :: r, i => by
    rw [atomsH]
    constructor
    · intro h j x hx
      split at h
      · rename_i h1
        cases j with
        | zero => rw [List.getElem?_cons_zero] at hx; cases hx; exact h1
        | succ j =>
          rw [List.getElem?_cons_succ] at hx
          have := (atomsH_iff r (i + 1)).1 h j x hx
          rwa [show i + 1 + j = i + (j + 1) from by omega] at this
      · simp at h
    · intro h
      have h0 : atomV M y i = M.holds[i]?.getD false := h 0 y rfl
      rw [if_pos h0]
      refine (atomsH_iff r (i + 1)).2 fun j x hx => ?_
      have := h (j + 1) x (by rw [List.getElem?_cons_succ]; exact hx)
      rwa [show i + 1 + j = i + (j + 1) from by omega]
theorem intsH_same {M N : ModelD} (h : M.nums = N.nums) : ∀ (l : List Bool) (i : Nat), intsH M l i = intsH N l i
  | [], _ => rfl
  | b :: r, i => by rw [intsH, intsH, h, intsH_same h r]
theorem innerH_same {M N : ModelD} (h : M.things = N.things) (i : Nat) (t : TermD) : ∀ (l : List TermD) (k : Nat), innerH M i t l k = innerH N i t l k
  | [], _ => rfl
  | u :: r, k => by rw [innerH, innerH, h, innerH_same h i t r]
theorem funH_same {M N : ModelD} (h : M.things = N.things) (ts : List TermD) : ∀ (l : List TermD) (i : Nat), funH M ts l i = funH N ts l i
  | [], _ => rfl
  | t :: r, i => by rw [funH, funH, innerH_same h, funH_same h ts r]
theorem atomV_bound {M N : ModelD} (h : M.things = N.things) (h2 : M.nums = N.nums) {x : AtomD} (hk : x.kind = 2 ∨ x.kind = 3) (i j : Nat) : atomV M x i = atomV N x j := by
  unfold atomV
  rcases hk with hk | hk
  · rw [if_pos hk, if_pos hk, h]
  · have hn : ¬ x.kind = 2 := by omega
    rw [if_neg hn, if_neg hn, if_pos hk, if_pos hk, h2]
theorem atomV_free {M : ModelD} {x : AtomD} (hk : ¬ x.kind = 2 ∧ ¬ x.kind = 3) (i : Nat) : atomV M x i = M.holds[i]?.getD false := by
  unfold atomV
  rw [if_neg hk.1, if_neg hk.2]
/-- one mark turned -/
def turnM (M : ModelD) (k : Nat) : ModelD := ⟨M.holds.set k (!M.holds[k]?.getD false), M.things, M.nums⟩
theorem turn_other (M : ModelD) {k j : Nat} (h : ¬ k = j) : (turnM M k).holds[j]? = M.holds[j]? := List.getElem?_set_ne h
theorem turn_self (M : ModelD) {k : Nat} (h : k < M.holds.length) : (turnM M k).holds[k]?.getD false = !M.holds[k]?.getD false := by
  show (M.holds.set k _)[k]?.getD false = _
  rw [List.getElem?_set_self h, Option.getD_some]
theorem atoms_free {M : ModelD} {k : Nat} {xs : List AtomD} {x : AtomD} (hx : xs[k]? = some x) (hf : ¬ x.kind = 2 ∧ ¬ x.kind = 3) : atomsH (turnM M k) xs 0 = atomsH M xs 0 := by
  have key : ∀ (A B : ModelD), A.things = B.things → A.nums = B.nums → (∀ j, ¬ k = j → A.holds[j]? = B.holds[j]?) → atomsH A xs 0 = true → atomsH B xs 0 = true := by
    intro A B h1 h2 h3 h
    rw [atomsH_iff] at h ⊢
    intro j y hy
    by_cases hb : y.kind = 2 ∨ y.kind = 3
    · have hkj : ¬ k = j := fun e => by
        subst e
        rw [hx] at hy
        cases hy
        omega
      rw [← atomV_bound h1 h2 hb (0 + j) (0 + j), h j y hy, Nat.zero_add, h3 j hkj]
    · exact atomV_free (by omega) _
  rw [Bool.eq_iff_iff]
  exact ⟨key _ _ rfl rfl (fun j h => turn_other M h), key _ _ rfl rfl (fun j h => (turn_other M h).symm)⟩
theorem atoms_bound {M : ModelD} {k : Nat} {xs : List AtomD} {x : AtomD} (hx : xs[k]? = some x) (hf : x.kind = 2 ∨ x.kind = 3) (hk : k < M.holds.length) : (atomsH M xs 0 && atomsH (turnM M k) xs 0) = false := by
  rw [Bool.and_eq_false_iff]
  by_cases h : atomsH M xs 0 = true
  · right
    rw [Bool.eq_false_iff]
    intro h2
    have e1 := (atomsH_iff xs 0).1 h k x hx
    have e2 := (atomsH_iff xs 0).1 h2 k x hx
    rw [Nat.zero_add] at e1 e2
    rw [turn_self M hk, atomV_bound (M := turnM M k) (N := M) rfl rfl hf k k, e1] at e2
    cases hb : M.holds[k]?.getD false <;> rw [hb] at e2 <;> cases e2
  · left; simpa using h
/-- what bound atoms say is what is -/
theorem atoms_law {M : ModelD} {k : Nat} (t : List TermD) (i : List Bool) {a : List AtomD} {x : AtomD} (hx : a[k]? = some x) (hk : k < M.holds.length) :
    if x.kind = 2 ∨ x.kind = 3 then (formH ⟨t, i, a, []⟩ M && formH ⟨t, i, a, []⟩ (turnM M k)) = false else formH ⟨t, i, a, []⟩ M = formH ⟨t, i, a, []⟩ (turnM M k) := by
  simp only [formH, clsH, List.any_nil, Bool.not_false, Bool.true_and]
  rw [intsH_same (M := turnM M k) (N := M) rfl, funH_same (M := turnM M k) (N := M) rfl]
  split
  · rename_i h
    have h1 := atoms_bound hx h hk
    generalize atomsH M a 0 = p at h1 ⊢
    generalize atomsH (turnM M k) a 0 = q at h1 ⊢
    cases p <;> cases q <;> simp_all
  · rename_i h
    rw [atoms_free hx (by omega)]
end Go.Proofs.YtfogiljgecmakaaGreat
namespace Go.Proofs.YtfogiljgecmakaaGreat
open Go.RowKit

/-- the things have other names -/
def nameM (M : ModelD) (g : Int → Int) : ModelD := ⟨M.holds, M.things.map g, M.nums⟩
def InjOn (M : ModelD) (g : Int → Int) : Prop := ∀ x ∈ M.things, ∀ y ∈ M.things, g x = g y → x = y
theorem name_get {M : ModelD} {g : Int → Int} {i : Nat} (h : i < M.things.length) : (nameM M g).things[i]?.getD 0 = g M.things[i] ∧ M.things[i]?.getD 0 = M.things[i] := by
  constructor
  · show (M.things.map g)[i]?.getD 0 = _
    rw [List.getElem?_map, List.getElem?_eq_getElem h]; rfl
  · rw [List.getElem?_eq_getElem h]; rfl
theorem name_eq {M : ModelD} {g : Int → Int} (hg : InjOn M g) {i j : Nat} (hi : i < M.things.length) (hj : j < M.things.length) :
    (nameM M g).things[i]?.getD 0 = (nameM M g).things[j]?.getD 0 ↔ M.things[i]?.getD 0 = M.things[j]?.getD 0 := by
  rw [(name_get (g := g) hi).1, (name_get (g := g) hj).1, (name_get (g := g) hi).2, (name_get (g := g) hj).2]
  exact ⟨hg _ (List.getElem_mem hi) _ (List.getElem_mem hj), fun h => by rw [h]⟩
theorem name_sameT {M : ModelD} {g : Int → Int} (hg : InjOn M g) {x y : Int} (hx : 0 ≤ x ∧ x < (M.things.length : Int)) (hy : 0 ≤ y ∧ y < (M.things.length : Int)) : sameT (nameM M g).things x y = sameT M.things x y := by
  unfold sameT
  rw [Bool.eq_iff_iff, beq_iff_eq, beq_iff_eq]
  exact name_eq hg (by omega) (by omega)
theorem eqL_congr {p q : Int → Int → Bool} : ∀ (xs ys : List Int), (∀ x ∈ xs, ∀ y ∈ ys, p x y = q x y) → eqLL p xs ys = eqLL q xs ys
  | [], [], _ => rfl
  | [], _ :: _, _ => rfl
  | _ :: _, [], _ => rfl
  | x :: r, y :: s, h => by
    rw [eqLL, eqLL, h x (by simp) y (by simp), eqL_congr r s (fun a ha b hb => h a (by simp [ha]) b (by simp [hb]))]
def KidsIn (n : Nat) (t : TermD) : Prop := ∀ x ∈ t.kids, 0 ≤ x ∧ x < (n : Int)
theorem name_inner {M : ModelD} {g : Int → Int} (hg : InjOn M g) {i : Nat} (hi : i < M.things.length) {t : TermD} (ht : KidsIn M.things.length t) :
    ∀ (l : List TermD) (k : Nat), k + l.length ≤ M.things.length → (∀ u ∈ l, KidsIn M.things.length u) → innerH (nameM M g) i t l k = innerH M i t l k
  | [], _, _, _ => rfl
  | u :: r, k, hk, hu => by
    simp only [List.length_cons] at hk
    have h1 := name_inner hg hi ht r (k + 1) (by omega) (fun v hv => hu v (by simp [hv]))
    have h2 := eqL_congr t.kids u.kids (fun x hx y hy => name_sameT hg (ht x hx) (hu u (by simp) y hy))
    have h3 := name_eq hg hi (show k < M.things.length by omega)
    rw [innerH, innerH, h1, h2]
    by_cases hc : t.head = u.head ∧ ¬ M.things[i]?.getD 0 = M.things[k]?.getD 0 ∧ eqLL (sameT M.things) t.kids u.kids = true
    · rw [if_pos hc, if_pos ⟨hc.1, fun e => hc.2.1 (h3.1 e), hc.2.2⟩]
    · rw [if_neg hc, if_neg (fun h => hc ⟨h.1, fun e => h.2.1 (h3.2 e), h.2.2⟩)]
theorem name_fun {M : ModelD} {g : Int → Int} (hg : InjOn M g) {ts : List TermD} (hl : ts.length = M.things.length) (hts : ∀ u ∈ ts, KidsIn M.things.length u) :
    ∀ (l : List TermD) (i : Nat), i + l.length ≤ M.things.length → (∀ u ∈ l, KidsIn M.things.length u) → funH (nameM M g) ts l i = funH M ts l i
  | [], _, _, _ => rfl
  | t :: r, i, hi, hu => by
    simp only [List.length_cons] at hi
    have h1 := name_fun hg hl hts r (i + 1) (by omega) (fun v hv => hu v (by simp [hv]))
    have h2 := name_inner hg (show i < M.things.length by omega) (hu t (by simp)) (ts.take i) 0 (by simp; omega) (fun v hv => hts v (List.mem_of_mem_take hv))
    rw [funH, funH, h1, h2]
theorem name_atoms {M : ModelD} {g : Int → Int} (hg : InjOn M g) {ni : Nat} : ∀ (l : List AtomD) (i : Nat), (∀ x ∈ l, AtomOk M.things.length ni x) → atomsH (nameM M g) l i = atomsH M l i
  | [], _, _ => rfl
  | x :: r, i, h => by
    have h1 := name_atoms hg r (i + 1) (fun y hy => h y (by simp [hy]))
    have h2 : atomV (nameM M g) x i = atomV M x i := by
      unfold atomV
      by_cases hk : x.kind = 2
      · rw [if_pos hk, if_pos hk]
        obtain ⟨ha, hb⟩ := (h x (by simp)).1 hk
        exact name_sameT hg ha hb
      · rw [if_neg hk, if_neg hk]; rfl
    rw [atomsH, atomsH, h1, h2]; rfl
/-- things' names do not matter -/
theorem names_law {F : FormD} {M : ModelD} {g : Int → Int} (hg : InjOn M g) (hok : FitOk F M) : formH F (nameM M g) = formH F M := by
  have hl : F.terms.length = M.things.length := hok.lt.symm
  have hk : ∀ u ∈ F.terms, KidsIn M.things.length u := fun u hu x hx => by rw [← hl]; exact (hok.terms u hu).2 x hx
  unfold formH
  rw [intsH_same (M := nameM M g) (N := M) rfl, name_atoms (ni := F.ints.length) hg F.atoms 0 (by rw [← hl]; exact hok.atoms), name_fun hg hl hk F.terms 0 (by omega) hk]
  rfl
/-- the law's own names -/
theorem seven_inj {b x y : Int} (hx : 0 ≤ x ∧ x < 3) (hy : 0 ≤ y ∧ y < 3) (h : (x * 7 + b) % 101 = (y * 7 + b) % 101) : x = y := by omega
end Go.Proofs.YtfogiljgecmakaaGreat
namespace Go.Proofs.YtfogiljgecmakaaGreat
open Go.RowKit

/-- what the kit's ModelOf makes, and what the laws make of it -/
structure KModel (F : FormD) (M : ModelD) : Prop where
  lh : M.holds.length = F.atoms.length
  lt : M.things.length = F.terms.length
  ln : M.nums.length = F.ints.length
  things : ∀ x ∈ M.things, 0 ≤ x ∧ x ≤ 1000
  nums : ∀ y ∈ M.nums, fracGood y.num y.den = true
theorem idx_none {α : Type} {p : α → Bool} {l : List α} (h : ∀ x ∈ l, p x = false) : ¬ 0 ≤ idx p l 0 := by
  have h1 := idx_any p l 0 (by omega)
  intro h2
  rw [decide_eq_true h2] at h1
  obtain ⟨x, hx, h3⟩ := List.any_eq_true.1 h1.symm
  rw [h x hx] at h3
  cases h3
theorem KModel.fits {F : FormD} {M : ModelD} (h : KModel F M) (hF : (formF F).1 = 0) : fitsF F M = (0, 0) := by
  unfold fitsF fitsOnly
  have h1 : ¬ 0 ≤ idx thingBad M.things 0 := idx_none fun x hx => by
    have := h.things x hx
    simp only [thingBad, decide_eq_false_iff_not]; omega
  have h2 : ¬ 0 ≤ idx fracBad M.nums 0 := idx_none fun y hy => by rw [fracBad, h.nums y hy]; rfl
  rw [if_pos hF, if_neg (fun e => e h.lh), if_neg (fun e => e h.lt), if_neg (fun e => e h.ln), if_neg h1, if_neg h2]
theorem KModel.turn {F : FormD} {M : ModelD} (h : KModel F M) (k : Nat) : KModel F (turnM M k) :=
  ⟨by show (M.holds.set k _).length = _; rw [List.length_set]; exact h.lh, h.lt, h.ln, h.things, h.nums⟩
theorem KModel.name {F : FormD} {M : ModelD} (h : KModel F M) {g : Int → Int} (hg : ∀ x ∈ M.things, 0 ≤ g x ∧ g x ≤ 1000) : KModel F (nameM M g) :=
  ⟨h.lh, by show (M.things.map g).length = _; rw [List.length_map]; exact h.lt, h.ln, fun x hx => by
    obtain ⟨y, hy, rfl⟩ := List.mem_map.1 hx
    exact hg y hy, h.nums⟩
/-- the same form with other clauses -/
theorem KModel.clauses {F : FormD} {M : ModelD} (h : KModel F M) (cs : List (List Int)) : KModel ⟨F.terms, F.ints, F.atoms, cs⟩ M := ⟨h.lh, h.lt, h.ln, h.things, h.nums⟩
/-- the fractions that ModelOf makes -/
theorem whole_good {p : Int} (h : -4 ≤ p ∧ p ≤ 4) : fracGood p 1 = true := by
  simp only [fracGood, decide_eq_true_eq]
  refine ⟨by omega, by omega, by omega, by omega, ?_⟩
  rw [Int.gcd_one_right]
theorem half_good {p : Int} (h : 0 ≤ p ∧ p ≤ 5) : fracGood (2 * p - 5) 2 = true := by
  rcases (by omega : p = 0 ∨ p = 1 ∨ p = 2 ∨ p = 3 ∨ p = 4 ∨ p = 5) with rfl | rfl | rfl | rfl | rfl | rfl <;> decide
/-- what form.Holds answers of it -/
theorem KModel.holds_ok {F : FormD} {M : ModelD} (h : KModel F M) (hF : (formF F).1 = 0) : holdsF F M = (formH F M, 0, 0) := by
  unfold holdsF
  rw [if_pos (by rw [h.fits hF])]
end Go.Proofs.YtfogiljgecmakaaGreat
