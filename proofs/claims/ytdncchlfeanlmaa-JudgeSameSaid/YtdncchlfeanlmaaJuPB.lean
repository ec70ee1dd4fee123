/- Plain: the laws JudgeRows and JudgeSame: what whyJ says of their forms. No walk. -/
import Derived.Test.YtdncchlfeanlmaaJuCS
namespace Go.Proofs.Ytdncchlfeanlmaa
open Go.RowKit

/-- clauses that are units, and the negation of a clause of them -/
theorem clash_units {C : List (List Int)} {c : List Int} (hc : c ∈ C) (h : ∀ k ∈ c, [-k] ∈ C) : Clash C [] :=
  ⟨c, hc, fun k hk => .unit (h k hk) (List.mem_singleton_self _) fun _ hj hne => absurd (List.mem_singleton.1 hj) hne⟩
theorem low1 {n : Int} (h0 : -1073741824 ≤ n) (h1 : n ≤ 1073741824) : lowF n 1 = some ⟨n, 1⟩ := by
  unfold lowF
  have hg : Int.gcd n 1 = 1 := by simp [Int.gcd]
  rw [hg]
  have e1 : n.tdiv ((1 : Nat) : Int) = n := by simp
  rw [e1, if_neg (by simp; omega)]
  rfl
theorem addC_one {a x k : Int} (h1 : -100000 ≤ x * k ∧ x * k ≤ 100000) (h2 : -100000 ≤ a ∧ a ≤ 100000) : addC ⟨a, 1⟩ x ⟨k, 1⟩ = some ⟨a + x * k, 1⟩ := by
  unfold addC timesQ addQ
  simp only [Int.mul_one]
  rw [low1 (by omega) (by omega)]
  simp only [Option.bind_some, Int.mul_one]
  rw [low1 (by omega) (by omega)]
theorem good1 {k : Int} (h0 : 0 ≤ k) (h1 : k ≤ 100) : fracGood k 1 = true := by
  have hg : Int.gcd k 1 = 1 := by simp [Int.gcd]
  simp [fracGood, hg]
  omega
theorem mul_small {p k : Int} (hp : -100 ≤ p ∧ p ≤ 100) (hk : 0 ≤ k ∧ k ≤ 100) : -10000 ≤ p * k ∧ p * k ≤ 10000 := by
  have h1 : p * k ≤ 100 * k := Int.mul_le_mul_of_nonneg_right hp.2 hk.1
  have h2 : -100 * k ≤ p * k := Int.mul_le_mul_of_nonneg_right hp.1 hk.1
  omega

def rowsForm (p q : Int) : FormD := ⟨[], [false], [⟨3, 0, 0, ⟨[1], 1, p⟩⟩, ⟨3, 0, 0, ⟨[-1], 1, q⟩⟩], [[1], [2]]⟩
def rowsSteps (k m : Int) : List StepD := [⟨4, [-1, -2], [⟨k, 1⟩, ⟨m, 1⟩], nilAtom⟩, ⟨1, [], [], nilAtom⟩]
theorem rowsForm_ok {p q : Int} (hp : -100 ≤ p ∧ p ≤ 100) (hq : -100 ≤ q ∧ q ≤ 100) : formF (rowsForm p q) = (0, 0) := by
  have h1 : ∀ (c p : Int), (c = 1 ∨ c = -1) → -100 ≤ p ∧ p ≤ 100 → atomCode ⟨3, 0, 0, ⟨[c], 1, p⟩⟩ 0 ((1 : Nat) : Int) = 0 := fun c p hc hp => by
    unfold atomCode
    rw [if_neg (by simp), if_neg (by simp), if_neg (by simp), if_pos rfl, rowCode_rest (by omega) (by simp)]
    rw [if_pos]
    have hw : wholeB c = true := by rcases hc with rfl | rfl <;> rfl
    have hw2 : wholeB p = true := by simp only [wholeB, decide_eq_true_eq]; omega
    simp [hw, hw2]
  unfold formF
  rw [if_pos (show (termsF (rowsForm p q).terms).1 = 0 from rfl), if_neg (by simp [rowsForm])]
  have ha : atomsF (rowsForm p q) = (0, 0) := by
    unfold atomsF rowsForm
    simp only [List.length_nil, List.length_singleton, Int.natCast_zero, firstBad]
    rw [if_pos (h1 1 p (.inl rfl) hp), if_pos (h1 (-1) q (.inr rfl) hq)]
  rw [ha, if_pos rfl]
  rfl
theorem rows_sum {p q k m : Int} (hp : -100 ≤ p ∧ p ≤ 100) (hq : -100 ≤ q ∧ q ≤ 100) (hk : 0 ≤ k ∧ k ≤ 100) (hm : 0 ≤ m ∧ m ≤ 100) :
    rowsF 1 (rowsForm p q).atoms [-1, -2] [⟨k, 1⟩, ⟨m, 1⟩] = decide (k = m ∧ p * k + q * m < 0) := by
  have b1 := mul_small hp hk
  have b2 := mul_small hq hm
  have t1 : takeF (sum0 1) ⟨[1], 1, p⟩ false ⟨k, 1⟩ = some ⟨[⟨k, 1⟩], ⟨p * k, 1⟩, false⟩ := by
    unfold takeF
    rw [if_neg (by simp), if_neg (by simp; omega)]
    have e1 : addRow ⟨k, 1⟩ (signF false) (sum0 1).of_ [1] = some [⟨k, 1⟩] := by
      show ((addC ⟨0, 1⟩ (1 * 1) ⟨k, 1⟩).bind fun a' => (some []).map (a' :: ·)) = _
      rw [addC_one (by omega) (by omega)]
      simp
    have e2 : addC (sum0 1).to_ (signF false * p) ⟨k, 1⟩ = some ⟨p * k, 1⟩ := by
      show addC ⟨0, 1⟩ (1 * p) ⟨k, 1⟩ = _
      rw [Int.one_mul, addC_one (by omega) (by omega), Int.zero_add]
    rw [e1, e2]
    rfl
  have t2 : takeF ⟨[⟨k, 1⟩], ⟨p * k, 1⟩, false⟩ ⟨[-1], 1, q⟩ false ⟨m, 1⟩ = some ⟨[⟨k - m, 1⟩], ⟨p * k + q * m, 1⟩, false⟩ := by
    unfold takeF
    rw [if_neg (by simp), if_neg (by simp; omega)]
    have e1 : addRow ⟨m, 1⟩ (signF false) [⟨k, 1⟩] [-1] = some [⟨k - m, 1⟩] := by
      show ((addC ⟨k, 1⟩ (1 * -1) ⟨m, 1⟩).bind fun a' => (some []).map (a' :: ·)) = _
      rw [addC_one (by omega) (by omega)]
      simp only [Option.bind_some, Option.map_some, Option.some.injEq, List.cons.injEq, FracD.mk.injEq, and_true]
      omega
    have e2 : addC ⟨p * k, 1⟩ (signF false * q) ⟨m, 1⟩ = some ⟨p * k + q * m, 1⟩ := by
      show addC ⟨p * k, 1⟩ (1 * q) ⟨m, 1⟩ = _
      rw [Int.one_mul, addC_one (by omega) (by omega)]
    dsimp only
    rw [e1, e2]
    rfl
  have hs : sumF (rowsForm p q).atoms (sum0 1) [-1, -2] [⟨k, 1⟩, ⟨m, 1⟩] = some ⟨[⟨k - m, 1⟩], ⟨p * k + q * m, 1⟩, false⟩ := by
    rw [sumF, if_pos (good1 hk.1 hk.2), show (atomAt (rowsForm p q).atoms (-1)).row = ⟨[1], 1, p⟩ from rfl, show decide ((0 : Int) < -1) = false from rfl, t1, Option.bind_some, sumF, if_pos (good1 hm.1 hm.2),
      show (atomAt (rowsForm p q).atoms (-2)).row = ⟨[-1], 1, q⟩ from rfl, show decide ((0 : Int) < -2) = false from rfl, t2, Option.bind_some, sumF]
  unfold rowsF
  rw [hs, show allK (rowsForm p q).atoms 3 [-1, -2] = true from rfl]
  simp only [List.length_cons, List.length_nil, decide_true, Bool.true_and, sumOk, List.all_cons, List.all_nil, Bool.and_true, Bool.and_false, Bool.or_false]
  rw [Bool.eq_iff_iff]
  simp only [Bool.and_eq_true, decide_eq_true_eq]
  omega
theorem rows_law {p q k m : Int} (hp : -100 ≤ p ∧ p ≤ 100) (hq : -100 ≤ q ∧ q ≤ 100) (hk : 1 ≤ k ∧ k ≤ 50) (hm : m = k ∨ m = k + 1) :
    whyJ (rowsForm p q) (rowsSteps k m) = (if m = k ∧ p + q < 0 then -1 else 0, 0, 0) := by
  unfold whyJ
  rw [rowsForm_ok hp hq, if_neg (by simp), if_neg (by simp [rowsSteps])]
  congr 1
  have hf1 : formedF 2 ⟨4, [-1, -2], [⟨k, 1⟩, ⟨m, 1⟩], nilAtom⟩ = true := rfl
  have hR := rows_sum (k := k) (m := m) hp hq ⟨by omega, by omega⟩ ⟨by omega, by omega⟩
  have hs1 : stepJ (rowsForm p q).terms (rowsForm p q).ints ⟨(rowsForm p q).atoms, (rowsForm p q).clauses⟩ ⟨4, [-1, -2], [⟨k, 1⟩, ⟨m, 1⟩], nilAtom⟩ = if decide (k = m ∧ p * k + q * m < 0) = true then some ⟨(rowsForm p q).atoms, [[1], [2], [-1, -2]]⟩ else none := by
    exact stepJ_test (s := ⟨(rowsForm p q).atoms, (rowsForm p q).clauses⟩) (x := ⟨4, [-1, -2], [⟨k, 1⟩, ⟨m, 1⟩], nilAtom⟩) hf1 (by simp) (by simp) (by rw [if_neg (by simp), if_neg (by simp), if_pos rfl]; exact hR)
  have hiff : (k = m ∧ p * k + q * m < 0) ↔ (m = k ∧ p + q < 0) := by
    constructor
    · rintro ⟨rfl, h⟩
      refine ⟨rfl, ?_⟩
      rw [← Int.add_mul] at h
      have := Int.neg_of_mul_neg_right (a := k) (b := p + q) (by rw [Int.mul_comm]; exact h) (by omega)
      exact this
    · rintro ⟨rfl, h⟩
      refine ⟨rfl, ?_⟩
      rw [← Int.add_mul]
      exact Int.mul_neg_of_neg_of_pos h (by omega)
  unfold rowsSteps
  rw [runJ, hs1]
  by_cases h : m = k ∧ p + q < 0
  · rw [if_pos h, if_pos (decide_eq_true (hiff.2 h))]
    dsimp only
    have hc : Clash [[1], [2], [-1, -2]] (([] : List Int).map fun l => -l) := clash_units (c := [-1, -2]) (by simp) (by intro k hk; simp only [List.mem_cons, List.not_mem_nil, or_false] at hk; rcases hk with rfl | rfl <;> simp)
    have hs2 : stepJ (rowsForm p q).terms (rowsForm p q).ints ⟨(rowsForm p q).atoms, [[1], [2], [-1, -2]]⟩ ⟨1, [], [], nilAtom⟩ = some ⟨(rowsForm p q).atoms, [[1], [2], [-1, -2], []]⟩ := by
      exact stepJ_test (R := true) (show formedF 2 ⟨1, [], [], nilAtom⟩ = true by decide) (by decide) (by decide) (by rw [if_pos rfl]; exact @decide_eq_true _ (Classical.propDecidable _) hc)
    rw [runJ, hs2]
    rfl
  · rw [if_neg h, if_neg (by rw [decide_eq_true_eq]; exact fun e => h (hiff.1 e))]

def sameTerms (n : Nat) : List TermD := (List.range n).map (fun i : Nat => ⟨(i : Int), []⟩) ++ [⟨90, [0]⟩, ⟨90, [(n : Int) - 1]⟩]
def sameAtoms (n : Nat) : List AtomD := (List.range (n - 1)).map (fun i : Nat => ⟨2, (i : Int), (i : Int) + 1, ⟨[], 0, 0⟩⟩) ++ [⟨2, (n : Int), (n : Int) + 1, ⟨[], 0, 0⟩⟩]
def sameCls (n : Nat) : List (List Int) := (List.range (n - 1)).map (fun i : Nat => [(i : Int) + 1]) ++ [[-(n : Int)]]
def sameForm (n : Nat) : FormD := ⟨sameTerms n, [], sameAtoms n, sameCls n⟩
def sameAll (n : Nat) : List Int := (List.range (n - 1)).map fun i : Nat => -((i : Int) + 1)
def sameFew (n g : Nat) : List Int := (sameAll n).take g ++ (sameAll n).drop (g + 1)
def sameSteps (l : List Int) : List StepD := [⟨3, l, [], nilAtom⟩, ⟨1, [], [], nilAtom⟩]
theorem same_forms : ∀ n : Fin 10, 2 ≤ n.val → formF (sameForm n) = (0, 0) ∧ formedF (sameAtoms n).length ⟨3, sameAll n ++ [(n.val : Int)], [], nilAtom⟩ = true ∧ allK (sameAtoms n) 2 (sameAll n ++ [(n.val : Int)]) = true ∧
    pairsOf (sameAtoms n) (sameAll n ++ [(n.val : Int)]) = (List.range (n - 1)).map (fun i : Nat => ((i : Int), (i : Int) + 1)) ∧ ((atomAt (sameAtoms n) n.val).a = n.val ∧ (atomAt (sameAtoms n) n.val).b = n.val + 1) ∧ formedF (sameAtoms n).length ⟨1, [], [], nilAtom⟩ = true := by decide +kernel
theorem same_fews : ∀ n : Fin 10, ∀ g : Fin 10, g.val + 1 < n.val → formedF (sameAtoms n).length ⟨3, sameFew n g ++ [(n.val : Int)], [], nilAtom⟩ = true ∧ allK (sameAtoms n) 2 (sameFew n g ++ [(n.val : Int)]) = true ∧
    (pairsOf (sameAtoms n) (sameFew n g ++ [(n.val : Int)])).all (fun p => decide (0 ≤ p.1 ∧ p.1 + 1 < n.val ∧ p.2 = p.1 + 1 ∧ ¬ p.1 = g.val)) = true ∧ (sameFew n g).all (fun l => decide (l < 0)) = true := by decide +kernel
theorem sameTerms_at {n i : Nat} {t : TermD} (h : (sameTerms n)[i]? = some t) : (i < n ∧ t = ⟨(i : Int), []⟩) ∨ (i = n ∧ t = ⟨90, [0]⟩) ∨ (i = n + 1 ∧ t = ⟨90, [(n : Int) - 1]⟩) := by
  unfold sameTerms at h
  rcases Nat.lt_or_ge i n with hi | hi
  · rw [List.getElem?_append_left (by simpa using hi)] at h
    simp only [List.getElem?_map, List.getElem?_range hi, Option.map_some, Option.some.injEq] at h
    exact .inl ⟨hi, h.symm⟩
  · rw [List.getElem?_append_right (by simpa using hi)] at h
    simp only [List.length_map, List.length_range] at h
    rcases (by omega : i - n = 0 ∨ i - n = 1 ∨ 2 ≤ i - n) with e | e | e
    · rw [e] at h
      simp only [List.getElem?_cons_zero, Option.some.injEq] at h
      exact .inr (.inl ⟨by omega, h.symm⟩)
    · rw [e] at h
      simp only [List.getElem?_cons_succ, List.getElem?_cons_zero, Option.some.injEq] at h
      exact .inr (.inr ⟨by omega, h.symm⟩)
    · rw [List.getElem?_eq_none (by simpa using e)] at h
      cases h
theorem sameTerms_n (n : Nat) : (sameTerms n)[n]? = some ⟨90, [0]⟩ ∧ (sameTerms n)[n + 1]? = some ⟨90, [(n : Int) - 1]⟩ := by
  unfold sameTerms
  rw [List.getElem?_append_right (by simp), List.getElem?_append_right (by simp)]
  simp
theorem same_chain {n : Nat} {ps : List (Int × Int)} (h : ∀ i : Nat, i + 1 < n → ((i : Int), (i : Int) + 1) ∈ ps) : ∀ j : Nat, j < n → Cong (sameTerms n) ps 0 j
  | 0, _ => .refl 0
  | j + 1, hj => (same_chain h j (by omega)).trans (by
      have := Cong.pair (ts := sameTerms n) (h j hj)
      simpa using this)
theorem same_yes {n : Nat} {ps : List (Int × Int)} (hn : 1 ≤ n) (h : ∀ i : Nat, i + 1 < n → ((i : Int), (i : Int) + 1) ∈ ps) : Cong (sameTerms n) ps n (n + 1) := by
  refine .app (sameTerms_n n).1 (sameTerms_n n).2 rfl rfl fun m x y hx hy => ?_
  rcases m with _ | m
  · simp only [List.getElem?_cons_zero, Option.some.injEq] at hx hy
    subst hx
    subst hy
    have := same_chain h (n - 1) (by omega)
    rwa [show n - 1 = ((n : Int) - 1).toNat by omega] at this
  · simp at hx
def sameCl (n g a : Nat) : Nat := if a < n then (if a ≤ g then 0 else 1) else a
theorem same_no {n g : Nat} {ps : List (Int × Int)} (hn : n ≤ 9) (hg : g + 1 < n) (h : ∀ p ∈ ps, 0 ≤ p.1 ∧ p.1 + 1 < n ∧ p.2 = p.1 + 1 ∧ ¬ p.1 = g) {a b : Nat} (hc : Cong (sameTerms n) ps a b) : sameCl n g a = sameCl n g b := by
  induction hc with
  | refl a => rfl
  | symm _ ih => exact ih.symm
  | trans _ _ ih1 ih2 => exact ih1.trans ih2
  | @pair x y hp =>
    obtain ⟨h1, h2, h3, h4⟩ := h _ hp
    dsimp only at h1 h2 h3 h4
    unfold sameCl
    repeat' split
    all_goals omega
  | @app i k t u hi hk hh hl _ ih =>
    rcases sameTerms_at hi with ⟨h1, rfl⟩ | ⟨h1, rfl⟩ | ⟨h1, rfl⟩ <;> rcases sameTerms_at hk with ⟨h2, rfl⟩ | ⟨h2, rfl⟩ | ⟨h2, rfl⟩ <;> dsimp only at hh
    · rw [show i = k by omega]
    · omega
    · omega
    · omega
    · rw [h1, h2]
    · have := ih 0 0 ((n : Int) - 1) rfl rfl
      unfold sameCl at this
      repeat' split at this
      all_goals omega
    · omega
    · have := ih 0 ((n : Int) - 1) 0 rfl rfl
      unfold sameCl at this
      repeat' split at this
      all_goals omega
    · rw [h1, h2]
theorem same_any (n : Nat) (ts : List TermD) (ats : List AtomD) (l : List Int) (hn : 1 ≤ n) (hl : ∀ x ∈ l, x < 0) (hk : allK ats 2 (l ++ [(n : Int)]) = true) (ha : (atomAt ats n).a = n ∧ (atomAt ats n).b = n + 1) :
    sameF ts ats (l ++ [(n : Int)]) = congB ts (pairsOf ats (l ++ [(n : Int)])) n (n + 1) := by
  unfold sameF
  rw [hk, Bool.true_and, List.any_append, List.any_eq_false.2 (fun x hx => by have := hl x hx; rw [decide_eq_false (by omega)]; simp), Bool.false_or, List.any_cons, List.any_nil, Bool.or_false, ha.1, ha.2, decide_eq_true (by omega), Bool.true_and]
  congr 1
theorem same_law {n g : Nat} (h2 : 2 ≤ n) (h9 : n ≤ 9) (hg : g + 1 < n) :
    whyJ (sameForm n) (sameSteps (sameAll n ++ [(n : Int)])) = (-1, 0, 0) ∧ whyJ (sameForm n) (sameSteps (sameFew n g ++ [(n : Int)])) = (0, 0, 0) := by
  obtain ⟨hf, hfm, hk, hp, ha, hf1⟩ := same_forms ⟨n, by omega⟩ h2
  obtain ⟨hfm', hk', hp', hneg⟩ := same_fews ⟨n, by omega⟩ ⟨g, by omega⟩ hg
  dsimp only at hf hfm hk hp ha hf1 hfm' hk' hp' hneg
  refine ⟨?_, ?_⟩
  · unfold whyJ
    rw [hf, if_neg (by simp), if_neg (by simp [sameSteps])]
    congr 1
    have hmem : ∀ x ∈ sameAll n, ∃ i : Nat, i + 1 < n ∧ x = -((i : Int) + 1) := fun x hx => by
      obtain ⟨i, hi, rfl⟩ := List.mem_map.1 hx
      exact ⟨i, by have := List.mem_range.1 hi; omega, rfl⟩
    have hsame : sameF (sameTerms n) (sameAtoms n) (sameAll n ++ [(n : Int)]) = true := by
      rw [same_any n _ _ _ (by omega) (fun x hx => by obtain ⟨i, _, rfl⟩ := hmem x hx; omega) hk ha, congB_iff, hp]
      exact same_yes (by omega) fun i hi => List.mem_map.2 ⟨i, List.mem_range.2 (by omega), rfl⟩
    have hs1 : stepJ (sameTerms n) [] ⟨sameAtoms n, sameCls n⟩ ⟨3, sameAll n ++ [(n : Int)], [], nilAtom⟩ = some ⟨sameAtoms n, sameCls n ++ [sameAll n ++ [(n : Int)]]⟩ := by
      exact stepJ_test (R := true) hfm (by simp) (by simp) (by rw [if_neg (by simp), if_pos rfl]; exact hsame)
    have hc : Clash (sameCls n ++ [sameAll n ++ [(n : Int)]]) (([] : List Int).map fun l => -l) := clash_units (c := sameAll n ++ [(n : Int)]) (by simp) (fun k hk => by
      rcases List.mem_append.1 hk with hk | hk
      · obtain ⟨i, hi, rfl⟩ := hmem k hk
        exact List.mem_append_left _ (List.mem_append_left _ (List.mem_map.2 ⟨i, List.mem_range.2 (by omega), by rw [Int.neg_neg]⟩))
      · rw [List.mem_singleton] at hk
        subst hk
        exact List.mem_append_left _ (List.mem_append_right _ (List.mem_singleton_self _)))
    have hs2 : stepJ (sameTerms n) [] ⟨sameAtoms n, sameCls n ++ [sameAll n ++ [(n : Int)]]⟩ ⟨1, [], [], nilAtom⟩ = some ⟨sameAtoms n, sameCls n ++ [sameAll n ++ [(n : Int)]] ++ [[]]⟩ := by
      exact stepJ_test (R := true) hf1 (by decide) (by decide) (by rw [if_pos rfl]; exact @decide_eq_true _ (Classical.propDecidable _) hc)
    show runJ (sameTerms n) [] ⟨sameAtoms n, sameCls n⟩ (sameSteps (sameAll n ++ [(n : Int)])) 0 = -1
    unfold sameSteps
    rw [runJ, hs1]
    dsimp only
    rw [runJ, hs2]
    dsimp only
    rw [runJ, if_pos (List.any_eq_true.2 ⟨[], List.mem_append_right _ (List.mem_singleton_self _), rfl⟩)]
  · unfold whyJ
    rw [hf, if_neg (by simp), if_neg (by simp [sameSteps])]
    congr 1
    have hsame : sameF (sameTerms n) (sameAtoms n) (sameFew n g ++ [(n : Int)]) = false := by
      rw [same_any n _ _ _ (by omega) (fun x hx => of_decide_eq_true (List.all_eq_true.1 hneg x hx)) hk' ha]
      cases hb : congB (sameTerms n) (pairsOf (sameAtoms n) (sameFew n g ++ [(n : Int)])) n (n + 1) with
      | false => rfl
      | true =>
        have := same_no h9 hg (fun p hp => of_decide_eq_true (List.all_eq_true.1 hp' p hp)) (congB_iff.1 hb)
        unfold sameCl at this
        rw [if_neg (by omega), if_neg (by omega)] at this
        omega
    have hs1 : stepJ (sameTerms n) [] ⟨sameAtoms n, sameCls n⟩ ⟨3, sameFew n g ++ [(n : Int)], [], nilAtom⟩ = none := by
      exact stepJ_test (R := false) hfm' (by simp) (by simp) (by rw [if_neg (by simp), if_pos rfl]; exact hsame)
    show runJ (sameTerms n) [] ⟨sameAtoms n, sameCls n⟩ (sameSteps (sameFew n g ++ [(n : Int)])) 0 = 0
    unfold sameSteps
    rw [runJ, hs1]
end Go.Proofs.Ytdncchlfeanlmaa
