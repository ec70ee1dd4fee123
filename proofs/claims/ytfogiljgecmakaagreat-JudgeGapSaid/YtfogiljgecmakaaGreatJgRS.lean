/- Plain: the judge's sums of rows, as fractions of Lean: what they come to (printed by no program). · Plain: no form with a model is refuted: each step that the judge takes keeps the model. -/
import Derived.Test.YtfogiljgecmakaaGreatJuCF
import Derived.Test.YtfogiljgecmakaaGreatLhTV
import Derived.Test.YtfogiljgecmakaaGreatJuEP
import Derived.Test.YtfogiljgecmakaaGreatEWT
namespace Go.Proofs.YtfogiljgecmakaaGreat
open Go.RowKit

theorem ratF_num {f : FracD} (h : 0 < f.den) : ratF f * (f.den : Rat) = (f.num : Rat) := by
  unfold ratF
  rw [Rat.mkRat_eq_div]
  have e : ((f.den.toNat : Nat) : Rat) = (f.den : Rat) := by
    rw [← Rat.intCast_natCast, Int.toNat_of_nonneg (by omega)]
  rw [e]
  refine Rat.div_mul_cancel ?_
  intro h0
  have : ((f.den : Int) : Rat) = ((0 : Int) : Rat) := h0
  rw [Rat.intCast_inj] at this
  omega
theorem ratF_zero {f : FracD} (h : f.num = 0) : ratF f = 0 := by
  unfold ratF; rw [h]; exact Rat.zero_mkRat _
theorem den_pos {f : FracD} (h : 0 < f.den) : (0 : Rat) < (f.den : Rat) := by
  have := Rat.intCast_lt_intCast.2 h
  exact this
theorem ratF_nonneg {f : FracD} (h : 0 < f.den) (hn : ¬ f.num < 0) : 0 ≤ ratF f := by
  have h1 := ratF_num h
  have h2 := den_pos h
  have h3 : ((0 : Int) : Rat) ≤ (f.num : Rat) := Rat.intCast_le_intCast.2 (by omega)
  refine Rat.not_lt.1 fun hl => ?_
  have h4 : 0 < (-ratF f) * (f.den : Rat) := Rat.mul_pos (by grind) h2
  have h5 : ((0 : Int) : Rat) = 0 := rfl
  grind
theorem ratF_pos {f : FracD} (h : 0 < f.den) (hn : ¬ f.num < 0) (h0 : ¬ f.num = 0) : 0 < ratF f := by
  have h1 := ratF_num h
  have h3 := ratF_nonneg h hn
  refine Rat.not_le.1 fun hl => ?_
  have h4 : ratF f = 0 := Rat.le_antisymm hl h3
  rw [h4, Rat.zero_mul] at h1
  have h5 : ((0 : Int) : Rat) = (f.num : Rat) := h1
  rw [Rat.intCast_inj] at h5
  omega
theorem ratF_neg {f : FracD} (h : 0 < f.den) (hn : f.num < 0) : ratF f < 0 := by
  have h1 := ratF_num h
  have h2 := den_pos h
  refine Rat.not_le.1 fun hl => ?_
  have h3 : 0 ≤ ratF f * (f.den : Rat) := Rat.mul_nonneg hl (Rat.le_of_lt h2)
  rw [h1] at h3
  have h4 : ((0 : Int) : Rat) ≤ (f.num : Rat) := h3
  rw [Rat.intCast_le_intCast] at h4
  omega
theorem lowF_rat {n d : Int} {f : FracD} (hd : 0 < d) (h : lowF n d = some f) : ratF f = mkRat n d.toNat ∧ 0 < f.den := by
  unfold lowF at h
  split at h
  · cases h
  injection h with h
  subst h
  have hg : 0 < Int.gcd n d := Int.gcd_pos_of_ne_zero_right _ (by omega)
  obtain ⟨g, hgg⟩ : ∃ g, Int.gcd n d = g := ⟨_, rfl⟩
  have h1 : (g : Int) ∣ n := hgg ▸ Int.gcd_dvd_left n d
  have h2 : (g : Int) ∣ d := hgg ▸ Int.gcd_dvd_right n d
  rw [hgg] at hg ⊢
  obtain ⟨a, rfl⟩ := h1
  obtain ⟨b, rfl⟩ := h2
  have hg0 : (0 : Int) < (g : Int) := by omega
  have hb : 0 < b := by
    refine Int.not_le.1 fun hle => ?_
    have := Int.mul_le_mul_of_nonneg_left hle (Int.le_of_lt hg0)
    omega
  rw [Int.mul_tdiv_cancel_left _ (by omega), Int.mul_tdiv_cancel_left _ (by omega)]
  refine ⟨?_, hb⟩
  show mkRat a b.toNat = _
  obtain ⟨B, rfl⟩ : ∃ B : Nat, b = (B : Int) := ⟨b.toNat, by omega⟩
  rw [Int.toNat_natCast, ← Int.natCast_mul, Int.toNat_natCast, Rat.mkRat_mul_left (by omega)]
theorem addQ_rat {a b f : FracD} (ha : 0 < a.den) (hb : 0 < b.den) (h : addQ a b = some f) : ratF f = ratF a + ratF b ∧ 0 < f.den := by
  obtain ⟨h1, h2⟩ := lowF_rat (Int.mul_pos ha hb) h
  refine ⟨?_, h2⟩
  rw [h1]
  unfold ratF
  obtain ⟨A, hA⟩ : ∃ A : Nat, a.den = (A : Int) := ⟨a.den.toNat, by omega⟩
  obtain ⟨B, hB⟩ : ∃ B : Nat, b.den = (B : Int) := ⟨b.den.toNat, by omega⟩
  rw [hA, hB, ← Int.natCast_mul, Int.toNat_natCast, Int.toNat_natCast, Int.toNat_natCast, Rat.mkRat_add_mkRat _ _ (by omega) (by omega)]
theorem timesQ_rat {a b f : FracD} (ha : 0 < a.den) (hb : 0 < b.den) (h : timesQ a b = some f) : ratF f = ratF a * ratF b ∧ 0 < f.den := by
  obtain ⟨h1, h2⟩ := lowF_rat (Int.mul_pos ha hb) h
  refine ⟨?_, h2⟩
  rw [h1]
  unfold ratF
  obtain ⟨A, hA⟩ : ∃ A : Nat, a.den = (A : Int) := ⟨a.den.toNat, by omega⟩
  obtain ⟨B, hB⟩ : ∃ B : Nat, b.den = (B : Int) := ⟨b.den.toNat, by omega⟩
  rw [hA, hB, ← Int.natCast_mul, Int.toNat_natCast, Int.toNat_natCast, Int.toNat_natCast, Rat.mkRat_mul_mkRat]
theorem ratF_int (x : Int) : ratF ⟨x, 1⟩ = (x : Rat) := by
  have := ratF_num (f := ⟨x, 1⟩) (by show (0 : Int) < 1; omega)
  have e : (((1 : Int)) : Rat) = 1 := rfl
  simp only [e, Rat.mul_one] at this
  exact this
theorem addC_rat {a m f : FracD} {x : Int} (ha : 0 < a.den) (hm : 0 < m.den) (h : addC a x m = some f) : ratF f = ratF a + (x : Rat) * ratF m ∧ 0 < f.den := by
  unfold addC at h
  cases hp : timesQ ⟨x, 1⟩ m with
  | none => rw [hp] at h; cases h
  | some p =>
    rw [hp, Option.bind_some] at h
    obtain ⟨h1, h2⟩ := timesQ_rat (a := ⟨x, 1⟩) (by show (0 : Int) < 1; omega) hm hp
    obtain ⟨h3, h4⟩ := addQ_rat ha h2 h
    exact ⟨by rw [h3, h1, ratF_int], h4⟩
/-- a sum of fractions over numbers -/
def valQ : List FracD → List Rat → Rat
  | [], _ => 0
  | _ :: _, [] => 0
  | a :: r, x :: s => ratF a * x + valQ r s
theorem addRow_rat {m : FracD} (hm : 0 < m.den) (s : Int) : ∀ (of_ : List FracD) (cs : List Int) (xs : List Rat) (o : List FracD), xs.length = of_.length → (∀ a ∈ of_, 0 < a.den) → addRow m s of_ cs = some o →
    valQ o xs = valQ of_ xs + (s : Rat) * ratF m * rowR cs xs ∧ o.length = of_.length ∧ ∀ a ∈ o, 0 < a.den
  | of_, [], xs, o, hl, hd, h => by
    have e : o = of_ := by
      cases of_ <;> (simp only [addRow, Option.some.injEq] at h; exact h.symm)
    subst e
    refine ⟨?_, rfl, hd⟩
    have e2 : rowR [] xs = 0 := by cases xs <;> rfl
    rw [e2]; grind
  | [], c :: cs, xs, o, hl, hd, h => by simp [addRow] at h
  | a :: r, c :: cs, [], o, hl, hd, h => by simp at hl
  | a :: r, c :: cs, x :: xs, o, hl, hd, h => by
    rw [addRow] at h
    cases h1 : addC a (s * c) m with
    | none => rw [h1] at h; cases h
    | some a' =>
      rw [h1, Option.bind_some] at h
      cases h2 : addRow m s r cs with
      | none => rw [h2] at h; cases h
      | some o' =>
        rw [h2, Option.map_some, Option.some.injEq] at h
        subst h
        obtain ⟨e1, e2⟩ := addC_rat (hd a (List.mem_cons_self ..)) hm h1
        obtain ⟨e3, e4, e5⟩ := addRow_rat hm s r cs xs o' (by simpa using hl) (fun b hb => hd b (List.mem_cons_of_mem _ hb)) h2
        refine ⟨?_, by simp [e4], fun b hb => by
          rcases List.mem_cons.1 hb with rfl | hb
          · exact e2
          · exact e5 b hb⟩
        rw [valQ, valQ, rowR, e1, e3, Rat.intCast_mul]
        grind
/-- what a sum says of numbers -/
def SumSays (t : SumD) (xs : List Rat) : Prop := if t.less = true then valQ t.of_ xs < ratF t.to_ else valQ t.of_ xs ≤ ratF t.to_
def SumGood (t : SumD) (n : Nat) : Prop := t.of_.length = n ∧ (∀ a ∈ t.of_, 0 < a.den) ∧ 0 < t.to_.den
/-- what a literal that is false says of a row -/
def RowSays (r : RowD) (pos : Bool) (xs : List Rat) : Prop :=
  if pos = true then (r.kind = 1 ∧ (r.to_ : Rat) < rowR r.of_ xs) ∨ (r.kind = 2 ∧ (r.to_ : Rat) ≤ rowR r.of_ xs) ∨ r.kind = 3
  else (r.kind = 1 ∧ rowR r.of_ xs ≤ (r.to_ : Rat)) ∨ (r.kind = 2 ∧ rowR r.of_ xs < (r.to_ : Rat)) ∨ (r.kind = 3 ∧ rowR r.of_ xs = (r.to_ : Rat))
theorem takeF_says {t t' : SumD} {r : RowD} {pos : Bool} {m : FracD} {xs : List Rat} (hg : SumGood t xs.length) (hm : 0 < m.den) (ht : SumSays t xs) (hr : RowSays r pos xs) (h : takeF t r pos m = some t') : SumGood t' xs.length ∧ SumSays t' xs := by
  unfold takeF at h
  split at h
  · cases h
  rename_i h1
  split at h
  · cases h
  rename_i h2
  cases ho : addRow m (signF pos) t.of_ r.of_ with
  | none => rw [ho] at h; cases h
  | some o =>
    rw [ho, Option.bind_some] at h
    cases hc : addC t.to_ (signF pos * r.to_) m with
    | none => rw [hc] at h; cases h
    | some c =>
      rw [hc, Option.map_some, Option.some.injEq] at h
      subst h
      obtain ⟨e1, e2, e3⟩ := addRow_rat hm (signF pos) t.of_ r.of_ xs o hg.1.symm hg.2.1 ho
      obtain ⟨e4, e5⟩ := addC_rat hg.2.2 hm hc
      refine ⟨⟨e2.trans hg.1, e3, e5⟩, ?_⟩
      have ht' : valQ t.of_ xs ≤ ratF t.to_ ∧ (t.less = true → valQ t.of_ xs < ratF t.to_) := by
        unfold SumSays at ht
        split at ht
        · exact ⟨Rat.le_of_lt ht, fun _ => ht⟩
        · rename_i hl; exact ⟨ht, fun e => absurd e hl⟩
      -- what the row adds
      have key : (signF pos : Rat) * ratF m * rowR r.of_ xs ≤ (signF pos : Rat) * ratF m * (r.to_ : Rat) ∧ ((lessF r.kind pos && decide (¬ m.num = 0)) = true → (signF pos : Rat) * ratF m * rowR r.of_ xs < (signF pos : Rat) * ratF m * (r.to_ : Rat)) := by
        unfold RowSays at hr
        by_cases hp : pos = true
        · subst hp
          rw [if_pos rfl] at hr
          have hk3 : ¬ r.kind = 3 := fun e => h1 ⟨rfl, e⟩
          have hm0 : 0 ≤ ratF m := ratF_nonneg hm (fun e => h2 ⟨e, hk3⟩)
          have hle : (r.to_ : Rat) ≤ rowR r.of_ xs := by
            rcases hr with ⟨_, h⟩ | ⟨_, h⟩ | h
            · exact Rat.le_of_lt h
            · exact h
            · exact absurd h hk3
          have hmul := Rat.mul_le_mul_of_nonneg_left hle hm0
          have es : ((signF true : Int) : Rat) = -1 := rfl
          rw [es]
          refine ⟨by grind, fun hls => ?_⟩
          simp only [lessF, if_true, Bool.and_eq_true, decide_eq_true_eq] at hls
          have hmp : 0 < ratF m := ratF_pos hm (fun e => h2 ⟨e, hk3⟩) hls.2
          have hlt : (r.to_ : Rat) < rowR r.of_ xs := by
            rcases hr with ⟨_, h⟩ | ⟨h, _⟩ | h
            · exact h
            · omega
            · exact absurd h hk3
          have := Rat.mul_lt_mul_of_pos_left hlt hmp
          grind
        · have hpf : pos = false := by simpa using hp
          subst hpf
          rw [if_neg (by simp)] at hr
          have es : ((signF false : Int) : Rat) = 1 := rfl
          rw [es]
          rcases hr with ⟨hk, h⟩ | ⟨hk, h⟩ | ⟨hk, h⟩
          · have hm0 : 0 ≤ ratF m := ratF_nonneg hm (fun e => h2 ⟨e, by omega⟩)
            have hmul := Rat.mul_le_mul_of_nonneg_left h hm0
            refine ⟨by grind, fun hls => ?_⟩
            simp [lessF, hk] at hls
          · have hm0 : 0 ≤ ratF m := ratF_nonneg hm (fun e => h2 ⟨e, by omega⟩)
            have hmul := Rat.mul_le_mul_of_nonneg_left (Rat.le_of_lt h) hm0
            refine ⟨by grind, fun hls => ?_⟩
            simp only [lessF, Bool.and_eq_true, decide_eq_true_eq] at hls
            have hmp : 0 < ratF m := ratF_pos hm (fun e => h2 ⟨e, by omega⟩) hls.2
            have := Rat.mul_lt_mul_of_pos_left h hmp
            grind
          · refine ⟨by rw [h]; exact Rat.le_refl, fun hls => ?_⟩
            simp [lessF, hk] at hls
      have eR : (((signF pos * r.to_ : Int)) : Rat) = (signF pos : Rat) * (r.to_ : Rat) := Rat.intCast_mul _ _
      rw [eR] at e4
      unfold SumSays
      dsimp only
      rw [e1, e4]
      split
      · rename_i hls
        rw [Bool.or_eq_true] at hls
        rcases hls with hls | hls
        · have := ht'.2 hls
          have := key.1
          grind
        · have := key.2 hls
          have := ht'.1
          grind
      · have := key.1
        have := ht'.1
        grind
end Go.Proofs.YtfogiljgecmakaaGreat
namespace Go.Proofs.YtfogiljgecmakaaGreat
open Go.RowKit

/-- the judge's state, in a model: the truth of its atoms -/
structure SatJ (M : ModelD) (s : JSt) (H : List Bool) : Prop where
  len : H.length = s.atoms.length
  same : ∀ (i : Nat) (x : AtomD), s.atoms[i]? = some x → x.kind = 2 → H.getD i false = (M.things[x.a.toNat]?.getD 0 == M.things[x.b.toNat]?.getD 0)
  row : ∀ (i : Nat) (x : AtomD), s.atoms[i]? = some x → x.kind = 3 → H.getD i false = rowHoldsF x.row M.nums
  kinds : ∀ x ∈ s.atoms, x.kind = 3 → x.row.kind = 1 ∨ x.row.kind = 2 ∨ x.row.kind = 3
  cls : ∀ c ∈ s.cls, (∀ x ∈ c, ¬ x = 0 ∧ x.natAbs ≤ s.atoms.length) ∧ satC H c = true
/-- the atom of a literal -/
theorem atomAt_get {ats : List AtomD} {l : Int} (h0 : ¬ l = 0) (h : l.natAbs ≤ ats.length) : ats[l.natAbs - 1]? = some (atomAt ats l) := by
  unfold atomAt
  rw [List.getD_eq_getElem?_getD, List.getElem?_eq_getElem (show l.natAbs - 1 < ats.length by omega)]
  rfl
theorem satC_false {H : List Bool} {c : List Int} (h : satC H c = false) : ∀ l ∈ c, litT H l = false := fun l hl => by
  cases e : litT H l with
  | false => rfl
  | true => rw [show satC H c = true from List.any_eq_true.2 ⟨l, hl, e⟩] at h; cases h
theorem litT_pos {H : List Bool} {l : Int} (h : 0 < l) : litT H l = H.getD (l.natAbs - 1) false := by unfold litT; rw [if_neg (by omega)]
theorem litT_negl {H : List Bool} {l : Int} (h : l < 0) : litT H l = !H.getD (l.natAbs - 1) false := by unfold litT; rw [if_pos h]
theorem getD_app {H l : List Bool} {i : Nat} {d : Bool} (h : i < H.length) : (H ++ l).getD i d = H.getD i d := by
  rw [List.getD_eq_getElem?_getD, List.getD_eq_getElem?_getD, List.getElem?_append_left h]
theorem litT_more {H : List Bool} {b : Bool} {l : Int} (h0 : ¬ l = 0) (h : l.natAbs ≤ H.length) : litT (H ++ [b]) l = litT H l := by
  unfold litT
  rw [getD_app (by omega)]
theorem satC_more {H : List Bool} {b : Bool} {c : List Int} (h : ∀ l ∈ c, ¬ l = 0 ∧ l.natAbs ≤ H.length) : satC (H ++ [b]) c = satC H c := by
  unfold satC
  induction c with
  | nil => rfl
  | cons l r ih => rw [List.any_cons, List.any_cons, litT_more (h l (List.mem_cons_self ..)).1 (h l (List.mem_cons_self ..)).2, ih fun k hk => h k (List.mem_cons_of_mem _ hk)]

section
variable {ts : List TermD} {ints : List Bool} {M : ModelD} {s : JSt} {H : List Bool}
/-- functions: equal arguments, equal values -/
def FunOk (ts : List TermD) (M : ModelD) : Prop := ∀ (i k : Nat) (t u : TermD), ts[i]? = some t → ts[k]? = some u → k < i → t.head = u.head → eqLL (sameT M.things) t.kids u.kids = true → M.things[i]?.getD 0 = M.things[k]?.getD 0
theorem innerH_ok {i : Nat} {t : TermD} : ∀ (l : List TermD) (k : Nat), innerH M i t l k = true → ∀ (j : Nat) (u : TermD), l[j]? = some u → t.head = u.head → eqLL (sameT M.things) t.kids u.kids = true → M.things[i]?.getD 0 = M.things[k + j]?.getD 0
  | [], _, _, _, _, h, _, _ => by simp at h
  | v :: r, k, h, j, u, hu, hh, he => by
    rw [innerH] at h
    split at h
    · cases h
    rename_i hn
    cases j with
    | zero =>
      simp only [List.getElem?_cons_zero, Option.some.injEq] at hu
      subst hu
      refine Decidable.byContradiction fun hc => hn ⟨hh, by rwa [Nat.add_zero] at hc, he⟩
    | succ j =>
      have := innerH_ok r (k + 1) h j u (by simpa using hu) hh he
      rwa [show k + 1 + j = k + (j + 1) from by omega] at this
theorem funH_ok : ∀ (l : List TermD) (i : Nat), funH M ts l i = true → ∀ (j : Nat) (t : TermD), l[j]? = some t → innerH M (i + j) t (ts.take (i + j)) 0 = true
  | [], _, _, _, _, h => by simp at h
  | v :: r, i, h, j, t, ht => by
    rw [funH] at h
    split at h
    · rename_i hi
      cases j with
      | zero =>
        simp only [List.getElem?_cons_zero, Option.some.injEq] at ht
        subst ht
        exact hi
      | succ j =>
        have := funH_ok r (i + 1) h j t (by simpa using ht)
        rwa [show i + 1 + j = i + (j + 1) from by omega] at this
    · cases h
theorem funOk_of (h : funH M ts ts 0 = true) : FunOk ts M := fun i k t u ht hu hki hh he => by
  have h1 := funH_ok ts 0 h i t ht
  rw [Nat.zero_add] at h1
  have h2 := innerH_ok _ 0 h1 k u (by rw [List.getElem?_take_of_lt hki]; exact hu) hh he
  rwa [Nat.zero_add] at h2
theorem eqL_of {p : Int → Int → Bool} : ∀ (xs ys : List Int), xs.length = ys.length → (∀ (m : Nat) (x y : Int), xs[m]? = some x → ys[m]? = some y → p x y = true) → eqLL p xs ys = true
  | [], [], _, _ => rfl
  | [], _ :: _, h, _ => by simp at h
  | _ :: _, [], h, _ => by simp at h
  | x :: r, y :: t, h, hp => by
    rw [eqLL, hp 0 x y rfl rfl, eqL_of r t (by simpa using h) fun m a b ha hb => hp (m + 1) a b (by simpa using ha) (by simpa using hb)]
    rfl
theorem eqL_symm {xs ys : List Int} (h : eqLL (sameT M.things) xs ys = true) : eqLL (sameT M.things) ys xs = true := by
  induction xs generalizing ys with
  | nil => cases ys with
    | nil => rfl
    | cons y t => cases h
  | cons x r ih => cases ys with
    | nil => cases h
    | cons y t =>
      rw [eqLL, Bool.and_eq_true] at h
      rw [eqLL, ih h.2]
      have := h.1
      simp only [sameT, beq_iff_eq] at this
      simp [sameT, this]
/-- what follows from equalities that hold, holds -/
theorem cong_holds {ps : List (Int × Int)} (hf : FunOk ts M) (hp : ∀ (x y : Int), (x, y) ∈ ps → M.things[x.toNat]?.getD 0 = M.things[y.toNat]?.getD 0) {a b : Nat} (h : Cong ts ps a b) : M.things[a]?.getD 0 = M.things[b]?.getD 0 := by
  induction h with
  | refl a => rfl
  | symm _ ih => exact ih.symm
  | trans _ _ ih1 ih2 => exact ih1.trans ih2
  | pair h => exact hp _ _ h
  | @app i k t u ht hu hh hl _ ih =>
    have he : eqLL (sameT M.things) t.kids u.kids = true := eqL_of _ _ hl fun m x y hx hy => by
      simp only [sameT, beq_iff_eq]
      exact ih m x y hx hy
    rcases Nat.lt_trichotomy k i with h | h | h
    · exact hf i k t u ht hu h hh he
    · rw [h]
    · exact (hf k i u t hu ht h hh.symm (eqL_symm he)).symm
theorem same_sound (hS : SatJ M s H) (hf : FunOk ts M) {lits : List Int} (hg : ∀ x ∈ lits, ¬ x = 0 ∧ x.natAbs ≤ s.atoms.length) (h : sameF ts s.atoms lits = true) : satC H lits = true := by
  cases hs : satC H lits with
  | true => rfl
  | false =>
    exfalso
    have hfalse := satC_false hs
    unfold sameF at h
    rw [Bool.and_eq_true] at h
    have hk : ∀ l ∈ lits, (atomAt s.atoms l).kind = 2 := fun l hl => by
      have := List.all_eq_true.1 h.1 l hl
      simpa using this
    obtain ⟨l, hl, hc⟩ := List.any_eq_true.1 h.2
    rw [Bool.and_eq_true, decide_eq_true_eq, congB_iff] at hc
    have hp : ∀ (x y : Int), (x, y) ∈ pairsOf s.atoms lits → M.things[x.toNat]?.getD 0 = M.things[y.toNat]?.getD 0 := fun x y hxy => by
      unfold pairsOf at hxy
      obtain ⟨k, hkm, he⟩ := List.mem_map.1 hxy
      obtain ⟨hkl, hkn⟩ := List.mem_filter.1 hkm
      rw [decide_eq_true_eq] at hkn
      injection he with e1 e2
      subst e1 e2
      have h1 := hS.same _ _ (atomAt_get (hg k hkl).1 (hg k hkl).2) (hk k hkl)
      have h2 := hfalse k hkl
      rw [litT_negl hkn, h1] at h2
      simpa using h2
    have h3 := cong_holds hf hp hc.2
    have h1 := hS.same _ _ (atomAt_get (hg l hl).1 (hg l hl).2) (hk l hl)
    have h2 := hfalse l hl
    rw [litT_pos hc.1, h1, h3] at h2
    simp at h2
/-- a literal of a row that is false -/
theorem row_false (hS : SatJ M s H) {l : Int} (hg : ¬ l = 0 ∧ l.natAbs ≤ s.atoms.length) (hk : (atomAt s.atoms l).kind = 3) (hf : litT H l = false) : RowSays (atomAt s.atoms l).row (decide (0 < l)) (M.nums.map ratF) := by
  have hget := atomAt_get hg.1 hg.2
  have h1 := hS.row _ _ hget hk
  have h2 := hS.kinds _ (List.mem_of_getElem? hget) hk
  unfold RowSays
  by_cases hp : 0 < l
  · rw [if_pos (decide_eq_true hp)]
    rw [litT_pos hp, h1] at hf
    unfold rowHoldsF at hf
    rcases h2 with h2 | h2 | h2
    · rw [if_pos h2, decide_eq_false_iff_not] at hf
      exact .inl ⟨h2, Rat.not_le.1 hf⟩
    · rw [if_neg (by omega), if_pos h2, decide_eq_false_iff_not] at hf
      exact .inr (.inl ⟨h2, Rat.not_lt.1 hf⟩)
    · exact .inr (.inr h2)
  · rw [if_neg (by rw [decide_eq_true_eq]; exact hp)]
    rw [litT_negl (by omega), h1] at hf
    have hf : rowHoldsF (atomAt s.atoms l).row M.nums = true := by simpa using hf
    unfold rowHoldsF at hf
    rcases h2 with h2 | h2 | h2
    · rw [if_pos h2, decide_eq_true_eq] at hf
      exact .inl ⟨h2, hf⟩
    · rw [if_neg (by omega), if_pos h2, decide_eq_true_eq] at hf
      exact .inr (.inl ⟨h2, hf⟩)
    · rw [if_neg (by omega), if_neg (by omega), decide_eq_true_eq] at hf
      exact .inr (.inr ⟨h2, hf⟩)
theorem sumF_says {ats : List AtomD} {xs : List Rat} : ∀ (lits : List Int) (nums : List FracD) (t t' : SumD), SumGood t xs.length → SumSays t xs → (∀ l ∈ lits, RowSays (atomAt ats l).row (decide (0 < l)) xs) → sumF ats t lits nums = some t' → SumGood t' xs.length ∧ SumSays t' xs
  | [], _, t, t', hg, ht, _, h => by
    rw [sumF] at h
    injection h with h
    subst h
    exact ⟨hg, ht⟩
  | l :: r, [], t, t', _, _, _, h => by rw [sumF] at h; cases h
  | l :: r, m :: ms, t, t', hg, ht, hl, h => by
    rw [sumF] at h
    split at h
    · rename_i hm
      have hmd : 0 < m.den := by
        simp only [fracGood, decide_eq_true_eq] at hm; omega
      cases hk : takeF t (atomAt ats l).row (decide (0 < l)) m with
      | none => rw [hk] at h; cases h
      | some t1 =>
        rw [hk, Option.bind_some] at h
        obtain ⟨h1, h2⟩ := takeF_says hg hmd ht (hl l (List.mem_cons_self ..)) hk
        exact sumF_says r ms t1 t' h1 h2 (fun k hk => hl k (List.mem_cons_of_mem _ hk)) h
    · cases h
theorem valQ_zero : ∀ (of_ : List FracD) (xs : List Rat), (∀ a ∈ of_, a.num = 0) → valQ of_ xs = 0
  | [], xs, _ => by cases xs <;> rfl
  | _ :: _, [], _ => rfl
  | a :: r, x :: xs, h => by
    rw [valQ, ratF_zero (h a (List.mem_cons_self ..)), valQ_zero r xs fun b hb => h b (List.mem_cons_of_mem _ hb)]
    grind
theorem rows_sound (hS : SatJ M s H) (hn : M.nums.length = ints.length) {lits : List Int} {nums : List FracD} (hg : ∀ x ∈ lits, ¬ x = 0 ∧ x.natAbs ≤ s.atoms.length) (h : rowsF ints.length s.atoms lits nums = true) : satC H lits = true := by
  cases hs : satC H lits with
  | true => rfl
  | false =>
    exfalso
    have hfalse := satC_false hs
    unfold rowsF at h
    rw [Bool.and_eq_true, Bool.and_eq_true] at h
    have hk : ∀ l ∈ lits, (atomAt s.atoms l).kind = 3 := fun l hl => by
      have := List.all_eq_true.1 h.1.1 l hl
      simpa using this
    have h2 := h.2
    cases ht : sumF s.atoms (sum0 ints.length) lits nums with
    | none => rw [ht] at h2; cases h2
    | some t =>
      rw [ht] at h2
      dsimp only at h2
      have hx : (M.nums.map ratF).length = ints.length := by rw [List.length_map, hn]
      have hg0 : SumGood (sum0 ints.length) (M.nums.map ratF).length := ⟨by rw [hx]; simp [sum0], fun a ha => by rw [sum0] at ha; rw [List.eq_of_mem_replicate ha]; show (0 : Int) < 1; omega, by show (0 : Int) < 1; omega⟩
      have hs0 : SumSays (sum0 ints.length) (M.nums.map ratF) := by
        unfold SumSays
        rw [if_neg (by simp [sum0]), valQ_zero _ _ (fun a ha => by rw [sum0] at ha; rw [List.eq_of_mem_replicate ha]), ratF_zero rfl]
        exact Rat.le_refl
      obtain ⟨h3, h4⟩ := sumF_says lits nums _ t hg0 hs0 (fun l hl => row_false hS (hg l hl) (hk l hl) (hfalse l hl)) ht
      unfold sumOk at h2
      rw [Bool.and_eq_true, Bool.or_eq_true, Bool.and_eq_true] at h2
      have hz : valQ t.of_ (M.nums.map ratF) = 0 := valQ_zero _ _ fun a ha => by
        have := List.all_eq_true.1 h2.1 a ha
        simpa using this
      unfold SumSays at h4
      rw [hz] at h4
      rcases h2.2 with h5 | ⟨h5, h6⟩
      · rw [decide_eq_true_eq] at h5
        have := ratF_neg h3.2.2 h5
        split at h4
        · grind
        · grind
      · rw [decide_eq_true_eq] at h5
        rw [if_pos h6, ratF_zero h5] at h4
        exact absurd h4 (Rat.not_lt.2 Rat.le_refl)
/-- rows that are turned -/
theorem rowR_turn (t : Int) : ∀ (xs : List Rat) (a b : List Int), (∀ i < xs.length, b.getD i 0 = t * a.getD i 0) → rowR b xs = (t : Rat) * rowR a xs
  | [], a, b, _ => by
    have e1 : rowR b [] = 0 := by cases b <;> rfl
    have e2 : rowR a [] = 0 := by cases a <;> rfl
    rw [e1, e2]; grind
  | x :: xs, a, b, h => by
    have h0 := h 0 (by simp)
    have hr : rowR b.tail xs = (t : Rat) * rowR a.tail xs := rowR_turn t xs a.tail b.tail fun i hi => by
      have := h (i + 1) (by simpa using hi)
      have e : ∀ l : List Int, l.getD (i + 1) 0 = l.tail.getD i 0 := fun l => by cases l <;> simp
      rwa [e, e] at this
    have e : ∀ l : List Int, rowR l (x :: xs) = ((l.getD 0 0 : Int) : Rat) * x + rowR l.tail xs := fun l => by
      cases l with
      | nil =>
        have e1 : rowR [] xs = 0 := by cases xs <;> rfl
        show (0 : Rat) = ((0 : Int) : Rat) * x + rowR [] xs
        rw [e1]
        have : ((0 : Int) : Rat) = 0 := rfl
        rw [this]; grind
      | cons c r => rfl
    rw [e, e, hr, h0, Rat.intCast_mul]
    grind
theorem rowR_whole : ∀ (xs : List Rat) (a : List Int), (∀ i (hi : i < xs.length), (∃ z : Int, xs[i] = (z : Rat)) ∨ a.getD i 0 = 0) → ∃ z : Int, rowR a xs = (z : Rat)
  | [], a, _ => ⟨0, by cases a <;> rfl⟩
  | x :: xs, [], _ => ⟨0, rfl⟩
  | x :: xs, c :: r, h => by
    obtain ⟨z, hz⟩ := rowR_whole xs r fun i hi => by
      have := h (i + 1) (by simpa using hi)
      simpa using this
    rcases h 0 (by simp) with ⟨y, hy⟩ | h0
    · refine ⟨c * y + z, ?_⟩
      simp only [List.getElem_cons_zero] at hy
      rw [rowR, hz, hy, Rat.intCast_add, Rat.intCast_mul]
    · refine ⟨z, ?_⟩
      have h0 : c = 0 := by simpa using h0
      rw [rowR, hz, h0]
      have : ((0 : Int) : Rat) = 0 := rfl
      rw [this]; grind
theorem intsH_ok : ∀ (l : List Bool) (i : Nat), intsH M l i = true → ∀ j, l.getD j false = true → (M.nums[i + j]?.map FracD.den).getD 1 = 1
  | [], _, _, j, h => by simp at h
  | b :: r, i, h, j, hj => by
    rw [intsH] at h
    split at h
    · cases h
    rename_i hn
    cases j with
    | zero =>
      have hb : b = true := by simpa using hj
      exact Decidable.byContradiction fun hc => hn ⟨hb, by rwa [Nat.add_zero] at hc⟩
    | succ j =>
      have := intsH_ok r (i + 1) h j (by simpa using hj)
      rwa [show i + 1 + j = i + (j + 1) from by omega] at this
theorem row_true (hS : SatJ M s H) {l : Int} (hg : ¬ l = 0 ∧ l.natAbs ≤ s.atoms.length) (hk : (atomAt s.atoms l).kind = 3) (hp : 0 < l) : litT H l = rowHoldsF (atomAt s.atoms l).row M.nums := by
  rw [litT_pos hp, hS.row _ _ (atomAt_get hg.1 hg.2) hk]
theorem gap_sound (hS : SatJ M s H) (hn : M.nums.length = ints.length) (hi : intsH M ints 0 = true) {lits : List Int} (hg : ∀ x ∈ lits, ¬ x = 0 ∧ x.natAbs ≤ s.atoms.length) (h : gapF ints s.atoms lits = true) : satC H lits = true := by
  unfold gapF at h
  rw [Bool.and_eq_true, Bool.and_eq_true] at h
  obtain ⟨⟨hk, hp⟩, hr⟩ := h
  have hk : ∀ l ∈ lits, (atomAt s.atoms l).kind = 3 := fun l hl => by simpa using List.all_eq_true.1 hk l hl
  have hp : ∀ l ∈ lits, 0 < l := fun l hl => by simpa using List.all_eq_true.1 hp l hl
  have hx : (M.nums.map ratF).length = ints.length := by rw [List.length_map, hn]
  have hT : ∀ l ∈ lits, rowHoldsF (atomAt s.atoms l).row M.nums = true → satC H lits = true := fun l hl e => List.any_eq_true.2 ⟨l, hl, by rw [row_true hS (hg l hl) (hk l hl) (hp l hl)]; exact e⟩
  match lits, hr, hT with
  | [], hr, _ => simp [gapRows] at hr
  | [_], hr, _ => simp [gapRows] at hr
  | [l1, l2], hr, hT =>
    have t1 := hT l1 (by simp)
    have t2 := hT l2 (by simp)
    revert t1 t2
    replace hr : gapRows ints [(atomAt s.atoms l1).row, (atomAt s.atoms l2).row] = true := hr
    generalize (atomAt s.atoms l1).row = a at hr
    generalize (atomAt s.atoms l2).row = b at hr
    intro t1 t2
    simp only [gapRows, Bool.and_eq_true, decide_eq_true_eq] at hr
    obtain ⟨⟨⟨hw, hka, hkb⟩, hturn⟩, hto⟩ := hr
    have hwh : ∃ z : Int, rowR a.of_ (M.nums.map ratF) = (z : Rat) := rowR_whole _ _ fun i hil => by
      have := List.all_eq_true.1 hw i (List.mem_range.2 (by omega))
      rw [Bool.or_eq_true, decide_eq_true_eq] at this
      rcases this with this | this
      · left
        have h1 := intsH_ok ints 0 hi i this
        rw [Nat.zero_add] at h1
        have hil' : i < M.nums.length := by rw [List.length_map] at hil; exact hil
        rw [List.getElem?_eq_getElem hil'] at h1
        refine ⟨M.nums[i].num, ?_⟩
        rw [List.getElem_map]
        have h2 := ratF_num (f := M.nums[i]) (by have : M.nums[i].den = 1 := h1; omega)
        have h3 : M.nums[i].den = 1 := h1
        rw [h3] at h2
        have e : (((1 : Int)) : Rat) = 1 := rfl
        rw [e, Rat.mul_one] at h2
        exact h2
      · exact .inr this
    obtain ⟨z, hz⟩ := hwh
    have hb : rowR b.of_ (M.nums.map ratF) = ((-1 : Int) : Rat) * rowR a.of_ (M.nums.map ratF) := rowR_turn (-1) _ _ _ fun i hil => by
      have := List.all_eq_true.1 hturn i (List.mem_range.2 (by omega))
      simpa using this
    by_cases hc : z ≤ a.to_
    · refine t1 ?_
      unfold rowHoldsF
      rw [if_pos hka, hz]
      exact decide_eq_true (Rat.intCast_le_intCast.2 hc)
    · refine t2 ?_
      unfold rowHoldsF
      rw [if_pos hkb, hb, hz, hto, ← Rat.intCast_mul]
      exact decide_eq_true (Rat.intCast_le_intCast.2 (by omega))
  | [l1, l2, l3], hr, hT =>
    have t1 := hT l1 (by simp)
    have t2 := hT l2 (by simp)
    have t3 := hT l3 (by simp)
    revert t1 t2 t3
    replace hr : gapRows ints [(atomAt s.atoms l1).row, (atomAt s.atoms l2).row, (atomAt s.atoms l3).row] = true := hr
    generalize (atomAt s.atoms l1).row = a at hr
    generalize (atomAt s.atoms l2).row = b at hr
    generalize (atomAt s.atoms l3).row = c at hr
    intro t1 t2 t3
    simp only [gapRows, Bool.and_eq_true, decide_eq_true_eq] at hr
    obtain ⟨⟨⟨⟨⟨hka, hkb, hkc⟩, hturn⟩, hto⟩, hturn2⟩, hto2⟩ := hr
    have hb : rowR b.of_ (M.nums.map ratF) = ((1 : Int) : Rat) * rowR a.of_ (M.nums.map ratF) := rowR_turn 1 _ _ _ fun i hil => by
      have := List.all_eq_true.1 hturn i (List.mem_range.2 (by omega))
      simpa using this
    have hcc : rowR c.of_ (M.nums.map ratF) = ((-1 : Int) : Rat) * rowR a.of_ (M.nums.map ratF) := rowR_turn (-1) _ _ _ fun i hil => by
      have := List.all_eq_true.1 hturn2 i (List.mem_range.2 (by omega))
      simpa using this
    have e1 : (((1 : Int)) : Rat) = 1 := rfl
    have e2 : (((-1 : Int)) : Rat) = -1 := rfl
    rw [e1] at hb
    rw [e2] at hcc
    by_cases h1 : rowR a.of_ (M.nums.map ratF) < (a.to_ : Rat)
    · refine t2 ?_
      unfold rowHoldsF
      rw [if_neg (by omega), if_pos hkb, hb, hto, Rat.one_mul]
      exact decide_eq_true h1
    · by_cases h2 : (a.to_ : Rat) < rowR a.of_ (M.nums.map ratF)
      · refine t3 ?_
        unfold rowHoldsF
        rw [if_neg (by omega), if_pos hkc, hcc, hto2, Rat.intCast_neg]
        refine decide_eq_true ?_
        grind
      · refine t1 ?_
        unfold rowHoldsF
        rw [if_neg (by omega), if_neg (by omega)]
        exact decide_eq_true (Rat.le_antisymm (Rat.not_lt.1 h2) (Rat.not_lt.1 h1))
  | _ :: _ :: _ :: _ :: _, hr, _ => simp [gapRows] at hr
theorem rowKind_of {r : RowD} {m : Int} (h : rowF r m = (0, 0)) : r.kind = 1 ∨ r.kind = 2 ∨ r.kind = 3 := by
  unfold rowF at h
  split at h
  · cases h
  · omega
/-- a step that is taken keeps the model -/
theorem step_sound (hS : SatJ M s H) (hf : FunOk ts M) (hn : M.nums.length = ints.length) (hi : intsH M ints 0 = true) {x : StepD} {s' : JSt} (h : stepJ ts ints s x = some s') : ∃ H', SatJ M s' H' := by
  by_cases hfm : formedF s.atoms.length x = false
  · rw [stepJ_not hfm] at h; cases h
  have hfm : formedF s.atoms.length x = true := by simpa using hfm
  have hg : ∀ y ∈ x.lits, ¬ y = 0 ∧ y.natAbs ≤ s.atoms.length := fun y hy => by
    have := (formed_good hfm).1 y hy
    unfold LitIn at this
    omega
  by_cases h2 : x.kind = 2
  · rw [stepJ_drop hfm h2] at h
    split at h
    · injection h with h
      subst h
      exact ⟨H, hS.len, hS.same, hS.row, hS.kinds, fun c hc => hS.cls c (List.mem_of_mem_eraseIdx hc)⟩
    · cases h
  by_cases h5 : x.kind = 5
  · rw [stepJ_atom hfm h5] at h
    split at h
    · rename_i hb
      injection h with h
      subst h
      have hb : ¬ (¬ x.atom.kind = 3 ∨ ¬ atomCode x.atom ts.length ints.length = 0 ∨ 120 ≤ s.atoms.length) := by simpa using hb
      have hk3 : x.atom.kind = 3 := Decidable.byContradiction fun e => hb (.inl e)
      have hcode : atomCode x.atom ts.length ints.length = 0 := Decidable.byContradiction fun e => hb (.inr (.inl e))
      have hrk : x.atom.row.kind = 1 ∨ x.atom.row.kind = 2 ∨ x.atom.row.kind = 3 := by
        unfold atomCode at hcode
        rw [if_neg (by omega)] at hcode
        split at hcode
        · cases hcode
        · rw [if_neg (by omega)] at hcode
          exact rowKind_of (rowCode_zero hcode)
      have hpush : ∀ (i : Nat) (y : AtomD), (s.atoms ++ [x.atom])[i]? = some y → (s.atoms[i]? = some y ∧ i < H.length) ∨ (i = H.length ∧ y = x.atom) := fun i y hy => by
        rcases Nat.lt_trichotomy i s.atoms.length with hl | hl | hl
        · rw [List.getElem?_append_left hl] at hy
          exact .inl ⟨hy, by rw [hS.len]; exact hl⟩
        · rw [List.getElem?_append_right (by omega), hl, Nat.sub_self] at hy
          simp only [List.getElem?_cons_zero, Option.some.injEq] at hy
          exact .inr ⟨by rw [hS.len]; exact hl, hy.symm⟩
        · rw [List.getElem?_eq_none (by simp; omega)] at hy
          cases hy
      refine ⟨H ++ [rowHoldsF x.atom.row M.nums], by simp [hS.len], fun i y hy hk => ?_, fun i y hy hk => ?_, fun y hy hk => ?_, fun c hc => ?_⟩
      · rcases hpush i y hy with ⟨h1, h2⟩ | ⟨h1, h2⟩
        · rw [getD_app h2]
          exact hS.same i y h1 hk
        · rw [h2] at hk; omega
      · rcases hpush i y hy with ⟨h1, h2⟩ | ⟨h1, h2⟩
        · rw [getD_app h2]
          exact hS.row i y h1 hk
        · rw [h1, h2]; simp
      · rcases List.mem_append.1 hy with hy | hy
        · exact hS.kinds y hy hk
        · rw [List.mem_singleton.1 hy]; exact hrk
      · obtain ⟨h1, h2⟩ := hS.cls c hc
        refine ⟨fun l hl => ⟨(h1 l hl).1, by have := (h1 l hl).2; simp; omega⟩, ?_⟩
        rw [satC_more fun l hl => ⟨(h1 l hl).1, by rw [hS.len]; exact (h1 l hl).2⟩]
        exact h2
    · cases h
  have hs' := stepJ_test_some hfm h2 h5 h
  subst hs'
  rw [stepJ_test hfm h2 h5 rfl] at h
  have hsat : satC H x.lits = true := by
    by_cases k1 : x.kind = 1
    · rw [if_pos k1] at h
      split at h
      · rename_i hr
        exact clash_sound (fun c hc => ⟨fun l hl => ((hS.cls c hc).1 l hl).1, (hS.cls c hc).2⟩) (fun l hl => (hg l hl).1) (@of_decide_eq_true _ (Classical.propDecidable _) hr)
      · cases h
    rw [if_neg k1] at h
    by_cases k3 : x.kind = 3
    · rw [if_pos k3] at h
      split at h
      · rename_i hr
        exact same_sound hS hf hg hr
      · cases h
    rw [if_neg k3] at h
    by_cases k4 : x.kind = 4
    · rw [if_pos k4] at h
      split at h
      · rename_i hr
        exact rows_sound hS hn hg hr
      · cases h
    rw [if_neg k4] at h
    split at h
    · rename_i hr
      exact gap_sound hS hn hi hg hr
    · cases h
  refine ⟨H, hS.len, hS.same, hS.row, hS.kinds, fun c hc => ?_⟩
  rcases List.mem_append.1 hc with hc | hc
  · exact hS.cls c hc
  · rw [List.mem_singleton.1 hc]; exact ⟨hg, hsat⟩
theorem run_sound (hf : FunOk ts M) (hn : M.nums.length = ints.length) (hi : intsH M ints 0 = true) : ∀ (l : List StepD) (s : JSt) (H : List Bool) (i : Int), 0 ≤ i → SatJ M s H → ¬ runJ ts ints s l i = -1
  | [], s, H, i, hi0, hS => by
    rw [runJ]
    split
    · rename_i hc
      obtain ⟨c, hc1, hc2⟩ := List.any_eq_true.1 hc
      rw [decide_eq_true_eq] at hc2
      have := (hS.cls c hc1).2
      rw [List.eq_nil_of_length_eq_zero hc2] at this
      cases this
    · omega
  | x :: r, s, H, i, hi0, hS => by
    rw [runJ]
    cases h : stepJ ts ints s x with
    | none => dsimp only; omega
    | some s' =>
      obtain ⟨H', hS'⟩ := step_sound hS hf hn hi h
      exact run_sound hf hn hi r s' H' (i + 1) (by omega) hS'
end
theorem litH_litT {bs : List Bool} {l : Int} (h : ¬ l = 0) : litH bs l = litT bs l := by
  unfold litH litT absI
  rw [List.getD_eq_getElem?_getD]
  by_cases hl : l < 0
  · rw [if_pos hl, if_pos hl, show (-l - 1).toNat = l.natAbs - 1 by omega, decide_eq_false (by omega)]
    simp
  · rw [if_neg hl, if_neg hl, show (l - 1).toNat = l.natAbs - 1 by omega, decide_eq_true (by omega)]
    simp
/-- the law: what holds in a model is not refuted -/
theorem sound_law {F : FormD} {M : ModelD} {l : List StepD} (h : holdsF F M = (true, 0, 0)) : ¬ (whyJ F l).2.1 = 0 ∨ ¬ (whyJ F l).1 = -1 := by
  by_cases hw : (whyJ F l).2.1 = 0
  · right
    obtain ⟨-, -, -, h4⟩ := whyJ_fine hw
    rw [h4]
    unfold holdsF at h
    split at h
    · rename_i hfit
      have hok := fits_ok (fits_code hfit)
      have hH : formH F M = true := (Prod.mk.inj h).1
      unfold formH at hH
      rw [Bool.and_eq_true, Bool.and_eq_true, Bool.and_eq_true] at hH
      obtain ⟨hi, ⟨hc, ha⟩, hf⟩ := hH
      have ha' := (atomsH_iff F.atoms 0).1 ha
      refine run_sound (funOk_of hf) hok.ln hi l ⟨F.atoms, F.clauses⟩ M.holds 0 (by omega) ⟨hok.lh, fun i x hx hk => ?_, fun i x hx hk => ?_, fun x hx hk => rowKind_of ((hok.atoms x hx).2 hk), fun c hcm => ⟨fun y hy => ?_, ?_⟩⟩
      · have := ha' i x hx
        rw [Nat.zero_add] at this
        rw [List.getD_eq_getElem?_getD, ← this, atomV, if_pos hk]
      · have := ha' i x hx
        rw [Nat.zero_add] at this
        rw [List.getD_eq_getElem?_getD, ← this, atomV, if_neg (by omega), if_pos hk]
      · have := (hok.cls c hcm).2 y hy
        unfold LitOk at this
        exact ⟨this.1, by show _ ≤ F.atoms.length; omega⟩
      · have h1 : ¬ (!c.any (litH M.holds)) = true := fun e => by
          have : (F.clauses.any fun l => !l.any (litH M.holds)) = true := List.any_eq_true.2 ⟨c, hcm, e⟩
          rw [clsH, this] at hc
          cases hc
        have h2 : c.any (litH M.holds) = true := by simpa using h1
        obtain ⟨y, hy, ht⟩ := List.any_eq_true.1 h2
        have h0 := ((hok.cls c hcm).2 y hy).1
        exact List.any_eq_true.2 ⟨y, hy, by rw [← litH_litT h0]; exact ht⟩
    · rename_i hne
      exact absurd (Prod.mk.inj (Prod.mk.inj h).2).1 hne
  · exact .inl hw
end Go.Proofs.YtfogiljgecmakaaGreat
