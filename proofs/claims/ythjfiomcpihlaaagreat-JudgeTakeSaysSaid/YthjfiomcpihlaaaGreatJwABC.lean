/- Plain: what a pass of the reference's learns finds over the clauses (JudgeWhySays). No walk. · Plain: the reference's drops and its table of terms that are one (JudgeWhySays). No walk. · Plain: a step as the reference takes it is a step as the judge takes it (JudgeWhySays). No walk. -/
import Derived.Test.YthjfiomcpihlaaaGreatJuAB
import Derived.Test.YthjfiomcpihlaaaGreatJuCD
import Derived.Test.YthjfiomcpihlaaaGreatClRA
namespace Go.Proofs.YthjfiomcpihlaaaGreat
open Go.RowKit

/-- a clause on a trail as the reference reads it: whether it holds, how many literals are open, the last open one -/
def litR (T : List Int) : List Int → Bool × Int × Int → Bool × Int × Int
  | [], s => s
  | l :: r, s => if hasT T l = true then litR T r (true, s.2.1, s.2.2) else if hasT T (-l) = true then litR T r s else litR T r (s.1, s.2.1 + 1, l)
/-- a pass: none where a clause is false, else the last unit, or what was there -/
def passR (T : List Int) : List (List Int) → Int → Option Int
  | [], n => some n
  | c :: r, n => if (litR T c (false, 0, 0)).1 = false ∧ (litR T c (false, 0, 0)).2.1 = 0 then none
    else passR T r (if (litR T c (false, 0, 0)).1 = false ∧ (litR T c (false, 0, 0)).2.1 = 1 then (litR T c (false, 0, 0)).2.2 else n)
/-- no literal stands on the trail with its negation -/
def Calm (T : List Int) : Prop := ∀ l, l ∈ T → -l ∈ T → False
def openR (T : List Int) (l : Int) : Bool := !hasT T l && !hasT T (-l)
theorem openR_iff {T : List Int} {l : Int} : openR T l = true ↔ l ∉ T ∧ -l ∉ T := by simp [openR, hasT]

theorem litR_spec (T : List Int) : ∀ (c : List Int) (g : Bool) (o x : Int),
    (litR T c (g, o, x)).1 = (g || c.any (hasT T)) ∧ (litR T c (g, o, x)).2.1 = o + ((c.filter (openR T)).length : Int) ∧ (litR T c (g, o, x)).2.2 = ((c.filter (openR T)).getLast?).getD x
  | [], g, o, x => by simp [litR]
  | l :: r, g, o, x => by
    rw [litR]
    by_cases h1 : hasT T l = true
    · obtain ⟨e1, e2, e3⟩ := litR_spec T r true o x
      have hn : openR T l = false := by simp [openR, h1]
      rw [if_pos h1, List.filter_cons_of_neg (by simp [hn])]
      exact ⟨by rw [e1]; simp [h1], e2, e3⟩
    · have h1 : hasT T l = false := by simpa using h1
      rw [if_neg (by simp [h1])]
      by_cases h2 : hasT T (-l) = true
      · obtain ⟨e1, e2, e3⟩ := litR_spec T r g o x
        have hn : openR T l = false := by simp [openR, h2]
        rw [if_pos h2, List.filter_cons_of_neg (by simp [hn])]
        exact ⟨by rw [e1]; simp [h1], e2, e3⟩
      · obtain ⟨e1, e2, e3⟩ := litR_spec T r g (o + 1) l
        have h2 : hasT T (-l) = false := by simpa using h2
        have hn : openR T l = true := by simp [openR, h1, h2]
        rw [if_neg (by simp [h2]), List.filter_cons_of_pos hn]
        refine ⟨by rw [e1]; simp [h1], by rw [e2, List.length_cons]; omega, ?_⟩
        rw [e3, List.getLast?_cons]
        cases List.getLast? (List.filter (openR T) r) <;> rfl

section
variable {T : List Int} {c : List Int}
/-- what stands in a clause that does not hold -/
theorem dead_of (hg : (litR T c (false, 0, 0)).1 = false) {k : Int} (hk : k ∈ c) (ho : openR T k = false) : -k ∈ T := by
  rw [(litR_spec T c false 0 0).1, Bool.false_or] at hg
  have h1 : ¬ k ∈ T := fun h => by
    have : c.any (hasT T) = true := List.any_eq_true.2 ⟨k, hk, hasT_mem.2 h⟩
    rw [this] at hg; cases hg
  by_cases h2 : -k ∈ T
  · exact h2
  · rw [openR_iff.2 ⟨h1, h2⟩] at ho; cases ho
theorem lit_none (hg : (litR T c (false, 0, 0)).1 = false) (ho : (litR T c (false, 0, 0)).2.1 = 0) {k : Int} (hk : k ∈ c) : -k ∈ T := by
  rw [(litR_spec T c false 0 0).2.1, Int.zero_add] at ho
  refine dead_of hg hk ?_
  cases h : openR T k with
  | false => rfl
  | true =>
    have : k ∈ c.filter (openR T) := List.mem_filter.2 ⟨hk, h⟩
    rw [List.eq_nil_of_length_eq_zero (show (c.filter (openR T)).length = 0 by omega)] at this
    cases this
theorem lit_one (hg : (litR T c (false, 0, 0)).1 = false) (ho : (litR T c (false, 0, 0)).2.1 = 1) :
    (litR T c (false, 0, 0)).2.2 ∈ c ∧ openR T (litR T c (false, 0, 0)).2.2 = true ∧ ∀ k ∈ c, ¬ k = (litR T c (false, 0, 0)).2.2 → -k ∈ T := by
  have e2 := (litR_spec T c false 0 0).2.1
  have e3 := (litR_spec T c false 0 0).2.2
  rw [ho, Int.zero_add] at e2
  obtain ⟨l, hl⟩ := List.length_eq_one_iff.1 (show (c.filter (openR T)).length = 1 by omega)
  rw [hl] at e3
  simp only [List.getLast?_singleton, Option.getD_some] at e3
  rw [e3]
  have hm : l ∈ c.filter (openR T) := by rw [hl]; exact List.mem_singleton.2 rfl
  refine ⟨(List.mem_filter.1 hm).1, (List.mem_filter.1 hm).2, fun k hk hne => dead_of hg hk ?_⟩
  cases h : openR T k with
  | false => rfl
  | true =>
    have : k ∈ c.filter (openR T) := List.mem_filter.2 ⟨hk, h⟩
    rw [hl] at this
    exact absurd (List.mem_singleton.1 this) hne
/-- a clause that is neither false nor a unit: it holds, or two of it are open -/
theorem lit_more (hT : Calm T) (hc : c.Nodup) (h0 : ¬ ((litR T c (false, 0, 0)).1 = false ∧ (litR T c (false, 0, 0)).2.1 = 0))
    (h1 : ¬ ((litR T c (false, 0, 0)).1 = false ∧ (litR T c (false, 0, 0)).2.1 = 1)) (x : Int) (hx : ∀ k ∈ c, ¬ k = x → -k ∈ T) : x ∈ T ∧ x ∈ c := by
  cases hg : (litR T c (false, 0, 0)).1 with
  | true =>
    rw [(litR_spec T c false 0 0).1, Bool.false_or] at hg
    obtain ⟨k, hk, ht⟩ := List.any_eq_true.1 hg
    by_cases e : k = x
    · exact ⟨e ▸ hasT_mem.1 ht, e ▸ hk⟩
    · exact (hT k (hasT_mem.1 ht) (hx k hk e)).elim
  | false =>
    have e2 := (litR_spec T c false 0 0).2.1
    have n0 : ¬ (litR T c (false, 0, 0)).2.1 = 0 := fun e => h0 ⟨hg, e⟩
    have n1 : ¬ (litR T c (false, 0, 0)).2.1 = 1 := fun e => h1 ⟨hg, e⟩
    rw [e2, Int.zero_add] at n0 n1
    have hnd : (c.filter (openR T)).Nodup := hc.filter _
    have hsub : ∀ k ∈ c.filter (openR T), k ∈ c ∧ -k ∉ T := fun k hk => ⟨(List.mem_filter.1 hk).1, (openR_iff.1 (List.mem_filter.1 hk).2).2⟩
    match hf : c.filter (openR T), hnd, hsub, n0, n1 with
    | [], _, _, n0, _ => exact absurd rfl n0
    | [_], _, _, _, n1 => exact absurd rfl n1
    | a :: b :: _, hnd, hsub, _, _ =>
      have ha := hsub a (List.mem_cons_self ..)
      have hb := hsub b (List.mem_cons_of_mem _ (List.mem_cons_self ..))
      have hab : ¬ a = b := by
        have := (List.nodup_cons.1 hnd).1
        exact fun e => this (e ▸ List.mem_cons_self ..)
      have ea : a = x := Classical.byContradiction fun e => ha.2 (hx a ha.1 e)
      have eb : b = x := Classical.byContradiction fun e => hb.2 (hx b hb.1 e)
      exact absurd (ea.trans eb.symm) hab
end

theorem passR_none (T : List Int) : ∀ (C : List (List Int)) (n : Int), passR T C n = none → ∃ c ∈ C, ∀ k ∈ c, -k ∈ T
  | [], _, h => by simp [passR] at h
  | c :: r, n, h => by
    rw [passR] at h
    split at h
    · rename_i h1
      exact ⟨c, List.mem_cons_self .., fun k hk => lit_none h1.1 h1.2 hk⟩
    · obtain ⟨d, hd, hk⟩ := passR_none T r _ h
      exact ⟨d, List.mem_cons_of_mem _ hd, hk⟩
/-- where a pass ends without a false clause: what was there and no unit, or a unit -/
theorem passR_some (T : List Int) : ∀ (C : List (List Int)) (n m : Int), (∀ c ∈ C, (0 : Int) ∉ c) → passR T C n = some m →
    (∀ c ∈ C, ¬ ((litR T c (false, 0, 0)).1 = false ∧ (litR T c (false, 0, 0)).2.1 = 0)) ∧
    ((m = n ∧ ∀ c ∈ C, ¬ ((litR T c (false, 0, 0)).1 = false ∧ (litR T c (false, 0, 0)).2.1 = 1)) ∨
     (¬ m = 0 ∧ ∃ c ∈ C, m ∈ c ∧ openR T m = true ∧ ∀ k ∈ c, ¬ k = m → -k ∈ T))
  | [], n, m, _, h => by
    simp only [passR, Option.some.injEq] at h
    exact ⟨fun c hc => (List.not_mem_nil hc).elim, .inl ⟨h.symm, fun c hc => (List.not_mem_nil hc).elim⟩⟩
  | c :: r, n, m, hC, h => by
    rw [passR] at h
    split at h
    · cases h
    · rename_i h0
      obtain ⟨a1, a2⟩ := passR_some T r _ m (fun d hd => hC d (List.mem_cons_of_mem _ hd)) h
      refine ⟨fun d hd => ?_, ?_⟩
      · rcases List.mem_cons.1 hd with rfl | hd
        · exact h0
        · exact a1 d hd
      · rcases a2 with ⟨e, a2⟩ | ⟨hm, d, hd, h3⟩
        · by_cases h1 : (litR T c (false, 0, 0)).1 = false ∧ (litR T c (false, 0, 0)).2.1 = 1
          · rw [if_pos h1] at e
            obtain ⟨b1, b2, b3⟩ := lit_one h1.1 h1.2
            rw [← e] at b1 b2 b3
            exact .inr ⟨fun e0 => hC c (List.mem_cons_self ..) (e0 ▸ b1), c, List.mem_cons_self .., b1, b2, b3⟩
          · rw [if_neg h1] at e
            refine .inl ⟨e, fun d hd => ?_⟩
            rcases List.mem_cons.1 hd with rfl | hd
            · exact h1
            · exact a2 d hd
        · exact .inr ⟨hm, d, List.mem_cons_of_mem _ hd, h3⟩

theorem Calm.more {T : List Int} {l : Int} (h : Calm T) (h0 : ¬ l = 0) (ho : openR T l = true) : Calm (T ++ [l]) := by
  obtain ⟨h1, h2⟩ := openR_iff.1 ho
  intro k hk hn
  rcases List.mem_append.1 hk with hk | hk <;> rcases List.mem_append.1 hn with hn | hn
  · exact h k hk hn
  · have := List.mem_singleton.1 hn
    exact h2 (by rw [← this, Int.neg_neg]; exact hk)
  · rw [List.mem_singleton.1 hk] at hn; exact h2 hn
  · have e1 := List.mem_singleton.1 hk
    have e2 := List.mem_singleton.1 hn
    omega
/-- **What a pass of the reference says: a false clause, the end, or a literal more.** -/
theorem pass_step {C : List (List Int)} (hC : ∀ c ∈ C, CleanC c) {T : List Int} (hT : Calm T) :
    (passR T C 0 = none ∧ Clash C T) ∨ (passR T C 0 = some 0 ∧ ¬ Clash C T) ∨
    (∃ l, passR T C 0 = some l ∧ ¬ l = 0 ∧ l ∈ C.flatten ∧ hasT T l = false ∧ Calm (T ++ [l]) ∧ (Clash C (T ++ [l]) ↔ Clash C T)) := by
  cases hp : passR T C 0 with
  | none =>
    obtain ⟨c, hc, hk⟩ := passR_none T C 0 hp
    exact .inl ⟨rfl, c, hc, fun k hm => .base (hk k hm)⟩
  | some m =>
    obtain ⟨a1, a2⟩ := passR_some T C 0 m (fun c hc => (hC c hc).1) hp
    rcases a2 with ⟨rfl, a2⟩ | ⟨hm, c, hc, h1, h2, h3⟩
    · refine .inr (.inl ⟨rfl, ?_⟩)
      have hcl : ∀ l, Drv C T l → l ∈ T := by
        intro l hl
        induction hl with
        | base h => exact h
        | @unit c l hc hl _ ih => exact (lit_more hT (hC c hc).2 (a1 c hc) (a2 c hc) l fun k hk hne => ih k hk hne).1
      rintro ⟨c, hc, hk⟩
      have h0 := (lit_more hT (hC c hc).2 (a1 c hc) (a2 c hc) 0 fun k hm _ => hcl _ (hk k hm)).2
      exact (hC c hc).1 h0
    · refine .inr (.inr ⟨m, rfl, hm, List.mem_flatten.2 ⟨c, hc, h1⟩, ?_, hT.more hm h2, ?_, Clash.more (fun _ h => h) (fun _ h => List.mem_append_left _ h)⟩)
      · cases h : hasT T m with
        | false => rfl
        | true => exact absurd (hasT_mem.1 h) (openR_iff.1 h2).1
      · rintro ⟨d, hd, hx⟩
        refine ⟨d, hd, fun x hxm => (hx x hxm).cut fun l hl => ?_⟩
        rcases List.mem_append.1 hl with hl | hl
        · exact .base hl
        · rw [List.mem_singleton.1 hl]
          exact .unit hc h1 fun k hk hne => .base (h3 k hk hne)
end Go.Proofs.YthjfiomcpihlaaaGreat
namespace Go.Proofs.YthjfiomcpihlaaaGreat
open Go.RowKit

/-- as long, and each of the one in the other one: the same literals -/
theorem perm_of_sub : ∀ (c l : List Int), c.Nodup → c.length = l.length → (∀ k ∈ c, k ∈ l) → c.Perm l
  | [], l, _, hl, _ => by
    have : l = [] := List.eq_nil_of_length_eq_zero hl.symm
    rw [this]
  | a :: r, l, hc, hl, hs => by
    have ha : a ∈ l := hs a (List.mem_cons_self ..)
    obtain ⟨h1, h2⟩ := List.nodup_cons.1 hc
    have hlen := List.length_erase_of_mem ha
    have hp := perm_of_sub r (l.erase a) h2 (by rw [hlen, ← hl]; simp) fun k hk =>
      (List.mem_erase_of_ne (fun e : k = a => h1 (e ▸ hk))).2 (hs k (List.mem_cons_of_mem _ hk))
    exact (List.Perm.cons a hp).trans (List.perm_cons_erase ha).symm
/-- what the reference asks of a clause that a step drops -/
theorem permB_sub {c l : List Int} (hc : c.Nodup) : permB c l = (decide (c.length = l.length) && c.all fun k => decide (k ∈ l)) := by
  unfold permB
  by_cases h : c.Perm l
  · have h2 : (c.all fun k => decide (k ∈ l)) = true := List.all_eq_true.2 fun k hk => decide_eq_true (h.mem_iff.1 hk)
    rw [decide_eq_true h, decide_eq_true h.length_eq, h2]; rfl
  · rw [decide_eq_false h]
    cases h1 : decide (c.length = l.length) && c.all fun k => decide (k ∈ l) with
    | false => rfl
    | true =>
      rw [Bool.and_eq_true] at h1
      exact absurd (perm_of_sub c l hc (of_decide_eq_true h1.1) fun k hk => of_decide_eq_true (List.all_eq_true.1 h1.2 k hk)) h

section
variable {ts : List TermD} {ps : List (Int × Int)} {n : Nat} {one : Nat → Nat → Bool}
/-- **A table that is closed holds all that the least congruence holds.** -/
theorem closed_cong (hn : n = ts.length) (hr : ∀ a, a < n → one a a = true) (hs : ∀ a b, a < n → b < n → one a b = true → one b a = true)
    (hp : ∀ x y : Int, (x, y) ∈ ps → x.toNat < n ∧ y.toNat < n ∧ one x.toNat y.toNat = true)
    (ht : ∀ a b c, a < n → b < n → c < n → one a c = true → one c b = true → one a b = true)
    (ha : ∀ (i k : Nat) (t u : TermD), ts[i]? = some t → ts[k]? = some u → t.head = u.head → t.kids.length = u.kids.length → (∀ (m : Nat) (x y : Int), t.kids[m]? = some x → u.kids[m]? = some y → one x.toNat y.toNat = true) → one i k = true)
    (hk : ∀ t ∈ ts, ∀ x ∈ t.kids, x.toNat < n) {a b : Nat} (h : Cong ts ps a b) : a = b ∨ (a < n ∧ b < n ∧ one a b = true) := by
  induction h with
  | refl a => exact .inl rfl
  | symm _ ih =>
    rcases ih with e | ⟨h1, h2, h3⟩
    · exact .inl e.symm
    · exact .inr ⟨h2, h1, hs _ _ h1 h2 h3⟩
  | trans _ _ ih1 ih2 =>
    rcases ih1 with rfl | ⟨h1, h2, h3⟩
    · exact ih2
    · rcases ih2 with rfl | ⟨-, h5, h6⟩
      · exact .inr ⟨h1, h2, h3⟩
      · exact .inr ⟨h1, h5, ht _ _ _ h1 h5 h2 h3 h6⟩
  | pair h => exact .inr (hp _ _ h)
  | @app i k t u hi hk' hh hl _ ih =>
    refine .inr ⟨by rw [hn]; exact (List.getElem?_eq_some_iff.1 hi).1, by rw [hn]; exact (List.getElem?_eq_some_iff.1 hk').1, ha i k t u hi hk' hh hl fun m x y hx hy => ?_⟩
    rcases ih m x y hx hy with e | ⟨-, -, h3⟩
    · rw [← e]; exact hr _ (hk t (List.mem_of_getElem? hi) x (List.mem_of_getElem? hx))
    · exact h3
/-- a table says just what the least congruence says, where it is sound and closed -/
theorem closed_iff (hn : n = ts.length) (hr : ∀ a, a < n → one a a = true) (hs : ∀ a b, a < n → b < n → one a b = true → one b a = true)
    (hp : ∀ x y : Int, (x, y) ∈ ps → x.toNat < n ∧ y.toNat < n ∧ one x.toNat y.toNat = true)
    (ht : ∀ a b c, a < n → b < n → c < n → one a c = true → one c b = true → one a b = true)
    (ha : ∀ (i k : Nat) (t u : TermD), ts[i]? = some t → ts[k]? = some u → t.head = u.head → t.kids.length = u.kids.length → (∀ (m : Nat) (x y : Int), t.kids[m]? = some x → u.kids[m]? = some y → one x.toNat y.toNat = true) → one i k = true)
    (hk : ∀ t ∈ ts, ∀ x ∈ t.kids, x.toNat < n) (hc : ∀ a b, a < n → b < n → one a b = true → Cong ts ps a b) {a b : Nat} (h1 : a < n) (h2 : b < n) : one a b = congB ts ps a b := by
  cases h : one a b with
  | true => exact (congB_iff.2 (hc a b h1 h2 h)).symm
  | false =>
    cases h3 : congB ts ps a b with
    | false => rfl
    | true =>
      rcases closed_cong hn hr hs hp ht ha hk (congB_iff.1 h3) with e | ⟨-, -, e⟩
      · rw [← e, hr a h1] at h; cases h
      · rw [e] at h; cases h
end

theorem countP_lt {α : Type} {p q : α → Bool} : ∀ (l : List α), (∀ x ∈ l, p x = true → q x = true) → (∃ x ∈ l, q x = true ∧ p x = false) → l.countP p < l.countP q
  | [], _, h => by obtain ⟨x, hx, -⟩ := h; cases hx
  | y :: r, hm, h => by
    have hr : r.countP p ≤ r.countP q := List.countP_mono_left fun x hx => hm x (List.mem_cons_of_mem _ hx)
    rw [List.countP_cons, List.countP_cons]
    obtain ⟨x, hx, h1, h2⟩ := h
    rcases List.mem_cons.1 hx with rfl | hx
    · rw [h1, h2]; simp; omega
    · have := countP_lt r (fun x hx => hm x (List.mem_cons_of_mem _ hx)) ⟨x, hx, h1, h2⟩
      have hy := hm y (List.mem_cons_self ..)
      cases hp : p y <;> cases hq : q y <;> simp [hp, hq] at hy ⊢ <;> omega
def pairsN (n : Nat) : List (Nat × Nat) := (List.range n).flatMap fun a => (List.range n).map fun b => (a, b)
theorem mem_pairsN {n a b : Nat} : (a, b) ∈ pairsN n ↔ a < n ∧ b < n := by
  unfold pairsN
  simp only [List.mem_flatMap, List.mem_range, List.mem_map, Prod.mk.injEq]
  constructor
  · rintro ⟨x, hx, y, hy, rfl, rfl⟩; exact ⟨hx, hy⟩
  · rintro ⟨h1, h2⟩; exact ⟨a, h1, b, h2, rfl, rfl⟩
/-- how many places of a table are empty: what falls from round to round -/
def falsesN (n : Nat) (one : Nat → Nat → Bool) : Nat := (pairsN n).countP fun p => !one p.1 p.2
theorem falsesN_le {n : Nat} {one one' : Nat → Nat → Bool} (h : ∀ a b, a < n → b < n → one a b = true → one' a b = true) : falsesN n one' ≤ falsesN n one :=
  List.countP_mono_left fun x hx h2 => by
    obtain ⟨a, b⟩ := x
    obtain ⟨h3, h4⟩ := mem_pairsN.1 hx
    cases h5 : one a b with
    | false => simp
    | true => have := h a b h3 h4 h5; simp [this] at h2
theorem falsesN_lt {n : Nat} {one one' : Nat → Nat → Bool} (h : ∀ a b, a < n → b < n → one a b = true → one' a b = true) {a b : Nat} (ha : a < n) (hb : b < n) (h0 : one a b = false) (h1 : one' a b = true) : falsesN n one' < falsesN n one :=
  countP_lt _ (fun x hx h2 => by
    obtain ⟨c, d⟩ := x
    obtain ⟨h3, h4⟩ := mem_pairsN.1 hx
    cases h5 : one c d with
    | false => simp
    | true => have := h c d h3 h4 h5; simp [this] at h2) ⟨(a, b), mem_pairsN.2 ⟨ha, hb⟩, by simp [h0], by simp [h1]⟩
end Go.Proofs.YthjfiomcpihlaaaGreat
namespace Go.Proofs.YthjfiomcpihlaaaGreat
open Go.RowKit

/-- a step in the order of the reference -/
noncomputable def stepR (ts : List TermD) (ints : List Bool) (s : JSt) (x : StepD) : Option JSt :=
  if ¬ (badL s.atoms.length [] x.lits 0).2 = 0 then none
  else if x.kind = 5 then (if 0 < x.lits.length ∨ 0 < x.nums.length ∨ ¬ x.atom.kind = 3 ∨ ¬ x.atom.a = 0 ∨ ¬ x.atom.b = 0 ∨ 120 ≤ s.atoms.length ∨ ¬ rowCode x.atom.row ints.length = 0 then none else some ⟨s.atoms ++ [x.atom], s.cls⟩)
  else if zeroA x.atom = false ∨ (¬ x.kind = 4 ∧ 0 < x.nums.length) ∨ (x.kind = 4 ∧ ¬ x.nums.length = x.lits.length) then none
  else if x.kind = 2 then (if s.cls.any (fun c => permB c x.lits) = true then some ⟨s.atoms, s.cls.eraseIdx (idx (fun c => permB c x.lits) s.cls 0).toNat⟩ else none)
  else if (if x.kind = 1 then @decide (Clash s.cls (x.lits.map fun l => -l)) (Classical.propDecidable _) else if x.kind = 3 then sameF ts s.atoms x.lits else if x.kind = 4 then rowsF ints.length s.atoms x.lits x.nums else if x.kind = 6 then gapF ints s.atoms x.lits else false) = true
    then some ⟨s.atoms, s.cls ++ [x.lits]⟩ else none
theorem formedF_no {na : Nat} {x : StepD} (h : (x.kind < 1 ∨ 6 < x.kind) ∨ ((¬ x.kind = 4 ∧ 0 < x.nums.length) ∨ (¬ x.kind = 5 ∧ zeroA x.atom = false) ∨ (x.kind = 5 ∧ 0 < x.lits.length)) ∨ ¬ (badL na [] x.lits 0).2 = 0) : formedF na x = false := by
  unfold formedF
  rcases h with h | h | h
  · rw [decide_eq_false (fun e => e h)]; rfl
  · rw [decide_eq_false (p := ¬ _) (fun e => e h), Bool.and_false, Bool.false_and]
  · rw [decide_eq_false h, Bool.and_false]
theorem formedF_yes {na : Nat} {x : StepD} (h1 : ¬ (x.kind < 1 ∨ 6 < x.kind)) (h2 : ¬ ((¬ x.kind = 4 ∧ 0 < x.nums.length) ∨ (¬ x.kind = 5 ∧ zeroA x.atom = false) ∨ (x.kind = 5 ∧ 0 < x.lits.length))) (h3 : (badL na [] x.lits 0).2 = 0) : formedF na x = true := by
  unfold formedF
  rw [decide_eq_true h1, decide_eq_true h2, decide_eq_true h3]; rfl
theorem stepJ_no {ts : List TermD} {ints : List Bool} {s : JSt} {x : StepD} (h : formedF s.atoms.length x = false) : stepJ ts ints s x = none := by
  unfold stepJ; rw [if_pos h]
/-- **Both take the same steps.** -/
theorem stepR_eq (ts : List TermD) (ints : List Bool) (s : JSt) (x : StepD) : stepR ts ints s x = stepJ ts ints s x := by
  unfold stepR
  by_cases hb : (badL s.atoms.length [] x.lits 0).2 = 0
  case neg => rw [if_pos hb, stepJ_no (formedF_no (.inr (.inr hb)))]
  rw [if_neg (fun e => e hb)]
  by_cases h5 : x.kind = 5
  · rw [if_pos h5]
    by_cases hl : 0 < x.lits.length
    · rw [if_pos (.inl hl), stepJ_no (formedF_no (.inr (.inl (.inr (.inr ⟨h5, hl⟩)))))]
    by_cases hn : 0 < x.nums.length
    · rw [if_pos (.inr (.inl hn)), stepJ_no (formedF_no (.inr (.inl (.inl ⟨by omega, hn⟩))))]
    have hJ : stepJ ts ints s x = if ¬ x.atom.kind = 3 ∨ ¬ atomCode x.atom ts.length ints.length = 0 ∨ 120 ≤ s.atoms.length then none else some ⟨s.atoms ++ [x.atom], s.cls⟩ := by
      have hf : ¬ formedF s.atoms.length x = false := by
        rw [formedF_yes (by omega) (by omega) hb]; simp
      unfold stepJ
      rw [if_neg hf, if_neg (show ¬ x.kind = 2 by omega), if_pos h5]
    have hc : x.atom.kind = 3 → (atomCode x.atom ts.length ints.length = 0 ↔ x.atom.a = 0 ∧ x.atom.b = 0 ∧ rowCode x.atom.row ints.length = 0) := fun hk => by
      unfold atomCode
      rw [if_neg (by omega)]
      by_cases hab : x.atom.a = 0 ∧ x.atom.b = 0
      · rw [if_neg (by omega), if_neg (by omega), if_pos hk]; simp [hab]
      · rw [if_pos (by omega)]
        constructor
        · intro e; omega
        · intro e; exact absurd ⟨e.1, e.2.1⟩ hab
    have hPQ : (0 < x.lits.length ∨ 0 < x.nums.length ∨ ¬ x.atom.kind = 3 ∨ ¬ x.atom.a = 0 ∨ ¬ x.atom.b = 0 ∨ 120 ≤ s.atoms.length ∨ ¬ rowCode x.atom.row ints.length = 0) ↔
        (¬ x.atom.kind = 3 ∨ ¬ atomCode x.atom ts.length ints.length = 0 ∨ 120 ≤ s.atoms.length) := by
      by_cases hk : x.atom.kind = 3
      · have := hc hk
        constructor
        · intro e
          by_cases hm : 120 ≤ s.atoms.length
          · exact .inr (.inr hm)
          · refine .inr (.inl fun e2 => ?_)
            have := this.1 e2
            omega
        · rintro (e | e | e)
          · exact absurd hk e
          · by_cases h1 : x.atom.a = 0 <;> by_cases h2 : x.atom.b = 0 <;> by_cases h3 : rowCode x.atom.row ints.length = 0
            · exact absurd (this.2 ⟨h1, h2, h3⟩) e
            all_goals omega
          · omega
      · exact ⟨fun _ => .inl hk, fun _ => .inr (.inr (.inl hk))⟩
    rw [hJ]
    by_cases hQ : ¬ x.atom.kind = 3 ∨ ¬ atomCode x.atom ts.length ints.length = 0 ∨ 120 ≤ s.atoms.length
    · rw [if_pos (hPQ.2 hQ), if_pos hQ]
    · rw [if_neg (fun e => hQ (hPQ.1 e)), if_neg hQ]
  rw [if_neg h5]
  by_cases hz : zeroA x.atom = false
  · rw [if_pos (.inl hz), stepJ_no (formedF_no (.inr (.inl (.inr (.inl ⟨h5, hz⟩)))))]
  by_cases hn : ¬ x.kind = 4 ∧ 0 < x.nums.length
  · rw [if_pos (.inr (.inl hn)), stepJ_no (formedF_no (.inr (.inl (.inl hn))))]
  by_cases hk : x.kind < 1 ∨ 6 < x.kind
  · rw [stepJ_no (formedF_no (.inl hk))]
    split
    · rfl
    · rw [if_neg (show ¬ x.kind = 2 by omega), if_neg (show ¬ x.kind = 1 by omega), if_neg (show ¬ x.kind = 3 by omega), if_neg (show ¬ x.kind = 4 by omega), if_neg (show ¬ x.kind = 6 by omega)]; rfl
  have hf : formedF s.atoms.length x = true := formedF_yes hk (by
    rintro (h | h | h)
    · exact hn h
    · exact hz h.2
    · exact h5 h.1) hb
  unfold stepJ
  rw [if_neg (show ¬ formedF s.atoms.length x = false by rw [hf]; simp), if_neg h5]
  by_cases h4 : x.kind = 4 ∧ ¬ x.nums.length = x.lits.length
  · rw [if_pos (.inr (.inr h4)), if_neg (show ¬ x.kind = 2 by omega), if_neg (show ¬ x.kind = 1 by omega), if_neg (show ¬ x.kind = 3 by omega), if_pos h4.1]
    have : rowsF ints.length s.atoms x.lits x.nums = false := by
      unfold rowsF; rw [decide_eq_false h4.2, Bool.and_false, Bool.false_and]
    rw [this]; rfl
  · rw [if_neg (by
      rintro (h | h | h)
      · exact hz h
      · exact hn h
      · exact h4 h)]
    by_cases h2 : x.kind = 2
    · rw [if_pos h2, if_pos h2]
    · rw [if_neg h2, if_neg h2]
      by_cases h1 : x.kind = 1
      · rw [if_pos h1, if_pos h1]
      · rw [if_neg h1, if_neg h1]
        by_cases h3 : x.kind = 3
        · rw [if_pos h3, if_pos h3]
        · rw [if_neg h3, if_neg h3]
          by_cases h4 : x.kind = 4
          · rw [if_pos h4, if_pos h4]
          · rw [if_neg h4, if_neg h4, if_pos (show x.kind = 6 by omega)]
end Go.Proofs.YthjfiomcpihlaaaGreat
