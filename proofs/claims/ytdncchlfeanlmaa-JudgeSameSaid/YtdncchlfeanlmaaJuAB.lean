/- Plain: propagation over clauses: what it finds is what follows by units. No program is named here. · Plain: the least congruence, and classes as a row of numbers. No program is named here. -/
import Derived.Test.YtdncchlfeanlmaaCore
namespace Go.Proofs.Ytdncchlfeanlmaa
open Go.RowKit

/-- a clause on a trail: whether it is false; its one open literal, or 0 -/
def stateF (T : Int → Bool) : List Int → Int → Bool × Int
  | [], o => (decide (o = 0), o)
  | l :: r, o => if T (-l) = true then stateF T r o else if T l = true ∨ ¬ o = 0 then (false, 0) else stateF T r l
/-- the number of the first false clause, or -1; the number of the first unit, or -1 -/
def scanF (T : Int → Bool) : List (List Int) → Int → Int → Int × Int
  | [], _, first => (-1, first)
  | c :: r, i, first => if (stateF T c 0).1 = true then (i, first) else scanF T r (i + 1) (if ¬ (stateF T c 0).2 = 0 ∧ first < 0 then i else first)
def hasT (T : List Int) (l : Int) : Bool := T.contains l
def runF (C : List (List Int)) : Nat → List Int → Int
  | 0, _ => -1
  | n + 1, T => if 0 ≤ (scanF (hasT T) C 0 (-1)).1 then (scanF (hasT T) C 0 (-1)).1 else if (scanF (hasT T) C 0 (-1)).2 < 0 then -1
    else runF C n (T ++ [(stateF (hasT T) (C.getD (scanF (hasT T) C 0 (-1)).2.toNat []) 0).2])
/-- how much may still be put on the trail -/
def openN (C : List (List Int)) (T : List Int) : Nat := (C.flatten.filter fun l => !hasT T l).length

/-- no literal of a clause is 0, and none stands twice -/
def CleanC (c : List Int) : Prop := (0 : Int) ∉ c ∧ c.Nodup

section
variable {T : Int → Bool} {c : List Int}
theorem stateF_other : ∀ (r : List Int) (o : Int), ¬ o = 0 → (∀ k ∈ r, T (-k) = true) → stateF T r o = (false, o)
  | [], o, h, _ => by simp [stateF, h]
  | l :: r, o, h, hk => by
    rw [stateF, if_pos (hk l (List.mem_cons_self ..))]
    exact stateF_other r o h fun k hk' => hk k (List.mem_cons_of_mem _ hk')
theorem stateF_no (h0 : (0 : Int) ∉ c) : (stateF T c 0).1 = true ↔ ∀ k ∈ c, T (-k) = true := by
  have haux : ∀ (r : List Int) (o : Int), ¬ o = 0 → (0 : Int) ∉ r → (stateF T r o).1 = false := by
    intro r
    induction r with
    | nil => intro o h _; simp [stateF, h]
    | cons l r ih =>
      intro o h hr
      rw [stateF]
      split
      · exact ih o h fun hm => hr (List.mem_cons_of_mem _ hm)
      · rw [if_pos (.inr h)]
  induction c with
  | nil => simp [stateF]
  | cons l r ih =>
    have hr : (0 : Int) ∉ r := fun hm => h0 (List.mem_cons_of_mem _ hm)
    rw [stateF]
    by_cases h1 : T (-l) = true
    · rw [if_pos h1]
      refine (ih hr).trans ?_
      constructor
      · intro h k hk
        rcases List.mem_cons.1 hk with rfl | hk
        · exact h1
        · exact h k hk
      · exact fun h k hk => h k (List.mem_cons_of_mem _ hk)
    · rw [if_neg h1]
      constructor
      · intro h
        split at h
        · simp at h
        · rw [haux r l (fun e => h0 (by rw [e]; exact List.mem_cons_self ..)) hr] at h
          simp at h
      · exact fun h => absurd (h l (List.mem_cons_self ..)) h1
theorem stateF_unit (h0 : (0 : Int) ∉ c) (h : ¬ (stateF T c 0).2 = 0) : (stateF T c 0).1 = false ∧ (stateF T c 0).2 ∈ c ∧ T (stateF T c 0).2 = false ∧ T (-(stateF T c 0).2) = false ∧ ∀ k ∈ c, ¬ k = (stateF T c 0).2 → T (-k) = true := by
  have haux : ∀ (r : List Int) (o : Int), ¬ o = 0 → ¬ (stateF T r o).2 = 0 → stateF T r o = (false, o) ∧ ∀ k ∈ r, T (-k) = true := by
    intro r
    induction r with
    | nil => intro o h _; exact ⟨by simp [stateF, h], fun k hk => by simp at hk⟩
    | cons l r ih =>
      intro o h hu
      rw [stateF] at hu ⊢
      by_cases h1 : T (-l) = true
      · rw [if_pos h1] at hu ⊢
        obtain ⟨e1, e2⟩ := ih o h hu
        refine ⟨e1, fun k hk => ?_⟩
        rcases List.mem_cons.1 hk with rfl | hk
        · exact h1
        · exact e2 k hk
      · rw [if_neg h1, if_pos (.inr h)] at hu
        simp at hu
  induction c with
  | nil => simp [stateF] at h
  | cons l r ih =>
    have hr : (0 : Int) ∉ r := fun hm => h0 (List.mem_cons_of_mem _ hm)
    have hl : ¬ l = 0 := fun e => h0 (by rw [e]; exact List.mem_cons_self ..)
    rw [stateF] at h ⊢
    by_cases h1 : T (-l) = true
    · rw [if_pos h1] at h ⊢
      obtain ⟨e1, e2, e3, e4, e5⟩ := ih hr h
      refine ⟨e1, List.mem_cons_of_mem _ e2, e3, e4, fun k hk hne => ?_⟩
      rcases List.mem_cons.1 hk with rfl | hk
      · exact h1
      · exact e5 k hk hne
    · rw [if_neg h1] at h ⊢
      by_cases h2 : T l = true ∨ ¬ (0 : Int) = 0
      · rw [if_pos h2] at h; simp at h
      · rw [if_neg h2] at h ⊢
        obtain ⟨e1, e2⟩ := haux r l hl h
        rw [e1]
        refine ⟨rfl, List.mem_cons_self .., ?_, by simpa using h1, fun k hk hne => ?_⟩
        · have := fun e => h2 (.inl e)
          simpa using this
        · rcases List.mem_cons.1 hk with rfl | hk
          · exact absurd rfl hne
          · exact e2 k hk
/-- a clause of which all but one literal are false is false, or its literal is on the trail, or it is a unit -/
theorem stateF_all (hc : CleanC c) {l : Int} (hl : l ∈ c) (h : ∀ k ∈ c, ¬ k = l → T (-k) = true) : (stateF T c 0).1 = true ∨ T l = true ∨ ¬ (stateF T c 0).2 = 0 := by
  obtain ⟨h0, hn⟩ := hc
  induction c with
  | nil => simp at hl
  | cons x r ih =>
    have hr : (0 : Int) ∉ r := fun hm => h0 (List.mem_cons_of_mem _ hm)
    have hx : ¬ x = 0 := fun e => h0 (by rw [e]; exact List.mem_cons_self ..)
    rw [List.nodup_cons] at hn
    rw [stateF]
    by_cases h1 : T (-x) = true
    · rw [if_pos h1]
      rcases List.mem_cons.1 hl with rfl | hl
      · left
        exact (stateF_no hr).2 fun k hk => h k (List.mem_cons_of_mem _ hk) fun e => hn.1 (e ▸ hk)
      · exact ih hl (fun k hk => h k (List.mem_cons_of_mem _ hk)) hr hn.2
    · rw [if_neg h1]
      have hxl : x = l := by
        by_cases e : x = l
        · exact e
        · exact absurd (h x (List.mem_cons_self ..) e) h1
      subst hxl
      by_cases h2 : T x = true
      · exact .inr (.inl h2)
      · rw [if_neg (by simp [h2]), stateF_other r x hx fun k hk => h k (List.mem_cons_of_mem _ hk) fun e => hn.1 (e ▸ hk)]
        exact .inr (.inr hx)
end

theorem scanF_spec {T : Int → Bool} : ∀ (C : List (List Int)) (i first : Int), 0 ≤ i → (first < 0 ∨ first < i) →
    (0 ≤ (scanF T C i first).1 → ∃ (k : Nat) (c : List Int), C[k]? = some c ∧ (scanF T C i first).1 = i + k ∧ (stateF T c 0).1 = true) ∧
    (¬ 0 ≤ (scanF T C i first).1 → (scanF T C i first).1 = -1 ∧ (∀ c ∈ C, (stateF T c 0).1 = false) ∧
      (0 ≤ first → (scanF T C i first).2 = first) ∧
      (first < 0 → ((scanF T C i first).2 < 0 ∧ ∀ c ∈ C, (stateF T c 0).2 = 0) ∨ ∃ (k : Nat) (c : List Int), C[k]? = some c ∧ (scanF T C i first).2 = i + k ∧ ¬ (stateF T c 0).2 = 0))
  | [], i, first, hi, _ => by
    refine ⟨fun h => absurd h (by simp [scanF]), fun _ => ⟨rfl, fun c hc => by simp at hc, fun _ => rfl, fun h => .inl ⟨h, fun c hc => by simp at hc⟩⟩⟩
  | c :: r, i, first, hi, hf => by
    rw [scanF]
    by_cases h1 : (stateF T c 0).1 = true
    · rw [if_pos h1]
      exact ⟨fun _ => ⟨0, c, rfl, by simp, h1⟩, fun h => absurd hi h⟩
    · rw [if_neg h1]
      obtain ⟨g, hg⟩ : ∃ g, (if ¬ (stateF T c 0).2 = 0 ∧ first < 0 then i else first) = g := ⟨_, rfl⟩
      rw [hg]
      have hgi : g < 0 ∨ g < i + 1 := by rw [← hg]; split <;> omega
      obtain ⟨e1, e2⟩ := scanF_spec r (i + 1) g (by omega) hgi
      refine ⟨fun h => ?_, fun h => ?_⟩
      · obtain ⟨k, d, hk, hs, hd⟩ := e1 h
        exact ⟨k + 1, d, by simpa using hk, by rw [hs]; omega, hd⟩
      · obtain ⟨a1, a2, a3, a4⟩ := e2 h
        refine ⟨a1, fun d hd => ?_, fun hf0 => ?_, fun hf0 => ?_⟩
        · rcases List.mem_cons.1 hd with rfl | hd
          · simpa using h1
          · exact a2 d hd
        · have : g = first := by rw [← hg, if_neg (by omega)]
          rw [this] at a3 ⊢
          exact a3 hf0
        · by_cases h2 : (stateF T c 0).2 = 0
          · have : g = first := by rw [← hg, if_neg (by simp [h2])]
            rw [this] at a4 ⊢
            rcases a4 hf0 with ⟨b1, b2⟩ | ⟨k, d, hk, hs, hd⟩
            · refine .inl ⟨b1, fun d hd => ?_⟩
              rcases List.mem_cons.1 hd with rfl | hd
              · exact h2
              · exact b2 d hd
            · exact .inr ⟨k + 1, d, by simpa using hk, by rw [hs]; omega, hd⟩
          · have : g = i := by rw [← hg, if_pos ⟨h2, hf0⟩]
            rw [this] at a3 ⊢
            exact .inr ⟨0, c, rfl, by rw [a3 hi]; simp, h2⟩

/-- what follows by units from what is on the trail -/
inductive Drv (C : List (List Int)) (T : List Int) : Int → Prop
  | base {l : Int} : l ∈ T → Drv C T l
  | unit {c : List Int} {l : Int} : c ∈ C → l ∈ c → (∀ k ∈ c, ¬ k = l → Drv C T (-k)) → Drv C T l
/-- some clause is false by what follows -/
def Clash (C : List (List Int)) (T : List Int) : Prop := ∃ c ∈ C, ∀ k ∈ c, Drv C T (-k)
theorem Drv.more {C D : List (List Int)} {T U : List Int} (hC : ∀ c ∈ C, c ∈ D) (hT : ∀ l ∈ T, l ∈ U) {l : Int} (h : Drv C T l) : Drv D U l := by
  induction h with
  | base h => exact .base (hT _ h)
  | unit hc hl _ ih => exact .unit (hC _ hc) hl ih
theorem Clash.more {C D : List (List Int)} {T U : List Int} (hC : ∀ c ∈ C, c ∈ D) (hT : ∀ l ∈ T, l ∈ U) (h : Clash C T) : Clash D U := by
  obtain ⟨c, hc, hk⟩ := h
  exact ⟨c, hC c hc, fun k hm => (hk k hm).more hC hT⟩
theorem Drv.cut {C : List (List Int)} {T U : List Int} (hT : ∀ l ∈ U, Drv C T l) {l : Int} (h : Drv C U l) : Drv C T l := by
  induction h with
  | base h => exact hT _ h
  | unit hc hl _ ih => exact .unit hc hl ih
theorem hasT_mem {T : List Int} {l : Int} : hasT T l = true ↔ l ∈ T := by simp [hasT]
theorem openN_less {C : List (List Int)} {T : List Int} {l : Int} (hl : l ∈ C.flatten) (ht : hasT T l = false) : openN C (T ++ [l]) < openN C T := by
  unfold openN
  have h1 : C.flatten.filter (fun x => !hasT (T ++ [l]) x) = (C.flatten.filter fun x => !hasT T x).filter fun x => !decide (x = l) := by
    rw [List.filter_filter]
    apply List.filter_congr
    intro x _
    simp only [hasT, List.contains_eq_mem, List.mem_append, List.mem_singleton]
    by_cases h1 : x ∈ T <;> by_cases h2 : x = l <;> simp [h1, h2]
  rw [h1]
  have hmem : l ∈ C.flatten.filter fun x => !hasT T x := List.mem_filter.2 ⟨hl, by simp [ht]⟩
  generalize C.flatten.filter (fun x => !hasT T x) = L at hmem
  clear h1 hl ht
  induction L with
  | nil => simp at hmem
  | cons y r ih =>
    by_cases hy : y = l
    · subst hy
      rw [List.filter_cons_of_neg (by simp), List.length_cons]
      exact Nat.lt_succ_of_le (List.length_filter_le _ _)
    · rw [List.filter_cons_of_pos (by simp [hy]), List.length_cons, List.length_cons]
      have := ih (by rcases List.mem_cons.1 hmem with e | e; exact absurd e.symm hy; exact e)
      omega

section
variable {C : List (List Int)}
/-- what a step of the run says: a false clause, the end, or a literal more -/
theorem scan_step (hC : ∀ c ∈ C, CleanC c) (T : List Int) :
    (0 ≤ (scanF (hasT T) C 0 (-1)).1 ∧ Clash C T) ∨
    ((scanF (hasT T) C 0 (-1)).1 = -1 ∧ (scanF (hasT T) C 0 (-1)).2 < 0 ∧ ¬ Clash C T) ∨
    ((scanF (hasT T) C 0 (-1)).1 = -1 ∧ ∃ (k : Nat) (c : List Int), C[k]? = some c ∧ (scanF (hasT T) C 0 (-1)).2 = k ∧ ¬ (stateF (hasT T) c 0).2 = 0 ∧ (stateF (hasT T) c 0).2 ∈ C.flatten ∧ hasT T (stateF (hasT T) c 0).2 = false ∧ (Clash C (T ++ [(stateF (hasT T) c 0).2]) ↔ Clash C T)) := by
  obtain ⟨h1, h2⟩ := scanF_spec (T := hasT T) C 0 (-1) (Int.le_refl _) (.inl (by decide))
  by_cases hn : 0 ≤ (scanF (hasT T) C 0 (-1)).1
  · obtain ⟨k, c, hk, -, hc⟩ := h1 hn
    have hm := List.mem_of_getElem? hk
    exact .inl ⟨hn, c, hm, fun x hx => .base (hasT_mem.1 ((stateF_no (hC c hm).1).1 hc x hx))⟩
  · obtain ⟨a1, a2, -, a4⟩ := h2 hn
    rcases a4 (by decide) with ⟨b1, b2⟩ | ⟨k, c, hk, hs, hc⟩
    · refine .inr (.inl ⟨a1, b1, ?_⟩)
      have hcl : ∀ l, Drv C T l → l ∈ T := by
        intro l hl
        induction hl with
        | base h => exact h
        | @unit c l hc hl _ ih =>
          rcases stateF_all (T := hasT T) (hC c hc) hl (fun k hk hne => hasT_mem.2 (ih k hk hne)) with e | e | e
          · rw [a2 c hc] at e; simp at e
          · exact hasT_mem.1 e
          · exact absurd (b2 c hc) e
      rintro ⟨c, hc, hk⟩
      have := (stateF_no (T := hasT T) (hC c hc).1).2 fun k hm => hasT_mem.2 (hcl _ (hk k hm))
      rw [a2 c hc] at this
      simp at this
    · have hm := List.mem_of_getElem? hk
      obtain ⟨e1, e2, e3, e4, e5⟩ := stateF_unit (hC c hm).1 hc
      refine .inr (.inr ⟨a1, k, c, hk, by rw [hs, Int.zero_add], hc, List.mem_flatten.2 ⟨c, hm, e2⟩, e3, ?_⟩)
      constructor
      · rintro ⟨d, hd, hx⟩
        refine ⟨d, hd, fun x hxm => (hx x hxm).cut fun l hl => ?_⟩
        rcases List.mem_append.1 hl with hl | hl
        · exact .base hl
        · rw [List.mem_singleton.1 hl]
          exact .unit hm e2 fun k hk hne => .base (hasT_mem.1 (e5 k hk hne))
      · exact Clash.more (fun _ h => h) (fun _ h => List.mem_append_left _ h)
/-- **The run finds a false clause just if units lead to one.** -/
theorem runF_clash (hC : ∀ c ∈ C, CleanC c) : ∀ (n : Nat) (T : List Int), openN C T < n → (0 ≤ runF C n T ↔ Clash C T)
  | 0, _, h => absurd h (Nat.not_lt_zero _)
  | n + 1, T, h => by
    rw [runF]
    rcases scan_step hC T with ⟨h1, h2⟩ | ⟨h1, h2, h3⟩ | ⟨h1, k, c, hk, hs, h0, hf, ht, hcl⟩
    · rw [if_pos h1]
      exact ⟨fun _ => h2, fun _ => h1⟩
    · rw [if_neg (by omega), if_pos h2]
      exact ⟨fun e => absurd e (by decide), fun e => absurd e h3⟩
    · have hg : C.getD (scanF (hasT T) C 0 (-1)).2.toNat [] = c := by
        rw [hs, Int.toNat_natCast, List.getD_eq_getElem?_getD, hk]; rfl
      rw [if_neg (by omega), if_neg (by omega), hg, ← hcl]
      exact runF_clash hC n _ (by have := openN_less hf ht; omega)
end
end Go.Proofs.Ytdncchlfeanlmaa
namespace Go.Proofs.Ytdncchlfeanlmaa
open Go.RowKit

/-- the least congruence of terms that holds of the pairs -/
inductive Cong (ts : List TermD) (ps : List (Int × Int)) : Nat → Nat → Prop
  | refl (a : Nat) : Cong ts ps a a
  | symm {a b : Nat} : Cong ts ps a b → Cong ts ps b a
  | trans {a b c : Nat} : Cong ts ps a b → Cong ts ps b c → Cong ts ps a c
  | pair {x y : Int} : (x, y) ∈ ps → Cong ts ps x.toNat y.toNat
  | app {i k : Nat} {t u : TermD} : ts[i]? = some t → ts[k]? = some u → t.head = u.head → t.kids.length = u.kids.length → (∀ (m : Nat) (x y : Int), t.kids[m]? = some x → u.kids[m]? = some y → Cong ts ps x.toNat y.toNat) → Cong ts ps i k

/-- all of the class max x y go to the class min x y -/
def joinL (cl : List Int) (x y : Int) : List Int := cl.map fun c => if c = max x y then min x y else c
theorem joinL_len (cl : List Int) (x y : Int) : (joinL cl x y).length = cl.length := by simp [joinL]
theorem joinL_get {cl : List Int} {x y : Int} (i : Nat) : (joinL cl x y)[i]? = (cl[i]?).map fun c => if c = max x y then min x y else c := by simp [joinL]
/-- equal classes are of related terms -/
def ClSound (ts : List TermD) (ps : List (Int × Int)) (cl : List Int) : Prop := ∀ (a b : Nat) (x : Int), cl[a]? = some x → cl[b]? = some x → Cong ts ps a b
/-- in one class -/
def InCl (cl : List Int) (a b : Nat) : Prop := a < cl.length ∧ b < cl.length ∧ cl[a]? = cl[b]?
section
variable {ts : List TermD} {ps : List (Int × Int)} {cl : List Int} {a b : Nat} {x y : Int}
theorem joinL_sound (h : ClSound ts ps cl) (ha : cl[a]? = some x) (hb : cl[b]? = some y) (hab : Cong ts ps a b) : ClSound ts ps (joinL cl x y) := fun u v z hu hv => by
  rw [joinL_get] at hu hv
  have aux : ∀ u : Nat, (cl[u]?).map (fun c => if c = max x y then min x y else c) = some z → ∃ c, cl[u]? = some c ∧ (c = z ∨ ((c = x ∨ c = y) ∧ (z = x ∨ z = y))) := fun u hu => by
    cases hc : cl[u]? with
    | none => rw [hc] at hu; simp at hu
    | some c =>
      rw [hc] at hu
      simp only [Option.map_some, Option.some.injEq] at hu
      refine ⟨c, rfl, ?_⟩
      split at hu <;> omega
  obtain ⟨c, hc, h1⟩ := aux u hu
  obtain ⟨d, hd, h2⟩ := aux v hv
  have toA : ∀ (w : Nat) (e : Int), cl[w]? = some e → (e = x ∨ e = y) → Cong ts ps w a := fun w e hw he => by
    rcases he with rfl | rfl
    · exact h w a e hw ha
    · exact (h w b e hw hb).trans hab.symm
  rcases h1 with rfl | ⟨h1, h1'⟩
  · rcases h2 with rfl | ⟨h2, h2'⟩
    · exact h u v _ hc hd
    · exact (toA u _ hc h2').trans (toA v _ hd h2).symm
  · rcases h2 with rfl | ⟨h2, -⟩
    · exact (toA u _ hc h1).trans (toA v _ hd h1').symm
    · exact (toA u _ hc h1).trans (toA v _ hd h2).symm
theorem joinL_keeps {u v : Nat} (h : InCl cl u v) : InCl (joinL cl x y) u v := ⟨by rw [joinL_len]; exact h.1, by rw [joinL_len]; exact h.2.1, by rw [joinL_get, joinL_get, h.2.2]⟩
theorem joinL_joins (ha : cl[a]? = some x) (hb : cl[b]? = some y) : InCl (joinL cl x y) a b := by
  refine ⟨by rw [joinL_len]; exact (List.getElem?_eq_some_iff.1 ha).1, by rw [joinL_len]; exact (List.getElem?_eq_some_iff.1 hb).1, ?_⟩
  rw [joinL_get, joinL_get, ha, hb]
  simp only [Option.map_some, Option.some.injEq]
  split <;> split <;> omega
theorem joinL_same (h : x = y) : joinL cl x y = cl := by
  subst h
  unfold joinL
  conv => rhs; rw [← List.map_id cl]
  apply List.map_congr_left
  intro c _
  simp only [id_eq]
  split <;> omega
/-- classes are numbers from 0 on, their sum -/
def sumC (cl : List Int) : Nat := (cl.map Int.toNat).sum
theorem joinL_le (hx : 0 ≤ x) (hy : 0 ≤ y) : sumC (joinL cl x y) ≤ sumC cl := by
  unfold sumC joinL
  induction cl with
  | nil => simp
  | cons c r ih =>
    simp only [List.map_cons, List.sum_cons]
    split <;> omega
theorem joinL_less (hx : 0 ≤ x) (hy : 0 ≤ y) (hne : ¬ x = y) (hm : max x y ∈ cl) : sumC (joinL cl x y) < sumC cl := by
  unfold sumC joinL
  induction cl with
  | nil => simp at hm
  | cons c r ih =>
    have hle : sumC (joinL r x y) ≤ sumC r := joinL_le hx hy
    unfold sumC joinL at hle
    simp only [List.map_cons, List.sum_cons]
    by_cases hc : c = max x y
    · rw [if_pos hc]; omega
    · rw [if_neg hc]
      have := ih (by rcases List.mem_cons.1 hm with e | e; exact absurd e.symm hc; exact e)
      omega
theorem joinL_nonneg (hx : 0 ≤ x) (hy : 0 ≤ y) (h : ∀ c ∈ cl, 0 ≤ c) : ∀ c ∈ joinL cl x y, 0 ≤ c := fun c hc => by
  obtain ⟨d, hd, rfl⟩ := List.mem_map.1 hc
  have := h d hd
  split <;> omega
end

/-- arguments in the same classes -/
def kidsSame (cl : List Int) : List Int → List Int → Bool
  | [], [] => true
  | x :: r, y :: s => decide (cl[x.toNat]? = cl[y.toNat]?) && kidsSame cl r s
  | _, _ => false
theorem kidsSame_iff {cl : List Int} : ∀ {r s : List Int}, kidsSame cl r s = true ↔ r.length = s.length ∧ ∀ (m : Nat) (x y : Int), r[m]? = some x → s[m]? = some y → cl[x.toNat]? = cl[y.toNat]?
  | [], [] => by simp [kidsSame]
  | [], _ :: _ => by simp [kidsSame]
  | _ :: _, [] => by simp [kidsSame]
  | x :: r, y :: s => by
    rw [kidsSame, Bool.and_eq_true, decide_eq_true_eq, kidsSame_iff]
    constructor
    · rintro ⟨h1, h2, h3⟩
      refine ⟨by simp [h2], fun m u v hu hv => ?_⟩
      rcases m with _ | m
      · simp only [List.getElem?_cons_zero, Option.some.injEq] at hu hv
        rw [← hu, ← hv, h1]
      · exact h3 m u v (by simpa using hu) (by simpa using hv)
    · rintro ⟨h1, h2⟩
      exact ⟨h2 0 x y rfl rfl, by simpa using h1, fun m u v hu hv => h2 (m + 1) u v (by simpa using hu) (by simpa using hv)⟩
/-- terms of one head with arguments in the same classes are in one class -/
def ClosedTo (ts : List TermD) (cl : List Int) (i : Nat) (k : Nat) : Prop := ∀ (j l : Nat) (t u : TermD), (j < i ∧ l < j) ∨ (j = i ∧ l < k ∧ l < j) → ts[j]? = some t → ts[l]? = some u → t.head = u.head → kidsSame cl t.kids u.kids = true → cl[j]? = cl[l]?

/-- what the classes are when all is done -/
structure Classy (ts : List TermD) (ps : List (Int × Int)) (cl : List Int) : Prop where
  len : cl.length = ts.length
  sound : ClSound ts ps cl
  pairs : ∀ (x y : Int), (x, y) ∈ ps → InCl cl x.toNat y.toNat
  closed : ClosedTo ts cl ts.length 0
theorem Classy.same {ts : List TermD} {ps : List (Int × Int)} {cl : List Int} (h : Classy ts ps cl) {a b : Nat} (ha : a < ts.length) : cl[a]? = cl[b]? ↔ Cong ts ps a b := by
  constructor
  · intro e
    have ha' : a < cl.length := by rw [h.len]; exact ha
    exact h.sound a b cl[a] (List.getElem?_eq_getElem ha') (e ▸ List.getElem?_eq_getElem ha')
  · intro e
    clear ha
    induction e with
    | refl a => rfl
    | symm _ ih => exact ih.symm
    | trans _ _ ih1 ih2 => exact ih1.trans ih2
    | pair hm => exact (h.pairs _ _ hm).2.2
    | @app i k t u ht hu hh hl hc ih =>
      have hi : i < ts.length := (List.getElem?_eq_some_iff.1 ht).1
      have hk' : k < ts.length := (List.getElem?_eq_some_iff.1 hu).1
      rcases Nat.lt_trichotomy k i with hki | rfl | hki
      · exact h.closed i k t u (.inl ⟨hi, hki⟩) ht hu hh (kidsSame_iff.2 ⟨hl, fun m x y hx hy => ih m x y hx hy⟩)
      · rfl
      · exact (h.closed k i u t (.inl ⟨hk', hki⟩) hu ht hh.symm (kidsSame_iff.2 ⟨hl.symm, fun m x y hx hy => (ih m y x hy hx).symm⟩)).symm
end Go.Proofs.Ytdncchlfeanlmaa
