/- Plain: propagation over clauses: what it finds is what follows by units. No program is named here. · Plain: the least congruence, and classes as a row of numbers. No program is named here. · A map from numbers to truth values that a call makes itself: which numbers are in it. · Walks: propagation over clauses: the trail, what a clause is on it. · Walks: propagation over clauses: a literal comes onto the trail. -/
import Derived.Test.YtfogiljgecmakaaGreatCore
import Derived.Test.YtfogiljgecmakaaGreatFuFr
import Derived.Maps.OwnOps
import Derived.Maps.Views
import Derived.Test.YtfogiljgecmakaaGreatOuO
import Derived.BigRegion
import Derived.Deep.RegionLaw
namespace Go.Proofs.YtfogiljgecmakaaGreat
open Go.RowKit

/-- a clause on a trail: whether it is false; its one open literal, or 0 -/
def stateF (T : Int → Bool) : List Int → Int → Bool × Int
  | [], o => (decide (o = 0), o)
  | l :: r, o => if T (-l) = true then stateF T r o else if T l = true ∨ ¬ o = 0 then (false, 0) else stateF T r l
/-- the number of the first false clause, or -1; the number of the first unit, or -1 -/
def scanF (T : Int → Bool) : List (List Int) → Int → Int → Int × Int
  | [], _, first => (-1, first)
  | c :: r, i, first => if (stateF T c 0).1 = true then (i, first) else scanF T r (i + 1) (if ¬ (stateF T c 0).2 = 0 ∧ first < 0 then i else first)
def hasT (T : List Int) (l : Int) : Bool := T.contains l
def runF (C : List (List Int)) : Nat → List Int → Int
  | 0, _ => -1
  | n + 1, T => if 0 ≤ (scanF (hasT T) C 0 (-1)).1 then (scanF (hasT T) C 0 (-1)).1 else if (scanF (hasT T) C 0 (-1)).2 < 0 then -1
    else runF C n (T ++ [(stateF (hasT T) (C.getD (scanF (hasT T) C 0 (-1)).2.toNat []) 0).2])
/-- how much may still be put on the trail -/
def openN (C : List (List Int)) (T : List Int) : Nat := (C.flatten.filter fun l => !hasT T l).length

/-- no literal of a clause is 0, and none stands twice -/
def CleanC (c : List Int) : Prop := (0 : Int) ∉ c ∧ c.Nodup

section
variable {T : Int → Bool} {c : List Int}
theorem stateF_other : ∀ (r : List Int) (o : Int), ¬ o = 0 → (∀ k ∈ r, T (-k) = true) → stateF T r o = (false, o)
  | [], o, h, _ => by simp [stateF, h]
  | l :: r, o, h, hk => by
    rw [stateF, if_pos (hk l (List.mem_cons_self ..))]
    exact stateF_other r o h fun k hk' => hk k (List.mem_cons_of_mem _ hk')
theorem stateF_no (h0 : (0 : Int) ∉ c) : (stateF T c 0).1 = true ↔ ∀ k ∈ c, T (-k) = true := by
  have haux : ∀ (r : List Int) (o : Int), ¬ o = 0 → (0 : Int) ∉ r → (stateF T r o).1 = false := by
    intro r
    induction r with
    | nil => intro o h _; simp [stateF, h]
    | cons l r ih =>
      intro o h hr
      rw [stateF]
      split
      · exact ih o h fun hm => hr (List.mem_cons_of_mem _ hm)
      · rw [if_pos (.inr h)]
  induction c with
  | nil => simp [stateF]
  | cons l r ih =>
    have hr : (0 : Int) ∉ r := fun hm => h0 (List.mem_cons_of_mem _ hm)
    rw [stateF]
    by_cases h1 : T (-l) = true
    · rw [if_pos h1]
      refine (ih hr).trans ?_
      constructor
      · intro h k hk
        rcases List.mem_cons.1 hk with rfl | hk
        · exact h1
        · exact h k hk
      · exact fun h k hk => h k (List.mem_cons_of_mem _ hk)
    · rw [if_neg h1]
      constructor
      · intro h
        split at h
        · simp at h
        · rw [haux r l (fun e => h0 (by rw [e]; exact List.mem_cons_self ..)) hr] at h
          simp at h
      · exact fun h => absurd (h l (List.mem_cons_self ..)) h1
theorem stateF_unit (h0 : (0 : Int) ∉ c) (h : ¬ (stateF T c 0).2 = 0) : (stateF T c 0).1 = false ∧ (stateF T c 0).2 ∈ c ∧ T (stateF T c 0).2 = false ∧ T (-(stateF T c 0).2) = false ∧ ∀ k ∈ c, ¬ k = (stateF T c 0).2 → T (-k) = true := by
  have haux : ∀ (r : List Int) (o : Int), ¬ o = 0 → ¬ (stateF T r o).2 = 0 → stateF T r o = (false, o) ∧ ∀ k ∈ r, T (-k) = true := by
    intro r
    induction r with
    | nil => intro o h _; exact ⟨by simp [stateF, h], fun k hk => by simp at hk⟩
    | cons l r ih =>
      intro o h hu
      rw [stateF] at hu ⊢
      by_cases h1 : T (-l) = true
      · rw [if_pos h1] at hu ⊢
        obtain ⟨e1, e2⟩ := ih o h hu
        refine ⟨e1, fun k hk => ?_⟩
        rcases List.mem_cons.1 hk with rfl | hk
        · exact h1
        · exact e2 k hk
      · rw [if_neg h1, if_pos (.inr h)] at hu
        simp at hu
  induction c with
  | nil => simp [stateF] at h
  | cons l r ih =>
    have hr : (0 : Int) ∉ r := fun hm => h0 (List.mem_cons_of_mem _ hm)
    have hl : ¬ l = 0 := fun e => h0 (by rw [e]; exact List.mem_cons_self ..)
    rw [stateF] at h ⊢
    by_cases h1 : T (-l) = true
    · rw [if_pos h1] at h ⊢
      obtain ⟨e1, e2, e3, e4, e5⟩ := ih hr h
      refine ⟨e1, List.mem_cons_of_mem _ e2, e3, e4, fun k hk hne => ?_⟩
      rcases List.mem_cons.1 hk with rfl | hk
      · exact h1
      · exact e5 k hk hne
    · rw [if_neg h1] at h ⊢
      by_cases h2 : T l = true ∨ ¬ (0 : Int) = 0
      · rw [if_pos h2] at h; simp at h
      · rw [if_neg h2] at h ⊢
        obtain ⟨e1, e2⟩ := haux r l hl h
        rw [e1]
        refine ⟨rfl, List.mem_cons_self .., ?_, by simpa using h1, fun k hk hne => ?_⟩
        · have := fun e => h2 (.inl e)
          simpa using this
        · rcases List.mem_cons.1 hk with rfl | hk
          · exact absurd rfl hne
          · exact e2 k hk
/-- a clause of which all but one literal are false is false, or its literal is on the trail, or it is a unit -/
theorem stateF_all (hc : CleanC c) {l : Int} (hl : l ∈ c) (h : ∀ k ∈ c, ¬ k = l → T (-k) = true) : (stateF T c 0).1 = true ∨ T l = true ∨ ¬ (stateF T c 0).2 = 0 := by
  obtain ⟨h0, hn⟩ := hc
  induction c with
  | nil => simp at hl
  | cons x r ih =>
    have hr : (0 : Int) ∉ r := fun hm => h0 (List.mem_cons_of_mem _ hm)
    have hx : ¬ x = 0 := fun e => h0 (by rw [e]; exact List.mem_cons_self ..)
    rw [List.nodup_cons] at hn
    rw [stateF]
    by_cases h1 : T (-x) = true
    · rw [if_pos h1]
      rcases List.mem_cons.1 hl with rfl | hl
      · left
        exact (stateF_no hr).2 fun k hk => h k (List.mem_cons_of_mem _ hk) fun e => hn.1 (e ▸ hk)
      · exact ih hl (fun k hk => h k (List.mem_cons_of_mem _ hk)) hr hn.2
    · rw [if_neg h1]
      have hxl : x = l := by
        by_cases e : x = l
        · exact e
        · exact absurd (h x (List.mem_cons_self ..) e) h1
      subst hxl
      by_cases h2 : T x = true
      · exact .inr (.inl h2)
      · rw [if_neg (by simp [h2]), stateF_other r x hx fun k hk => h k (List.mem_cons_of_mem _ hk) fun e => hn.1 (e ▸ hk)]
        exact .inr (.inr hx)
end

theorem scanF_spec {T : Int → Bool} : ∀ (C : List (List Int)) (i first : Int), 0 ≤ i → (first < 0 ∨ first < i) →
    (0 ≤ (scanF T C i first).1 → ∃ (k : Nat) (c : List Int), C[k]? = some c ∧ (scanF T C i first).1 = i + k ∧ (stateF T c 0).1 = true) ∧
    (¬ 0 ≤ (scanF T C i first).1 → (scanF T C i first).1 = -1 ∧ (∀ c ∈ C, (stateF T c 0).1 = false) ∧
      (0 ≤ first → (scanF T C i first).2 = first) ∧
      (first < 0 → ((scanF T C i first).2 < 0 ∧ ∀ c ∈ C, (stateF T c 0).2 = 0) ∨ ∃ (k : Nat) (c : List Int), C[k]? = some c ∧ (scanF T C i first).2 = i + k ∧ ¬ (stateF T c 0).2 = 0))
  | [], i, first, hi, _ => by
    refine ⟨fun h => absurd h (by simp [scanF]), fun _ => ⟨rfl, fun c hc => by simp at hc, fun _ => rfl, fun h => .inl ⟨h, fun c hc => by simp at hc⟩⟩⟩
  | c :: r, i, first, hi, hf => by
    rw [scanF]
    by_cases h1 : (stateF T c 0).1 = true
    · rw [if_pos h1]
      exact ⟨fun _ => ⟨0, c, rfl, by simp, h1⟩, fun h => absurd hi h⟩
    · rw [if_neg h1]
      obtain ⟨g, hg⟩ : ∃ g, (if ¬ (stateF T c 0).2 = 0 ∧ first < 0 then i else first) = g := ⟨_, rfl⟩
      rw [hg]
      have hgi : g < 0 ∨ g < i + 1 := by rw [← hg]; split <;> omega
      obtain ⟨e1, e2⟩ := scanF_spec r (i + 1) g (by omega) hgi
      refine ⟨fun h => ?_, fun h => ?_⟩
      · obtain ⟨k, d, hk, hs, hd⟩ := e1 h
        exact ⟨k + 1, d, by simpa using hk, by rw [hs]; omega, hd⟩
      · obtain ⟨a1, a2, a3, a4⟩ := e2 h
        refine ⟨a1, fun d hd => ?_, fun hf0 => ?_, fun hf0 => ?_⟩
        · rcases List.mem_cons.1 hd with rfl | hd
          · simpa using h1
          · exact a2 d hd
        · have : g = first := by rw [← hg, if_neg (by omega)]
          rw [this] at a3 ⊢
          exact a3 hf0
        · by_cases h2 : (stateF T c 0).2 = 0
          · have : g = first := by rw [← hg, if_neg (by simp [h2])]
            rw [this] at a4 ⊢
            rcases a4 hf0 with ⟨b1, b2⟩ | ⟨k, d, hk, hs, hd⟩
            · refine .inl ⟨b1, fun d hd => ?_⟩
              rcases List.mem_cons.1 hd with rfl | hd
              · exact h2
              · exact b2 d hd
            · exact .inr ⟨k + 1, d, by simpa using hk, by rw [hs]; omega, hd⟩
          · have : g = i := by rw [← hg, if_pos ⟨h2, hf0⟩]
            rw [this] at a3 ⊢
            exact .inr ⟨0, c, rfl, by rw [a3 hi]; simp, h2⟩

/-- what follows by units from what is on the trail -/
inductive Drv (C : List (List Int)) (T : List Int) : Int → Prop
  | base {l : Int} : l ∈ T → Drv C T l
  | unit {c : List Int} {l : Int} : c ∈ C → l ∈ c → (∀ k ∈ c, ¬ k = l → Drv C T (-k)) → Drv C T l
/-- some clause is false by what follows -/
def Clash (C : List (List Int)) (T : List Int) : Prop := ∃ c ∈ C, ∀ k ∈ c, Drv C T (-k)
theorem Drv.more {C D : List (List Int)} {T U : List Int} (hC : ∀ c ∈ C, c ∈ D) (hT : ∀ l ∈ T, l ∈ U) {l : Int} (h : Drv C T l) : Drv D U l := by
  induction h with
  | base h => exact .base (hT _ h)
  | unit hc hl _ ih => exact .unit (hC _ hc) hl ih
theorem Clash.more {C D : List (List Int)} {T U : List Int} (hC : ∀ c ∈ C, c ∈ D) (hT : ∀ l ∈ T, l ∈ U) (h : Clash C T) : Clash D U := by
  obtain ⟨c, hc, hk⟩ := h
  exact ⟨c, hC c hc, fun k hm => (hk k hm).more hC hT⟩
theorem Drv.cut {C : List (List Int)} {T U : List Int} (hT : ∀ l ∈ U, Drv C T l) {l : Int} (h : Drv C U l) : Drv C T l := by
  induction h with
  | base h => exact hT _ h
  | unit hc hl _ ih => exact .unit hc hl ih
theorem hasT_mem {T : List Int} {l : Int} : hasT T l = true ↔ l ∈ T := by simp [hasT]
theorem openN_less {C : List (List Int)} {T : List Int} {l : Int} (hl : l ∈ C.flatten) (ht : hasT T l = false) : openN C (T ++ [l]) < openN C T := by
  unfold openN
  have h1 : C.flatten.filter (fun x => !hasT (T ++ [l]) x) = (C.flatten.filter fun x => !hasT T x).filter fun x => !decide (x = l) := by
    rw [List.filter_filter]
    apply List.filter_congr
    intro x _
    simp only [hasT, List.contains_eq_mem, List.mem_append, List.mem_singleton]
    by_cases h1 : x ∈ T <;> by_cases h2 : x = l <;> simp [h1, h2]
  rw [h1]
  have hmem : l ∈ C.flatten.filter fun x => !hasT T x := List.mem_filter.2 ⟨hl, by simp [ht]⟩
  generalize C.flatten.filter (fun x => !hasT T x) = L at hmem
  clear h1 hl ht
  induction L with
  | nil => simp at hmem
  | cons y r ih =>
    by_cases hy : y = l
    · subst hy
      rw [List.filter_cons_of_neg (by simp), List.length_cons]
      exact Nat.lt_succ_of_le (List.length_filter_le _ _)
    · rw [List.filter_cons_of_pos (by simp [hy]), List.length_cons, List.length_cons]
      have := ih (by rcases List.mem_cons.1 hmem with e | e; exact absurd e.symm hy; exact e)
      omega

section
variable {C : List (List Int)}
/-- what a step of the run says: a false clause, the end, or a literal more -/
theorem scan_step (hC : ∀ c ∈ C, CleanC c) (T : List Int) :
    (0 ≤ (scanF (hasT T) C 0 (-1)).1 ∧ Clash C T) ∨
    ((scanF (hasT T) C 0 (-1)).1 = -1 ∧ (scanF (hasT T) C 0 (-1)).2 < 0 ∧ ¬ Clash C T) ∨
    ((scanF (hasT T) C 0 (-1)).1 = -1 ∧ ∃ (k : Nat) (c : List Int), C[k]? = some c ∧ (scanF (hasT T) C 0 (-1)).2 = k ∧ ¬ (stateF (hasT T) c 0).2 = 0 ∧ (stateF (hasT T) c 0).2 ∈ C.flatten ∧ hasT T (stateF (hasT T) c 0).2 = false ∧ (Clash C (T ++ [(stateF (hasT T) c 0).2]) ↔ Clash C T)) := by
  obtain ⟨h1, h2⟩ := scanF_spec (T := hasT T) C 0 (-1) (Int.le_refl _) (.inl (by decide))
  by_cases hn : 0 ≤ (scanF (hasT T) C 0 (-1)).1
  · obtain ⟨k, c, hk, -, hc⟩ := h1 hn
    have hm := List.mem_of_getElem? hk
    exact .inl ⟨hn, c, hm, fun x hx => .base (hasT_mem.1 ((stateF_no (hC c hm).1).1 hc x hx))⟩
  · obtain ⟨a1, a2, -, a4⟩ := h2 hn
    rcases a4 (by decide) with ⟨b1, b2⟩ | ⟨k, c, hk, hs, hc⟩
    · refine .inr (.inl ⟨a1, b1, ?_⟩)
      have hcl : ∀ l, Drv C T l → l ∈ T := by
        intro l hl
        induction hl with
        | base h => exact h
        | @unit c l hc hl _ ih =>
          rcases stateF_all (T := hasT T) (hC c hc) hl (fun k hk hne => hasT_mem.2 (ih k hk hne)) with e | e | e
          · rw [a2 c hc] at e; simp at e
          · exact hasT_mem.1 e
          · exact absurd (b2 c hc) e
      rintro ⟨c, hc, hk⟩
      have := (stateF_no (T := hasT T) (hC c hc).1).2 fun k hm => hasT_mem.2 (hcl _ (hk k hm))
      rw [a2 c hc] at this
      simp at this
    · have hm := List.mem_of_getElem? hk
      obtain ⟨e1, e2, e3, e4, e5⟩ := stateF_unit (hC c hm).1 hc
      refine .inr (.inr ⟨a1, k, c, hk, by rw [hs, Int.zero_add], hc, List.mem_flatten.2 ⟨c, hm, e2⟩, e3, ?_⟩)
      constructor
      · rintro ⟨d, hd, hx⟩
        refine ⟨d, hd, fun x hxm => (hx x hxm).cut fun l hl => ?_⟩
        rcases List.mem_append.1 hl with hl | hl
        · exact .base hl
        · rw [List.mem_singleton.1 hl]
          exact .unit hm e2 fun k hk hne => .base (hasT_mem.1 (e5 k hk hne))
      · exact Clash.more (fun _ h => h) (fun _ h => List.mem_append_left _ h)
/-- **The run finds a false clause just if units lead to one.** -/
theorem runF_clash (hC : ∀ c ∈ C, CleanC c) : ∀ (n : Nat) (T : List Int), openN C T < n → (0 ≤ runF C n T ↔ Clash C T)
  | 0, _, h => absurd h (Nat.not_lt_zero _)
  | n + 1, T, h => by
    rw [runF]
    rcases scan_step hC T with ⟨h1, h2⟩ | ⟨h1, h2, h3⟩ | ⟨h1, k, c, hk, hs, h0, hf, ht, hcl⟩
    · rw [if_pos h1]
      exact ⟨fun _ => h2, fun _ => h1⟩
    · rw [if_neg (by omega), if_pos h2]
      exact ⟨fun e => absurd e (by decide), fun e => absurd e h3⟩
    · have hg : C.getD (scanF (hasT T) C 0 (-1)).2.toNat [] = c := by
        rw [hs, Int.toNat_natCast, List.getD_eq_getElem?_getD, hk]; rfl
      rw [if_neg (by omega), if_neg (by omega), hg, ← hcl]
      exact runF_clash hC n _ (by have := openN_less hf ht; omega)
end
end Go.Proofs.YtfogiljgecmakaaGreat
namespace Go.Proofs.YtfogiljgecmakaaGreat
open Go.RowKit

/-- the least congruence of terms that holds of the pairs -/
inductive Cong (ts : List TermD) (ps : List (Int × Int)) : Nat → Nat → Prop
  | refl (a : Nat) : Cong ts ps a a
  | symm {a b : Nat} : Cong ts ps a b → Cong ts ps b a
  | trans {a b c : Nat} : Cong ts ps a b → Cong ts ps b c → Cong ts ps a c
  | pair {x y : Int} : (x, y) ∈ ps → Cong ts ps x.toNat y.toNat
  | app {i k : Nat} {t u : TermD} : ts[i]? = some t → ts[k]? = some u → t.head = u.head → t.kids.length = u.kids.length → (∀ (m : Nat) (x y : Int), t.kids[m]? = some x → u.kids[m]? = some y → Cong ts ps x.toNat y.toNat) → Cong ts ps i k

/-- all of the class max x y go to the class min x y -/
def joinL (cl : List Int) (x y : Int) : List Int := cl.map fun c => if c = max x y then min x y else c
theorem joinL_len (cl : List Int) (x y : Int) : (joinL cl x y).length = cl.length := by simp [joinL]
theorem joinL_get {cl : List Int} {x y : Int} (i : Nat) : (joinL cl x y)[i]? = (cl[i]?).map fun c => if c = max x y then min x y else c := by simp [joinL]
/-- equal classes are of related terms -/
def ClSound (ts : List TermD) (ps : List (Int × Int)) (cl : List Int) : Prop := ∀ (a b : Nat) (x : Int), cl[a]? = some x → cl[b]? = some x → Cong ts ps a b
/-- in one class -/
def InCl (cl : List Int) (a b : Nat) : Prop := a < cl.length ∧ b < cl.length ∧ cl[a]? = cl[b]?
section
variable {ts : List TermD} {ps : List (Int × Int)} {cl : List Int} {a b : Nat} {x y : Int}
theorem joinL_sound (h : ClSound ts ps cl) (ha : cl[a]? = some x) (hb : cl[b]? = some y) (hab : Cong ts ps a b) : ClSound ts ps (joinL cl x y) := fun u v z hu hv => by
  rw [joinL_get] at hu hv
  have aux : ∀ u : Nat, (cl[u]?).map (fun c => if c = max x y then min x y else c) = some z → ∃ c, cl[u]? = some c ∧ (c = z ∨ ((c = x ∨ c = y) ∧ (z = x ∨ z = y))) := fun u hu => by
    cases hc : cl[u]? with
    | none => rw [hc] at hu; simp at hu
    | some c =>
      rw [hc] at hu
      simp only [Option.map_some, Option.some.injEq] at hu
      refine ⟨c, rfl, ?_⟩
      split at hu <;> omega
  obtain ⟨c, hc, h1⟩ := aux u hu
  obtain ⟨d, hd, h2⟩ := aux v hv
  have toA : ∀ (w : Nat) (e : Int), cl[w]? = some e → (e = x ∨ e = y) → Cong ts ps w a := fun w e hw he => by
    rcases he with rfl | rfl
    · exact h w a e hw ha
    · exact (h w b e hw hb).trans hab.symm
  rcases h1 with rfl | ⟨h1, h1'⟩
  · rcases h2 with rfl | ⟨h2, h2'⟩
    · exact h u v _ hc hd
    · exact (toA u _ hc h2').trans (toA v _ hd h2).symm
  · rcases h2 with rfl | ⟨h2, -⟩
    · exact (toA u _ hc h1).trans (toA v _ hd h1').symm
    · exact (toA u _ hc h1).trans (toA v _ hd h2).symm
theorem joinL_keeps {u v : Nat} (h : InCl cl u v) : InCl (joinL cl x y) u v := ⟨by rw [joinL_len]; exact h.1, by rw [joinL_len]; exact h.2.1, by rw [joinL_get, joinL_get, h.2.2]⟩
theorem joinL_joins (ha : cl[a]? = some x) (hb : cl[b]? = some y) : InCl (joinL cl x y) a b := by
  refine ⟨by rw [joinL_len]; exact (List.getElem?_eq_some_iff.1 ha).1, by rw [joinL_len]; exact (List.getElem?_eq_some_iff.1 hb).1, ?_⟩
  rw [joinL_get, joinL_get, ha, hb]
  simp only [Option.map_some, Option.some.injEq]
  split <;> split <;> omega
theorem joinL_same (h : x = y) : joinL cl x y = cl := by
  subst h
  unfold joinL
  conv => rhs; rw [← List.map_id cl]
  apply List.map_congr_left
  intro c _
  simp only [id_eq]
  split <;> omega
/-- classes are numbers from 0 on, their sum -/
def sumC (cl : List Int) : Nat := (cl.map Int.toNat).sum
theorem joinL_le (hx : 0 ≤ x) (hy : 0 ≤ y) : sumC (joinL cl x y) ≤ sumC cl := by
  unfold sumC joinL
  induction cl with
  | nil => simp
  | cons c r ih =>
    simp only [List.map_cons, List.sum_cons]
    split <;> omega
theorem joinL_less (hx : 0 ≤ x) (hy : 0 ≤ y) (hne : ¬ x = y) (hm : max x y ∈ cl) : sumC (joinL cl x y) < sumC cl := by
  unfold sumC joinL
  induction cl with
  | nil => simp at hm
  | cons c r ih =>
    have hle : sumC (joinL r x y) ≤ sumC r := joinL_le hx hy
    unfold sumC joinL at hle
    simp only [List.map_cons, List.sum_cons]
    by_cases hc : c = max x y
    · rw [if_pos hc]; omega
    · rw [if_neg hc]
      have := ih (by rcases List.mem_cons.1 hm with e | e; exact absurd e.symm hc; exact e)
      omega
theorem joinL_nonneg (hx : 0 ≤ x) (hy : 0 ≤ y) (h : ∀ c ∈ cl, 0 ≤ c) : ∀ c ∈ joinL cl x y, 0 ≤ c := fun c hc => by
  obtain ⟨d, hd, rfl⟩ := List.mem_map.1 hc
  have := h d hd
  split <;> omega
end

/-- arguments in the same classes -/
def kidsSame (cl : List Int) : List Int → List Int → Bool
  | [], [] => true
  | x :: r, y :: s => decide (cl[x.toNat]? = cl[y.toNat]?) && kidsSame cl r s
  | _, _ => false
theorem kidsSame_iff {cl : List Int} : ∀ {r s : List Int}, kidsSame cl r s = true ↔ r.length = s.length ∧ ∀ (m : Nat) (x y : Int), r[m]? = some x → s[m]? = some y → cl[x.toNat]? = cl[y.toNat]?
  | [], [] => by simp [kidsSame]
  | [], _ :: _ => by simp [kidsSame]
  | _ :: _, [] => by simp [kidsSame]
  | x :: r, y :: s => by
    rw [kidsSame, Bool.and_eq_true, decide_eq_true_eq, kidsSame_iff]
    constructor
    · rintro ⟨h1, h2, h3⟩
      refine ⟨by simp [h2], fun m u v hu hv => ?_⟩
      rcases m with _ | m
      · simp only [List.getElem?_cons_zero, Option.some.injEq] at hu hv
        rw [← hu, ← hv, h1]
      · exact h3 m u v (by simpa using hu) (by simpa using hv)
    · rintro ⟨h1, h2⟩
      exact ⟨h2 0 x y rfl rfl, by simpa using h1, fun m u v hu hv => h2 (m + 1) u v (by simpa using hu) (by simpa using hv)⟩
/-- terms of one head with arguments in the same classes are in one class -/
def ClosedTo (ts : List TermD) (cl : List Int) (i : Nat) (k : Nat) : Prop := ∀ (j l : Nat) (t u : TermD), (j < i ∧ l < j) ∨ (j = i ∧ l < k ∧ l < j) → ts[j]? = some t → ts[l]? = some u → t.head = u.head → kidsSame cl t.kids u.kids = true → cl[j]? = cl[l]?

/-- what the classes are when all is done -/
structure Classy (ts : List TermD) (ps : List (Int × Int)) (cl : List Int) : Prop where
  len : cl.length = ts.length
  sound : ClSound ts ps cl
  pairs : ∀ (x y : Int), (x, y) ∈ ps → InCl cl x.toNat y.toNat
  closed : ClosedTo ts cl ts.length 0
theorem Classy.same {ts : List TermD} {ps : List (Int × Int)} {cl : List Int} (h : Classy ts ps cl) {a b : Nat} (ha : a < ts.length) : cl[a]? = cl[b]? ↔ Cong ts ps a b := by
  constructor
  · intro e
    have ha' : a < cl.length := by rw [h.len]; exact ha
    exact h.sound a b cl[a] (List.getElem?_eq_getElem ha') (e ▸ List.getElem?_eq_getElem ha')
  · intro e
    clear ha
    induction e with
    | refl a => rfl
    | symm _ ih => exact ih.symm
    | trans _ _ ih1 ih2 => exact ih1.trans ih2
    | pair hm => exact (h.pairs _ _ hm).2.2
    | @app i k t u ht hu hh hl hc ih =>
      have hi : i < ts.length := (List.getElem?_eq_some_iff.1 ht).1
      have hk' : k < ts.length := (List.getElem?_eq_some_iff.1 hu).1
      rcases Nat.lt_trichotomy k i with hki | rfl | hki
      · exact h.closed i k t u (.inl ⟨hi, hki⟩) ht hu hh (kidsSame_iff.2 ⟨hl, fun m x y hx hy => ih m x y hx hy⟩)
      · rfl
      · exact (h.closed k i u t (.inl ⟨hk', hki⟩) hu ht hh.symm (kidsSame_iff.2 ⟨hl.symm, fun m x y hx hy => (ih m y x hy hx).symm⟩)).symm
end Go.Proofs.YtfogiljgecmakaaGreat
namespace Go.Proofs.YtfogiljgecmakaaGreat
open Go.RowKit Go.Maps

theorem zeroBool (w : World) : (zeroValue 4).run Tryz.prog w = .ok (.bool false) w := by kernel_rfl
theorem keyInt : Keyed Tryz.prog 3 := int_keyed Tryz.underlying3
theorem wf_i64 {x : Int} (h : I64 x) : (Lit.int .i64 x).wf = true := WalkArith.wf_i64 (by unfold I64 at h; omega)
theorem key_int {x : Int} (h : I64 x) : keyOf Tryz.prog 3 (.int .i64 x) = some (.int .i64 x) := keyOf_int_mk Tryz.underlying3 (wf_i64 h)

/-- block b is a map of at most n entries that says true of just the numbers of T -/
def TMap (w : World) (b n : Nat) (T : List Int) : Prop := ∃ D : DataW Unit, IsMap D ∧ w.ownsMap Tryz.prog 3 (plainElem Tryz.prog 4) b n D ∧ ∀ x, I64 x → D.atKey (.int .i64 x) (.lit (.bool false)) = .lit (.bool (hasT T x))

section
variable {w w' : World} {b n : Nat} {T : List Int}
theorem TMap.made (w : World) : TMap (w.alloc (.map #[] 0)) w.heap.size 0 [] := ⟨.map [], isMap_empty, World.ownsMap_made _ _ _ _, fun _ _ => rfl⟩
theorem TMap.lt (h : TMap w b n T) : b < w.heap.size := by obtain ⟨D, _, h, _⟩ := h; exact h.lt
theorem TMap.kept {row : Option Nat} (h : TMap w b n T) (hg : w.grownBy w' row) (hne : some b ≠ row) : TMap w' b n T := by
  obtain ⟨D, h0, h1, h2⟩ := h
  exact ⟨D, h0, h1.kept hg hne, h2⟩
theorem TMap.drewN (h : TMap w b n T) (k : Nat) : TMap (w.drewN k) b n T := h.kept (only_drewN (only_refl w none) k) (by simp)
set_option maxRecDepth 100000 in
theorem TMap.lookup (h : TMap w b n T) {x : Int} (hx : I64 x) : (Instr.lookup 178 (.map (some b)) (.int .i64 x) false).run Tryz.prog w = .ok (.bool (hasT T x)) w := by
  obtain ⟨D, -, h1, h2⟩ := h
  obtain ⟨v, ps, hrun, hv⟩ := h1.lookup keyInt Tryz.underlying178 (zeroBool w) (plainElem_bool Tryz.underlying4 false) (key_int hx)
  rw [h2 x hx] at hv
  rw [hrun]
  unfold plainElem at hv
  rw [Tryz.underlying4] at hv
  cases v <;> simp at hv
  rw [hv.1]
theorem TMap.store (h : TMap w b n T) {x : Int} (hx : I64 x) (hn : n < maxLen) : ∃ w', (Instr.mapUpdate 178 (.map (some b)) (.int .i64 x) (.bool true)).run Tryz.prog w = .ok () w' ∧ TMap w' b (n + 1) (T ++ [x]) ∧ w.grownBy w' (some b) := by
  obtain ⟨D, h0, h1, h2⟩ := h
  obtain ⟨w', hrun, h3, h4⟩ := h1.update keyInt Tryz.underlying178 hn (key_int hx) (plainElem_bool Tryz.underlying4 true)
  refine ⟨w', hrun, ⟨_, h0.put _ _, h3, fun y hy => ?_⟩, h4⟩
  by_cases e : y = x
  · subst e
    rw [atKey_put_same h0 (by simp [WideAt.IsKeyLit])]
    simp [hasT]
  · rw [atKey_put_other (by simpa using e), h2 y hy]
    simp [hasT, e]

theorem wpList_lookup_t {ops : Array Oper} {rest : List Oper} {o : Oper} {a : Act} {Q : Exit → Act → World → Prop} (hg : o.guard = none) (m x : Operand) (hop : o.op = Op.lookup 178 m x false)
    {y : Int} (hm : a.eval m = .map (some b)) (hx : a.eval x = .int .i64 y) (hy : I64 y) (h : TMap w b n T) (hK : wpList Tryz.prog ops Q rest (a.put o.dst (.bool (hasT T y))) w) : wpList Tryz.prog ops Q (o :: rest) a w := by
  refine wpList_plain hg fun K' hK' => ?_
  unfold Oper.wp
  simp [execOp, hop, hm, hx, h.lookup hy, Result.andThen]
  exact hK' _ _ hK
theorem wpList_store_t {ops : Array Oper} {rest : List Oper} {o : Oper} {a : Act} {Q : Exit → Act → World → Prop} (hg : o.guard = none) (m x v : Operand) (hop : o.op = Op.mapUpdate 178 m x v)
    {y : Int} (hm : a.eval m = .map (some b)) (hx : a.eval x = .int .i64 y) (hv : a.eval v = .bool true) (hy : I64 y) (hn : n < maxLen) (h : TMap w b n T) (hK : ∀ w', TMap w' b (n + 1) (T ++ [y]) → w.grownBy w' (some b) → wpList Tryz.prog ops Q rest (a.put o.dst undef) w') : wpList Tryz.prog ops Q (o :: rest) a w := by
  refine wpList_plain hg fun K' hK' => ?_
  obtain ⟨w', hrun, r1, r2⟩ := h.store hy hn
  unfold Oper.wp
  simp [execOp, hop, hm, hx, hv, hrun, Result.andThen]
  exact hK' _ _ (hK w' r1 r2)
end
end Go.Proofs.YtfogiljgecmakaaGreat
namespace Go.Proofs.YtfogiljgecmakaaGreat
open Go.RowKit

abbrev OwnT (w : World) (B : Nat) (v : Value) (l : List Int) : Prop := OwnV VInt 3 1 w B (fun _ => False) v l
theorem own_later {w w' : World} {B : Nat} {v : Value} {c : List Int} (h : OwnT w B v c) {row : Option Nat} (hb : w.grownBy w' row) (hne : v.ownBlock = none ∨ v.ownBlock ≠ row) : OwnT w' B v c := h.kept tells_int hb hne (fun _ hb => False.elim hb)

/-- the trail in memory: its struct in block G, its map in block M, its two rows -/
structure Trail (w : World) (B G M : Nat) (Cv v2 v3 : Value) (T Y : List Int) : Prop where
  blk : Blk w G 180 #[Cv, v2, v3, .map (some M)]
  tm : TMap w M T.length T
  lits : OwnT w B v2 T
  why : OwnT w B v3 Y
  len : Y.length = T.length
  apart : v2.ownBlock = none ∨ v2.ownBlock ≠ v3.ownBlock
  bG : B ≤ G
  bM : B ≤ M
  n1 : v2.ownBlock ≠ some G ∧ v3.ownBlock ≠ some G
  n2 : v2.ownBlock ≠ some M ∧ v3.ownBlock ≠ some M
  n3 : M ≠ G
theorem Trail.later {w w' : World} {B G M : Nat} {Cv v2 v3 : Value} {T Y : List Int} (h : Trail w B G M Cv v2 v3 T Y) (hb : Below w.heap.size w w') : Trail w' B G M Cv v2 v3 T Y :=
  have hg := only_of_below hb none
  ⟨h.blk.below hb h.blk.lt, h.tm.kept hg (by simp), own_later h.lits hg (by cases v2.ownBlock <;> simp), own_later h.why hg (by cases v3.ownBlock <;> simp), h.len, h.apart, h.bG, h.bM, h.n1, h.n2, h.n3⟩

theorem wpList_lookup_tb {w : World} {b n : Nat} {T : List Int} {ops : Array Oper} {rest : List Oper} {o : Oper} {a : Act} {Q : Exit → Act → World → Prop} (hg : o.guard = none) (m x : Operand) (hop : o.op = Op.lookup 178 m x false)
    {y : Int} {bb : Bool} (hm : a.eval m = .map (some b)) (hx : a.eval x = .int .i64 y) (hy : I64 y) (h : TMap w b n T) (he : hasT T y = bb) (hK : wpList Tryz.prog ops Q rest (a.put o.dst (.bool bb)) w) : wpList Tryz.prog ops Q (o :: rest) a w :=
  wpList_lookup_t hg m x hop hm hx hy h (by rw [he]; exact hK)

set_option maxRecDepth 100000 in
set_option maxHeartbeats 2000000 in
theorem tstate_any (G M k : Nat) (T : List Int) (A : Option Addr) (n c : Nat) (xs : List Int) (no : Bool) (r : Int) (w : World) (hb : w.cell? ⟨G, 3, none⟩ = some (.map (some M))) (ht : TMap w M k T) (hxs : IntsB w w.heap.size A n xs)
    (hn : n ≤ 1000000) (hr : ∀ x ∈ xs, -1000000 ≤ x ∧ x ≤ 1000000) (hR : stateF (hasT T) xs 0 = (no, r)) :
    Calls Tryz.prog 151 #[.pointer (some ⟨G, 0, none⟩), .slice A n c] w fun e w' => e = .returned (.tuple #[.bool no, .int .i64 r]) ∧ w = w' := by
  have HR := Lib.hid hR
  have HT := Lib.hid ht
  have HX := Lib.hid hr
  clear hR ht hr
  go_enter Tryz.func151, Tryz.ntmps151
  go_wp2_with fail
  go_loopw [6, 11] (fun s6 s11 wr => ∃ (j : Nat) (o : Int), j ≤ n ∧ s11 = .int .i64 (j : Int) ∧ s6 = .int .i64 o ∧ Hid (stateF (hasT T) (xs.drop j) o = (no, r)) ∧ wr = w) (fun _ s11 _ => n - (intOf s11).toNat)
  case atStart => exact ⟨0, 0, Nat.zero_le _, rfl, rfl, HR, rfl⟩
  case round =>
    clear HR
    obtain ⟨j, o, hj, rfl, rfl, HS, rfl⟩ := hrel
    by_cases hlt : j < n
    · have hltI : (j : Int) < (n : Int) := by omega
      obtain ⟨b, off, hx, rfl, hb2, hcell, hlo, hhi⟩ := ints_get hxs hlt
      have hrg := HX.out _ (List.getElem_mem hx)
      have e1 := HS.out
      rw [drop_cons hx, stateF] at e1
      generalize xs[j] = y at e1 hcell hrg hlo hhi
      clear HS hlo hhi
      have IY : Hid (I64 y ∧ I64 (-y)) := ⟨by unfold I64; omega, by unfold I64; omega⟩
      cases h1 : hasT T (-y) with
      | true =>
        have H1 := Lib.hid h1
        rw [if_pos h1] at e1
        have HE := Lib.hid e1
        clear e1 h1
        go_wp2_with (at_lookup; refine wpList_lookup_tb rfl _ _ rfl rfl rfl IY.out.2 HT.out H1.out ?_)
        go_roundw
        case rel => exact ⟨j + 1, o, by omega, by go_num, rfl, HE, trivial⟩
        case measure => simp [intOf]; omega
      | false =>
        have H1 := Lib.hid h1
        rw [if_neg (by simp [h1])] at e1
        cases h2 : hasT T y with
        | true =>
          have H2 := Lib.hid h2
          rw [if_pos (.inl h2)] at e1
          simp only [Prod.mk.injEq] at e1
          obtain ⟨rfl, rfl⟩ := e1
          clear h1 h2
          go_wp2_with (at_lookup; first | refine wpList_lookup_tb rfl _ _ rfl rfl rfl IY.out.2 HT.out H1.out ?_ | refine wpList_lookup_tb rfl _ _ rfl rfl rfl IY.out.1 HT.out H2.out ?_)
          go_ret2
          exact ⟨rfl, rfl⟩
        | false =>
          have H2 := Lib.hid h2
          by_cases ho : o = 0
          · subst ho
            rw [if_neg (by simp [h2])] at e1
            have HE := Lib.hid e1
            clear e1 h1 h2
            go_wp2_with (at_lookup; first | refine wpList_lookup_tb rfl _ _ rfl rfl rfl IY.out.2 HT.out H1.out ?_ | refine wpList_lookup_tb rfl _ _ rfl rfl rfl IY.out.1 HT.out H2.out ?_)
            go_roundw
            case rel => exact ⟨j + 1, y, by omega, by go_num, rfl, HE, trivial⟩
            case measure => simp [intOf]; omega
          · rw [if_pos (.inr ho)] at e1
            simp only [Prod.mk.injEq] at e1
            obtain ⟨rfl, rfl⟩ := e1
            have hob : (o != 0) = true := by simpa using ho
            clear h1 h2 ho
            go_wp2_with (at_lookup; first | refine wpList_lookup_tb rfl _ _ rfl rfl rfl IY.out.2 HT.out H1.out ?_ | refine wpList_lookup_tb rfl _ _ rfl rfl rfl IY.out.1 HT.out H2.out ?_)
            go_ret2
            exact ⟨rfl, rfl⟩
    · have hltI : ¬ (j : Int) < (n : Int) := by omega
      have e1 := HS.out
      rw [List.drop_of_length_le (by have := hxs.len; omega), stateF] at e1
      simp only [Prod.mk.injEq] at e1
      obtain ⟨e1, rfl⟩ := e1
      have HE := Lib.hid e1
      clear HS e1
      go_wp2_with fail
      go_ret2
      exact ⟨by rw [← HE.out]; congr 3, rfl⟩
end Go.Proofs.YtfogiljgecmakaaGreat
namespace Go.Proofs.YtfogiljgecmakaaGreat
open Go.RowKit

def AddP (B G M : Nat) (Cv : Value) (T Y : List Int) (l y : Int) (w : World) (e : Ending) (w' : World) : Prop := e = .returned (.tuple #[]) ∧ (∃ v2 v3, Trail w' B G M Cv v2 v3 (T ++ [l]) (Y ++ [y])) ∧ Below B w w'

theorem Trail.apart' {w : World} {B G M : Nat} {Cv v2 v3 : Value} {T Y : List Int} (h : Trail w B G M Cv v2 v3 T Y) : v3.ownBlock = none ∨ v3.ownBlock ≠ v2.ownBlock := by
  by_cases e : v3.ownBlock = none
  · exact .inl e
  · rcases h.apart with e2 | e2
    · exact .inr (fun e3 => e (e3.trans e2))
    · exact .inr (fun e3 => e2 e3.symm)
theorem Trail.added {w wa w3 wb w4 : World} {B G M ga na ca gb nb cb : Nat} {Cv v2 v3 : Value} {T Y : List Int} {l y : Int} (h : Trail w B G M Cv v2 v3 T Y) (h1 : w.grownBy wa none)
    (ho3 : OwnT w3 B (.slice (some ⟨ga, 0, none⟩) na ca) (T ++ [l])) (hg3 : wa.grownBy w3 v2.ownBlock) (hat3 : v2.ownBlock = some ga ∨ ga = wa.heap.size) (hl3 : ga < w3.heap.size) (h2 : w3.grownBy wb none)
    (ho4 : OwnT w4 B (.slice (some ⟨gb, 0, none⟩) nb cb) (Y ++ [y])) (hg4 : wb.grownBy w4 v3.ownBlock) (hat4 : v3.ownBlock = some gb ∨ gb = wb.heap.size) :
    Blk w4 G 180 #[Cv, v2, v3, .map (some M)] ∧ TMap w4 M T.length T ∧ OwnT w4 B (.slice (some ⟨ga, 0, none⟩) na ca) (T ++ [l]) ∧ (ga ≠ G ∧ gb ≠ G ∧ ga ≠ M ∧ gb ≠ M ∧ ga ≠ gb) ∧ Below B w w4 := by
  have z1 := h1.size
  have z3 := hg3.size
  have z2 := h2.size
  have z4 := hg4.size
  have zG := h.blk.lt
  have zM := h.tm.lt
  have l2 := h.lits.lt
  have l3 := h.why.lt
  have hA : ga ≠ G ∧ ga ≠ M := by
    rcases hat3 with e | e
    · exact ⟨fun e2 => h.n1.1 (by rw [e, e2]), fun e2 => h.n2.1 (by rw [e, e2])⟩
    · exact ⟨by omega, by omega⟩
  have hB : gb ≠ G ∧ gb ≠ M := by
    rcases hat4 with e | e
    · exact ⟨fun e2 => h.n1.2 (by rw [e, e2]), fun e2 => h.n2.2 (by rw [e, e2])⟩
    · exact ⟨by omega, by omega⟩
  have hne : v3.ownBlock ≠ some ga := fun e => by
    have := (l3 ga e).2
    rcases hat3 with e3 | e3
    · rcases h.apart with e4 | e4
      · rw [e4] at e3; cases e3
      · exact e4 (by rw [e3, e])
    · omega
  have hgw : w.grownBy w3 v2.ownBlock := only_trans ⟨h1.os, h1.tape, h1.output, h1.size, fun i hi _ => h1.block i hi (by simp)⟩ hg3
  have hgb : ∀ i, i < w.heap.size → v2.ownBlock ≠ some i → v3.ownBlock ≠ some i → w4.heap[i]? = w.heap[i]? := fun i hi e2 e3 =>
    (hg4.block i (by omega) (fun e => e3 e.symm)).trans ((h2.block i (by omega) (by simp)).trans (hgw.block i hi (fun e => e2 e.symm)))
  refine ⟨(hgb G zG h.n1.1 h.n1.2).trans h.blk, ?_, ?_, ⟨hA.1, hB.1, hA.2, hB.2, fun e => ?_⟩, ?_⟩
  · have a1 := h.tm.kept hgw (fun e => h.n2.1 e.symm)
    exact (a1.kept h2 (by simp)).kept hg4 (fun e => h.n2.2 e.symm)
  · exact own_later (own_later ho3 h2 (.inr (by simp [Value.ownBlock]))) hg4 (.inr (fun e => hne (by rw [← e]; rfl)))
  · subst e
    rcases hat4 with e | e
    · exact hne e
    · omega
  · exact ⟨hg4.os.trans (h2.os.trans hgw.os), hg4.tape.trans (h2.tape.trans hgw.tape), hg4.output.trans (h2.output.trans hgw.output), by omega, fun i hi => by
      have := h.bG
      exact hgb i (by omega) (fun e => by have := (l2 i e).1; omega) (fun e => by have := (l3 i e).1; omega)⟩

def two' (w : World) (g : Nat) (a b : Value) : World := (w.setCell ⟨g, 1, none⟩ a).setCell ⟨g, 2, none⟩ b
theorem Trail.stored {w w4 w5 : World} {B G M ga na ca gb nb cb : Nat} {Cv v2 v3 : Value} {T Y : List Int} {l y : Int} (h : Trail w B G M Cv v2 v3 T Y)
    (hk : Blk w4 G 180 #[Cv, v2, v3, .map (some M)] ∧ TMap w4 M T.length T ∧ OwnT w4 B (.slice (some ⟨ga, 0, none⟩) na ca) (T ++ [l]) ∧ (ga ≠ G ∧ gb ≠ G ∧ ga ≠ M ∧ gb ≠ M ∧ ga ≠ gb) ∧ Below B w w4)
    (ho4 : OwnT w4 B (.slice (some ⟨gb, 0, none⟩) nb cb) (Y ++ [y])) (ht : TMap w5 M (T.length + 1) (T ++ [l]))
    (hg : (two' w4 G (.slice (some ⟨ga, 0, none⟩) na ca) (.slice (some ⟨gb, 0, none⟩) nb cb)).grownBy w5 (some M)) : (∃ v2 v3, Trail w5 B G M Cv v2 v3 (T ++ [l]) (Y ++ [y])) ∧ Below B w w5 := by
  obtain ⟨hb, hm, ho3, ⟨n1, n2, n3, n4, n5⟩, hbel⟩ := hk
  have g1 : w4.grownBy (two' w4 G (.slice (some ⟨ga, 0, none⟩) na ca) (.slice (some ⟨gb, 0, none⟩) nb cb)) (some G) := one_only (one_only (only_refl _ _) 1 _) 2 _
  have b1 : Blk (two' w4 G (.slice (some ⟨ga, 0, none⟩) na ca) (.slice (some ⟨gb, 0, none⟩) nb cb)) G 180 #[Cv, .slice (some ⟨ga, 0, none⟩) na ca, .slice (some ⟨gb, 0, none⟩) nb cb, .map (some M)] := (hb.set_ 1 _).set_ 2 _
  have e3 := h.n3
  refine ⟨⟨_, _, b1.grown hg (fun e => by injection e with e; exact e3 e.symm), by rw [List.length_append]; exact ht, ?_, ?_, by simp [h.len], .inr (fun e => n5 (by simpa [Value.ownBlock] using e)), h.bG, h.bM, ⟨fun e => n1 (by simpa [Value.ownBlock] using e), fun e => n2 (by simpa [Value.ownBlock] using e)⟩, ⟨fun e => n3 (by simpa [Value.ownBlock] using e), fun e => n4 (by simpa [Value.ownBlock] using e)⟩, h.n3⟩, ?_⟩
  · exact own_later (own_later ho3 g1 (.inr (fun e => n1 (by simpa [Value.ownBlock] using e)))) hg (.inr (fun e => n3 (by simpa [Value.ownBlock] using e)))
  · exact own_later (own_later ho4 g1 (.inr (fun e => n2 (by simpa [Value.ownBlock] using e)))) hg (.inr (fun e => n4 (by simpa [Value.ownBlock] using e)))
  · have hz := hbel.size
    have hB := h.bG
    have hM := h.bM
    have hG := h.blk.lt
    exact below_then (below_then hbel g1 (by omega) (fun x hx => by injection hx with hx; omega)) hg (by have := g1.size; omega) (fun x hx => by injection hx with hx; omega)

set_option maxRecDepth 100000 in
set_option maxHeartbeats 4000000 in
theorem tadd_any (B G M : Nat) (Cv v2 v3 : Value) (T Y : List Int) (l y : Int) (w : World) (h : Trail w B G M Cv v2 v3 T Y) (hl : I64 l) (hy : I64 y) (hn : T.length ≤ 2000000) :
    Calls Tryz.prog 131 #[.pointer (some ⟨G, 0, none⟩), .int .i64 l, .int .i64 y] w (AddP B G M Cv T Y l y w) := by
  have HT := Lib.hid h
  have HI : Hid (I64 l ∧ I64 y) := ⟨hl, hy⟩
  have hG := h.blk.lt
  have hBG := h.bG
  have hYl := h.len
  have c1 : w.cell? ⟨G, 1, none⟩ = some v2 := h.blk.cell 1
  have c2 : w.cell? ⟨G, 2, none⟩ = some v3 := h.blk.cell 2
  obtain ⟨A2, n2, hv2, hn2, hn2m⟩ := h.lits.len
  obtain ⟨A3, n3, hv3, hn3, hn3m⟩ := h.why.len
  subst hv2 hv3
  rw [hYl] at c2 hn3 HT
  have HLen := Lib.hid hYl
  clear h hl hy hYl
  go_enter Tryz.func131, Tryz.ntmps131
  go_wp2_with fail
  go_region_law (first
    | (refine step_append_item (by rfl) _ _ _ (by rfl) rowInts tells_int (v := .slice A2 T.length n2) (xs := T) (base := B) (S := fun _ => False) (by rfl)
        (.inl (own_later HT.out.lits (row := none) (by first | exact only_drew (only_alloc (only_refl _ none) _) | exact only_drew (only_alloc (only_alloc (only_refl _ none) _) _)) (by cases A2 <;> simp [Value.ownBlock]))) (g := w.heap.size) (cs := #[.int .i64 l]) (by rfl)
        (by first | exact Blk.drew (Blk.new w _ _) | exact Blk.drew (Blk.alloc (Blk.new w _ _) _)) (y := l) ⟨rfl, HI.out.1⟩ (fun b h => False.elim h) (by unfold maxLen; omega) (by omega) (by first | omega | (simp <;> omega)) ?_
       intro ga ca w3 hown3 hgrow3 hat3 hlt3
       have hgw : w.grownBy w3 (Value.slice A2 T.length n2).ownBlock := by first | exact only_trans (only_drew (only_alloc (only_refl w _) _)) hgrow3 | exact only_trans (only_drew (only_alloc (only_alloc (only_refl w _) _) _)) hgrow3
       have y2 : w3.cell? ⟨G, 2, none⟩ = some (.slice A3 T.length n3) := (only_cell hgw hG HT.out.n1.1).trans c2
       have HA := Lib.hid (And.intro hown3 (And.intro hgrow3 (And.intro hat3 (And.intro hlt3 hgw))))
       have zz3 : w.heap.size ≤ w3.heap.size := hgw.size
       have zG3 : G < w3.heap.size := by omega
       clear hown3 hgrow3 hat3 hlt3 hgw)
    | (refine step_append_item (by rfl) _ _ _ (by rfl) rowInts tells_int (v := .slice A2 T.length n2) (xs := T) (base := B) (S := fun _ => False) (by rfl)
        (.inl (own_later HT.out.lits (row := none) (by first | exact only_drew (only_alloc (only_refl _ none) _) | exact only_drew (only_alloc (only_alloc (only_refl _ none) _) _)) (by cases A2 <;> simp [Value.ownBlock]))) (g := w.heap.size + 1) (cs := #[.int .i64 l]) (by rfl)
        (by have := Blk.new (w.alloc (.cells #[.int .i64 y] 3)) 3 #[.int .i64 l]; rw [World.size_alloc] at this; exact Blk.drew this) (y := l) ⟨rfl, HI.out.1⟩ (fun b h => False.elim h) (by unfold maxLen; omega) (by omega) (by first | omega | (simp <;> omega)) ?_
       intro ga ca w3 hown3 hgrow3 hat3 hlt3
       have hgw : w.grownBy w3 (Value.slice A2 T.length n2).ownBlock := by first | exact only_trans (only_drew (only_alloc (only_refl w _) _)) hgrow3 | exact only_trans (only_drew (only_alloc (only_alloc (only_refl w _) _) _)) hgrow3
       have y2 : w3.cell? ⟨G, 2, none⟩ = some (.slice A3 T.length n3) := (only_cell hgw hG HT.out.n1.1).trans c2
       have HA := Lib.hid (And.intro hown3 (And.intro hgrow3 (And.intro hat3 (And.intro hlt3 hgw))))
       have zz3 : w.heap.size ≤ w3.heap.size := hgw.size
       have zG3 : G < w3.heap.size := by omega
       clear hown3 hgrow3 hat3 hlt3 hgw)
    | (refine step_append_item (by rfl) _ _ _ (by rfl) rowInts tells_int (v := .slice A3 T.length n3) (xs := Y) (base := B) (S := fun _ => False) (by rfl)
        (.inl (own_later (own_later HT.out.why HA.out.2.2.2.2 HT.out.apart') (row := none) (by first | exact only_refl _ none | exact only_alloc (only_refl _ none) _) (by cases A3 <;> simp [Value.ownBlock]))) (g := w3.heap.size) (cs := #[.int .i64 y]) (by rfl)
        (Blk.new w3 _ _) (y := y) ⟨rfl, HI.out.2⟩ (fun b h => False.elim h) (by have := HLen.out; unfold maxLen; omega) (by have := HLen.out; omega) (by first | omega | (simp <;> omega)) ?_
       intro gb cb w4 hown4 hgrow4 hat4 hlt4
       have hadd := Trail.added HT.out (by first | exact only_drew (only_alloc (only_refl _ none) _) | exact only_drew (only_alloc (only_alloc (only_refl _ none) _) _)) HA.out.1 HA.out.2.1 HA.out.2.2.1 HA.out.2.2.2.1 (by first | exact only_refl _ none | exact only_alloc (only_refl _ none) _) hown4 hgrow4 hat4
       have z1 : w4.frozen? ⟨G, 1, none⟩ = false := hadd.1.frozen 1
       have z2 : w4.frozen? ⟨G, 2, none⟩ = false := hadd.1.frozen 2
       have y1' : w4.cell? ⟨G, 1, none⟩ = some (.slice A2 T.length n2) := hadd.1.cell 1
       have y2' : w4.cell? ⟨G, 2, none⟩ = some (.slice A3 T.length n3) := hadd.1.cell 2
       have y3 : w4.cell? ⟨G, 3, none⟩ = some (.map (some M)) := hadd.1.cell 3
       have zG4 : G < w4.heap.size := hadd.1.lt
       have HB := Lib.hid (And.intro hadd hown4)
       clear hadd hown4 hgrow4 hat4 hlt4)
    | (refine step_append_item (by rfl) _ _ _ (by rfl) rowInts tells_int (v := .slice A3 T.length n3) (xs := Y) (base := B) (S := fun _ => False) (by rfl)
        (.inl (own_later (own_later HT.out.why HA.out.2.2.2.2 HT.out.apart') (row := none) (by first | exact only_refl _ none | exact only_alloc (only_refl _ none) _) (by cases A3 <;> simp [Value.ownBlock]))) (g := w.heap.size + 1) (cs := #[.int .i64 y]) (by rfl)
        (Blk.grown (by have := Blk.new (w.alloc (.cells #[.int .i64 l] 3)) 3 #[.int .i64 y]; rw [World.size_alloc] at this; exact Blk.drew this) HA.out.2.1 (fun e => by have := (HT.out.lits.lt _ e.symm).2; omega)) (y := y) ⟨rfl, HI.out.2⟩ (fun b h => False.elim h) (by have := HLen.out; unfold maxLen; omega) (by have := HLen.out; omega) (by first | omega | (simp <;> omega)) ?_
       intro gb cb w4 hown4 hgrow4 hat4 hlt4
       have hadd := Trail.added HT.out (by first | exact only_drew (only_alloc (only_refl _ none) _) | exact only_drew (only_alloc (only_alloc (only_refl _ none) _) _)) HA.out.1 HA.out.2.1 HA.out.2.2.1 HA.out.2.2.2.1 (by first | exact only_refl _ none | exact only_alloc (only_refl _ none) _) hown4 hgrow4 hat4
       have z1 : w4.frozen? ⟨G, 1, none⟩ = false := hadd.1.frozen 1
       have z2 : w4.frozen? ⟨G, 2, none⟩ = false := hadd.1.frozen 2
       have y1' : w4.cell? ⟨G, 1, none⟩ = some (.slice A2 T.length n2) := hadd.1.cell 1
       have y2' : w4.cell? ⟨G, 2, none⟩ = some (.slice A3 T.length n3) := hadd.1.cell 2
       have y3 : w4.cell? ⟨G, 3, none⟩ = some (.map (some M)) := hadd.1.cell 3
       have zG4 : G < w4.heap.size := hadd.1.lt
       have HB := Lib.hid (And.intro hadd hown4)
       clear hadd hown4 hgrow4 hat4 hlt4)
    | (refine step_append_item (by rfl) _ _ _ (by rfl) rowInts tells_int (v := .slice A3 T.length n3) (xs := Y) (base := B) (S := fun _ => False) (by rfl)
        (.inl (own_later (own_later HT.out.why HA.out.2.2.2.2 HT.out.apart') (row := none) (by first | exact only_refl _ none | exact only_alloc (only_refl _ none) _) (by cases A3 <;> simp [Value.ownBlock]))) (g := w.heap.size) (cs := #[.int .i64 y]) (by rfl)
        (Blk.grown (Blk.drew (Blk.alloc (Blk.new w _ _) _)) HA.out.2.1 (fun e => by have := (HT.out.lits.lt _ e.symm).2; omega)) (y := y) ⟨rfl, HI.out.2⟩ (fun b h => False.elim h) (by have := HLen.out; unfold maxLen; omega) (by have := HLen.out; omega) (by first | omega | (simp <;> omega)) ?_
       intro gb cb w4 hown4 hgrow4 hat4 hlt4
       have hadd := Trail.added HT.out (by first | exact only_drew (only_alloc (only_refl _ none) _) | exact only_drew (only_alloc (only_alloc (only_refl _ none) _) _)) HA.out.1 HA.out.2.1 HA.out.2.2.1 HA.out.2.2.2.1 (by first | exact only_refl _ none | exact only_alloc (only_refl _ none) _) hown4 hgrow4 hat4
       have z1 : w4.frozen? ⟨G, 1, none⟩ = false := hadd.1.frozen 1
       have z2 : w4.frozen? ⟨G, 2, none⟩ = false := hadd.1.frozen 2
       have y1' : w4.cell? ⟨G, 1, none⟩ = some (.slice A2 T.length n2) := hadd.1.cell 1
       have y2' : w4.cell? ⟨G, 2, none⟩ = some (.slice A3 T.length n3) := hadd.1.cell 2
       have y3 : w4.cell? ⟨G, 3, none⟩ = some (.map (some M)) := hadd.1.cell 3
       have zG4 : G < w4.heap.size := hadd.1.lt
       have HB := Lib.hid (And.intro hadd hown4)
       clear hadd hown4 hgrow4 hat4 hlt4)
    | fail)
  all_goals
    go_wp2_with (at_mapUpdate; refine wpList_store_t rfl _ _ _ rfl rfl rfl rfl HI.out.1 (n := T.length) (by unfold maxLen; omega) (HB.out.1.2.1.kept (one_only (one_only (only_refl _ _) 1 _) 2 _) (fun e => HT.out.n3 (by injection e))) ?_; intro w5 ht5 hg5)
    go_end0
    exact ⟨rfl, Trail.stored HT.out HB.out.1 HB.out.2 ht5 hg5⟩
end Go.Proofs.YtfogiljgecmakaaGreat
