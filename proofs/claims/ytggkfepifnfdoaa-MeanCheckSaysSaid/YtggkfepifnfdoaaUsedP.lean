/- Plain: which nodes are used: one pass downwards comes to what as many passes upwards as there are nodes come to. No program is named here. -/
import Derived.Test.YtggkfepifnfdoaaAskM
namespace Go.Proofs.Ytggkfepifnfdoaa
open Go.RowKit

def markAll : List Int → List Bool → List Bool
  | [], ms => ms
  | k :: r, ms => markAll r (ms.set k.toNat true)
def kidsAt (nodes : List NodeD) (i : Nat) : List Int := match nodes[i]? with
  | some x => x.kids
  | none => []
def stepM (nodes : List NodeD) (ms : List Bool) (i : Nat) : List Bool := if ms.getD i false = true then markAll (kidsAt nodes i) ms else ms
/-- from node i - 1 on downwards -/
def downM (nodes : List NodeD) : Nat → List Bool → List Bool
  | 0, ms => ms
  | i + 1, ms => downM nodes i (stepM nodes ms i)
/-- from node i on upwards, so many -/
def upM (nodes : List NodeD) : Nat → Nat → List Bool → List Bool
  | _, 0, ms => ms
  | i, c + 1, ms => upM nodes (i + 1) c (stepM nodes ms i)
def passes (nodes : List NodeD) : Nat → List Bool → List Bool
  | 0, ms => ms
  | p + 1, ms => passes nodes p (upM nodes 0 nodes.length ms)

def Le (a b : List Bool) : Prop := a.length = b.length ∧ ∀ i, a.getD i false = true → b.getD i false = true
theorem Le.refl (a : List Bool) : Le a a := ⟨rfl, fun _ h => h⟩
theorem Le.trans {a b c : List Bool} (h : Le a b) (k : Le b c) : Le a c := ⟨h.1.trans k.1, fun i hi => k.2 i (h.2 i hi)⟩
theorem Le.antisymm {a b : List Bool} (h : Le a b) (k : Le b a) : a = b := by
  refine List.ext_getElem h.1 (fun i h1 h2 => ?_)
  have e1 : a.getD i false = a[i] := by rw [List.getD_eq_getElem?_getD, List.getElem?_eq_getElem h1]; rfl
  have e2 : b.getD i false = b[i] := by rw [List.getD_eq_getElem?_getD, List.getElem?_eq_getElem h2]; rfl
  have f1 := h.2 i
  have f2 := k.2 i
  rw [e1, e2] at f1 f2
  cases ha : a[i] <;> cases hb : b[i] <;> simp_all
theorem set_getD (ms : List Bool) (k i : Nat) : (ms.set k true).getD i false = ((decide (k = i) && decide (i < ms.length)) || ms.getD i false) := by
  rw [List.getD_eq_getElem?_getD, List.getD_eq_getElem?_getD, List.getElem?_set]
  by_cases h : k = i
  · subst h
    by_cases hl : k < ms.length
    · simp [hl]
    · simp [hl]
  · simp [h]
theorem markAll_len : ∀ (l : List Int) (ms : List Bool), (markAll l ms).length = ms.length
  | [], _ => rfl
  | k :: r, ms => by rw [markAll, markAll_len r, List.length_set]
theorem markAll_get : ∀ (l : List Int) (ms : List Bool) (i : Nat), (markAll l ms).getD i false = true ↔ (ms.getD i false = true ∨ (i < ms.length ∧ ∃ k ∈ l, k.toNat = i))
  | [], ms, i => by simp [markAll]
  | k :: r, ms, i => by
    rw [markAll, markAll_get r, set_getD, List.length_set]
    simp only [Bool.or_eq_true, Bool.and_eq_true, decide_eq_true_eq, List.mem_cons, exists_eq_or_imp]
    constructor
    · rintro ((⟨h1, h2⟩ | h) | ⟨h1, h2⟩)
      · exact .inr ⟨h2, .inl h1⟩
      · exact .inl h
      · exact .inr ⟨h1, .inr h2⟩
    · rintro (h | ⟨h1, h2 | h2⟩)
      · exact .inl (.inr h)
      · exact .inl (.inl ⟨h2, h1⟩)
      · exact .inr ⟨h1, h2⟩
theorem stepM_len (nodes : List NodeD) (ms : List Bool) (i : Nat) : (stepM nodes ms i).length = ms.length := by
  unfold stepM; split
  · exact markAll_len _ _
  · rfl
theorem stepM_get (nodes : List NodeD) (ms : List Bool) (i j : Nat) : (stepM nodes ms i).getD j false = true ↔ (ms.getD j false = true ∨ (ms.getD i false = true ∧ j < ms.length ∧ ∃ k ∈ kidsAt nodes i, k.toNat = j)) := by
  unfold stepM
  by_cases h : ms.getD i false = true
  · rw [if_pos h, markAll_get]
    constructor
    · rintro (h1 | h1)
      · exact .inl h1
      · exact .inr ⟨h, h1⟩
    · rintro (h1 | ⟨-, h1⟩)
      · exact .inl h1
      · exact .inr h1
  · rw [if_neg h]
    constructor
    · exact .inl
    · rintro (h1 | ⟨h1, -⟩)
      · exact h1
      · exact absurd h1 h
theorem stepM_le (nodes : List NodeD) (ms : List Bool) (i : Nat) : Le ms (stepM nodes ms i) := ⟨(stepM_len nodes ms i).symm, fun j h => (stepM_get nodes ms i j).2 (.inl h)⟩
theorem stepM_mono (nodes : List NodeD) {a b : List Bool} (h : Le a b) (i : Nat) : Le (stepM nodes a i) (stepM nodes b i) :=
  ⟨by rw [stepM_len, stepM_len, h.1], fun j hj => by
    rcases (stepM_get nodes a i j).1 hj with h1 | ⟨h1, h2, h3⟩
    · exact (stepM_get nodes b i j).2 (.inl (h.2 j h1))
    · exact (stepM_get nodes b i j).2 (.inr ⟨h.2 i h1, by rw [← h.1]; exact h2, h3⟩)⟩
theorem downM_len (nodes : List NodeD) : ∀ (i : Nat) (ms : List Bool), (downM nodes i ms).length = ms.length
  | 0, _ => rfl
  | i + 1, ms => by rw [downM, downM_len nodes i, stepM_len]
theorem downM_le (nodes : List NodeD) : ∀ (i : Nat) (ms : List Bool), Le ms (downM nodes i ms)
  | 0, ms => Le.refl ms
  | i + 1, ms => (stepM_le nodes ms i).trans (downM_le nodes i _)
/-- kids stand below their node -/
def KidsLow (nodes : List NodeD) : Prop := ∀ (i : Nat) (x : NodeD), nodes[i]? = some x → ∀ k ∈ x.kids, 0 ≤ k ∧ k < (i : Int)
theorem kidsAt_low {nodes : List NodeD} (h : KidsLow nodes) {i : Nat} {k : Int} (hk : k ∈ kidsAt nodes i) : 0 ≤ k ∧ k < (i : Int) := by
  unfold kidsAt at hk
  split at hk
  · rename_i x hx
    exact h i x hx k hk
  · simp at hk
/-- what a downward pass from i on does not touch -/
theorem downM_high {nodes : List NodeD} (hl : KidsLow nodes) : ∀ (i : Nat) (ms : List Bool) (j : Nat), i ≤ j + 1 → (downM nodes i ms).getD j false = ms.getD j false
  | 0, ms, j, _ => rfl
  | i + 1, ms, j, hij => by
    rw [downM, downM_high hl i _ j (by omega), Bool.eq_iff_iff, stepM_get]
    constructor
    · rintro (h | ⟨-, -, k, hk, e⟩)
      · exact h
      · have := kidsAt_low hl hk
        omega
    · exact .inl
/-- below i: marked at the end is marked before, or a kid of one that is marked, between -/
theorem downM_why {nodes : List NodeD} (hl : KidsLow nodes) : ∀ (i : Nat) (ms : List Bool) (j : Nat), (downM nodes i ms).getD j false = true → ms.getD j false = true ∨ ∃ a, j < a ∧ a < i ∧ (downM nodes i ms).getD a false = true ∧ ∃ k ∈ kidsAt nodes a, k.toNat = j
  | 0, ms, j, h => .inl h
  | i + 1, ms, j, h => by
    rw [downM] at h
    rcases downM_why hl i _ j h with h1 | ⟨a, h1, h2, h3, h4⟩
    · rcases (stepM_get nodes ms i j).1 h1 with h5 | ⟨h5, -, k, hk, e⟩
      · exact .inl h5
      · have := kidsAt_low hl hk
        refine .inr ⟨i, by omega, by omega, ?_, k, hk, e⟩
        rw [downM, downM_high hl i _ i (by omega)]
        exact (stepM_get nodes ms i i).2 (.inl h5)
    · exact .inr ⟨a, h1, by omega, by rw [downM]; exact h3, h4⟩
/-- what is marked at the end has its kids marked -/
theorem downM_closed {nodes : List NodeD} (hl : KidsLow nodes) : ∀ (i : Nat) (ms : List Bool) (a : Nat), a < i → (downM nodes i ms).getD a false = true → ∀ k ∈ kidsAt nodes a, k.toNat < ms.length → (downM nodes i ms).getD k.toNat false = true
  | 0, _, a, ha, _, _, _, _ => by omega
  | i + 1, ms, a, ha, h, k, hk, hkl => by
    rw [downM] at h ⊢
    rcases Nat.lt_or_ge a i with hlt | hge
    · exact downM_closed hl i _ a hlt h k hk (by rw [stepM_len]; exact hkl)
    · obtain rfl : a = i := by omega
      rw [downM_high hl a _ a (by omega)] at h
      have h0 : ms.getD a false = true := by
        rcases (stepM_get nodes ms a a).1 h with h5 | ⟨h5, -⟩
        · exact h5
        · exact h5
      exact (downM_le nodes a _).2 _ ((stepM_get nodes ms a k.toNat).2 (.inr ⟨h0, hkl, k, hk, rfl⟩))
theorem stepM_fix {nodes : List NodeD} (hl : KidsLow nodes) (ms : List Bool) (a : Nat) (ha : a < nodes.length) : Le (stepM nodes (downM nodes nodes.length ms) a) (downM nodes nodes.length ms) :=
  ⟨stepM_len _ _ _, fun j hj => by
    rcases (stepM_get nodes _ a j).1 hj with h1 | ⟨h1, h2, k, hk, rfl⟩
    · exact h1
    · exact downM_closed hl nodes.length ms a ha h1 k hk (by rw [downM_len] at h2; exact h2)⟩
theorem upM_len (nodes : List NodeD) : ∀ (c i : Nat) (ms : List Bool), (upM nodes i c ms).length = ms.length
  | 0, _, _ => rfl
  | c + 1, i, ms => by rw [upM, upM_len nodes c, stepM_len]
theorem upM_le (nodes : List NodeD) : ∀ (c i : Nat) (ms : List Bool), Le ms (upM nodes i c ms)
  | 0, _, ms => Le.refl ms
  | c + 1, i, ms => (stepM_le nodes ms i).trans (upM_le nodes c (i + 1) _)
theorem upM_below {nodes : List NodeD} {F : List Bool} (hF : ∀ a, a < nodes.length → Le (stepM nodes F a) F) : ∀ (c i : Nat) (ms : List Bool), i + c ≤ nodes.length → Le ms F → Le (upM nodes i c ms) F
  | 0, _, _, _, h => h
  | c + 1, i, ms, hic, h => upM_below hF c (i + 1) _ (by omega) ((stepM_mono nodes h i).trans (hF i (by omega)))
/-- in a pass upwards the kids of what is marked are marked -/
theorem upM_kids (nodes : List NodeD) : ∀ (c i : Nat) (ms : List Bool) (a : Nat), i ≤ a → a < i + c → ms.getD a false = true → ∀ k ∈ kidsAt nodes a, k.toNat < ms.length → (upM nodes i c ms).getD k.toNat false = true
  | 0, i, _, a, h1, h2, _, _, _, _ => by omega
  | c + 1, i, ms, a, h1, h2, h, k, hk, hkl => by
    rw [upM]
    rcases Nat.eq_or_lt_of_le h1 with rfl | hlt
    · exact (upM_le nodes c (i + 1) _).2 _ ((stepM_get nodes ms i k.toNat).2 (.inr ⟨h, hkl, k, hk, rfl⟩))
    · exact upM_kids nodes c (i + 1) _ a hlt (by omega) ((stepM_le nodes ms i).2 a h) k hk (by rw [stepM_len]; exact hkl)
theorem passes_le (nodes : List NodeD) : ∀ (p : Nat) (ms : List Bool), Le ms (passes nodes p ms)
  | 0, ms => Le.refl ms
  | p + 1, ms => (upM_le nodes nodes.length 0 ms).trans (passes_le nodes p _)
theorem passes_below {nodes : List NodeD} {F : List Bool} (hF : ∀ a, a < nodes.length → Le (stepM nodes F a) F) : ∀ (p : Nat) (ms : List Bool), Le ms F → Le (passes nodes p ms) F
  | 0, _, h => h
  | p + 1, _, h => passes_below hF p _ (upM_below hF nodes.length 0 _ (by omega) h)
/-- after so many passes all is marked that must be, from so far above on -/
theorem passes_reach {nodes : List NodeD} (hl : KidsLow nodes) {m0 : List Bool} (hn : nodes.length = m0.length) : ∀ (p : Nat) (ms : List Bool) (q : Nat), Le m0 ms → (∀ j, nodes.length ≤ j + q → (downM nodes nodes.length m0).getD j false = true → ms.getD j false = true) →
    ∀ j, nodes.length ≤ j + (q + p) → (downM nodes nodes.length m0).getD j false = true → (passes nodes p ms).getD j false = true
  | 0, ms, q, _, h, j, hj, hF => h j (by omega) hF
  | p + 1, ms, q, hle, h, j, hj, hF => by
    rw [passes]
    refine passes_reach hl hn p _ (q + 1) (hle.trans (upM_le nodes nodes.length 0 ms)) (fun j hj hF => ?_) j (by omega) hF
    rcases downM_why hl nodes.length m0 j hF with h1 | ⟨a, h1, h2, h3, k, hk, e⟩
    · exact (upM_le nodes nodes.length 0 ms).2 j (hle.2 j h1)
    · have ha := h a (by omega) h3
      subst e
      refine upM_kids nodes nodes.length 0 ms a (Nat.zero_le _) (by omega) ha k hk ?_
      have := kidsAt_low hl hk
      have := hle.1
      omega
theorem used_eq {nodes : List NodeD} (hl : KidsLow nodes) {m0 : List Bool} (hn : nodes.length = m0.length) : passes nodes nodes.length m0 = downM nodes nodes.length m0 := by
  refine Le.antisymm (passes_below (fun a ha => stepM_fix hl m0 a ha) _ _ (downM_le nodes _ m0)) ⟨by rw [downM_len]; exact (passes_le nodes _ m0).1, fun j hj => ?_⟩
  exact passes_reach hl hn nodes.length m0 0 (Le.refl m0) (fun j hj hF => by
    rcases downM_why hl nodes.length m0 j hF with h1 | ⟨a, h1, h2, -⟩
    · exact h1
    · omega) j (by omega) hj
end Go.Proofs.Ytggkfepifnfdoaa
