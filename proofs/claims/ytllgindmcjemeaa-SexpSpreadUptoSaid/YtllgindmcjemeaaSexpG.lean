/- The plain law of reading expressions: what a text comes to, as a relation; it has one result for each text. -/
import Derived.Test.YtllgindmcjemeaaBaseB
import Derived.Test.YtllgindmcjemeaaSexpA
namespace Go.Proofs.Ytllgindmcjemeaa
open Go.RowKit

/-- from place i on past all bytes that p holds of -/
def past (p : UInt8 → Bool) (s : ByteArray) (i : Nat) : Nat := i + ((s.data.toList.drop i).takeWhile p).length

theorem drop_at (s : ByteArray) (i : Nat) (h : i < s.size) : s.data.toList.drop i = s[i] :: s.data.toList.drop (i + 1) := by
  have hl : i < s.data.toList.length := by simpa using h
  rw [List.drop_eq_getElem_cons hl]; rfl
theorem past_step (p : UInt8 → Bool) (s : ByteArray) (i : Nat) (h : i < s.size) (hp : p s[i] = true) : past p s i = past p s (i + 1) := by
  unfold past
  rw [drop_at s i h, List.takeWhile_cons_of_pos hp]
  simp only [List.length_cons]
  omega
theorem past_stop (p : UInt8 → Bool) (s : ByteArray) (i : Nat) (h : i < s.size) (hp : p s[i] = false) : past p s i = i := by
  unfold past
  rw [drop_at s i h, List.takeWhile_cons_of_neg (by simp [hp])]
  rfl
theorem past_end (p : UInt8 → Bool) (s : ByteArray) (i : Nat) (h : s.size ≤ i) : past p s i = i := by
  unfold past
  rw [List.drop_eq_nil_of_le (by simpa using h)]
  rfl
theorem past_le (p : UInt8 → Bool) (s : ByteArray) (i : Nat) (h : i ≤ s.size) : i ≤ past p s i ∧ past p s i ≤ s.size := by
  unfold past
  have h1 := (List.takeWhile_sublist p (l := s.data.toList.drop i)).length_le
  have h2 : (s.data.toList.drop i).length = s.size - i := by rw [List.length_drop]; rfl
  omega

def notNl (c : UInt8) : Bool := c.toNat != 10
def letterU (c : UInt8) : Bool := letterB (c.toNat : Int)

/-- the class of the byte at a place: 0 the end, 1 blank, 2 a comment's sign, 3 a closing bracket, 4 an opening one, 5 a letter, 6 none of these -/
def clsB (c : Nat) : Nat := if c = 32 ∨ c = 9 ∨ c = 10 ∨ c = 13 then 1 else if c = 59 then 2 else if c = 41 then 3 else if c = 40 then 4 else if letterB (c : Int) = true then 5 else 6
def cls (s : ByteArray) (i : Nat) : Nat := if h : i < s.size then clsB s[i].toNat else 0

theorem cls_at (s : ByteArray) (i : Nat) (h : i < s.size) : cls s i = clsB s[i].toNat := by rw [cls, dif_pos h]
theorem cls_end (s : ByteArray) (i : Nat) (h : ¬ i < s.size) : cls s i = 0 := by rw [cls, dif_neg h]
theorem clsB_cases (c : Nat) : (clsB c = 1 ∧ (c = 32 ∨ c = 9 ∨ c = 10 ∨ c = 13)) ∨ (clsB c = 2 ∧ c = 59) ∨ (clsB c = 3 ∧ c = 41) ∨ (clsB c = 4 ∧ c = 40) ∨
    (clsB c = 5 ∧ letterB (c : Int) = true ∧ c ≠ 32 ∧ c ≠ 9 ∧ c ≠ 10 ∧ c ≠ 13 ∧ c ≠ 59 ∧ c ≠ 41 ∧ c ≠ 40) ∨ (clsB c = 6 ∧ letterB (c : Int) = false ∧ c ≠ 32 ∧ c ≠ 9 ∧ c ≠ 10 ∧ c ≠ 13 ∧ c ≠ 59 ∧ c ≠ 41 ∧ c ≠ 40) := by
  unfold clsB
  by_cases h1 : c = 32 ∨ c = 9 ∨ c = 10 ∨ c = 13
  · rw [if_pos h1]; simp; omega
  rw [if_neg h1]
  by_cases h2 : c = 59
  · rw [if_pos h2]; simp; omega
  rw [if_neg h2]
  by_cases h3 : c = 41
  · rw [if_pos h3]; simp; omega
  rw [if_neg h3]
  by_cases h4 : c = 40
  · rw [if_pos h4]; simp; omega
  rw [if_neg h4]
  cases h5 : letterB (c : Int)
  · rw [if_neg (by simp)]; simp; omega
  · rw [if_pos rfl]; simp; omega

/-- reading from place i on within d lists comes to the forest f, ends at place e, with the fault c at a (c = 0: none) -/
inductive Prs (s : ByteArray) : Nat → Int → Fo → Nat → Int → Int → Prop where
  | blank {i : Nat} {d : Int} {f : Fo} {e : Nat} {c a : Int} (h : cls s i = 1) (n : Prs s (i + 1) d f e c a) : Prs s i d f e c a
  | note {i : Nat} {d : Int} {f : Fo} {e : Nat} {c a : Int} (h : cls s i = 2) (n : Prs s (past notNl s i) d f e c a) : Prs s i d f e c a
  | stopTop {i : Nat} {d : Int} (h : cls s i = 0) (hd : d = 0) : Prs s i d .nil i 0 0
  | stopIn {i : Nat} {d : Int} (h : cls s i = 0) (hd : ¬ d = 0) : Prs s i d .nil i 1 s.size
  | shutTop {i : Nat} {d : Int} (h : cls s i = 3) (hd : d = 0) : Prs s i d .nil i 1 i
  | shut {i : Nat} {d : Int} (h : cls s i = 3) (hd : ¬ d = 0) : Prs s i d .nil i 0 0
  | deepList {i : Nat} {d : Int} (h : cls s i = 4) (hd : 40 < d) : Prs s i d .nil i 10 i
  | listBad {i : Nat} {d : Int} {k : Fo} {e : Nat} {c a : Int} (h : cls s i = 4) (hd : ¬ 40 < d) (hk : Prs s (i + 1) (d + 1) k e c a) (hc : ¬ c = 0) : Prs s i d .nil e c a
  | list {i : Nat} {d : Int} {k f : Fo} {e' e : Nat} {c a b : Int} (h : cls s i = 4) (hd : ¬ 40 < d) (hk : Prs s (i + 1) (d + 1) k e' 0 b) (n : Prs s (e' + 1) d f e c a) :
      Prs s i d (if c = 0 then .cons ByteArray.empty true k f else .nil) e c a
  | odd {i : Nat} {d : Int} (h : cls s i = 6) : Prs s i d .nil i 1 i
  | long {i : Nat} {d : Int} (h : cls s i = 5) (hl : 24 < past letterU s i - i) : Prs s i d .nil (past letterU s i) 12 i
  | deepWord {i : Nat} {d : Int} (h : cls s i = 5) (hl : ¬ 24 < past letterU s i - i) (hd : 40 < d) : Prs s i d .nil (past letterU s i) 10 i
  | word {i : Nat} {d : Int} {f : Fo} {e : Nat} {c a : Int} (h : cls s i = 5) (hl : ¬ 24 < past letterU s i - i) (hd : ¬ 40 < d) (n : Prs s (past letterU s i) d f e c a) :
      Prs s i d (if c = 0 then .cons (s.extract i (past letterU s i)) false .nil f else .nil) e c a

theorem Prs.one {s : ByteArray} {i : Nat} {d : Int} {f : Fo} {e : Nat} {c a : Int} (h : Prs s i d f e c a) : ∀ {f' : Fo} {e' : Nat} {c' a' : Int}, Prs s i d f' e' c' a' → f = f' ∧ e = e' ∧ c = c' ∧ a = a' := by
  induction h with
  | blank h n ih => intro f' e' c' a' h2; cases h2 <;> first | (rename_i n2; exact ih n2) | omega
  | note h n ih => intro f' e' c' a' h2; cases h2 <;> first | (rename_i n2; exact ih n2) | omega
  | stopTop h hd => intro f' e' c' a' h2; cases h2 <;> first | exact ⟨rfl, rfl, rfl, rfl⟩ | omega
  | stopIn h hd => intro f' e' c' a' h2; cases h2 <;> first | exact ⟨rfl, rfl, rfl, rfl⟩ | omega
  | shutTop h hd => intro f' e' c' a' h2; cases h2 <;> first | exact ⟨rfl, rfl, rfl, rfl⟩ | omega
  | shut h hd => intro f' e' c' a' h2; cases h2 <;> first | exact ⟨rfl, rfl, rfl, rfl⟩ | omega
  | deepList h hd => intro f' e' c' a' h2; cases h2 <;> first | exact ⟨rfl, rfl, rfl, rfl⟩ | omega
  | odd h => intro f' e' c' a' h2; cases h2 <;> first | exact ⟨rfl, rfl, rfl, rfl⟩ | omega
  | long h hl => intro f' e' c' a' h2; cases h2 <;> first | exact ⟨rfl, rfl, rfl, rfl⟩ | omega
  | deepWord h hl hd => intro f' e' c' a' h2; cases h2 <;> first | exact ⟨rfl, rfl, rfl, rfl⟩ | omega
  | listBad h hd hk hc ih =>
    intro f' e' c' a' h2
    cases h2 with
    | listBad h' hd' hk' hc' => obtain ⟨_, h1, h2, h3⟩ := ih hk'; exact ⟨rfl, h1, h2, h3⟩
    | list h' hd' hk' n' => have := (ih hk').2.2.1; omega
    | _ => omega
  | list h hd hk n ih1 ih2 =>
    intro f' e' c' a' h2
    cases h2 with
    | listBad h' hd' hk' hc' => have := (ih1 hk').2.2.1; omega
    | list h' hd' hk' n' =>
      obtain ⟨rfl, rfl, _, _⟩ := ih1 hk'
      obtain ⟨rfl, rfl, rfl, rfl⟩ := ih2 n'
      exact ⟨rfl, rfl, rfl, rfl⟩
    | _ => omega
  | word h hl hd n ih =>
    intro f' e' c' a' h2
    cases h2 with
    | word h' hl' hd' n' =>
      obtain ⟨rfl, rfl, rfl, rfl⟩ := ih n'
      exact ⟨rfl, rfl, rfl, rfl⟩
    | _ => omega

theorem cls_lt {s : ByteArray} {i : Nat} (h : cls s i ≠ 0) : i < s.size := by
  rcases Nat.lt_or_ge i s.size with hlt | hge
  · exact hlt
  · exact absurd (cls_end s i (by omega)) h

theorem past_note {s : ByteArray} {i : Nat} (h : cls s i = 2) : i < past notNl s i ∧ past notNl s i ≤ s.size := by
  have hi := cls_lt (s := s) (i := i) (by omega)
  rw [cls_at s i hi] at h
  have hb := clsB_cases s[i].toNat
  have : notNl s[i] = true := by unfold notNl; simp; omega
  rw [past_step _ _ _ hi this]
  have := past_le notNl s (i + 1) (by omega)
  omega
theorem past_word {s : ByteArray} {i : Nat} (h : cls s i = 5) : i < past letterU s i ∧ past letterU s i ≤ s.size := by
  have hi := cls_lt (s := s) (i := i) (by omega)
  rw [cls_at s i hi] at h
  have hb := clsB_cases s[i].toNat
  have : letterU s[i] = true := by
    unfold letterU
    rcases hb with h1 | h1 | h1 | h1 | h1 | h1
    all_goals first | (exact h1.2.1) | omega
  rw [past_step _ _ _ hi this]
  have := past_le letterU s (i + 1) (by omega)
  omega

theorem cls_lt' {s : ByteArray} {i k : Nat} (h : cls s i = k) (hk : k ≠ 0) : i < s.size := cls_lt (by rw [h]; exact hk)

/-- where reading ends; what a fault has -/
theorem Prs.ends {s : ByteArray} {i : Nat} {d : Int} {f : Fo} {e : Nat} {c a : Int} (h : Prs s i d f e c a) : i ≤ s.size → 0 ≤ d → i ≤ e ∧ e ≤ s.size ∧ (c = 0 → a = 0 ∧ f.cnt + i ≤ e ∧ (¬ d = 0 → e < s.size)) := by
  induction h with
  | blank h n ih => intro hi hd0; have := cls_lt' h (by decide); have := ih (by omega) hd0; omega
  | note h n ih => intro hi hd0; have := past_note h; have := ih (by omega) hd0; omega
  | stopTop h hd => intro hi hd0; refine ⟨by omega, by omega, fun _ => ⟨rfl, by simp [Fo.cnt], by omega⟩⟩
  | stopIn h hd => intro hi hd0; refine ⟨by omega, by omega, fun _ => by omega⟩
  | shutTop h hd => intro hi hd0; refine ⟨by omega, by omega, fun _ => by omega⟩
  | shut h hd => intro hi hd0; have := cls_lt' h (by decide); refine ⟨by omega, by omega, fun _ => ⟨rfl, by simp [Fo.cnt], by omega⟩⟩
  | deepList h hd => intro hi hd0; refine ⟨by omega, by omega, fun _ => by omega⟩
  | odd h => intro hi hd0; refine ⟨by omega, by omega, fun _ => by omega⟩
  | long h hl => intro hi hd0; have := past_word h; refine ⟨by omega, by omega, fun _ => by omega⟩
  | deepWord h hl hd => intro hi hd0; have := past_word h; refine ⟨by omega, by omega, fun _ => by omega⟩
  | listBad h hd hk hc ih => intro hi hd0; have := cls_lt' h (by decide); have := ih (by omega) (by omega); exact ⟨by omega, by omega, fun h => absurd h hc⟩
  | @list i d k f e' e c a b h hd hk n ih1 ih2 =>
    intro hi hd0
    have := cls_lt' h (by decide)
    obtain ⟨h1, h2, h3⟩ := ih1 (by omega) (by omega)
    obtain ⟨_, h4, h5⟩ := h3 rfl
    have := h5 (by omega)
    obtain ⟨g1, g2, g3⟩ := ih2 (by omega) hd0
    refine ⟨by omega, g2, fun hc => ?_⟩
    obtain ⟨g4, g5, g6⟩ := g3 hc
    rw [if_pos hc]
    simp only [Fo.cnt]
    exact ⟨g4, by omega, g6⟩
  | @word i d f e c a h hl hd n ih =>
    intro hi hd0
    have := past_word h
    obtain ⟨h1, h2, h3⟩ := ih (by omega) hd0
    refine ⟨by omega, h2, fun hc => ?_⟩
    obtain ⟨h4, h5, h6⟩ := h3 hc
    rw [if_pos hc]
    simp only [Fo.cnt]
    exact ⟨h4, by omega, h6⟩

/-- reading after some expressions have been read: they stand ahead of what is to come -/
def Glue (s : ByteArray) (i0 : Nat) (d : Int) (acc : Fo) (i : Nat) : Prop :=
  ∀ (f : Fo) (e : Nat) (c a : Int), Prs s i d f e c a → Prs s i0 d (if c = 0 then acc.app f else .nil) e c a

theorem Glue.start (s : ByteArray) (i : Nat) (d : Int) (h : ∀ (f : Fo) (e : Nat) (c a : Int), Prs s i d f e c a → ¬ c = 0 → f = .nil) : Glue s i d .nil i := fun f e c a hp => by
  by_cases hc : c = 0
  · rw [if_pos hc]; exact hp
  · rw [if_neg hc, ← h f e c a hp hc]; exact hp
theorem Prs.bad {s : ByteArray} {i : Nat} {d : Int} {f : Fo} {e : Nat} {c a : Int} (h : Prs s i d f e c a) : ¬ c = 0 → f = .nil := by
  induction h with
  | blank h n ih => exact ih
  | note h n ih => exact ih
  | list h hd hk n ih1 ih2 => intro hc; rw [if_neg hc]
  | word h hl hd n ih => intro hc; rw [if_neg hc]
  | _ => intro _; rfl
theorem Glue.refl (s : ByteArray) (i : Nat) (d : Int) : Glue s i d .nil i := Glue.start s i d fun _ _ _ _ h hc => h.bad hc
theorem Glue.word {s : ByteArray} {i0 : Nat} {d : Int} {acc : Fo} {i : Nat} (g : Glue s i0 d acc i) (h : cls s i = 5) (hl : ¬ 24 < past letterU s i - i) (hd : ¬ 40 < d) :
    Glue s i0 d (acc.app (.cons (s.extract i (past letterU s i)) false .nil .nil)) (past letterU s i) := fun f e c a hp => by
  have := g _ e c a (.word h hl hd hp)
  by_cases hc : c = 0
  · rw [if_pos hc, if_pos hc] at this
    rw [if_pos hc, Fo.app_assoc]
    exact this
  · rw [if_neg hc] at this
    rw [if_neg hc]
    exact this
theorem Glue.list {s : ByteArray} {i0 : Nat} {d : Int} {acc : Fo} {i : Nat} (g : Glue s i0 d acc i) (h : cls s i = 4) (hd : ¬ 40 < d) {k : Fo} {e' : Nat} {b : Int} (hk : Prs s (i + 1) (d + 1) k e' 0 b) :
    Glue s i0 d (acc.app (.cons ByteArray.empty true k .nil)) (e' + 1) := fun f e c a hp => by
  have := g _ e c a (.list h hd hk hp)
  by_cases hc : c = 0
  · rw [if_pos hc, if_pos hc] at this
    rw [if_pos hc, Fo.app_assoc]
    exact this
  · rw [if_neg hc] at this
    rw [if_neg hc]
    exact this
theorem Glue.skip {s : ByteArray} {i0 : Nat} {d : Int} {acc : Fo} {i j : Nat} (g : Glue s i0 d acc i) (h : ∀ (f : Fo) (e : Nat) (c a : Int), Prs s j d f e c a → Prs s i d f e c a) : Glue s i0 d acc j :=
  fun f e c a hp => g f e c a (h f e c a hp)
theorem Glue.good {s : ByteArray} {i0 : Nat} {d : Int} {acc : Fo} {i e : Nat} {a : Int} (g : Glue s i0 d acc i) (h : Prs s i d .nil e 0 a) : Prs s i0 d acc e 0 a := by
  have := g _ _ _ _ h
  rwa [if_pos rfl, Fo.app_nil] at this
theorem Glue.bad {s : ByteArray} {i0 : Nat} {d : Int} {acc : Fo} {i e : Nat} {c a : Int} (g : Glue s i0 d acc i) (hc : ¬ c = 0) (h : Prs s i d .nil e c a) : Prs s i0 d .nil e c a := by
  have := g _ _ _ _ h
  rwa [if_neg hc] at this
end Go.Proofs.Ytllgindmcjemeaa
