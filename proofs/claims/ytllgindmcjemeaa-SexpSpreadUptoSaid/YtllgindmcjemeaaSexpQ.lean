/- The plain law: the text of a forest without a fault is read as that forest; what is read has no fault. -/
import Derived.Test.YtllgindmcjemeaaSexpL
import Derived.Lib.Strings
import Derived.Test.YtllgindmcjemeaaSexpP
namespace Go.Proofs.Ytllgindmcjemeaa
open Go.RowKit

/-- from place i on the text is l, and then r -/
def At (s : ByteArray) (i : Nat) (l : List UInt8) : Prop := s.data.toList.drop i = l

theorem At.lt {s : ByteArray} {i : Nat} {c : UInt8} {l : List UInt8} (h : At s i (c :: l)) : i < s.size := by
  have := congrArg List.length h
  rw [List.length_drop, List.length_cons] at this
  have e : s.data.toList.length = s.size := rfl
  omega
theorem At.head {s : ByteArray} {i : Nat} {c : UInt8} {l : List UInt8} (h : At s i (c :: l)) : s[i]'h.lt = c := by
  have h1 := drop_at s i h.lt
  unfold At at h
  rw [h] at h1
  injection h1 with h1 _
  exact h1.symm
theorem At.tail {s : ByteArray} {i : Nat} {c : UInt8} {l : List UInt8} (h : At s i (c :: l)) : At s (i + 1) l := by
  have h1 := drop_at s i h.lt
  unfold At at h
  rw [h] at h1
  injection h1 with _ h1
  exact h1.symm
theorem At.skip {s : ByteArray} : ∀ {p : List UInt8} {i : Nat} {l : List UInt8}, At s i (p ++ l) → At s (i + p.length) l
  | [], i, l, h => by simpa using h
  | c :: p, i, l, h => by
    have := At.skip (p := p) (At.tail (c := c) h)
    rwa [show i + 1 + p.length = i + (c :: p).length from by simp; omega] at this
theorem At.done {s : ByteArray} {i : Nat} (h : At s i []) : s.size ≤ i := by
  have := congrArg List.length h
  rw [List.length_drop, List.length_nil] at this
  have e : s.data.toList.length = s.size := rfl
  omega
theorem At.cls {s : ByteArray} {i : Nat} {c : UInt8} {l : List UInt8} (h : At s i (c :: l)) : cls s i = clsB c.toNat := by rw [cls_at s i h.lt, h.head]

/-- a word ends where a byte stands that is no letter, or the text's end -/
def Ends (l : List UInt8) : Prop := ∀ c r, l = c :: r → letterU c = false

theorem past_at {s : ByteArray} : ∀ {p : List UInt8} {i : Nat} {l : List UInt8}, At s i (p ++ l) → p.all letterU = true → Ends l → past letterU s i = i + p.length
  | [], i, l, h, _, he => by
    cases l with
    | nil => rw [past_end _ _ _ h.done]; rfl
    | cons c r => rw [past_stop _ _ _ (At.lt (c := c) h) (by rw [At.head (c := c) h]; exact he c r rfl)]; rfl
  | c :: p, i, l, h, ha, he => by
    simp only [List.all_cons, Bool.and_eq_true] at ha
    have h' : At s i (c :: (p ++ l)) := h
    rw [past_step _ _ _ h'.lt (by rw [h'.head]; exact ha.1), past_at h'.tail ha.2 he]
    simp
    omega

theorem extract_at {s : ByteArray} {i : Nat} {wd : ByteArray} {l : List UInt8} (h : At s i (wd.data.toList ++ l)) : s.extract i (i + wd.size) = wd := by
  apply Go.WideShapes.bytes_inj
  rw [Lib.extract_data]
  unfold At at h
  rw [h, Nat.add_sub_cancel_left]
  have : wd.size = wd.data.toList.length := rfl
  rw [this, List.take_left]

/-- a forest without a fault within d lists -/
def Good (f : Fo) (d : Int) : Prop := ∀ a : Int, (flt f d a).1 = 0

theorem flt_shift : ∀ (f : Fo) (d a b : Int), (flt f d a).1 = 0 → (flt f d b).1 = 0
  | .nil, _, _, _, _ => rfl
  | .cons wd ls ks nx, d, a, b, h => by
    simp only [flt] at h ⊢
    by_cases h1 : formBad wd ls ks = true
    · rw [if_pos h1] at h; simp at h
    rw [if_neg h1] at h ⊢
    by_cases h2 : (!ls && !wordB wd) = true
    · rw [if_pos h2] at h; simp at h
    rw [if_neg h2] at h ⊢
    by_cases h3 : 40 < d
    · rw [if_pos h3] at h; simp at h
    rw [if_neg h3] at h ⊢
    by_cases h4 : (flt ks (d + 1) (a + 1)).1 = 0
    · rw [if_pos h4] at h
      have g1 := flt_shift ks _ _ (b + 1) h4
      rw [if_pos g1]
      exact flt_shift nx _ _ _ h
    · rw [if_neg h4] at h; exact absurd h h4
theorem Good.of {f : Fo} {d a : Int} (h : (flt f d a).1 = 0) : Good f d := fun b => flt_shift f d a b h

theorem Good.cons {wd : ByteArray} {ls : Bool} {ks nx : Fo} {d : Int} (h : Good (.cons wd ls ks nx) d) :
    ¬ 40 < d ∧ Good nx d ∧ Good ks (d + 1) ∧ (ls = true → wd = ByteArray.empty) ∧ (ls = false → ks = .nil ∧ wordB wd = true) := by
  have h0 := h 0
  simp only [flt] at h0
  by_cases h1 : formBad wd ls ks = true
  · rw [if_pos h1] at h0; simp at h0
  rw [if_neg h1] at h0
  by_cases h2 : (!ls && !wordB wd) = true
  · rw [if_pos h2] at h0; simp at h0
  rw [if_neg h2] at h0
  by_cases h3 : 40 < d
  · rw [if_pos h3] at h0; simp at h0
  rw [if_neg h3] at h0
  by_cases h4 : (flt ks (d + 1) (0 + 1)).1 = 0
  · rw [if_pos h4] at h0
    refine ⟨h3, Good.of h0, Good.of h4, fun hl => ?_, fun hl => ⟨?_, ?_⟩⟩
    · subst hl
      simp only [formBad_true, decide_eq_true_eq] at h1
      have : wd.size = 0 := by omega
      exact ByteArray.size_eq_zero_iff.1 this
    · subst hl
      simp only [formBad_false, decide_eq_true_eq] at h1
      cases ks with
      | nil => rfl
      | cons a b c e => simp [Fo.len] at h1
    · subst hl
      simpa using h2
  · rw [if_neg h4] at h0; exact absurd h0 h4
theorem Good.mk {wd : ByteArray} {ls : Bool} {ks nx : Fo} {d : Int} (hd : ¬ 40 < d) (hn : Good nx d) (hk : Good ks (d + 1)) (h1 : ls = true → wd = ByteArray.empty) (h2 : ls = false → ks = .nil ∧ wordB wd = true) : Good (.cons wd ls ks nx) d := by
  intro a
  simp only [flt]
  have e1 : ¬ formBad wd ls ks = true := by
    cases ls with
    | true => rw [h1 rfl, formBad_true]; decide
    | false => rw [(h2 rfl).1, formBad_false]; decide
  have e2 : ¬ (!ls && !wordB wd) = true := by
    cases ls with
    | true => simp
    | false => rw [(h2 rfl).2]; simp
  rw [if_neg e1, if_neg e2, if_neg hd, if_pos (hk _)]
  exact hn _

theorem word_all {wd : ByteArray} (h : wordB wd = true) : wd.data.toList.all letterU = true ∧ 1 ≤ wd.size ∧ wd.size ≤ 24 := by
  simp only [wordB, Bool.and_eq_true, decide_eq_true_eq] at h
  exact ⟨h.2, h.1.1, h.1.2⟩

theorem word_cls {wd : ByteArray} (h : wordB wd = true) {s : ByteArray} {i : Nat} {l : List UInt8} (ha : At s i (wd.data.toList ++ l)) : cls s i = 5 := by
  obtain ⟨h1, h2, h3⟩ := word_all h
  cases hw : wd.data.toList with
  | nil => have : wd.size = 0 := by show wd.data.toList.length = 0; rw [hw]; rfl
           omega
  | cons c r =>
    rw [hw] at ha h1
    have ha' : At s i (c :: (r ++ l)) := ha
    rw [ha'.cls]
    simp only [List.all_cons, Bool.and_eq_true] at h1
    have hl : letterB (c.toNat : Int) = true := h1.1
    rcases clsB_cases c.toNat with ⟨_, k⟩ | ⟨_, k⟩ | ⟨_, k⟩ | ⟨_, k⟩ | ⟨k, _⟩ | ⟨_, k, _⟩
    · simp [letterB] at hl; omega
    · simp [letterB] at hl; omega
    · simp [letterB] at hl; omega
    · simp [letterB] at hl; omega
    · exact k
    · rw [k] at hl; cases hl

theorem ends_byte {c : UInt8} {r : List UInt8} (h : letterU c = false) : Ends (c :: r) := fun c' r' e => by injection e with e _; rw [← e]; exact h
theorem ends_rst (f : Fo) (r : List UInt8) : Ends (rst true f ++ 41 :: r) := by
  cases f with
  | nil => exact ends_byte (by decide)
  | cons wd ls ks nx => rw [rst_cons]; exact ends_byte (by decide)

/-- kids within a list: their text, up to the closing bracket, is read as they are -/
theorem prs_rst {s : ByteArray} : ∀ (f : Fo) (b : Bool) (d : Int) (i : Nat) (r : List UInt8), Good f d → 0 < d → At s i (rst b f ++ 41 :: r) → Prs s i d f (i + (rst b f).length) 0 0
  | .nil, b, d, i, r, _, hd, h => by
    have h' : At s i (41 :: r) := h
    exact .shut (by rw [h'.cls]; decide) (by omega)
  | .cons wd ls ks nx, b, d, i, r, hg, hd, h => by
    obtain ⟨g1, g2, g3, g4, g5⟩ := hg.cons
    rw [rst_cons] at h ⊢
    have hsep : ∀ (j : Nat), (∀ i', At s i' (one wd ls ks ++ (rst true nx ++ 41 :: r)) → Prs s i' d (.cons wd ls ks nx) (i' + (one wd ls ks ++ rst true nx).length) 0 0) → Prs s i d (.cons wd ls ks nx) (i + ((if b then [32] else []) ++ one wd ls ks ++ rst true nx).length) 0 0 := by
      intro _ hrest
      cases b with
      | false =>
        have := hrest i (by simpa using h)
        simpa using this
      | true =>
        have h' : At s i (32 :: (one wd ls ks ++ (rst true nx ++ 41 :: r))) := by simpa using h
        have := hrest (i + 1) h'.tail
        refine .blank (by rw [h'.cls]; decide) ?_
        have e : i + ((if true = true then [32] else []) ++ one wd ls ks ++ rst true nx).length = i + 1 + (one wd ls ks ++ rst true nx).length := by simp; omega
        rw [e]; exact this
    refine hsep 0 fun i' h' => ?_
    cases ls with
    | true =>
      obtain rfl := g4 rfl
      have e1 : one ByteArray.empty true ks = 40 :: (rst false ks ++ [41]) := rfl
      rw [e1] at h' ⊢
      have h1 : At s i' (40 :: (rst false ks ++ 41 :: (rst true nx ++ 41 :: r))) := by simpa using h'
      have hk := prs_rst ks false (d + 1) (i' + 1) _ g3 (by omega) h1.tail
      have h2 : At s (i' + 1 + (rst false ks).length + 1) (rst true nx ++ 41 :: r) := At.tail (c := 41) (At.skip h1.tail)
      have hn := prs_rst nx true d _ _ g2 hd h2
      have := Prs.list (by rw [h1.cls]; decide) g1 hk hn
      rw [if_pos rfl] at this
      have e : i' + (40 :: (rst false ks ++ [41]) ++ rst true nx).length = i' + 1 + (rst false ks).length + 1 + (rst true nx).length := by simp; omega
      rw [e]; exact this
    | false =>
      obtain ⟨rfl, hw⟩ := g5 rfl
      have e1 : one wd false .nil = wd.data.toList := rfl
      rw [e1] at h' ⊢
      obtain ⟨w1, w2, w3⟩ := word_all hw
      have hp := past_at h' w1 (ends_rst nx r)
      rw [size_data] at hp
      have h2 : At s (i' + wd.size) (rst true nx ++ 41 :: r) := At.skip h'
      have hn := prs_rst nx true d _ _ g2 hd h2
      have := Prs.word (s := s) (i := i') (d := d) (word_cls hw h') (by rw [hp]; omega) g1 (by rw [hp]; exact hn)
      rw [if_pos rfl, hp, extract_at h'] at this
      have e : i' + (wd.data.toList ++ rst true nx).length = i' + wd.size + (rst true nx).length := by rw [List.length_append, size_data]; omega
      rw [e]; exact this

/-- the lines of a forest are read as the forest -/
theorem prs_lns {s : ByteArray} : ∀ (f : Fo) (i : Nat), Good f 0 → At s i (lns f) → ∃ e, Prs s i 0 f e 0 0
  | .nil, i, _, h => by
    have hi : s.size ≤ i := h.done
    exact ⟨i, .stopTop (cls_end s i (by omega)) rfl⟩
  | .cons wd ls ks nx, i, hg, h => by
    obtain ⟨g1, g2, g3, g4, g5⟩ := hg.cons
    cases ls with
    | true =>
      obtain rfl := g4 rfl
      have h1 : At s i (40 :: (rst false ks ++ 41 :: (10 :: lns nx))) := by
        have : lns (.cons ByteArray.empty true ks nx) = 40 :: (rst false ks ++ 41 :: (10 :: lns nx)) := by simp [lns, one]
        rwa [this] at h
      have hk := prs_rst ks false (0 + 1) (i + 1) _ g3 (by omega) h1.tail
      have h2 : At s (i + 1 + (rst false ks).length + 1) (10 :: lns nx) := At.tail (c := 41) (At.skip h1.tail)
      obtain ⟨e, hn⟩ := prs_lns nx _ g2 h2.tail
      have := Prs.list (by rw [h1.cls]; decide) g1 hk (.blank (by rw [h2.cls]; decide) hn)
      rw [if_pos rfl] at this
      exact ⟨e, this⟩
    | false =>
      obtain ⟨rfl, hw⟩ := g5 rfl
      have h1 : At s i (wd.data.toList ++ (10 :: lns nx)) := h
      obtain ⟨w1, w2, w3⟩ := word_all hw
      have hp := past_at h1 w1 (ends_byte (by decide))
      rw [size_data] at hp
      have h2 : At s (i + wd.size) (10 :: lns nx) := At.skip h1
      obtain ⟨e, hn⟩ := prs_lns nx _ g2 h2.tail
      have := Prs.word (s := s) (i := i) (d := 0) (word_cls hw h1) (by rw [hp]; omega) g1 (by rw [hp]; exact .blank (by rw [h2.cls]; decide) hn)
      rw [if_pos rfl, hp, extract_at h1] at this
      exact ⟨e, this⟩

theorem past_letters (s : ByteArray) (i : Nat) : (s.extract i (past letterU s i)).data.toList = (s.data.toList.drop i).takeWhile letterU := by
  rw [Lib.extract_data]
  unfold past
  rw [Nat.add_sub_cancel_left]
  have h := List.takeWhile_prefix letterU (l := s.data.toList.drop i)
  exact (List.prefix_iff_eq_take.1 h).symm

/-- what is read has no fault -/
theorem Prs.good {s : ByteArray} {i : Nat} {d : Int} {f : Fo} {e : Nat} {c a : Int} (h : Prs s i d f e c a) : c = 0 → Good f d := by
  have hnil : ∀ d, Good .nil d := fun d a => rfl
  induction h with
  | blank h n ih => exact ih
  | note h n ih => exact ih
  | list h hd hk n ih1 ih2 =>
    intro hc
    rw [if_pos hc]
    exact Good.mk hd (ih2 hc) (ih1 rfl) (fun _ => rfl) (fun h => by cases h)
  | @word i d f e c a h hl hd n ih =>
    intro hc
    rw [if_pos hc]
    refine Good.mk hd (ih hc) (hnil _) (fun h => by cases h) (fun _ => ⟨rfl, ?_⟩)
    have hp := past_word h
    have hs : (s.extract i (past letterU s i)).size = past letterU s i - i := by rw [ByteArray.size_extract]; omega
    have ha : lettersB (s.extract i (past letterU s i)).data.toList = true := by
      rw [past_letters]; exact List.all_takeWhile
    simp only [wordB, hs, ha, Bool.and_true, Bool.and_eq_true, decide_eq_true_eq]
    omega
  | _ => intro _; exact hnil _

theorem chk_good {f : Fo} (h : Good f 0) (hc : f.cnt ≤ 4000) : chk f = (0, 0) := by
  unfold chk
  rw [if_neg (by omega), h 0, flt_zero f 0 0 (h 0)]
theorem txt_good {f : Fo} (h : Good f 0) (hc : f.cnt ≤ 4000) : txtR f = if 4000 < (lns f).length then ([], 10, 0) else (lns f, 0, 0) := by
  unfold txtR
  rw [chk_good h hc, if_pos rfl]
theorem txt_many {f : Fo} (hc : 4000 < f.cnt) : txtR f = ([], 2, 0) := by
  unfold txtR chk
  rw [if_pos hc, if_neg (by decide)]
theorem pres_lns {f : Fo} (h : Good f 0) (hc : f.cnt ≤ 4000) (hl : ¬ 4000 < (lns f).length) : PRes ⟨(lns f).toArray⟩ f 0 0 := by
  refine .inr ⟨?_, hc, prs_lns f 0 h rfl⟩
  show (lns f).toArray.size ≤ 4000
  simp
  omega
end Go.Proofs.Ytllgindmcjemeaa
