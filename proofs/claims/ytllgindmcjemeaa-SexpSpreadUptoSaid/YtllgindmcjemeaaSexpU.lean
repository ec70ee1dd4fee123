/- The plain law: further blanks and remarks between the tokens of a text do not change what is read. -/
import Derived.Test.YtllgindmcjemeaaSexpQ
namespace Go.Proofs.Ytllgindmcjemeaa
open Go.RowKit

/-- what may stand in place of a blank -/
def GapB (g : List UInt8) : Prop := g = [32, 32] ∨ g = [9, 13, 32] ∨ g = [10, 59, 41, 120, 10]
/-- what may stand behind a bracket -/
def GapP (g : List UInt8) : Prop := g = [] ∨ g = [10]
/-- what may stand ahead of the whole -/
def GapH (g : List UInt8) : Prop := g = [] ∨ g = [32] ∨ g = [59, 32, 40, 10]

/-- a text, spread -/
inductive Spr : List UInt8 → List UInt8 → Prop where
  | nil : Spr [] []
  | blank {c : UInt8} {l m g : List UInt8} (hc : c = 32 ∨ c = 10) (hg : GapB g) (h : Spr l m) : Spr (c :: l) (g ++ m)
  | brack {c : UInt8} {l m g : List UInt8} (hc : c = 40 ∨ c = 41) (hg : GapP g) (h : Spr l m) : Spr (c :: l) (32 :: c :: (g ++ m))
  | byte {c : UInt8} {l m : List UInt8} (h1 : ¬ (c = 32 ∨ c = 10)) (h2 : ¬ (c = 40 ∨ c = 41)) (h : Spr l m) : Spr (c :: l) (c :: m)

theorem Spr.inv_blank {c : UInt8} {l x : List UInt8} (h : Spr (c :: l) x) (hc : c = 32 ∨ c = 10) : ∃ g m, x = g ++ m ∧ GapB g ∧ Spr l m := by
  cases h with
  | blank _ hg h => exact ⟨_, _, rfl, hg, h⟩
  | brack hc' _ _ => exfalso; rcases hc with rfl | rfl <;> revert hc' <;> decide
  | byte h1 _ _ => exact absurd hc h1
theorem Spr.inv_brack {c : UInt8} {l x : List UInt8} (h : Spr (c :: l) x) (hc : c = 40 ∨ c = 41) : ∃ g m, x = 32 :: c :: (g ++ m) ∧ GapP g ∧ Spr l m := by
  cases h with
  | blank hc' _ _ => exfalso; rcases hc with rfl | rfl <;> revert hc' <;> decide
  | brack _ hg h => exact ⟨_, _, rfl, hg, h⟩
  | byte _ h2 _ => exact absurd hc h2
theorem Spr.inv_word : ∀ {p l x : List UInt8}, Spr (p ++ l) x → p.all letterU = true → ∃ m, x = p ++ m ∧ Spr l m
  | [], _, x, h, _ => ⟨x, rfl, h⟩
  | c :: p, l, x, h, ha => by
    simp only [List.all_cons, Bool.and_eq_true] at ha
    have h' : Spr (c :: (p ++ l)) x := h
    cases h' with
    | blank hc _ _ => exfalso; rcases hc with rfl | rfl <;> exact absurd ha.1 (by decide)
    | brack hc _ _ => exfalso; rcases hc with rfl | rfl <;> exact absurd ha.1 (by decide)
    | byte _ _ k =>
      obtain ⟨m, rfl, hm⟩ := Spr.inv_word (p := p) (l := l) k ha.2
      exact ⟨m, rfl, hm⟩
theorem Spr.inv_nil {x : List UInt8} (h : Spr [] x) : x = [] := by cases h; rfl

/-- reading from j on is reading from i on -/
def Skips (s : ByteArray) (i j : Nat) : Prop := ∀ (d : Int) (f : Fo) (e : Nat) (c a : Int), Prs s j d f e c a → Prs s i d f e c a
theorem Skips.refl (s : ByteArray) (i : Nat) : Skips s i i := fun _ _ _ _ _ h => h
theorem Skips.trans {s : ByteArray} {i j k : Nat} (h : Skips s i j) (h' : Skips s j k) : Skips s i k := fun d f e c a hp => h d f e c a (h' d f e c a hp)
theorem Skips.one {s : ByteArray} {i : Nat} {c : UInt8} {l : List UInt8} (h : At s i (c :: l)) (hc : clsB c.toNat = 1) : Skips s i (i + 1) := fun _ _ _ _ _ hp => .blank (by rw [h.cls]; exact hc) hp

theorem past_nl {s : ByteArray} : ∀ {p : List UInt8} {i : Nat} {l : List UInt8}, At s i (p ++ 10 :: l) → p.all notNl = true → past notNl s i = i + p.length
  | [], i, l, h, _ => by
    rw [past_stop _ _ _ (At.lt (c := 10) h) (by rw [At.head (c := 10) h]; decide)]; rfl
  | c :: p, i, l, h, ha => by
    simp only [List.all_cons, Bool.and_eq_true] at ha
    have h' : At s i (c :: (p ++ 10 :: l)) := h
    rw [past_step _ _ _ h'.lt (by rw [h'.head]; exact ha.1), past_nl h'.tail ha.2]
    simp
    omega
theorem Skips.note {s : ByteArray} {i : Nat} {p l : List UInt8} (h : At s i (59 :: (p ++ 10 :: l))) (ha : p.all notNl = true) : Skips s i (i + 1 + p.length + 1) := fun d f e c a hp => by
  have h10 : At s (i + 1 + p.length) (10 :: l) := At.skip h.tail
  refine .note (by rw [h.cls]; decide) ?_
  have hpast : past notNl s i = i + 1 + p.length := by
    have := past_nl (p := 59 :: p) (i := i) (l := l) h (by simp only [List.all_cons, Bool.and_eq_true]; exact ⟨by decide, ha⟩)
    rw [this]; simp; omega
  rw [hpast]
  exact .blank (by rw [h10.cls]; decide) hp

theorem skips_gapB {s : ByteArray} {i : Nat} {g l : List UInt8} (hg : GapB g) (h : At s i (g ++ l)) : Skips s i (i + g.length) := by
  rcases hg with rfl | rfl | rfl
  · have h0 : At s i (32 :: 32 :: l) := h
    exact (Skips.one h0 (by decide)).trans (Skips.one h0.tail (by decide))
  · have h0 : At s i (9 :: 13 :: 32 :: l) := h
    exact ((Skips.one h0 (by decide)).trans (Skips.one h0.tail (by decide))).trans (Skips.one h0.tail.tail (by decide))
  · have h0 : At s i (10 :: 59 :: ([41, 120] ++ 10 :: l)) := h
    exact (Skips.one h0 (by decide)).trans (Skips.note h0.tail (by decide))
theorem skips_gapP {s : ByteArray} {i : Nat} {g l : List UInt8} (hg : GapP g) (h : At s i (g ++ l)) : Skips s i (i + g.length) := by
  rcases hg with rfl | rfl
  · exact Skips.refl _ _
  · exact Skips.one (c := 10) h (by decide)
theorem skips_gapH {s : ByteArray} {i : Nat} {g l : List UInt8} (hg : GapH g) (h : At s i (g ++ l)) : Skips s i (i + g.length) := by
  rcases hg with rfl | rfl | rfl
  · exact Skips.refl _ _
  · exact Skips.one (c := 32) h (by decide)
  · have h0 : At s i (59 :: ([32, 40] ++ 10 :: l)) := h
    exact Skips.note h0 (by decide)

theorem ends_gapB {g m : List UInt8} (hg : GapB g) : Ends (g ++ m) := by
  rcases hg with rfl | rfl | rfl <;> exact ends_byte (by decide)
theorem ends_spr_rst {f : Fo} {r x : List UInt8} (h : Spr (rst true f ++ 41 :: r) x) : Ends x := by
  cases f with
  | nil =>
    obtain ⟨g, m, rfl, _, _⟩ := Spr.inv_brack (c := 41) (show Spr (41 :: r) x from h) (by decide)
    exact ends_byte (by decide)
  | cons wd ls ks nx =>
    rw [rst_cons] at h
    obtain ⟨g, m, rfl, hg, _⟩ := Spr.inv_blank (c := 32) (show Spr (32 :: (one wd ls ks ++ rst true nx ++ 41 :: r)) x from by simpa using h) (by decide)
    exact ends_gapB hg

/-- kids within a list, spread -/
theorem prs_spr {s : ByteArray} : ∀ (f : Fo) (b : Bool) (d : Int) (i : Nat) (r x : List UInt8), Good f d → 0 < d → At s i x → Spr (rst b f ++ 41 :: r) x →
    ∃ (e : Nat) (g m : List UInt8), Prs s i d f e 0 0 ∧ At s e (41 :: (g ++ m)) ∧ GapP g ∧ Spr r m
  | .nil, b, d, i, r, x, _, hd, h, hs => by
    obtain ⟨g, m, rfl, hg, hm⟩ := Spr.inv_brack (c := 41) (show Spr (41 :: r) x from hs) (by decide)
    exact ⟨i + 1, g, m, (Skips.one h (by decide)) _ _ _ _ _ (.shut (by rw [h.tail.cls]; decide) (by omega)), h.tail, hg, hm⟩
  | .cons wd ls ks nx, b, d, i, r, x, hgd, hd, h, hs => by
    obtain ⟨g1, g2, g3, g4, g5⟩ := hgd.cons
    rw [rst_cons] at hs
    obtain ⟨i', x', hsk, h', hs'⟩ : ∃ (i' : Nat) (x' : List UInt8), Skips s i i' ∧ At s i' x' ∧ Spr (one wd ls ks ++ (rst true nx ++ 41 :: r)) x' := by
      cases b with
      | false => exact ⟨i, x, Skips.refl _ _, h, by simpa using hs⟩
      | true =>
        obtain ⟨g, m, rfl, hg, hm⟩ := Spr.inv_blank (c := 32) (show Spr (32 :: (one wd ls ks ++ (rst true nx ++ 41 :: r))) x from by simpa using hs) (by decide)
        exact ⟨i + g.length, m, skips_gapB hg h, At.skip h, hm⟩
    cases ls with
    | true =>
      obtain rfl := g4 rfl
      have hs1 : Spr (40 :: (rst false ks ++ 41 :: (rst true nx ++ 41 :: r))) x' := by
        have e1 : one ByteArray.empty true ks = 40 :: (rst false ks ++ [41]) := rfl
        rw [e1] at hs'
        simpa using hs'
      obtain ⟨g, m, rfl, hg, hm⟩ := Spr.inv_brack hs1 (by decide)
      obtain ⟨e1, gk, mk, hk, hat, hgk, hmk⟩ := prs_spr ks false (d + 1) (i' + 1 + 1 + g.length) _ m g3 (by omega) (At.skip h'.tail.tail) hm
      have hk' := (skips_gapP hg h'.tail.tail) _ _ _ _ _ hk
      obtain ⟨e2, gn, mn, hn, hat2, hgn, hmn⟩ := prs_spr nx true d (e1 + 1 + gk.length) _ mk g2 hd (At.skip hat.tail) hmk
      have hn' := (skips_gapP hgk hat.tail) _ _ _ _ _ hn
      have := Prs.list (by rw [h'.tail.cls]; decide) g1 hk' hn'
      rw [if_pos rfl] at this
      exact ⟨e2, gn, mn, hsk _ _ _ _ _ ((Skips.one h' (by decide)) _ _ _ _ _ this), hat2, hgn, hmn⟩
    | false =>
      obtain ⟨rfl, hw⟩ := g5 rfl
      have hs1 : Spr (wd.data.toList ++ (rst true nx ++ 41 :: r)) x' := hs'
      obtain ⟨w1, w2, w3⟩ := word_all hw
      obtain ⟨m, rfl, hm⟩ := Spr.inv_word hs1 w1
      have hp := past_at h' w1 (ends_spr_rst hm)
      rw [size_data] at hp
      have h2 : At s (i' + wd.size) m := At.skip h'
      obtain ⟨e2, gn, mn, hn, hat2, hgn, hmn⟩ := prs_spr nx true d _ _ m g2 hd h2 hm
      have := Prs.word (s := s) (i := i') (d := d) (word_cls hw h') (by rw [hp]; omega) g1 (by rw [hp]; exact hn)
      rw [if_pos rfl, hp, extract_at h'] at this
      exact ⟨e2, gn, mn, hsk _ _ _ _ _ this, hat2, hgn, hmn⟩

/-- the lines of a forest, spread -/
theorem prs_spr_lns {s : ByteArray} : ∀ (f : Fo) (i : Nat) (x : List UInt8), Good f 0 → At s i x → Spr (lns f) x → ∃ e, Prs s i 0 f e 0 0
  | .nil, i, x, _, h, hs => by
    obtain rfl := Spr.inv_nil hs
    have hi : s.size ≤ i := h.done
    exact ⟨i, .stopTop (cls_end s i (by omega)) rfl⟩
  | .cons wd ls ks nx, i, x, hgd, h, hs => by
    obtain ⟨g1, g2, g3, g4, g5⟩ := hgd.cons
    cases ls with
    | true =>
      obtain rfl := g4 rfl
      have hs1 : Spr (40 :: (rst false ks ++ 41 :: (10 :: lns nx))) x := by
        have : lns (.cons ByteArray.empty true ks nx) = 40 :: (rst false ks ++ 41 :: (10 :: lns nx)) := by simp [lns, one]
        rwa [this] at hs
      obtain ⟨g, m, rfl, hg, hm⟩ := Spr.inv_brack hs1 (by decide)
      obtain ⟨e1, gk, mk, hk, hat, hgk, hmk⟩ := prs_spr ks false (0 + 1) (i + 1 + 1 + g.length) _ m g3 (by omega) (At.skip h.tail.tail) hm
      have hk' := (skips_gapP hg h.tail.tail) _ _ _ _ _ hk
      obtain ⟨gb, mb, rfl, hgb, hmb⟩ := Spr.inv_blank hmk (by decide)
      have hat2 : At s (e1 + 1 + gk.length) (gb ++ mb) := At.skip hat.tail
      obtain ⟨e, hn⟩ := prs_spr_lns nx (e1 + 1 + gk.length + gb.length) mb g2 (At.skip hat2) hmb
      have hn' := (skips_gapP hgk hat.tail) _ _ _ _ _ ((skips_gapB hgb hat2) _ _ _ _ _ hn)
      have := Prs.list (by rw [h.tail.cls]; decide) g1 hk' hn'
      rw [if_pos rfl] at this
      exact ⟨e, (Skips.one h (by decide)) _ _ _ _ _ this⟩
    | false =>
      obtain ⟨rfl, hw⟩ := g5 rfl
      have hs1 : Spr (wd.data.toList ++ (10 :: lns nx)) x := hs
      obtain ⟨w1, w2, w3⟩ := word_all hw
      obtain ⟨m, rfl, hm⟩ := Spr.inv_word hs1 w1
      obtain ⟨gb, mb, rfl, hgb, hmb⟩ := Spr.inv_blank hm (by decide)
      have hp := past_at h w1 (ends_gapB hgb)
      rw [size_data] at hp
      have h2 : At s (i + wd.size) (gb ++ mb) := At.skip h
      obtain ⟨e, hn⟩ := prs_spr_lns nx _ mb g2 (At.skip h2) hmb
      have := Prs.word (s := s) (i := i) (d := 0) (word_cls hw h) (by rw [hp]; omega) g1 (by rw [hp]; exact (skips_gapB hgb h2) _ _ _ _ _ hn)
      rw [if_pos rfl, hp, extract_at h] at this
      exact ⟨e, this⟩

/-- the whole: something ahead, then the text, spread -/
def Wide (l x : List UInt8) : Prop := ∃ g m, x = g ++ m ∧ GapH g ∧ Spr l m

theorem pres_wide {f : Fo} {s : ByteArray} (h : Good f 0) (hc : f.cnt ≤ 4000) (hw : Wide (lns f) s.data.toList) (hs : s.size ≤ 4000) : PRes s f 0 0 := by
  obtain ⟨g, m, he, hg, hm⟩ := hw
  have h0 : At s 0 (g ++ m) := by unfold At; rw [List.drop_zero]; exact he
  obtain ⟨e, hp⟩ := prs_spr_lns f (0 + g.length) m h (At.skip h0) hm
  exact .inr ⟨hs, hc, e, (skips_gapH hg h0) _ _ _ _ _ hp⟩

/-- what is still to come, behind what is written -/
def WideTo (l x r : List UInt8) : Prop := ∀ m, Spr r m → Wide l (x ++ m)
theorem WideTo.start {l g : List UInt8} (hg : GapH g) : WideTo l g l := fun m hm => ⟨g, m, rfl, hg, hm⟩
theorem WideTo.blank {l x r : List UInt8} {c : UInt8} (h : WideTo l x (c :: r)) (hc : c = 32 ∨ c = 10) {g : List UInt8} (hg : GapB g) : WideTo l (x ++ g) r := fun m hm => by
  rw [List.append_assoc]; exact h _ (.blank hc hg hm)
theorem WideTo.brack {l x r : List UInt8} {c : UInt8} (h : WideTo l x (c :: r)) (hc : c = 40 ∨ c = 41) {g : List UInt8} (hg : GapP g) : WideTo l (x ++ (32 :: c :: g)) r := fun m hm => by
  rw [List.append_assoc]; exact h _ (.brack hc hg hm)
theorem WideTo.byte {l x r : List UInt8} {c : UInt8} (h : WideTo l x (c :: r)) (h1 : ¬ (c = 32 ∨ c = 10)) (h2 : ¬ (c = 40 ∨ c = 41)) : WideTo l (x ++ [c]) r := fun m hm => by
  rw [List.append_assoc]; exact h _ (.byte h1 h2 hm)
theorem WideTo.done {l x : List UInt8} (h : WideTo l x []) : Wide l x := by
  have := h [] .nil
  rwa [List.append_nil] at this
end Go.Proofs.Ytllgindmcjemeaa
