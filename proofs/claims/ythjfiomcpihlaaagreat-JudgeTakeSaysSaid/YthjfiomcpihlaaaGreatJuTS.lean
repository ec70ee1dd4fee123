/- Walk: judge.Take; the state as the laws ask for it. · A block that is known whole, as a list of things. No program is named here. · Walk: umpiragelaw2.judgeSure; steps told by their cells. -/
import Derived.Test.YthjfiomcpihlaaaGreatEEWh
import Derived.Test.YthjfiomcpihlaaaGreatOuOC
namespace Go.Proofs.YthjfiomcpihlaaaGreat
open Go.RowKit

theorem whyJ_faulty {F : FormD} {l : List StepD} (h : ¬ (whyJ F l).2.1 = 0) : (whyJ F l).1 = 0 := by
  unfold whyJ at h ⊢
  split
  · rfl
  · split
    · rfl
    · rename_i h1 h2
      rw [if_neg h1, if_neg h2] at h
      exact absurd rfl h
theorem whyJ_fine {F : FormD} {l : List StepD} (h : (whyJ F l).2.1 = 0) : (whyJ F l).2.2 = 0 ∧ (formF F).1 = 0 ∧ l.length ≤ 3000 ∧ (whyJ F l).1 = runJ F.terms F.ints ⟨F.atoms, F.clauses⟩ l 0 := by
  unfold whyJ at h ⊢
  split
  · rename_i h1
    rw [if_pos h1] at h
    exact absurd h h1
  · rename_i h1
    rw [if_neg h1] at h
    split
    · rename_i h2
      rw [if_pos h2] at h
      cases h
    · rename_i h2
      exact ⟨rfl, by simpa using h1, by omega, rfl⟩

set_option maxRecDepth 100000 in
set_option maxHeartbeats 4000000 in
theorem take_any (A1 A2 A3 A4 : Option Addr) (n1 c1 n2 c2 n3 c3 n4 c4 : Nat) (F : FormD) (A : Option Addr) (n c : Nat) (l : List StepD) (q qc qa : Int) (w : World) (hF : FormB w w.heap.size A1 A2 A3 A4 n1 n2 n3 n4 F) (hc1 : n1 ≤ c1) (hc3 : n3 ≤ c3) (hc3m : c3 ≤ maxLen)
    (hl : ArrB AtStep 9 w w.heap.size A n l) (hR : whyJ F l = (q, qc, qa)) :
    Calls Tryz.prog 7 #[.agg #[.slice A1 n1 c1, .slice A2 n2 c2, .slice A3 n3 c3, .slice A4 n4 c4], .slice A n c] w fun e w' => e = .returned (.tuple #[.bool (decide (q = -1)), .agg #[.int .i64 qc, .int .i64 qa]]) ∧ Below w.heap.size w w' := by
  obtain ⟨hb0, hbk0, hbf0, hs0⟩ := two_boxes w 27 30 #[.slice A1 n1 c1, .slice A2 n2 c2, .slice A3 n3 c3, .slice A4 n4 c4] #[.int .i64 0, .int .i64 0]
  have HC := Lib.hid (fun W (hbW : Below w.heap.size w W) => why_any A1 A2 A3 A4 n1 c1 n2 c2 n3 c3 n4 c4 F A n c l q qc qa W (hF.below hbW hbW.size) hc1 hc3 hc3m (hl.below stays_step hbW hbW.size) hR)
  have hq0 : ¬ qc = 0 → q = 0 := fun h => by have := whyJ_faulty (F := F) (l := l) (by rw [hR]; exact h); rw [hR] at this; exact this
  have hq1 : qc = 0 → qa = 0 := fun h => by have := (whyJ_fine (F := F) (l := l) (by rw [hR]; exact h)).1; rw [hR] at this; exact this
  have HQ := Lib.hid (And.intro hq0 hq1)
  have HW := Lib.hid (And.intro hb0 (And.intro hbk0 (And.intro hbf0 hs0)))
  clear hR hF hl hb0 hbk0 hbf0 hs0 hq0 hq1 hc1 hc3 hc3m
  go_enter Tryz.func7, Tryz.ntmps7
  go_wp2_with fail
  refine (HC.out _ HW.out.1).mono ?_
  rintro e w1 ⟨rfl, hb1⟩
  have hz1 := hb1.size
  have hz0 := HW.out.2.2.2
  rw [hz0] at hz1
  have hbw1 : Below w.heap.size w w1 := HW.out.1.trans (hb1.mono (by rw [hz0]; omega))
  have k2 : Blk w1 (w.heap.size + 1) 30 #[.int .i64 0, .int .i64 0] := HW.out.2.2.1.below hb1 (by rw [hz0]; omega)
  have HB1 := Lib.hid (And.intro hbw1 k2)
  have f0 : w1.cell? ⟨w.heap.size + 1, 0, none⟩ = some (.int .i64 0) := k2.cell 0
  have f1 : w1.cell? ⟨w.heap.size + 1, 1, none⟩ = some (.int .i64 0) := k2.cell 1
  have f2 : w1.frozen? ⟨w.heap.size + 1, 0, none⟩ = false := k2.frozen 0
  have f3 : w1.frozen? ⟨w.heap.size + 1, 1, none⟩ = false := k2.frozen 1
  have z1 : w.heap.size + 1 < w1.heap.size := k2.lt
  have z0 : w.heap.size < w1.heap.size := by omega
  clear hb1 hbw1 k2 hz0 HC HW
  by_cases hqc : qc = 0
  · subst hqc
    obtain rfl := HQ.out.2 rfl
    go_wp2_with fail
    refine bodyPost_ret (v := .tuple #[.bool (decide (q = -1)), .agg #[.int .i64 0, .int .i64 0]]) (by simp [results, Tryz.results7, go_sem, f0, f1, z1]; rfl) rfl ⟨rfl, ?_⟩
    exact ((HB1.out.1.setCell (p := ⟨w.heap.size + 1, 0, none⟩) (by simp) _).setCell (p := ⟨w.heap.size + 1, 1, none⟩) (by simp) _).alloc (by simp; omega) _
  · obtain rfl := HQ.out.1 hqc
    have hq : (qc != 0) = true := by simpa using hqc
    clear hqc
    go_wp2_with fail
    go_region
    all_goals go_wp2_with fail
    all_goals refine bodyPost_ret (v := .tuple #[.bool (decide ((0 : Int) = -1)), .agg #[.int .i64 qc, .int .i64 qa]]) (by simp [results, Tryz.results7, go_sem, f0, f1, z1]) rfl ⟨rfl, ?_⟩
    all_goals exact below_drawn (((HB1.out.1.setCell (p := ⟨w.heap.size + 1, 0, none⟩) (by simp) _).setCell (p := ⟨w.heap.size + 1, 1, none⟩) (by simp) _).alloc (by simp; omega) _)
end Go.Proofs.YthjfiomcpihlaaaGreat
namespace Go.Proofs.YthjfiomcpihlaaaGreat
open Go.RowKit

section
variable {α : Type} {V : Val α} {E : Ent α} {sz : Nat} {w : World} {S : Nat → Prop} {g : Nat} {t : TypeId} {cs : Array Value} {xs : List α}
theorem row_of_blk (hV : Tells V sz) (hE : ∀ w S b o x, AtV V w S b o x → E w S b o x) (h : Blk w g t cs) (hc : Cels V w S xs cs.toList) (hg : S g) : Arr E sz w S (some ⟨g, 0, none⟩) xs.length xs :=
  ⟨rfl, fun i x hx => ⟨g, 0, rfl, hg, by
    have := Cels.at_ hV (w := w) (S := S) (g := g) (cells := cs.toList) (fun j u hu => by rw [h.cell]; simpa using hu) xs 0 cs.toList hc (fun j => by rw [Nat.zero_mul, Nat.zero_add]) i x hx
    rw [Nat.zero_add] at this
    rw [Nat.zero_add]
    exact hE _ _ _ _ _ this⟩⟩
theorem cels_of_ints : ∀ xs : List Int, (∀ x ∈ xs, I64 x) → Cels VInt w S xs (xs.map (Value.int .i64))
  | [], _ => rfl
  | x :: r, h => ⟨[.int .i64 x], _, rfl, ⟨rfl, h x (List.mem_cons_self ..)⟩, cels_of_ints r fun y hy => h y (List.mem_cons_of_mem _ hy)⟩
theorem row_ints {xs : List Int} (h : Blk w g t cs) (hc : cs.toList = xs.map (Value.int .i64)) (hi : ∀ x ∈ xs, I64 x) (hg : S g) : Arr AtInt 1 w S (some ⟨g, 0, none⟩) xs.length xs :=
  row_of_blk tells_int (fun _ _ _ _ _ h => atV_int.1 h) h (by rw [hc]; exact cels_of_ints xs hi) hg
/-- a row of one thing, of two -/
theorem row_one (hV : Tells V sz) (hE : ∀ w S b o x, AtV V w S b o x → E w S b o x) {x : α} (h : Blk w g t cs) (hc : V w S cs.toList x) (hg : S g) : Arr E sz w S (some ⟨g, 0, none⟩) 1 [x] :=
  row_of_blk hV hE h (Cels.single hc) hg
theorem row_two (hV : Tells V sz) (hE : ∀ w S b o x, AtV V w S b o x → E w S b o x) {x y : α} {c0 c1 : List Value} (h : Blk w g t cs) (hcs : cs.toList = c0 ++ c1) (h0 : V w S c0 x) (h1 : V w S c1 y) (hg : S g) : Arr E sz w S (some ⟨g, 0, none⟩) 2 [x, y] :=
  row_of_blk (xs := [x, y]) hV hE h (by rw [hcs]; exact ⟨c0, c1, rfl, h0, Cels.single h1⟩) hg
theorem varr_of {E' : Ent α} {sz' n c : Nat} {A : Option Addr} (h : Arr E' sz' w S A n xs) (hn : n ≤ c) (hc : c ≤ maxLen) : VArr E' sz' w S [.slice A n c] xs := ⟨A, n, c, rfl, hn, hc, h⟩
end
theorem i64_small {x : Int} (h : -1000000 ≤ x ∧ x ≤ 1000000) : I64 x := by unfold I64; omega
theorem atArr_of {α : Type} {E : Ent α} {sz : Nat} : ∀ (w : World) (S : Nat → Prop) (b o : Nat) (x : List α), AtV (VArr E sz) w S b o x → AtArr E sz w S b o x := fun _ _ _ _ _ h => atV_arr.1 h
/-- blocks made one behind the other -/
def lay : World → List (TypeId × Array Value) → World
  | W, [] => W
  | W, c :: r => lay (W.alloc (.cells c.2 c.1)) r
theorem lay_size : ∀ (l : List (TypeId × Array Value)) (W : World), (lay W l).heap.size = W.heap.size + l.length
  | [], _ => rfl
  | c :: r, W => by rw [lay, lay_size r]; simp; omega
theorem lay_below : ∀ (l : List (TypeId × Array Value)) (W : World), Below W.heap.size W (lay W l)
  | [], W => Below.refl _ _
  | c :: r, W => by
    have h1 : Below W.heap.size W (W.alloc (.cells c.2 c.1)) := (Below.refl _ _).alloc (Nat.le_refl _) _
    exact h1.trans ((lay_below r (W.alloc (.cells c.2 c.1))).mono h1.size)
theorem lay_blk : ∀ (l : List (TypeId × Array Value)) (W : World) (i : Nat) (t : TypeId) (c : Array Value), l[i]? = some (t, c) → Blk (lay W l) (W.heap.size + i) t c
  | [], _, i, _, _, h => by simp at h
  | x :: r, W, 0, t, c, h => by
    simp only [List.getElem?_cons_zero, Option.some.injEq] at h
    subst h
    have hk := Blk.new W t c
    exact hk.below (lay_below r _) hk.lt
  | x :: r, W, i + 1, t, c, h => by
    have := lay_blk r (W.alloc (.cells x.2 x.1)) i t c (by simpa using h)
    rw [World.size_alloc] at this
    rwa [show W.heap.size + (i + 1) = W.heap.size + 1 + i from by omega]
end Go.Proofs.YthjfiomcpihlaaaGreat
namespace Go.Proofs.YthjfiomcpihlaaaGreat
open Go.RowKit

def VStep : Val StepD := fun w S cs x => ∃ (L : Option Addr) (nl cl : Nat) (M : Option Addr) (nm cm : Nat) (O : Option Addr) (no co : Nat),
  cs = [.int .i64 x.kind, .slice L nl cl, .slice M nm cm, .int .i64 x.atom.kind, .int .i64 x.atom.a, .int .i64 x.atom.b, .slice O no co, .int .i64 x.atom.row.kind, .int .i64 x.atom.row.to_] ∧
  (I64 x.kind ∧ I64 x.atom.kind ∧ I64 x.atom.a ∧ I64 x.atom.b ∧ I64 x.atom.row.kind ∧ I64 x.atom.row.to_) ∧ (nl ≤ cl ∧ cl ≤ maxLen ∧ nm ≤ cm ∧ cm ≤ maxLen ∧ no ≤ co ∧ co ≤ maxLen) ∧
  Arr AtInt 1 w S L nl x.lits ∧ Arr AtFrac 2 w S M nm x.nums ∧ Arr AtInt 1 w S O no x.atom.row.of_
theorem tells_step : Tells VStep 9 := ⟨fun _ _ _ _ _ _ hS hk h => by
    obtain ⟨L, nl, cl, M, nm, cm, O, no, co, h0, h1, h2, h3, h4, h5⟩ := h
    exact ⟨L, nl, cl, M, nm, cm, O, no, co, h0, h1, h2, h3.keep stays_int hS hk, h4.keep stays_frac hS hk, h5.keep stays_int hS hk⟩,
  fun _ _ _ _ h => by obtain ⟨L, nl, cl, M, nm, cm, O, no, co, h0, _⟩ := h; rw [h0]; rfl,
  fun _ _ _ _ h u hu => by obtain ⟨L, nl, cl, M, nm, cm, O, no, co, h0, _⟩ := h; rw [h0] at hu; simp only [List.mem_cons, List.not_mem_nil, or_false] at hu; rcases hu with rfl | rfl | rfl | rfl | rfl | rfl | rfl | rfl | rfl <;> rfl⟩
theorem atV_step {w : World} {S : Nat → Prop} {b o : Nat} {x : StepD} (h : AtV VStep w S b o x) : AtStep w S b o x := by
  obtain ⟨cs, ⟨L, nl, cl, M, nm, cm, O, no, co, rfl, ⟨i1, i2, i3, i4, i5, i6⟩, ⟨b1, b2, b3, b4, b5, b6⟩, h3, h4, h5⟩, hc⟩ := h
  exact ⟨⟨hc 0 _ rfl, i1⟩, ⟨L, nl, cl, hc 1 _ rfl, b1, b2, h3⟩, ⟨M, nm, cm, hc 2 _ rfl, b3, b4, h4⟩, ⟨hc 3 _ rfl, i2⟩, ⟨hc 4 _ rfl, i3⟩, ⟨hc 5 _ rfl, i4⟩, ⟨O, no, co, hc 6 _ rfl, b5, b6, h5⟩, ⟨hc 7 _ rfl, i5⟩, hc 8 _ rfl, i6⟩
theorem i64_0 : I64 0 := by unfold I64; omega
theorem i64_1 : I64 1 := by unfold I64; omega
theorem vstep_plain {w : World} {S : Nat → Prop} {k : Int} {L : Option Addr} {nl cl : Nat} {M : Option Addr} {nm cm : Nat} {lits : List Int} {nums : List FracD} (hk : I64 k) (h1 : nl ≤ cl) (h2 : cl ≤ maxLen) (h3 : nm ≤ cm) (h4 : cm ≤ maxLen) (hl : Arr AtInt 1 w S L nl lits) (hm : Arr AtFrac 2 w S M nm nums) :
    VStep w S [.int .i64 k, .slice L nl cl, .slice M nm cm, .int .i64 0, .int .i64 0, .int .i64 0, .slice none 0 0, .int .i64 0, .int .i64 0] ⟨k, lits, nums, nilAtom⟩ :=
  ⟨L, nl, cl, M, nm, cm, none, 0, 0, rfl, ⟨hk, i64_0, i64_0, i64_0, i64_0, i64_0⟩, ⟨h1, h2, h3, h4, Nat.le_refl _, Nat.zero_le _⟩, hl, hm, Arr.nil_⟩
theorem vatom_plain {w : World} {S : Nat → Prop} {k a b : Int} (hk : I64 k) (ha : I64 a) (hb : I64 b) : VAtom w S [.int .i64 k, .int .i64 a, .int .i64 b, .slice none 0 0, .int .i64 0, .int .i64 0] ⟨k, a, b, ⟨[], 0, 0⟩⟩ :=
  ⟨none, 0, 0, rfl, ⟨hk, ha, hb, i64_0, i64_0⟩, Nat.le_refl _, Nat.zero_le _, Arr.nil_⟩

def sureForm : FormD := ⟨[], [], [⟨1, 0, 0, ⟨[], 0, 0⟩⟩], [[1], [-1]]⟩
theorem sure_yes : whyJ sureForm [⟨1, [], [], nilAtom⟩] = (-1, 0, 0) := by
  unfold whyJ
  rw [show formF sureForm = (0, 0) by decide, if_neg (by simp), if_neg (by simp)]
  congr 1
  have hc : Clash [[1], [-1]] (([] : List Int).map fun l => -l) := ⟨[-1], by simp, fun k hk => by
    rw [List.mem_singleton] at hk
    subst hk
    exact .unit (c := [1]) (by simp) (by simp) fun j hj hne => absurd (List.mem_singleton.1 hj) (by simpa using hne)⟩
  have hs : stepJ sureForm.terms sureForm.ints ⟨sureForm.atoms, sureForm.clauses⟩ ⟨1, [], [], nilAtom⟩ = some ⟨sureForm.atoms, [[1], [-1], []]⟩ :=
    stepJ_test (R := true) (by decide) (by simp) (by simp) (by rw [if_pos rfl]; exact @decide_eq_true _ (Classical.propDecidable _) hc)
  rw [runJ, hs]
  rfl
theorem sure_no : whyJ sureForm [] = (0, 0, 0) := by
  unfold whyJ
  rw [show formF sureForm = (0, 0) by decide, if_neg (by simp), if_neg (by simp)]
  rfl

/-- the form and the step of judgeSure in memory -/
theorem sure_laid (w X : World) (hX : lay w [(47, #[.int .i64 1, .int .i64 0, .int .i64 0, .slice none 0 0, .int .i64 0, .int .i64 0]), (3, #[.int .i64 1]), (3, #[.int .i64 (-1)]), (40, #[.slice (some ⟨w.heap.size + 1, 0, none⟩) 1 1, .slice (some ⟨w.heap.size + 1 + 1, 0, none⟩) 1 1]), (27, #[.slice none 0 0, .slice none 0 0, .slice (some ⟨w.heap.size, 0, none⟩) 1 1, .slice (some ⟨w.heap.size + 1 + 1 + 1, 0, none⟩) 2 2]), (49, #[.int .i64 1, .slice none 0 0, .slice none 0 0, .int .i64 0, .int .i64 0, .int .i64 0, .slice none 0 0, .int .i64 0, .int .i64 0])] = X) :
    Below w.heap.size w X ∧ X.heap.size = w.heap.size + 6 ∧ FormB X X.heap.size none none (some ⟨w.heap.size, 0, none⟩) (some ⟨w.heap.size + 3, 0, none⟩) 0 0 1 2 sureForm ∧ ArrB AtStep 9 X X.heap.size (some ⟨w.heap.size + 5, 0, none⟩) 1 [⟨1, [], [], nilAtom⟩] ∧
      Blk X (w.heap.size + 4) 27 #[.slice none 0 0, .slice none 0 0, .slice (some ⟨w.heap.size, 0, none⟩) 1 1, .slice (some ⟨w.heap.size + 3, 0, none⟩) 2 2] := by
  have hs := lay_size [(47, #[.int .i64 1, .int .i64 0, .int .i64 0, .slice none 0 0, .int .i64 0, .int .i64 0]), (3, #[.int .i64 1]), (3, #[.int .i64 (-1)]), (40, #[.slice (some ⟨w.heap.size + 1, 0, none⟩) 1 1, .slice (some ⟨w.heap.size + 1 + 1, 0, none⟩) 1 1]), (27, #[.slice none 0 0, .slice none 0 0, .slice (some ⟨w.heap.size, 0, none⟩) 1 1, .slice (some ⟨w.heap.size + 1 + 1 + 1, 0, none⟩) 2 2]), (49, #[.int .i64 1, .slice none 0 0, .slice none 0 0, .int .i64 0, .int .i64 0, .int .i64 0, .slice none 0 0, .int .i64 0, .int .i64 0])] w
  have hb := lay_below [(47, #[.int .i64 1, .int .i64 0, .int .i64 0, .slice none 0 0, .int .i64 0, .int .i64 0]), (3, #[.int .i64 1]), (3, #[.int .i64 (-1)]), (40, #[.slice (some ⟨w.heap.size + 1, 0, none⟩) 1 1, .slice (some ⟨w.heap.size + 1 + 1, 0, none⟩) 1 1]), (27, #[.slice none 0 0, .slice none 0 0, .slice (some ⟨w.heap.size, 0, none⟩) 1 1, .slice (some ⟨w.heap.size + 1 + 1 + 1, 0, none⟩) 2 2]), (49, #[.int .i64 1, .slice none 0 0, .slice none 0 0, .int .i64 0, .int .i64 0, .int .i64 0, .slice none 0 0, .int .i64 0, .int .i64 0])] w
  have hk := fun i t c h => lay_blk [(47, #[.int .i64 1, .int .i64 0, .int .i64 0, .slice none 0 0, .int .i64 0, .int .i64 0]), (3, #[.int .i64 1]), (3, #[.int .i64 (-1)]), (40, #[.slice (some ⟨w.heap.size + 1, 0, none⟩) 1 1, .slice (some ⟨w.heap.size + 1 + 1, 0, none⟩) 1 1]), (27, #[.slice none 0 0, .slice none 0 0, .slice (some ⟨w.heap.size, 0, none⟩) 1 1, .slice (some ⟨w.heap.size + 1 + 1 + 1, 0, none⟩) 2 2]), (49, #[.int .i64 1, .slice none 0 0, .slice none 0 0, .int .i64 0, .int .i64 0, .int .i64 0, .slice none 0 0, .int .i64 0, .int .i64 0])] w i t c h
  rw [hX] at hs hb hk
  simp only [List.length_cons, List.length_nil] at hs
  have b0 := hk 0 _ _ rfl
  have b1 := hk 1 _ _ rfl
  have b2 := hk 2 _ _ rfl
  have b3 := hk 3 _ _ rfl
  have b4 := hk 4 _ _ rfl
  have b5 := hk 5 _ _ rfl
  refine ⟨hb, hs, ⟨Arr.nil_, Arr.nil_, ?_, ?_, by decide, by decide, by decide, by decide⟩, ?_, b4⟩
  · exact row_one tells_atom (fun _ _ _ _ _ h => atV_atom h) b0 (vatom_plain i64_1 i64_0 i64_0) (by omega)
  · exact row_two (tells_arr stays_int) atArr_of b3 (c0 := [.slice (some ⟨w.heap.size + 1, 0, none⟩) 1 1]) (c1 := [.slice (some ⟨w.heap.size + 1 + 1, 0, none⟩) 1 1]) rfl
      (varr_of (row_ints (xs := [1]) b1 rfl (by intro x hx; rw [List.mem_singleton] at hx; subst hx; exact i64_1) (by show _ < _; omega)) (Nat.le_refl _) (by decide)) (varr_of (row_ints (xs := [-1]) b2 rfl (by intro x hx; rw [List.mem_singleton] at hx; subst hx; exact i64_small (by omega)) (by show _ < _; omega)) (Nat.le_refl _) (by decide)) (by omega)
  · exact row_one tells_step (fun _ _ _ _ _ h => atV_step h) b5 (vstep_plain i64_1 (Nat.le_refl _) (Nat.zero_le _) (Nat.le_refl _) (Nat.zero_le _) Arr.nil_ Arr.nil_) (by omega)

set_option maxRecDepth 100000 in
set_option maxHeartbeats 4000000 in
theorem judgeSure_any (w : World) : Calls Tryz.prog 8 #[] w fun e w' => e = .returned (.bool true) ∧ Below w.heap.size w w' := by
  obtain ⟨X, hX⟩ : ∃ X, ((((((w.alloc (.cells #[.int .i64 1, .int .i64 0, .int .i64 0, .slice none 0 0, .int .i64 0, .int .i64 0] 47)).alloc (.cells #[.int .i64 1] 3)).alloc (.cells #[.int .i64 (-1)] 3)).alloc (.cells #[.slice (some ⟨w.heap.size + 1, 0, none⟩) 1 1, .slice (some ⟨w.heap.size + 1 + 1, 0, none⟩) 1 1] 40)).alloc (.cells #[.slice none 0 0, .slice none 0 0, .slice (some ⟨w.heap.size, 0, none⟩) 1 1, .slice (some ⟨w.heap.size + 1 + 1 + 1, 0, none⟩) 2 2] 27)).alloc (.cells #[.int .i64 1, .slice none 0 0, .slice none 0 0, .int .i64 0, .int .i64 0, .int .i64 0, .slice none 0 0, .int .i64 0, .int .i64 0] 49)) = X := ⟨_, rfl⟩
  obtain ⟨hb, hs, hF, hst, hk⟩ := sure_laid w X hX
  have HT := Lib.hid (take_any none none (some ⟨w.heap.size, 0, none⟩) (some ⟨w.heap.size + 3, 0, none⟩) 0 0 0 0 1 1 2 2 sureForm (some ⟨w.heap.size + 5, 0, none⟩) 1 1 _ (-1) 0 0 X hF (Nat.le_refl _) (Nat.le_refl _) (by decide) hst sure_yes)
  have HX := Lib.hid hX
  have H := Lib.hid (And.intro hb (And.intro hs (And.intro hF hk)))
  clear hb hs hF hst hk hX
  go_enter Tryz.func8, Tryz.ntmps8
  go_wp2_with fail
  rw [HX.out]
  refine HT.out.mono ?_
  rintro e w1 ⟨rfl, hb1⟩
  have k1 := H.out.2.2.2.below hb1 (by have := H.out.2.1; omega)
  have hs := H.out.2.1
  have hz := hb1.size
  have g0 : w1.cell? ⟨w.heap.size + 1 + 1 + 1 + 1, 0, none⟩ = some (.slice none 0 0) := k1.cell 0
  have g1 : w1.cell? ⟨w.heap.size + 1 + 1 + 1 + 1, 1, none⟩ = some (.slice none 0 0) := k1.cell 1
  have g2 : w1.cell? ⟨w.heap.size + 1 + 1 + 1 + 1, 2, none⟩ = some (.slice (some ⟨w.heap.size, 0, none⟩) 1 1) := k1.cell 2
  have g3 : w1.cell? ⟨w.heap.size + 1 + 1 + 1 + 1, 3, none⟩ = some (.slice (some ⟨w.heap.size + 1 + 1 + 1, 0, none⟩) 2 2) := k1.cell 3
  have z4 : w.heap.size + 1 + 1 + 1 + 1 < w1.heap.size := k1.lt
  have HT2 := Lib.hid (fun (W : World) (hbW : Below X.heap.size X W) => take_any none none (some ⟨w.heap.size, 0, none⟩) (some ⟨w.heap.size + 3, 0, none⟩) 0 0 0 0 1 1 2 2 sureForm none 0 0 [] 0 0 0 W (H.out.2.2.1.below hbW hbW.size) (Nat.le_refl _) (Nat.le_refl _) (by decide) Arr.nil_ sure_no)
  have HB1 := Lib.hid hb1
  clear hb1 k1 hs hz
  go_wp2_with fail
  refine (HT2.out _ (HB1.out.alloc HB1.out.size _)).mono ?_
  rintro e w2 ⟨rfl, hb2⟩
  have k3 : Blk w2 w1.heap.size 30 #[.int .i64 0, .int .i64 0] := (Blk.new w1 30 #[.int .i64 0, .int .i64 0]).below hb2 (by simp)
  have d0 : w2.cell? ⟨w1.heap.size, 0, none⟩ = some (.int .i64 0) := k3.cell 0
  have z5 : w1.heap.size < w2.heap.size := k3.lt
  have hbw : Below w.heap.size w w2 := H.out.1.trans ((HB1.out.mono H.out.1.size).trans ((((Below.refl w1.heap.size w1).alloc (Nat.le_refl _) (.cells #[.int .i64 0, .int .i64 0] 30)).trans (hb2.mono (by simp))).mono (by have := HB1.out.size; have := H.out.1.size; omega)))
  have HB2 := Lib.hid hbw
  clear hb2 k3 hbw HT HT2 HX
  go_wp2_with fail
  go_ret
  exact ⟨rfl, HB2.out.alloc (by have := HB2.out.size; omega) _⟩
end Go.Proofs.YthjfiomcpihlaaaGreat
