/- Walk: judge.Take; the state as the laws ask for it. · A block that is known whole, as a list of things. No program is named here. -/
import Derived.Test.YtdncchlfeanlmaaJuWh
import Derived.Test.YtdncchlfeanlmaaOutP
import Derived.Test.YtdncchlfeanlmaaOwnC
namespace Go.Proofs.Ytdncchlfeanlmaa
open Go.RowKit

theorem whyJ_faulty {F : FormD} {l : List StepD} (h : ¬ (whyJ F l).2.1 = 0) : (whyJ F l).1 = 0 := by
  unfold whyJ at h ⊢
  split
  · rfl
  · split
    · rfl
    · rename_i h1 h2
      rw [if_neg h1, if_neg h2] at h
      exact absurd rfl h
theorem whyJ_fine {F : FormD} {l : List StepD} (h : (whyJ F l).2.1 = 0) : (whyJ F l).2.2 = 0 ∧ (formF F).1 = 0 ∧ l.length ≤ 3000 ∧ (whyJ F l).1 = runJ F.terms F.ints ⟨F.atoms, F.clauses⟩ l 0 := by
  unfold whyJ at h ⊢
  split
  · rename_i h1
    rw [if_pos h1] at h
    exact absurd h h1
  · rename_i h1
    rw [if_neg h1] at h
    split
    · rename_i h2
      rw [if_pos h2] at h
      cases h
    · rename_i h2
      exact ⟨rfl, by simpa using h1, by omega, rfl⟩

set_option maxRecDepth 100000 in
set_option maxHeartbeats 4000000 in
theorem take_any (A1 A2 A3 A4 : Option Addr) (n1 c1 n2 c2 n3 c3 n4 c4 : Nat) (F : FormD) (A : Option Addr) (n c : Nat) (l : List StepD) (q qc qa : Int) (w : World) (hF : FormB w w.heap.size A1 A2 A3 A4 n1 n2 n3 n4 F) (hc1 : n1 ≤ c1) (hc3 : n3 ≤ c3) (hc3m : c3 ≤ maxLen)
    (hl : ArrB AtStep 9 w w.heap.size A n l) (hR : whyJ F l = (q, qc, qa)) :
    Calls Try.prog 8 #[.agg #[.slice A1 n1 c1, .slice A2 n2 c2, .slice A3 n3 c3, .slice A4 n4 c4], .slice A n c] w fun e w' => e = .returned (.tuple #[.bool (decide (q = -1)), .agg #[.int .i64 qc, .int .i64 qa]]) ∧ Below w.heap.size w w' := by
  obtain ⟨hb0, hbk0, hbf0, hs0⟩ := two_boxes w 27 29 #[.slice A1 n1 c1, .slice A2 n2 c2, .slice A3 n3 c3, .slice A4 n4 c4] #[.int .i64 0, .int .i64 0]
  have HC := Lib.hid (fun W (hbW : Below w.heap.size w W) => why_any A1 A2 A3 A4 n1 c1 n2 c2 n3 c3 n4 c4 F A n c l q qc qa W (hF.below hbW hbW.size) hc1 hc3 hc3m (hl.below stays_step hbW hbW.size) hR)
  have hq0 : ¬ qc = 0 → q = 0 := fun h => by have := whyJ_faulty (F := F) (l := l) (by rw [hR]; exact h); rw [hR] at this; exact this
  have hq1 : qc = 0 → qa = 0 := fun h => by have := (whyJ_fine (F := F) (l := l) (by rw [hR]; exact h)).1; rw [hR] at this; exact this
  have HQ := Lib.hid (And.intro hq0 hq1)
  have HW := Lib.hid (And.intro hb0 (And.intro hbk0 (And.intro hbf0 hs0)))
  clear hR hF hl hb0 hbk0 hbf0 hs0 hq0 hq1 hc1 hc3 hc3m
  go_enter Try.func8, Try.ntmps8
  go_wp2_with fail
  refine (HC.out _ HW.out.1).mono ?_
  rintro e w1 ⟨rfl, hb1⟩
  have hz1 := hb1.size
  have hz0 := HW.out.2.2.2
  rw [hz0] at hz1
  have hbw1 : Below w.heap.size w w1 := HW.out.1.trans (hb1.mono (by rw [hz0]; omega))
  have k2 : Blk w1 (w.heap.size + 1) 29 #[.int .i64 0, .int .i64 0] := HW.out.2.2.1.below hb1 (by rw [hz0]; omega)
  have HB1 := Lib.hid (And.intro hbw1 k2)
  have f0 : w1.cell? ⟨w.heap.size + 1, 0, none⟩ = some (.int .i64 0) := k2.cell 0
  have f1 : w1.cell? ⟨w.heap.size + 1, 1, none⟩ = some (.int .i64 0) := k2.cell 1
  have f2 : w1.frozen? ⟨w.heap.size + 1, 0, none⟩ = false := k2.frozen 0
  have f3 : w1.frozen? ⟨w.heap.size + 1, 1, none⟩ = false := k2.frozen 1
  have z1 : w.heap.size + 1 < w1.heap.size := k2.lt
  have z0 : w.heap.size < w1.heap.size := by omega
  clear hb1 hbw1 k2 hz0 HC HW
  by_cases hqc : qc = 0
  · subst hqc
    obtain rfl := HQ.out.2 rfl
    go_wp2_with fail
    refine bodyPost_ret (v := .tuple #[.bool (decide (q = -1)), .agg #[.int .i64 0, .int .i64 0]]) (by simp [results, Try.results8, go_sem, f0, f1, z1]; rfl) rfl ⟨rfl, ?_⟩
    exact ((HB1.out.1.setCell (p := ⟨w.heap.size + 1, 0, none⟩) (by simp) _).setCell (p := ⟨w.heap.size + 1, 1, none⟩) (by simp) _).alloc (by simp; omega) _
  · obtain rfl := HQ.out.1 hqc
    have hq : (qc != 0) = true := by simpa using hqc
    clear hqc
    go_wp2_with fail
    go_region
    all_goals go_wp2_with fail
    all_goals refine bodyPost_ret (v := .tuple #[.bool (decide ((0 : Int) = -1)), .agg #[.int .i64 qc, .int .i64 qa]]) (by simp [results, Try.results8, go_sem, f0, f1, z1]) rfl ⟨rfl, ?_⟩
    all_goals exact below_drawn (((HB1.out.1.setCell (p := ⟨w.heap.size + 1, 0, none⟩) (by simp) _).setCell (p := ⟨w.heap.size + 1, 1, none⟩) (by simp) _).alloc (by simp; omega) _)
end Go.Proofs.Ytdncchlfeanlmaa
namespace Go.Proofs.Ytdncchlfeanlmaa
open Go.RowKit

section
variable {α : Type} {V : Val α} {E : Ent α} {sz : Nat} {w : World} {S : Nat → Prop} {g : Nat} {t : TypeId} {cs : Array Value} {xs : List α}
theorem row_of_blk (hV : Tells V sz) (hE : ∀ w S b o x, AtV V w S b o x → E w S b o x) (h : Blk w g t cs) (hc : Cels V w S xs cs.toList) (hg : S g) : Arr E sz w S (some ⟨g, 0, none⟩) xs.length xs :=
  ⟨rfl, fun i x hx => ⟨g, 0, rfl, hg, by
    have := Cels.at_ hV (w := w) (S := S) (g := g) (cells := cs.toList) (fun j u hu => by rw [h.cell]; simpa using hu) xs 0 cs.toList hc (fun j => by rw [Nat.zero_mul, Nat.zero_add]) i x hx
    rw [Nat.zero_add] at this
    rw [Nat.zero_add]
    exact hE _ _ _ _ _ this⟩⟩
theorem cels_of_ints : ∀ xs : List Int, (∀ x ∈ xs, I64 x) → Cels VInt w S xs (xs.map (Value.int .i64))
  | [], _ => rfl
  | x :: r, h => ⟨[.int .i64 x], _, rfl, ⟨rfl, h x (List.mem_cons_self ..)⟩, cels_of_ints r fun y hy => h y (List.mem_cons_of_mem _ hy)⟩
theorem row_ints {xs : List Int} (h : Blk w g t cs) (hc : cs.toList = xs.map (Value.int .i64)) (hi : ∀ x ∈ xs, I64 x) (hg : S g) : Arr AtInt 1 w S (some ⟨g, 0, none⟩) xs.length xs :=
  row_of_blk tells_int (fun _ _ _ _ _ h => atV_int.1 h) h (by rw [hc]; exact cels_of_ints xs hi) hg
/-- a row of one thing, of two -/
theorem row_one (hV : Tells V sz) (hE : ∀ w S b o x, AtV V w S b o x → E w S b o x) {x : α} (h : Blk w g t cs) (hc : V w S cs.toList x) (hg : S g) : Arr E sz w S (some ⟨g, 0, none⟩) 1 [x] :=
  row_of_blk hV hE h (Cels.single hc) hg
theorem row_two (hV : Tells V sz) (hE : ∀ w S b o x, AtV V w S b o x → E w S b o x) {x y : α} {c0 c1 : List Value} (h : Blk w g t cs) (hcs : cs.toList = c0 ++ c1) (h0 : V w S c0 x) (h1 : V w S c1 y) (hg : S g) : Arr E sz w S (some ⟨g, 0, none⟩) 2 [x, y] :=
  row_of_blk (xs := [x, y]) hV hE h (by rw [hcs]; exact ⟨c0, c1, rfl, h0, Cels.single h1⟩) hg
theorem varr_of {E' : Ent α} {sz' n c : Nat} {A : Option Addr} (h : Arr E' sz' w S A n xs) (hn : n ≤ c) (hc : c ≤ maxLen) : VArr E' sz' w S [.slice A n c] xs := ⟨A, n, c, rfl, hn, hc, h⟩
end
theorem i64_small {x : Int} (h : -1000000 ≤ x ∧ x ≤ 1000000) : I64 x := by unfold I64; omega
theorem atArr_of {α : Type} {E : Ent α} {sz : Nat} : ∀ (w : World) (S : Nat → Prop) (b o : Nat) (x : List α), AtV (VArr E sz) w S b o x → AtArr E sz w S b o x := fun _ _ _ _ _ h => atV_arr.1 h
/-- blocks made one behind the other -/
def lay : World → List (TypeId × Array Value) → World
  | W, [] => W
  | W, c :: r => lay (W.alloc (.cells c.2 c.1)) r
theorem lay_size : ∀ (l : List (TypeId × Array Value)) (W : World), (lay W l).heap.size = W.heap.size + l.length
  | [], _ => rfl
  | c :: r, W => by rw [lay, lay_size r]; simp; omega
theorem lay_below : ∀ (l : List (TypeId × Array Value)) (W : World), Below W.heap.size W (lay W l)
  | [], W => Below.refl _ _
  | c :: r, W => by
    have h1 : Below W.heap.size W (W.alloc (.cells c.2 c.1)) := (Below.refl _ _).alloc (Nat.le_refl _) _
    exact h1.trans ((lay_below r (W.alloc (.cells c.2 c.1))).mono h1.size)
theorem lay_blk : ∀ (l : List (TypeId × Array Value)) (W : World) (i : Nat) (t : TypeId) (c : Array Value), l[i]? = some (t, c) → Blk (lay W l) (W.heap.size + i) t c
  | [], _, i, _, _, h => by simp at h
  | x :: r, W, 0, t, c, h => by
    simp only [List.getElem?_cons_zero, Option.some.injEq] at h
    subst h
    have hk := Blk.new W t c
    exact hk.below (lay_below r _) hk.lt
  | x :: r, W, i + 1, t, c, h => by
    have := lay_blk r (W.alloc (.cells x.2 x.1)) i t c (by simpa using h)
    rw [World.size_alloc] at this
    rwa [show W.heap.size + (i + 1) = W.heap.size + 1 + i from by omega]
end Go.Proofs.Ytdncchlfeanlmaa
