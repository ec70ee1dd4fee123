/- Walks: one command on a stack of frames: those that hold no clause. -/
import Derived.Test.YtpceiifacendfaaFrB
import Derived.BigRegion
namespace Go.Proofs.Ytpceiifacendfaa
open Go.RowKit

/-- what neither is the stack nor one of its rows is as it was -/
def Far (w w' : World) (g : Nat) (vc vf : Value) : Prop := w.heap.size ≤ w'.heap.size ∧ ∀ b, b < w.heap.size → b ≠ g → vc.ownBlock ≠ some b → vf.ownBlock ≠ some b → w'.heap[b]? = w.heap[b]?
theorem Far.of {w w' : World} {g : Nat} {vc vf : Value} {row : Option Nat} (h : w.grownBy w' row) (hr : row = none ∨ row = some g ∨ row = vc.ownBlock ∨ row = vf.ownBlock) : Far w w' g vc vf := ⟨h.size, fun b hb h1 h2 h3 => h.block b hb (fun e => by
  rcases hr with rfl | rfl | rfl | rfl
  · cases e
  · injection e with e; exact h1 e
  · exact h2 e.symm
  · exact h3 e.symm)⟩
theorem Far.then {a b c : World} {g : Nat} {vc vf : Value} (h : Far a b g vc vf) (k : Far b c g vc vf) : Far a c g vc vf :=
  ⟨Nat.le_trans h.1 k.1, fun x hx h1 h2 h3 => (k.2 x (Nat.lt_of_lt_of_le hx h.1) h1 h2 h3).trans (h.2 x hx h1 h2 h3)⟩

def StepP (g : Nat) (s1 s2 s3 s4 vc0 vf0 : Value) (code : Int) (r : List Cl) (last : Cl) (w : World) (e : Ending) (w' : World) : Prop :=
  e = .returned (.int .i64 code) ∧ Below g w w' ∧ Far w w' g vc0 vf0 ∧ (code = 0 → ∃ vc vf, Stk w' g s1 s2 s3 s4 r last vc vf)

/-- the world behind a pop -/
def popW (w : World) (o : Obj) (g : Nat) (a b : Value) : World := (((w.setCell ⟨g, 4, none⟩ a).setCell ⟨g, 5, none⟩ b).alloc o).drew
theorem popW_grown (w : World) (o : Obj) (g : Nat) (a b : Value) : w.grownBy (popW w o g a b) (some g) := only_drew (only_alloc (one_only (one_only (only_refl _ _) 4 a) 5 b) o)
theorem popW_blk {w : World} {g : Nat} {t : TypeId} {v0 v1 v2 v3 v4 v5 : Value} (h : Blk w g t #[v0, v1, v2, v3, v4, v5]) (o : Obj) (a b : Value) : Blk (popW w o g a b) g t #[v0, v1, v2, v3, a, b] := by
  have h1 : Blk (w.setCell ⟨g, 4, none⟩ a) g t #[v0, v1, v2, v3, a, v5] := h.set_ 4 a
  have h2 : Blk ((w.setCell ⟨g, 4, none⟩ a).setCell ⟨g, 5, none⟩ b) g t #[v0, v1, v2, v3, a, b] := h1.set_ 5 b
  exact (h2.alloc o).drew

theorem grown_of_alloc (w : World) (o : Obj) : w.grownBy (w.alloc o) none := only_alloc (only_refl _ _) o

set_option maxRecDepth 100000 in
set_option maxHeartbeats 2000000 in
theorem step_kind (g : Nat) (A1 A2 A3 A4 : Option Addr) (n1 c1 n2 c2 n3 c3 n4 c4 : Nat) (r : List Cl) (last : Cl) (vc vf : Value) (Ad : Option Addr) (nd cd : Nat) (kd : Int) (w : World) (hst : Stk w g (.slice A1 n1 c1) (.slice A2 n2 c2) (.slice A3 n3 c3) (.slice A4 n4 c4) r last vc vf) (hk : kd < 1 ∨ 4 < kd) :
    Calls Try.prog 52 #[.pointer (some ⟨g, 0, none⟩), .agg #[.int .i64 kd, .slice Ad nd cd]] w (StepP g (.slice A1 n1 c1) (.slice A2 n2 c2) (.slice A3 n3 c3) (.slice A4 n4 c4) vc vf 4 r last w) := by
  have hgl := hst.blk.lt
  clear hst
  rcases hk with hk | hk
  all_goals
    go_enter Try.func52, Try.ntmps52
    go_wp2_with fail
    go_ret
    exact ⟨rfl, (Below.refl _ _).alloc (by omega) _, Far.of (grown_of_alloc _ _) (.inl rfl), fun e => by cases e⟩

set_option maxRecDepth 100000 in
set_option maxHeartbeats 2000000 in
theorem step_form (g : Nat) (A1 A2 A3 A4 : Option Addr) (n1 c1 n2 c2 n3 c3 n4 c4 : Nat) (r : List Cl) (last : Cl) (vc vf : Value) (Ad : Option Addr) (nd cd : Nat) (kd : Int) (w : World) (hst : Stk w g (.slice A1 n1 c1) (.slice A2 n2 c2) (.slice A3 n3 c3) (.slice A4 n4 c4) r last vc vf) (hk : 1 ≤ kd ∧ kd ≤ 4 ∧ ¬ kd = 3) (hn : 0 < nd) :
    Calls Try.prog 52 #[.pointer (some ⟨g, 0, none⟩), .agg #[.int .i64 kd, .slice Ad nd cd]] w (StepP g (.slice A1 n1 c1) (.slice A2 n2 c2) (.slice A3 n3 c3) (.slice A4 n4 c4) vc vf 5 r last w) := by
  have hgl := hst.blk.lt
  obtain ⟨hk1, hk2, hk3⟩ := hk
  have hq : (kd != 3) = true := by simpa using hk3
  have hnn : (nd : Int) > 0 := by omega
  clear hst hk3
  go_enter Try.func52, Try.ntmps52
  go_wp2_with fail
  go_ret
  exact ⟨rfl, (Below.refl _ _).alloc (by omega) _, Far.of (grown_of_alloc _ _) (.inl rfl), fun e => by cases e⟩

set_option maxRecDepth 100000 in
set_option maxHeartbeats 2000000 in
theorem step_ask (g : Nat) (A1 A2 A3 A4 : Option Addr) (n1 c1 n2 c2 n3 c3 n4 c4 : Nat) (r : List Cl) (last : Cl) (vc vf : Value) (Ad : Option Addr) (nd cd : Nat) (kd : Int) (w : World) (hst : Stk w g (.slice A1 n1 c1) (.slice A2 n2 c2) (.slice A3 n3 c3) (.slice A4 n4 c4) r last vc vf) (hk : kd = 4) (hn : nd = 0) :
    Calls Try.prog 52 #[.pointer (some ⟨g, 0, none⟩), .agg #[.int .i64 kd, .slice Ad nd cd]] w (StepP g (.slice A1 n1 c1) (.slice A2 n2 c2) (.slice A3 n3 c3) (.slice A4 n4 c4) vc vf 0 r last w) := by
  have hgl := hst.blk.lt
  have HST := Lib.hid hst
  subst hk
  subst hn
  clear hst
  go_enter Try.func52, Try.ntmps52
  go_wp2_with fail
  go_ret
  exact ⟨rfl, (Below.refl _ _).alloc (by omega) _, Far.of (grown_of_alloc _ _) (.inl rfl), fun _ => ⟨vc, vf, HST.out.keep (grown_of_alloc _ _)⟩⟩

set_option maxRecDepth 100000 in
set_option maxHeartbeats 4000000 in
theorem step_push (g : Nat) (A1 A2 A3 A4 : Option Addr) (n1 c1 n2 c2 n3 c3 n4 c4 : Nat) (r : List Cl) (last : Cl) (vc vf : Value) (Ad : Option Addr) (nd cd : Nat) (kd : Int) (w : World) (hst : Stk w g (.slice A1 n1 c1) (.slice A2 n2 c2) (.slice A3 n3 c3) (.slice A4 n4 c4) r last vc vf) (hk : kd = 1) (hn : nd = 0) (h20 : r.length ≤ 20) (hcl : (clOf r last).length ≤ 1000) :
    Calls Try.prog 52 #[.pointer (some ⟨g, 0, none⟩), .agg #[.int .i64 kd, .slice Ad nd cd]] w (StepP g (.slice A1 n1 c1) (.slice A2 n2 c2) (.slice A3 n3 c3) (.slice A4 n4 c4) vc vf (if r.length = 20 then 2 else 0) (last :: r) [] w) := by
  have hgl := hst.blk.lt
  have HST := Lib.hid hst
  obtain ⟨Ac, cc, hvc, hcc, hccm⟩ := hst.cl.len (by unfold maxLen; omega)
  obtain ⟨Af, cf, hvf, hcf, hcfm⟩ := hst.fr.len
  rw [frR_len] at hvf hcf
  subst hvc
  subst hvf
  subst hk
  subst hn
  have x4 : w.cell? ⟨g, 4, none⟩ = some (.slice Ac (clOf r last).length cc) := hst.blk.cell 4
  have x5 : w.cell? ⟨g, 5, none⟩ = some (.slice Af r.length cf) := hst.blk.cell 5
  by_cases hm : r.length = 20
  · rw [if_pos hm]
    rw [hm] at x5
    have HM := Lib.hid hm
    clear hst hm
    go_enter Try.func52, Try.ntmps52
    go_wp2_with fail
    go_ret
    exact ⟨rfl, (Below.refl _ _).alloc (by omega) _, Far.of (grown_of_alloc _ _) (.inl rfl), fun e => by cases e⟩
  · rw [if_neg hm]
    have hq : (((r.length : Nat) : Int) == 20) = false := by rw [beq_eq_false_iff_ne]; omega
    have hst1 := hst.keep (grown_of_alloc w (.cells #[.int .i64 1, .slice Ad 0 cd] 47))
    have hst2 := hst1.keep (grown_of_alloc _ (.cells #[.int .i64 ((clOf r last).length : Nat)] 3))
    have hst3 := hst2.keep (only_drew (only_refl _ none))
    have hbn := Blk.new (w.alloc (.cells #[.int .i64 1, .slice Ad 0 cd] 47)) 3 #[.int .i64 ((clOf r last).length : Nat)]
    rw [World.size_alloc] at hbn
    have HN := Lib.hid (And.intro hst3 hbn)
    have HI : Hid (I64 ((clOf r last).length : Nat)) := ⟨by omega, by omega⟩
    clear hst hst1 hst2 hst3 hbn hm
    go_enter Try.func52, Try.ntmps52
    go_upto_region 9 with fail
    go_region_law (first
      | (refine step_append_item (by rfl) _ _ _ (by rfl) rowInts tells_int (v := .slice Af r.length cf) (xs := frR r) (base := g + 1) (S := fun _ => False) (by rfl) (.inl HN.out.1.fr) (g := w.heap.size + 1) (cs := #[.int .i64 ((clOf r last).length : Nat)]) (by rfl) (Blk.drew HN.out.2) (y := ((clOf r last).length : Nat)) ⟨rfl, HI.out⟩ (fun b h => False.elim h) (by rw [frR_len]; unfold maxLen; omega) (by rw [frR_len]; omega) (by simp; omega) ?_
         intro g' cap w3 hown3 hgrow hat hlt3
         have HN3 := Lib.hid (And.intro hown3 (And.intro hgrow (And.intro hat hlt3)))
         have hbk3 := HN.out.1.blk.grown hgrow (fun e => by have := (HN.out.1.fr.lt g e.symm).1; omega)
         have y5 : w3.cell? ⟨g, 5, none⟩ = some (.slice Af r.length cf) := hbk3.cell 5
         have z5 : w3.frozen? ⟨g, 5, none⟩ = false := hbk3.frozen 5
         clear hown3 hgrow hat hlt3 hbk3)
      | fail)
    all_goals
      go_wp2_with fail
      go_ret
      obtain ⟨hown3, hgrow, hat, hlt3⟩ := HN3.out
      refine ⟨rfl, ?_, ((Far.of (only_drew (only_alloc (grown_of_alloc w _) _)) (.inl rfl)).then (Far.of hgrow (.inr (.inr (.inr rfl))))).then (Far.of (one_only (only_refl w3 _) 5 _) (.inr (.inl rfl))), fun _ => ⟨_, _, HN.out.1.push hown3 hgrow (by simpa [Value.ownBlock] using hat)⟩⟩
      exact (below_then (below_drewN (((Below.refl g w).alloc (by omega) _).alloc (by simp; omega) _) 1) hgrow (by simp; omega) (fun x hx => by have := (HN.out.1.fr.lt x hx).1; omega)).setCell (p := ⟨g, 5, none⟩) (Nat.le_refl _) _

set_option maxRecDepth 100000 in
set_option maxHeartbeats 4000000 in
theorem step_pop (g : Nat) (A1 A2 A3 A4 : Option Addr) (n1 c1 n2 c2 n3 c3 n4 c4 : Nat) (r : List Cl) (last : Cl) (vc vf : Value) (Ad : Option Addr) (nd cd : Nat) (kd : Int) (w : World) (hst : Stk w g (.slice A1 n1 c1) (.slice A2 n2 c2) (.slice A3 n3 c3) (.slice A4 n4 c4) r last vc vf) (hk : kd = 2) (hn : nd = 0) (hr : r = []) :
    Calls Try.prog 52 #[.pointer (some ⟨g, 0, none⟩), .agg #[.int .i64 kd, .slice Ad nd cd]] w (StepP g (.slice A1 n1 c1) (.slice A2 n2 c2) (.slice A3 n3 c3) (.slice A4 n4 c4) vc vf 11 [] last w) := by
  have hgl := hst.blk.lt
  subst hr
  obtain ⟨Af, cf, hvf, hcf, hcfm⟩ := hst.fr.len
  rw [frR_len] at hvf hcf
  subst hvf
  subst hk
  subst hn
  have x5 : w.cell? ⟨g, 5, none⟩ = some (.slice Af 0 cf) := hst.blk.cell 5
  clear hst
  go_enter Try.func52, Try.ntmps52
  go_wp2_with fail
  go_ret
  exact ⟨rfl, (Below.refl _ _).alloc (by omega) _, Far.of (grown_of_alloc _ _) (.inl rfl), fun e => by cases e⟩

set_option maxRecDepth 100000 in
set_option maxHeartbeats 4000000 in
theorem step_popped (g : Nat) (A1 A2 A3 A4 : Option Addr) (n1 c1 n2 c2 n3 c3 n4 c4 : Nat) (r : List Cl) (last : Cl) (vc vf : Value) (Ad : Option Addr) (nd cd : Nat) (kd : Int) (w : World) (x : Cl) (hst : Stk w g (.slice A1 n1 c1) (.slice A2 n2 c2) (.slice A3 n3 c3) (.slice A4 n4 c4) (x :: r) last vc vf) (hk : kd = 2) (hn : nd = 0) (h20 : r.length < 20) (hcl : (clOf (x :: r) last).length ≤ 1000) :
    Calls Try.prog 52 #[.pointer (some ⟨g, 0, none⟩), .agg #[.int .i64 kd, .slice Ad nd cd]] w (StepP g (.slice A1 n1 c1) (.slice A2 n2 c2) (.slice A3 n3 c3) (.slice A4 n4 c4) vc vf 0 r x w) := by
  have hgl := hst.blk.lt
  obtain ⟨Af, cf, hvf, hcf, hcfm⟩ := hst.fr.len
  rw [frR_len, List.length_cons] at hvf hcf
  subst hvf
  subst hk
  subst hn
  unfold maxLen at hcfm
  have hpre : (clOf r x).length ≤ (clOf (x :: r) last).length := by rw [← clOf_pop x r last]; simp; omega
  have z4 : w.frozen? ⟨g, 4, none⟩ = false := hst.blk.frozen 4
  have z5 : w.frozen? ⟨g, 5, none⟩ = false := hst.blk.frozen 5
  have hfl := hst.fr.lt
  obtain ⟨Af', cf', he, _, _, hfa⟩ := hst.fr.reads (E := AtInt) tells_int (fun _ _ _ _ _ h => atV_int.1 h) (S' := fun b => b < w.heap.size ∧ b ≠ g) (fun b h => False.elim h) (fun b hb => by have := hfl b hb; omega)
  simp only [Value.slice.injEq, frR_len, List.length_cons, true_and] at he
  obtain ⟨rfl, rfl⟩ : Af = Af' ∧ cf = cf' := by simpa using he
  obtain ⟨bf, of, hxf, rfl, hbf, hcell, _⟩ := Arr.get hfa (i := r.length) (by rw [frR_len]; simp)
  have hlast : (frR (x :: r))[r.length] = ((clOf r x).length : Int) := by
    simp only [frR_last]
    rw [List.getElem_append_right (by rw [frR_len]; exact Nat.le_refl _)]
    simp [frR_len]
  rw [hlast, Nat.mul_one] at hcell
  have x5 : w.cell? ⟨g, 5, none⟩ = some (.slice (some ⟨bf, of, none⟩) (r.length + 1) cf) := hst.blk.cell 5
  have hblk := hst.blk
  have hfr : OwnV VInt 3 1 w (g + 1) (fun _ => False) (.slice (some ⟨bf, of, none⟩) r.length cf) (frR r) := by
    have := OwnV.shrink (k := r.length) tells_int hst.fr (by rw [frR_len]; simp)
    rwa [frR_last, List.take_left' (frR_len r)] at this
  have hne1 : ¬ g = w.heap.size := by omega
  have hne2 : ¬ w.heap.size = g := by omega
  have hne3 : ¬ bf = g := hbf.2
  have hne4 : ¬ g = bf := fun e => hbf.2 e.symm
  have hne5 : ¬ bf = w.heap.size := by have := hbf.1; omega
  have hne6 : bf < w.heap.size := hbf.1
  rcases hst.cl.form (by unfold maxLen; omega) with ⟨rfl, h0⟩ | ⟨gc, cc, rfl, hcc, hccm⟩
  · have x4 : w.cell? ⟨g, 4, none⟩ = some (.slice none 0 0) := hst.blk.cell 4
    have h00 : clOf r x = [] := by rw [← clOf_pop x r last, h0]; simp
    rw [h00] at hcell
    have hfin : GrowV VRow 31 1 w (g + 1) (StkS w g (.slice none 0 0) (.slice (some ⟨bf, of, none⟩) (r.length + 1) cf)) (.slice none 0 0) (clOf r x) := by rw [h00]; exact .inl (OwnV.none_ _ _ _ _ _ _)
    have HN := Lib.hid (And.intro hst (And.intro hfin (And.intro hfr hblk)))
    have hcell' : w.cell? ⟨bf, of + r.length, none⟩ = some (.int .i64 0) := hcell
    clear hst hfin hfr hblk hcell hfl hfa hlast he hpre h0 h00 hcl hbf
    go_enter Try.func52, Try.ntmps52
    go_upto_region 14 with fail
    go_region
    all_goals
      go_wp2_with fail
      go_ret
      obtain ⟨hst, hfin, hfr, hblk⟩ := HN.out
      have hgr := popW_grown w (.cells #[.int .i64 2, .slice Ad 0 cd] 47) g (.slice none 0 0) (.slice (some ⟨bf, of, none⟩) r.length cf)
      have hbk := popW_blk hblk (.cells #[.int .i64 2, .slice Ad 0 cd] 47) (.slice none 0 0) (.slice (some ⟨bf, of, none⟩) r.length cf)
      have hbel : Below g w (popW w (.cells #[.int .i64 2, .slice Ad 0 cd] 47) g (.slice none 0 0) (.slice (some ⟨bf, of, none⟩) r.length cf)) := only_below hgr (Nat.le_refl _) (by omega)
      exact ⟨rfl, hbel, Far.of hgr (.inr (.inl rfl)), fun _ => ⟨_, _, Stk.pop (vc' := (.slice none 0 0)) (vf' := .slice (some ⟨bf, of, none⟩) r.length cf) hst rfl rfl hfin hfr hgr hbk⟩⟩
  · have x4 : w.cell? ⟨g, 4, none⟩ = some (.slice (some ⟨gc, 0, none⟩) (clOf (x :: r) last).length cc) := hst.blk.cell 4
    have hfin : GrowV VRow 31 1 w (g + 1) (StkS w g (.slice (some ⟨gc, 0, none⟩) (clOf (x :: r) last).length cc) (.slice (some ⟨bf, of, none⟩) (r.length + 1) cf)) (.slice (some ⟨gc, 0, none⟩) (clOf r x).length (clOf r x).length) (clOf r x) := by
      have := GrowV.cut (k := (clOf r x).length) tells_row' hst.cl hpre
      rw [clOf_pop] at this
      exact .inr this
    have HN := Lib.hid (And.intro hst (And.intro hfin (And.intro hfr hblk)))
    have hb1 : ((clOf r x).length : Int) ≤ (cc : Int) := by omega
    have hb0 : (0 : Int) ≤ ((clOf r x).length : Int) := by omega
    unfold maxLen at hccm
    clear hst hfin hfr hblk hfl hfa hlast he hbf
    go_enter Try.func52, Try.ntmps52
    go_upto_region 14 with fail
    go_region
    all_goals
      go_wp2_with fail
      go_ret
      obtain ⟨hst, hfin, hfr, hblk⟩ := HN.out
      have hgr := popW_grown w (.cells #[.int .i64 2, .slice Ad 0 cd] 47) g (.slice (some ⟨gc, 0, none⟩) (clOf r x).length (clOf r x).length) (.slice (some ⟨bf, of, none⟩) r.length cf)
      have hbk := popW_blk hblk (.cells #[.int .i64 2, .slice Ad 0 cd] 47) (.slice (some ⟨gc, 0, none⟩) (clOf r x).length (clOf r x).length) (.slice (some ⟨bf, of, none⟩) r.length cf)
      have hbel : Below g w (popW w (.cells #[.int .i64 2, .slice Ad 0 cd] 47) g (.slice (some ⟨gc, 0, none⟩) (clOf r x).length (clOf r x).length) (.slice (some ⟨bf, of, none⟩) r.length cf)) := only_below hgr (Nat.le_refl _) (by omega)
      exact ⟨rfl, hbel, Far.of hgr (.inr (.inl rfl)), fun _ => ⟨_, _, Stk.pop (vc' := (.slice (some ⟨gc, 0, none⟩) (clOf r x).length (clOf r x).length)) (vf' := .slice (some ⟨bf, of, none⟩) r.length cf) hst rfl rfl hfin hfr hgr hbk⟩⟩
end Go.Proofs.Ytpceiifacendfaa
