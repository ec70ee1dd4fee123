/- Walk: judge.step at a step that is not formed. · Walk: judge.step at a step of kind 3 (printed by genJuEE.py). · Walk: judge.step at a step of kind 6 (printed by genJuEE.py). -/
import Derived.Test.YtdncchlfeanlmaaJuCCD
import Derived.Test.YtdncchlfeanlmaaJuS
import Derived.Test.YtdncchlfeanlmaaJuEF
import Derived.Deep.RegionLaw
namespace Go.Proofs.Ytdncchlfeanlmaa
open Go.RowKit

set_option maxRecDepth 100000 in
set_option maxHeartbeats 4000000 in
theorem stepU_any (B G : Nat) (A1 : Option Addr) (c1 : Nat) (A2 : Option Addr) (c2 : Nat) (vF vA vC : Value) (ts : List TermD) (ints : List Bool) (s : JSt) (kd : Int) (L : Option Addr) (nl cl : Nat) (lits : List Int) (M : Option Addr) (nm cm : Nat) (nums : List FracD) (ak aa ab : Int) (O : Option Addr) (no co : Nat) (of_ : List Int) (rk rt : Int) (w : World)
    (h : JudgeM w B G A1 c1 A2 c2 vF vA vC ts ints s) (hlits : IntsB w B L nl lits) (hnl : nl ≤ 9223372036854775807) (hcl : nl ≤ cl) (_ : cl ≤ maxLen) (hnm : nums.length = nm) (hno : of_.length = no) (_ : s.cls.length ≤ 100000)
    (hform : formedF s.atoms.length ⟨kd, lits, nums, ⟨ak, aa, ab, ⟨of_, rk, rt⟩⟩⟩ = false) :
    Calls Try.prog 18 #[.pointer (some ⟨G, 0, none⟩), .agg #[.int .i64 kd, .slice L nl cl, .slice M nm cm, .int .i64 ak, .int .i64 aa, .int .i64 ab, .slice O no co, .int .i64 rk, .int .i64 rt]] w fun e w' => e = .returned (.bool false) ∧ Below w.heap.size w w' := by
  have hb0 : Below w.heap.size w (w.alloc (.cells #[.int .i64 kd, .slice L nl cl, .slice M nm cm, .int .i64 ak, .int .i64 aa, .int .i64 ab, .slice O no co, .int .i64 rk, .int .i64 rt] 44)) := (Below.refl _ _).alloc (Nat.le_refl _) _
  have hk0 := Blk.new w 44 #[.int .i64 kd, .slice L nl cl, .slice M nm cm, .int .i64 ak, .int .i64 aa, .int .i64 ab, .slice O no co, .int .i64 rk, .int .i64 rt]
  have hBw := h.hBw
  obtain ⟨A3, c3, hvA, hc3, hc3m, hst⟩ := (h.later hb0).reads
  have hF := formed_any G A3 s.atoms.length c3 kd L nl cl lits M nm cm nums ak aa ab O no co of_ rk rt _ hst.q2 hst.lt hst.l3 ((hlits.below stays_int (hb0.mono hBw) (Nat.le_refl _)).keep stays_int (fun b hb => Nat.lt_of_lt_of_le hb (Nat.le_trans hBw hb0.size)) (fun _ _ _ => rfl)) hnl hcl hnm hno
  rw [hform] at hF
  have HF := Lib.hid hF
  have HK := Lib.hid (And.intro hb0 hk0)
  clear hst hvA hc3 hc3m hF hb0 hk0 h hlits hform
  go_enter Try.func18, Try.ntmps18
  go_wp2_with fail
  refine HF.out.mono ?_
  rintro e w9 ⟨rfl, hb9⟩
  have hbw : Below w.heap.size w w9 := HK.out.1.trans (hb9.mono HK.out.1.size)
  have HB9 := Lib.hid hbw
  clear hbw hb9
  go_wp2_with fail
  go_ret
  exact ⟨rfl, HB9.out⟩
end Go.Proofs.Ytdncchlfeanlmaa
namespace Go.Proofs.Ytdncchlfeanlmaa
open Go.RowKit

theorem rowLits : RowT Try.prog 25 31 1 24 := rowT_of Try.underlying25 infoInts rfl (by omega)

set_option maxRecDepth 100000 in
set_option maxHeartbeats 4000000 in
theorem stepK3_any (B G : Nat) (A1 : Option Addr) (c1 : Nat) (A2 : Option Addr) (c2 : Nat) (vF vA vC : Value) (ts : List TermD) (ints : List Bool) (s : JSt) (L : Option Addr) (nl cl : Nat) (lits : List Int) (M : Option Addr) (nm cm : Nat) (nums : List FracD) (ak aa ab : Int) (O : Option Addr) (no co : Nat) (of_ : List Int) (rk rt : Int) (w : World)
    (h : JudgeM w B G A1 c1 A2 c2 vF vA vC ts ints s) (hlits : IntsB w B L nl lits) (hnl : nl ≤ 1000) (hcl : nl ≤ cl) (hclm : cl ≤ maxLen) (hnm : nums.length = nm) (hno : of_.length = no) (hcn : s.cls.length ≤ 100000)
    (hform : formedF s.atoms.length ⟨3, lits, nums, ⟨ak, aa, ab, ⟨of_, rk, rt⟩⟩⟩ = true) (R : Bool)
    (htest : ∀ (W : World) (A3 : Option Addr) (c3 : Nat), StR W W.heap.size G A1 c1 A2 c2 A3 c3 ts ints s.atoms → IntsB W W.heap.size L nl lits → Calls Try.prog 27 #[.pointer (some ⟨G, 0, none⟩), .slice L nl cl] W fun e w' => e = .returned (.bool R) ∧ Below W.heap.size W w') :
    Calls Try.prog 18 #[.pointer (some ⟨G, 0, none⟩), .agg #[.int .i64 3, .slice L nl cl, .slice M nm cm, .int .i64 ak, .int .i64 aa, .int .i64 ab, .slice O no co, .int .i64 rk, .int .i64 rt]] w fun e w' => e = .returned (.bool R) ∧ Below B w w' ∧ (R = true → ∃ vC', JudgeM w' B G A1 c1 A2 c2 vF vA vC' ts ints ⟨s.atoms, s.cls ++ [lits]⟩) := by
  have hb0 : Below w.heap.size w (w.alloc (.cells #[.int .i64 3, .slice L nl cl, .slice M nm cm, .int .i64 ak, .int .i64 aa, .int .i64 ab, .slice O no co, .int .i64 rk, .int .i64 rt] 44)) := (Below.refl _ _).alloc (Nat.le_refl _) _
  have hk0 := Blk.new w 44 #[.int .i64 3, .slice L nl cl, .slice M nm cm, .int .i64 ak, .int .i64 aa, .int .i64 ab, .slice O no co, .int .i64 rk, .int .i64 rt]
  have hBw := h.hBw
  obtain ⟨A3, c3, hvA, hc3, hc3m, hst⟩ := (h.later hb0).reads
  have hF := formed_any G A3 s.atoms.length c3 3 L nl cl lits M nm cm nums ak aa ab O no co of_ rk rt _ hst.q2 hst.lt hst.l3 ((hlits.below stays_int (hb0.mono hBw) (Nat.le_refl _)).keep stays_int (fun b hb => Nat.lt_of_lt_of_le hb (Nat.le_trans hBw hb0.size)) (fun _ _ _ => rfl)) (by omega) hcl hnm hno
  rw [hform] at hF
  have HF := Lib.hid hF
  have HK := Lib.hid (And.intro hb0 hk0)
  have H := Lib.hid (And.intro h (And.intro hlits htest))
  clear hst hvA hc3 hc3m hF hb0 hk0 h hlits htest hform
  go_enter Try.func18, Try.ntmps18
  go_wp2_with fail
  refine HF.out.mono ?_
  rintro e w9 ⟨rfl, hb9⟩
  have hbw : Below w.heap.size w w9 := HK.out.1.trans (hb9.mono HK.out.1.size)
  have hkb : Blk w9 w.heap.size 44 #[.int .i64 3, .slice L nl cl, .slice M nm cm, .int .i64 ak, .int .i64 aa, .int .i64 ab, .slice O no co, .int .i64 rk, .int .i64 rt] := (hb9.block _ HK.out.2.lt).trans HK.out.2
  have b0 : w9.cell? ⟨w.heap.size, 0, none⟩ = some (.int .i64 3) := hkb.cell 0
  have b1 : w9.cell? ⟨w.heap.size, 1, none⟩ = some (.slice L nl cl) := hkb.cell 1
  obtain ⟨A3, c3, hvA, hc3, hc3m, hst⟩ := (H.out.1.later hbw).reads
  have HT := Lib.hid (H.out.2.2 w9 A3 c3 hst ((H.out.2.1.below stays_int (hbw.mono hBw) (Nat.le_refl _)).keep stays_int (fun b hb => Nat.lt_of_lt_of_le hb (Nat.le_trans hBw hbw.size)) (fun _ _ _ => rfl)))
  have HB9 := Lib.hid (And.intro hbw hkb)
  clear hst hvA hc3 hc3m hbw hkb hb9
  go_wp2_with fail
  refine HT.out.mono ?_
  rintro e w8 ⟨rfl, hb8⟩
  have hbw : Below w.heap.size w w8 := HB9.out.1.trans (hb8.mono HB9.out.1.size)
  have hkb : Blk w8 w.heap.size 44 #[.int .i64 3, .slice L nl cl, .slice M nm cm, .int .i64 ak, .int .i64 aa, .int .i64 ab, .slice O no co, .int .i64 rk, .int .i64 rt] := (hb8.block _ HB9.out.2.lt).trans HB9.out.2
  have d1 : w8.cell? ⟨w.heap.size, 1, none⟩ = some (.slice L nl cl) := hkb.cell 1
  have HM := Lib.hid (And.intro (H.out.1.later hbw) (And.intro (H.out.2.1.below stays_int (hbw.mono hBw) (Nat.le_refl _)) (And.intro hbw hkb.lt)))
  clear hbw hkb hb8 b0 b1
  cases R with
  | false =>
    go_wp2_with fail
    go_ret
    exact ⟨rfl, HM.out.2.2.1.mono hBw, fun h => by cases h⟩
  | true =>
    obtain ⟨A4, c4, hvC, hc4, hc4m, hcl4⟩ := HM.out.1.clauses
    have q4 : w8.cell? ⟨G, 4, none⟩ = some (.slice A4 s.cls.length c4) := by rw [← hvC]; exact HM.out.1.blk.cell 4
    obtain ⟨nc, hnc⟩ : ∃ nc, s.cls.length = nc := ⟨_, rfl⟩
    rw [hnc] at hvC q4 hcl4 hc4
    have HN := Lib.hid hnc
    have HVC := Lib.hid hvC
    have hGw : G < w8.heap.size := HM.out.1.blk.lt
    have hsw : w.heap.size < w8.heap.size := HM.out.2.2.2
    have HBC : Hid (∀ b, (Value.slice A4 nc c4).ownBlock = some b → B ≤ b) := fun b hb => (HM.out.1.c.lt b (by rw [hvC]; exact hb)).1
    clear hvC hcl4 hc4 hnc
    go_wp2_with fail
    go_region_law (first
      | (refine step_append_item (by rfl) _ _ _ (by rfl) rowLits (tells_arr stays_int) (v := .slice A4 nc c4) (xs := s.cls) (base := B) (S := fun b => b < B) (by rfl)
          (.inl ((HVC.out ▸ HM.out.1.c).kept (tells_arr stays_int) (row := none) (by first | exact only_drew (only_alloc (only_refl _ none) _) | exact only_alloc (only_drew (only_refl _ none)) _) (by cases A4 <;> simp [Value.ownBlock]) (fun b hb => ⟨hb, by omega, by simp⟩))) (g := w8.heap.size) (cs := #[.slice L nl cl]) (by rfl)
          (by first | exact Blk.drew (Blk.new w8 _ _) | exact Blk.new w8.drew _ _) (y := lits) ⟨L, nl, cl, rfl, hcl, hclm, HM.out.2.1.keep stays_int (fun _ h => h) (fun b o hb => (only_cell (row := none) (by first | exact only_drew (only_alloc (only_refl w8 none) _) | exact only_alloc (only_drew (only_refl w8 none)) _) (by omega) (by simp)))⟩ (fun b hb => ⟨by first | omega | (simp; omega), fun e => by have := (HBC.out _ e); omega⟩) (by have := HN.out; unfold maxLen; omega) (by have := HN.out; omega) (by first | omega | (simp; omega)) ?_
         intro ga ca w3 hown3 hgrow3 hat3 hlt3
         have hgw : w8.grownBy w3 (Value.slice A4 nc c4).ownBlock := only_trans (only_drew (only_alloc (only_refl w8 _) _)) hgrow3
         have hkG : Blk w3 G 60 _ := Blk.grown HM.out.1.blk hgw (by rw [← HVC.out]; exact Ne.symm HM.out.1.n2)
         have y4 : w3.cell? ⟨G, 4, none⟩ = some (.slice A4 nc c4) := (hkG.cell 4).trans (by rw [← HVC.out]; rfl)
         have z4 : w3.frozen? ⟨G, 4, none⟩ = false := hkG.frozen 4
         have zG3 : G < w3.heap.size := hkG.lt
         have HA := Lib.hid (And.intro hown3 (And.intro hgw hat3))
         clear hown3 hgrow3 hat3 hlt3 hgw hkG))
    all_goals go_wp2_with fail
    all_goals go_ret
    all_goals
      have hend := HM.out.1.clausesTo (w3 := w3) (by rw [HVC.out]; exact HA.out.2.1) HA.out.1 (by rw [HVC.out]; rcases HA.out.2.2 with e | e; exact .inl e; exact .inr (by rw [e]; simp))
      exact ⟨rfl, (HM.out.2.2.1.mono hBw).trans hend.2, _, hend.1⟩
end Go.Proofs.Ytdncchlfeanlmaa
namespace Go.Proofs.Ytdncchlfeanlmaa
open Go.RowKit

set_option maxRecDepth 100000 in
set_option maxHeartbeats 4000000 in
theorem stepK6_any (B G : Nat) (A1 : Option Addr) (c1 : Nat) (A2 : Option Addr) (c2 : Nat) (vF vA vC : Value) (ts : List TermD) (ints : List Bool) (s : JSt) (L : Option Addr) (nl cl : Nat) (lits : List Int) (M : Option Addr) (nm cm : Nat) (nums : List FracD) (ak aa ab : Int) (O : Option Addr) (no co : Nat) (of_ : List Int) (rk rt : Int) (w : World)
    (h : JudgeM w B G A1 c1 A2 c2 vF vA vC ts ints s) (hlits : IntsB w B L nl lits) (hnl : nl ≤ 1000) (hcl : nl ≤ cl) (hclm : cl ≤ maxLen) (hnm : nums.length = nm) (hno : of_.length = no) (hcn : s.cls.length ≤ 100000)
    (hform : formedF s.atoms.length ⟨6, lits, nums, ⟨ak, aa, ab, ⟨of_, rk, rt⟩⟩⟩ = true) (R : Bool)
    (htest : ∀ (W : World) (A3 : Option Addr) (c3 : Nat), StR W W.heap.size G A1 c1 A2 c2 A3 c3 ts ints s.atoms → IntsB W W.heap.size L nl lits → Calls Try.prog 29 #[.pointer (some ⟨G, 0, none⟩), .slice L nl cl] W fun e w' => e = .returned (.bool R) ∧ Below W.heap.size W w') :
    Calls Try.prog 18 #[.pointer (some ⟨G, 0, none⟩), .agg #[.int .i64 6, .slice L nl cl, .slice M nm cm, .int .i64 ak, .int .i64 aa, .int .i64 ab, .slice O no co, .int .i64 rk, .int .i64 rt]] w fun e w' => e = .returned (.bool R) ∧ Below B w w' ∧ (R = true → ∃ vC', JudgeM w' B G A1 c1 A2 c2 vF vA vC' ts ints ⟨s.atoms, s.cls ++ [lits]⟩) := by
  have hb0 : Below w.heap.size w (w.alloc (.cells #[.int .i64 6, .slice L nl cl, .slice M nm cm, .int .i64 ak, .int .i64 aa, .int .i64 ab, .slice O no co, .int .i64 rk, .int .i64 rt] 44)) := (Below.refl _ _).alloc (Nat.le_refl _) _
  have hk0 := Blk.new w 44 #[.int .i64 6, .slice L nl cl, .slice M nm cm, .int .i64 ak, .int .i64 aa, .int .i64 ab, .slice O no co, .int .i64 rk, .int .i64 rt]
  have hBw := h.hBw
  obtain ⟨A3, c3, hvA, hc3, hc3m, hst⟩ := (h.later hb0).reads
  have hF := formed_any G A3 s.atoms.length c3 6 L nl cl lits M nm cm nums ak aa ab O no co of_ rk rt _ hst.q2 hst.lt hst.l3 ((hlits.below stays_int (hb0.mono hBw) (Nat.le_refl _)).keep stays_int (fun b hb => Nat.lt_of_lt_of_le hb (Nat.le_trans hBw hb0.size)) (fun _ _ _ => rfl)) (by omega) hcl hnm hno
  rw [hform] at hF
  have HF := Lib.hid hF
  have HK := Lib.hid (And.intro hb0 hk0)
  have H := Lib.hid (And.intro h (And.intro hlits htest))
  clear hst hvA hc3 hc3m hF hb0 hk0 h hlits htest hform
  go_enter Try.func18, Try.ntmps18
  go_wp2_with fail
  refine HF.out.mono ?_
  rintro e w9 ⟨rfl, hb9⟩
  have hbw : Below w.heap.size w w9 := HK.out.1.trans (hb9.mono HK.out.1.size)
  have hkb : Blk w9 w.heap.size 44 #[.int .i64 6, .slice L nl cl, .slice M nm cm, .int .i64 ak, .int .i64 aa, .int .i64 ab, .slice O no co, .int .i64 rk, .int .i64 rt] := (hb9.block _ HK.out.2.lt).trans HK.out.2
  have b0 : w9.cell? ⟨w.heap.size, 0, none⟩ = some (.int .i64 6) := hkb.cell 0
  have b1 : w9.cell? ⟨w.heap.size, 1, none⟩ = some (.slice L nl cl) := hkb.cell 1
  obtain ⟨A3, c3, hvA, hc3, hc3m, hst⟩ := (H.out.1.later hbw).reads
  have HT := Lib.hid (H.out.2.2 w9 A3 c3 hst ((H.out.2.1.below stays_int (hbw.mono hBw) (Nat.le_refl _)).keep stays_int (fun b hb => Nat.lt_of_lt_of_le hb (Nat.le_trans hBw hbw.size)) (fun _ _ _ => rfl)))
  have HB9 := Lib.hid (And.intro hbw hkb)
  clear hst hvA hc3 hc3m hbw hkb hb9
  go_wp2_with fail
  refine HT.out.mono ?_
  rintro e w8 ⟨rfl, hb8⟩
  have hbw : Below w.heap.size w w8 := HB9.out.1.trans (hb8.mono HB9.out.1.size)
  have hkb : Blk w8 w.heap.size 44 #[.int .i64 6, .slice L nl cl, .slice M nm cm, .int .i64 ak, .int .i64 aa, .int .i64 ab, .slice O no co, .int .i64 rk, .int .i64 rt] := (hb8.block _ HB9.out.2.lt).trans HB9.out.2
  have d1 : w8.cell? ⟨w.heap.size, 1, none⟩ = some (.slice L nl cl) := hkb.cell 1
  have HM := Lib.hid (And.intro (H.out.1.later hbw) (And.intro (H.out.2.1.below stays_int (hbw.mono hBw) (Nat.le_refl _)) (And.intro hbw hkb.lt)))
  clear hbw hkb hb8 b0 b1
  cases R with
  | false =>
    go_wp2_with fail
    go_ret
    exact ⟨rfl, HM.out.2.2.1.mono hBw, fun h => by cases h⟩
  | true =>
    obtain ⟨A4, c4, hvC, hc4, hc4m, hcl4⟩ := HM.out.1.clauses
    have q4 : w8.cell? ⟨G, 4, none⟩ = some (.slice A4 s.cls.length c4) := by rw [← hvC]; exact HM.out.1.blk.cell 4
    obtain ⟨nc, hnc⟩ : ∃ nc, s.cls.length = nc := ⟨_, rfl⟩
    rw [hnc] at hvC q4 hcl4 hc4
    have HN := Lib.hid hnc
    have HVC := Lib.hid hvC
    have hGw : G < w8.heap.size := HM.out.1.blk.lt
    have hsw : w.heap.size < w8.heap.size := HM.out.2.2.2
    have HBC : Hid (∀ b, (Value.slice A4 nc c4).ownBlock = some b → B ≤ b) := fun b hb => (HM.out.1.c.lt b (by rw [hvC]; exact hb)).1
    clear hvC hcl4 hc4 hnc
    go_wp2_with fail
    go_region_law (first
      | (refine step_append_item (by rfl) _ _ _ (by rfl) rowLits (tells_arr stays_int) (v := .slice A4 nc c4) (xs := s.cls) (base := B) (S := fun b => b < B) (by rfl)
          (.inl ((HVC.out ▸ HM.out.1.c).kept (tells_arr stays_int) (row := none) (by first | exact only_drew (only_alloc (only_refl _ none) _) | exact only_alloc (only_drew (only_refl _ none)) _) (by cases A4 <;> simp [Value.ownBlock]) (fun b hb => ⟨hb, by omega, by simp⟩))) (g := w8.heap.size) (cs := #[.slice L nl cl]) (by rfl)
          (by first | exact Blk.drew (Blk.new w8 _ _) | exact Blk.new w8.drew _ _) (y := lits) ⟨L, nl, cl, rfl, hcl, hclm, HM.out.2.1.keep stays_int (fun _ h => h) (fun b o hb => (only_cell (row := none) (by first | exact only_drew (only_alloc (only_refl w8 none) _) | exact only_alloc (only_drew (only_refl w8 none)) _) (by omega) (by simp)))⟩ (fun b hb => ⟨by first | omega | (simp; omega), fun e => by have := (HBC.out _ e); omega⟩) (by have := HN.out; unfold maxLen; omega) (by have := HN.out; omega) (by first | omega | (simp; omega)) ?_
         intro ga ca w3 hown3 hgrow3 hat3 hlt3
         have hgw : w8.grownBy w3 (Value.slice A4 nc c4).ownBlock := only_trans (only_drew (only_alloc (only_refl w8 _) _)) hgrow3
         have hkG : Blk w3 G 60 _ := Blk.grown HM.out.1.blk hgw (by rw [← HVC.out]; exact Ne.symm HM.out.1.n2)
         have y4 : w3.cell? ⟨G, 4, none⟩ = some (.slice A4 nc c4) := (hkG.cell 4).trans (by rw [← HVC.out]; rfl)
         have z4 : w3.frozen? ⟨G, 4, none⟩ = false := hkG.frozen 4
         have zG3 : G < w3.heap.size := hkG.lt
         have HA := Lib.hid (And.intro hown3 (And.intro hgw hat3))
         clear hown3 hgrow3 hat3 hlt3 hgw hkG))
    all_goals go_wp2_with fail
    all_goals go_ret
    all_goals
      have hend := HM.out.1.clausesTo (w3 := w3) (by rw [HVC.out]; exact HA.out.2.1) HA.out.1 (by rw [HVC.out]; rcases HA.out.2.2 with e | e; exact .inl e; exact .inr (by rw [e]; simp))
      exact ⟨rfl, (HM.out.2.2.1.mono hBw).trans hend.2, _, hend.1⟩
end Go.Proofs.Ytdncchlfeanlmaa
