/- Walk: judge.step at a step of kind 1 (printed by genJuEE.py). · Walk: judge.step at kind 2 (drop); NOT BUILT to its end. · Walk: judge.step at a step of kind 4 (printed by genJuEE.py). -/
import Derived.Test.YtdncchlfeanlmaaJuEX
import Derived.Test.YtdncchlfeanlmaaJuS
import Derived.Deep.RegionLaw
import Derived.Lib.QuietBelow
import Derived.Test.YtdncchlfeanlmaaJuCCD
import Derived.Test.YtdncchlfeanlmaaJuPT
import Derived.Test.YtdncchlfeanlmaaJuQR
import Derived.IntWalk
namespace Go.Proofs.Ytdncchlfeanlmaa
open Go.RowKit

set_option maxRecDepth 100000 in
set_option maxHeartbeats 4000000 in
theorem stepK1_any (B G : Nat) (A1 : Option Addr) (c1 : Nat) (A2 : Option Addr) (c2 : Nat) (vF vA vC : Value) (ts : List TermD) (ints : List Bool) (s : JSt) (L : Option Addr) (nl cl : Nat) (lits : List Int) (M : Option Addr) (nm cm : Nat) (nums : List FracD) (ak aa ab : Int) (O : Option Addr) (no co : Nat) (of_ : List Int) (rk rt : Int) (w : World)
    (h : JudgeM w B G A1 c1 A2 c2 vF vA vC ts ints s) (hlits : IntsB w B L nl lits) (hnl : nl ≤ 1000) (hcl : nl ≤ cl) (hclm : cl ≤ maxLen) (hnm : nums.length = nm) (hno : of_.length = no) (hcn : s.cls.length ≤ 100000)
    (hform : formedF s.atoms.length ⟨1, lits, nums, ⟨ak, aa, ab, ⟨of_, rk, rt⟩⟩⟩ = true) (R : Bool)
    (htest : ∀ (W : World) (A3 : Option Addr) (c3 : Nat), ArrB (AtArr AtInt 1) 1 W W.heap.size A3 s.cls.length s.cls → IntsB W W.heap.size L nl lits → Calls Try.prog 26 #[.slice A3 s.cls.length c3, .slice L nl cl] W fun e w' => e = .returned (.bool R) ∧ Below W.heap.size W w') :
    Calls Try.prog 18 #[.pointer (some ⟨G, 0, none⟩), .agg #[.int .i64 1, .slice L nl cl, .slice M nm cm, .int .i64 ak, .int .i64 aa, .int .i64 ab, .slice O no co, .int .i64 rk, .int .i64 rt]] w fun e w' => e = .returned (.bool R) ∧ Below B w w' ∧ (R = true → ∃ vC', JudgeM w' B G A1 c1 A2 c2 vF vA vC' ts ints ⟨s.atoms, s.cls ++ [lits]⟩) := by
  have hb0 : Below w.heap.size w (w.alloc (.cells #[.int .i64 1, .slice L nl cl, .slice M nm cm, .int .i64 ak, .int .i64 aa, .int .i64 ab, .slice O no co, .int .i64 rk, .int .i64 rt] 44)) := (Below.refl _ _).alloc (Nat.le_refl _) _
  have hk0 := Blk.new w 44 #[.int .i64 1, .slice L nl cl, .slice M nm cm, .int .i64 ak, .int .i64 aa, .int .i64 ab, .slice O no co, .int .i64 rk, .int .i64 rt]
  have hBw := h.hBw
  obtain ⟨A3, c3, hvA, hc3, hc3m, hst⟩ := (h.later hb0).reads
  have hF := formed_any G A3 s.atoms.length c3 1 L nl cl lits M nm cm nums ak aa ab O no co of_ rk rt _ hst.q2 hst.lt hst.l3 ((hlits.below stays_int (hb0.mono hBw) (Nat.le_refl _)).keep stays_int (fun b hb => Nat.lt_of_lt_of_le hb (Nat.le_trans hBw hb0.size)) (fun _ _ _ => rfl)) (by omega) hcl hnm hno
  rw [hform] at hF
  have HF := Lib.hid hF
  have HK := Lib.hid (And.intro hb0 hk0)
  have H := Lib.hid (And.intro h (And.intro hlits htest))
  clear hst hvA hc3 hc3m hF hb0 hk0 h hlits htest hform
  go_enter Try.func18, Try.ntmps18
  go_wp2_with fail
  refine HF.out.mono ?_
  rintro e w9 ⟨rfl, hb9⟩
  have hbw : Below w.heap.size w w9 := HK.out.1.trans (hb9.mono HK.out.1.size)
  have hkb : Blk w9 w.heap.size 44 #[.int .i64 1, .slice L nl cl, .slice M nm cm, .int .i64 ak, .int .i64 aa, .int .i64 ab, .slice O no co, .int .i64 rk, .int .i64 rt] := (hb9.block _ HK.out.2.lt).trans HK.out.2
  have b0 : w9.cell? ⟨w.heap.size, 0, none⟩ = some (.int .i64 1) := hkb.cell 0
  have b1 : w9.cell? ⟨w.heap.size, 1, none⟩ = some (.slice L nl cl) := hkb.cell 1
  obtain ⟨A3, c3, hvC0, hc3, hc3m, hcl3⟩ := (H.out.1.later hbw).clauses
  have q40 : w9.cell? ⟨G, 4, none⟩ = some (.slice A3 s.cls.length c3) := by rw [← hvC0]; exact (H.out.1.later hbw).blk.cell 4
  obtain ⟨n4, hn4⟩ : ∃ n, s.cls.length = n := ⟨_, rfl⟩
  have ht := H.out.2.2
  rw [hn4] at q40 hcl3 ht
  have hT : ∀ d os, Calls Try.prog 26 #[.slice A3 n4 c3, .slice L nl cl] (Sort.grow (redrawn w9 d) os) fun e w'' => e = .returned (.bool R) ∧ ∃ p : Regrown, w'' = Sort.grow (redrawn w9 p.d) p.os := fun d os => by
    have hbx := below_regrown w9 d os
    exact Calls.regrown_of (ht _ A3 c3 (hcl3.below (stays_arr stays_int) hbx hbx.size) ((H.out.2.1.below stays_int (hbw.mono hBw) (Nat.le_refl _)).keep stays_int (fun b hb => Nat.lt_of_lt_of_le hb (Nat.le_trans (Nat.le_trans hBw hbw.size) hbx.size)) (fun b o hb => hbx.cell (p := ⟨b, o, none⟩) (Nat.lt_of_lt_of_le hb (Nat.le_trans hBw hbw.size)))))
  have HT := Lib.hid hT
  have HB9 := Lib.hid (And.intro hbw hkb)
  have r1 := cell_regrown b1
  have r4 := cell_regrown q40
  clear hvC0 hc3 hc3m hbw hkb hb9 hcl3 ht hT hn4
  go_wp2_with fail
  refine wp_region_quiet_below (by kernel_rfl) (by kernel_rfl) ?_
  repeat (with_reducible refine wpQuiet_step (fun K hK => ?_); go_simp; first | (with_reducible refine hK _ ?_; clear hK K) | (apply Exists.intro; with_reducible refine ⟨fun _ => ?_, hK _ ?_⟩; (go_at_call 26; with_reducible exact HT.out _ _); clear hK K))
  with_reducible refine wpQuiet_nil ?_
  intro _ hw'
  obtain ⟨⟨dq, osq⟩, hw''⟩ := hw'
  subst hw''
  have hb8 := below_regrown w9 dq osq
  clear r1 r4 q40
  generalize Sort.grow (redrawn w9 dq) osq = w8 at hb8 ⊢
  have hbw : Below w.heap.size w w8 := HB9.out.1.trans (hb8.mono HB9.out.1.size)
  have hkb : Blk w8 w.heap.size 44 #[.int .i64 1, .slice L nl cl, .slice M nm cm, .int .i64 ak, .int .i64 aa, .int .i64 ab, .slice O no co, .int .i64 rk, .int .i64 rt] := (hb8.block _ HB9.out.2.lt).trans HB9.out.2
  have d1 : w8.cell? ⟨w.heap.size, 1, none⟩ = some (.slice L nl cl) := hkb.cell 1
  have HM := Lib.hid (And.intro (H.out.1.later hbw) (And.intro (H.out.2.1.below stays_int (hbw.mono hBw) (Nat.le_refl _)) (And.intro hbw hkb.lt)))
  clear hbw hkb hb8 b0 b1
  cases R with
  | false =>
    go_wp2_with fail
    go_ret
    exact ⟨rfl, HM.out.2.2.1.mono hBw, fun h => by cases h⟩
  | true =>
    obtain ⟨A4, c4, hvC, hc4, hc4m, hcl4⟩ := HM.out.1.clauses
    have q4 : w8.cell? ⟨G, 4, none⟩ = some (.slice A4 s.cls.length c4) := by rw [← hvC]; exact HM.out.1.blk.cell 4
    obtain ⟨nc, hnc⟩ : ∃ nc, s.cls.length = nc := ⟨_, rfl⟩
    rw [hnc] at hvC q4 hcl4 hc4
    have HN := Lib.hid hnc
    have HVC := Lib.hid hvC
    have hGw : G < w8.heap.size := HM.out.1.blk.lt
    have hsw : w.heap.size < w8.heap.size := HM.out.2.2.2
    have HBC : Hid (∀ b, (Value.slice A4 nc c4).ownBlock = some b → B ≤ b) := fun b hb => (HM.out.1.c.lt b (by rw [hvC]; exact hb)).1
    clear hvC hcl4 hc4 hnc
    go_wp2_with fail
    go_region_law (first
      | (refine step_append_item (by rfl) _ _ _ (by rfl) rowLits (tells_arr stays_int) (v := .slice A4 nc c4) (xs := s.cls) (base := B) (S := fun b => b < B) (by rfl)
          (.inl ((HVC.out ▸ HM.out.1.c).kept (tells_arr stays_int) (row := none) (by first | exact only_drew (only_alloc (only_refl _ none) _) | exact only_alloc (only_drew (only_refl _ none)) _) (by cases A4 <;> simp [Value.ownBlock]) (fun b hb => ⟨hb, by omega, by simp⟩))) (g := w8.heap.size) (cs := #[.slice L nl cl]) (by rfl)
          (by first | exact Blk.drew (Blk.new w8 _ _) | exact Blk.new w8.drew _ _) (y := lits) ⟨L, nl, cl, rfl, hcl, hclm, HM.out.2.1.keep stays_int (fun _ h => h) (fun b o hb => (only_cell (row := none) (by first | exact only_drew (only_alloc (only_refl w8 none) _) | exact only_alloc (only_drew (only_refl w8 none)) _) (by omega) (by simp)))⟩ (fun b hb => ⟨by first | omega | (simp; omega), fun e => by have := (HBC.out _ e); omega⟩) (by have := HN.out; unfold maxLen; omega) (by have := HN.out; omega) (by first | omega | (simp; omega)) ?_
         intro ga ca w3 hown3 hgrow3 hat3 hlt3
         have hgw : w8.grownBy w3 (Value.slice A4 nc c4).ownBlock := only_trans (only_drew (only_alloc (only_refl w8 _) _)) hgrow3
         have hkG : Blk w3 G 60 _ := Blk.grown HM.out.1.blk hgw (by rw [← HVC.out]; exact Ne.symm HM.out.1.n2)
         have y4 : w3.cell? ⟨G, 4, none⟩ = some (.slice A4 nc c4) := (hkG.cell 4).trans (by rw [← HVC.out]; rfl)
         have z4 : w3.frozen? ⟨G, 4, none⟩ = false := hkG.frozen 4
         have zG3 : G < w3.heap.size := hkG.lt
         have HA := Lib.hid (And.intro hown3 (And.intro hgw hat3))
         clear hown3 hgrow3 hat3 hlt3 hgw hkG))
    all_goals go_wp2_with fail
    all_goals go_ret
    all_goals
      have hend := HM.out.1.clausesTo (w3 := w3) (by rw [HVC.out]; exact HA.out.2.1) HA.out.1 (by rw [HVC.out]; rcases HA.out.2.2 with e | e; exact .inl e; exact .inr (by rw [e]; simp))
      exact ⟨rfl, (HM.out.2.2.1.mono hBw).trans hend.2, _, hend.1⟩
end Go.Proofs.Ytdncchlfeanlmaa
namespace Go.Proofs.Ytdncchlfeanlmaa
open Go.RowKit

theorem idx_lt {α : Type} (p : α → Bool) : ∀ (l : List α) (k : Int), 0 ≤ k → 0 ≤ idx p l k → idx p l k < k + l.length
  | [], k, _, h => by simp [idx] at h
  | x :: r, k, hk, h => by
    have := idx_lt p r (k + 1) (by omega)
    cases hx : p x <;> simp [idx, hx] at this h ⊢ <;> omega
set_option maxRecDepth 100000 in
set_option maxHeartbeats 4000000 in
theorem stepK2_any (B G : Nat) (A1 : Option Addr) (c1 : Nat) (A2 : Option Addr) (c2 : Nat) (vF vA vC : Value) (ts : List TermD) (ints : List Bool) (s : JSt) (L : Option Addr) (nl cl : Nat) (lits : List Int) (M : Option Addr) (nm cm : Nat) (nums : List FracD) (ak aa ab : Int) (O : Option Addr) (no co : Nat) (of_ : List Int) (rk rt : Int) (w : World)
    (h : JudgeM w B G A1 c1 A2 c2 vF vA vC ts ints s) (hlits : IntsB w B L nl lits) (hnl : nl ≤ 1000) (hcl : nl ≤ cl) (_ : cl ≤ maxLen) (hnm : nums.length = nm) (hno : of_.length = no) (hcn : s.cls.length ≤ 100000)
    (hform : formedF s.atoms.length ⟨2, lits, nums, ⟨ak, aa, ab, ⟨of_, rk, rt⟩⟩⟩ = true) (hcs : ∀ x ∈ s.cls, x.length ≤ 1000) :
    Calls Try.prog 18 #[.pointer (some ⟨G, 0, none⟩), .agg #[.int .i64 2, .slice L nl cl, .slice M nm cm, .int .i64 ak, .int .i64 aa, .int .i64 ab, .slice O no co, .int .i64 rk, .int .i64 rt]] w fun e w' => e = .returned (.bool (s.cls.any fun c => permB c lits)) ∧ Below B w w' ∧ ((s.cls.any fun c => permB c lits) = true → ∃ vC', JudgeM w' B G A1 c1 A2 c2 vF vA vC' ts ints ⟨s.atoms, s.cls.eraseIdx (idx (fun c => permB c lits) s.cls 0).toNat⟩) := by
  have hb0 : Below w.heap.size w (w.alloc (.cells #[.int .i64 2, .slice L nl cl, .slice M nm cm, .int .i64 ak, .int .i64 aa, .int .i64 ab, .slice O no co, .int .i64 rk, .int .i64 rt] 44)) := (Below.refl _ _).alloc (Nat.le_refl _) _
  have hk0 := Blk.new w 44 #[.int .i64 2, .slice L nl cl, .slice M nm cm, .int .i64 ak, .int .i64 aa, .int .i64 ab, .slice O no co, .int .i64 rk, .int .i64 rt]
  have hBw := h.hBw
  obtain ⟨A3, c3, hvA, hc3, hc3m, hst⟩ := (h.later hb0).reads
  have hF := formed_any G A3 s.atoms.length c3 2 L nl cl lits M nm cm nums ak aa ab O no co of_ rk rt _ hst.q2 hst.lt hst.l3 ((hlits.below stays_int (hb0.mono hBw) (Nat.le_refl _)).keep stays_int (fun b hb => Nat.lt_of_lt_of_le hb (Nat.le_trans hBw hb0.size)) (fun _ _ _ => rfl)) (by omega) hcl hnm hno
  rw [hform] at hF
  have HF := Lib.hid hF
  have HK := Lib.hid (And.intro hb0 hk0)
  have H := Lib.hid (And.intro h (And.intro hlits hcs))
  clear hst hvA hc3 hc3m hF hb0 hk0 h hlits hcs hform
  go_enter Try.func18, Try.ntmps18
  go_wp2_with fail
  refine HF.out.mono ?_
  rintro e w9 ⟨rfl, hb9⟩
  have hbw : Below w.heap.size w w9 := HK.out.1.trans (hb9.mono HK.out.1.size)
  have hkb : Blk w9 w.heap.size 44 #[.int .i64 2, .slice L nl cl, .slice M nm cm, .int .i64 ak, .int .i64 aa, .int .i64 ab, .slice O no co, .int .i64 rk, .int .i64 rt] := (hb9.block _ HK.out.2.lt).trans HK.out.2
  have b0 : w9.cell? ⟨w.heap.size, 0, none⟩ = some (.int .i64 2) := hkb.cell 0
  have b1 : w9.cell? ⟨w.heap.size, 1, none⟩ = some (.slice L nl cl) := hkb.cell 1
  have HS := Lib.hid (sorted_any L nl cl lits w9 ((H.out.2.1.below stays_int (hbw.mono hBw) (Nat.le_refl _)).keep stays_int (fun b hb => Nat.lt_of_lt_of_le hb (Nat.le_trans hBw hbw.size)) (fun _ _ _ => rfl)) hnl)
  have HB9 := Lib.hid (And.intro hbw hkb)
  clear hbw hkb hb9
  go_wp2_with fail
  refine HS.out.mono ?_
  rintro e w8 ⟨vS, rfl, hownS, hb8⟩
  obtain ⟨Y, cy, rfl, hcy, hcym, harY⟩ := hownS.reads
  have hll : (srtI lits).length = nl := by rw [srtI_len]; exact H.out.2.1.len
  rw [hll] at harY ⊢
  clear hll
  have HM := Lib.hid (And.intro (H.out.1.later (HB9.out.1.trans (hb8.mono HB9.out.1.size))) (And.intro harY (HB9.out.1.trans (hb8.mono HB9.out.1.size))))
  have eg := enters_of Try.func32 (by kernel_rfl) rfl
  have hbb : Below w8.heap.size w8 (w8.alloc (.cells #[.slice Y nl cy] 31)) := (Below.refl _ _).alloc (Nat.le_refl _) _
  have hMb := HM.out.1.later hbb
  obtain ⟨A4, c4, hvC, hc4, hc4m, hcl4⟩ := hMb.clauses
  have q4 : (w8.alloc (.cells #[.slice Y nl cy] 31)).cell? ⟨G, 4, none⟩ = some (.slice A4 s.cls.length c4) := by rw [← hvC]; exact hMb.blk.cell 4
  obtain ⟨r, hr⟩ : ∃ r, idx (fun y => decide (srtI y = srtI lits)) s.cls 0 = r := ⟨_, rfl⟩
  have hIX := indexCls_any 32 #[.pointer (some ⟨w8.heap.size, 0, none⟩)] eg (fun y => decide (srtI y = srtI lits)) A4 s.cls.length c4 s.cls r (w8.alloc (.cells #[.slice Y nl cy] 31)) hcl4 (by omega) (fun W A n c x hx hb hxs hnc => (step1_any w8.heap.size A n c x Y nl cy (srtI lits) W (Nat.lt_of_lt_of_le (by simp) hb.size) ((hb.cell (p := ⟨w8.heap.size, 0, none⟩) (by simp)).trans (by simp)) hxs (harY.keep stays_int (fun b h => Nat.lt_of_lt_of_le h.2.1 (Nat.le_trans hbb.size hb.size)) (fun b o h => ((hbb.trans (hb.mono hbb.size)).cell (p := ⟨b, o, none⟩) h.2.1))) (by have := hxs.len; have := H.out.2.2 x hx; omega) (by omega)).mono fun _ _ ⟨h1, h2⟩ => ⟨h1, hb.trans (h2.mono hb.size)⟩) hr
  have HIX := Lib.hid hIX
  have HMb := Lib.hid (And.intro hMb (And.intro hvC hr))
  clear hownS hcy hcym harY hb8 b0 b1 hbb hMb hvC hc4 hc4m hcl4 hr hIX eg
  go_wp2_with fail
  refine HIX.out.mono ?_
  rintro e w7 ⟨rfl, hb7⟩
  have hM7 := HMb.out.1.later hb7
  have hBb : Below B w w7 := (HM.out.2.2.mono hBw).trans (((Below.refl w8.heap.size w8).alloc (Nat.le_refl _) _ |>.trans (hb7.mono (by simp))).mono (Nat.le_trans hBw HM.out.2.2.size))
  have q7 : w7.cell? ⟨G, 4, none⟩ = some (.slice A4 s.cls.length c4) := by rw [← HMb.out.2.1]; exact hM7.blk.cell 4
  have z7 : w7.frozen? ⟨G, 4, none⟩ = false := hM7.blk.frozen 4
  have hp : (fun c => permB c lits) = fun y => decide (srtI y = srtI lits) := funext fun c => permB_srt c lits
  have hany : (s.cls.any fun c => permB c lits) = decide (0 ≤ r) := by rw [hp, ← idx_any _ _ 0 (by omega), HMb.out.2.2]
  have hrr : idx (fun c => permB c lits) s.cls 0 = r := by rw [hp]; exact HMb.out.2.2
  have HB7 := Lib.hid (And.intro hM7 (And.intro hBb (And.intro hany hrr)))
  clear hM7 hBb hp hany hrr hb7
  by_cases h0 : r < 0
  · have h0' : ¬ 0 ≤ r := by omega
    go_wp2_with fail
    go_ret
    exact ⟨ret_bool (by rw [HB7.out.2.2.1]; first | done | simp [h0'] | rfl), HB7.out.2.1, fun h => absurd (of_decide_eq_true (HB7.out.2.2.1 ▸ h)) (by omega)⟩
  · have h0' : 0 ≤ r := by omega
    obtain ⟨i, rfl⟩ : ∃ i : Nat, r = i := ⟨r.toNat, by omega⟩
    have hi : i < s.cls.length := by have := idx_lt (fun y => decide (srtI y = srtI lits)) s.cls 0 (by omega) (by rw [HMb.out.2.2]; exact h0'); rw [HMb.out.2.2] at this; omega
    obtain ⟨g, c, hv, hdel⟩ := deleteCls_any B (fun b => b < B) vC s.cls i w7 HB7.out.1.c hi (fun b hb => ⟨Nat.lt_of_lt_of_le hb HB7.out.1.hBw, fun e => by have := (HB7.out.1.c.lt b e).1; omega⟩)
    rw [HMb.out.2.1] at hv hdel
    rw [show ((i + 1 : Nat) : Int) = (i : Int) + 1 by omega] at hdel
    have HD := Lib.hid hdel
    have HV := Lib.hid hv
    have hwi : IntKind.i64.wrap ((i : Int) + 1) = (i : Int) + 1 := IntWalk.i64_in _ (by omega)
    clear hdel hv hi h0'
    go_wp2_with fail
    with_reducible refine HD.out.mono ?_
    rintro e w6 ⟨rfl, hown6, hg6⟩
    have hg6' : w7.grownBy w6 vC.ownBlock := by rw [HMb.out.2.1, HV.out]; exact hg6
    have hkG : Blk w6 G 60 _ := Blk.grown HB7.out.1.blk hg6' (Ne.symm HB7.out.1.n2)
    have y4 : w6.cell? ⟨G, 4, none⟩ = some vC := hkG.cell 4
    have z4 : w6.frozen? ⟨G, 4, none⟩ = false := hkG.frozen 4
    have hend := HB7.out.1.clausesTo hg6' hown6 (.inl (by rw [HMb.out.2.1, HV.out]; rfl))
    have HE := Lib.hid hend
    clear hend hown6 hg6 hg6' hkG
    go_wp2_with fail
    go_ret
    refine ⟨ret_bool (by rw [HB7.out.2.2.1]; first | done | simp | rfl), HB7.out.2.1.trans HE.out.2, fun _ => ⟨.slice (some ⟨g, 0, none⟩) (s.cls.length - 1) c, ?_⟩⟩
    rw [HB7.out.2.2.2, Int.toNat_natCast]
    exact HE.out.1
end Go.Proofs.Ytdncchlfeanlmaa
namespace Go.Proofs.Ytdncchlfeanlmaa
open Go.RowKit

set_option maxRecDepth 100000 in
set_option maxHeartbeats 4000000 in
theorem stepK4_any (B G : Nat) (A1 : Option Addr) (c1 : Nat) (A2 : Option Addr) (c2 : Nat) (vF vA vC : Value) (ts : List TermD) (ints : List Bool) (s : JSt) (L : Option Addr) (nl cl : Nat) (lits : List Int) (M : Option Addr) (nm cm : Nat) (nums : List FracD) (ak aa ab : Int) (O : Option Addr) (no co : Nat) (of_ : List Int) (rk rt : Int) (w : World)
    (h : JudgeM w B G A1 c1 A2 c2 vF vA vC ts ints s) (hlits : IntsB w B L nl lits) (hnums : ArrB AtFrac 2 w B M nm nums) (hnl : nl ≤ 1000) (hcl : nl ≤ cl) (hclm : cl ≤ maxLen) (hnm : nums.length = nm) (hno : of_.length = no) (hcn : s.cls.length ≤ 100000)
    (hform : formedF s.atoms.length ⟨4, lits, nums, ⟨ak, aa, ab, ⟨of_, rk, rt⟩⟩⟩ = true) (R : Bool)
    (htest : ∀ (W : World) (A3 : Option Addr) (c3 : Nat), StR W W.heap.size G A1 c1 A2 c2 A3 c3 ts ints s.atoms → IntsB W W.heap.size L nl lits → ArrB AtFrac 2 W W.heap.size M nm nums → Calls Try.prog 28 #[.pointer (some ⟨G, 0, none⟩), .agg #[.int .i64 4, .slice L nl cl, .slice M nm cm, .int .i64 ak, .int .i64 aa, .int .i64 ab, .slice O no co, .int .i64 rk, .int .i64 rt]] W fun e w' => e = .returned (.bool R) ∧ Below W.heap.size W w') :
    Calls Try.prog 18 #[.pointer (some ⟨G, 0, none⟩), .agg #[.int .i64 4, .slice L nl cl, .slice M nm cm, .int .i64 ak, .int .i64 aa, .int .i64 ab, .slice O no co, .int .i64 rk, .int .i64 rt]] w fun e w' => e = .returned (.bool R) ∧ Below B w w' ∧ (R = true → ∃ vC', JudgeM w' B G A1 c1 A2 c2 vF vA vC' ts ints ⟨s.atoms, s.cls ++ [lits]⟩) := by
  have hb0 : Below w.heap.size w (w.alloc (.cells #[.int .i64 4, .slice L nl cl, .slice M nm cm, .int .i64 ak, .int .i64 aa, .int .i64 ab, .slice O no co, .int .i64 rk, .int .i64 rt] 44)) := (Below.refl _ _).alloc (Nat.le_refl _) _
  have hk0 := Blk.new w 44 #[.int .i64 4, .slice L nl cl, .slice M nm cm, .int .i64 ak, .int .i64 aa, .int .i64 ab, .slice O no co, .int .i64 rk, .int .i64 rt]
  have hBw := h.hBw
  obtain ⟨A3, c3, hvA, hc3, hc3m, hst⟩ := (h.later hb0).reads
  have hF := formed_any G A3 s.atoms.length c3 4 L nl cl lits M nm cm nums ak aa ab O no co of_ rk rt _ hst.q2 hst.lt hst.l3 ((hlits.below stays_int (hb0.mono hBw) (Nat.le_refl _)).keep stays_int (fun b hb => Nat.lt_of_lt_of_le hb (Nat.le_trans hBw hb0.size)) (fun _ _ _ => rfl)) (by omega) hcl hnm hno
  rw [hform] at hF
  have HF := Lib.hid hF
  have HK := Lib.hid (And.intro hb0 hk0)
  have H := Lib.hid (And.intro h (And.intro hlits htest))
  have HNU := Lib.hid hnums
  clear hst hvA hc3 hc3m hF hb0 hk0 h hlits hnums htest hform
  go_enter Try.func18, Try.ntmps18
  go_wp2_with fail
  refine HF.out.mono ?_
  rintro e w9 ⟨rfl, hb9⟩
  have hbw : Below w.heap.size w w9 := HK.out.1.trans (hb9.mono HK.out.1.size)
  have hkb : Blk w9 w.heap.size 44 #[.int .i64 4, .slice L nl cl, .slice M nm cm, .int .i64 ak, .int .i64 aa, .int .i64 ab, .slice O no co, .int .i64 rk, .int .i64 rt] := (hb9.block _ HK.out.2.lt).trans HK.out.2
  have b0 : w9.cell? ⟨w.heap.size, 0, none⟩ = some (.int .i64 4) := hkb.cell 0
  have b2 : w9.cell? ⟨w.heap.size, 2, none⟩ = some (.slice M nm cm) := hkb.cell 2
  have b3 : w9.cell? ⟨w.heap.size, 3, none⟩ = some (.int .i64 ak) := hkb.cell 3
  have b4 : w9.cell? ⟨w.heap.size, 4, none⟩ = some (.int .i64 aa) := hkb.cell 4
  have b5 : w9.cell? ⟨w.heap.size, 5, none⟩ = some (.int .i64 ab) := hkb.cell 5
  have b6 : w9.cell? ⟨w.heap.size, 6, none⟩ = some (.slice O no co) := hkb.cell 6
  have b7 : w9.cell? ⟨w.heap.size, 7, none⟩ = some (.int .i64 rk) := hkb.cell 7
  have b8 : w9.cell? ⟨w.heap.size, 8, none⟩ = some (.int .i64 rt) := hkb.cell 8
  have b1 : w9.cell? ⟨w.heap.size, 1, none⟩ = some (.slice L nl cl) := hkb.cell 1
  obtain ⟨A3, c3, hvA, hc3, hc3m, hst⟩ := (H.out.1.later hbw).reads
  have HT := Lib.hid (H.out.2.2 w9 A3 c3 hst ((H.out.2.1.below stays_int (hbw.mono hBw) (Nat.le_refl _)).keep stays_int (fun b hb => Nat.lt_of_lt_of_le hb (Nat.le_trans hBw hbw.size)) (fun _ _ _ => rfl)) ((HNU.out.below stays_frac (hbw.mono hBw) (Nat.le_refl _)).keep stays_frac (fun b hb => Nat.lt_of_lt_of_le hb (Nat.le_trans hBw hbw.size)) (fun _ _ _ => rfl)))
  have HB9 := Lib.hid (And.intro hbw hkb)
  clear hst hvA hc3 hc3m hbw hkb hb9
  go_wp2_with fail
  refine HT.out.mono ?_
  rintro e w8 ⟨rfl, hb8⟩
  have hbw : Below w.heap.size w w8 := HB9.out.1.trans (hb8.mono HB9.out.1.size)
  have hkb : Blk w8 w.heap.size 44 #[.int .i64 4, .slice L nl cl, .slice M nm cm, .int .i64 ak, .int .i64 aa, .int .i64 ab, .slice O no co, .int .i64 rk, .int .i64 rt] := (hb8.block _ HB9.out.2.lt).trans HB9.out.2
  have d1 : w8.cell? ⟨w.heap.size, 1, none⟩ = some (.slice L nl cl) := hkb.cell 1
  have HM := Lib.hid (And.intro (H.out.1.later hbw) (And.intro (H.out.2.1.below stays_int (hbw.mono hBw) (Nat.le_refl _)) (And.intro hbw hkb.lt)))
  clear hbw hkb hb8 b0 b1 b2 b3 b4 b5 b6 b7 b8
  cases R with
  | false =>
    go_wp2_with fail
    go_ret
    exact ⟨rfl, HM.out.2.2.1.mono hBw, fun h => by cases h⟩
  | true =>
    obtain ⟨A4, c4, hvC, hc4, hc4m, hcl4⟩ := HM.out.1.clauses
    have q4 : w8.cell? ⟨G, 4, none⟩ = some (.slice A4 s.cls.length c4) := by rw [← hvC]; exact HM.out.1.blk.cell 4
    obtain ⟨nc, hnc⟩ : ∃ nc, s.cls.length = nc := ⟨_, rfl⟩
    rw [hnc] at hvC q4 hcl4 hc4
    have HN := Lib.hid hnc
    have HVC := Lib.hid hvC
    have hGw : G < w8.heap.size := HM.out.1.blk.lt
    have hsw : w.heap.size < w8.heap.size := HM.out.2.2.2
    have HBC : Hid (∀ b, (Value.slice A4 nc c4).ownBlock = some b → B ≤ b) := fun b hb => (HM.out.1.c.lt b (by rw [hvC]; exact hb)).1
    clear hvC hcl4 hc4 hnc
    go_wp2_with fail
    go_region_law (first
      | (refine step_append_item (by rfl) _ _ _ (by rfl) rowLits (tells_arr stays_int) (v := .slice A4 nc c4) (xs := s.cls) (base := B) (S := fun b => b < B) (by rfl)
          (.inl ((HVC.out ▸ HM.out.1.c).kept (tells_arr stays_int) (row := none) (by first | exact only_drew (only_alloc (only_refl _ none) _) | exact only_alloc (only_drew (only_refl _ none)) _) (by cases A4 <;> simp [Value.ownBlock]) (fun b hb => ⟨hb, by omega, by simp⟩))) (g := w8.heap.size) (cs := #[.slice L nl cl]) (by rfl)
          (by first | exact Blk.drew (Blk.new w8 _ _) | exact Blk.new w8.drew _ _) (y := lits) ⟨L, nl, cl, rfl, hcl, hclm, HM.out.2.1.keep stays_int (fun _ h => h) (fun b o hb => (only_cell (row := none) (by first | exact only_drew (only_alloc (only_refl w8 none) _) | exact only_alloc (only_drew (only_refl w8 none)) _) (by omega) (by simp)))⟩ (fun b hb => ⟨by first | omega | (simp; omega), fun e => by have := (HBC.out _ e); omega⟩) (by have := HN.out; unfold maxLen; omega) (by have := HN.out; omega) (by first | omega | (simp; omega)) ?_
         intro ga ca w3 hown3 hgrow3 hat3 hlt3
         have hgw : w8.grownBy w3 (Value.slice A4 nc c4).ownBlock := only_trans (only_drew (only_alloc (only_refl w8 _) _)) hgrow3
         have hkG : Blk w3 G 60 _ := Blk.grown HM.out.1.blk hgw (by rw [← HVC.out]; exact Ne.symm HM.out.1.n2)
         have y4 : w3.cell? ⟨G, 4, none⟩ = some (.slice A4 nc c4) := (hkG.cell 4).trans (by rw [← HVC.out]; rfl)
         have z4 : w3.frozen? ⟨G, 4, none⟩ = false := hkG.frozen 4
         have zG3 : G < w3.heap.size := hkG.lt
         have HA := Lib.hid (And.intro hown3 (And.intro hgw hat3))
         clear hown3 hgrow3 hat3 hlt3 hgw hkG))
    all_goals go_wp2_with fail
    all_goals go_ret
    all_goals
      have hend := HM.out.1.clausesTo (w3 := w3) (by rw [HVC.out]; exact HA.out.2.1) HA.out.1 (by rw [HVC.out]; rcases HA.out.2.2 with e | e; exact .inl e; exact .inr (by rw [e]; simp))
      exact ⟨rfl, (HM.out.2.2.1.mono hBw).trans hend.2, _, hend.1⟩
end Go.Proofs.Ytdncchlfeanlmaa
