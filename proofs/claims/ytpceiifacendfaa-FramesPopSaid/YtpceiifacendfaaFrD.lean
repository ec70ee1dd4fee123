/- Walk: one command on a stack of frames: a clause to be held. -/
import Derived.Test.YtpceiifacendfaaFrC
namespace Go.Proofs.Ytpceiifacendfaa
open Go.RowKit

theorem hold_clone {w wc w1 : World} {g : Nat} {s1 s2 s3 s4 : Value} {r : List Cl} {last : Cl} {vc vf v : Value} {ks : List Int} (h : Stk w g s1 s2 s3 s4 r last vc vf) (hgr : w.grownBy wc none) (hb : Below wc.heap.size wc w1) (hown : OwnInts w1 wc.heap.size v ks) :
    ∃ A c, v = .slice A ks.length c ∧ VRow w1 (StkS w1 g vc vf) [.slice A ks.length c] ks ∧ Stk w1 g s1 s2 s3 s4 r last vc vf := by
  obtain ⟨A, c, rfl, h1, h2, h3⟩ := hown.reads
  have hgl := h.blk.lt
  have hcl := h.cl.lt
  have hfl := h.fr.lt
  have hz := hgr.size
  refine ⟨A, c, rfl, ⟨A, _, c, rfl, h1, h2, h3.keep stays_int (fun b hb => ⟨hb.2.1, by omega, fun e => ?_, fun e => ?_⟩) (fun _ _ _ => rfl)⟩, h.keep (only_trans hgr (only_of_below hb none))⟩
  · have := (hcl b e).2; omega
  · have := (hfl b e).2; omega

set_option maxRecDepth 100000 in
set_option maxHeartbeats 4000000 in
theorem step_hold (g : Nat) (A1 A2 A3 A4 : Option Addr) (n1 c1 n2 c2 n3 c3 n4 c4 : Nat) (F : FormD) (r : List Cl) (last : Cl) (vc vf : Value) (Ad : Option Addr) (nd cd : Nat) (ks : List Int) (w : World)
    (hst : Stk w g (.slice A1 n1 c1) (.slice A2 n2 c2) (.slice A3 n3 c3) (.slice A4 n4 c4) r last vc vf) (hd : IntsB w g Ad nd ks) (hF : FormB w g A1 A2 A3 A4 n1 n2 n3 n4 F) (hok : (formF F).1 = 0) (hlen : nd * 8 ≤ 140737488355328)
    (h4 : n4 ≤ c4) (h4m : c4 ≤ maxLen) (h400 : F.clauses.length ≤ 400) (hcl : (clOf r last).length ≤ 400) :
    Calls Try.prog 52 #[.pointer (some ⟨g, 0, none⟩), .agg #[.int .i64 3, .slice Ad nd cd]] w
      (StepP g (.slice A1 n1 c1) (.slice A2 n2 c2) (.slice A3 n3 c3) (.slice A4 n4 c4) vc vf (cnfF F.atoms.length (F.clauses ++ clOf r (last ++ [ks]))).1 r (last ++ [ks]) w) := by
  have hgl := hst.blk.lt
  have hcll := hst.cl.lt
  obtain ⟨Ac, cc, hvc, hcc, hccm⟩ := hst.cl.len (by unfold maxLen; omega)
  subst hvc
  have x4 : w.cell? ⟨g, 4, none⟩ = some (.slice Ac (clOf r last).length cc) := hst.blk.cell 4
  rcases hq : cnfF F.atoms.length (F.clauses ++ clOf r (last ++ [ks])) with ⟨qc, qa⟩
  have hqf : formF ⟨F.terms, F.ints, F.atoms, F.clauses ++ clOf r (last ++ [ks])⟩ = (qc, qa) := by rw [formF_cl hok]; exact hq
  have hgw : w.grownBy ((w.alloc (.cells #[.int .i64 3, .slice Ad nd cd] 47)).drew) none := only_drew (grown_of_alloc w _)
  have hzd : ((w.alloc (.cells #[.int .i64 3, .slice Ad nd cd] 47)).drew).heap.size = w.heap.size + 1 := by simp
  have hbw : Below g w ((w.alloc (.cells #[.int .i64 3, .slice Ad nd cd] 47)).drew) := below_drewN ((Below.refl g w).alloc (by omega) _) 1
  have HC := Lib.hid (cloneInts_any Ad nd cd ks ((w.alloc (.cells #[.int .i64 3, .slice Ad nd cd] 47)).drew) (hd.below stays_int hbw (by rw [hzd]; omega)) hlen)
  have hlk := hd.len
  have HN := Lib.hid (And.intro hst (And.intro hgw (And.intro hF (And.intro hqf (And.intro hbw (And.intro hcll hlk))))))
  have HZ := Lib.hid hzd
  have HK := Lib.hid hok
  clear hst hd hF hq hqf hgw hzd hbw hcll hlk hok
  rcases Nat.eq_zero_or_pos nd with rfl | hn
  rotate_left
  have hnn : (nd : Int) > 0 := by omega
  all_goals
    go_enter Try.func52, Try.ntmps52
    go_upto_region 16 with fail
    go_region_law (first
      | (refine step_append_item (by rfl) _ _ _ (by rfl) rowRows tells_row' (v := .slice Ac (clOf r last).length cc) (xs := clOf r last) (base := g + 1) (S := StkS (w1.alloc (.cells #[.slice A ks.length c] 31)) g (.slice Ac (clOf r last).length cc) vf) (by rfl) HN2.out.1.cl (g := w1.heap.size) (cs := #[.slice A ks.length c]) (by rfl) HN2.out.2.1 (y := ks) HN2.out.2.2.1 (fun b h => ⟨h.1, h.2.2.1⟩) (by unfold maxLen; omega) (by omega) (by have := HN2.out.2.2.2; omega) ?_
         intro g' cap w3 hown3 hgrow hat hlt3
         have HN3 := Lib.hid (And.intro hown3 (And.intro hgrow (And.intro hat hlt3)))
         have hbk3 := HN2.out.1.blk.grown hgrow (fun e => by have := (HN.out.2.2.2.2.2.1 g e.symm).1; omega)
         have y4 : w3.cell? ⟨g, 4, none⟩ = some (.slice Ac (clOf r last).length cc) := hbk3.cell 4
         have z4 : w3.frozen? ⟨g, 4, none⟩ = false := hbk3.frozen 4
         clear hown3 hgrow hat hlt3 hbk3)
      | (go_simp
         go_at_call 38
         refine HC.out.mono ?_
         rintro e w1 ⟨v, rfl, hown, hb1⟩
         obtain ⟨A, c, rfl, hvr, hst1⟩ := hold_clone HN.out.1 HN.out.2.1 hb1 hown
         have hst2 := hst1.keep (grown_of_alloc w1 (.cells #[.slice A ks.length c] 31))
         have hvr2 : VRow (w1.alloc (.cells #[.slice A ks.length c] 31)) (StkS (w1.alloc (.cells #[.slice A ks.length c] 31)) g (.slice Ac (clOf r last).length cc) vf) [.slice A ks.length c] ks := tells_row'.keep w1 _ _ _ _ _ (fun b hb => ⟨by have := hb.1; simp; omega, hb.2⟩) (fun b o hb => only_cell (grown_of_alloc w1 _) hb.1 (by simp)) hvr
         have hzz : g + 1 ≤ (w1.alloc (.cells #[.slice A ks.length c] 31)).heap.size := hst2.blk.lt
         have HN2 := Lib.hid (And.intro hst2 (And.intro (Blk.new w1 31 #[.slice A ks.length c]) (And.intro hvr2 hzz)))
         have x41 : w1.cell? ⟨g, 4, none⟩ = some (.slice Ac (clOf r last).length cc) := hst1.blk.cell 4
         have hg1 : g < w1.heap.size := hst1.blk.lt
         have HF1 : Hid (Far w w1 g (.slice Ac (clOf r last).length cc) vf) := (Far.of HN.out.2.1 (.inl rfl)).then (Far.of (only_of_below hb1 none) (.inl rfl))
         have HB1 : Hid (Below g w w1) := HN.out.2.2.2.2.1.trans (hb1.mono (by rw [HZ.out]; omega))
         clear hst2 hst1 hvr2 hzz hvr hown hb1)
      | fail)
    all_goals
      obtain ⟨hown3, hgrow, hat, hlt3⟩ := HN3.out
      obtain ⟨hst, hgw, hF, hqf, hbw, hcll, hlk⟩ := HN.out
      have hbel4 : Below g w (w3.setCell ⟨g, 4, none⟩ (.slice (some ⟨g', 0, none⟩) ((clOf r last).length + 1) cap)) := (below_then (HB1.out.alloc (by omega) _) hgrow (by simp; omega) (fun x hx => by have := (hcll x hx).1; omega)).setCell (p := ⟨g, 4, none⟩) (Nat.le_refl _) _
      have hfar4 : Far w (w3.setCell ⟨g, 4, none⟩ (.slice (some ⟨g', 0, none⟩) ((clOf r last).length + 1) cap)) g (.slice Ac (clOf r last).length cc) vf := ((HF1.out.then (Far.of (grown_of_alloc w1 _) (.inl rfl))).then (Far.of hgrow (.inr (.inr (.inl rfl))))).then (Far.of (one_only (only_refl w3 _) 4 _) (.inr (.inl rfl)))
      have hst4 := HN2.out.1.hold hown3 hgrow (by simpa [Value.ownBlock] using hat)
      generalize w3.setCell ⟨g, 4, none⟩ (.slice (some ⟨g', 0, none⟩) ((clOf r last).length + 1) cap) = X at hbel4 hfar4 hst4 ⊢
      have hgx := hst4.blk.lt
      have hlen4 : (clOf r (last ++ [ks])).length = (clOf r last).length + 1 := by rw [clOf_hold]; simp
      have hcl4 := hst4.cl.lt
      obtain ⟨A5, c5, he, h5, h5m, harr⟩ := hst4.cl.reads (E := AtArr AtInt 1) tells_row' (fun _ _ _ _ _ h => atV_arr.1 h) (S' := fun b => b < X.heap.size) (fun b hb => hb.1) (fun b hb => (hcl4 b hb).2) (by unfold maxLen; omega)
      rw [hlen4] at he harr h5
      simp only [Value.slice.injEq, true_and] at he
      obtain ⟨rfl, rfl⟩ := he
      have HSF := Lib.hid (stackForm_any g A1 A2 A3 A4 (some ⟨g', 0, none⟩) n1 c1 n2 c2 n3 c3 n4 c4 ((clOf r last).length + 1) cap vf F (clOf r (last ++ [ks])) (fun b => b < X.heap.size) X (fun b h => h) (hF.below hbel4 (by omega)) hst4.blk (hF.below hbel4 (Nat.le_of_lt hgx)).clauses harr h4 h4m h5 h5m h400 (by omega))
      have HE := Lib.hid (And.intro hbel4 (And.intro hst4 (And.intro hqf hfar4)))
      have hfd := fun W => field_code qc qa W
      clear hown3 hgrow hat hlt3 hst hgw hF hqf hbw hcll hlk hbel4 hst4 hfar4 hcl4 harr h5 h5m HN HN2 HN3 HB1 HF1 x4 x41 y4 z4
      go_wp2_with fail
      refine HSF.out.mono ?_
      rintro e w5 ⟨A, n, c, rfl, hF5, hnc, hb5, -⟩
      have HCK := Lib.hid (formCheck_any A1 A2 A3 A n1 c1 n2 c2 n3 c3 n c ⟨F.terms, F.ints, F.atoms, F.clauses ++ clOf r (last ++ [ks])⟩ qc qa w5 hF5 HE.out.2.2.1)
      have HB5 := Lib.hid hb5
      clear hF5 hb5 HSF
      go_wp2_with fail
      refine HCK.out.mono ?_
      rintro e w6 ⟨rfl, hb6⟩
      go_wp2_with fail
      go_ret
      obtain ⟨hbel4, hst4, hqf, hfar4⟩ := HE.out
      have hb56 := HB5.out.trans (hb6.mono HB5.out.size)
      exact ⟨rfl, hbel4.trans (hb56.mono (by omega)), hfar4.then (Far.of (only_of_below hb56 none) (.inl rfl)), fun _ => ⟨_, _, hst4.keep (only_of_below hb56 none)⟩⟩
end Go.Proofs.Ytpceiifacendfaa
