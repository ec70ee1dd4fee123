/- Walk: what the reference leaves behind the commands. -/
import Derived.Test.YtllgindmcjemeaaFrH
import Derived.Test.YtllgindmcjemeaaFrK
import Derived.Test.YtllgindmcjemeaaCnfC
namespace Go.Proofs.Ytllgindmcjemeaa
open Go.RowKit

theorem blk_after (w : World) (o : Obj) (t : TypeId) (cs : Array Value) : Blk ((w.alloc o).alloc (.cells cs t)) (w.heap.size + 1) t cs := by
  have := Blk.new (w.alloc o) t cs
  rwa [World.size_alloc] at this

set_option maxRecDepth 100000 in
set_option maxHeartbeats 8000000 in
theorem framesLeft_any (A1 A2 A3 A4 : Option Addr) (n1 c1 n2 c2 n3 c3 n4 c4 : Nat) (F : FormD) (L : Option Addr) (n c : Nat) (l : List TermD) (w : World) (hF : FormB w w.heap.size A1 A2 A3 A4 n1 n2 n3 n4 F) (hL : ArrB AtTerm 2 w w.heap.size L n l) (hn : n ≤ 9223372036854775807) (h4 : n4 ≤ c4) (h4m : c4 ≤ maxLen) :
    Calls Try.prog 33 #[.agg #[.slice A1 n1 c1, .slice A2 n2 c2, .slice A3 n3 c3, .slice A4 n4 c4], .slice L n c] w (LeftP F (playRes F l) w) := by
  rcases hq : formF F with ⟨tc, ta⟩
  have hll := hL.len
  obtain ⟨hb0, hbk0, hbr0, hbs0, hs0⟩ := three_boxes w 38 38 24 #[.slice A1 n1 c1, .slice A2 n2 c2, .slice A3 n3 c3, .slice A4 n4 c4] #[.slice none 0 0, .slice none 0 0, .slice none 0 0, .slice none 0 0] #[.int .i64 0, .int .i64 0]
  have HC := Lib.hid (formFault_any A1 A2 A3 A4 n1 c1 n2 c2 n3 c3 n4 c4 F tc ta _ (hF.below hb0 hb0.size) hq)
  have hlen := hF.clauses.len
  have HN := Lib.hid (And.intro hF (And.intro hL (And.intro hq (And.intro hll (And.intro hlen (And.intro hb0 (And.intro hbk0 (And.intro hbr0 (And.intro hbs0 hs0)))))))))
  clear hF hL hq hll hlen hb0 hbk0 hbr0 hbs0 hs0
  by_cases htc : tc = 0
  · subst htc
    by_cases hm : 40 < n
    · have hmm : (n : Int) > 40 := by omega
      go_enter Try.func33, Try.ntmps33
      go_wp2_with fail
      refine HC.out.mono ?_
      rintro e w1 ⟨rfl, hb1⟩
      obtain ⟨hF, hL, hq, hll, hlen, hb0, hbk0, hbr0, hbs0, hs0⟩ := HN.out
      have hbk := hbk0.below hb1 (by omega)
      have hbr := hbr0.below hb1 (by omega)
      have hbs : Blk w1 (w.heap.size + 1 + 1) 24 #[.int .i64 0, .int .i64 0] := hbs0.below hb1 (by omega)
      have hz := hb1.size
      have hz0 : w.heap.size < w1.heap.size := by omega
      have hz1 : w.heap.size + 1 < w1.heap.size := by omega
      have hz2 : w.heap.size + 1 + 1 < w1.heap.size := by omega
      have hbel := hb0.trans (hb1.mono (by omega))
      have f0 := hbr.cell 0
      have f1 := hbr.cell 1
      have f2 := hbr.cell 2
      have f3 := hbr.cell 3
      have g0 := hbs.cell 0
      have g1 := hbs.cell 1
      simp only [List.getElem?_toArray, List.getElem?_cons_zero, List.getElem?_cons_succ] at f0 f1 f2 f3 g0 g1
      have u0 := hbr.frozen 0
      have u1 := hbr.frozen 1
      have u2 := hbr.frozen 2
      have u3 := hbr.frozen 3
      have v0 := hbs.frozen 0
      have v1 := hbs.frozen 1
      have HE := Lib.hid (And.intro hbr (And.intro hbs (And.intro hbel hbk)))
      clear hb0 hbk0 hbr0 hbs0 hs0 hbr hbs hbel hbk hb1 HN HC hz
      have HP : Hid (playRes F l = ((2, -1), [], [])) := by show _ = _; rw [playRes, hq, if_neg (by simp), if_pos (by omega)]
      clear hF hL hq hll hlen
      go_wp2_with fail
      obtain ⟨hbr, hbs, hbel, -⟩ := HE.out
      clear f0 f1 f2 f3 g0 g1 u0 u1 u2 u3 v0 v1 HE
      have y1 := four_blk hbr (.slice none 0 0) (.slice none 0 0) (.slice none 0 0) (.slice none 0 0)
      have y2 := four_only w1 (w.heap.size + 1) (.slice none 0 0) (.slice none 0 0) (.slice none 0 0) (.slice none 0 0)
      have y3 := two_blk (hbs.grown y2 (by simp)) (.int .i64 2) (.int .i64 (-1))
      have y0 := two_only (four w1 (w.heap.size + 1) (.slice none 0 0) (.slice none 0 0) (.slice none 0 0) (.slice none 0 0)) (w.heap.size + 1 + 1) (.int .i64 2) (.int .i64 (-1))
      have y4 := y1.grown y0 (by simp)
      have y5 : Below w.heap.size w (two (four w1 (w.heap.size + 1) (.slice none 0 0) (.slice none 0 0) (.slice none 0 0) (.slice none 0 0)) (w.heap.size + 1 + 1) (.int .i64 2) (.int .i64 (-1))) := two_below (g := (w.heap.size + 1 + 1)) (below_then hbel y2 (by omega) (fun x hx => by injection hx; omega)) (by omega) (.int .i64 2) (.int .i64 (-1))
      have y6 := y2.size
      have y7 := y0.size
      have y8 := y3.alloc (.cells #[.int .i64 0, .int .i64 ta] 24)
      have y9 := y4.alloc (.cells #[.int .i64 0, .int .i64 ta] 24)
      have y10 : Below w.heap.size w ((two (four w1 (w.heap.size + 1) (.slice none 0 0) (.slice none 0 0) (.slice none 0 0) (.slice none 0 0)) (w.heap.size + 1 + 1) (.int .i64 2) (.int .i64 (-1))).alloc (.cells #[.int .i64 0, .int .i64 ta] 24)) := y5.alloc (by omega) _
      have e4 : (((((((w1).setCell ⟨w.heap.size + 1, 0, none⟩ (.slice none 0 0)).setCell ⟨w.heap.size + 1, 1, none⟩ (.slice none 0 0)).setCell ⟨w.heap.size + 1, 2, none⟩ (.slice none 0 0)).setCell ⟨w.heap.size + 1, 3, none⟩ (.slice none 0 0)).setCell ⟨w.heap.size + 1 + 1, 0, none⟩ (.int .i64 2)).setCell ⟨w.heap.size + 1 + 1, 1, none⟩ (.int .i64 (-1))).alloc (.cells #[.int .i64 0, .int .i64 ta] 24) = (two (four w1 (w.heap.size + 1) (.slice none 0 0) (.slice none 0 0) (.slice none 0 0) (.slice none 0 0)) (w.heap.size + 1 + 1) (.int .i64 2) (.int .i64 (-1))).alloc (.cells #[.int .i64 0, .int .i64 ta] 24) := rfl
      rw [e4]
      clear e4 y0 y1 y2 y6 y7
      generalize (two (four w1 (w.heap.size + 1) (.slice none 0 0) (.slice none 0 0) (.slice none 0 0) (.slice none 0 0)) (w.heap.size + 1 + 1) (.int .i64 2) (.int .i64 (-1))).alloc (.cells #[.int .i64 0, .int .i64 ta] 24) = Z at *
      have g0 := y8.cell 0
      have g1 := y8.cell 1
      have f0 := y9.cell 0
      have f1 := y9.cell 1
      have f2 := y9.cell 2
      have f3 := y9.cell 3
      simp only [List.getElem?_toArray, List.getElem?_cons_zero, List.getElem?_cons_succ] at f0 f1 f2 f3 g0 g1
      refine bodyPost_ret (v := .tuple #[.agg #[.slice none 0 0, .slice none 0 0, .slice none 0 0, .slice none 0 0], .agg #[.int .i64 2, .int .i64 (-1)]]) (by simp [results, Try.results33, go_sem, f0, f1, f2, f3, g0, g1]) rfl ?_
      exact .inr ⟨by rw [HP.out]; simp, by rw [HP.out]; exact ⟨rfl, y10⟩⟩
    · have hmm : ¬ ((n : Int) > 40) := by omega
      go_enter Try.func33, Try.ntmps33
      go_wp2_with fail
      refine HC.out.mono ?_
      rintro e w1 ⟨rfl, hb1⟩
      obtain ⟨hF, hL, hq, hll, hlen, hb0, hbk0, hbr0, hbs0, hs0⟩ := HN.out
      have hbk := hbk0.below hb1 (by omega)
      have hbr := hbr0.below hb1 (by omega)
      have hbs : Blk w1 (w.heap.size + 1 + 1) 24 #[.int .i64 0, .int .i64 0] := hbs0.below hb1 (by omega)
      have hz := hb1.size
      have hz0 : w.heap.size < w1.heap.size := by omega
      have hz1 : w.heap.size + 1 < w1.heap.size := by omega
      have hz2 : w.heap.size + 1 + 1 < w1.heap.size := by omega
      have hbel := hb0.trans (hb1.mono (by omega))
      have f0 := hbr.cell 0
      have f1 := hbr.cell 1
      have f2 := hbr.cell 2
      have f3 := hbr.cell 3
      have g0 := hbs.cell 0
      have g1 := hbs.cell 1
      simp only [List.getElem?_toArray, List.getElem?_cons_zero, List.getElem?_cons_succ] at f0 f1 f2 f3 g0 g1
      have u0 := hbr.frozen 0
      have u1 := hbr.frozen 1
      have u2 := hbr.frozen 2
      have u3 := hbr.frozen 3
      have v0 := hbs.frozen 0
      have v1 := hbs.frozen 1
      have HE := Lib.hid (And.intro hbr (And.intro hbs (And.intro hbel hbk)))
      clear hb0 hbk0 hbr0 hbs0 hs0 hbr hbs hbel hbk hb1 HN HC hz
      have HP : Hid (playRes F l = playF F l 0 [] []) := by show _ = _; rw [playRes, hq, if_neg (by simp), if_neg (by omega)]
      have HV : Hid (Inv F [] []) := by
        have h1 := cnfF_many (fine_of (F := F) (by rw [hq])).cnf
        exact ⟨by simp, by simpa [clOf] using h1⟩
      obtain ⟨hbr, hbs, hbel, hbk⟩ := HE.out
      have k3 := hbk.cell 3
      simp only [List.getElem?_toArray, List.getElem?_cons_zero, List.getElem?_cons_succ] at k3
      have hbx0 : Below w1.heap.size w1 ((w1.alloc (.cells #[.int .i64 0, .int .i64 ta] 24)).alloc (.cells #[.slice A4 n4 c4] 36)) := ((Below.refl _ _).alloc (Nat.le_refl _) _).alloc (by simp) _
      have hown0 : OwnFr w.heap.size (w1.heap.size + 1) ((w1.alloc (.cells #[.int .i64 0, .int .i64 ta] 24)).alloc (.cells #[.slice A4 n4 c4] 36)) (w1.heap.size + 1) 1 1 (ownOf F [] []) := by
        have hx := hF.clauses.keep (stays_arr stays_int) (w' := (w1.alloc (.cells #[.int .i64 0, .int .i64 ta] 24)).alloc (.cells #[.slice A4 n4 c4] 36)) (S' := SR w.heap.size (w1.heap.size + 1) ((w1.alloc (.cells #[.int .i64 0, .int .i64 ta] 24)).alloc (.cells #[.slice A4 n4 c4] 36)) (w1.heap.size + 1)) (fun b hb => ⟨.inl hb, by simp; omega, by omega⟩) (fun b o hb => (hbel.trans (hbx0.mono (by omega))).cell (p := ⟨b, o, none⟩) hb)
        have hr := World.ownsRow_lit (base := w1.heap.size + 1) (e := 36) (size := 1) (w1.alloc (.cells #[.int .i64 0, .int .i64 ta] 24)) #[.slice A4 n4 c4] 1 (by simp) (by unfold maxLen; omega) rfl
        rw [World.size_alloc] at hr
        exact ⟨_, hr, [.slice A4 n4 c4], [], rfl, ⟨A4, n4, c4, rfl, h4, h4m, by simpa [ownOf, addF] using hx⟩, rfl⟩
      have hF1 := hF.below (hbel.trans (hbx0.mono (by omega))) (Nat.le_refl w.heap.size)
      have hL1 := hL.below stays_term (hbel.trans (hbx0.mono (by omega))) (Nat.le_refl w.heap.size)
      have hk1 := hbk.below hbx0 hz0
      have hr1 := hbr.below hbx0 hz1
      have hs1 := hbs.below hbx0 hz2
      have hbel1 := hbel.trans (hbx0.mono (by omega))
      have hgz : w1.heap.size + 1 < ((w1.alloc (.cells #[.int .i64 0, .int .i64 ta] 24)).alloc (.cells #[.slice A4 n4 c4] 36)).heap.size := by simp
      have hok : (formF F).1 = 0 := by rw [hq]
      have HX := Lib.hid (And.intro hF1 (And.intro hL1 (And.intro hk1 (And.intro hr1 (And.intro hs1 (And.intro hbel1 (And.intro hown0 (And.intro hok hll))))))))
      clear hF hL hq hll hlen hbr hbs hbel hbk hbx0 hown0 hF1 hL1 hk1 hr1 hs1 hbel1 hok HE
      go_wp2_with fail
      clear k3 f0 f1 f2 f3 g0 g1 u0 u1 u2 u3 v0 v1
      generalize (w1.alloc (.cells #[.int .i64 0, .int .i64 ta] 24)).alloc (.cells #[.slice A4 n4 c4] 36) = W0 at HX hgz ⊢
      generalize hB0 : w1.heap.size + 1 = B0 at HX hgz ⊢
      have hwB : w.heap.size + 1 + 1 < B0 := by omega
      clear hz0 hz1 hz2 hB0
      go_loopw [7, 8] (fun v s wr => ∃ (k : Nat) (r : List Cl) (last : Cl) (g c7 : Nat), k ≤ n ∧ s = .int .i64 k ∧ v = .slice (some ⟨g, 0, none⟩) (r.length + 1) c7 ∧ r.length + 1 ≤ c7 ∧ c7 ≤ 9223372036854775807 ∧ B0 ≤ g ∧ g < wr.heap.size ∧ OwnFr w.heap.size B0 wr g (r.length + 1) c7 (ownOf F r last) ∧ Below B0 W0 wr ∧ Hid (playF F (l.drop k) k r last = playRes F l) ∧ Hid (Inv F r last)) (fun _ s _ => n - (intOf s).toNat)
      case atStart => exact ⟨0, [], [], B0, 1, Nat.zero_le _, rfl, rfl, Nat.le_refl _, by omega, Nat.le_refl _, hgz, HX.out.2.2.2.2.2.2.1, Below.refl _ _, HP.out.symm, HV⟩
      case round =>
        obtain ⟨k, r, last, g, c7, hk, rfl, rfl, hc7, hc7m, hgB, hgw, hown, hbB, HPF, HI⟩ := hrel
        obtain ⟨hF1, hL1, hk1, hr1, hs1, hbel1, -, hok, hll⟩ := HX.out
        have hbw : Below w.heap.size W0 wr := hbB.mono (by omega)
        have hbr := hr1.below hbB (by omega)
        have hbs := hs1.below hbB (by omega)
        have hbk := hk1.below hbB (by omega)
        have hbel := hbel1.trans hbw
        have hzr := hbB.size
        have hw0 : w.heap.size < wr.heap.size := by omega
        have hw1 : w.heap.size + 1 < wr.heap.size := by omega
        have hw2 : w.heap.size + 1 + 1 < wr.heap.size := by omega
        have hinv0 := HI.out
        have f0 := hbr.cell 0
        have f1 := hbr.cell 1
        have f2 := hbr.cell 2
        have f3 := hbr.cell 3
        have g0 := hbs.cell 0
        have g1 := hbs.cell 1
        simp only [List.getElem?_toArray, List.getElem?_cons_zero, List.getElem?_cons_succ] at f0 f1 f2 f3 g0 g1
        have u0 := hbr.frozen 0
        have u1 := hbr.frozen 1
        have u2 := hbr.frozen 2
        have u3 := hbr.frozen 3
        have v0 := hbs.frozen 0
        have v1 := hbs.frozen 1
        by_cases hlt : k < n
        · obtain ⟨b, off, hx, A', n', c', rfl, hb, h0, h1, hnc, hcm, hkids, -, -⟩ := terms_get (hL1.below stays_term hbw (Nat.le_refl _)) hlt
          have e1 := HPF.out
          rw [drop_cons hx, playF] at e1
          generalize l[k] = d at e1 h0 h1 hkids
          obtain ⟨kd, ks⟩ := d
          simp only at h0 h1 hkids
          have hlk := hkids.len
          have hinv := fun h => stepF_inv (d := ⟨kd, ks⟩) HI.out h
          have hfr := HI.out.1
          have HW := Lib.hid (And.intro hbr (And.intro hbs hbel))
          have HK := Lib.hid (And.intro hbk (And.intro hF1 (And.intro hok hbw)))
          clear hF1 hL1 hk1 hr1 hs1 hbel1 hok hll hbr hbs hbel hbw hbk hinv0
          by_cases d1 : kd < 1
          · have hs : stepF F ⟨kd, ks⟩ r last = (4, r, last) := by unfold stepF; dsimp only; rw [if_pos (.inl d1)]
            have HPF2 : Hid (((4, (k : Int)), r, last) = playRes F l) := by rw [hs] at e1; exact e1
            clear e1 hs hinv HPF hlk hkids hown hx hb HI
            go_wp2_with fail
            obtain ⟨hbr, hbs, hbel⟩ := HW.out
            clear f0 f1 f2 f3 g0 g1 u0 u1 u2 u3 v0 v1 HW h0 h1
            have y1 := four_blk hbr (.slice none 0 0) (.slice none 0 0) (.slice none 0 0) (.slice none 0 0)
            have y2 := four_only wr (w.heap.size + 1) (.slice none 0 0) (.slice none 0 0) (.slice none 0 0) (.slice none 0 0)
            have y3 := two_blk (hbs.grown y2 (by simp)) (.int .i64 4) (.int .i64 k)
            have y0 := two_only (four wr (w.heap.size + 1) (.slice none 0 0) (.slice none 0 0) (.slice none 0 0) (.slice none 0 0)) (w.heap.size + 1 + 1) (.int .i64 4) (.int .i64 k)
            have y4 := y1.grown y0 (by simp)
            have y5 : Below w.heap.size w (two (four wr (w.heap.size + 1) (.slice none 0 0) (.slice none 0 0) (.slice none 0 0) (.slice none 0 0)) (w.heap.size + 1 + 1) (.int .i64 4) (.int .i64 k)) := two_below (g := (w.heap.size + 1 + 1)) (below_then hbel y2 (by omega) (fun x hx => by injection hx; omega)) (by omega) (.int .i64 4) (.int .i64 k)
            have y6 := y2.size
            have y7 := y0.size
            have y8 := y3.alloc (.cells #[.int .i64 kd, .slice A' n' c'] 63)
            have y9 := y4.alloc (.cells #[.int .i64 kd, .slice A' n' c'] 63)
            have y10 : Below w.heap.size w ((two (four wr (w.heap.size + 1) (.slice none 0 0) (.slice none 0 0) (.slice none 0 0) (.slice none 0 0)) (w.heap.size + 1 + 1) (.int .i64 4) (.int .i64 k)).alloc (.cells #[.int .i64 kd, .slice A' n' c'] 63)) := y5.alloc (by omega) _
            have e4 : (((((((wr).setCell ⟨w.heap.size + 1, 0, none⟩ (.slice none 0 0)).setCell ⟨w.heap.size + 1, 1, none⟩ (.slice none 0 0)).setCell ⟨w.heap.size + 1, 2, none⟩ (.slice none 0 0)).setCell ⟨w.heap.size + 1, 3, none⟩ (.slice none 0 0)).setCell ⟨w.heap.size + 1 + 1, 0, none⟩ (.int .i64 4)).setCell ⟨w.heap.size + 1 + 1, 1, none⟩ (.int .i64 k)).alloc (.cells #[.int .i64 kd, .slice A' n' c'] 63) = (two (four wr (w.heap.size + 1) (.slice none 0 0) (.slice none 0 0) (.slice none 0 0) (.slice none 0 0)) (w.heap.size + 1 + 1) (.int .i64 4) (.int .i64 k)).alloc (.cells #[.int .i64 kd, .slice A' n' c'] 63) := rfl
            rw [e4]
            clear e4 y0 y1 y2 y6 y7
            generalize (two (four wr (w.heap.size + 1) (.slice none 0 0) (.slice none 0 0) (.slice none 0 0) (.slice none 0 0)) (w.heap.size + 1 + 1) (.int .i64 4) (.int .i64 k)).alloc (.cells #[.int .i64 kd, .slice A' n' c'] 63) = Z at *
            have g0 := y8.cell 0
            have g1 := y8.cell 1
            have f0 := y9.cell 0
            have f1 := y9.cell 1
            have f2 := y9.cell 2
            have f3 := y9.cell 3
            simp only [List.getElem?_toArray, List.getElem?_cons_zero, List.getElem?_cons_succ] at f0 f1 f2 f3 g0 g1
            refine bodyPost_ret (v := .tuple #[.agg #[.slice none 0 0, .slice none 0 0, .slice none 0 0, .slice none 0 0], .agg #[.int .i64 4, .int .i64 k]]) (by simp [results, Try.results33, go_sem, f0, f1, f2, f3, g0, g1]) rfl ?_
            exact .inr ⟨by rw [← HPF2.out]; simp, by rw [← HPF2.out]; exact ⟨rfl, y10⟩⟩
          by_cases d2 : 4 < kd
          · have hs : stepF F ⟨kd, ks⟩ r last = (4, r, last) := by unfold stepF; dsimp only; rw [if_pos (.inr d2)]
            have HPF2 : Hid (((4, (k : Int)), r, last) = playRes F l) := by rw [hs] at e1; exact e1
            clear e1 hs hinv HPF hlk hkids hown hx hb HI
            go_wp2_with fail
            obtain ⟨hbr, hbs, hbel⟩ := HW.out
            clear f0 f1 f2 f3 g0 g1 u0 u1 u2 u3 v0 v1 HW h0 h1
            have y1 := four_blk hbr (.slice none 0 0) (.slice none 0 0) (.slice none 0 0) (.slice none 0 0)
            have y2 := four_only wr (w.heap.size + 1) (.slice none 0 0) (.slice none 0 0) (.slice none 0 0) (.slice none 0 0)
            have y3 := two_blk (hbs.grown y2 (by simp)) (.int .i64 4) (.int .i64 k)
            have y0 := two_only (four wr (w.heap.size + 1) (.slice none 0 0) (.slice none 0 0) (.slice none 0 0) (.slice none 0 0)) (w.heap.size + 1 + 1) (.int .i64 4) (.int .i64 k)
            have y4 := y1.grown y0 (by simp)
            have y5 : Below w.heap.size w (two (four wr (w.heap.size + 1) (.slice none 0 0) (.slice none 0 0) (.slice none 0 0) (.slice none 0 0)) (w.heap.size + 1 + 1) (.int .i64 4) (.int .i64 k)) := two_below (g := (w.heap.size + 1 + 1)) (below_then hbel y2 (by omega) (fun x hx => by injection hx; omega)) (by omega) (.int .i64 4) (.int .i64 k)
            have y6 := y2.size
            have y7 := y0.size
            have y8 := y3.alloc (.cells #[.int .i64 kd, .slice A' n' c'] 63)
            have y9 := y4.alloc (.cells #[.int .i64 kd, .slice A' n' c'] 63)
            have y10 : Below w.heap.size w ((two (four wr (w.heap.size + 1) (.slice none 0 0) (.slice none 0 0) (.slice none 0 0) (.slice none 0 0)) (w.heap.size + 1 + 1) (.int .i64 4) (.int .i64 k)).alloc (.cells #[.int .i64 kd, .slice A' n' c'] 63)) := y5.alloc (by omega) _
            have e4 : (((((((wr).setCell ⟨w.heap.size + 1, 0, none⟩ (.slice none 0 0)).setCell ⟨w.heap.size + 1, 1, none⟩ (.slice none 0 0)).setCell ⟨w.heap.size + 1, 2, none⟩ (.slice none 0 0)).setCell ⟨w.heap.size + 1, 3, none⟩ (.slice none 0 0)).setCell ⟨w.heap.size + 1 + 1, 0, none⟩ (.int .i64 4)).setCell ⟨w.heap.size + 1 + 1, 1, none⟩ (.int .i64 k)).alloc (.cells #[.int .i64 kd, .slice A' n' c'] 63) = (two (four wr (w.heap.size + 1) (.slice none 0 0) (.slice none 0 0) (.slice none 0 0) (.slice none 0 0)) (w.heap.size + 1 + 1) (.int .i64 4) (.int .i64 k)).alloc (.cells #[.int .i64 kd, .slice A' n' c'] 63) := rfl
            rw [e4]
            clear e4 y0 y1 y2 y6 y7
            generalize (two (four wr (w.heap.size + 1) (.slice none 0 0) (.slice none 0 0) (.slice none 0 0) (.slice none 0 0)) (w.heap.size + 1 + 1) (.int .i64 4) (.int .i64 k)).alloc (.cells #[.int .i64 kd, .slice A' n' c'] 63) = Z at *
            have g0 := y8.cell 0
            have g1 := y8.cell 1
            have f0 := y9.cell 0
            have f1 := y9.cell 1
            have f2 := y9.cell 2
            have f3 := y9.cell 3
            simp only [List.getElem?_toArray, List.getElem?_cons_zero, List.getElem?_cons_succ] at f0 f1 f2 f3 g0 g1
            refine bodyPost_ret (v := .tuple #[.agg #[.slice none 0 0, .slice none 0 0, .slice none 0 0, .slice none 0 0], .agg #[.int .i64 4, .int .i64 k]]) (by simp [results, Try.results33, go_sem, f0, f1, f2, f3, g0, g1]) rfl ?_
            exact .inr ⟨by rw [← HPF2.out]; simp, by rw [← HPF2.out]; exact ⟨rfl, y10⟩⟩
          by_cases d3 : 0 < n' ∧ ¬ kd = 3
          · obtain ⟨hn', d33⟩ := d3
            have hs : stepF F ⟨kd, ks⟩ r last = (5, r, last) := by unfold stepF; dsimp only; rw [if_neg (by omega), if_pos ⟨by omega, d33⟩]
            have hq3 : (kd != 3) = true := by simpa using d33
            have hn0 : (n' : Int) > 0 := by omega
            clear d33
            have HPF2 : Hid (((5, (k : Int)), r, last) = playRes F l) := by rw [hs] at e1; exact e1
            clear e1 hs hinv HPF hlk hkids hown hx hb HI
            go_wp2_with fail
            obtain ⟨hbr, hbs, hbel⟩ := HW.out
            clear f0 f1 f2 f3 g0 g1 u0 u1 u2 u3 v0 v1 HW h0 h1
            have y1 := four_blk hbr (.slice none 0 0) (.slice none 0 0) (.slice none 0 0) (.slice none 0 0)
            have y2 := four_only wr (w.heap.size + 1) (.slice none 0 0) (.slice none 0 0) (.slice none 0 0) (.slice none 0 0)
            have y3 := two_blk (hbs.grown y2 (by simp)) (.int .i64 5) (.int .i64 k)
            have y0 := two_only (four wr (w.heap.size + 1) (.slice none 0 0) (.slice none 0 0) (.slice none 0 0) (.slice none 0 0)) (w.heap.size + 1 + 1) (.int .i64 5) (.int .i64 k)
            have y4 := y1.grown y0 (by simp)
            have y5 : Below w.heap.size w (two (four wr (w.heap.size + 1) (.slice none 0 0) (.slice none 0 0) (.slice none 0 0) (.slice none 0 0)) (w.heap.size + 1 + 1) (.int .i64 5) (.int .i64 k)) := two_below (g := (w.heap.size + 1 + 1)) (below_then hbel y2 (by omega) (fun x hx => by injection hx; omega)) (by omega) (.int .i64 5) (.int .i64 k)
            have y6 := y2.size
            have y7 := y0.size
            have y8 := y3.alloc (.cells #[.int .i64 kd, .slice A' n' c'] 63)
            have y9 := y4.alloc (.cells #[.int .i64 kd, .slice A' n' c'] 63)
            have y10 : Below w.heap.size w ((two (four wr (w.heap.size + 1) (.slice none 0 0) (.slice none 0 0) (.slice none 0 0) (.slice none 0 0)) (w.heap.size + 1 + 1) (.int .i64 5) (.int .i64 k)).alloc (.cells #[.int .i64 kd, .slice A' n' c'] 63)) := y5.alloc (by omega) _
            have e4 : (((((((wr).setCell ⟨w.heap.size + 1, 0, none⟩ (.slice none 0 0)).setCell ⟨w.heap.size + 1, 1, none⟩ (.slice none 0 0)).setCell ⟨w.heap.size + 1, 2, none⟩ (.slice none 0 0)).setCell ⟨w.heap.size + 1, 3, none⟩ (.slice none 0 0)).setCell ⟨w.heap.size + 1 + 1, 0, none⟩ (.int .i64 5)).setCell ⟨w.heap.size + 1 + 1, 1, none⟩ (.int .i64 k)).alloc (.cells #[.int .i64 kd, .slice A' n' c'] 63) = (two (four wr (w.heap.size + 1) (.slice none 0 0) (.slice none 0 0) (.slice none 0 0) (.slice none 0 0)) (w.heap.size + 1 + 1) (.int .i64 5) (.int .i64 k)).alloc (.cells #[.int .i64 kd, .slice A' n' c'] 63) := rfl
            rw [e4]
            clear e4 y0 y1 y2 y6 y7
            generalize (two (four wr (w.heap.size + 1) (.slice none 0 0) (.slice none 0 0) (.slice none 0 0) (.slice none 0 0)) (w.heap.size + 1 + 1) (.int .i64 5) (.int .i64 k)).alloc (.cells #[.int .i64 kd, .slice A' n' c'] 63) = Z at *
            have g0 := y8.cell 0
            have g1 := y8.cell 1
            have f0 := y9.cell 0
            have f1 := y9.cell 1
            have f2 := y9.cell 2
            have f3 := y9.cell 3
            simp only [List.getElem?_toArray, List.getElem?_cons_zero, List.getElem?_cons_succ] at f0 f1 f2 f3 g0 g1
            refine bodyPost_ret (v := .tuple #[.agg #[.slice none 0 0, .slice none 0 0, .slice none 0 0, .slice none 0 0], .agg #[.int .i64 5, .int .i64 k]]) (by simp [results, Try.results33, go_sem, f0, f1, f2, f3, g0, g1]) rfl ?_
            exact .inr ⟨by rw [← HPF2.out]; simp, by rw [← HPF2.out]; exact ⟨rfl, y10⟩⟩
          by_cases k1 : kd = 1
          · subst k1
            obtain rfl : n' = 0 := by omega
            by_cases hm : r.length = 20
            · have hs : stepF F ⟨1, ks⟩ r last = (2, r, last) := by unfold stepF; dsimp only; rw [if_neg (by omega), if_neg (by omega), if_pos rfl, if_pos hm]
              have hge : (20 : Int) ≤ (r.length : Int) := by omega
              clear hm
              have HPF2 : Hid (((2, (k : Int)), r, last) = playRes F l) := by rw [hs] at e1; exact e1
              clear e1 hs hinv HPF hlk hkids hown hx hb HI
              go_wp2_with fail
              obtain ⟨hbr, hbs, hbel⟩ := HW.out
              clear f0 f1 f2 f3 g0 g1 u0 u1 u2 u3 v0 v1 HW h0 h1
              have y1 := four_blk hbr (.slice none 0 0) (.slice none 0 0) (.slice none 0 0) (.slice none 0 0)
              have y2 := four_only wr (w.heap.size + 1) (.slice none 0 0) (.slice none 0 0) (.slice none 0 0) (.slice none 0 0)
              have y3 := two_blk (hbs.grown y2 (by simp)) (.int .i64 2) (.int .i64 k)
              have y0 := two_only (four wr (w.heap.size + 1) (.slice none 0 0) (.slice none 0 0) (.slice none 0 0) (.slice none 0 0)) (w.heap.size + 1 + 1) (.int .i64 2) (.int .i64 k)
              have y4 := y1.grown y0 (by simp)
              have y5 : Below w.heap.size w (two (four wr (w.heap.size + 1) (.slice none 0 0) (.slice none 0 0) (.slice none 0 0) (.slice none 0 0)) (w.heap.size + 1 + 1) (.int .i64 2) (.int .i64 k)) := two_below (g := (w.heap.size + 1 + 1)) (below_then hbel y2 (by omega) (fun x hx => by injection hx; omega)) (by omega) (.int .i64 2) (.int .i64 k)
              have y6 := y2.size
              have y7 := y0.size
              have y8 := y3.alloc (.cells #[.int .i64 1, .slice A' 0 c'] 63)
              have y9 := y4.alloc (.cells #[.int .i64 1, .slice A' 0 c'] 63)
              have y10 : Below w.heap.size w ((two (four wr (w.heap.size + 1) (.slice none 0 0) (.slice none 0 0) (.slice none 0 0) (.slice none 0 0)) (w.heap.size + 1 + 1) (.int .i64 2) (.int .i64 k)).alloc (.cells #[.int .i64 1, .slice A' 0 c'] 63)) := y5.alloc (by omega) _
              have e4 : (((((((wr).setCell ⟨w.heap.size + 1, 0, none⟩ (.slice none 0 0)).setCell ⟨w.heap.size + 1, 1, none⟩ (.slice none 0 0)).setCell ⟨w.heap.size + 1, 2, none⟩ (.slice none 0 0)).setCell ⟨w.heap.size + 1, 3, none⟩ (.slice none 0 0)).setCell ⟨w.heap.size + 1 + 1, 0, none⟩ (.int .i64 2)).setCell ⟨w.heap.size + 1 + 1, 1, none⟩ (.int .i64 k)).alloc (.cells #[.int .i64 1, .slice A' 0 c'] 63) = (two (four wr (w.heap.size + 1) (.slice none 0 0) (.slice none 0 0) (.slice none 0 0) (.slice none 0 0)) (w.heap.size + 1 + 1) (.int .i64 2) (.int .i64 k)).alloc (.cells #[.int .i64 1, .slice A' 0 c'] 63) := rfl
              rw [e4]
              clear e4 y0 y1 y2 y6 y7
              generalize (two (four wr (w.heap.size + 1) (.slice none 0 0) (.slice none 0 0) (.slice none 0 0) (.slice none 0 0)) (w.heap.size + 1 + 1) (.int .i64 2) (.int .i64 k)).alloc (.cells #[.int .i64 1, .slice A' 0 c'] 63) = Z at *
              have g0 := y8.cell 0
              have g1 := y8.cell 1
              have f0 := y9.cell 0
              have f1 := y9.cell 1
              have f2 := y9.cell 2
              have f3 := y9.cell 3
              simp only [List.getElem?_toArray, List.getElem?_cons_zero, List.getElem?_cons_succ] at f0 f1 f2 f3 g0 g1
              refine bodyPost_ret (v := .tuple #[.agg #[.slice none 0 0, .slice none 0 0, .slice none 0 0, .slice none 0 0], .agg #[.int .i64 2, .int .i64 k]]) (by simp [results, Try.results33, go_sem, f0, f1, f2, f3, g0, g1]) rfl ?_
              exact .inr ⟨by rw [← HPF2.out]; simp, by rw [← HPF2.out]; exact ⟨rfl, y10⟩⟩
            · have hs : stepF F ⟨1, ks⟩ r last = (0, last :: r, []) := by unfold stepF; dsimp only; rw [if_neg (by omega), if_neg (by omega), if_pos rfl, if_neg hm]
              rw [hs] at e1 hinv
              have hlt20 : ¬ ((20 : Int) ≤ (r.length : Int)) := by omega
              have HPF2 : Hid (playF F (l.drop (k + 1)) ((k : Int) + 1) (last :: r) [] = playRes F l) := e1
              have HI2 : Hid (Inv F (last :: r) []) := hinv rfl
              have hst1 : (wr.alloc (.cells #[.int .i64 1, .slice A' 0 c'] 63)).grownBy ((wr.alloc (.cells #[.int .i64 1, .slice A' 0 c'] 63)).alloc (.cells #[.slice none 0 0] 36)) none := grown_of _ _ _
              have hbn := Blk.new (wr.alloc (.cells #[.int .i64 1, .slice A' 0 c'] 63)) 36 #[.slice none 0 0]
              rw [World.size_alloc] at hbn
              have HO := Lib.hid (And.intro ((hown.step (grown_of wr none (.cells #[.int .i64 1, .slice A' 0 c'] 63))).step hst1) (And.intro hbn hbB))
              clear e1 hs hinv HPF hlk hkids hown hx hb HI hm hst1 hbn hbB HW HK f0 f1 f2 f3 g0 g1 u0 u1 u2 u3 v0 v1
              go_wp2_with (at_builtin; refine wpList_append_item rfl _ _ _ rfl rowRowss tells_rows' (v := .slice (some ⟨g, 0, none⟩) (r.length + 1) c7) (xs := ownOf F r last) (base := B0) (S := SR w.heap.size B0 ((wr.alloc (.cells #[.int .i64 1, .slice A' 0 c'] 63)).alloc (.cells #[.slice none 0 0] 36)) g) rfl HO.out.1 (g := wr.heap.size + 1) (cs := #[.slice none 0 0]) rfl HO.out.2.1 (y := []) ⟨none, 0, 0, rfl, Nat.le_refl _, Nat.zero_le _, Arr.nil_⟩ (fun b hb => ⟨hb.2.1, fun e => hb.2.2 (by simpa [Value.ownBlock] using e.symm)⟩) (by rw [ownOf_len]; unfold maxLen; omega) (by rw [ownOf_len]; omega) (by simp; omega) ?_; intro v' w6 hown6 hgrow6 hat6; have HB6 := Lib.hid (And.intro hown6 (And.intro hgrow6 hat6)); clear hown6 hgrow6 hat6)
              go_roundw
              case rel =>
                obtain ⟨hown6, hgrow6, hat6⟩ := HB6.out
                rw [← ownOf_push] at hown6
                obtain ⟨g8, c8, rfl, hg1, hg2, hg3, hg4⟩ := hown6.form (by rw [ownOf_len]; omega)
                rw [ownOf_len] at hown6 hg3 hat6 ⊢
                rw [ownOf_push] at hown6
                unfold maxLen at hg4
                have hat : g8 = g ∨ g8 = ((wr.alloc (.cells #[.int .i64 1, .slice A' 0 c'] 63)).alloc (.cells #[.slice none 0 0] 36)).heap.size := by simpa [Value.ownBlock] using hat6
                have hz6 := hgrow6.size
                have hfin := OwnFr.push HO.out.1 hown6 hgrow6 hat
                rw [← ownOf_push] at hfin
                exact ⟨k + 1, last :: r, [], g8, c8, by omega, by go_num, rfl, hg3, by omega, hg1, hg2, hfin, below_then ((HO.out.2.2.alloc (by omega) _).alloc (by simp; omega) _) hgrow6 (by simp; omega) (fun x hx => by simp [Value.ownBlock] at hx; omega), by show _ = _; rw [Int.natCast_add]; exact HPF2.out, HI2⟩
              case measure => simp [intOf]; omega
          by_cases k2 : kd = 2
          · subst k2
            obtain rfl : n' = 0 := by omega
            rcases r with _ | ⟨x, r'⟩
            · have hs : stepF F ⟨2, ks⟩ [] last = (11, [], last) := by unfold stepF; dsimp only; rw [if_neg (by omega), if_neg (by omega), if_neg (by omega), if_pos rfl]
              have HPF2 : Hid (((11, (k : Int)), [], last) = playRes F l) := by rw [hs] at e1; exact e1
              clear e1 hs hinv HPF hlk hkids hown hx hb HI
              go_wp2_with fail
              obtain ⟨hbr, hbs, hbel⟩ := HW.out
              clear f0 f1 f2 f3 g0 g1 u0 u1 u2 u3 v0 v1 HW h0 h1
              have y1 := four_blk hbr (.slice none 0 0) (.slice none 0 0) (.slice none 0 0) (.slice none 0 0)
              have y2 := four_only wr (w.heap.size + 1) (.slice none 0 0) (.slice none 0 0) (.slice none 0 0) (.slice none 0 0)
              have y3 := two_blk (hbs.grown y2 (by simp)) (.int .i64 11) (.int .i64 k)
              have y0 := two_only (four wr (w.heap.size + 1) (.slice none 0 0) (.slice none 0 0) (.slice none 0 0) (.slice none 0 0)) (w.heap.size + 1 + 1) (.int .i64 11) (.int .i64 k)
              have y4 := y1.grown y0 (by simp)
              have y5 : Below w.heap.size w (two (four wr (w.heap.size + 1) (.slice none 0 0) (.slice none 0 0) (.slice none 0 0) (.slice none 0 0)) (w.heap.size + 1 + 1) (.int .i64 11) (.int .i64 k)) := two_below (g := (w.heap.size + 1 + 1)) (below_then hbel y2 (by omega) (fun x hx => by injection hx; omega)) (by omega) (.int .i64 11) (.int .i64 k)
              have y6 := y2.size
              have y7 := y0.size
              have y8 := y3.alloc (.cells #[.int .i64 2, .slice A' 0 c'] 63)
              have y9 := y4.alloc (.cells #[.int .i64 2, .slice A' 0 c'] 63)
              have y10 : Below w.heap.size w ((two (four wr (w.heap.size + 1) (.slice none 0 0) (.slice none 0 0) (.slice none 0 0) (.slice none 0 0)) (w.heap.size + 1 + 1) (.int .i64 11) (.int .i64 k)).alloc (.cells #[.int .i64 2, .slice A' 0 c'] 63)) := y5.alloc (by omega) _
              have e4 : (((((((wr).setCell ⟨w.heap.size + 1, 0, none⟩ (.slice none 0 0)).setCell ⟨w.heap.size + 1, 1, none⟩ (.slice none 0 0)).setCell ⟨w.heap.size + 1, 2, none⟩ (.slice none 0 0)).setCell ⟨w.heap.size + 1, 3, none⟩ (.slice none 0 0)).setCell ⟨w.heap.size + 1 + 1, 0, none⟩ (.int .i64 11)).setCell ⟨w.heap.size + 1 + 1, 1, none⟩ (.int .i64 k)).alloc (.cells #[.int .i64 2, .slice A' 0 c'] 63) = (two (four wr (w.heap.size + 1) (.slice none 0 0) (.slice none 0 0) (.slice none 0 0) (.slice none 0 0)) (w.heap.size + 1 + 1) (.int .i64 11) (.int .i64 k)).alloc (.cells #[.int .i64 2, .slice A' 0 c'] 63) := rfl
              rw [e4]
              clear e4 y0 y1 y2 y6 y7
              generalize (two (four wr (w.heap.size + 1) (.slice none 0 0) (.slice none 0 0) (.slice none 0 0) (.slice none 0 0)) (w.heap.size + 1 + 1) (.int .i64 11) (.int .i64 k)).alloc (.cells #[.int .i64 2, .slice A' 0 c'] 63) = Z at *
              have g0 := y8.cell 0
              have g1 := y8.cell 1
              have f0 := y9.cell 0
              have f1 := y9.cell 1
              have f2 := y9.cell 2
              have f3 := y9.cell 3
              simp only [List.getElem?_toArray, List.getElem?_cons_zero, List.getElem?_cons_succ] at f0 f1 f2 f3 g0 g1
              refine bodyPost_ret (v := .tuple #[.agg #[.slice none 0 0, .slice none 0 0, .slice none 0 0, .slice none 0 0], .agg #[.int .i64 11, .int .i64 k]]) (by simp [results, Try.results33, go_sem, f0, f1, f2, f3, g0, g1]) rfl ?_
              exact .inr ⟨by rw [← HPF2.out]; simp, by rw [← HPF2.out]; exact ⟨rfl, y10⟩⟩
            · have hs : stepF F ⟨2, ks⟩ (x :: r') last = (0, r', x) := by unfold stepF; dsimp only; rw [if_neg (by omega), if_neg (by omega), if_neg (by omega), if_pos rfl]
              rw [hs] at e1 hinv
              have HPF2 : Hid (playF F (l.drop (k + 1)) ((k : Int) + 1) r' x = playRes F l) := e1
              have HI2 : Hid (Inv F r' x) := hinv rfl
              have hsh := OwnV.shrink (k := r'.length + 1) tells_rows' (hown.step (grown_of wr none (.cells #[.int .i64 2, .slice A' 0 c'] 63))) (by rw [ownOf_len]; simp)
              rw [ownOf_pop] at hsh
              have HO := Lib.hid (And.intro hsh hbB)
              simp only [List.length_cons] at hc7 ⊢
              have hcI : ((r'.length : Int) + 1) ≤ (c7 : Int) := by omega
              have hne0 : (((r'.length : Int) + 1) == 0) = false := by rw [beq_eq_false_iff_ne]; omega
              clear e1 hs hinv HPF hlk hkids hown hx hb HI hsh hbB HW HK f0 f1 f2 f3 g0 g1 u0 u1 u2 u3 v0 v1
              go_wp2_with fail
              go_roundw
              case rel => exact ⟨k + 1, r', x, g, c7, by omega, by go_num, rfl, by omega, hc7m, hgB, by simp; omega, HO.out.1, HO.out.2.alloc (by omega) _, by show _ = _; rw [Int.natCast_add]; exact HPF2.out, HI2⟩
              case measure => simp [intOf]; omega
          by_cases k3 : kd = 3
          · subst k3
            obtain ⟨y, hy, hyset⟩ := ownOf_hold F r last ks
            have hyl := ownOf_elem_len HI.out.2 hy
            have HSUM := Lib.hid (own_sum ks HI.out.2)
            have hr1000 : r.length + 1 ≤ 1000 := by omega
            have hn3a : (0 : Int) ≤ (n3 : Int) := Int.natCast_nonneg _
            have hB1 : w.heap.size + 1 < B0 := by omega
            have hB0 : w.heap.size < B0 := by omega
            have hk1n : k + 1 ≤ n := hlt
            have hHle : w.heap.size ≤ B0 := by omega
            obtain ⟨u, hu, Ay, ny, cy, hue, hyc, hycm, hyarr⟩ := hown.elem tells_rows' hy
            obtain rfl : u = .slice Ay ny cy := by simpa using hue
            have hyn := hyarr.len
            have hfz := hown.unfrozen r.length
            have HY : Hid (∀ W', Below wr.heap.size wr W' → Arr (AtArr AtInt 1) 1 W' (SR w.heap.size B0 wr g) Ay ny y) := fun W' hb => hyarr.keep (stays_arr stays_int) (fun _ h => h) (fun b o hb' => hb.cell (p := ⟨b, o, none⟩) hb'.2.1)
            have HKS : Hid (∀ W', Below wr.heap.size wr W' → VRow W' (SR w.heap.size B0 wr g) [.slice A' n' c'] ks) := fun W' hb => ⟨A', n', c', rfl, hnc, hcm, hkids.keep stays_int (fun b hb' => ⟨.inl hb', by omega, by omega⟩) (fun b o hb' => hb.cell (p := ⟨b, o, none⟩) (by have hb2 : b < w.heap.size := hb'; show b < wr.heap.size; omega))⟩
            obtain ⟨CL, hCL⟩ : ∃ CL, F.clauses ++ clOf r (last ++ [ks]) = CL := ⟨_, rfl⟩
            rcases hq3 : cnfF F.atoms.length CL with ⟨qc, qa⟩
            have HCL := Lib.hid hCL
            have hCLn : CL.length ≤ 401 := by rw [← hCL]; exact HSUM.out.2
            have hs : stepF F ⟨3, ks⟩ r last = (qc, r, last ++ [ks]) := by unfold stepF; dsimp only; rw [if_neg (by omega), if_neg (by omega), if_neg (by omega), if_neg (by omega), if_pos rfl, hCL, hq3]
            rw [hs] at e1 hinv
            dsimp only at e1 hinv
            obtain ⟨hbk, hF1, hok, hbw⟩ := HK.out
            have hfine := fine_of hok
            have hat3 := hF1.atoms.len
            have h120 := hfine.atoms
            have hn3b : (n3 : Int) ≤ 120 := by omega
            have k2 := hbk.cell 2
            simp only [List.getElem?_toArray, List.getElem?_cons_zero, List.getElem?_cons_succ] at k2
            have HO := Lib.hid (And.intro hown (And.intro hbB (And.intro e1 (And.intro hinv (And.intro hyset (And.intro hq3 hyl))))))
            have hyI : ny ≤ 400 := by omega
            clear hown hbB e1 hinv hyset hq3 hyl hy hyarr hyn hCL HPF hlk hkids hx hb HI hs hF1 hok hbw hfine hbk hnc hcm HK f0 f1 f2 f3 g0 g1 u0 u1 u2 u3 v0 v1
            have hzr' : B0 ≤ wr.heap.size := by omega
            have hrc : (r.length : Int) < (r.length : Int) + 1 := by omega
            go_upto_region 26 with fail
            go_region_law (first
              | (refine step_append_many (by rfl) _ _ _ (by rfl) rowRows tells_row' (v := .slice none 0 0) (xs := ([] : Cl)) (base := wr.heap.size) (S := (SR w.heap.size B0 wr g)) (by rfl) (OwnV.none_ _ _ _ _ _ _) (E := AtArr AtInt 1) (fun _ _ _ _ _ h => atV_arr.2 h) (A := Ay) (m := ny) (c := cy) (by rfl) (HY.out _ (below_drewN (((Below.refl wr.heap.size wr).alloc (Nat.le_refl _) _).alloc (by simp) _) 1)) (fun b hb => ⟨by have := hb.2.1; simp <;> omega, by simp [Value.ownBlock]⟩) (by simp only [List.length_nil]; unfold maxLen; omega) (by simp only [List.length_nil]; omega) (by simp <;> omega) ?_
                 intro v2 w2 hown2 hgrow2 hat2
                 have HCELL : Hid (Blk w2 (wr.heap.size + 1) 40 #[.slice A' n' c']) := Blk.grown (Blk.drew (blk_after wr (.cells #[.int .i64 3, .slice A' n' c'] 63) 40 #[.slice A' n' c'])) hgrow2 (by simp [Value.ownBlock])
                 have HB2 : Hid (Below wr.heap.size wr w2) := below_then (below_drewN (((Below.refl wr.heap.size wr).alloc (Nat.le_refl _) _).alloc (by simp) _) 1) hgrow2 (by simp <;> omega) (fun x hx => by simp [Value.ownBlock] at hx)
                 have HO2 := Lib.hid hown2
                 have hu2 : w2.cell? ⟨g, r.length, none⟩ = some (.slice Ay ny cy) := (HB2.out.cell (p := ⟨g, r.length, none⟩) hgw).trans hu
                 have hz2 := HB2.out.size
                 clear hown2 hgrow2 hat2)
              | (refine step_append_many (by rfl) _ _ _ (by rfl) rowRows tells_row' (v := .slice none 0 0) (xs := ([] : Cl)) (base := wr.heap.size) (S := (SR w.heap.size B0 wr g)) (by rfl) (OwnV.none_ _ _ _ _ _ _) (E := AtArr AtInt 1) (fun _ _ _ _ _ h => atV_arr.2 h) (A := Ay) (m := ny) (c := cy) (by rfl) (HY.out _ (below_drewN ((Below.refl wr.heap.size wr).alloc (Nat.le_refl _) _) 1)) (fun b hb => ⟨by have := hb.2.1; simp <;> omega, by simp [Value.ownBlock]⟩) (by simp only [List.length_nil]; unfold maxLen; omega) (by simp only [List.length_nil]; omega) (by simp <;> omega) ?_
                 intro v2 w2 hown2 hgrow2 hat2
                 have HB2 : Hid (Below wr.heap.size wr w2) := below_then (below_drewN ((Below.refl wr.heap.size wr).alloc (Nat.le_refl _) _) 1) hgrow2 (by simp <;> omega) (fun x hx => by simp [Value.ownBlock] at hx)
                 have HO2 := Lib.hid hown2
                 have hbx2 : Blk w2 wr.heap.size 63 #[.int .i64 3, .slice A' n' c'] := Blk.grown (Blk.drew (Blk.new wr _ _)) hgrow2 (by simp [Value.ownBlock])
                 have m1 : w2.cell? ⟨wr.heap.size, 1, none⟩ = some (.slice A' n' c') := hbx2.cell 1
                 have hu2 : w2.cell? ⟨g, r.length, none⟩ = some (.slice Ay ny cy) := (HB2.out.cell (p := ⟨g, r.length, none⟩) hgw).trans hu
                 have hz2 := HB2.out.size
                 have hz3 : wr.heap.size < w2.heap.size := hbx2.lt
                 clear hown2 hgrow2 hat2 hbx2)
              | (refine step_append_item (by rfl) _ _ _ (by rfl) rowRows tells_row' (v := v2) (xs := ([] : Cl) ++ y) (base := wr.heap.size) (S := (SR w.heap.size B0 wr g)) (by rfl) (.inl HO2.out) (g := wr.heap.size + 1) (cs := #[.slice A' n' c']) (by rfl) HCELL.out (y := ks) (HKS.out _ HB2.out) (fun b hb => ⟨by have := hb.2.1; omega, fun e => by have := (HO2.out.lt b e).1; have := hb.2.1; omega⟩) (by simp only [List.nil_append]; unfold maxLen; have := HO.out.2.2.2.2.2.2; omega) (by simp only [List.nil_append]; have := HO.out.2.2.2.2.2.2; omega) hz2 ?_
                 intro g9 cap w3 hown3 hgrow3 hat3 hlt3
                 have HB3 : Hid (Below wr.heap.size wr w3) := below_then (HB2.out) hgrow3 (by first | exact hz2 | (simp <;> omega)) (fun x hx => (HO2.out.lt x hx).1)
                 have HO3 := Lib.hid hown3
                 have hu3 : w3.cell? ⟨g, r.length, none⟩ = some (.slice Ay ny cy) := (HB3.out.cell (p := ⟨g, r.length, none⟩) hgw).trans hu
                 have hf3 : w3.frozen? ⟨g, r.length, none⟩ = false := (HB3.out.frozen (p := ⟨g, r.length, none⟩) hgw).trans hfz
                 clear hown3 hgrow3 hat3 hlt3)
              | (refine step_append_item (by rfl) _ _ _ (by rfl) rowRows tells_row' (v := v2) (xs := ([] : Cl) ++ y) (base := wr.heap.size) (S := (SR w.heap.size B0 wr g)) (by rfl) (.inl (HO2.out.kept tells_row' (grown_of w2 none (.cells #[.slice A' n' c'] 40)) (by cases hv : v2.ownBlock <;> simp) (fun b hb => ⟨hb, by have := hb.2.1; omega, by simp⟩))) (g := w2.heap.size) (cs := #[.slice A' n' c']) (by rfl) (Blk.new w2 40 #[.slice A' n' c']) (y := ks) (HKS.out _ (HB2.out.alloc hz2 _)) (fun b hb => ⟨by have := hb.2.1; simp <;> omega, fun e => by have := (HO2.out.lt b e).1; have := hb.2.1; omega⟩) (by simp only [List.nil_append]; unfold maxLen; have := HO.out.2.2.2.2.2.2; omega) (by simp only [List.nil_append]; have := HO.out.2.2.2.2.2.2; omega) (by simp <;> omega) ?_
                 intro g9 cap w3 hown3 hgrow3 hat3 hlt3
                 have HB3 : Hid (Below wr.heap.size wr w3) := below_then (HB2.out.alloc hz2 _) hgrow3 (by first | exact hz2 | (simp <;> omega)) (fun x hx => (HO2.out.lt x hx).1)
                 have HO3 := Lib.hid hown3
                 have hu3 : w3.cell? ⟨g, r.length, none⟩ = some (.slice Ay ny cy) := (HB3.out.cell (p := ⟨g, r.length, none⟩) hgw).trans hu
                 have hf3 : w3.frozen? ⟨g, r.length, none⟩ = false := (HB3.out.frozen (p := ⟨g, r.length, none⟩) hgw).trans hfz
                 clear hown3 hgrow3 hat3 hlt3)
              | fail)
            all_goals
              have hlt9 := HO3.out.lt g9 rfl
              obtain ⟨hown, hbB, e1, hinv, hyset, hq3, hyl⟩ := HO.out
              have hownw := hown.step (only_of_below HB3.out none)
              have hz3 := HB3.out.size
              have hv3 : VRows w3 (SR w.heap.size B0 w3 g) [(.slice (some ⟨g9, 0, none⟩) (y.length + 1) cap)] (y ++ [ks]) := by
                obtain ⟨A9, c9, he, q1, q2, q3⟩ := HO3.out.reads (E := AtArr AtInt 1) tells_row' (fun _ _ _ _ _ h => atV_arr.1 h) (S' := SR w.heap.size B0 w3 g) (fun b hb => ⟨hb.1, by have := hb.2.1; omega, hb.2.2⟩) (fun b hb => by have := HO3.out.lt b hb; exact ⟨.inr (by omega), by omega, by omega⟩)
                simp only [List.nil_append, List.length_append, List.length_cons, List.length_nil, Nat.zero_add] at he q1 q3
                exact ⟨A9, _, c9, by rw [he], q1, q2, q3⟩
              have hset0 := OwnV.set tells_rows' hownw (ownOf_len F r last).symm (i := r.length) hv3 (fun b hb => hb.2.2)
              rw [← hyset] at hset0
              have hset : OwnFr w.heap.size B0 (w3.setCell ⟨g, r.length, none⟩ (.slice (some ⟨g9, 0, none⟩) (y.length + 1) cap)) g (r.length + 1) c7 (ownOf F r (last ++ [ks])) := hset0.kept tells_rows' (only_refl _ none) (.inr (by simp [Value.ownBlock])) (fun b hb => ⟨⟨hb.1, by simpa using hb.2.1, hb.2.2⟩, by simpa using hb.2.1, by simp⟩)
              have hbrX : Below B0 wr (w3.setCell ⟨g, r.length, none⟩ (.slice (some ⟨g9, 0, none⟩) (y.length + 1) cap)) := (HB3.out.mono hzr').setCell (p := ⟨g, r.length, none⟩) hgB _
              have hgX : g < (w3.setCell ⟨g, r.length, none⟩ (.slice (some ⟨g9, 0, none⟩) (y.length + 1) cap)).heap.size := by simp; omega
              clear hown hownw hyset hv3 hset0 HY HKS HB2 HO2 HB3 HO3 hu hu2 hu3 hf3 hfz
              generalize w3.setCell ⟨g, r.length, none⟩ (.slice (some ⟨g9, 0, none⟩) (y.length + 1) cap) = X at hset hbrX hgX ⊢
              have k2x : X.cell? ⟨w.heap.size, 2, none⟩ = some (.slice A3 n3 c3) := (hbrX.cell (p := ⟨w.heap.size, 2, none⟩) hB0).trans k2
              have hownb : ∀ b, (Value.slice (some ⟨g, 0, none⟩) (r.length + 1) c7).ownBlock = some b → (b < w.heap.size ∨ B0 ≤ b) ∧ b < X.heap.size := fun b hb => by
                injection hb with hb
                subst hb
                exact ⟨.inr hgB, hgX⟩
              obtain ⟨Ar, cr, he, -, -, harr⟩ := hset.reads (E := AtArr (AtArr AtInt 1) 1) tells_rows' (fun _ _ _ _ _ h => atV_arr.1 h) (S' := fun b => (b < w.heap.size ∨ B0 ≤ b) ∧ b < X.heap.size) (fun b hb => ⟨hb.1, hb.2.1⟩) hownb
              rw [ownOf_len] at he harr
              simp only [Value.slice.injEq, true_and] at he
              obtain ⟨rfl, rfl⟩ := he
              have hflat := (ownOf_flat F r (last ++ [ks])).trans HCL.out
              have hj0 := joined_any (some ⟨g, 0, none⟩) (r.length + 1) c7 (ownOf F r (last ++ [ks])) (fun b => (b < w.heap.size ∨ B0 ≤ b) ∧ b < X.heap.size) X.drew (fun b hb => hb.2) (harr.drew (stays_arr (stays_arr stays_int))) hr1000 HSUM.out.1
              rw [hflat] at hj0
              have HJ := Lib.hid hj0
              have HS := Lib.hid (And.intro hset (And.intro hbrX (And.intro hbB (And.intro e1 (And.intro hinv (And.intro hq3 hflat))))))
              have hzX := hbrX.size
              have hBX : B0 ≤ X.heap.size := Nat.le_trans hzr' hzX
              have hHX : w.heap.size < X.heap.size := Nat.lt_of_lt_of_le hB0 hBX
              have hfd := fun W => field_code qc qa W
              clear hset hbrX hbB e1 hinv hq3 hflat harr k2 HO hj0
              go_wp2_with fail
              go_region_held3 (fun w' => w'.cell? ⟨w.heap.size, 2, none⟩ = some (.slice A3 n3 c3))
                (go_keep)
                (first
                  | (go_simp
                     go_at_call 70
                     refine HJ.out.mono ?_
                     rintro e z1 ⟨v5, rfl, hown5, hb5⟩
                     have hbz1 : Below X.heap.size X z1 := below_of_drew hb5
                     obtain ⟨A5, c5, rfl, h5, h5m, harr5⟩ := hown5.reads (E := AtArr AtInt 1) tells_row' (fun _ _ _ _ _ h => atV_arr.1 h) (S' := fun b => b < z1.heap.size) (fun b hb => Nat.lt_of_lt_of_le hb.2 hbz1.size) (fun b hb => (hown5.lt b hb).2)
                     have HCN := Lib.hid (cnfFault_any n3 A5 CL.length c5 CL qc qa z1 harr5 hn3a hn3b (Nat.le_trans hCLn (by simp [maxLen])) (by rw [← hat3]; exact HS.out.2.2.2.2.2.1))
                     have k2z : z1.cell? ⟨w.heap.size, 2, none⟩ = some (.slice A3 n3 c3) := (hbz1.cell (p := ⟨w.heap.size, 2, none⟩) hHX).trans k2x
                     have HZ1 := Lib.hid hbz1
                     clear hown5 hb5 hbz1 h5 h5m harr5)
                  | (go_simp
                     go_at_call 51
                     refine HCN.out.mono ?_
                     rintro e z2 ⟨rfl, hb6⟩
                     have hbz2 : Below X.heap.size X z2 := HZ1.out.trans (hb6.mono HZ1.out.size)
                     have k2z2 : z2.cell? ⟨w.heap.size, 2, none⟩ = some (.slice A3 n3 c3) := (hbz2.cell (p := ⟨w.heap.size, 2, none⟩) hHX).trans k2x
                     have HZ2 := Lib.hid hbz2
                     clear hb6 hbz2)
                  | fail)
              obtain ⟨hset, hbrX, hbB, e1, hinv, hq3, hflat⟩ := HS.out
              have hbz := HZ2.out
              have hbz0 : Below B0 wr z2 := hbrX.trans (hbz.mono hBX)
              by_cases hqc : qc = 0
              · subst hqc
                rw [if_pos rfl] at e1
                have HPF2 : Hid (playF F (l.drop (k + 1)) ((k : Int) + 1) r (last ++ [ks]) = playRes F l) := e1
                have HI2 : Hid (Inv F r (last ++ [ks])) := hinv rfl
                have HEND := Lib.hid (And.intro (hset.step (only_of_below hbz none)) (hbB.trans hbz0))
                have hgz2 : g < z2.heap.size := Nat.lt_of_lt_of_le hgX hbz.size
                clear hset hbrX hbB e1 hinv hq3 hflat hbz hbz0 HS HJ HCN HZ1 HZ2 HW k2x k2z k2z2 hfd
                go_wp2_with fail
                go_roundw
                case rel => exact ⟨k + 1, r, last ++ [ks], g, c7, hk1n, by go_num, rfl, hc7, hc7m, hgB, hgz2, HEND.out.1, HEND.out.2, by show _ = _; rw [Int.natCast_add]; exact HPF2.out, HI2⟩
                case measure => simp [intOf]; omega
              · rw [if_neg hqc] at e1
                have HPF2 : Hid (((qc, (k : Int)), r, last ++ [ks]) = playRes F l) := e1
                have HQ := Lib.hid hqc
                have hq1 : (qc != 0) = true := by simpa using hqc
                obtain ⟨hbr0, hbs0, hbel0⟩ := HW.out
                have hbr := hbr0.below hbz0 hB1
                have hbs := hbs0.below hbz0 hwB
                have hbel := hbel0.trans (hbz0.mono hHle)
                have f0 := hbr.cell 0
                have f1 := hbr.cell 1
                have f2 := hbr.cell 2
                have f3 := hbr.cell 3
                have g0 := hbs.cell 0
                have g1 := hbs.cell 1
                simp only [List.getElem?_toArray, List.getElem?_cons_zero, List.getElem?_cons_succ] at f0 f1 f2 f3 g0 g1
                have u0 := hbr.frozen 0
                have u1 := hbr.frozen 1
                have u2 := hbr.frozen 2
                have u3 := hbr.frozen 3
                have v0 := hbs.frozen 0
                have v1 := hbs.frozen 1
                have hzz := hbz0.size
                have hw1z : w.heap.size + 1 < z2.heap.size := Nat.lt_of_lt_of_le hw1 hzz
                have hw2z : w.heap.size + 1 + 1 < z2.heap.size := Nat.lt_of_lt_of_le hw2 hzz
                have HEND := Lib.hid (And.intro hbr (And.intro hbs hbel))
                clear hset hbrX hbB e1 hinv hq3 hflat hbz hbz0 HS HJ HCN HZ1 HZ2 HW k2x k2z k2z2 hfd hbr0 hbs0 hbel0 hbr hbs hbel hqc
                go_wp2_with fail
                obtain ⟨hbr, hbs, hbel⟩ := HEND.out
                clear f0 f1 f2 f3 g0 g1 u0 u1 u2 u3 v0 v1 HEND
                have y1 := four_blk hbr (.slice none 0 0) (.slice none 0 0) (.slice none 0 0) (.slice none 0 0)
                have y2 := four_only z2 (w.heap.size + 1) (.slice none 0 0) (.slice none 0 0) (.slice none 0 0) (.slice none 0 0)
                have y3 := two_blk (hbs.grown y2 (by simp)) (.int .i64 qc) (.int .i64 k)
                have y0 := two_only (four z2 (w.heap.size + 1) (.slice none 0 0) (.slice none 0 0) (.slice none 0 0) (.slice none 0 0)) (w.heap.size + 1 + 1) (.int .i64 qc) (.int .i64 k)
                have y4 := y1.grown y0 (by simp)
                have y5 : Below w.heap.size w (two (four z2 (w.heap.size + 1) (.slice none 0 0) (.slice none 0 0) (.slice none 0 0) (.slice none 0 0)) (w.heap.size + 1 + 1) (.int .i64 qc) (.int .i64 k)) := two_below (g := (w.heap.size + 1 + 1)) (below_then hbel y2 (by omega) (fun x hx => by injection hx; omega)) (by omega) (.int .i64 qc) (.int .i64 k)
                have y6 := y2.size
                have y7 := y0.size
                have e4 : ((((((z2).setCell ⟨w.heap.size + 1, 0, none⟩ (.slice none 0 0)).setCell ⟨w.heap.size + 1, 1, none⟩ (.slice none 0 0)).setCell ⟨w.heap.size + 1, 2, none⟩ (.slice none 0 0)).setCell ⟨w.heap.size + 1, 3, none⟩ (.slice none 0 0)).setCell ⟨w.heap.size + 1 + 1, 0, none⟩ (.int .i64 qc)).setCell ⟨w.heap.size + 1 + 1, 1, none⟩ (.int .i64 k) = two (four z2 (w.heap.size + 1) (.slice none 0 0) (.slice none 0 0) (.slice none 0 0) (.slice none 0 0)) (w.heap.size + 1 + 1) (.int .i64 qc) (.int .i64 k) := rfl
                rw [e4]
                clear e4 y0 y1 y2 y6 y7
                generalize two (four z2 (w.heap.size + 1) (.slice none 0 0) (.slice none 0 0) (.slice none 0 0) (.slice none 0 0)) (w.heap.size + 1 + 1) (.int .i64 qc) (.int .i64 k) = Z at *
                have g0 := y3.cell 0
                have g1 := y3.cell 1
                have f0 := y4.cell 0
                have f1 := y4.cell 1
                have f2 := y4.cell 2
                have f3 := y4.cell 3
                simp only [List.getElem?_toArray, List.getElem?_cons_zero, List.getElem?_cons_succ] at f0 f1 f2 f3 g0 g1
                refine bodyPost_ret (v := .tuple #[.agg #[.slice none 0 0, .slice none 0 0, .slice none 0 0, .slice none 0 0], .agg #[.int .i64 qc, .int .i64 k]]) (by simp [results, Try.results33, go_sem, f0, f1, f2, f3, g0, g1]) rfl ?_
                exact .inr ⟨by rw [← HPF2.out]; exact HQ.out, by rw [← HPF2.out]; exact ⟨rfl, y5⟩⟩
          · obtain rfl : kd = 4 := by omega
            obtain rfl : n' = 0 := by omega
            have hs : stepF F ⟨4, ks⟩ r last = (0, r, last) := by unfold stepF; dsimp only; rw [if_neg (by omega), if_neg (by omega), if_neg (by omega), if_neg (by omega), if_neg (by omega)]
            rw [hs] at e1 hinv
            have HPF2 : Hid (playF F (l.drop (k + 1)) ((k : Int) + 1) r last = playRes F l) := e1
            have HI2 : Hid (Inv F r last) := hinv rfl
            have HO := Lib.hid (And.intro (hown.step (grown_of wr none (.cells #[.int .i64 4, .slice A' 0 c'] 63))) hbB)
            clear e1 hs hinv HPF hlk hkids hown hx hb HI hbB HW HK f0 f1 f2 f3 g0 g1 u0 u1 u2 u3 v0 v1
            go_wp2_with fail
            go_roundw
            case rel => exact ⟨k + 1, r, last, g, c7, by omega, by go_num, rfl, by omega, hc7m, hgB, by simp; omega, HO.out.1, HO.out.2.alloc (by omega) _, by show _ = _; rw [Int.natCast_add]; exact HPF2.out, HI2⟩
            case measure => simp [intOf]; omega
        · obtain rfl : n = k := by omega
          have e1 := HPF.out
          rw [List.drop_of_length_le (by omega), playF] at e1
          have HP2 : Hid (((0, 0), r, last) = playRes F l) := e1
          obtain ⟨hsum1, hsum2⟩ := own_sum0 HI.out.2
          have hr1000 : r.length + 1 ≤ 1000 := by have := HI.out.1; omega
          have hownb : ∀ b, (Value.slice (some ⟨g, 0, none⟩) (r.length + 1) c7).ownBlock = some b → (b < w.heap.size ∨ B0 ≤ b) ∧ b < wr.heap.size := fun b hb => by
            injection hb with hb
            subst hb
            exact ⟨.inr hgB, hgw⟩
          obtain ⟨Ar, cr, he, -, -, harr⟩ := hown.reads (E := AtArr (AtArr AtInt 1) 1) tells_rows' (fun _ _ _ _ _ h => atV_arr.1 h) (S' := fun b => (b < w.heap.size ∨ B0 ≤ b) ∧ b < wr.heap.size) (fun b hb => ⟨hb.1, hb.2.1⟩) hownb
          rw [ownOf_len] at he harr
          simp only [Value.slice.injEq, true_and] at he
          obtain ⟨rfl, rfl⟩ := he
          have hj0 := joined_any (some ⟨g, 0, none⟩) (r.length + 1) c7 (ownOf F r last) (fun b => (b < w.heap.size ∨ B0 ≤ b) ∧ b < wr.heap.size) wr (fun b hb => hb.2) harr hr1000 hsum1
          rw [ownOf_flat] at hj0
          obtain ⟨CL, hCL⟩ : ∃ CL, F.clauses ++ clOf r last = CL := ⟨_, rfl⟩
          rw [hCL] at hj0 hsum2
          have HJ := Lib.hid hj0
          have k0 := hbk.cell 0
          have k1 := hbk.cell 1
          have k2 := hbk.cell 2
          have k3 := hbk.cell 3
          simp only [List.getElem?_toArray, List.getElem?_cons_zero, List.getElem?_cons_succ] at k0 k1 k2 k3
          have k4 := hbk.frozen 3
          have hBwr : B0 ≤ wr.heap.size := by omega
          have hwB0 : w.heap.size < B0 := by omega
          have hwB1 : w.heap.size + 1 < B0 := by omega
          have hwB3 : w.heap.size ≤ B0 := by omega
          have HFF := Lib.hid (And.intro (hF1.below hbw (Nat.le_refl w.heap.size)) (And.intro hbr (And.intro hbs (And.intro hbel (And.intro hbk hCL)))))
          clear e1 hsum1 hownb harr hj0 hF1 hbw hbr hbs hbel hbk hown hbB HPF HI hk1 hr1 hs1 hbel1 hok hll hinv0 hL1 hCL f0 f1 f2 f3 g0 g1 u0 u1 u2 u3 v0 v1
          go_wp2_with fail
          refine HJ.out.mono ?_
          rintro e w5 ⟨v5, rfl, hown5, hb5⟩
          have hz5 := hb5.size
          obtain ⟨A5, c5, rfl, h5, h5m, harr5⟩ := hown5.reads (E := AtArr AtInt 1) tells_row' (fun _ _ _ _ _ h => atV_arr.1 h) (S' := fun b => (b < w.heap.size ∨ B0 ≤ b) ∧ b < w5.heap.size) (fun b hb => ⟨hb.1, Nat.lt_of_lt_of_le hb.2 hz5⟩) (fun b hb => ⟨.inr (Nat.le_trans hBwr (hown5.lt b hb).1), (hown5.lt b hb).2⟩)
          obtain ⟨hF5a, hbr5, hbs5, hbel5, hbk5, hCL⟩ := HFF.out
          have hF5 := hF5a.below (hb5.mono (Nat.le_of_lt hw0)) (Nat.le_refl w.heap.size)
          have hbr := hbr5.below hb5 hw1
          have hbs := hbs5.below hb5 hw2
          have hbk := hbk5.below hb5 hw0
          have hbel := hbel5.trans (hb5.mono (Nat.le_of_lt hw0))
          have k0 := hbk.cell 0
          have k1 := hbk.cell 1
          have k2 := hbk.cell 2
          have k3 := hbk.cell 3
          simp only [List.getElem?_toArray, List.getElem?_cons_zero, List.getElem?_cons_succ] at k0 k1 k2 k3
          have k4 := hbk.frozen 3
          have f0 := hbr.cell 0
          have f1 := hbr.cell 1
          have f2 := hbr.cell 2
          have f3 := hbr.cell 3
          have g0 := hbs.cell 0
          have g1 := hbs.cell 1
          simp only [List.getElem?_toArray, List.getElem?_cons_zero, List.getElem?_cons_succ] at f0 f1 f2 f3 g0 g1
          have u0 := hbr.frozen 0
          have u1 := hbr.frozen 1
          have u2 := hbr.frozen 2
          have u3 := hbr.frozen 3
          have v0 := hbs.frozen 0
          have v1 := hbs.frozen 1
          have hw05 : w.heap.size < w5.heap.size := Nat.lt_of_lt_of_le hw0 hz5
          have hw15 : w.heap.size + 1 < w5.heap.size := Nat.lt_of_lt_of_le hw1 hz5
          have hw25 : w.heap.size + 1 + 1 < w5.heap.size := Nat.lt_of_lt_of_le hw2 hz5
          have HEND := Lib.hid (And.intro hF5 (And.intro hbr (And.intro hbs (And.intro hbel (And.intro hbk (And.intro hCL harr5))))))
          clear hown5 hb5 harr5 hF5a hbr5 hbs5 hbel5 hbk5 hF5 hbr hbs hbel hbk HFF HJ hCL
          go_wp2_with fail
          obtain ⟨hF5, hbr5, hbs5, hbel5, hbk5, hCL, harr5⟩ := HEND.out
          have hbr := hbr5.far (p := ⟨w.heap.size, 3, none⟩) (by show w.heap.size + 1 ≠ w.heap.size; omega) (.slice A5 CL.length c5)
          have hbs := hbs5.far (p := ⟨w.heap.size, 3, none⟩) (by show w.heap.size + 1 + 1 ≠ w.heap.size; omega) (.slice A5 CL.length c5)
          have hbel := hbel5.setCell (p := ⟨w.heap.size, 3, none⟩) (Nat.le_refl _) (.slice A5 CL.length c5)
          have hone := one_only (g := w.heap.size) (only_refl w5 _) 3 (.slice A5 CL.length c5)
          have hone5 := hone.size
          clear k0 k1 k2 k3 k4 f0 f1 f2 f3 g0 g1 u0 u1 u2 u3 v0 v1 HEND
          have y1 := four_blk hbr (.slice A1 n1 c1) (.slice A2 n2 c2) (.slice A3 n3 c3) (.slice A5 CL.length c5)
          have y2 := four_only (w5.setCell ⟨w.heap.size, 3, none⟩ (.slice A5 CL.length c5)) (w.heap.size + 1) (.slice A1 n1 c1) (.slice A2 n2 c2) (.slice A3 n3 c3) (.slice A5 CL.length c5)
          have y3 := two_blk (hbs.grown y2 (by simp)) (.int .i64 0) (.int .i64 0)
          have y0 := two_only (four (w5.setCell ⟨w.heap.size, 3, none⟩ (.slice A5 CL.length c5)) (w.heap.size + 1) (.slice A1 n1 c1) (.slice A2 n2 c2) (.slice A3 n3 c3) (.slice A5 CL.length c5)) (w.heap.size + 1 + 1) (.int .i64 0) (.int .i64 0)
          have y4 := y1.grown y0 (by simp)
          have y5 : Below w.heap.size w (two (four (w5.setCell ⟨w.heap.size, 3, none⟩ (.slice A5 CL.length c5)) (w.heap.size + 1) (.slice A1 n1 c1) (.slice A2 n2 c2) (.slice A3 n3 c3) (.slice A5 CL.length c5)) (w.heap.size + 1 + 1) (.int .i64 0) (.int .i64 0)) := two_below (g := (w.heap.size + 1 + 1)) (below_then hbel y2 (by omega) (fun x hx => by injection hx; omega)) (by omega) (.int .i64 0) (.int .i64 0)
          have y6 := y2.size
          have y7 := y0.size
          have yz : Below w.heap.size w5 (two (four (w5.setCell ⟨w.heap.size, 3, none⟩ (.slice A5 CL.length c5)) (w.heap.size + 1) (.slice A1 n1 c1) (.slice A2 n2 c2) (.slice A3 n3 c3) (.slice A5 CL.length c5)) (w.heap.size + 1 + 1) (.int .i64 0) (.int .i64 0)) := two_below (g := (w.heap.size + 1 + 1)) (below_then ((Below.refl w.heap.size w5).setCell (p := ⟨w.heap.size, 3, none⟩) (Nat.le_refl _) (.slice A5 CL.length c5)) y2 (Nat.le_trans (Nat.le_of_lt hw05) hone5) (fun x hx => by injection hx; omega)) (by omega) (.int .i64 0) (.int .i64 0)
          have hFz := hF5.below yz (Nat.le_trans (Nat.le_of_lt hw05) yz.size)
          have hAz := harr5.keep (stays_arr stays_int) (w' := two (four (w5.setCell ⟨w.heap.size, 3, none⟩ (.slice A5 CL.length c5)) (w.heap.size + 1) (.slice A1 n1 c1) (.slice A2 n2 c2) (.slice A3 n3 c3) (.slice A5 CL.length c5)) (w.heap.size + 1 + 1) (.int .i64 0) (.int .i64 0)) (S' := fun b => b < (two (four (w5.setCell ⟨w.heap.size, 3, none⟩ (.slice A5 CL.length c5)) (w.heap.size + 1) (.slice A1 n1 c1) (.slice A2 n2 c2) (.slice A3 n3 c3) (.slice A5 CL.length c5)) (w.heap.size + 1 + 1) (.int .i64 0) (.int .i64 0)).heap.size) (fun b hb => Nat.lt_of_lt_of_le hb.2 yz.size) (fun b o hb => (only_cell y0 (b := b) (Nat.lt_of_lt_of_le (Nat.lt_of_lt_of_le hb.2 hone5) y6) (fun e => by injection e with e; have := hb.1; omega)).trans ((only_cell y2 (b := b) (Nat.lt_of_lt_of_le hb.2 hone5) (fun e => by injection e with e; have := hb.1; omega)).trans (only_cell hone (b := b) hb.2 (fun e => by injection e with e; have := hb.1; omega))))
          have e4 : (((((((w5.setCell ⟨w.heap.size, 3, none⟩ (.slice A5 CL.length c5))).setCell ⟨w.heap.size + 1, 0, none⟩ (.slice A1 n1 c1)).setCell ⟨w.heap.size + 1, 1, none⟩ (.slice A2 n2 c2)).setCell ⟨w.heap.size + 1, 2, none⟩ (.slice A3 n3 c3)).setCell ⟨w.heap.size + 1, 3, none⟩ (.slice A5 CL.length c5)).setCell ⟨w.heap.size + 1 + 1, 0, none⟩ (.int .i64 0)).setCell ⟨w.heap.size + 1 + 1, 1, none⟩ (.int .i64 0) = two (four (w5.setCell ⟨w.heap.size, 3, none⟩ (.slice A5 CL.length c5)) (w.heap.size + 1) (.slice A1 n1 c1) (.slice A2 n2 c2) (.slice A3 n3 c3) (.slice A5 CL.length c5)) (w.heap.size + 1 + 1) (.int .i64 0) (.int .i64 0) := rfl
          rw [e4]
          clear e4 y0 y1 y2 y6 y7
          generalize two (four (w5.setCell ⟨w.heap.size, 3, none⟩ (.slice A5 CL.length c5)) (w.heap.size + 1) (.slice A1 n1 c1) (.slice A2 n2 c2) (.slice A3 n3 c3) (.slice A5 CL.length c5)) (w.heap.size + 1 + 1) (.int .i64 0) (.int .i64 0) = Z at *
          have g0 := y3.cell 0
          have g1 := y3.cell 1
          have f0 := y4.cell 0
          have f1 := y4.cell 1
          have f2 := y4.cell 2
          have f3 := y4.cell 3
          simp only [List.getElem?_toArray, List.getElem?_cons_zero, List.getElem?_cons_succ] at f0 f1 f2 f3 g0 g1
          refine bodyPost_ret (v := .tuple #[.agg #[.slice A1 n1 c1, .slice A2 n2 c2, .slice A3 n3 c3, .slice A5 CL.length c5], .agg #[.int .i64 0, .int .i64 0]]) (by simp [results, Try.results33, go_sem, f0, f1, f2, f3, g0, g1]) rfl ?_
          exact .inl ⟨by rw [← HP2.out], A1, A2, A3, A5, n1, c1, n2, c2, n3, c3, CL.length, c5, rfl, by rw [← HP2.out]; dsimp only; rw [hCL]; exact ⟨hFz.terms, hFz.ints, hFz.atoms, hAz, hFz.m1, hFz.m2, hFz.m3, by omega⟩, y5⟩
  · have htb : (tc != 0) = true := by simpa using htc
    have HT := Lib.hid htc
    clear htc
    go_enter Try.func33, Try.ntmps33
    go_wp2_with fail
    refine HC.out.mono ?_
    rintro e w1 ⟨rfl, hb1⟩
    obtain ⟨hF, hL, hq, hll, hlen, hb0, hbk0, hbr0, hbs0, hs0⟩ := HN.out
    have hbk := hbk0.below hb1 (by omega)
    have hbr := hbr0.below hb1 (by omega)
    have hbs : Blk w1 (w.heap.size + 1 + 1) 24 #[.int .i64 0, .int .i64 0] := hbs0.below hb1 (by omega)
    have hz := hb1.size
    have hz0 : w.heap.size < w1.heap.size := by omega
    have hz1 : w.heap.size + 1 < w1.heap.size := by omega
    have hz2 : w.heap.size + 1 + 1 < w1.heap.size := by omega
    have hbel := hb0.trans (hb1.mono (by omega))
    have f0 := hbr.cell 0
    have f1 := hbr.cell 1
    have f2 := hbr.cell 2
    have f3 := hbr.cell 3
    have g0 := hbs.cell 0
    have g1 := hbs.cell 1
    simp only [List.getElem?_toArray, List.getElem?_cons_zero, List.getElem?_cons_succ] at f0 f1 f2 f3 g0 g1
    have u0 := hbr.frozen 0
    have u1 := hbr.frozen 1
    have u2 := hbr.frozen 2
    have u3 := hbr.frozen 3
    have v0 := hbs.frozen 0
    have v1 := hbs.frozen 1
    have HE := Lib.hid (And.intro hbr (And.intro hbs (And.intro hbel hbk)))
    clear hb0 hbk0 hbr0 hbs0 hs0 hbr hbs hbel hbk hb1 HN HC hz
    have HP : Hid (playRes F l = ((tc, ta), [], [])) := by show _ = _; rw [playRes, hq, if_pos HT.out]
    clear hF hL hq hll hlen
    go_wp2_with fail
    go_region
    go_wp2_with fail
    obtain ⟨hbr, hbs, hbel, -⟩ := HE.out
    clear f0 f1 f2 f3 g0 g1 u0 u1 u2 u3 v0 v1 HE
    have y1 := four_blk hbr (.slice none 0 0) (.slice none 0 0) (.slice none 0 0) (.slice none 0 0)
    have y2 := four_only w1 (w.heap.size + 1) (.slice none 0 0) (.slice none 0 0) (.slice none 0 0) (.slice none 0 0)
    have y3 := two_blk (hbs.grown y2 (by simp)) (.int .i64 tc) (.int .i64 ta)
    have y0 := two_only (four w1 (w.heap.size + 1) (.slice none 0 0) (.slice none 0 0) (.slice none 0 0) (.slice none 0 0)) (w.heap.size + 1 + 1) (.int .i64 tc) (.int .i64 ta)
    have y4 := y1.grown y0 (by simp)
    have y5 : Below w.heap.size w (two (four w1 (w.heap.size + 1) (.slice none 0 0) (.slice none 0 0) (.slice none 0 0) (.slice none 0 0)) (w.heap.size + 1 + 1) (.int .i64 tc) (.int .i64 ta)) := two_below (g := (w.heap.size + 1 + 1)) (below_then hbel y2 (by omega) (fun x hx => by injection hx; omega)) (by omega) (.int .i64 tc) (.int .i64 ta)
    have y6 := y2.size
    have y7 := y0.size
    have y8 := y3.alloc (.cells #[.int .i64 tc, .int .i64 ta] 24)
    have y9 := y4.alloc (.cells #[.int .i64 tc, .int .i64 ta] 24)
    have y10 : Below w.heap.size w ((two (four w1 (w.heap.size + 1) (.slice none 0 0) (.slice none 0 0) (.slice none 0 0) (.slice none 0 0)) (w.heap.size + 1 + 1) (.int .i64 tc) (.int .i64 ta)).alloc (.cells #[.int .i64 tc, .int .i64 ta] 24)) := y5.alloc (by omega) _
    have y11 := y8.drew
    have y12 := y9.drew
    have y13 : Below w.heap.size w (((two (four w1 (w.heap.size + 1) (.slice none 0 0) (.slice none 0 0) (.slice none 0 0) (.slice none 0 0)) (w.heap.size + 1 + 1) (.int .i64 tc) (.int .i64 ta)).alloc (.cells #[.int .i64 tc, .int .i64 ta] 24)).drew) := below_drewN y10 1
    have e4 : ((((((((w1).setCell ⟨w.heap.size + 1, 0, none⟩ (.slice none 0 0)).setCell ⟨w.heap.size + 1, 1, none⟩ (.slice none 0 0)).setCell ⟨w.heap.size + 1, 2, none⟩ (.slice none 0 0)).setCell ⟨w.heap.size + 1, 3, none⟩ (.slice none 0 0)).setCell ⟨w.heap.size + 1 + 1, 0, none⟩ (.int .i64 tc)).setCell ⟨w.heap.size + 1 + 1, 1, none⟩ (.int .i64 ta)).alloc (.cells #[.int .i64 tc, .int .i64 ta] 24)).drew = ((two (four w1 (w.heap.size + 1) (.slice none 0 0) (.slice none 0 0) (.slice none 0 0) (.slice none 0 0)) (w.heap.size + 1 + 1) (.int .i64 tc) (.int .i64 ta)).alloc (.cells #[.int .i64 tc, .int .i64 ta] 24)).drew := rfl
    rw [e4]
    clear e4 y0 y1 y2 y6 y7
    generalize ((two (four w1 (w.heap.size + 1) (.slice none 0 0) (.slice none 0 0) (.slice none 0 0) (.slice none 0 0)) (w.heap.size + 1 + 1) (.int .i64 tc) (.int .i64 ta)).alloc (.cells #[.int .i64 tc, .int .i64 ta] 24)).drew = Z at *
    have g0 := y11.cell 0
    have g1 := y11.cell 1
    have f0 := y12.cell 0
    have f1 := y12.cell 1
    have f2 := y12.cell 2
    have f3 := y12.cell 3
    simp only [List.getElem?_toArray, List.getElem?_cons_zero, List.getElem?_cons_succ] at f0 f1 f2 f3 g0 g1
    refine bodyPost_ret (v := .tuple #[.agg #[.slice none 0 0, .slice none 0 0, .slice none 0 0, .slice none 0 0], .agg #[.int .i64 tc, .int .i64 ta]]) (by simp [results, Try.results33, go_sem, f0, f1, f2, f3, g0, g1]) rfl ?_
    exact .inr ⟨by rw [HP.out]; exact HT.out, by rw [HP.out]; exact ⟨rfl, y13⟩⟩
end Go.Proofs.Ytllgindmcjemeaa
