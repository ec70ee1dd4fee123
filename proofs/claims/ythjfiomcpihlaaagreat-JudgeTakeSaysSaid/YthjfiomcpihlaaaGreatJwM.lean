/- Walk: the reference's mirrored (JudgeWhySays; printed by genJwM.py). -/
import Derived.Test.YthjfiomcpihlaaaGreatJwDEF
import Derived.Test.YthjfiomcpihlaaaGreatJwL
namespace Go.Proofs.YthjfiomcpihlaaaGreat
open Go.RowKit

theorem all_range {p : Nat → Bool} {n : Nat} : (List.range n).all p = true ↔ ∀ i, i < n → p i = true := by simp
set_option maxRecDepth 100000 in
set_option maxHeartbeats 4000000 in
theorem refMirrored_any (A B : Option Addr) (na ca nb cb : Nat) (xs ys : List Int) (ka ta kb tb s : Int) (n : Nat) (w : World) (hxs : IntsB w w.heap.size A na xs) (hys : IntsB w w.heap.size B nb ys)
    (hna : na ≤ ca) (hnb : nb ≤ cb) (hn : n ≤ 1000) (ha : na ≤ 1000000) (hb : nb ≤ 1000000) (hs : s = 1 ∨ s = -1) (hx : ∀ x ∈ xs, -1000000 ≤ x ∧ x ≤ 1000000) (R : Bool) (hR : turnedF n xs ys s = R) :
    Calls Tryz.prog 70 #[.agg #[.slice A na ca, .int .i64 ka, .int .i64 ta], .agg #[.slice B nb cb, .int .i64 kb, .int .i64 tb], .int .i64 s, .int .i64 n] w fun e w' => e = .returned (.bool R) ∧ Below w.heap.size w w' := by
  obtain ⟨hbX, k1, k2, hsX⟩ := two_boxes w 45 45 #[.slice A na ca, .int .i64 ka, .int .i64 ta] #[.slice B nb cb, .int .i64 kb, .int .i64 tb]
  have HH := Lib.hid (And.intro hbX (And.intro k1 (And.intro k2 hsX)))
  have HX := Lib.hid (And.intro hxs (And.intro hys hx))
  have HR := Lib.hid hR
  clear hbX k1 k2 hsX hxs hys hx hR
  go_enter Tryz.func70, Tryz.ntmps70
  go_wp2_with fail
  obtain ⟨X, hX⟩ : ∃ X, (w.alloc (.cells #[.slice A na ca, .int .i64 ka, .int .i64 ta] 45)).alloc (.cells #[.slice B nb cb, .int .i64 kb, .int .i64 tb] 45) = X := ⟨_, rfl⟩
  rw [hX] at HH
  rw [hX]
  clear hX
  go_loopw [9] (fun u wr => ∃ k : Nat, u = .int .i64 (k : Int) ∧ k ≤ n ∧ Hid (∀ i, i < k → ys.getD i 0 = s * xs.getD i 0) ∧ Below X.heap.size X wr) (fun u _ => n - (intOf u).toNat)
  case atStart => exact ⟨0, rfl, Nat.zero_le _, (fun i hi => absurd hi (Nat.not_lt_zero i)), Below.refl _ _⟩
  case round =>
    obtain ⟨wo, rfl⟩ : ∃ wo : World, wo = wr := ⟨_, rfl⟩
    obtain ⟨k, rfl, hk, HK, hbel⟩ := hrel
    have hz := hbel.size
    have hsz := HH.out.2.2.2
    have hb1 : Blk wo w.heap.size 45 #[.slice A na ca, .int .i64 ka, .int .i64 ta] := HH.out.2.1.below hbel HH.out.2.1.lt
    have hb2 : Blk wo (w.heap.size + 1) 45 #[.slice B nb cb, .int .i64 kb, .int .i64 tb] := HH.out.2.2.1.below hbel HH.out.2.2.1.lt
    have hbw := HH.out.1.trans (hbel.mono HH.out.1.size)
    by_cases hlt : k < n
    · have hin : (k : Int) < (n : Int) := by omega
      have HP1 : Hid (∀ W, Below wo.heap.size wo W → Calls Tryz.prog 69 #[.agg #[.slice A na ca, .int .i64 ka, .int .i64 ta], .int .i64 (k : Int)] W fun e w' => e = .returned (.int .i64 (xs.getD k 0)) ∧ Below W.heap.size W w') := fun W hW => by
        have hW2 := hbw.trans (hW.mono hbw.size)
        have h := refPlaceOf_any A na ca xs ka ta (k : Int) W (HX.out.1.below stays_int hW2 hW2.size) hna ha (by omega) (by omega)
        rwa [Int.toNat_natCast] at h
      have HP2 : Hid (∀ W, Below wo.heap.size wo W → Calls Tryz.prog 69 #[.agg #[.slice B nb cb, .int .i64 kb, .int .i64 tb], .int .i64 (k : Int)] W fun e w' => e = .returned (.int .i64 (ys.getD k 0)) ∧ Below W.heap.size W w') := fun W hW => by
        have hW2 := hbw.trans (hW.mono hbw.size)
        have h := refPlaceOf_any B nb cb ys kb tb (k : Int) W (HX.out.2.1.below stays_int hW2 hW2.size) hnb hb (by omega) (by omega)
        rwa [Int.toNat_natCast] at h
      have hbx : -1000000 ≤ xs.getD k 0 ∧ xs.getD k 0 ≤ 1000000 := by
        rw [List.getD_eq_getElem?_getD]
        cases h : xs[k]? with
        | none => simp
        | some x => exact HX.out.2.2 x (List.mem_of_getElem? h)
      obtain ⟨x, hx⟩ : ∃ x, xs.getD k 0 = x := ⟨_, rfl⟩
      obtain ⟨y, hy⟩ : ∃ y, ys.getD k 0 = y := ⟨_, rfl⟩
      rw [hx] at hbx HP1
      rw [hy] at HP2
      have hwx : IntKind.i64.wrap (s * x) = s * x := IntWalk.i64_in _ (by rcases hs with rfl | rfl <;> omega)
      have e10 : wo.cell? ⟨w.heap.size, 0, none⟩ = some (.slice A na ca) := hb1.cell 0
      have e11 : wo.cell? ⟨w.heap.size, 1, none⟩ = some (.int .i64 ka) := hb1.cell 1
      have e12 : wo.cell? ⟨w.heap.size, 2, none⟩ = some (.int .i64 ta) := hb1.cell 2
      have e20 : wo.cell? ⟨w.heap.size + 1, 0, none⟩ = some (.slice B nb cb) := hb2.cell 0
      have e21 : wo.cell? ⟨w.heap.size + 1, 1, none⟩ = some (.int .i64 kb) := hb2.cell 1
      have e22 : wo.cell? ⟨w.heap.size + 1, 2, none⟩ = some (.int .i64 tb) := hb2.cell 2
      obtain ⟨q, hq⟩ : ∃ q, (y != s * x) = q := ⟨_, rfl⟩
      have HY := Lib.hid (And.intro hx hy)
      have HBW := Lib.hid (And.intro hbw hb1.lt)
      clear hx hy hb1 hb2 hbw hsz
      go_upto_region 4 with fail
      have re10 := cell_regrown e10
      have re11 := cell_regrown e11
      have re12 := cell_regrown e12
      have re20 := cell_regrown e20
      have re21 := cell_regrown e21
      have re22 := cell_regrown e22
      refine wp_region_quiet_below (by kernel_rfl) (by kernel_rfl) ?_
      repeat (with_reducible refine wpQuiet_step (fun K hK => ?_); go_simp; first | (with_reducible refine hK _ ?_; clear hK K) | (apply Exists.intro; with_reducible refine ⟨fun _ => ?_, hK _ ?_⟩; (first | (go_at_call 69; with_reducible exact Calls.regrown_of (HP1.out _ (below_regrown wo _ _))) | (go_at_call 69; with_reducible exact Calls.regrown_of (HP2.out _ (below_regrown wo _ _)))); clear hK K))
      with_reducible refine wpQuiet_nil ?_
      intro _ hw'
      obtain ⟨⟨dq, osq⟩, hw''⟩ := hw'
      subst hw''
      cases q with
      | true =>
        have HF : Hid (R = false) := by
          have h1 : ¬ y = s * x := by simpa using hq
          have h2 := HR.out
          cases R with
          | false => rfl
          | true =>
            have h3 := (all_range.1 h2) k hlt
            have h4 := of_decide_eq_true h3
            rw [HY.out.1, HY.out.2] at h4
            exact absurd h4 h1
        go_wp2_with fail
        go_ret
        exact ⟨ret_bool HF.out.symm, HBW.out.1.trans ((below_regrown wo dq osq).mono HBW.out.1.size)⟩
      | false =>
        have HE : Hid (y = s * x) := by show _ = _; simpa using hq
        go_wp2_with fail
        go_roundw
        case rel =>
          refine ⟨k + 1, by go_num, by omega, fun i hi => ?_, hbel.trans ((below_regrown wo dq osq).mono hz)⟩
          by_cases e : i = k
          · subst e; rw [HY.out.1, HY.out.2]; exact HE.out
          · exact HK.out i (by omega)
        case measure => simp [intOf]; omega
    · obtain rfl : n = k := by omega
      have HF : Hid (R = true) := by rw [← HR.out]; exact all_range.2 fun i hi => decide_eq_true (HK.out i hi)
      have HBW := Lib.hid hbw
      clear hb1 hb2 hbw hsz
      go_wp2_with fail
      go_ret
      exact ⟨ret_bool HF.out.symm, HBW.out⟩
end Go.Proofs.YthjfiomcpihlaaaGreat
