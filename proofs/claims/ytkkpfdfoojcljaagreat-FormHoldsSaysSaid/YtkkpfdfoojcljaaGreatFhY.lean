/- The reference's LitHolds and ClausesHold. -/
import Derived.Test.YtkkpfdfoojcljaaGreatLhM
namespace Go.Proofs.YtkkpfdfoojcljaaGreat
open Go.RowKit

set_option maxHeartbeats 1000000 in
theorem litHolds_any (l : Int) (B : Option Addr) (n c : Nat) (bs : List Bool) (w : World) (hbs : ArrB AtBool 1 w w.heap.size B n bs) (hn : n ≤ 120) (hl : LitOk n l) :
    Calls Tryz.prog 33 #[.int .i64 l, .slice B n c] w fun e w' => e = .returned (.bool (litH bs l)) ∧ w = w' := by
  obtain ⟨h0, h1, h2⟩ := hl
  by_cases hz : l < 0
  · obtain ⟨k, hk⟩ : ∃ k : Nat, -l - 1 = (k : Int) := ⟨(-l - 1).toNat, by omega⟩
    have hkn : k < n := by omega
    obtain ⟨b, off, hx, rfl, hb, hcell⟩ := bools_get hbs hkn
    have e : litH bs l = !bs[k] := by
      unfold litH absI
      rw [if_pos hz, hk, Int.toNat_natCast, List.getElem?_eq_getElem hx, Option.getD_some, decide_eq_false (by omega)]
      cases bs[k] <;> rfl
    rw [e]
    generalize bs[k] = y at hcell ⊢
    have hk1 : -l = (k : Int) + 1 := by omega
    have hkI : (k : Int) < (n : Int) := by omega
    clear hbs hx e hk
    go_enter Tryz.func33, Tryz.ntmps33
    go_wp2_with fail
    go_ret
    exact ⟨rfl, rfl⟩
  · obtain ⟨k, hk⟩ : ∃ k : Nat, l = (k : Int) + 1 := ⟨(l - 1).toNat, by omega⟩
    have hkn : k < n := by omega
    obtain ⟨b, off, hx, rfl, hb, hcell⟩ := bools_get hbs hkn
    have e : litH bs l = bs[k] := by
      unfold litH absI
      rw [if_neg hz, show l - 1 = (k : Int) by omega, Int.toNat_natCast, List.getElem?_eq_getElem hx, Option.getD_some, decide_eq_true (by omega)]
      cases bs[k] <;> rfl
    rw [e]
    generalize bs[k] = y at hcell ⊢
    have hkI : (k : Int) < (n : Int) := by omega
    subst hk
    clear hbs hx e
    go_enter Tryz.func33, Tryz.ntmps33
    go_wp2_with fail
    go_ret
    exact ⟨rfl, rfl⟩
theorem clsH_cons (bs : List Bool) (l : List Int) (r : List (List Int)) : clsH bs (l :: r) = (l.any (litH bs) && clsH bs r) := by
  simp [clsH]
set_option maxRecDepth 100000 in
set_option maxHeartbeats 4000000 in
theorem clausesHold_any (A : Option Addr) (n c : Nat) (cs : List (List Int)) (B : Option Addr) (m e0 : Nat) (bs : List Bool) (w : World) (hcs : ArrB (AtArr AtInt 1) 1 w w.heap.size A n cs) (hn : n ≤ 1000000) (hbs : ArrB AtBool 1 w w.heap.size B m bs) (hm : m ≤ 120) (hl : ∀ l ∈ cs, l.length ≤ 1000000 ∧ ∀ x ∈ l, LitOk m x) :
    Calls Tryz.prog 18 #[.slice A n c, .slice B m e0] w fun e w' => e = .returned (.bool (clsH bs cs)) ∧ w = w' := by
  obtain ⟨R, hR⟩ : ∃ R, clsH bs cs = R := ⟨_, rfl⟩
  rw [hR]
  have HR := Lib.hid hR
  have HD := Lib.hid (And.intro hcs (And.intro hbs hl))
  have HC := Lib.hid (fun l hl => litHolds_any l B m e0 bs w hbs hm hl)
  clear hcs hbs hl hR
  go_enter Tryz.func18, Tryz.ntmps18
  go_wp2_with fail
  go_loop [5] (fun s5 => ∃ i : Nat, i ≤ n ∧ s5 = .int .i64 (i : Int) ∧ Hid (clsH bs (cs.drop i) = R)) (fun s5 => n - (intOf s5).toNat)
  case atStart => exact ⟨0, Nat.zero_le _, rfl, HR⟩
  case round =>
    obtain ⟨i, hi, rfl, HI⟩ := hrel
    by_cases hlt : i < n
    · obtain ⟨b, off, hx, A', n', c', rfl, hb, hcell, hnc, hcm, har⟩ := arrs_get HD.out.1 hlt
      have hok := HD.out.2.2 _ (List.getElem_mem hx)
      have e1 := HI.out
      rw [drop_cons hx, clsH_cons] at e1
      have hl2 := har.len
      generalize cs[i] = y at e1 har hl2 hok
      have hn' : n' ≤ 1000000 := by omega
      obtain ⟨G, hG⟩ : ∃ G, y.any (litH bs) = G := ⟨_, rfl⟩
      rw [hG] at e1
      have HY := Lib.hid (And.intro har (And.intro hok.2 (And.intro hl2 (And.intro e1 hG))))
      have hiI : (i : Int) < (n : Int) := by omega
      clear har hok hl2 e1 hG hx HI
      go_wp2_with fail
      go_loop [6, 7] (fun s6 s7 => ∃ (j : Nat) (g : Bool), j ≤ n' ∧ s7 = .int .i64 (j : Int) ∧ s6 = .bool g ∧ Hid ((g || (y.drop j).any (litH bs)) = G)) (fun _ s7 => n' - (intOf s7).toNat)
      case atStart => exact ⟨0, false, Nat.zero_le _, rfl, rfl, Lib.hid (by rw [Bool.false_or, List.drop_zero]; exact HY.out.2.2.2.2)⟩
      case round =>
        obtain ⟨j, g, hj, rfl, rfl, HJ⟩ := hrel
        by_cases hjl : j < n'
        · obtain ⟨b2, off2, hx2, rfl, hb2, hcw2, -, -⟩ := ints_get HY.out.1 hjl
          have hok := HY.out.2.1 _ (List.getElem_mem hx2)
          have e2 := HJ.out
          rw [drop_cons hx2, List.any_cons] at e2
          generalize y[j] = x at hcw2 hok e2
          have hjI : (j : Int) < (n' : Int) := by omega
          have HE := Lib.hid (And.intro hok e2)
          clear hok e2 hx2 HJ
          cases g with
          | false =>
            go_wp2_with fail
            refine (HC.out x HE.out.1).mono ?_
            rintro e w' ⟨rfl, rfl⟩
            go_wp2_with fail
            go_round
            case rel => exact ⟨j + 1, _, by omega, by go_num, rfl, Lib.hid (by have h := HE.out.2; rwa [Bool.false_or] at h)⟩
            case measure => simp [intOf]; omega
          | true =>
            go_wp2_with fail
            go_round
            case rel => exact ⟨j + 1, true, by omega, by go_num, rfl, Lib.hid (by have h := HE.out.2; rw [Bool.true_or] at h; rw [Bool.true_or]; exact h)⟩
            case measure => simp [intOf]; omega
        · obtain rfl : j = n' := by omega
          have e2 := HJ.out
          rw [List.drop_of_length_le (Nat.le_of_eq HY.out.2.2.1), List.any_nil, Bool.or_false] at e2
          subst e2
          have e1 := HY.out.2.2.2.1
          clear HJ
          cases g with
          | false =>
            rw [Bool.false_and] at e1
            subst e1
            go_wp2_with fail
            go_ret
            exact ⟨rfl, rfl⟩
          | true =>
            rw [Bool.true_and] at e1
            have HE := Lib.hid e1
            clear e1
            go_wp2_with fail
            go_round
            case rel => exact ⟨i + 1, by omega, by go_num, HE⟩
            case measure => simp [intOf]; omega
    · obtain rfl : i = n := by omega
      have e1 := HI.out
      rw [List.drop_of_length_le (by have := HD.out.1.len; omega)] at e1
      have e3 : R = true := by rw [← e1]; rfl
      subst e3
      clear HI e1
      go_wp2_with fail
      go_ret
      exact ⟨rfl, rfl⟩
end Go.Proofs.YtkkpfdfoojcljaaGreat
