/- Walks: umpirageref1.LitHolds, ClausesHold. -/
import Derived.Test.YthjfiomcpihlaaaJuEP
import Derived.Test.YthjfiomcpihlaaaDataB
namespace Go.Proofs.Ythjfiomcpihlaaa
open Go.RowKit

theorem bools_get1 {w : World} {S : Nat → Prop} {A : Option Addr} {n : Nat} {hs : List Bool} (h : Arr AtBool 1 w S A n hs) {i : Nat} (hi : i < n) : ∃ b off, A = some ⟨b, off, none⟩ ∧ w.cell? ⟨b, off + i, none⟩ = some (.bool (hs.getD i false)) := by
  obtain ⟨b, off, hx, e, _, hc⟩ := Arr.get h hi
  refine ⟨b, off, e, ?_⟩
  have : w.cell? ⟨b, off + i * 1, none⟩ = some (.bool hs[i]) := hc
  rw [Nat.mul_one] at this
  rw [this, List.getD_eq_getElem?_getD, List.getElem?_eq_getElem hx]
  rfl

set_option maxHeartbeats 1000000 in
theorem litHolds_any (l : Int) (A : Option Addr) (n c : Nat) (hs : List Bool) (S : Nat → Prop) (w : World) (hhs : Arr AtBool 1 w S A n hs) (hn : n ≤ 1000000) (hl : LitIn n l) :
    Calls Try.prog 32 #[.int .i64 l, .slice A n c] w fun e w' => e = .returned (.bool (litT hs l)) ∧ w = w' := by
  obtain ⟨h0, h1, h2⟩ := hl
  by_cases hneg : l < 0
  · obtain ⟨k, rfl⟩ : ∃ k : Nat, l = -((k : Int) + 1) := ⟨(-l - 1).toNat, by omega⟩
    obtain ⟨b, off, rfl, hc⟩ := bools_get1 hhs (i := k) (by omega)
    have hv : litT hs (-((k : Int) + 1)) = !hs.getD k false := by
      unfold litT
      rw [if_pos hneg, show (-((k : Int) + 1)).natAbs - 1 = k by omega]
    have HV := Lib.hid hv
    generalize hs.getD k false = y at hc hv HV
    have hkn : (k : Int) < (n : Int) := by omega
    have e1 : - -((k : Int) + 1) - 1 = (k : Int) := by omega
    have e2 : (k : Int) + 1 - 1 = (k : Int) := by omega
    clear hv hhs h0 h1 h2
    go_enter Try.func32, Try.ntmps32
    go_wp2_with fail
    go_ret
    exact ⟨ret_bool HV.out.symm, rfl⟩
  · obtain ⟨k, rfl⟩ : ∃ k : Nat, l = (k : Int) + 1 := ⟨(l - 1).toNat, by omega⟩
    obtain ⟨b, off, rfl, hc⟩ := bools_get1 hhs (i := k) (by omega)
    have hv : litT hs ((k : Int) + 1) = hs.getD k false := by
      unfold litT
      rw [if_neg hneg, show ((k : Int) + 1).natAbs - 1 = k by omega]
    have HV := Lib.hid hv
    generalize hs.getD k false = y at hc hv HV
    have hkn : (k : Int) < (n : Int) := by omega
    have e2 : (k : Int) + 1 - 1 = (k : Int) := by omega
    clear hv hhs h0 h1 h2
    go_enter Try.func32, Try.ntmps32
    go_wp2_with fail
    go_ret
    exact ⟨ret_bool HV.out.symm, rfl⟩

theorem take_any_snoc {p : Int → Bool} {c : List Int} {k : Nat} (hk : k < c.length) : (c.take (k + 1)).any p = ((c.take k).any p || p c[k]) := by
  rw [List.take_succ_eq_append_getElem hk, List.any_append]; simp

set_option maxRecDepth 100000 in
set_option maxHeartbeats 4000000 in
theorem clausesHold_any (A : Option Addr) (n c : Nat) (cls : List (List Int)) (A2 : Option Addr) (n2 c2 : Nat) (hs : List Bool) (R : Bool) (w : World) (hcls : ArrB (AtArr AtInt 1) 1 w w.heap.size A n cls) (hn : n ≤ 1000000) (hhs : ArrB AtBool 1 w w.heap.size A2 n2 hs) (hn2 : n2 ≤ 1000000)
    (hl : ∀ c ∈ cls, ∀ x ∈ c, LitIn n2 x) (hR : cls.all (satC hs) = R) :
    Calls Try.prog 18 #[.slice A n c, .slice A2 n2 c2] w fun e w' => e = .returned (.bool R) ∧ w = w' := by
  have hlen := hcls.len
  have HX := Lib.hid (And.intro hcls (And.intro hhs hl))
  have HR := Lib.hid hR
  clear hcls hhs hl hR
  go_enter Try.func18, Try.ntmps18
  go_wp2_with fail
  go_loopw [5] (fun s5 wr => ∃ i : Nat, s5 = .int .i64 (i : Int) ∧ i ≤ n ∧ wr = w ∧ Hid ((cls.drop i).all (satC hs) = R)) (fun s5 _ => n - (intOf s5).toNat)
  case atStart => exact ⟨0, rfl, Nat.zero_le _, rfl, HR⟩
  case round =>
    clear HR
    obtain ⟨i, rfl, hi, rfl, HR⟩ := hrel
    by_cases hlt : i < n
    · have hiI : (i : Int) < (n : Int) := by omega
      obtain ⟨b, off, hx, rfl, hb, A', n', c', hcell, hnc, hcm, har⟩ := Arr.get HX.out.1 hlt
      have hcell : wr.cell? ⟨b, off + i * 1, none⟩ = some (.slice A' n' c') := hcell
      rw [Nat.mul_one] at hcell
      have hrun := HR.out
      rw [drop_cons hx, List.all_cons] at hrun
      have hlx := HX.out.2.2 _ (List.getElem_mem hx)
      generalize cls[i] = x at hrun hlx har
      have hxl := har.len
      have hcm' : n' ≤ 9223372036854775807 := by unfold maxLen at hcm; omega
      have HA := Lib.hid (And.intro har (And.intro hlx (And.intro hrun hxl)))
      clear har hlx hrun hxl hcm hnc
      go_wp2_with fail
      go_loopw [6, 7] (fun s6 s7 w' => ∃ (k : Nat) (g : Bool), s6 = .bool g ∧ s7 = .int .i64 (k : Int) ∧ k ≤ n' ∧ w' = wr ∧ Hid ((x.take k).any (litT hs) = g)) (fun _ s7 _ => n' - (intOf s7).toNat)
      case atStart => exact ⟨0, false, rfl, rfl, Nat.zero_le _, rfl, rfl⟩
      case round =>
        obtain ⟨k, g, rfl, rfl, hk, rfl, HG⟩ := hrel
        by_cases hkl : k < n'
        · have hkI : (k : Int) < (n' : Int) := by omega
          obtain ⟨b2, off2, hx2, rfl, hb2, hc2, -, -⟩ := ints_get HA.out.1 hkl
          have hsn := take_any_snoc (p := litT hs) hx2
          rw [HG.out] at hsn
          have hin := HA.out.2.1 _ (List.getElem_mem hx2)
          generalize x[k] = y at hc2 hsn hin
          have HS := Lib.hid hsn
          cases g with
          | true =>
            have HN : Hid ((x.take (k + 1)).any (litT hs) = true) := by rw [HS.out]; rfl
            clear hsn hin
            go_wp2_with fail
            go_roundw
            case rel => first | exact ⟨k + 1, true, rfl, by go_num, by omega, trivial, HN⟩ | exact ⟨k + 1, by go_num, by omega, trivial, HN⟩
            case measure => simp [intOf]; omega
          | false =>
            have HLH := Lib.hid (litHolds_any y A2 n2 c2 hs _ wr HX.out.2.1 hn2 hin)
            obtain ⟨r, hr⟩ : ∃ r, litT hs y = r := ⟨_, rfl⟩
            rw [hr] at HLH
            have HN : Hid ((x.take (k + 1)).any (litT hs) = r) := by rw [HS.out, hr]; rfl
            clear hsn hin hr
            go_wp2_with fail
            refine HLH.out.mono ?_
            rintro e w9 ⟨rfl, rfl⟩
            go_wp2_with fail
            go_roundw
            case rel => first | exact ⟨k + 1, r, rfl, by go_num, by omega, trivial, HN⟩ | exact ⟨k + 1, by go_num, by omega, trivial, HN⟩
            case measure => simp [intOf]; omega
        · have hkI : ¬ (k : Int) < (n' : Int) := by omega
          obtain rfl : k = n' := by omega
          have hg : satC hs x = g := by
            have := HG.out
            rwa [List.take_of_length_le (by have := HA.out.2.2.2; omega)] at this
          have hrun := HA.out.2.2.1
          rw [hg] at hrun
          cases g with
          | true =>
            have HN : Hid ((cls.drop (i + 1)).all (satC hs) = R) := by show _ = _; simpa using hrun
            clear hrun hg
            go_wp2_with fail
            go_roundw
            case rel => first | exact ⟨i + 1, by go_num, by omega, trivial, HN⟩ | exact ⟨i + 1, by go_num, by omega, HN⟩
            case measure => simp [intOf]; omega
          | false =>
            have HN : Hid (false = R) := by show _ = _; simpa using hrun
            clear hrun hg
            go_wp2_with fail
            go_ret
            exact ⟨ret_bool HN.out, rfl⟩
    · have hiI : ¬ (i : Int) < (n : Int) := by omega
      obtain rfl : i = n := by omega
      have hrun := HR.out
      rw [List.drop_of_length_le (by omega)] at hrun
      have HN : Hid (true = R) := by show _ = _; simpa using hrun
      clear hrun
      go_wp2_with fail
      go_ret
      exact ⟨ret_bool HN.out, rfl⟩
end Go.Proofs.Ythjfiomcpihlaaa
