/- Walk: form.atoms: whether the atoms have their values. -/
import Derived.Test.YtkkpfdfoojcljaaGreatLhKL
import Derived.Test.YtkkpfdfoojcljaaGreatLhM
import Derived.Test.YtkkpfdfoojcljaaGreatFitsBR
namespace Go.Proofs.YtkkpfdfoojcljaaGreat
open Go.RowKit

/-- an atom that may be asked for its value -/
def AtomOk (nt ni : Nat) (x : AtomD) : Prop := (x.kind = 2 → (0 ≤ x.a ∧ x.a < nt) ∧ 0 ≤ x.b ∧ x.b < nt) ∧ (x.kind = 3 → rowF x.row ni = (0, 0))
/-- the value of an atom -/
def atomV (M : ModelD) (x : AtomD) (i : Nat) : Bool :=
  if x.kind = 2 then (M.things[x.a.toNat]?.getD 0 == M.things[x.b.toNat]?.getD 0) else if x.kind = 3 then rowHoldsF x.row M.nums else M.holds[i]?.getD false
def atomsH (M : ModelD) : List AtomD → Nat → Bool
  | [], _ => true
  | x :: r, i => if atomV M x i = M.holds[i]?.getD false then atomsH M r (i + 1) else false

set_option maxRecDepth 100000 in
set_option maxHeartbeats 8000000 in
theorem atoms_any (A1 A2 A3 A4 : Option Addr) (n1 c1 n2 c2 n3 c3 n4 c4 : Nat) (B1 B2 B3 : Option Addr) (k1 e1 k2 e2 k3 e3 : Nat) (F : FormD) (M : ModelD) (w : World) (hF : FormB w w.heap.size A1 A2 A3 A4 n1 n2 n3 n4 F) (hM : ModelB w w.heap.size B1 B2 B3 k1 k2 k3 M)
    (h1 : n3 ≤ 120) (h2 : k1 = n3) (h4 : k3 ≤ 12) (hok : ∀ x ∈ F.atoms, AtomOk k2 k3 x) (hG : ∀ y ∈ M.nums, fracGood y.num y.den = true) :
    Calls Tryz.prog 10 #[.agg #[.slice A1 n1 c1, .slice A2 n2 c2, .slice A3 n3 c3, .slice A4 n4 c4], .agg #[.slice B1 k1 e1, .slice B2 k2 e2, .slice B3 k3 e3]] w fun e w' => e = .returned (.bool (atomsH M F.atoms 0)) ∧ Below w.heap.size w w' := by
  subst h2
  obtain ⟨R, hR⟩ : ∃ R, atomsH M F.atoms 0 = R := ⟨_, rfl⟩
  rw [hR]
  have HD := Lib.hid (And.intro hF (And.intro hM (And.intro hok hG)))
  have HR := Lib.hid hR
  clear hF hM hok hG hR
  go_enter Tryz.func10, Tryz.ntmps10
  go_upto_region 1 with fail
  obtain ⟨hb0, hbk, hbf, hs0⟩ := two_boxes w 27 31 #[.slice A1 n1 c1, .slice A2 n2 c2, .slice A3 k1 c3, .slice A4 n4 c4] #[.slice B1 k1 e1, .slice B2 k2 e2, .slice B3 k3 e3]
  generalize (w.alloc (.cells #[.slice A1 n1 c1, .slice A2 n2 c2, .slice A3 k1 c3, .slice A4 n4 c4] 27)).alloc (.cells #[.slice B1 k1 e1, .slice B2 k2 e2, .slice B3 k3 e3] 31) = X at hb0 hbk hbf hs0 ⊢
  have a2 : X.cell? ⟨w.heap.size, 2, none⟩ = some (.slice A3 k1 c3) := hbk.cell 2
  have HX := Lib.hid (And.intro hb0 (And.intro hs0 hbf))
  clear hb0 hs0 hbf hbk
  go_wp2_with fail
  clear a2
  go_loopw [11] (fun s wr => ∃ k : Nat, k ≤ k1 ∧ s = .int .i64 k ∧ Hid (atomsH M (F.atoms.drop k) k = R) ∧ Hid (Below X.heap.size X wr)) (fun s _ => k1 - (intOf s).toNat)
  case atStart => exact ⟨0, Nat.zero_le _, rfl, HR, Lib.hid (Below.refl _ _)⟩
  case round =>
    obtain ⟨k, hk, rfl, HK, HB⟩ := hrel
    have hXs := HX.out.2.1
    have hXw := HB.out.size
    have hw0 : Below w.heap.size w wr := HX.out.1.trans (HB.out.mono (by omega))
    by_cases hlt : k < k1
    · obtain ⟨b, off, hx, A', n', c', rfl, hb, q0, q1, q2, q3, q4, q5, hnc, hcm, har, -⟩ := atoms_get (HD.out.1.atoms.below stays_atom hw0 (Nat.le_refl _)) hlt
      obtain ⟨b1, off1, hx1, rfl, hb1, p0⟩ := bools_get (HD.out.2.1.holds.below stays_bool hw0 (Nat.le_refl _)) hlt
      have hok := HD.out.2.2.1 _ (List.getElem_mem hx)
      have e9 := HK.out
      have hg1 : M.holds[k]?.getD false = M.holds[k] := by rw [List.getElem?_eq_getElem hx1, Option.getD_some]
      rw [drop_cons hx, atomsH, atomV, hg1] at e9
      generalize F.atoms[k] = x at q0 q1 q2 q3 q4 q5 har hok e9
      generalize M.holds[k] = bk at p0 e9
      obtain ⟨kind, xa, xb, row⟩ := x
      simp only [AtomOk] at q0 q1 q2 q3 q4 q5 har hok e9
      have m0 : wr.cell? ⟨w.heap.size + 1, 0, none⟩ = some (.slice (some ⟨b1, off1, none⟩) k1 e1) := (HX.out.2.2.below HB.out (by omega)).cell 0
      have m1 : wr.cell? ⟨w.heap.size + 1, 1, none⟩ = some (.slice B2 k2 e2) := (HX.out.2.2.below HB.out (by omega)).cell 1
      have m2 : wr.cell? ⟨w.heap.size + 1, 2, none⟩ = some (.slice B3 k3 e3) := (HX.out.2.2.below HB.out (by omega)).cell 2
      have hz0 : w.heap.size + 1 < wr.heap.size := by omega
      have hz1 : b < wr.heap.size := by omega
      have hz2 : b1 < wr.heap.size := by omega
      have hi0 : (0 : Int) ≤ (k : Int) := by omega
      have hi1 : (k : Int) < (k1 : Int) := by omega
      have HB2 := Lib.hid (HB.out.alloc HB.out.size (.cells #[.int .i64 kind, .int .i64 xa, .int .i64 xb, .slice A' n' c', .int .i64 row.kind, .int .i64 row.to_] 47))
      by_cases hk2 : kind = 2
      · subst hk2
        obtain ⟨⟨ha1, ha2⟩, hb3, hb4⟩ := hok.1 rfl
        obtain ⟨i, rfl⟩ := Int.eq_ofNat_of_zero_le ha1
        obtain ⟨j, rfl⟩ := Int.eq_ofNat_of_zero_le hb3
        obtain ⟨t, toff, ht, rfl, htb, u0, -, -⟩ := ints_get (HD.out.2.1.things.below stays_int hw0 (Nat.le_refl _)) (i := i) (by omega)
        obtain ⟨t', toff', ht', hte, -, u1, -, -⟩ := ints_get (HD.out.2.1.things.below stays_int hw0 (Nat.le_refl _)) (i := j) (by omega)
        simp only [Option.some.injEq, Addr.mk.injEq, and_true] at hte
        obtain ⟨rfl, rfl⟩ := hte
        rw [if_pos rfl, Int.toNat_natCast, Int.toNat_natCast, List.getElem?_eq_getElem ht, List.getElem?_eq_getElem ht', Option.getD_some, Option.getD_some] at e9
        generalize M.things[i] = y at u0 e9
        generalize M.things[j] = z at u1 e9
        have hz3 : t < wr.heap.size := by omega
        obtain ⟨v, hv⟩ : ∃ v, (y == z) = v := ⟨_, rfl⟩
        rw [hv] at e9
        clear hx hx1 ht ht' har hok HK hg1
        by_cases hvb : v = bk
        · rw [if_pos hvb] at e9
          subst hvb
          have H9 := Lib.hid e9
          clear e9
          go_upto_region 7 with fail
          go_quiet (fail)
          go_wp2_with fail
          go_roundw
          case rel => exact ⟨k + 1, by omega, by go_num, H9, Lib.hid (below_drewN HB2.out _)⟩
          case measure => simp [intOf]; omega
        · rw [if_neg hvb] at e9
          subst e9
          have H7 := Lib.hid (fun m => HX.out.1.trans ((below_drewN HB2.out m).mono (by omega)))
          cases v <;> cases bk <;> (try exact absurd rfl hvb)
          all_goals
            clear hvb
            go_upto_region 7 with fail
            go_quiet (fail)
            go_wp2_with fail
            go_ret
            exact ⟨rfl, H7.out _⟩
      rw [if_neg hk2] at e9
      have hq2 : (kind == 2) = false := by simpa using hk2
      by_cases hk3 : kind = 3
      · subst hk3
        have hrow := hok.2 rfl
        have hnm := HD.out.2.1.nums.below stays_frac hw0 (Nat.le_refl _)
        have HC := Lib.hid (fun W (hb : Below wr.heap.size wr W) => rowHolds_any A' B3 n' c' k3 e3 row M.nums W (har.below stays_int (hb.mono hw0.size) (Nat.le_trans hw0.size hb.size)) (Nat.le_trans hnc hcm) (hnm.below stays_frac (hb.mono hw0.size) (Nat.le_trans hw0.size hb.size)) h4 hrow HD.out.2.2.2)
        rw [if_pos rfl] at e9
        obtain ⟨v, hv⟩ : ∃ v, rowHoldsF row M.nums = v := ⟨_, rfl⟩
        rw [hv] at e9 HC
        have HB3 := Lib.hid ((Below.refl wr.heap.size wr).alloc (Nat.le_refl _) (.cells #[.int .i64 3, .int .i64 xa, .int .i64 xb, .slice A' n' c', .int .i64 row.kind, .int .i64 row.to_] 47))
        clear hnm hx hx1 har hok HK hg1 hv hrow hq2
        by_cases hvb : v = bk
        · rw [if_pos hvb] at e9
          subst hvb
          have H9 := Lib.hid e9
          clear e9
          go_wp2_with fail
          refine (HC.out _ HB3.out).mono ?_
          rintro e w2 ⟨rfl, hb2⟩
          have H5 := Lib.hid (HB2.out.trans (hb2.mono HB2.out.size))
          have s0 : w2.cell? ⟨w.heap.size + 1, 0, none⟩ = some (.slice (some ⟨b1, off1, none⟩) k1 e1) := (HX.out.2.2.below H5.out (by omega)).cell 0
          have s1 : w2.cell? ⟨b1, off1 + k, none⟩ = some (.bool v) := (hb2.cell (p := ⟨b1, off1 + k, none⟩) (by simp; omega)).trans ((World.cell?_alloc_lt _ _ _ hz2).trans p0)
          clear hb2
          go_wp2_with fail
          go_roundw
          case rel => exact ⟨k + 1, by omega, by go_num, H9, H5⟩
          case measure => simp [intOf]; omega
        · rw [if_neg hvb] at e9
          subst e9
          cases v <;> cases bk <;> (try exact absurd rfl hvb)
          all_goals
            clear hvb
            go_wp2_with fail
            refine (HC.out _ HB3.out).mono ?_
            rintro e w2 ⟨rfl, hb2⟩
            have H5 := Lib.hid (HB2.out.trans (hb2.mono HB2.out.size))
            have s0 : w2.cell? ⟨w.heap.size + 1, 0, none⟩ = some (.slice (some ⟨b1, off1, none⟩) k1 e1) := (HX.out.2.2.below H5.out (by omega)).cell 0
            have s1 := (hb2.cell (p := ⟨b1, off1 + k, none⟩) (by simp; omega)).trans ((World.cell?_alloc_lt _ _ _ hz2).trans p0)
            clear hb2
            go_wp2_with fail
            go_ret
            exact ⟨rfl, HX.out.1.trans (H5.out.mono (by omega))⟩
      rw [if_neg hk3, if_pos rfl] at e9
      have hq3 : (kind == 3) = false := by simpa using hk3
      have H9 := Lib.hid e9
      clear e9 hx hx1 har hok HK hg1 hk2 hk3
      cases bk
      all_goals
        go_wp2_with fail
        go_roundw
        case rel => exact ⟨k + 1, by omega, by go_num, H9, HB2⟩
        case measure => simp [intOf]; omega
    · obtain rfl : k = k1 := by omega
      have e9 := HK.out
      rw [List.drop_of_length_le (by have := HD.out.1.atoms.len; omega), atomsH] at e9
      subst e9
      have H9 := Lib.hid hw0
      clear hw0
      go_wp2_with fail
      go_ret
      exact ⟨rfl, H9.out⟩
end Go.Proofs.YtkkpfdfoojcljaaGreat
