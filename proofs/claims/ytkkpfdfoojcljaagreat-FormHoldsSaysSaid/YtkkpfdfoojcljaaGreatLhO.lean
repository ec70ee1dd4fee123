/- Walks: slices.EqualFunc over numbers, form.functions. -/
import Derived.Test.YtkkpfdfoojcljaaGreatLhN
import Derived.Deep.QuietTactic
import Derived.BigQuiet
namespace Go.Proofs.YtkkpfdfoojcljaaGreat
open Go.RowKit

/-- the function g (with what it captured) tells p of each two of xs and ys, and only draws -/
def PredOn2 (P : Program) (g : Nat) (lb : Array Value) (p : Int → Int → Bool) (xs ys : List Int) (w : World) : Prop :=
  ∀ (m : Nat) (x y : Int), x ∈ xs → y ∈ ys → Calls P g (#[.int .i64 x, .int .i64 y] ++ lb) (w.drewN m) (DrewP (.bool (p x y)) (w.drewN m))
def eqL (p : Int → Int → Bool) : List Int → List Int → Bool
  | [], [] => true
  | x :: r, y :: s => p x y && eqL p r s
  | _, _ => false
theorem eqL_len {p : Int → Int → Bool} : ∀ {r s : List Int}, ¬ r.length = s.length → eqL p r s = false
  | [], [], h => absurd rfl h
  | [], _ :: _, _ => rfl
  | _ :: _, [], _ => rfl
  | x :: r, y :: s, h => by rw [eqL, eqL_len (by simpa using h), Bool.and_false]
set_option maxRecDepth 100000 in
set_option maxHeartbeats 2000000 in
theorem equalFunc_any (g : Nat) (lb : Array Value) (eg : ∀ args w, (callFunc g args).run Tryz.prog w = .ok (.enter g args) w) (p : Int → Int → Bool) (A : Option Addr) (n c : Nat) (xs : List Int) (A2 : Option Addr) (n2 c2 : Nat) (ys : List Int) (w : World)
    (hxs : IntsB w w.heap.size A n xs) (hys : IntsB w w.heap.size A2 n2 ys) (hn : n ≤ 1000000) (hn2 : n2 ≤ 1000000) (hp : PredOn2 Tryz.prog g lb p xs ys w) :
    Calls Tryz.prog 30 #[.slice A n c, .slice A2 n2 c2, .func (.func g) #[] lb] w (DrewP (.bool (eqL p xs ys)) w) := by
  have HP := Lib.hid hp
  have HX := Lib.hid hxs
  have HY := Lib.hid hys
  have hlx := hxs.len
  have hly := hys.len
  clear hp hxs hys
  by_cases hne : n = n2
  · subst hne
    obtain ⟨R, hR⟩ : ∃ R, eqL p xs ys = R := ⟨_, rfl⟩
    rw [hR]
    have HR := Lib.hid hR
    have HLL := Lib.hid (And.intro hlx hly)
    clear hR hlx hly
    go_enter Tryz.func30, Tryz.ntmps30
    go_wp2_with fail
    go_loopw [17] (fun s wr => ∃ k : Nat, k ≤ n ∧ s = .int .i64 k ∧ Hid (eqL p (xs.drop k) (ys.drop k) = R) ∧ Hid (∃ m, wr = w.drewN m)) (fun s _ => n - (intOf s).toNat)
    case atStart => exact ⟨0, Nat.zero_le _, rfl, HR, 0, rfl⟩
    case round =>
      obtain ⟨k, hk, rfl, HK, HW⟩ := hrel
      obtain ⟨m, rfl⟩ := HW.out
      by_cases hlt : k < n
      · obtain ⟨b, off, hx, rfl, hb, hcell, hlo, hhi⟩ := ints_get (HX.out.drewN stays_int m) hlt
        obtain ⟨b2, off2, hy, rfl, hb2, hcell2, hlo2, hhi2⟩ := ints_get (HY.out.drewN stays_int m) hlt
        have hcall := HP.out m xs[k] ys[k] (List.getElem_mem hx) (List.getElem_mem hy)
        have e1 := HK.out
        rw [drop_cons hx, drop_cons hy, eqL] at e1
        generalize xs[k] = x at hcall e1 hlo hhi hcell
        generalize ys[k] = y at hcall e1 hlo2 hhi2 hcell2
        have hkI : (k : Int) < (n : Int) := by omega
        clear HK hx hy
        cases hq : p x y with
        | false =>
          rw [hq] at hcall e1
          rw [Bool.false_and] at e1
          subst e1
          have HC := Lib.hid hcall
          clear hcall hq
          go_wp2_with (go_at_fn g; refine HC.out.mono ?_; rintro e w' ⟨rfl, m2, rfl⟩)
          go_ret
          exact ⟨rfl, _, rfl⟩
        | true =>
          rw [hq] at hcall e1
          rw [Bool.true_and] at e1
          have HC := Lib.hid hcall
          have H2 := Lib.hid e1
          clear hcall hq e1
          go_wp2_with (go_at_fn g; refine HC.out.mono ?_; rintro e w' ⟨rfl, m2, rfl⟩)
          go_roundw
          case rel => exact ⟨k + 1, by omega, by go_num, H2, m + m2, by simp⟩
          case measure => simp [intOf]; omega
      · obtain rfl : k = n := by omega
        have e1 := HK.out
        rw [List.drop_of_length_le (by have := HLL.out.1; omega), List.drop_of_length_le (by have := HLL.out.2; omega), eqL] at e1
        subst e1
        clear HK
        go_wp2_with fail
        go_ret
        exact ⟨rfl, m, rfl⟩
  · rw [eqL_len (by omega)]
    have hneI : ¬ (n : Int) = (n2 : Int) := by omega
    have hb : (((n : Nat) : Int) != ((n2 : Nat) : Int)) = true := by simpa using hneI
    clear hlx hly hne hneI
    go_enter Tryz.func30, Tryz.ntmps30
    go_wp2_with fail
    go_ret
    exact ⟨rfl, 0, rfl⟩


/-- two terms' kids have the same values -/
def sameT (ts : List Int) (x y : Int) : Bool := ts[x.toNat]?.getD 0 == ts[y.toNat]?.getD 0
theorem fn1_any (g : Nat) (B : Nat) (B2 : Option Addr) (k2 e2 : Nat) (ts : List Int) (x y : Int) (w : World) (hg : w.cell? ⟨g, 1, none⟩ = some (.slice B2 k2 e2)) (hts : IntsB w B B2 k2 ts) (hx0 : 0 ≤ x) (hx1 : x < k2) (hy0 : 0 ≤ y) (hy1 : y < k2) :
    Calls Tryz.prog 31 #[.int .i64 x, .int .i64 y, .pointer (some ⟨g, 0, none⟩)] w (DrewP (.bool (sameT ts x y)) w) := by
  obtain ⟨i, rfl⟩ := Int.eq_ofNat_of_zero_le hx0
  obtain ⟨j, rfl⟩ := Int.eq_ofNat_of_zero_le hy0
  obtain ⟨b, off, hx, rfl, hb, c1, -, -⟩ := ints_get hts (i := i) (by omega)
  obtain ⟨b', off', hy, he, -, c2, -, -⟩ := ints_get hts (i := j) (by omega)
  simp only [Option.some.injEq, Addr.mk.injEq, and_true] at he
  obtain ⟨rfl, rfl⟩ := he
  unfold sameT
  rw [Int.toNat_natCast, Int.toNat_natCast, List.getElem?_eq_getElem hx, List.getElem?_eq_getElem hy, Option.getD_some, Option.getD_some]
  generalize ts[i] = p at c1 ⊢
  generalize ts[j] = q at c2 ⊢
  clear hts hx hy
  go_enter Tryz.func31, Tryz.ntmps31
  go_wp2_with fail
  go_quiet (fail)
  go_wp2_with fail
  go_ret
  exact ⟨rfl, _, rfl⟩
def innerH (M : ModelD) (i : Nat) (t : TermD) : List TermD → Nat → Bool
  | [], _ => true
  | u :: r, k => if t.head = u.head ∧ ¬ M.things[i]?.getD 0 = M.things[k]?.getD 0 ∧ eqL (sameT M.things) t.kids u.kids = true then false else innerH M i t r (k + 1)
def funH (M : ModelD) (ts : List TermD) : List TermD → Nat → Bool
  | [], _ => true
  | t :: r, i => if innerH M i t (ts.take i) 0 = true then funH M ts r (i + 1) else false

set_option maxRecDepth 100000 in
set_option maxHeartbeats 8000000 in
theorem functions_any (A1 A2 A3 A4 : Option Addr) (n1 c1 n2 c2 n3 c3 n4 c4 : Nat) (B1 B2 B3 : Option Addr) (k1 e1 k2 e2 k3 e3 : Nat) (F : FormD) (M : ModelD) (w : World) (hF : FormB w w.heap.size A1 A2 A3 A4 n1 n2 n3 n4 F) (hM : ModelB w w.heap.size B1 B2 B3 k1 k2 k3 M)
    (h1 : n1 ≤ 60) (h2 : k2 = n1) (hnc1 : n1 ≤ c1) (hok : ∀ t ∈ F.terms, t.kids.length ≤ 1000 ∧ ∀ x ∈ t.kids, 0 ≤ x ∧ x < (k2 : Int)) :
    Calls Tryz.prog 11 #[.agg #[.slice A1 n1 c1, .slice A2 n2 c2, .slice A3 n3 c3, .slice A4 n4 c4], .agg #[.slice B1 k1 e1, .slice B2 k2 e2, .slice B3 k3 e3]] w fun e w' => e = .returned (.bool (funH M F.terms F.terms 0)) ∧ Below w.heap.size w w' := by
  subst h2
  obtain ⟨R, hR⟩ : ∃ R, funH M F.terms F.terms 0 = R := ⟨_, rfl⟩
  rw [hR]
  have HD := Lib.hid (And.intro hF (And.intro hM hok))
  have HR := Lib.hid hR
  have EG2 : Hid (∀ args w, (callFunc 31 args).run Tryz.prog w = .ok (.enter 31 args) w) := enters_of Tryz.func31 (by kernel_rfl) rfl
  clear hF hM hok hR
  go_enter Tryz.func11, Tryz.ntmps11
  go_upto_region 1 with fail
  obtain ⟨hb0, hbk, hbf, hs0⟩ := two_boxes w 27 31 #[.slice A1 k2 c1, .slice A2 n2 c2, .slice A3 n3 c3, .slice A4 n4 c4] #[.slice B1 k1 e1, .slice B2 k2 e2, .slice B3 k3 e3]
  generalize (w.alloc (.cells #[.slice A1 k2 c1, .slice A2 n2 c2, .slice A3 n3 c3, .slice A4 n4 c4] 27)).alloc (.cells #[.slice B1 k1 e1, .slice B2 k2 e2, .slice B3 k3 e3] 31) = X at hb0 hbk hbf hs0 ⊢
  have a0 : X.cell? ⟨w.heap.size, 0, none⟩ = some (.slice A1 k2 c1) := hbk.cell 0
  have HX := Lib.hid (And.intro hb0 (And.intro hs0 (And.intro hbk hbf)))
  clear hb0 hs0 hbf hbk
  go_wp2_with fail
  clear a0
  go_loopw [12] (fun s wr => ∃ i : Nat, i ≤ k2 ∧ s = .int .i64 i ∧ Hid (funH M F.terms (F.terms.drop i) i = R) ∧ Hid (Below X.heap.size X wr)) (fun s _ => k2 - (intOf s).toNat)
  case atStart => exact ⟨0, Nat.zero_le _, rfl, HR, Lib.hid (Below.refl _ _)⟩
  case round =>
    obtain ⟨wo, rfl⟩ : ∃ x, x = wr := ⟨_, rfl⟩
    obtain ⟨i, hi, rfl, HK, HB⟩ := hrel
    have hXs := HX.out.2.1
    have hXw := HB.out.size
    have hw0 : Below w.heap.size w wo := HX.out.1.trans (HB.out.mono (by omega))
    by_cases hlt : i < k2
    · obtain ⟨b, off, hx, At, nt, ct, rfl, hb, q0, q1, hnt, hct, hat, -, -⟩ := terms_get (HD.out.1.terms.below stays_term hw0 (Nat.le_refl _)) hlt
      have hokt := HD.out.2.2 _ (List.getElem_mem hx)
      have e9 := HK.out
      rw [drop_cons hx, funH] at e9
      generalize F.terms[i] = t at q0 q1 hat hokt e9
      obtain ⟨th, tk⟩ := t
      simp only at q0 q1 hat hokt
      have a0 : wo.cell? ⟨w.heap.size, 0, none⟩ = some (.slice (some ⟨b, off, none⟩) k2 c1) := (HX.out.2.2.1.below HB.out (by omega)).cell 0
      have hz0 : w.heap.size < wo.heap.size := by omega
      have hz1 : b < wo.heap.size := by omega
      have hi0 : (0 : Int) ≤ (i : Int) := by omega
      have hi1 : (i : Int) < (k2 : Int) := by omega
      have hi2 : (i : Int) ≤ (c1 : Int) := by omega
      have HB2 := Lib.hid (And.intro (HB.out.alloc HB.out.size (.cells #[.int .i64 th, .slice At nt ct] 56)) (And.intro hat (And.intro hokt e9)))
      clear hat hokt e9 hx HK
      go_upto_region 5 with fail
      obtain ⟨Q, hQ⟩ : ∃ Q, innerH M i ⟨th, tk⟩ (F.terms.take i) 0 = Q := ⟨_, rfl⟩
      have HQ := Lib.hid hQ
      have e9 := HB2.out.2.2.2
      rw [hQ] at e9
      have HE := Lib.hid e9
      have hw1 : Below wo.heap.size wo (wo.alloc (.cells #[.int .i64 th, .slice At nt ct] 56)) := (Below.refl _ _).alloc (Nat.le_refl _) _
      have hsz1 : (wo.alloc (.cells #[.int .i64 th, .slice At nt ct] 56)).heap.size = wo.heap.size + 1 := by simp
      have hbt : Blk (wo.alloc (.cells #[.int .i64 th, .slice At nt ct] 56)) wo.heap.size 56 #[.int .i64 th, .slice At nt ct] := lay_blk [(56, #[.int .i64 th, .slice At nt ct])] wo 0 _ _ rfl
      generalize wo.alloc (.cells #[.int .i64 th, .slice At nt ct] 56) = W1 at hw1 hsz1 hbt HB2 ⊢
      have HW := Lib.hid (And.intro hw1 hbt)
      clear hQ e9 hw1 hbt q0 q1 a0
      go_loopw [22] (fun s wq => ∃ k : Nat, k ≤ i ∧ s = .int .i64 k ∧ Hid (innerH M i ⟨th, tk⟩ ((F.terms.take i).drop k) k = Q) ∧ Hid (Below W1.heap.size W1 wq)) (fun s _ => i - (intOf s).toNat)
      case atStart => exact ⟨0, Nat.zero_le _, rfl, HQ, Lib.hid (Below.refl _ _)⟩
      case round =>
        obtain ⟨k, hk, rfl, HK, HC⟩ := hrel
        have hqs := HC.out.size
        have hwq : Below w.heap.size w wr := hw0.trans ((HW.out.1.mono hw0.size).trans (HC.out.mono (by have := hw0.size; omega)))
        by_cases hlk : k < i
        · obtain ⟨b', off', hx, Au, nu, cu, hAu, hb', r0, r1, hnu, hcu, hau, -, -⟩ := terms_get (HD.out.1.terms.below stays_term hwq (Nat.le_refl _)) (Nat.lt_trans hlk hlt)
          simp only [Option.some.injEq, Addr.mk.injEq, and_true] at hAu
          obtain ⟨rfl, rfl⟩ := hAu
          obtain ⟨b2, off2, hx1, rfl, hb2, x0, -, -⟩ := ints_get (HD.out.2.1.things.below stays_int hwq (Nat.le_refl _)) hlt
          obtain ⟨b3, off3, hx2, hA2, -, x1, -, -⟩ := ints_get (HD.out.2.1.things.below stays_int hwq (Nat.le_refl _)) (Nat.lt_trans hlk hlt)
          simp only [Option.some.injEq, Addr.mk.injEq, and_true] at hA2
          obtain ⟨rfl, rfl⟩ := hA2
          have hoku := HD.out.2.2 _ (List.getElem_mem hx)
          have e9 := HK.out
          have hxt : k < (F.terms.take i).length := by have := HD.out.1.terms.len; simp; omega
          have hgt : (F.terms.take i)[k] = F.terms[k] := List.getElem_take
          rw [drop_cons hxt, hgt, innerH, List.getElem?_eq_getElem hx1, List.getElem?_eq_getElem hx2, Option.getD_some, Option.getD_some] at e9
          generalize F.terms[k] = u at r0 r1 hau hoku e9
          generalize M.things[i] = x at x0 e9
          generalize M.things[k] = y at x1 e9
          obtain ⟨uh, uk⟩ := u
          simp only at r0 r1 hau hoku e9
          have m1 : wr.cell? ⟨w.heap.size + 1, 1, none⟩ = some (.slice (some ⟨b2, off2, none⟩) k2 e2) := (HX.out.2.2.2.below (HB2.out.1.trans (HC.out.mono (by omega))) (by omega)).cell 1
          have d3 : wr.cell? ⟨wo.heap.size, 0, none⟩ = some (.int .i64 th) := (HW.out.2.below HC.out (by omega)).cell 0
          have d4 : wr.cell? ⟨wo.heap.size, 1, none⟩ = some (.slice At nt ct) := (HW.out.2.below HC.out (by omega)).cell 1
          have hz2 : wo.heap.size < wr.heap.size := by omega
          have hz3 : b < wr.heap.size := by omega
          have hz4 : b2 < wr.heap.size := by omega
          have hz5 : w.heap.size + 1 < wr.heap.size := by omega
          have hj0 : (0 : Int) ≤ (k : Int) := by omega
          have hj1 : (k : Int) < (k2 : Int) := by omega
          have hj2 : (k : Int) < (i : Int) := by omega
          have hbu : Below wr.heap.size wr (wr.alloc (.cells #[.int .i64 uh, .slice Au nu cu] 56)) := (Below.refl _ _).alloc (Nat.le_refl _) _
          have HY := Lib.hid (fun m => below_drewN hbu m)
          have HC2 := Lib.hid (fun m => HC.out.trans ((below_drewN hbu m).mono hqs))
          have HEQ : Hid (∀ m, Calls Tryz.prog 30 #[.slice At nt ct, .slice Au nu cu, .func (.func 31) #[] #[.pointer (some ⟨w.heap.size + 1, 0, none⟩)]] ((wr.alloc (.cells #[.int .i64 uh, .slice Au nu cu] 56)).drewN m) (DrewP (.bool (eqL (sameT M.things) tk uk)) ((wr.alloc (.cells #[.int .i64 uh, .slice Au nu cu] 56)).drewN m))) := fun m => by
            have hbm := HY.out m
            have hsz : wr.heap.size ≤ ((wr.alloc (.cells #[.int .i64 uh, .slice Au nu cu] 56)).drewN m).heap.size := hbm.size
            have hwm : Below w.heap.size w ((wr.alloc (.cells #[.int .i64 uh, .slice Au nu cu] 56)).drewN m) := hwq.trans (hbm.mono hwq.size)
            have hom : Below wo.heap.size wo ((wr.alloc (.cells #[.int .i64 uh, .slice Au nu cu] 56)).drewN m) := HW.out.1.trans ((HC.out.mono (by omega)).trans (hbm.mono (by omega)))
            refine equalFunc_any _ _ EG2.out _ At nt ct tk Au nu cu uk _ (HB2.out.2.1.below stays_int (hom.mono hw0.size) hwm.size) (hau.below stays_int (hbm.mono hwq.size) hwm.size) (by have := HB2.out.2.1.len; have := HB2.out.2.2.1.1; omega) (by have := hau.len; have := hoku.1; omega) ?_
            intro m2 p q hp hq
            have g1 := HB2.out.2.2.1.2 p hp
            have g2 := hoku.2 q hq
            rw [World.drewN_drewN]
            have hbm2 := HY.out (m + m2)
            have hwm2 : Below w.heap.size w ((wr.alloc (.cells #[.int .i64 uh, .slice Au nu cu] 56)).drewN (m + m2)) := hwq.trans (hbm2.mono hwq.size)
            exact fn1_any (w.heap.size + 1) w.heap.size _ k2 e2 M.things p q _ ((hbm2.cell (p := ⟨w.heap.size + 1, 1, none⟩) hz5).trans m1) (HD.out.2.1.things.below stays_int hwm2 (Nat.le_refl _)) g1.1 g1.2 g2.1 g2.2
          clear hbu hau hoku hx hx1 hx2 hxt hgt HK
          by_cases hhd : th = uh
          · subst hhd
            have hq2 : (th == th) = true := by simp
            by_cases hxy : x = y
            · subst hxy
              rw [if_neg (fun h => h.2.1 rfl)] at e9
              have H9 := Lib.hid e9
              have hq1 : (x != x) = false := by simp
              clear e9
              go_upto_region 7 with fail
              go_quiet ((go_at_call 30; exact Calls.quiet_of (HEQ.out _)))
              go_wp2_with fail
              go_roundw
              case rel => exact ⟨k + 1, by omega, by go_num, H9, Lib.hid (HC2.out _)⟩
              case measure => simp [intOf]; omega
            have hq1 : (x != y) = true := by simpa using hxy
            cases hks : eqL (sameT M.things) tk uk with
            | false =>
              rw [hks] at HEQ
              rw [hks, if_neg (fun h => by cases h.2.2)] at e9
              have H9 := Lib.hid e9
              clear e9 hks hxy
              go_upto_region 7 with fail
              go_quiet ((go_at_call 30; exact Calls.quiet_of (HEQ.out _)))
              go_wp2_with fail
              go_roundw
              case rel => exact ⟨k + 1, by omega, by go_num, H9, Lib.hid (HC2.out _)⟩
              case measure => simp [intOf]; omega
            | true =>
              rw [hks] at HEQ
              rw [hks, if_pos ⟨rfl, hxy, rfl⟩] at e9
              subst e9
              have e8 := HE.out
              rw [if_neg (by simp)] at e8
              subst e8
              clear hks hxy
              go_upto_region 7 with fail
              go_quiet ((go_at_call 30; exact Calls.quiet_of (HEQ.out _)))
              go_wp2_with fail
              go_ret
              exact ⟨rfl, hwq.trans ((HY.out _).mono hwq.size)⟩
          · have hq2 : (th == uh) = false := by simpa using hhd
            rw [if_neg (fun h => hhd h.1)] at e9
            have H9 := Lib.hid e9
            clear e9 hhd
            go_upto_region 7 with fail
            go_quiet ((go_at_call 30; exact Calls.quiet_of (HEQ.out _)))
            go_wp2_with fail
            go_roundw
            case rel => exact ⟨k + 1, by omega, by go_num, H9, Lib.hid (HC2.out _)⟩
            case measure => simp [intOf]; omega
        · obtain rfl : k = i := by omega
          have e9 := HK.out
          rw [List.drop_of_length_le (by simp; omega), innerH] at e9
          subst e9
          have e8 := HE.out
          rw [if_pos rfl] at e8
          have H9 := Lib.hid (And.intro e8 (HB2.out.1.trans (HC.out.mono (by omega))))
          clear e8
          go_wp2_with fail
          go_roundw
          case rel => exact ⟨k + 1, by omega, by go_num, H9.out.1, Lib.hid H9.out.2⟩
          case measure => simp [intOf]; omega
    · obtain rfl : i = k2 := by omega
      have e9 := HK.out
      rw [List.drop_of_length_le (by have := HD.out.1.terms.len; omega), funH] at e9
      subst e9
      have H9 := Lib.hid hw0
      clear hw0
      go_wp2_with fail
      go_ret
      exact ⟨rfl, H9.out⟩
end Go.Proofs.YtkkpfdfoojcljaaGreat
