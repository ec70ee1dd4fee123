/- Walks: models: which things and fractions are bad; the first of them. · Walks: does a model fit a form: the program. · Walks: does a model fit a form: the reference. -/
import Derived.Test.YtkkpfdfoojcljaaGreatCnFr
import Derived.Test.YtkkpfdfoojcljaaGreatForm
namespace Go.Proofs.YtkkpfdfoojcljaaGreat
open Go.RowKit

structure ModelD where
  holds : List Bool
  things : List Int
  nums : List FracD
structure ModelB (w : World) (B : Nat) (B1 B2 B3 : Option Addr) (k1 k2 k3 : Nat) (M : ModelD) : Prop where
  holds : ArrB AtBool 1 w B B1 k1 M.holds
  things : IntsB w B B2 k2 M.things
  nums : ArrB AtFrac 2 w B B3 k3 M.nums
  m1 : k1 ≤ 9223372036854775807
  m2 : k2 ≤ 9223372036854775807
  m3 : k3 ≤ 9223372036854775807
theorem ModelB.below {w w' : World} {B B' : Nat} {B1 B2 B3 : Option Addr} {k1 k2 k3 : Nat} {M : ModelD} (h : ModelB w B B1 B2 B3 k1 k2 k3 M) (hb : Below B w w') (hB : B ≤ B') : ModelB w' B' B1 B2 B3 k1 k2 k3 M :=
  ⟨h.holds.below stays_bool hb hB, h.things.below stays_int hb hB, h.nums.below stays_frac hb hB, h.m1, h.m2, h.m3⟩
theorem fracs_get {w : World} {B : Nat} {A : Option Addr} {n : Nat} {xs : List FracD} (h : ArrB AtFrac 2 w B A n xs) {i : Nat} (hi : i < n) :
    ∃ (b off : Nat) (hx : i < xs.length), A = some ⟨b, off, none⟩ ∧ b < B ∧ w.cell? ⟨b, off + i * 2, none⟩ = some (.int .i64 xs[i].num) ∧ w.cell? ⟨b, off + i * 2 + 1, none⟩ = some (.int .i64 xs[i].den) := by
  obtain ⟨b, off, hx, e, hb, h0, h1⟩ := Arr.get h hi
  exact ⟨b, off, hx, e, hb, h0.1, h1.1⟩

def thingBad (n : Int) : Bool := decide (n < 0 ∨ 1000 < n)
def fracBad (x : FracD) : Bool := !fracGood x.num x.den
def fitsOnly (F : FormD) (M : ModelD) : Int × Int :=
  if ¬ M.holds.length = F.atoms.length then (9, 0) else if ¬ M.things.length = F.terms.length then (9, 1) else if ¬ M.nums.length = F.ints.length then (9, 2)
  else if 0 ≤ idx thingBad M.things 0 then (3, idx thingBad M.things 0) else if 0 ≤ idx fracBad M.nums 0 then (3, idx fracBad M.nums 0) else (0, 0)
def fitsF (F : FormD) (M : ModelD) : Int × Int := if (formF F).1 = 0 then fitsOnly F M else formF F
theorem formF_small {F : FormD} (h : (formF F).1 = 0) : F.terms.length ≤ 60 ∧ F.ints.length ≤ 12 ∧ F.atoms.length ≤ 120 := by
  rw [formF] at h
  split at h
  · rename_i ht
    split at h
    · simp at h
    · refine ⟨?_, by omega, by omega⟩
      rw [termsF] at ht
      split at ht
      · simp at ht
      · omega
  · rename_i ht
    exact absurd h ht

set_option maxHeartbeats 400000 in
theorem fits1_any (n : Int) (w : World) : Calls Tryz.prog 22 #[.int .i64 n] w fun e w' => e = .returned (.bool (thingBad n)) ∧ w = w' := by
  go_enter Tryz.func22, Tryz.ntmps22
  go_wp2
  all_goals go_ret
  all_goals refine ⟨ret_bool ?_, rfl⟩
  all_goals (rw [Bool.eq_iff_iff]; simp [thingBad]; try omega)
theorem fits1_pred (xs : List Int) (w : World) : PredOn Tryz.prog 22 #[] thingBad xs w := fun W y _ hb =>
  (fits1_any y W).mono fun _ _ ⟨he, hw⟩ => ⟨he, hw ▸ hb⟩
set_option maxHeartbeats 400000 in
theorem isThing_any (n : Int) (w : World) : Calls Tryz.prog 16 #[.int .i64 n] w fun e w' => e = .returned (.bool (!thingBad n)) ∧ w = w' := by
  go_enter Tryz.func16, Tryz.ntmps16
  go_wp2
  all_goals go_ret
  all_goals refine ⟨ret_bool ?_, rfl⟩
  all_goals (rw [Bool.eq_iff_iff]; simp [thingBad]; try omega)
set_option maxHeartbeats 400000 in
theorem fits2_any (num den : Int) (w : World) : Calls Tryz.prog 24 #[.agg #[.int .i64 num, .int .i64 den]] w fun e w' => e = .returned (.bool (!fracGood num den)) ∧ Below w.heap.size w w' := by
  have HC := Lib.hid (fracCheck_any num den (w.alloc (.cells #[.int .i64 num, .int .i64 den] 40)))
  generalize fracGood num den = g at HC
  cases g with
  | true =>
    have hfd := fun W => field_code 0 0 W
    go_enter Tryz.func24, Tryz.ntmps24
    go_wp2_with fail
    refine HC.out.mono ?_
    rintro e w' ⟨rfl, hb⟩
    simp only [if_true]
    go_wp2_with fail
    go_ret
    exact ⟨ret_bool rfl, ((Below.refl _ _).alloc (Nat.le_refl _) _).trans (hb.mono (by simp))⟩
  | false =>
    have hfd := fun W => field_code 3 0 W
    go_enter Tryz.func24, Tryz.ntmps24
    go_wp2_with fail
    refine HC.out.mono ?_
    rintro e w' ⟨rfl, hb⟩
    simp only [Bool.false_eq_true, if_false]
    go_wp2_with fail
    go_ret
    exact ⟨ret_bool rfl, ((Below.refl _ _).alloc (Nat.le_refl _) _).trans (hb.mono (by simp))⟩

set_option maxHeartbeats 1000000 in
theorem indexFracs_any (A : Option Addr) (n c : Nat) (xs : List FracD) (R : Int) (w : World) (hxs : ArrB AtFrac 2 w w.heap.size A n xs) (hn : n ≤ 1000000) (hR : idx fracBad xs 0 = R) :
    Calls Tryz.prog 23 #[.slice A n c, .func (.func 24) #[] #[]] w fun e w' => e = .returned (.int .i64 R) ∧ Below w.heap.size w w' := by
  have eg : ∀ args w, (callFunc 24 args).run Tryz.prog w = .ok (.enter 24 args) w := enters_of Tryz.func24 (by kernel_rfl) rfl
  have HR := Lib.hid hR
  clear hR
  go_enter Tryz.func23, Tryz.ntmps23
  go_wp2_with fail
  go_loopw [8] (fun s wr => ∃ k : Nat, k ≤ n ∧ s = .int .i64 k ∧ Hid (idx fracBad (xs.drop k) k = R) ∧ Below w.heap.size w wr) (fun s _ => n - (intOf s).toNat)
  case atStart => exact ⟨0, Nat.zero_le _, rfl, HR, Below.refl _ _⟩
  case round =>
    obtain ⟨k, hk, rfl, HK, hbel⟩ := hrel
    by_cases hlt : k < n
    · obtain ⟨b, off, hx, rfl, hb, hc0, hc1⟩ := fracs_get (hxs.below stays_frac hbel (Nat.le_refl _)) hlt
      have e1 := HK.out
      rw [drop_cons hx, idx] at e1
      generalize xs[k] = y at e1 hc0 hc1
      obtain ⟨nm, dn⟩ := y
      simp only at hc0 hc1
      have hcall := fits2_any nm dn wr
      rw [show fracBad ⟨nm, dn⟩ = !fracGood nm dn from rfl] at e1
      clear HK hx hxs
      cases hq : fracGood nm dn with
      | false =>
        rw [hq] at hcall e1
        have e2 : (k : Int) = R := e1
        have HC := Lib.hid hcall
        have H2 := Lib.hid e2
        clear hcall e1 hq e2
        go_wp2_with fail
        refine HC.out.mono ?_
        rintro e w' ⟨rfl, hb'⟩
        go_wp2_with fail
        go_ret
        exact ⟨ret_int H2.out, hbel.trans (hb'.mono hbel.size)⟩
      | true =>
        rw [hq] at hcall e1
        have e2 : idx fracBad (xs.drop (k + 1)) ((k : Int) + 1) = R := e1
        have HC := Lib.hid hcall
        have H2 := Lib.hid e2
        clear hcall e1 hq e2
        go_wp2_with fail
        refine HC.out.mono ?_
        rintro e w' ⟨rfl, hb'⟩
        go_wp2_with fail
        go_roundw
        case rel => exact ⟨k + 1, by omega, by go_num, by show _ = _; rw [Int.natCast_add]; exact H2.out, hbel.trans (hb'.mono hbel.size)⟩
        case measure => simp [intOf]; omega
    · obtain rfl : k = n := by omega
      have e1 := HK.out
      rw [List.drop_of_length_le (by have := hxs.len; omega), idx] at e1
      have H1 := Lib.hid e1
      clear e1 HK
      go_wp2_with fail
      go_ret
      exact ⟨ret_int H1.out, hbel⟩
end Go.Proofs.YtkkpfdfoojcljaaGreat
namespace Go.Proofs.YtkkpfdfoojcljaaGreat
open Go.RowKit

theorem three_boxes (w : World) (t1 t2 t3 : TypeId) (c1 c2 c3 : Array Value) : Below w.heap.size w (((w.alloc (.cells c1 t1)).alloc (.cells c2 t2)).alloc (.cells c3 t3)) ∧ Blk (((w.alloc (.cells c1 t1)).alloc (.cells c2 t2)).alloc (.cells c3 t3)) w.heap.size t1 c1 ∧
    Blk (((w.alloc (.cells c1 t1)).alloc (.cells c2 t2)).alloc (.cells c3 t3)) (w.heap.size + 1) t2 c2 ∧ Blk (((w.alloc (.cells c1 t1)).alloc (.cells c2 t2)).alloc (.cells c3 t3)) (w.heap.size + 2) t3 c3 ∧ (((w.alloc (.cells c1 t1)).alloc (.cells c2 t2)).alloc (.cells c3 t3)).heap.size = w.heap.size + 3 := by
  obtain ⟨h1, h2, h3, h4⟩ := two_boxes w t1 t2 c1 c2
  refine ⟨h1.alloc (by omega) _, h2.alloc _, h3.alloc _, ?_, by rw [World.size_alloc, h4]⟩
  have := Blk.new ((w.alloc (.cells c1 t1)).alloc (.cells c2 t2)) t3 c3
  rwa [h4] at this

set_option maxRecDepth 100000 in
set_option maxHeartbeats 4000000 in
theorem fits_any (A1 A2 A3 A4 : Option Addr) (n1 c1 n2 c2 n3 c3 n4 c4 : Nat) (B1 B2 B3 : Option Addr) (k1 e1 k2 e2 k3 e3 : Nat) (F : FormD) (M : ModelD) (qc qa : Int) (w : World) (hF : FormB w w.heap.size A1 A2 A3 A4 n1 n2 n3 n4 F) (hM : ModelB w w.heap.size B1 B2 B3 k1 k2 k3 M) (hR : fitsF F M = (qc, qa)) :
    Calls Tryz.prog 8 #[.agg #[.slice A1 n1 c1, .slice A2 n2 c2, .slice A3 n3 c3, .slice A4 n4 c4], .agg #[.slice B1 k1 e1, .slice B2 k2 e2, .slice B3 k3 e3]] w fun e w' => e = .returned (.agg #[.int .i64 qc, .int .i64 qa]) ∧ Below w.heap.size w w' := by
  rcases hq : formF F with ⟨tc, ta⟩
  have EG : Hid (∀ args w, (callFunc 22 args).run Tryz.prog w = .ok (.enter 22 args) w) := enters_of Tryz.func22 (by kernel_rfl) rfl
  have HC := Lib.hid (fun W (hb : Below w.heap.size w W) => formCheck_any A1 A2 A3 A4 n1 c1 n2 c2 n3 c3 n4 c4 F tc ta W (hF.below hb hb.size) hq)
  rw [fitsF, hq] at hR
  have hsm : tc = 0 → n1 ≤ 60 ∧ n2 ≤ 12 ∧ n3 ≤ 120 := fun h => by
    have := formF_small (F := F) (by rw [hq]; exact h)
    rwa [hF.terms.len, hF.ints.len, hF.atoms.len] at this
  have HSM := Lib.hid hsm
  clear hsm hq
  obtain ⟨hb0, hbk0, hbm0, hbf0, hs0⟩ := three_boxes w 27 31 33 #[.slice A1 n1 c1, .slice A2 n2 c2, .slice A3 n3 c3, .slice A4 n4 c4] #[.slice B1 k1 e1, .slice B2 k2 e2, .slice B3 k3 e3] #[.int .i64 0, .int .i64 0]
  have HF := Lib.hid hF
  have HM := Lib.hid hM
  have m1 := hM.m1
  have m2 := hM.m2
  have m3 := hM.m3
  have l1 := hF.terms.len
  have l2 := hF.ints.len
  have l3 := hF.atoms.len
  have r1 := hM.holds.len
  have r2 := hM.things.len
  have r3 := hM.nums.len
  have HW := Lib.hid (And.intro hb0 (And.intro hbk0 (And.intro hbm0 (And.intro hbf0 hs0))))
  clear hb0 hbk0 hbm0 hbf0 hs0
  by_cases htc : tc = 0
  rotate_left
  · rw [if_neg htc] at hR
    simp only [Prod.mk.injEq] at hR
    obtain ⟨rfl, rfl⟩ := hR
    have hq : (tc != 0) = true := by simpa using htc
    clear htc l1 l2 l3 r1 r2 r3 hF hM
    go_enter Tryz.func8, Tryz.ntmps8
    go_wp2_with fail
    refine (HC.out _ HW.out.1).mono ?_
    rintro e w0 ⟨rfl, hbx⟩
    obtain ⟨hb0, hbk0, hbm0, hbf0, hs0⟩ := HW.out
    have hbel := hb0.trans (hbx.mono (by omega))
    have hbk := hbk0.below hbx (by omega)
    have hbm := hbm0.below hbx (by omega)
    have hbf := hbf0.below hbx (by omega)
    clear hb0 hbk0 hbm0 hbf0 hs0 hbx HW HC
    have hz2 : w.heap.size + 2 < w0.heap.size := hbf.lt
    have hz1 : w.heap.size + 1 < w0.heap.size := by omega
    have hz : w.heap.size < w0.heap.size := by omega
    have p0 : w0.cell? ⟨w.heap.size, 0, none⟩ = some (.slice A1 n1 c1) := hbk.cell 0
    have p1 : w0.cell? ⟨w.heap.size, 1, none⟩ = some (.slice A2 n2 c2) := hbk.cell 1
    have p2 : w0.cell? ⟨w.heap.size, 2, none⟩ = some (.slice A3 n3 c3) := hbk.cell 2
    have p3 : w0.cell? ⟨w.heap.size, 3, none⟩ = some (.slice A4 n4 c4) := hbk.cell 3
    have q0 : w0.cell? ⟨w.heap.size + 1, 0, none⟩ = some (.slice B1 k1 e1) := hbm.cell 0
    have q1 : w0.cell? ⟨w.heap.size + 1, 1, none⟩ = some (.slice B2 k2 e2) := hbm.cell 1
    have q2 : w0.cell? ⟨w.heap.size + 1, 2, none⟩ = some (.slice B3 k3 e3) := hbm.cell 2
    have d0 : w0.cell? ⟨w.heap.size + 2, 0, none⟩ = some (.int .i64 0) := hbf.cell 0
    have d1 : w0.cell? ⟨w.heap.size + 2, 1, none⟩ = some (.int .i64 0) := hbf.cell 1
    have d2 : w0.frozen? ⟨w.heap.size + 2, 0, none⟩ = false := hbf.frozen 0
    have d3 : w0.frozen? ⟨w.heap.size + 2, 1, none⟩ = false := hbf.frozen 1
    go_wp2_with fail
    refine bodyPost_ret (v := .agg #[.int .i64 tc, .int .i64 ta]) (by simp [results, Tryz.results8, go_sem, d0, d1, hz2]) rfl ⟨rfl, ?_⟩
    exact (((hbel).setCell (p := ⟨w.heap.size + 2, 0, none⟩) (by simp) _).setCell (p := ⟨w.heap.size + 2, 1, none⟩) (by simp) _).alloc (by simp; omega) _
  subst htc
  rw [if_pos rfl] at hR
  obtain ⟨s1, s2, s3⟩ := HSM.out rfl
  have hR1 : ¬ k1 = n3 → ((9 : Int), (0 : Int)) = (qc, qa) := fun h => by rw [fitsOnly, r1, l3, if_pos h] at hR; exact hR
  have hR2 : k1 = n3 → ¬ k2 = n1 → ((9 : Int), (1 : Int)) = (qc, qa) := fun h h2 => by rw [fitsOnly, r1, l3, if_neg (not_not_intro h), r2, l1, if_pos h2] at hR; exact hR
  have hR3 : k1 = n3 → k2 = n1 → ¬ k3 = n2 → ((9 : Int), (2 : Int)) = (qc, qa) := fun h h2 h3 => by rw [fitsOnly, r1, l3, if_neg (not_not_intro h), r2, l1, if_neg (not_not_intro h2), r3, l2, if_pos h3] at hR; exact hR
  have hR4 : k1 = n3 → k2 = n1 → k3 = n2 → (if 0 ≤ idx thingBad M.things 0 then ((3 : Int), idx thingBad M.things 0) else if 0 ≤ idx fracBad M.nums 0 then (3, idx fracBad M.nums 0) else (0, 0)) = (qc, qa) := fun h h2 h3 => by
    rw [fitsOnly, r1, l3, if_neg (not_not_intro h), r2, l1, if_neg (not_not_intro h2), r3, l2, if_neg (not_not_intro h3)] at hR; exact hR
  have H1 := Lib.hid hR1
  have H2 := Lib.hid hR2
  have H3 := Lib.hid hR3
  have H4 := Lib.hid hR4
  have R2 := Lib.hid r2
  have R3 := Lib.hid r3
  clear hR1 hR2 hR3 hR4 l1 l2 l3 r1 r2 r3 hF hM
  go_enter Tryz.func8, Tryz.ntmps8
  go_wp2_with fail
  refine (HC.out _ HW.out.1).mono ?_
  rintro e w0 ⟨rfl, hbx⟩
  obtain ⟨hb0, hbk0, hbm0, hbf0, hs0⟩ := HW.out
  have hbel := hb0.trans (hbx.mono (by omega))
  have hbk := hbk0.below hbx (by omega)
  have hbm := hbm0.below hbx (by omega)
  have hbf := hbf0.below hbx (by omega)
  clear hb0 hbk0 hbm0 hbf0 hs0 hbx HW HC
  have hz2 : w.heap.size + 2 < w0.heap.size := hbf.lt
  have hz1 : w.heap.size + 1 < w0.heap.size := by omega
  have hz : w.heap.size < w0.heap.size := by omega
  have p0 : w0.cell? ⟨w.heap.size, 0, none⟩ = some (.slice A1 n1 c1) := hbk.cell 0
  have p1 : w0.cell? ⟨w.heap.size, 1, none⟩ = some (.slice A2 n2 c2) := hbk.cell 1
  have p2 : w0.cell? ⟨w.heap.size, 2, none⟩ = some (.slice A3 n3 c3) := hbk.cell 2
  have p3 : w0.cell? ⟨w.heap.size, 3, none⟩ = some (.slice A4 n4 c4) := hbk.cell 3
  have q0 : w0.cell? ⟨w.heap.size + 1, 0, none⟩ = some (.slice B1 k1 e1) := hbm.cell 0
  have q1 : w0.cell? ⟨w.heap.size + 1, 1, none⟩ = some (.slice B2 k2 e2) := hbm.cell 1
  have q2 : w0.cell? ⟨w.heap.size + 1, 2, none⟩ = some (.slice B3 k3 e3) := hbm.cell 2
  have d0 : w0.cell? ⟨w.heap.size + 2, 0, none⟩ = some (.int .i64 0) := hbf.cell 0
  have d1 : w0.cell? ⟨w.heap.size + 2, 1, none⟩ = some (.int .i64 0) := hbf.cell 1
  have d2 : w0.frozen? ⟨w.heap.size + 2, 0, none⟩ = false := hbf.frozen 0
  have d3 : w0.frozen? ⟨w.heap.size + 2, 1, none⟩ = false := hbf.frozen 1
  by_cases g1 : k1 = n3
  rotate_left
  · have e5 := H1.out g1
    simp only [Prod.mk.injEq] at e5
    obtain ⟨rfl, rfl⟩ := e5
    have u1 : ((k1 : Int) != (n3 : Int)) = true := by rw [bne_iff_ne]; omega
    go_wp2_with fail
    refine bodyPost_ret (v := .agg #[.int .i64 9, .int .i64 0]) (by simp [results, Tryz.results8, go_sem, d0, d1, hz2]) rfl ⟨rfl, ?_⟩
    exact (((hbel).setCell (p := ⟨w.heap.size + 2, 0, none⟩) (by simp) _).setCell (p := ⟨w.heap.size + 2, 1, none⟩) (by simp) _).alloc (by simp; omega) _
  by_cases g2 : k2 = n1
  rotate_left
  · have e5 := H2.out g1 g2
    simp only [Prod.mk.injEq] at e5
    obtain ⟨rfl, rfl⟩ := e5
    have u1 : ((k1 : Int) != (n3 : Int)) = false := by rw [bne_eq_false_iff_eq]; omega
    have u2 : ((k2 : Int) != (n1 : Int)) = true := by rw [bne_iff_ne]; omega
    clear g1 g2
    go_wp2_with fail
    refine bodyPost_ret (v := .agg #[.int .i64 9, .int .i64 1]) (by simp [results, Tryz.results8, go_sem, d0, d1, hz2]) rfl ⟨rfl, ?_⟩
    exact (((hbel).setCell (p := ⟨w.heap.size + 2, 0, none⟩) (by simp) _).setCell (p := ⟨w.heap.size + 2, 1, none⟩) (by simp) _).alloc (by simp; omega) _
  by_cases g3 : k3 = n2
  rotate_left
  · have e5 := H3.out g1 g2 g3
    simp only [Prod.mk.injEq] at e5
    obtain ⟨rfl, rfl⟩ := e5
    have u1 : ((k1 : Int) != (n3 : Int)) = false := by rw [bne_eq_false_iff_eq]; omega
    have u2 : ((k2 : Int) != (n1 : Int)) = false := by rw [bne_eq_false_iff_eq]; omega
    have u3 : ((k3 : Int) != (n2 : Int)) = true := by rw [bne_iff_ne]; omega
    clear g1 g2 g3
    go_wp2_with fail
    refine bodyPost_ret (v := .agg #[.int .i64 9, .int .i64 2]) (by simp [results, Tryz.results8, go_sem, d0, d1, hz2]) rfl ⟨rfl, ?_⟩
    exact (((hbel).setCell (p := ⟨w.heap.size + 2, 0, none⟩) (by simp) _).setCell (p := ⟨w.heap.size + 2, 1, none⟩) (by simp) _).alloc (by simp; omega) _
  have e6 := H4.out g1 g2 g3
  have u1 : ((k1 : Int) != (n3 : Int)) = false := by rw [bne_eq_false_iff_eq]; omega
  have u2 : ((k2 : Int) != (n1 : Int)) = false := by rw [bne_eq_false_iff_eq]; omega
  have u3 : ((k3 : Int) != (n2 : Int)) = false := by rw [bne_eq_false_iff_eq]; omega
  have kk2 : k2 ≤ 60 := by omega
  have kk3 : k3 ≤ 12 := by omega
  generalize hix : idx thingBad M.things 0 = ix at e6
  generalize hiy : idx fracBad M.nums 0 = iy at e6
  have HIX := Lib.hid hix
  have HIY := Lib.hid hiy
  have H6 := Lib.hid e6
  clear hix hiy e6 g1 g2 g3 H1 H2 H3 H4
  have hbel1 : Below w.heap.size w (w0.alloc (.cells #[.int .i64 0, .int .i64 ta] 33)) := hbel.alloc (by omega) _
  have hbk1 := hbk.alloc (.cells #[.int .i64 0, .int .i64 ta] 33)
  have hbm1 := hbm.alloc (.cells #[.int .i64 0, .int .i64 ta] 33)
  have hbf1 := hbf.alloc (.cells #[.int .i64 0, .int .i64 ta] 33)
  have HX1 := Lib.hid (indexInts_any 22 #[] EG.out thingBad B2 k2 e2 M.things ix (w0.alloc (.cells #[.int .i64 0, .int .i64 ta] 33)) (HM.out.things.below stays_int hbel1 hbel1.size) (by omega) (fits1_pred _ _) HIX.out)
  have HY1 := Lib.hid (And.intro hbel1 (And.intro hbk1 (And.intro hbm1 hbf1)))
  clear hbel1 hbk1 hbm1 hbf1 hbel hbk hbm hbf
  go_wp2_with fail
  refine HX1.out.mono ?_
  rintro e w1 ⟨rfl, hb1⟩
  obtain ⟨hbel1, hbk1, hbm1, hbf1⟩ := HY1.out
  have hbel := hbel1.trans (hb1.mono (by simp; omega))
  have hbk := hbk1.below hb1 (by simp; omega)
  have hbm := hbm1.below hb1 (by simp; omega)
  have hbf := hbf1.below hb1 (by simp; omega)
  clear hbel1 hbk1 hbm1 hbf1 hb1 HY1 HX1 p0 p1 p2 p3 q0 q1 q2 d0 d1 d2 d3 hz hz1 hz2
  have hz2 : w.heap.size + 2 < w1.heap.size := hbf.lt
  have hz1 : w.heap.size + 1 < w1.heap.size := by omega
  have hz : w.heap.size < w1.heap.size := by omega
  have p0 : w1.cell? ⟨w.heap.size, 0, none⟩ = some (.slice A1 n1 c1) := hbk.cell 0
  have p1 : w1.cell? ⟨w.heap.size, 1, none⟩ = some (.slice A2 n2 c2) := hbk.cell 1
  have p2 : w1.cell? ⟨w.heap.size, 2, none⟩ = some (.slice A3 n3 c3) := hbk.cell 2
  have p3 : w1.cell? ⟨w.heap.size, 3, none⟩ = some (.slice A4 n4 c4) := hbk.cell 3
  have q0 : w1.cell? ⟨w.heap.size + 1, 0, none⟩ = some (.slice B1 k1 e1) := hbm.cell 0
  have q1 : w1.cell? ⟨w.heap.size + 1, 1, none⟩ = some (.slice B2 k2 e2) := hbm.cell 1
  have q2 : w1.cell? ⟨w.heap.size + 1, 2, none⟩ = some (.slice B3 k3 e3) := hbm.cell 2
  have d0 : w1.cell? ⟨w.heap.size + 2, 0, none⟩ = some (.int .i64 0) := hbf.cell 0
  have d1 : w1.cell? ⟨w.heap.size + 2, 1, none⟩ = some (.int .i64 0) := hbf.cell 1
  have d2 : w1.frozen? ⟨w.heap.size + 2, 0, none⟩ = false := hbf.frozen 0
  have d3 : w1.frozen? ⟨w.heap.size + 2, 1, none⟩ = false := hbf.frozen 1
  by_cases hix : 0 ≤ ix
  · have e7 := H6.out
    rw [if_pos hix] at e7
    simp only [Prod.mk.injEq] at e7
    obtain ⟨rfl, rfl⟩ := e7
    clear H6 HIX HIY
    go_wp2_with fail
    refine bodyPost_ret (v := .agg #[.int .i64 3, .int .i64 ix]) (by simp [results, Tryz.results8, go_sem, d0, d1]) rfl ⟨rfl, ?_⟩
    exact ((hbel).setCell (p := ⟨w.heap.size + 2, 0, none⟩) (by simp) _).setCell (p := ⟨w.heap.size + 2, 1, none⟩) (by simp) _
  have e7 := H6.out
  rw [if_neg hix] at e7
  have H7 := Lib.hid e7
  have HX2 := Lib.hid (indexFracs_any B3 k3 e3 M.nums iy w1 (HM.out.nums.below stays_frac hbel hbel.size) (by omega) HIY.out)
  have HY2 := Lib.hid (And.intro hbel (And.intro hbk (And.intro hbm hbf)))
  clear e7 H6 HIX hbel hbk hbm hbf
  go_wp2_with fail
  refine HX2.out.mono ?_
  rintro e w2 ⟨rfl, hb2⟩
  obtain ⟨hbel1, hbk1, hbm1, hbf1⟩ := HY2.out
  have hbel := hbel1.trans (hb2.mono (by omega))
  have hbk := hbk1.below hb2 (by omega)
  have hbm := hbm1.below hb2 (by omega)
  have hbf := hbf1.below hb2 (by omega)
  clear hbel1 hbk1 hbm1 hbf1 hb2 HY2 HX2 p0 p1 p2 p3 q0 q1 q2 d0 d1 d2 d3 hz hz1 hz2
  have hz2 : w.heap.size + 2 < w2.heap.size := hbf.lt
  have hz1 : w.heap.size + 1 < w2.heap.size := by omega
  have hz : w.heap.size < w2.heap.size := by omega
  have p0 : w2.cell? ⟨w.heap.size, 0, none⟩ = some (.slice A1 n1 c1) := hbk.cell 0
  have p1 : w2.cell? ⟨w.heap.size, 1, none⟩ = some (.slice A2 n2 c2) := hbk.cell 1
  have p2 : w2.cell? ⟨w.heap.size, 2, none⟩ = some (.slice A3 n3 c3) := hbk.cell 2
  have p3 : w2.cell? ⟨w.heap.size, 3, none⟩ = some (.slice A4 n4 c4) := hbk.cell 3
  have q0 : w2.cell? ⟨w.heap.size + 1, 0, none⟩ = some (.slice B1 k1 e1) := hbm.cell 0
  have q1 : w2.cell? ⟨w.heap.size + 1, 1, none⟩ = some (.slice B2 k2 e2) := hbm.cell 1
  have q2 : w2.cell? ⟨w.heap.size + 1, 2, none⟩ = some (.slice B3 k3 e3) := hbm.cell 2
  have d0 : w2.cell? ⟨w.heap.size + 2, 0, none⟩ = some (.int .i64 0) := hbf.cell 0
  have d1 : w2.cell? ⟨w.heap.size + 2, 1, none⟩ = some (.int .i64 0) := hbf.cell 1
  have d2 : w2.frozen? ⟨w.heap.size + 2, 0, none⟩ = false := hbf.frozen 0
  have d3 : w2.frozen? ⟨w.heap.size + 2, 1, none⟩ = false := hbf.frozen 1
  by_cases hiy : 0 ≤ iy
  · have e8 := H7.out
    rw [if_pos hiy] at e8
    simp only [Prod.mk.injEq] at e8
    obtain ⟨rfl, rfl⟩ := e8
    clear H7 HIY
    go_wp2_with fail
    refine bodyPost_ret (v := .agg #[.int .i64 3, .int .i64 iy]) (by simp [results, Tryz.results8, go_sem, d0, d1]) rfl ⟨rfl, ?_⟩
    exact ((hbel).setCell (p := ⟨w.heap.size + 2, 0, none⟩) (by simp) _).setCell (p := ⟨w.heap.size + 2, 1, none⟩) (by simp) _
  have e8 := H7.out
  rw [if_neg hiy] at e8
  simp only [Prod.mk.injEq] at e8
  obtain ⟨rfl, rfl⟩ := e8
  clear H7 HIY
  go_wp2_with fail
  refine bodyPost_ret (v := .agg #[.int .i64 0, .int .i64 0]) (by simp [results, Tryz.results8, go_sem, d0, d1]) rfl ⟨rfl, ?_⟩
  exact ((hbel).setCell (p := ⟨w.heap.size + 2, 0, none⟩) (by simp) _).setCell (p := ⟨w.heap.size + 2, 1, none⟩) (by simp) _
end Go.Proofs.YtkkpfdfoojcljaaGreat
namespace Go.Proofs.YtkkpfdfoojcljaaGreat
open Go.RowKit

set_option maxRecDepth 100000 in
set_option maxHeartbeats 4000000 in
theorem fitsFault_any (A1 A2 A3 A4 : Option Addr) (n1 c1 n2 c2 n3 c3 n4 c4 : Nat) (B1 B2 B3 : Option Addr) (k1 e1 k2 e2 k3 e3 : Nat) (F : FormD) (M : ModelD) (qc qa : Int) (w : World) (hF : FormB w w.heap.size A1 A2 A3 A4 n1 n2 n3 n4 F) (hM : ModelB w w.heap.size B1 B2 B3 k1 k2 k3 M) (s1 : n1 ≤ 60) (s2 : n2 ≤ 12) (hR : fitsOnly F M = (qc, qa)) :
    Calls Tryz.prog 6 #[.agg #[.slice A1 n1 c1, .slice A2 n2 c2, .slice A3 n3 c3, .slice A4 n4 c4], .agg #[.slice B1 k1 e1, .slice B2 k2 e2, .slice B3 k3 e3]] w fun e w' => e = .returned (.agg #[.int .i64 qc, .int .i64 qa]) ∧ Below w.heap.size w w' := by
  obtain ⟨hb0, hbk0, hbm0, hbf0, hs0⟩ := three_boxes w 27 31 33 #[.slice A1 n1 c1, .slice A2 n2 c2, .slice A3 n3 c3, .slice A4 n4 c4] #[.slice B1 k1 e1, .slice B2 k2 e2, .slice B3 k3 e3] #[.int .i64 0, .int .i64 0]
  have HF := Lib.hid hF
  have HM := Lib.hid hM
  have m1 := hM.m1
  have m2 := hM.m2
  have m3 := hM.m3
  have l1 := hF.terms.len
  have l2 := hF.ints.len
  have l3 := hF.atoms.len
  have r1 := hM.holds.len
  have r2 := hM.things.len
  have r3 := hM.nums.len
  have hR1 : ¬ k1 = n3 → ((9 : Int), (0 : Int)) = (qc, qa) := fun h => by rw [fitsOnly, r1, l3, if_pos h] at hR; exact hR
  have hR2 : k1 = n3 → ¬ k2 = n1 → ((9 : Int), (1 : Int)) = (qc, qa) := fun h h2 => by rw [fitsOnly, r1, l3, if_neg (not_not_intro h), r2, l1, if_pos h2] at hR; exact hR
  have hR3 : k1 = n3 → k2 = n1 → ¬ k3 = n2 → ((9 : Int), (2 : Int)) = (qc, qa) := fun h h2 h3 => by rw [fitsOnly, r1, l3, if_neg (not_not_intro h), r2, l1, if_neg (not_not_intro h2), r3, l2, if_pos h3] at hR; exact hR
  have hR4 : k1 = n3 → k2 = n1 → k3 = n2 → (if 0 ≤ idx thingBad M.things 0 then ((3 : Int), idx thingBad M.things 0) else if 0 ≤ idx fracBad M.nums 0 then (3, idx fracBad M.nums 0) else (0, 0)) = (qc, qa) := fun h h2 h3 => by
    rw [fitsOnly, r1, l3, if_neg (not_not_intro h), r2, l1, if_neg (not_not_intro h2), r3, l2, if_neg (not_not_intro h3)] at hR; exact hR
  have H1 := Lib.hid hR1
  have H2 := Lib.hid hR2
  have H3 := Lib.hid hR3
  have H4 := Lib.hid hR4
  have R2 := Lib.hid r2
  have R3 := Lib.hid r3
  clear hR1 hR2 hR3 hR4 l1 l2 l3 r1 r2 r3 hF hM
  have HW := Lib.hid (And.intro hb0 (And.intro hbk0 (And.intro hbm0 hbf0)))
  clear hb0 hbk0 hbm0 hbf0 hs0 hR
  go_enter Tryz.func6, Tryz.ntmps6
  go_upto_region 1 with fail
  obtain ⟨hbel, hbk, hbm, hbf⟩ := HW.out
  clear HW
  generalize ((w.alloc (.cells #[.slice A1 n1 c1, .slice A2 n2 c2, .slice A3 n3 c3, .slice A4 n4 c4] 27)).alloc (.cells #[.slice B1 k1 e1, .slice B2 k2 e2, .slice B3 k3 e3] 31)).alloc (.cells #[.int .i64 0, .int .i64 0] 33) = W at hbel hbk hbm hbf ⊢
  have hz2 : w.heap.size + 2 < W.heap.size := hbf.lt
  have hz1 : w.heap.size + 1 < W.heap.size := by omega
  have hz : w.heap.size < W.heap.size := by omega
  have p0 : W.cell? ⟨w.heap.size, 0, none⟩ = some (.slice A1 n1 c1) := hbk.cell 0
  have p1 : W.cell? ⟨w.heap.size, 1, none⟩ = some (.slice A2 n2 c2) := hbk.cell 1
  have p2 : W.cell? ⟨w.heap.size, 2, none⟩ = some (.slice A3 n3 c3) := hbk.cell 2
  have p3 : W.cell? ⟨w.heap.size, 3, none⟩ = some (.slice A4 n4 c4) := hbk.cell 3
  have q0 : W.cell? ⟨w.heap.size + 1, 0, none⟩ = some (.slice B1 k1 e1) := hbm.cell 0
  have q1 : W.cell? ⟨w.heap.size + 1, 1, none⟩ = some (.slice B2 k2 e2) := hbm.cell 1
  have q2 : W.cell? ⟨w.heap.size + 1, 2, none⟩ = some (.slice B3 k3 e3) := hbm.cell 2
  have d0 : W.cell? ⟨w.heap.size + 2, 0, none⟩ = some (.int .i64 0) := hbf.cell 0
  have d1 : W.cell? ⟨w.heap.size + 2, 1, none⟩ = some (.int .i64 0) := hbf.cell 1
  have d2 : W.frozen? ⟨w.heap.size + 2, 0, none⟩ = false := hbf.frozen 0
  have d3 : W.frozen? ⟨w.heap.size + 2, 1, none⟩ = false := hbf.frozen 1
  by_cases g1 : k1 = n3
  rotate_left
  · have e5 := H1.out g1
    simp only [Prod.mk.injEq] at e5
    obtain ⟨rfl, rfl⟩ := e5
    have u1 : ((k1 : Int) != (n3 : Int)) = true := by rw [bne_iff_ne]; omega
    go_wp2_with fail
    refine bodyPost_ret (v := .agg #[.int .i64 9, .int .i64 0]) (by simp [results, Tryz.results6, go_sem, d0, d1]) rfl ⟨rfl, ?_⟩
    exact ((hbel).setCell (p := ⟨w.heap.size + 2, 0, none⟩) (by simp) _).setCell (p := ⟨w.heap.size + 2, 1, none⟩) (by simp) _
  by_cases g2 : k2 = n1
  rotate_left
  · have e5 := H2.out g1 g2
    simp only [Prod.mk.injEq] at e5
    obtain ⟨rfl, rfl⟩ := e5
    have u1 : ((k1 : Int) != (n3 : Int)) = false := by rw [bne_eq_false_iff_eq]; omega
    have u2 : ((k2 : Int) != (n1 : Int)) = true := by rw [bne_iff_ne]; omega
    clear g1 g2
    go_wp2_with fail
    refine bodyPost_ret (v := .agg #[.int .i64 9, .int .i64 1]) (by simp [results, Tryz.results6, go_sem, d0, d1]) rfl ⟨rfl, ?_⟩
    exact ((hbel).setCell (p := ⟨w.heap.size + 2, 0, none⟩) (by simp) _).setCell (p := ⟨w.heap.size + 2, 1, none⟩) (by simp) _
  by_cases g3 : k3 = n2
  rotate_left
  · have e5 := H3.out g1 g2 g3
    simp only [Prod.mk.injEq] at e5
    obtain ⟨rfl, rfl⟩ := e5
    have u1 : ((k1 : Int) != (n3 : Int)) = false := by rw [bne_eq_false_iff_eq]; omega
    have u2 : ((k2 : Int) != (n1 : Int)) = false := by rw [bne_eq_false_iff_eq]; omega
    have u3 : ((k3 : Int) != (n2 : Int)) = true := by rw [bne_iff_ne]; omega
    clear g1 g2 g3
    go_wp2_with fail
    refine bodyPost_ret (v := .agg #[.int .i64 9, .int .i64 2]) (by simp [results, Tryz.results6, go_sem, d0, d1]) rfl ⟨rfl, ?_⟩
    exact ((hbel).setCell (p := ⟨w.heap.size + 2, 0, none⟩) (by simp) _).setCell (p := ⟨w.heap.size + 2, 1, none⟩) (by simp) _
  have e6 := H4.out g1 g2 g3
  have u1 : ((k1 : Int) != (n3 : Int)) = false := by rw [bne_eq_false_iff_eq]; omega
  have u2 : ((k2 : Int) != (n1 : Int)) = false := by rw [bne_eq_false_iff_eq]; omega
  have u3 : ((k3 : Int) != (n2 : Int)) = false := by rw [bne_eq_false_iff_eq]; omega
  have kk2 : k2 ≤ 60 := by omega
  have kk3 : k3 ≤ 12 := by omega
  generalize hix : idx thingBad M.things 0 = ix at e6
  generalize hiy : idx fracBad M.nums 0 = iy at e6
  have HIX := Lib.hid hix
  have HIY := Lib.hid hiy
  have H6 := Lib.hid e6
  clear hix hiy e6 g1 g2 g3 H1 H2 H3 H4
  go_wp2_with fail
  have HY := Lib.hid (And.intro hbel (And.intro hbk (And.intro hbm hbf)))
  clear hbel hbk hbm hbf p0 p1 p2 p3 q0 q1 q2 d0 d1 d2 d3 hz hz1 hz2
  go_loopw [5] (fun s wr => ∃ k : Nat, k ≤ k2 ∧ s = .int .i64 k ∧ Hid (idx thingBad (M.things.drop k) k = ix) ∧ Below w.heap.size w wr ∧ Blk wr w.heap.size 27 #[.slice A1 n1 c1, .slice A2 n2 c2, .slice A3 n3 c3, .slice A4 n4 c4] ∧ Blk wr (w.heap.size + 1) 31 #[.slice B1 k1 e1, .slice B2 k2 e2, .slice B3 k3 e3] ∧ Blk wr (w.heap.size + 2) 33 #[.int .i64 0, .int .i64 0]) (fun s _ => k2 - (intOf s).toNat)
  case atStart => exact ⟨0, Nat.zero_le _, rfl, HIX, HY.out.1, HY.out.2.1, HY.out.2.2.1, HY.out.2.2.2⟩
  case round =>
    clear HY HIX
    obtain ⟨k, hk, rfl, HK, hbel, hbk, hbm, hbf⟩ := hrel
    by_cases hlt : k < k2
    · obtain ⟨b, off, hx, rfl, hb, hcell0, hlo, hhi⟩ := ints_get HM.out.things hlt
      have hcell := (hbel.cell (p := ⟨b, off + k, none⟩) hb).trans hcell0
      have hz2 : w.heap.size + 2 < wr.heap.size := hbf.lt
      have hz1 : w.heap.size + 1 < wr.heap.size := by omega
      have hz : w.heap.size < wr.heap.size := by omega
      have p0 : wr.cell? ⟨w.heap.size, 0, none⟩ = some (.slice A1 n1 c1) := hbk.cell 0
      have p1 : wr.cell? ⟨w.heap.size, 1, none⟩ = some (.slice A2 n2 c2) := hbk.cell 1
      have p2 : wr.cell? ⟨w.heap.size, 2, none⟩ = some (.slice A3 n3 c3) := hbk.cell 2
      have p3 : wr.cell? ⟨w.heap.size, 3, none⟩ = some (.slice A4 n4 c4) := hbk.cell 3
      have q0 : wr.cell? ⟨w.heap.size + 1, 0, none⟩ = some (.slice B1 k1 e1) := hbm.cell 0
      have q1 : wr.cell? ⟨w.heap.size + 1, 1, none⟩ = some (.slice (some ⟨b, off, none⟩) k2 e2) := hbm.cell 1
      have q2 : wr.cell? ⟨w.heap.size + 1, 2, none⟩ = some (.slice B3 k3 e3) := hbm.cell 2
      have d0 : wr.cell? ⟨w.heap.size + 2, 0, none⟩ = some (.int .i64 0) := hbf.cell 0
      have d1 : wr.cell? ⟨w.heap.size + 2, 1, none⟩ = some (.int .i64 0) := hbf.cell 1
      have d2 : wr.frozen? ⟨w.heap.size + 2, 0, none⟩ = false := hbf.frozen 0
      have d3 : wr.frozen? ⟨w.heap.size + 2, 1, none⟩ = false := hbf.frozen 1
      have e1x := HK.out
      rw [drop_cons hx, idx] at e1x
      generalize M.things[k] = y at e1x hcell hcell0 hlo hhi
      clear HK hcell0
      cases hq : thingBad y with
      | true =>
        rw [hq] at e1x
        have e2x : (k : Int) = ix := e1x
        have e7 := H6.out
        rw [← e2x, if_pos (by omega)] at e7
        simp only [Prod.mk.injEq] at e7
        obtain ⟨rfl, rfl⟩ := e7
        have HQ := Lib.hid hq
        clear hq e1x e2x H6 HIY
        go_wp2_with fail
        refine (isThing_any _ _).mono ?_
        rintro e w' ⟨rfl, rfl⟩
        rw [HQ.out]
        go_wp2_with fail
        refine bodyPost_ret (v := .agg #[.int .i64 3, .int .i64 k]) (by simp [results, Tryz.results6, go_sem, d0, d1]) rfl ⟨rfl, ?_⟩
        exact ((hbel).setCell (p := ⟨w.heap.size + 2, 0, none⟩) (by simp) _).setCell (p := ⟨w.heap.size + 2, 1, none⟩) (by simp) _
      | false =>
        rw [hq] at e1x
        have H2x := Lib.hid (show idx thingBad (M.things.drop (k + 1)) ((k : Int) + 1) = ix from e1x)
        have HQ := Lib.hid hq
        clear hq e1x
        go_wp2_with fail
        refine (isThing_any _ _).mono ?_
        rintro e w' ⟨rfl, rfl⟩
        rw [HQ.out]
        go_wp2_with fail
        go_roundw
        case rel => exact ⟨k + 1, by omega, by go_num, by show _ = _; rw [Int.natCast_add]; exact H2x.out, hbel, hbk, hbm, hbf⟩
        case measure => simp [intOf]; omega
    · obtain rfl : k2 = k := by omega
      have hz2 : w.heap.size + 2 < wr.heap.size := hbf.lt
      have hz1 : w.heap.size + 1 < wr.heap.size := by omega
      have hz : w.heap.size < wr.heap.size := by omega
      have p0 : wr.cell? ⟨w.heap.size, 0, none⟩ = some (.slice A1 n1 c1) := hbk.cell 0
      have p1 : wr.cell? ⟨w.heap.size, 1, none⟩ = some (.slice A2 n2 c2) := hbk.cell 1
      have p2 : wr.cell? ⟨w.heap.size, 2, none⟩ = some (.slice A3 n3 c3) := hbk.cell 2
      have p3 : wr.cell? ⟨w.heap.size, 3, none⟩ = some (.slice A4 n4 c4) := hbk.cell 3
      have q0 : wr.cell? ⟨w.heap.size + 1, 0, none⟩ = some (.slice B1 k1 e1) := hbm.cell 0
      have q1 : wr.cell? ⟨w.heap.size + 1, 1, none⟩ = some (.slice B2 k2 e2) := hbm.cell 1
      have q2 : wr.cell? ⟨w.heap.size + 1, 2, none⟩ = some (.slice B3 k3 e3) := hbm.cell 2
      have d0 : wr.cell? ⟨w.heap.size + 2, 0, none⟩ = some (.int .i64 0) := hbf.cell 0
      have d1 : wr.cell? ⟨w.heap.size + 2, 1, none⟩ = some (.int .i64 0) := hbf.cell 1
      have d2 : wr.frozen? ⟨w.heap.size + 2, 0, none⟩ = false := hbf.frozen 0
      have d3 : wr.frozen? ⟨w.heap.size + 2, 1, none⟩ = false := hbf.frozen 1
      have e1x := HK.out
      rw [List.drop_of_length_le (by have := R2.out; omega), idx] at e1x
      subst e1x
      have e7 := H6.out
      rw [if_neg (by omega)] at e7
      have H7 := Lib.hid e7
      have HY := Lib.hid (And.intro hbel (And.intro hbk (And.intro hbm hbf)))
      clear e7 H6 HK
      go_wp2_with fail
      clear hbel hbk hbm hbf p0 p1 p2 p3 q0 q1 q2 d0 d1 d2 d3 hz hz1 hz2
      go_loopw [6] (fun s wr => ∃ j : Nat, j ≤ k3 ∧ s = .int .i64 j ∧ Hid (idx fracBad (M.nums.drop j) j = iy) ∧ Below w.heap.size w wr ∧ Blk wr w.heap.size 27 #[.slice A1 n1 c1, .slice A2 n2 c2, .slice A3 n3 c3, .slice A4 n4 c4] ∧ Blk wr (w.heap.size + 1) 31 #[.slice B1 k1 e1, .slice B2 k2 e2, .slice B3 k3 e3] ∧ Blk wr (w.heap.size + 2) 33 #[.int .i64 0, .int .i64 0]) (fun s _ => k3 - (intOf s).toNat)
      case atStart => exact ⟨0, Nat.zero_le _, rfl, HIY, HY.out.1, HY.out.2.1, HY.out.2.2.1, HY.out.2.2.2⟩
      case round =>
        clear HY HIY
        obtain ⟨j, hj, rfl, HJ, hbel, hbk, hbm, hbf⟩ := hrel
        by_cases hjl : j < k3
        · obtain ⟨b, off, hx, rfl, hb, g0, g1⟩ := fracs_get HM.out.nums hjl
          have hc0 := (hbel.cell (p := ⟨b, off + j * 2, none⟩) hb).trans g0
          have hc1 := (hbel.cell (p := ⟨b, off + j * 2 + 1, none⟩) hb).trans g1
          have hz2 : w.heap.size + 2 < wr.heap.size := hbf.lt
          have hz1 : w.heap.size + 1 < wr.heap.size := by omega
          have hz : w.heap.size < wr.heap.size := by omega
          have p0 : wr.cell? ⟨w.heap.size, 0, none⟩ = some (.slice A1 n1 c1) := hbk.cell 0
          have p1 : wr.cell? ⟨w.heap.size, 1, none⟩ = some (.slice A2 n2 c2) := hbk.cell 1
          have p2 : wr.cell? ⟨w.heap.size, 2, none⟩ = some (.slice A3 n3 c3) := hbk.cell 2
          have p3 : wr.cell? ⟨w.heap.size, 3, none⟩ = some (.slice A4 n4 c4) := hbk.cell 3
          have q0 : wr.cell? ⟨w.heap.size + 1, 0, none⟩ = some (.slice B1 k1 e1) := hbm.cell 0
          have q1 : wr.cell? ⟨w.heap.size + 1, 1, none⟩ = some (.slice B2 k2 e2) := hbm.cell 1
          have q2 : wr.cell? ⟨w.heap.size + 1, 2, none⟩ = some (.slice (some ⟨b, off, none⟩) k3 e3) := hbm.cell 2
          have d0 : wr.cell? ⟨w.heap.size + 2, 0, none⟩ = some (.int .i64 0) := hbf.cell 0
          have d1 : wr.cell? ⟨w.heap.size + 2, 1, none⟩ = some (.int .i64 0) := hbf.cell 1
          have d2 : wr.frozen? ⟨w.heap.size + 2, 0, none⟩ = false := hbf.frozen 0
          have d3 : wr.frozen? ⟨w.heap.size + 2, 1, none⟩ = false := hbf.frozen 1
          have e1x := HJ.out
          rw [drop_cons hx, idx] at e1x
          generalize M.nums[j] = y at e1x g0 g1 hc0 hc1
          obtain ⟨nm, dn⟩ := y
          simp only at hc0 hc1
          have hcall := good_any nm dn wr
          rw [show fracBad ⟨nm, dn⟩ = !fracGood nm dn from rfl] at e1x
          clear HJ g0 g1
          cases hq : fracGood nm dn with
          | false =>
            rw [hq] at e1x hcall
            have e2x : (j : Int) = iy := e1x
            have e7 := H7.out
            rw [← e2x, if_pos (by omega)] at e7
            simp only [Prod.mk.injEq] at e7
            obtain ⟨rfl, rfl⟩ := e7
            have HC := Lib.hid hcall
            clear hq e1x e2x H7 hcall
            go_wp2_with fail
            refine HC.out.mono ?_
            rintro e w' ⟨rfl, hb'⟩
            have hbelB := hbel.trans (hb'.mono (by omega))
            have hbfB := hbf.below hb' hz2
            clear d0 d1 d2 d3
            have d0 : w'.cell? ⟨w.heap.size + 2, 0, none⟩ = some (.int .i64 0) := hbfB.cell 0
            have d1 : w'.cell? ⟨w.heap.size + 2, 1, none⟩ = some (.int .i64 0) := hbfB.cell 1
            have d2 : w'.frozen? ⟨w.heap.size + 2, 0, none⟩ = false := hbfB.frozen 0
            have d3 : w'.frozen? ⟨w.heap.size + 2, 1, none⟩ = false := hbfB.frozen 1
            have hz2' : w.heap.size + 2 < w'.heap.size := hbfB.lt
            go_wp2_with fail
            refine bodyPost_ret (v := .agg #[.int .i64 3, .int .i64 j]) (by simp [results, Tryz.results6, go_sem, d0, d1]) rfl ⟨rfl, ?_⟩
            exact ((hbelB).setCell (p := ⟨w.heap.size + 2, 0, none⟩) (by simp) _).setCell (p := ⟨w.heap.size + 2, 1, none⟩) (by simp) _
          | true =>
            rw [hq] at e1x hcall
            have H2x := Lib.hid (show idx fracBad (M.nums.drop (j + 1)) ((j : Int) + 1) = iy from e1x)
            have HC := Lib.hid hcall
            clear hq e1x hcall
            go_wp2_with fail
            refine HC.out.mono ?_
            rintro e w' ⟨rfl, hb'⟩
            go_wp2_with fail
            go_roundw
            case rel => exact ⟨j + 1, by omega, by go_num, by show _ = _; rw [Int.natCast_add]; exact H2x.out, hbel.trans (hb'.mono (by omega)), hbk.below hb' hz, hbm.below hb' hz1, hbf.below hb' hz2⟩
            case measure => simp [intOf]; omega
        · obtain rfl : k3 = j := by omega
          have hz2 : w.heap.size + 2 < wr.heap.size := hbf.lt
          have hz1 : w.heap.size + 1 < wr.heap.size := by omega
          have hz : w.heap.size < wr.heap.size := by omega
          have p0 : wr.cell? ⟨w.heap.size, 0, none⟩ = some (.slice A1 n1 c1) := hbk.cell 0
          have p1 : wr.cell? ⟨w.heap.size, 1, none⟩ = some (.slice A2 n2 c2) := hbk.cell 1
          have p2 : wr.cell? ⟨w.heap.size, 2, none⟩ = some (.slice A3 n3 c3) := hbk.cell 2
          have p3 : wr.cell? ⟨w.heap.size, 3, none⟩ = some (.slice A4 n4 c4) := hbk.cell 3
          have q0 : wr.cell? ⟨w.heap.size + 1, 0, none⟩ = some (.slice B1 k1 e1) := hbm.cell 0
          have q1 : wr.cell? ⟨w.heap.size + 1, 1, none⟩ = some (.slice B2 k2 e2) := hbm.cell 1
          have q2 : wr.cell? ⟨w.heap.size + 1, 2, none⟩ = some (.slice B3 k3 e3) := hbm.cell 2
          have d0 : wr.cell? ⟨w.heap.size + 2, 0, none⟩ = some (.int .i64 0) := hbf.cell 0
          have d1 : wr.cell? ⟨w.heap.size + 2, 1, none⟩ = some (.int .i64 0) := hbf.cell 1
          have d2 : wr.frozen? ⟨w.heap.size + 2, 0, none⟩ = false := hbf.frozen 0
          have d3 : wr.frozen? ⟨w.heap.size + 2, 1, none⟩ = false := hbf.frozen 1
          have e1x := HJ.out
          rw [List.drop_of_length_le (by have := R3.out; omega), idx] at e1x
          subst e1x
          have e7 := H7.out
          rw [if_neg (by omega)] at e7
          simp only [Prod.mk.injEq] at e7
          obtain ⟨rfl, rfl⟩ := e7
          clear HJ H7
          go_wp2_with fail
          refine bodyPost_ret (v := .agg #[.int .i64 0, .int .i64 0]) (by simp [results, Tryz.results6, go_sem, d0, d1]) rfl ⟨rfl, ?_⟩
          exact ((hbel).setCell (p := ⟨w.heap.size + 2, 0, none⟩) (by simp) _).setCell (p := ⟨w.heap.size + 2, 1, none⟩) (by simp) _
end Go.Proofs.YtkkpfdfoojcljaaGreat
