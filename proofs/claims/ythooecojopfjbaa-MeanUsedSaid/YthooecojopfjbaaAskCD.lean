/- Walks: the program's check of declarations. · Walk: the reference's fault of a declaration. -/
import Derived.Test.YthooecojopfjbaaAskAB
import Derived.Test.YthooecojopfjbaaCore
namespace Go.Proofs.Ythooecojopfjbaa
open Go.RowKit

def notThing (s : Int) : Bool := s != 4
def declCode (l : List DeclD) (d : DeclD) (i : Int) : Int :=
  if nameB d.name = false then 12 else if (l.take i.toNat).any (nameIs d.name) = true then 7 else if 8 < d.args.length then 9
  else if sortB d.sort = false ∨ d.args.any notThing = true ∨ (d.sort = 5 ∧ 0 < d.args.length) then 4 else 0
def declsF (l : List DeclD) : Int × Int := if 30 < l.length then (2, 0) else firstBad (declCode l) l 0
theorem isSort_is (n : Int) (b : Bool) (h : sortB n = b) (w : World) : Calls Try.prog 60 #[.int .i64 n] w fun e w' => e = .returned (.bool b) ∧ w = w' := by
  subst h; exact isSort_any n w
theorem isName_is (s : ByteArray) (b : Bool) (h : nameB s = b) (hs : s.size ≤ 9223372036854775807) (w : World) : Calls Try.prog 57 #[.string s] w fun e w' => e = .returned (.bool b) ∧ w = w' := by
  subst h; exact isName_any s w hs

set_option maxHeartbeats 1000000 in
theorem decls1_any (x : DeclD) (A : Option Addr) (n c : Nat) (s : ByteArray) (B : Nat) (w : World) (hc : w.cell? ⟨B, 0, none⟩ = some (.string s)) (hB : B < w.heap.size) :
    Calls Try.prog 59 #[.agg #[.string x.name, .slice A n c, .int .i64 x.sort], .pointer (some ⟨B, 0, none⟩)] w fun e w' => e = .returned (.bool (nameIs s x)) ∧ Below w.heap.size w w' := by
  obtain ⟨nm, ar, so⟩ := x
  dsimp only
  go_enter Try.func59, Try.ntmps59
  go_wp2_with fail
  go_ret
  exact ⟨ret_bool rfl, (Below.refl _ _).alloc (Nat.le_refl _) _⟩
theorem decls1_pred (s : ByteArray) (B : Nat) (xs : List DeclD) (w : World) (hB : B < w.heap.size) (hc : w.cell? ⟨B, 0, none⟩ = some (.string s)) : PredDecl Try.prog 59 #[.pointer (some ⟨B, 0, none⟩)] (nameIs s) xs w := fun W x A n c _ hb => by
  have hc2 : W.cell? ⟨B, 0, none⟩ = some (.string s) := (hb.cell (p := ⟨B, 0, none⟩) hB).trans hc
  exact (decls1_any x A n c s B W hc2 (Nat.lt_of_lt_of_le hB hb.size)).mono fun e w' ⟨he, h2⟩ => ⟨he, hb.trans (h2.mono hb.size)⟩
set_option maxHeartbeats 400000 in
theorem decls2_any (n : Int) (w : World) : Calls Try.prog 61 #[.int .i64 n] w fun e w' => e = .returned (.bool (notThing n)) ∧ w = w' := by
  go_enter Try.func61, Try.ntmps61
  go_wp2
  go_ret
  exact ⟨rfl, rfl⟩
theorem decls2_pred (xs : List Int) (w : World) : PredOn Try.prog 61 #[] notThing xs w := fun W y _ hb => (decls2_any y W).mono fun _ _ ⟨he, hw⟩ => ⟨he, hw ▸ hb⟩

set_option maxRecDepth 100000 in
set_option maxHeartbeats 4000000 in
theorem checkDecls_any (A : Option Addr) (n c : Nat) (xs : List DeclD) (qc qa : Int) (w : World) (hxs : ArrB AtDecl 3 w w.heap.size A n xs) (hnc : n ≤ c) (hR : declsF xs = (qc, qa)) :
    Calls Try.prog 33 #[.slice A n c] w fun e w' => e = .returned (.agg #[.int .i64 qc, .int .i64 qa]) ∧ Below w.heap.size w w' := by
  have eg1 : ∀ args w, (callFunc 59 args).run Try.prog w = .ok (.enter 59 args) w := enters_of Try.func59 (by kernel_rfl) rfl
  have eg2 : ∀ args w, (callFunc 61 args).run Try.prog w = .ok (.enter 61 args) w := enters_of Try.func61 (by kernel_rfl) rfl
  have hlen := hxs.len
  rw [declsF, hlen] at hR
  by_cases hmany : 30 < n
  · rw [if_pos hmany] at hR
    simp only [Prod.mk.injEq] at hR
    obtain ⟨rfl, rfl⟩ := hR
    clear hxs hlen
    go_enter Try.func33, Try.ntmps33
    go_wp2_with fail
    refine bodyPost_ret (v := .agg #[.int .i64 2, .int .i64 0]) (by simp [results, Try.results33, go_sem]) rfl ⟨rfl, ?_⟩
    exact (Below.refl _ _).alloc (Nat.le_refl _) _
  · rw [if_neg hmany] at hR
    have HR := Lib.hid hR
    have HL := Lib.hid hlen
    have HXS := Lib.hid hxs
    clear hR hlen hxs
    go_enter Try.func33, Try.ntmps33
    go_wp2_with fail
    go_loopw [12] (fun s wr => ∃ k : Nat, k ≤ n ∧ s = .int .i64 k ∧ Hid (firstBad (declCode xs) (xs.drop k) k = (qc, qa)) ∧ Below w.heap.size w wr ∧ Blk wr w.heap.size 29 #[.int .i64 0, .int .i64 0]) (fun s _ => n - (intOf s).toNat)
    case atStart => exact ⟨0, Nat.zero_le _, rfl, HR, (Below.refl _ _).alloc (Nat.le_refl _) _, Blk.new _ _ _⟩
    case round =>
      obtain ⟨k, hk, rfl, HK, hbel, hbf⟩ := hrel
      have hz : w.heap.size < wr.heap.size := hbf.lt
      by_cases hlt : k < n
      · obtain ⟨b, off, hx, A', n', c', rfl, hb, h0, h1, h2, hnc', hcm', har, hso, hnm⟩ := decls_get (HXS.out.below stays_decl hbel (Nat.le_refl _)) hlt
        have e1 := HK.out
        rw [drop_cons hx, firstBad] at e1
        generalize xs[k] = d at e1 h0 h2 har hso hnm
        obtain ⟨nm, ar, so⟩ := d
        simp only at h0 h2 har hso hnm
        have hal := har.len
        unfold maxLen at hnm
        have hwb : Below wr.heap.size wr (wr.alloc (.cells #[.string nm, .slice A' n' c', .int .i64 so] 61)) := (Below.refl _ _).alloc (Nat.le_refl _) _
        have hbn := Blk.new wr 61 #[.string nm, .slice A' n' c', .int .i64 so]
        have hbelB := hbel.alloc (Nat.le_of_lt hz) (.cells #[.string nm, .slice A' n' c', .int .i64 so] 61)
        have hbfB := hbf.alloc (.cells #[.string nm, .slice A' n' c', .int .i64 so] 61)
        have hxk := ((HXS.out.below stays_decl hbel (Nat.le_refl _)).take (Nat.le_of_lt hlt)).keep stays_decl (w' := wr.alloc (.cells #[.string nm, .slice A' n' c', .int .i64 so] 61)) (S' := fun b => b < (wr.alloc (.cells #[.string nm, .slice A' n' c', .int .i64 so] 61)).heap.size) (fun b hb => by have hb' : b < w.heap.size := hb; simp; omega) (fun b o hb => hwb.cell (p := ⟨b, o, none⟩) (by have hb' : b < w.heap.size := hb; show b < wr.heap.size; omega))
        cases hq1 : nameB nm with
        | false =>
          have e2 : declCode xs ⟨nm, ar, so⟩ k = 12 := by rw [declCode, if_pos hq1]
          rw [e2] at e1
          rw [if_neg (by omega)] at e1
          simp only [Prod.mk.injEq] at e1
          obtain ⟨rfl, rfl⟩ := e1
          have HC1 := Lib.hid (fun W => isName_is nm false hq1 hnm W)
          have d0 : wr.cell? ⟨w.heap.size, 0, none⟩ = some (.int .i64 0) := hbf.cell 0
          have d1 : wr.cell? ⟨w.heap.size, 1, none⟩ = some (.int .i64 0) := hbf.cell 1
          have y0 : wr.frozen? ⟨w.heap.size, 0, none⟩ = false := hbf.frozen 0
          have y1 : wr.frozen? ⟨w.heap.size, 1, none⟩ = false := hbf.frozen 1
          have HB := Lib.hid (And.intro hbel hbf)
          clear e2 hq1 HK hx har hal hwb hbn hbelB hbfB hxk hbel hbf hb
          go_wp2_with (go_at_call 57; refine (HC1.out _).mono ?_; rintro e w' ⟨rfl, rfl⟩)
          clear d0 d1 y0 y1
          have hz1 := two_blk HB.out.2 (.int .i64 12) (.int .i64 k)
          have hz2 : Below w.heap.size w (two wr w.heap.size (.int .i64 12) (.int .i64 k)) := two_below HB.out.1 (Nat.le_refl _) (.int .i64 12) (.int .i64 k)
          have hz3 := hz1.alloc (.cells #[.string nm, .slice A' n' c', .int .i64 so] 61)
          have hz4 : Below w.heap.size w ((two wr w.heap.size (.int .i64 12) (.int .i64 k)).alloc (.cells #[.string nm, .slice A' n' c', .int .i64 so] 61)) := hz2.alloc hz2.size _
          have e4 : ((wr.setCell ⟨w.heap.size, 0, none⟩ (.int .i64 12)).setCell ⟨w.heap.size, 1, none⟩ (.int .i64 k)).alloc (.cells #[.string nm, .slice A' n' c', .int .i64 so] 61) = (two wr w.heap.size (.int .i64 12) (.int .i64 k)).alloc (.cells #[.string nm, .slice A' n' c', .int .i64 so] 61) := rfl
          rw [e4]
          clear e4
          generalize (two wr w.heap.size (.int .i64 12) (.int .i64 k)).alloc (.cells #[.string nm, .slice A' n' c', .int .i64 so] 61) = Z at hz3 hz4 ⊢
          have d0 := hz3.cell 0
          have d1 := hz3.cell 1
          simp only [List.getElem?_toArray, List.getElem?_cons_zero, List.getElem?_cons_succ] at d0 d1
          exact bodyPost_ret (v := .agg #[.int .i64 12, .int .i64 k]) (by simp [results, Try.results33, go_sem, d0, d1]) rfl ⟨rfl, hz4⟩
        | true =>
          have HC1 := Lib.hid (fun W => isName_is nm true hq1 hnm W)
          have hdup : ∀ R, (xs.take k).any (nameIs nm) = R → Calls Try.prog 58 #[.slice (some ⟨b, off, none⟩) k c, .func (.func 59) #[] #[.pointer (some ⟨wr.heap.size, 0, none⟩)]] (wr.alloc (.cells #[.string nm, .slice A' n' c', .int .i64 so] 61)) fun e w' => e = .returned (.bool R) ∧ Below (wr.alloc (.cells #[.string nm, .slice A' n' c', .int .i64 so] 61)).heap.size (wr.alloc (.cells #[.string nm, .slice A' n' c', .int .i64 so] 61)) w' := fun R hR => containsDecls_any 59 _ eg1 (nameIs nm) (some ⟨b, off, none⟩) k c (xs.take k) R _ hxk (by omega) (decls1_pred nm wr.heap.size _ _ (by simp) (hbn.cell 0)) hR
          have hcI : (k : Int) ≤ (c : Int) := by omega
          have hzB : (wr.alloc (.cells #[.string nm, .slice A' n' c', .int .i64 so] 61)).heap.size = wr.heap.size + 1 := by simp
          have HW := Lib.hid (And.intro hbelB (And.intro hbfB (And.intro hbn hzB)))
          cases hq2 : (xs.take k).any (nameIs nm) with
          | true =>
            have e2 : declCode xs ⟨nm, ar, so⟩ k = 7 := by rw [declCode, if_neg (by simp [hq1]), if_pos (by simpa using hq2)]
            rw [e2] at e1
            rw [if_neg (by omega)] at e1
            simp only [Prod.mk.injEq] at e1
            obtain ⟨rfl, rfl⟩ := e1
            have HD := Lib.hid (hdup _ hq2)
            clear e2 hq1 hq2 HK hx har hal hwb hbn hbelB hbfB hxk hbel hbf hb hdup hzB
            go_wp2_with (go_at_call 57; refine (HC1.out _).mono ?_; rintro e w' ⟨rfl, rfl⟩)
            refine HD.out.mono ?_
            rintro e w5 ⟨rfl, hb5⟩
            obtain ⟨hbelB, hbfB, hbn, hzB⟩ := HW.out
            have hbf5 := hbfB.below hb5 (by omega)
            have hbel5 := hbelB.trans (hb5.mono (by omega))
            have hz5 : w.heap.size < w5.heap.size := hbf5.lt
            have d0 : w5.cell? ⟨w.heap.size, 0, none⟩ = some (.int .i64 0) := hbf5.cell 0
            have d1 : w5.cell? ⟨w.heap.size, 1, none⟩ = some (.int .i64 0) := hbf5.cell 1
            have y0 : w5.frozen? ⟨w.heap.size, 0, none⟩ = false := hbf5.frozen 0
            have y1 : w5.frozen? ⟨w.heap.size, 1, none⟩ = false := hbf5.frozen 1
            have HB := Lib.hid (And.intro hbel5 hbf5)
            clear hbelB hbfB hbn hzB hbf5 hbel5 hb5 HW
            go_wp2_with fail
            clear d0 d1 y0 y1
            have hz1 := two_blk HB.out.2 (.int .i64 7) (.int .i64 k)
            have hz2 : Below w.heap.size w (two w5 w.heap.size (.int .i64 7) (.int .i64 k)) := two_below HB.out.1 (Nat.le_refl _) (.int .i64 7) (.int .i64 k)
            have e4 : (w5.setCell ⟨w.heap.size, 0, none⟩ (.int .i64 7)).setCell ⟨w.heap.size, 1, none⟩ (.int .i64 k) = two w5 w.heap.size (.int .i64 7) (.int .i64 k) := rfl
            rw [e4]
            clear e4
            generalize two w5 w.heap.size (.int .i64 7) (.int .i64 k) = Z at hz1 hz2 ⊢
            have d0 := hz1.cell 0
            have d1 := hz1.cell 1
            simp only [List.getElem?_toArray, List.getElem?_cons_zero, List.getElem?_cons_succ] at d0 d1
            exact bodyPost_ret (v := .agg #[.int .i64 7, .int .i64 k]) (by simp [results, Try.results33, go_sem, d0, d1]) rfl ⟨rfl, hz2⟩
          | false =>
            have hz1q : ¬ nameB nm = false := by simp [hq1]
            have hz2q : ¬ (xs.take (k : Int).toNat).any (nameIs nm) = true := by simp [hq2]
            have HD := Lib.hid (hdup _ hq2)
            have HQ := Lib.hid (And.intro hz1q hz2q)
            have HAR := Lib.hid har
            clear hz1q hz2q hq1 hq2 HK hx har hwb hbn hbelB hbfB hxk hbel hbf hb hdup hzB
            have mk : ∀ (w5 : World), Below (wr.alloc (.cells #[.string nm, .slice A' n' c', .int .i64 so] 61)).heap.size (wr.alloc (.cells #[.string nm, .slice A' n' c', .int .i64 so] 61)) w5 → Below w.heap.size w w5 ∧ Blk w5 w.heap.size 29 #[.int .i64 0, .int .i64 0] ∧ Blk w5 wr.heap.size 61 #[.string nm, .slice A' n' c', .int .i64 so] ∧ w.heap.size < w5.heap.size ∧ wr.heap.size < w5.heap.size ∧ IntsB w5 w.heap.size A' n' ar := fun w5 hb5 => by
              obtain ⟨hbelB, hbfB, hbn, hzB⟩ := HW.out
              have hbf5 := hbfB.below hb5 (by omega)
              have hbn5 := hbn.below hb5 (by omega)
              exact ⟨hbelB.trans (hb5.mono (by omega)), hbf5, hbn5, hbf5.lt, hbn5.lt, (HAR.out.below stays_int ((Below.refl w.heap.size wr).alloc (Nat.le_of_lt hz) _) (Nat.le_refl _)).below stays_int (hb5.mono (by omega)) (Nat.le_refl _)⟩
            have MK := Lib.hid mk
            clear mk
            by_cases h8 : 8 < n'
            · have e2 : declCode xs ⟨nm, ar, so⟩ k = 9 := by rw [declCode, if_neg HQ.out.1, if_neg HQ.out.2, if_pos (by show 8 < ar.length; omega)]
              rw [e2, if_neg (by omega)] at e1
              simp only [Prod.mk.injEq] at e1
              obtain ⟨rfl, rfl⟩ := e1
              have h8I : (n' : Int) > 8 := by omega
              clear e2
              go_wp2_with (go_at_call 57; refine (HC1.out _).mono ?_; rintro e w' ⟨rfl, rfl⟩)
              refine HD.out.mono ?_
              rintro e w5 ⟨rfl, hb5⟩
              obtain ⟨hbel5, hbf5, hbn5, hz5, hzr5, hi5⟩ := MK.out w5 hb5
              have d0 : w5.cell? ⟨w.heap.size, 0, none⟩ = some (.int .i64 0) := hbf5.cell 0
              have d1 : w5.cell? ⟨w.heap.size, 1, none⟩ = some (.int .i64 0) := hbf5.cell 1
              have y0 : w5.frozen? ⟨w.heap.size, 0, none⟩ = false := hbf5.frozen 0
              have y1 : w5.frozen? ⟨w.heap.size, 1, none⟩ = false := hbf5.frozen 1
              have m0 : w5.cell? ⟨wr.heap.size, 0, none⟩ = some (.string nm) := hbn5.cell 0
              have m1 : w5.cell? ⟨wr.heap.size, 1, none⟩ = some (.slice A' n' c') := hbn5.cell 1
              have m2 : w5.cell? ⟨wr.heap.size, 2, none⟩ = some (.int .i64 so) := hbn5.cell 2
              have HI5 := Lib.hid hi5
              have HB := Lib.hid (And.intro hbel5 hbf5)
              have HN5 := Lib.hid hbn5
              clear hbel5 hbf5 hbn5 hb5 hi5
              go_wp2_with fail
              clear d0 d1 y0 y1
              have hz1 := two_blk HB.out.2 (.int .i64 9) (.int .i64 k)
              have hz2 : Below w.heap.size w (two w5 w.heap.size (.int .i64 9) (.int .i64 k)) := two_below HB.out.1 (Nat.le_refl _) (.int .i64 9) (.int .i64 k)
              have e4 : (w5.setCell ⟨w.heap.size, 0, none⟩ (.int .i64 9)).setCell ⟨w.heap.size, 1, none⟩ (.int .i64 k) = two w5 w.heap.size (.int .i64 9) (.int .i64 k) := rfl
              rw [e4]
              clear e4
              generalize two w5 w.heap.size (.int .i64 9) (.int .i64 k) = Z at hz1 hz2 ⊢
              have d0 := hz1.cell 0
              have d1 := hz1.cell 1
              simp only [List.getElem?_toArray, List.getElem?_cons_zero, List.getElem?_cons_succ] at d0 d1
              exact bodyPost_ret (v := .agg #[.int .i64 9, .int .i64 k]) (by simp [results, Try.results33, go_sem, d0, d1]) rfl ⟨rfl, hz2⟩
            · have h8I : ¬ ((n' : Int) > 8) := by omega
              have HE8 : Hid (∀ v, (if sortB so = false ∨ ar.any notThing = true ∨ (so = 5 ∧ 0 < ar.length) then (4 : Int) else 0) = v → declCode xs ⟨nm, ar, so⟩ k = v) := fun v hv => by rw [declCode, if_neg HQ.out.1, if_neg HQ.out.2, if_neg (by show ¬ 8 < ar.length; omega)]; exact hv
              have hbad : (sortB so = false ∨ ar.any notThing = true ∨ (so = 5 ∧ 0 < ar.length)) → (4 : Int) = qc ∧ (k : Int) = qa := fun h => by
                rw [HE8.out 4 (if_pos h), if_neg (by omega)] at e1
                simpa using e1
              have hgood : ¬ (sortB so = false ∨ ar.any notThing = true ∨ (so = 5 ∧ 0 < ar.length)) → firstBad (declCode xs) (xs.drop (k + 1)) ((k : Int) + 1) = (qc, qa) := fun h => by
                rw [HE8.out 0 (if_neg h), if_pos rfl] at e1
                exact e1
              cases hq3 : sortB so with
              | false =>
                obtain ⟨rfl, rfl⟩ := hbad (.inl hq3)
                have HSO := Lib.hid (fun W => isSort_is so false hq3 W)
                clear hbad hgood e1 hq3 HE8
                go_wp2_with (go_at_call 57; refine (HC1.out _).mono ?_; rintro e w' ⟨rfl, rfl⟩)
                refine HD.out.mono ?_
                rintro e w5 ⟨rfl, hb5⟩
                obtain ⟨hbel5, hbf5, hbn5, hz5, hzr5, hi5⟩ := MK.out w5 hb5
                have d0 : w5.cell? ⟨w.heap.size, 0, none⟩ = some (.int .i64 0) := hbf5.cell 0
                have d1 : w5.cell? ⟨w.heap.size, 1, none⟩ = some (.int .i64 0) := hbf5.cell 1
                have y0 : w5.frozen? ⟨w.heap.size, 0, none⟩ = false := hbf5.frozen 0
                have y1 : w5.frozen? ⟨w.heap.size, 1, none⟩ = false := hbf5.frozen 1
                have m0 : w5.cell? ⟨wr.heap.size, 0, none⟩ = some (.string nm) := hbn5.cell 0
                have m1 : w5.cell? ⟨wr.heap.size, 1, none⟩ = some (.slice A' n' c') := hbn5.cell 1
                have m2 : w5.cell? ⟨wr.heap.size, 2, none⟩ = some (.int .i64 so) := hbn5.cell 2
                have HI5 := Lib.hid hi5
                have HB := Lib.hid (And.intro hbel5 hbf5)
                have HN5 := Lib.hid hbn5
                clear hbel5 hbf5 hbn5 hb5 hi5
                go_wp2_with (go_at_call 60; refine (HSO.out _).mono ?_; rintro e w' ⟨rfl, rfl⟩)
                clear d0 d1 y0 y1
                have hz1 := two_blk HB.out.2 (.int .i64 4) (.int .i64 k)
                have hz2 : Below w.heap.size w (two w5 w.heap.size (.int .i64 4) (.int .i64 k)) := two_below HB.out.1 (Nat.le_refl _) (.int .i64 4) (.int .i64 k)
                have e4 : (w5.setCell ⟨w.heap.size, 0, none⟩ (.int .i64 4)).setCell ⟨w.heap.size, 1, none⟩ (.int .i64 k) = two w5 w.heap.size (.int .i64 4) (.int .i64 k) := rfl
                rw [e4]
                clear e4
                generalize two w5 w.heap.size (.int .i64 4) (.int .i64 k) = Z at hz1 hz2 ⊢
                have d0 := hz1.cell 0
                have d1 := hz1.cell 1
                simp only [List.getElem?_toArray, List.getElem?_cons_zero, List.getElem?_cons_succ] at d0 d1
                exact bodyPost_ret (v := .agg #[.int .i64 4, .int .i64 k]) (by simp [results, Try.results33, go_sem, d0, d1]) rfl ⟨rfl, hz2⟩
              | true =>
                have HSO := Lib.hid (fun W => isSort_is so true hq3 W)
                have HCI := Lib.hid (fun (W : World) R (hR : ar.any notThing = R) (h : IntsB W w.heap.size A' n' ar) (hz : w.heap.size ≤ W.heap.size) => containsInts_any 61 #[] eg2 notThing A' n' c' ar R W (h.keep stays_int (fun b hb => Nat.lt_of_lt_of_le hb hz) (fun _ _ _ => rfl)) (by omega) (decls2_pred ar W) hR)
                cases hq4 : ar.any notThing with
                | true =>
                  obtain ⟨rfl, rfl⟩ := hbad (.inr (.inl hq4))
                  clear hbad hgood e1 hq3 HE8
                  go_wp2_with (go_at_call 57; refine (HC1.out _).mono ?_; rintro e w' ⟨rfl, rfl⟩)
                  refine HD.out.mono ?_
                  rintro e w5 ⟨rfl, hb5⟩
                  obtain ⟨hbel5, hbf5, hbn5, hz5, hzr5, hi5⟩ := MK.out w5 hb5
                  have d0 : w5.cell? ⟨w.heap.size, 0, none⟩ = some (.int .i64 0) := hbf5.cell 0
                  have d1 : w5.cell? ⟨w.heap.size, 1, none⟩ = some (.int .i64 0) := hbf5.cell 1
                  have y0 : w5.frozen? ⟨w.heap.size, 0, none⟩ = false := hbf5.frozen 0
                  have y1 : w5.frozen? ⟨w.heap.size, 1, none⟩ = false := hbf5.frozen 1
                  have m0 : w5.cell? ⟨wr.heap.size, 0, none⟩ = some (.string nm) := hbn5.cell 0
                  have m1 : w5.cell? ⟨wr.heap.size, 1, none⟩ = some (.slice A' n' c') := hbn5.cell 1
                  have m2 : w5.cell? ⟨wr.heap.size, 2, none⟩ = some (.int .i64 so) := hbn5.cell 2
                  have HI5 := Lib.hid hi5
                  have HB := Lib.hid (And.intro hbel5 hbf5)
                  have HN5 := Lib.hid hbn5
                  clear hbel5 hbf5 hbn5 hb5 hi5
                  go_wp2_with (go_at_call 60; refine (HSO.out _).mono ?_; rintro e w' ⟨rfl, rfl⟩)
                  refine (HCI.out _ _ hq4 HI5.out (Nat.le_of_lt hz5)).mono ?_
                  rintro e w6 ⟨rfl, hb6⟩
                  have hbf6 := HB.out.2.below hb6 hz5
                  have hbel6 := HB.out.1.trans (hb6.mono (Nat.le_of_lt hz5))
                  have hbn6 := HN5.out.below hb6 hzr5
                  have hz6 : w.heap.size < w6.heap.size := hbf6.lt
                  have hzr6 : wr.heap.size < w6.heap.size := hbn6.lt
                  clear d0 d1 y0 y1 m0 m1 m2
                  have d0 : w6.cell? ⟨w.heap.size, 0, none⟩ = some (.int .i64 0) := hbf6.cell 0
                  have d1 : w6.cell? ⟨w.heap.size, 1, none⟩ = some (.int .i64 0) := hbf6.cell 1
                  have y0 : w6.frozen? ⟨w.heap.size, 0, none⟩ = false := hbf6.frozen 0
                  have y1 : w6.frozen? ⟨w.heap.size, 1, none⟩ = false := hbf6.frozen 1
                  have m1 : w6.cell? ⟨wr.heap.size, 1, none⟩ = some (.slice A' n' c') := hbn6.cell 1
                  have m2 : w6.cell? ⟨wr.heap.size, 2, none⟩ = some (.int .i64 so) := hbn6.cell 2
                  have HB6 := Lib.hid (And.intro hbel6 hbf6)
                  clear hbf6 hbel6 hbn6 hb6
                  go_wp2_with fail
                  clear d0 d1 y0 y1
                  have hz1 := two_blk HB6.out.2 (.int .i64 4) (.int .i64 k)
                  have hz2 : Below w.heap.size w (two w6 w.heap.size (.int .i64 4) (.int .i64 k)) := two_below HB6.out.1 (Nat.le_refl _) (.int .i64 4) (.int .i64 k)
                  have e4 : (w6.setCell ⟨w.heap.size, 0, none⟩ (.int .i64 4)).setCell ⟨w.heap.size, 1, none⟩ (.int .i64 k) = two w6 w.heap.size (.int .i64 4) (.int .i64 k) := rfl
                  rw [e4]
                  clear e4
                  generalize two w6 w.heap.size (.int .i64 4) (.int .i64 k) = Z at hz1 hz2 ⊢
                  have d0 := hz1.cell 0
                  have d1 := hz1.cell 1
                  simp only [List.getElem?_toArray, List.getElem?_cons_zero, List.getElem?_cons_succ] at d0 d1
                  exact bodyPost_ret (v := .agg #[.int .i64 4, .int .i64 k]) (by simp [results, Try.results33, go_sem, d0, d1]) rfl ⟨rfl, hz2⟩
                | false =>
                  by_cases h5 : so = 5 ∧ 0 < ar.length
                  · obtain ⟨rfl, rfl⟩ := hbad (.inr (.inr h5))
                    have q5 : (so == 5) = true := by simpa using h5.1
                    have h5I : (n' : Int) > 0 := by have := h5.2; omega
                    clear hbad hgood e1 hq3 HE8 h5
                    go_wp2_with (go_at_call 57; refine (HC1.out _).mono ?_; rintro e w' ⟨rfl, rfl⟩)
                    refine HD.out.mono ?_
                    rintro e w5 ⟨rfl, hb5⟩
                    obtain ⟨hbel5, hbf5, hbn5, hz5, hzr5, hi5⟩ := MK.out w5 hb5
                    have d0 : w5.cell? ⟨w.heap.size, 0, none⟩ = some (.int .i64 0) := hbf5.cell 0
                    have d1 : w5.cell? ⟨w.heap.size, 1, none⟩ = some (.int .i64 0) := hbf5.cell 1
                    have y0 : w5.frozen? ⟨w.heap.size, 0, none⟩ = false := hbf5.frozen 0
                    have y1 : w5.frozen? ⟨w.heap.size, 1, none⟩ = false := hbf5.frozen 1
                    have m0 : w5.cell? ⟨wr.heap.size, 0, none⟩ = some (.string nm) := hbn5.cell 0
                    have m1 : w5.cell? ⟨wr.heap.size, 1, none⟩ = some (.slice A' n' c') := hbn5.cell 1
                    have m2 : w5.cell? ⟨wr.heap.size, 2, none⟩ = some (.int .i64 so) := hbn5.cell 2
                    have HI5 := Lib.hid hi5
                    have HB := Lib.hid (And.intro hbel5 hbf5)
                    have HN5 := Lib.hid hbn5
                    clear hbel5 hbf5 hbn5 hb5 hi5
                    go_wp2_with (go_at_call 60; refine (HSO.out _).mono ?_; rintro e w' ⟨rfl, rfl⟩)
                    refine (HCI.out _ _ hq4 HI5.out (Nat.le_of_lt hz5)).mono ?_
                    rintro e w6 ⟨rfl, hb6⟩
                    have hbf6 := HB.out.2.below hb6 hz5
                    have hbel6 := HB.out.1.trans (hb6.mono (Nat.le_of_lt hz5))
                    have hbn6 := HN5.out.below hb6 hzr5
                    have hz6 : w.heap.size < w6.heap.size := hbf6.lt
                    have hzr6 : wr.heap.size < w6.heap.size := hbn6.lt
                    clear d0 d1 y0 y1 m0 m1 m2
                    have d0 : w6.cell? ⟨w.heap.size, 0, none⟩ = some (.int .i64 0) := hbf6.cell 0
                    have d1 : w6.cell? ⟨w.heap.size, 1, none⟩ = some (.int .i64 0) := hbf6.cell 1
                    have y0 : w6.frozen? ⟨w.heap.size, 0, none⟩ = false := hbf6.frozen 0
                    have y1 : w6.frozen? ⟨w.heap.size, 1, none⟩ = false := hbf6.frozen 1
                    have m1 : w6.cell? ⟨wr.heap.size, 1, none⟩ = some (.slice A' n' c') := hbn6.cell 1
                    have m2 : w6.cell? ⟨wr.heap.size, 2, none⟩ = some (.int .i64 so) := hbn6.cell 2
                    have HB6 := Lib.hid (And.intro hbel6 hbf6)
                    clear hbf6 hbel6 hbn6 hb6
                    go_wp2_with fail
                    clear d0 d1 y0 y1
                    have hz1 := two_blk HB6.out.2 (.int .i64 4) (.int .i64 k)
                    have hz2 : Below w.heap.size w (two w6 w.heap.size (.int .i64 4) (.int .i64 k)) := two_below HB6.out.1 (Nat.le_refl _) (.int .i64 4) (.int .i64 k)
                    have e4 : (w6.setCell ⟨w.heap.size, 0, none⟩ (.int .i64 4)).setCell ⟨w.heap.size, 1, none⟩ (.int .i64 k) = two w6 w.heap.size (.int .i64 4) (.int .i64 k) := rfl
                    rw [e4]
                    clear e4
                    generalize two w6 w.heap.size (.int .i64 4) (.int .i64 k) = Z at hz1 hz2 ⊢
                    have d0 := hz1.cell 0
                    have d1 := hz1.cell 1
                    simp only [List.getElem?_toArray, List.getElem?_cons_zero, List.getElem?_cons_succ] at d0 d1
                    exact bodyPost_ret (v := .agg #[.int .i64 4, .int .i64 k]) (by simp [results, Try.results33, go_sem, d0, d1]) rfl ⟨rfl, hz2⟩
                  · have HG := Lib.hid (hgood (by simp only [hq3, hq4]; simpa using h5))
                    have h5c : ((so == 5) = false) ∨ ((so == 5) = true ∧ ¬ ((n' : Int) > 0)) := by
                      by_cases hs : so = 5
                      · exact .inr ⟨by simpa using hs, by omega⟩
                      · exact .inl (by simpa using hs)
                    clear hbad hgood e1 hq3 HE8 h5
                    rcases h5c with q5 | ⟨q5, hn0⟩
                    all_goals
                      go_wp2_with (go_at_call 57; refine (HC1.out _).mono ?_; rintro e w' ⟨rfl, rfl⟩)
                      refine HD.out.mono ?_
                      rintro e w5 ⟨rfl, hb5⟩
                      obtain ⟨hbel5, hbf5, hbn5, hz5, hzr5, hi5⟩ := MK.out w5 hb5
                      have d0 : w5.cell? ⟨w.heap.size, 0, none⟩ = some (.int .i64 0) := hbf5.cell 0
                      have d1 : w5.cell? ⟨w.heap.size, 1, none⟩ = some (.int .i64 0) := hbf5.cell 1
                      have y0 : w5.frozen? ⟨w.heap.size, 0, none⟩ = false := hbf5.frozen 0
                      have y1 : w5.frozen? ⟨w.heap.size, 1, none⟩ = false := hbf5.frozen 1
                      have m0 : w5.cell? ⟨wr.heap.size, 0, none⟩ = some (.string nm) := hbn5.cell 0
                      have m1 : w5.cell? ⟨wr.heap.size, 1, none⟩ = some (.slice A' n' c') := hbn5.cell 1
                      have m2 : w5.cell? ⟨wr.heap.size, 2, none⟩ = some (.int .i64 so) := hbn5.cell 2
                      have HI5 := Lib.hid hi5
                      have HB := Lib.hid (And.intro hbel5 hbf5)
                      have HN5 := Lib.hid hbn5
                      clear hbel5 hbf5 hbn5 hb5 hi5
                      go_wp2_with (go_at_call 60; refine (HSO.out _).mono ?_; rintro e w' ⟨rfl, rfl⟩)
                      refine (HCI.out _ _ hq4 HI5.out (Nat.le_of_lt hz5)).mono ?_
                      rintro e w6 ⟨rfl, hb6⟩
                      have hbf6 := HB.out.2.below hb6 hz5
                      have hbel6 := HB.out.1.trans (hb6.mono (Nat.le_of_lt hz5))
                      have hbn6 := HN5.out.below hb6 hzr5
                      have hz6 : w.heap.size < w6.heap.size := hbf6.lt
                      have hzr6 : wr.heap.size < w6.heap.size := hbn6.lt
                      clear d0 d1 y0 y1 m0 m1 m2
                      have d0 : w6.cell? ⟨w.heap.size, 0, none⟩ = some (.int .i64 0) := hbf6.cell 0
                      have d1 : w6.cell? ⟨w.heap.size, 1, none⟩ = some (.int .i64 0) := hbf6.cell 1
                      have y0 : w6.frozen? ⟨w.heap.size, 0, none⟩ = false := hbf6.frozen 0
                      have y1 : w6.frozen? ⟨w.heap.size, 1, none⟩ = false := hbf6.frozen 1
                      have m1 : w6.cell? ⟨wr.heap.size, 1, none⟩ = some (.slice A' n' c') := hbn6.cell 1
                      have m2 : w6.cell? ⟨wr.heap.size, 2, none⟩ = some (.int .i64 so) := hbn6.cell 2
                      have HB6 := Lib.hid (And.intro hbel6 hbf6)
                      clear hbf6 hbel6 hbn6 hb6
                      go_wp2_with fail
                      go_roundw
                      case rel => exact ⟨k + 1, by omega, by go_num, by show _ = _; rw [Int.natCast_add]; exact HG.out, HB6.out.1, HB6.out.2⟩
                      case measure => simp [intOf]; omega
      · obtain rfl : n = k := by omega
        have e1 := HK.out
        rw [List.drop_of_length_le (by have := HL.out; omega), firstBad] at e1
        simp only [Prod.mk.injEq] at e1
        obtain ⟨rfl, rfl⟩ := e1
        have d0 : wr.cell? ⟨w.heap.size, 0, none⟩ = some (.int .i64 0) := hbf.cell 0
        have d1 : wr.cell? ⟨w.heap.size, 1, none⟩ = some (.int .i64 0) := hbf.cell 1
        have y0 : wr.frozen? ⟨w.heap.size, 0, none⟩ = false := hbf.frozen 0
        have y1 : wr.frozen? ⟨w.heap.size, 1, none⟩ = false := hbf.frozen 1
        clear HK HR HXS
        go_wp2_with fail
        refine bodyPost_ret (v := .agg #[.int .i64 0, .int .i64 0]) (by simp [results, Try.results33, go_sem, d0, d1]) rfl ⟨rfl, ?_⟩
        exact (hbel.setCell (p := ⟨w.heap.size, 0, none⟩) (by simp) _).setCell (p := ⟨w.heap.size, 1, none⟩) (by simp) _
end Go.Proofs.Ythooecojopfjbaa
namespace Go.Proofs.Ythooecojopfjbaa
open Go.RowKit

theorem idx_lt {α : Type} {p : α → Bool} : ∀ {l : List α} {k : Nat} {x : α} {i : Int}, l[k]? = some x → p x = true → (decide (idx p l i < i + k) = (l.take k).any p) ∧ i ≤ idx p l i
  | [], _, _, _, h, _ => by simp at h
  | y :: r, 0, x, i, h, hp => by
    simp only [List.getElem?_cons_zero, Option.some.injEq] at h
    subst h
    simp [idx, hp]
  | y :: r, k + 1, x, i, h, hp => by
    have ih := idx_lt (l := r) (k := k) (i := i + 1) (by simpa using h) hp
    rw [idx]
    cases hy : p y with
    | true => simp [hy]; omega
    | false =>
      simp only [Bool.false_eq_true, if_false, List.take_succ_cons, List.any_cons, hy, Bool.false_or]
      refine ⟨?_, by omega⟩
      rw [← ih.1, show i + ((k + 1 : Nat) : Int) = i + 1 + (k : Int) from by omega]
theorem wbits_zero {s : Int} : wbits s = 0 ↔ wordB s = false := by
  unfold wbits wordB
  by_cases h : 10 < s ∧ s ≤ 18
  · simp [h]; omega
  · simp [h]
theorem goodName_is (s : ByteArray) (b : Bool) (h : nameB s = b) (hs : s.size ≤ 9223372036854775807) (w : World) : Calls Try.prog 67 #[.string s] w fun e w' => e = .returned (.bool b) ∧ w = w' := by
  subst h; exact goodName_any s w hs
theorem wordBits_is (n : Int) (b : Int) (h : wbits n = b) (w : World) : Calls Try.prog 27 #[.int .i64 n] w fun e w' => e = .returned (.int .i64 b) ∧ w = w' := by
  subst h; exact wordBits_any n w

set_option maxRecDepth 100000 in
set_option maxHeartbeats 4000000 in
theorem declFault_any (A : Option Addr) (n c : Nat) (xs : List DeclD) (k : Nat) (hk : k < n) (R : Int) (w : World) (hxs : ArrB AtDecl 3 w w.heap.size A n xs) (hn : n ≤ 9223372036854775807) (hR : ∀ d, xs[k]? = some d → declCode xs d k = R) :
    Calls Try.prog 35 #[.slice A n c, .int .i64 k] w fun e w' => e = .returned (.int .i64 R) ∧ Below w.heap.size w w' := by
  obtain ⟨b, off, hx, A', n', c', rfl, hb, h0, h1, h2, hnc', hcm', har, hso, hnm⟩ := decls_get hxs hk
  have hR1 := hR _ (List.getElem?_eq_getElem hx)
  have hget := List.getElem?_eq_getElem hx
  generalize xs[k] = d at hR1 hget h0 h2 har hso hnm
  obtain ⟨nm, ar, so⟩ := d
  simp only at h0 h2 har hso hnm
  have hal := har.len
  unfold maxLen at hnm hcm'
  have hi := idx_lt (p := nameIs nm) (i := 0) hget (by simp [nameIs])
  have hix : decide (idx (nameIs nm) xs 0 < (k : Int)) = (xs.take k).any (nameIs nm) := by simpa using hi.1
  have hi0 := hi.2
  have hbel : Below w.heap.size w (w.alloc (.cells #[.string nm, .slice A' n' c', .int .i64 so] 61)) := (Below.refl _ _).alloc (Nat.le_refl _) _
  have HB := Lib.hid hbel
  have hxk := hxs.below stays_decl hbel (Nat.le_refl w.heap.size)
  have HD0 := Lib.hid (fun r (hr : idx (nameIs nm) xs 0 = r) => declOf_any (some ⟨b, off, none⟩) n c nm xs r (w.alloc (.cells #[.string nm, .slice A' n' c', .int .i64 so] 61)) _ hxk hn hr)
  have harB := har.below stays_int hbel (Nat.le_refl w.heap.size)
  have HAR := Lib.hid harB
  have hki : (k : Int) < (n : Int) := by omega
  have hz : w.heap.size < (w.alloc (.cells #[.string nm, .slice A' n' c', .int .i64 so] 61)).heap.size := by simp
  have hcode : declCode xs ⟨nm, ar, so⟩ k = if nameB nm = false then 12 else if decide (idx (nameIs nm) xs 0 < (k : Int)) = true then 7 else if 8 < ar.length then 9 else if sortB so = false ∨ ar.any notThing = true ∨ (so = 5 ∧ 0 < ar.length) then 4 else 0 := by
    rw [declCode, hix]; rfl
  rw [hR1] at hcode
  generalize idx (nameIs nm) xs 0 = ix at hcode HD0 hi0
  have HD := Lib.hid (HD0.out _ rfl)
  clear hR hR1 hget hi hix hxs hxk hbel har harB hx hb HD0
  cases hq1 : nameB nm with
  | false =>
    have HR : Hid ((12 : Int) = R) := by show _ = _; rw [hcode, if_pos hq1]
    have HC1 := Lib.hid (fun W => goodName_is nm false hq1 hnm W)
    clear hcode hq1
    go_enter Try.func35, Try.ntmps35
    go_wp2_with (first | (go_at_call 67; refine (HC1.out _).mono ?_; rintro e w' ⟨rfl, rfl⟩) | (go_at_call 36; refine HD.out.mono ?_; rintro e w' ⟨rfl, rfl⟩) | (go_at_call 27; refine (HWB.out _).mono ?_; rintro e w' ⟨rfl, rfl⟩))
    go_ret
    exact ⟨ret_int HR.out, HB.out⟩
  | true =>
    rw [if_neg (by simp [hq1])] at hcode
    have HC1 := Lib.hid (fun W => goodName_is nm true hq1 hnm W)
    clear hq1
    by_cases hlt : ix < (k : Int)
    · have HR : Hid ((7 : Int) = R) := by show _ = _; rw [hcode, if_pos (by simpa using hlt)]
      clear hcode
      go_enter Try.func35, Try.ntmps35
      go_wp2_with (first | (go_at_call 67; refine (HC1.out _).mono ?_; rintro e w' ⟨rfl, rfl⟩) | (go_at_call 36; refine HD.out.mono ?_; rintro e w' ⟨rfl, rfl⟩) | (go_at_call 27; refine (HWB.out _).mono ?_; rintro e w' ⟨rfl, rfl⟩))
      go_ret
      exact ⟨ret_int HR.out, HB.out⟩
    rw [if_neg (by simpa using hlt)] at hcode
    by_cases h8 : 8 < n'
    · have HR : Hid ((9 : Int) = R) := by show _ = _; rw [hcode, if_pos (by omega)]
      have h8I : (n' : Int) > 8 := by omega
      clear hcode
      go_enter Try.func35, Try.ntmps35
      go_wp2_with (first | (go_at_call 67; refine (HC1.out _).mono ?_; rintro e w' ⟨rfl, rfl⟩) | (go_at_call 36; refine HD.out.mono ?_; rintro e w' ⟨rfl, rfl⟩) | (go_at_call 27; refine (HWB.out _).mono ?_; rintro e w' ⟨rfl, rfl⟩))
      go_ret
      exact ⟨ret_int HR.out, HB.out⟩
    rw [if_neg (by omega)] at hcode
    have h8I : ¬ ((n' : Int) > 8) := by omega
    have hbad : (sortB so = false ∨ ar.any notThing = true ∨ (so = 5 ∧ 0 < ar.length)) → (4 : Int) = R := fun h => by rw [hcode, if_pos h]
    have hgood : ¬ (sortB so = false ∨ ar.any notThing = true ∨ (so = 5 ∧ 0 < ar.length)) → (0 : Int) = R := fun h => by rw [hcode, if_neg h]
    clear hcode
    cases hq3 : sortB so with
    | false =>
      have HR := Lib.hid (hbad (.inl hq3))
      have hs : so < 1 ∨ (1 ≤ so ∧ 5 < so) := by simp [sortB] at hq3; omega
      have hw0 : wordB so = false := by simp [sortB] at hq3; simp [wordB]; omega
      have HWB := Lib.hid (fun W => wordBits_is so 0 (wbits_zero.2 hw0) W)
      clear hbad hgood hq3 hw0
      rcases hs with hs | ⟨hs, hs2⟩
      all_goals
        go_enter Try.func35, Try.ntmps35
        go_wp2_with (first | (go_at_call 67; refine (HC1.out _).mono ?_; rintro e w' ⟨rfl, rfl⟩) | (go_at_call 36; refine HD.out.mono ?_; rintro e w' ⟨rfl, rfl⟩) | (go_at_call 27; refine (HWB.out _).mono ?_; rintro e w' ⟨rfl, rfl⟩))
        go_ret
        exact ⟨ret_int HR.out, HB.out⟩
    | true =>
      by_cases h5 : so = 5 ∧ 0 < n'
      · have HR := Lib.hid (hbad (.inr (.inr ⟨h5.1, by omega⟩)))
        have q5 : (so == 5) = true := by simpa using h5.1
        have hs1 : 1 ≤ so := by omega
        have hs2 : so ≤ 5 := by omega
        have hn1 : (n' : Int) > 0 := by omega
        have HWB := Lib.hid (fun W => wordBits_is so 0 (wbits_zero.2 (by simp [wordB]; omega)) W)
        clear hbad hgood hq3 h5
        go_enter Try.func35, Try.ntmps35
        go_wp2_with (first | (go_at_call 67; refine (HC1.out _).mono ?_; rintro e w' ⟨rfl, rfl⟩) | (go_at_call 36; refine HD.out.mono ?_; rintro e w' ⟨rfl, rfl⟩) | (go_at_call 27; refine (HWB.out _).mono ?_; rintro e w' ⟨rfl, rfl⟩))
        go_ret
        exact ⟨ret_int HR.out, HB.out⟩
      · have HR4 : Hid (ar.any notThing = true → (4 : Int) = R) := fun h => hbad (.inr (.inl h))
        have HR0 : Hid (ar.any notThing = false → (0 : Int) = R) := fun h => hgood (fun hh => hh.elim (fun a => by rw [hq3] at a; cases a) (fun hh => hh.elim (fun a => by rw [h] at a; cases a) (fun a => h5 ⟨a.1, by omega⟩)))
        have hq : (∃ v, wbits so = v ∧ (v == 0) = false ∧ (so == 5) = false) ∨ (wbits so = 0 ∧ 1 ≤ so ∧ so ≤ 5 ∧ (so == 5) = false) ∨ (wbits so = 0 ∧ 1 ≤ so ∧ so ≤ 5 ∧ (so == 5) = true ∧ ¬ ((n' : Int) > 0)) := by
          simp only [sortB, decide_eq_true_eq] at hq3
          rcases hq3 with hq3 | hq3
          · have hw : wbits so = 0 := wbits_zero.2 (by simp [wordB]; omega)
            by_cases hs : so = 5
            · exact .inr (.inr ⟨hw, hq3.1, hq3.2, by simpa using hs, by omega⟩)
            · exact .inr (.inl ⟨hw, hq3.1, hq3.2, by simpa using hs⟩)
          · exact .inl ⟨_, rfl, by rw [wbits, if_pos (by simp [wordB, hq3]), beq_eq_false_iff_ne]; omega, by rw [beq_eq_false_iff_ne]; omega⟩
        clear hbad hgood hq3 h5
        rcases hq with ⟨v, hv, hv0, q5⟩ | ⟨hv, hs1, hs2, q5⟩ | ⟨hv, hs1, hs2, q5, hn1⟩
        ·
          have HWB := Lib.hid (fun W => wordBits_is so _ hv W)
          clear hv
          go_enter Try.func35, Try.ntmps35
          go_wp2_with (first | (go_at_call 67; refine (HC1.out _).mono ?_; rintro e w' ⟨rfl, rfl⟩) | (go_at_call 36; refine HD.out.mono ?_; rintro e w' ⟨rfl, rfl⟩) | (go_at_call 27; refine (HWB.out _).mono ?_; rintro e w' ⟨rfl, rfl⟩))
          have m1 : (w.alloc (.cells #[.string nm, .slice A' n' c', .int .i64 so] 61)).cell? ⟨w.heap.size, 1, none⟩ = some (.slice A' n' c') := (Blk.new w 61 #[.string nm, .slice A' n' c', .int .i64 so]).cell 1
          clear HD HWB HC1
          generalize w.alloc (.cells #[.string nm, .slice A' n' c', .int .i64 so] 61) = W at HAR HB m1 hz ⊢
          go_loop [6] (fun i => ∃ j : Nat, j ≤ n' ∧ i = .int .i64 j ∧ Hid ((ar.drop j).any notThing = ar.any notThing)) (fun i => n' - (intOf i).toNat)
          case atStart => exact ⟨0, Nat.zero_le _, rfl, rfl⟩
          case round =>
            obtain ⟨j, hj, rfl, HK⟩ := hrel
            by_cases hjn : j < n'
            · obtain ⟨b3, off3, hx3, rfl, hb3, hc3, -, -⟩ := ints_get HAR.out hjn
              have e1 := HK.out
              rw [drop_cons hx3, List.any_cons] at e1
              generalize ar[j] = y at e1 hc3
              have hjI : (j : Int) < (n' : Int) := by omega
              cases hy : notThing y with
              | true =>
                rw [hy, Bool.true_or] at e1
                have HR := Lib.hid (HR4.out e1.symm)
                have hy2 : (y != 4) = true := hy
                clear e1 hy HK hx3 hb3
                go_wp2_with fail
                go_ret
                exact ⟨ret_int HR.out, HB.out⟩
              | false =>
                rw [hy, Bool.false_or] at e1
                have H1 := Lib.hid e1
                have hy2 : (y != 4) = false := hy
                clear e1 hy HK hx3 hb3
                go_wp2_with fail
                go_round
                case rel => exact ⟨j + 1, by omega, by go_num, H1⟩
                case measure => simp [intOf]; omega
            · obtain rfl : n' = j := by omega
              have e1 := HK.out
              rw [List.drop_of_length_le (by omega), List.any_nil] at e1
              have HR := Lib.hid (HR0.out e1.symm)
              clear e1 HK
              go_wp2_with fail
              go_ret
              exact ⟨ret_int HR.out, HB.out⟩
        ·
          have HWB := Lib.hid (fun W => wordBits_is so _ hv W)
          clear hv
          go_enter Try.func35, Try.ntmps35
          go_wp2_with (first | (go_at_call 67; refine (HC1.out _).mono ?_; rintro e w' ⟨rfl, rfl⟩) | (go_at_call 36; refine HD.out.mono ?_; rintro e w' ⟨rfl, rfl⟩) | (go_at_call 27; refine (HWB.out _).mono ?_; rintro e w' ⟨rfl, rfl⟩))
          have m1 : (w.alloc (.cells #[.string nm, .slice A' n' c', .int .i64 so] 61)).cell? ⟨w.heap.size, 1, none⟩ = some (.slice A' n' c') := (Blk.new w 61 #[.string nm, .slice A' n' c', .int .i64 so]).cell 1
          clear HD HWB HC1
          generalize w.alloc (.cells #[.string nm, .slice A' n' c', .int .i64 so] 61) = W at HAR HB m1 hz ⊢
          go_loop [6] (fun i => ∃ j : Nat, j ≤ n' ∧ i = .int .i64 j ∧ Hid ((ar.drop j).any notThing = ar.any notThing)) (fun i => n' - (intOf i).toNat)
          case atStart => exact ⟨0, Nat.zero_le _, rfl, rfl⟩
          case round =>
            obtain ⟨j, hj, rfl, HK⟩ := hrel
            by_cases hjn : j < n'
            · obtain ⟨b3, off3, hx3, rfl, hb3, hc3, -, -⟩ := ints_get HAR.out hjn
              have e1 := HK.out
              rw [drop_cons hx3, List.any_cons] at e1
              generalize ar[j] = y at e1 hc3
              have hjI : (j : Int) < (n' : Int) := by omega
              cases hy : notThing y with
              | true =>
                rw [hy, Bool.true_or] at e1
                have HR := Lib.hid (HR4.out e1.symm)
                have hy2 : (y != 4) = true := hy
                clear e1 hy HK hx3 hb3
                go_wp2_with fail
                go_ret
                exact ⟨ret_int HR.out, HB.out⟩
              | false =>
                rw [hy, Bool.false_or] at e1
                have H1 := Lib.hid e1
                have hy2 : (y != 4) = false := hy
                clear e1 hy HK hx3 hb3
                go_wp2_with fail
                go_round
                case rel => exact ⟨j + 1, by omega, by go_num, H1⟩
                case measure => simp [intOf]; omega
            · obtain rfl : n' = j := by omega
              have e1 := HK.out
              rw [List.drop_of_length_le (by omega), List.any_nil] at e1
              have HR := Lib.hid (HR0.out e1.symm)
              clear e1 HK
              go_wp2_with fail
              go_ret
              exact ⟨ret_int HR.out, HB.out⟩
        ·
          have HWB := Lib.hid (fun W => wordBits_is so _ hv W)
          clear hv
          go_enter Try.func35, Try.ntmps35
          go_wp2_with (first | (go_at_call 67; refine (HC1.out _).mono ?_; rintro e w' ⟨rfl, rfl⟩) | (go_at_call 36; refine HD.out.mono ?_; rintro e w' ⟨rfl, rfl⟩) | (go_at_call 27; refine (HWB.out _).mono ?_; rintro e w' ⟨rfl, rfl⟩))
          have m1 : (w.alloc (.cells #[.string nm, .slice A' n' c', .int .i64 so] 61)).cell? ⟨w.heap.size, 1, none⟩ = some (.slice A' n' c') := (Blk.new w 61 #[.string nm, .slice A' n' c', .int .i64 so]).cell 1
          clear HD HWB HC1
          generalize w.alloc (.cells #[.string nm, .slice A' n' c', .int .i64 so] 61) = W at HAR HB m1 hz ⊢
          go_loop [6] (fun i => ∃ j : Nat, j ≤ n' ∧ i = .int .i64 j ∧ Hid ((ar.drop j).any notThing = ar.any notThing)) (fun i => n' - (intOf i).toNat)
          case atStart => exact ⟨0, Nat.zero_le _, rfl, rfl⟩
          case round =>
            obtain ⟨j, hj, rfl, HK⟩ := hrel
            obtain rfl : n' = j := by omega
            have e1 := HK.out
            rw [List.drop_of_length_le (by omega), List.any_nil] at e1
            have HR := Lib.hid (HR0.out e1.symm)
            clear e1 HK
            go_wp2_with fail
            go_ret
            exact ⟨ret_int HR.out, HB.out⟩
end Go.Proofs.Ythooecojopfjbaa
