/- Walk: a clause that is made of a raw number. -/
import Derived.Test.YtfkciiiopbanaaaFrF
import Derived.Test.YtfkciiiopbanaaaKitA0
import Derived.Test.YtfkciiiopbanaaaOuOC
import Derived.Test.YtfkciiiopbanaaaClone
import Derived.BigQuiet
import Derived.BigRegion
namespace Go.Proofs.Ytfkciiiopbanaaa
open Go.RowKit

abbrev OwnC (w : World) (B : Nat) (v : Value) (c : List Int) : Prop := OwnV VInt 3 1 w B (fun _ => False) v c
def ClauseP (vars : Int) (w : World) (e : Ending) (w' : World) : Prop := ∃ (v : Value) (c : List Int), e = .returned v ∧ OwnC w' w.heap.size v c ∧ Lits vars c ∧ Below w.heap.size w w'
theorem OwnC.cell {w : World} {B g n c : Nat} {l : List Int} (h : OwnC w B (.slice (some ⟨g, 0, none⟩) n c) l) {i : Nat} {y : Int} (hy : l[i]? = some y) : w.cell? ⟨g, i, none⟩ = some (.int .i64 y) := by
  obtain ⟨u, h1, h2⟩ := OwnV.elem tells_int h hy
  rw [h1, (List.cons.inj h2.1).1]
theorem OwnC.later {w w' : World} {B : Nat} {v : Value} {c : List Int} (h : OwnC w B v c) (hb : w.grownBy w' none) : OwnC w' B v c := h.kept tells_int hb (by cases v.ownBlock <;> simp) (fun _ hb => False.elim hb)

set_option maxHeartbeats 400000 in
theorem kvar_any (x : Int) (w : World) (h0 : -9223372036854775807 ≤ x) (h1 : x ≤ 9223372036854775807) : Calls Try.prog 23 #[.int .i64 x] w fun e w' => e = .returned (.int .i64 (absI x)) ∧ w = w' := by
  by_cases h : x < 0
  · go_enter Try.func23, Try.ntmps23
    go_wp2_with fail
    go_ret
    exact ⟨ret_int (by unfold absI; split <;> omega), rfl⟩
  · go_enter Try.func23, Try.ntmps23
    go_wp2_with fail
    go_ret
    exact ⟨ret_int (by unfold absI; split <;> omega), rfl⟩

set_option maxRecDepth 100000 in
set_option maxHeartbeats 4000000 in
theorem clauseOf_any (x vars : Int) (w : World) (hx : I64 x) (h1 : 1 ≤ vars) (h2 : vars ≤ 9223372036854775807) :
    Calls Try.prog 11 #[.int .i64 x, .int .i64 vars] w (ClauseP vars w) := by
  have HX := Lib.hid hx
  clear hx
  have hv0 : (vars == 0) = false := by rw [beq_eq_false_iff_ne]; omega
  have hv1 : (vars == -1) = false := by rw [beq_eq_false_iff_ne]; omega
  go_enter Try.func11, Try.ntmps11
  go_wp2_with fail
  go_loopw [0, 5, 6] (fun s0 s5 s6 wr => ∃ (y : Int) (k : Nat) (c : List Int), s0 = .int .i64 y ∧ s6 = .int .i64 (k : Int) ∧ k ≤ 3 ∧ Hid (I64 y) ∧ Hid (c.length ≤ k ∧ Lits vars c ∧ OwnC wr w.heap.size s5 c ∧ Below w.heap.size w wr)) (fun _ _ s6 _ => 3 - (intOf s6).toNat)
  case atStart => exact ⟨x, 0, [], rfl, rfl, by omega, HX, Nat.le_refl _, Lits.nil, OwnV.none_ _ _ _ _ _ _, Below.refl _ _⟩
  case round =>
    clear HX
    obtain ⟨y, k, c, rfl, rfl, hk, HY, HC⟩ := hrel
    obtain ⟨wo, rfl⟩ : ∃ wo : World, wo = wr := ⟨_, rfl⟩
    obtain ⟨A5, c5, rfl, hc5, hc5m⟩ := HC.out.2.2.1.len
    have HM := Lib.hid hc5m
    unfold maxLen at hc5m
    go_wp2_with fail
    refine (picked_in y 3 _ HY.out (by omega) (by omega)).mono ?_
    rintro e w9 ⟨r, rfl, rfl, r0, r1⟩
    by_cases hkr : (k : Int) ≤ r
    · go_wp2_with fail
      refine (picked_in (wrap64 (y.tdiv 3)) vars _ (wrap_i64 _) h1 (by omega)).mono ?_
      rintro e w9 ⟨q, rfl, rfl, q0, q1⟩
      have hcl : c.length ≤ 2 := by have := HC.out.1; omega
      go_wp2_with fail
      go_loopw [8, 9] (fun s8 s9 w' => ∃ (j : Nat) (b : Bool), s8 = .bool b ∧ s9 = .int .i64 (j : Int) ∧ j ≤ c.length ∧ w' = wo ∧ Hid (b = false → ∀ (i : Nat) (z : Int), i < j → c[i]? = some z → ¬ 1 + q = z ∧ ¬ 1 + q = -z)) (fun _ s9 _ => c.length - (intOf s9).toNat)
      case atStart => exact ⟨0, false, rfl, rfl, Nat.zero_le _, rfl, fun _ i z h => absurd h (Nat.not_lt_zero _)⟩
      case round =>
        obtain ⟨j, b, rfl, rfl, hj, rfl, HB⟩ := hrel
        by_cases hjl : j < c.length
        · have hjI : (j : Int) < (c.length : Int) := by omega
          obtain ⟨g, cg, hA, hgb, hgl, -, -⟩ := HC.out.2.2.1.form (by omega)
          injection hA with hA1 hA2 hA3
          subst hA1
          have hz : c[j]? = some c[j] := List.getElem?_eq_getElem hjl
          have hcell := HC.out.2.2.1.cell hz
          have hr := HC.out.2.1.rng _ (List.getElem_mem hjl)
          have HZ := Lib.hid hz
          generalize c[j] = z at hcell hr HZ
          clear hz
          cases b with
          | true =>
            go_wp2_with fail
            go_roundw
            case rel => first | exact ⟨j + 1, true, rfl, by go_num, by omega, trivial, fun h => absurd h (by simp)⟩ | exact ⟨j + 1, by go_num, by omega, trivial, fun h => absurd h (by simp)⟩ | exact ⟨j + 1, by go_num, by omega, trivial⟩ | exact ⟨j + 1, by go_num, by omega⟩
            case measure => simp [intOf]; omega
          | false =>
            by_cases e1 : z = 1 + q
            · have e1b : (z == 1 + q) = true := by simpa using e1
              go_wp2_with fail
              go_roundw
              case rel => first | exact ⟨j + 1, true, rfl, by go_num, by omega, trivial, fun h => absurd h (by simp)⟩ | exact ⟨j + 1, by go_num, by omega, trivial, fun h => absurd h (by simp)⟩ | exact ⟨j + 1, by go_num, by omega, trivial⟩ | exact ⟨j + 1, by go_num, by omega⟩
              case measure => simp [intOf]; omega
            · have e1b : (z == 1 + q) = false := by simpa using e1
              by_cases e2 : z = -(1 + q)
              · have e2b : (z == -(1 + q)) = true := by simpa using e2
                go_wp2_with fail
                go_roundw
                case rel => first | exact ⟨j + 1, true, rfl, by go_num, by omega, trivial, fun h => absurd h (by simp)⟩ | exact ⟨j + 1, by go_num, by omega, trivial, fun h => absurd h (by simp)⟩ | exact ⟨j + 1, by go_num, by omega, trivial⟩ | exact ⟨j + 1, by go_num, by omega⟩
                case measure => simp [intOf]; omega
              · have e2b : (z == -(1 + q)) = false := by simpa using e2
                have HB2 : Hid (false = false → ∀ (i : Nat) (z : Int), i < j + 1 → c[i]? = some z → ¬ 1 + q = z ∧ ¬ 1 + q = -z) := fun hb i z' hi hz' => by
                  by_cases hij : i < j
                  · exact HB.out hb i z' hij hz'
                  · obtain rfl : i = j := by omega
                    have := HZ.out
                    rw [hz'] at this
                    injection this with this
                    subst this
                    omega
                go_wp2_with fail
                go_roundw
                case rel => first | exact ⟨j + 1, false, rfl, by go_num, by omega, trivial, HB2⟩ | exact ⟨j + 1, by go_num, by omega, trivial, HB2⟩
                case measure => simp [intOf]; omega
        · have hjI : ¬ (j : Int) < (c.length : Int) := by omega
          obtain rfl : j = c.length := by omega
          cases b with
          | true =>
            go_wp2_with fail
            go_roundw
            case rel => exact ⟨_, k + 1, c, rfl, by go_num, by omega, wrap_i64 _, by have := HC.out.1; omega, HC.out.2⟩
            case measure => simp [intOf]; omega
          | false =>
            have hnew : ∀ z ∈ c, ¬ 1 + q = z ∧ ¬ 1 + q = -z := fun z hz => by
              obtain ⟨i, hi⟩ := List.mem_iff_getElem?.1 hz
              exact HB.out rfl i z (List.getElem?_eq_some_iff.1 hi).1 hi
            have HN := Lib.hid hnew
            clear hnew HB
            by_cases hp : (wrap64 ((wrap64 (y.tdiv 3)).tdiv vars)).tmod 2 = 0
            · have hpb : ((wrap64 ((wrap64 (y.tdiv 3)).tdiv vars)).tmod 2 != 0) = false := by simp [hp]
              have HV : Hid (¬ 1 + q = 0 ∧ -vars ≤ 1 + q ∧ 1 + q ≤ vars) := ⟨by omega, by omega, by omega⟩
              have HNV : Hid (∀ z ∈ c, ¬ 1 + q = z ∧ ¬ 1 + q = -z) := fun z hz => by have := HN.out z hz; omega
              have hbn := Blk.new wr 3 #[.int .i64 (1 + q)]
              have hba : Below wr.heap.size wr (wr.alloc (.cells #[.int .i64 (1 + q)] 3)) := (Below.refl _ _).alloc (Nat.le_refl _) _
              have hown2 : OwnC (wr.alloc (.cells #[.int .i64 (1 + q)] 3)) w.heap.size (.slice A5 c.length c5) c := HC.out.2.2.1.later (only_of_below hba none)
              have HO := Lib.hid (And.intro hbn (And.intro hown2 (HC.out.2.2.2.trans (hba.mono HC.out.2.2.2.size))))
              have hzw : w.heap.size ≤ wr.heap.size := HC.out.2.2.2.size
              clear hbn hba hown2
              go_wp2_with (at_builtin; refine wpList_append_item rfl _ _ _ rfl rowInts tells_int (v := .slice A5 c.length c5) (xs := c) (base := w.heap.size) (S := fun _ => False) rfl HO.out.2.1 (g := wr.heap.size) (cs := #[.int .i64 (1 + q)]) rfl HO.out.1 (y := 1 + q) ⟨rfl, by have := HV.out; unfold I64; omega⟩ (fun b h => h.elim) (by unfold maxLen; omega) (by omega) (by simp; omega) ?_; intro v' w6 hown6 hgrow6 hat6; have HB6 := Lib.hid (And.intro hown6 hgrow6); clear hown6 hgrow6 hat6)
              go_roundw
              case rel =>
                have hlt := HO.out.2.1.lt
                exact ⟨_, k + 1, c ++ [1 + q], rfl, by go_num, by omega, wrap_i64 _, by have := HC.out.1; simp; omega, HC.out.2.1.push hcl HV.out HNV.out, HB6.out.1, below_then HO.out.2.2 HB6.out.2 (by simp; omega) (fun x hx => (hlt x hx).1)⟩
              case measure => simp [intOf]; omega
            · have hpb : ((wrap64 ((wrap64 (y.tdiv 3)).tdiv vars)).tmod 2 != 0) = true := by simp [hp]
              have HV : Hid (¬ -(1 + q) = 0 ∧ -vars ≤ -(1 + q) ∧ -(1 + q) ≤ vars) := ⟨by omega, by omega, by omega⟩
              have HNV : Hid (∀ z ∈ c, ¬ -(1 + q) = z ∧ ¬ -(1 + q) = -z) := fun z hz => by have := HN.out z hz; omega
              have hbn := Blk.new wr 3 #[.int .i64 (-(1 + q))]
              have hba : Below wr.heap.size wr (wr.alloc (.cells #[.int .i64 (-(1 + q))] 3)) := (Below.refl _ _).alloc (Nat.le_refl _) _
              have hown2 : OwnC (wr.alloc (.cells #[.int .i64 (-(1 + q))] 3)) w.heap.size (.slice A5 c.length c5) c := HC.out.2.2.1.later (only_of_below hba none)
              have HO := Lib.hid (And.intro hbn (And.intro hown2 (HC.out.2.2.2.trans (hba.mono HC.out.2.2.2.size))))
              have hzw : w.heap.size ≤ wr.heap.size := HC.out.2.2.2.size
              clear hbn hba hown2
              go_wp2_with (at_builtin; refine wpList_append_item rfl _ _ _ rfl rowInts tells_int (v := .slice A5 c.length c5) (xs := c) (base := w.heap.size) (S := fun _ => False) rfl HO.out.2.1 (g := wr.heap.size) (cs := #[.int .i64 (-(1 + q))]) rfl HO.out.1 (y := -(1 + q)) ⟨rfl, by have := HV.out; unfold I64; omega⟩ (fun b h => h.elim) (by unfold maxLen; omega) (by omega) (by simp; omega) ?_; intro v' w6 hown6 hgrow6 hat6; have HB6 := Lib.hid (And.intro hown6 hgrow6); clear hown6 hgrow6 hat6)
              go_roundw
              case rel =>
                have hlt := HO.out.2.1.lt
                exact ⟨_, k + 1, c ++ [-(1 + q)], rfl, by go_num, by omega, wrap_i64 _, by have := HC.out.1; simp; omega, HC.out.2.1.push hcl HV.out HNV.out, HB6.out.1, below_then HO.out.2.2 HB6.out.2 (by simp; omega) (fun x hx => (hlt x hx).1)⟩
              case measure => simp [intOf]; omega
    · have HC2 : Hid (c.length ≤ 3 ∧ Lits vars c ∧ OwnC wo w.heap.size (.slice A5 c.length c5) c ∧ Below w.heap.size w wo) := ⟨HC.out.2.1.len, HC.out.2⟩
      clear HC
      obtain ⟨n, hn⟩ : ∃ n : Nat, c.length = n := ⟨_, rfl⟩
      rw [hn] at HC2 hc5 ⊢
      have HN := Lib.hid hn
      have hn3 : n ≤ 3 := HC2.out.1
      clear hn
      go_wp2_with fail
      go_loopw [10] (fun s10 w' => ∃ (i : Nat) (d : List Int), s10 = .int .i64 (i : Int) ∧ 1 ≤ i ∧ i ≤ n + 1 ∧ Hid (d.length = n ∧ Lits vars d ∧ OwnC w' w.heap.size (.slice A5 n c5) d ∧ Below w.heap.size w w')) (fun s10 _ => n + 1 - (intOf s10).toNat)
      case atStart => exact ⟨1, c, rfl, by omega, by omega, HN.out, HC2.out.2⟩
      case round =>
        clear HC2 HN HM
        obtain ⟨i, d, rfl, hi1, hi2, HD⟩ := hrel
        obtain ⟨wi, rfl⟩ : ∃ wi : World, wi = wr := ⟨_, rfl⟩
        by_cases hil : i < n
        · have hilI : (i : Int) < (n : Int) := by omega
          obtain ⟨g, rfl⟩ : ∃ g, A5 = some ⟨g, 0, none⟩ := by
            obtain ⟨g, cg, hA, -⟩ := HD.out.2.2.1.form (by have := HD.out.1; omega)
            injection hA with hA1
            exact ⟨g, hA1⟩
          go_wp2_with fail
          go_loopw [11] (fun s11 w' => ∃ (j : Nat) (d : List Int), s11 = .int .i64 (j : Int) ∧ j < n ∧ Hid (d.length = n ∧ Lits vars d ∧ OwnC w' w.heap.size (.slice (some ⟨g, 0, none⟩) n c5) d ∧ Below w.heap.size w w')) (fun s11 _ => (intOf s11).toNat)
          case atStart => exact ⟨i, d, rfl, hil, HD⟩
          case round =>
            clear HD
            obtain ⟨j, d, rfl, hjl, HD⟩ := hrel
            have HQ : Hid (∀ m, d.length = n ∧ Lits vars d ∧ OwnC (wr.drewN m) w.heap.size (.slice (some ⟨g, 0, none⟩) n c5) d ∧ Below w.heap.size w (wr.drewN m)) := fun m => ⟨HD.out.1, HD.out.2.1, HD.out.2.2.1.later (only_of_below (below_drewN (Below.refl _ _) m) none), below_drewN HD.out.2.2.2 m⟩
            by_cases hj0 : 0 < j
            · have hj0I : (0 : Int) < (j : Int) := by omega
              have hz1 : d[j]? = some (d.getD j 0) := by rw [List.getD_eq_getElem?_getD, List.getElem?_eq_getElem (by have := HD.out.1; omega)]; rfl
              have hz2 : d[j - 1]? = some (d.getD (j - 1) 0) := by rw [List.getD_eq_getElem?_getD, List.getElem?_eq_getElem (by have := HD.out.1; omega)]; rfl
              have c1 := HD.out.2.2.1.cell hz1
              have c2 := HD.out.2.2.1.cell hz2
              have r1 := HD.out.2.1.rng _ (List.mem_of_getElem? hz1)
              have r2 := HD.out.2.1.rng _ (List.mem_of_getElem? hz2)
              have e1 : (j : Int) - 1 = ((j - 1 : Nat) : Int) := by omega
              have zg := (HD.out.2.2.1.lt g rfl).2
              obtain ⟨z1, hd1⟩ : ∃ z1, d.getD j 0 = z1 := ⟨_, rfl⟩
              obtain ⟨z2, hd2⟩ : ∃ z2, d.getD (j - 1) 0 = z2 := ⟨_, rfl⟩
              rw [hd1] at c1 r1
              rw [hd2] at c2 r2
              have HZ := Lib.hid (And.intro hd1 hd2)
              have f1 := HD.out.2.2.1.unfrozen j
              have f2 := HD.out.2.2.1.unfrozen (j - 1)
              have HS : Hid (∀ m, OwnC (((wr.drewN m).setCell ⟨g, j, none⟩ (.int .i64 z2)).setCell ⟨g, j - 1, none⟩ (.int .i64 z1)) w.heap.size (.slice (some ⟨g, 0, none⟩) n c5) ((d.set j z2).set (j - 1) z1)) := fun m =>
                OwnV.set tells_int (OwnV.set tells_int (HQ.out m).2.2.1 HD.out.1.symm (i := j) ⟨rfl, by unfold I64; omega⟩ (fun b hb => False.elim hb)) (by simp [HD.out.1]) (i := j - 1) ⟨rfl, by unfold I64; omega⟩ (fun b hb => False.elim hb)
              have hgw := (HD.out.2.2.1.lt g rfl).1
              have HSB : Hid (∀ m, Below w.heap.size w (((wr.drewN m).setCell ⟨g, j, none⟩ (.int .i64 z2)).setCell ⟨g, j - 1, none⟩ (.int .i64 z1))) := fun m => ((HQ.out m).2.2.2.setCell (p := ⟨g, j, none⟩) hgw _).setCell (p := ⟨g, j - 1, none⟩) hgw _
              clear hz1 hz2 hd1 hd2 hgw
              by_cases hless : absI z1 < absI z2
              · go_wp2_with fail
                go_quiet ((go_at_call 23; exact quiet_eq (kvar_any _ _ (by omega) (by omega))))
                go_wp2_with fail
                go_region
                go_wp2_with fail
                go_roundw
                case rel =>
                  refine ⟨j - 1, (d.set j z2).set (j - 1) z1, by go_num, by omega, by simp [HD.out.1], ?_, ?_, ?_⟩
                  · have := HD.out.2.1.swap hj0 (by have := HD.out.1; omega)
                    rwa [HZ.out.1, HZ.out.2] at this
                  · exact HS.out _
                  · exact HSB.out _
                case measure => simp [intOf]; omega
              · go_wp2_with fail
                go_quiet ((go_at_call 23; exact quiet_eq (kvar_any _ _ (by omega) (by omega))))
                go_wp2_with fail
                go_roundw
                case rel => exact ⟨i + 1, d, by go_num, by omega, by omega, HQ.out _⟩
                case measure => simp [intOf]; omega
            · have hj0I : ¬ (0 : Int) < (j : Int) := by omega
              go_wp2_with fail
              go_quiet (fail)
              go_wp2_with fail
              go_roundw
              case rel => exact ⟨i + 1, d, by go_num, by omega, by omega, HQ.out _⟩
              case measure => simp [intOf]; omega
        · have hilI : ¬ (i : Int) < (n : Int) := by omega
          go_wp2_with fail
          go_ret
          exact ⟨_, d, rfl, HD.out.2.2.1, HD.out.2.1, HD.out.2.2.2⟩
end Go.Proofs.Ytfkciiiopbanaaa
