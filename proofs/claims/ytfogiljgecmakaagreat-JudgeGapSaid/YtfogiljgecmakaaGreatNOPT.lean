/- Walks: the order of literals that clauses are compared by. · Plain: the order that clauses are compared by; sorted clauses are one where they are permutations of one another. · Walks: cnf.Sorted: a clause's literals in order, in a row of the call's own. · Walk: slices.Equal over numbers (the text of AskN, for seats without the asks). · Walk: the test that a clause is the one that is looked for (judge.(*state).step$1). -/
import Derived.Test.YtfogiljgecmakaaGreatFuFr
import Derived.Deep.QuietTactic
import Derived.BigQuiet
import Derived.Lib.Small
import Derived.Sort.Grow
import Derived.IntWalk
import Derived.Deep.RegionWith
import Derived.Test.YtfogiljgecmakaaGreatCore
import Derived.Sort.Statements
import Derived.Test.YtfogiljgecmakaaGreatJuCF
import Derived.Shelf.SlSortCmp.NoneTotal
import Derived.Sort.OwnSortedInts
import Derived.Ground.SlsfProg
namespace Go.Proofs.YtfogiljgecmakaaGreat
open Go.RowKit

/-- the variable of a literal, as the machine's numbers have it -/
def varW (x : Int) : Int := if x < IntKind.i64.wrap (-x) then IntKind.i64.wrap (-x) else x
def ordI (x y : Int) : Int := if Lib.compareInt (varW x) (varW y) = 0 then Lib.compareInt y x else Lib.compareInt (varW x) (varW y)

set_option maxHeartbeats 400000 in
theorem varW_any (x : Int) (w : World) : Calls Tryz.prog 81 #[.int .i64 x] w fun e w' => e = .returned (.int .i64 (varW x)) ∧ w = w' := by
  obtain ⟨m, hm⟩ : ∃ m, IntKind.i64.wrap (-x) = m := ⟨_, rfl⟩
  have HV : Hid (varW x = if x < m then m else x) := by
    show _ = _
    unfold varW
    rw [hm]
  go_enter Tryz.func81, Tryz.ntmps81
  go_wp2
  all_goals go_ret
  all_goals exact ⟨ret_int (by rw [HV.out]; split <;> omega), rfl⟩
set_option maxHeartbeats 400000 in
theorem nanI_any (x : Int) (w : World) : Calls Tryz.prog 164 #[.int .i64 x] w fun e w' => e = .returned (.bool false) ∧ w = w' := by
  go_enter Tryz.func164, Tryz.ntmps164
  go_wp2
  go_ret
  exact ⟨by simp, rfl⟩
set_option maxHeartbeats 1000000 in
theorem compareI_any (x y : Int) (w : World) : Calls Tryz.prog 140 #[.int .i64 x, .int .i64 y] w fun e w' => e = .returned (.int .i64 (Lib.compareInt x y)) ∧ w = w' := by
  go_enter Tryz.func140, Tryz.ntmps140
  go_wp2_with (go_at_call 164; refine (nanI_any _ _).mono ?_; rintro e w' ⟨rfl, rfl⟩)
  all_goals (go_ret; refine ⟨?_, rfl⟩; unfold Lib.compareInt; (repeat' split) <;> first | rfl | (exfalso; omega))
set_option maxHeartbeats 1000000 in
theorem orI_any (B c : Nat) (p q : Int) (w : World) (h0 : w.cell? ⟨B, 0, none⟩ = some (.int .i64 p)) (h1 : w.cell? ⟨B, 1, none⟩ = some (.int .i64 q)) :
    Calls Tryz.prog 139 #[.slice (some ⟨B, 0, none⟩) 2 c] w fun e w' => e = .returned (.int .i64 (if p = 0 then q else p)) ∧ w = w' := by
  by_cases hp : p = 0
  · have hpb : (p != 0) = false := by simp [hp]
    by_cases hq : q = 0
    · have hqb : (q != 0) = false := by simp [hq]
      rw [if_pos hp]
      have HQ := Lib.hid hq
      clear hp hq
      go_enter Tryz.func139, Tryz.ntmps139
      go_wp2
      refine wp_loop_rounds 3 ?_
      repeat any_goals (rw [rounds_succ]; go_wp2)
      go_ret
      exact ⟨ret_int HQ.out.symm, rfl⟩
    · have hqb : (q != 0) = true := by simp [hq]
      rw [if_pos hp]
      clear hp hq
      go_enter Tryz.func139, Tryz.ntmps139
      go_wp2
      refine wp_loop_rounds 3 ?_
      repeat any_goals (rw [rounds_succ]; go_wp2)
      go_ret
      exact ⟨rfl, rfl⟩
  · have hpb : (p != 0) = true := by simp [hp]
    rw [if_neg hp]
    clear hp
    go_enter Tryz.func139, Tryz.ntmps139
    go_wp2
    refine wp_loop_rounds 3 ?_
    repeat any_goals (rw [rounds_succ]; go_wp2)
    go_ret
    exact ⟨rfl, rfl⟩
set_option maxRecDepth 100000 in
set_option maxHeartbeats 2000000 in
theorem order_any (x y : Int) (w : World) : Calls Tryz.prog 115 #[.int .i64 x, .int .i64 y] w fun e w' => e = .returned (.int .i64 (ordI x y)) ∧ ∃ q os', w' = Sort.grow (w.drewN q) os' := by
  obtain ⟨p, hp⟩ : ∃ p, Lib.compareInt (varW x) (varW y) = p := ⟨_, rfl⟩
  obtain ⟨q, hq⟩ : ∃ q, Lib.compareInt y x = q := ⟨_, rfl⟩
  have HC1 := Lib.hid (fun W => hp ▸ compareI_any (varW x) (varW y) W)
  have HC2 := Lib.hid (fun W => hq ▸ compareI_any y x W)
  have HO : Hid (ordI x y = if p = 0 then q else p) := by
    show _ = _
    unfold ordI
    rw [hp, hq]
  clear hp hq
  go_enter Tryz.func115, Tryz.ntmps115
  go_wp2_with (first
    | (go_at_call 81; refine (varW_any _ _).mono ?_; rintro e w9 ⟨rfl, rfl⟩)
    | (go_at_call 140; (with_reducible first | refine (HC1.out _).mono ?_ | refine (HC2.out _).mono ?_); rintro e w9 ⟨rfl, rfl⟩)
    | (go_at_call 139; refine (orI_any _ _ p q _ (by rw [World.cell?_alloc_new]; rfl) (by rw [World.cell?_alloc_new]; rfl)).mono ?_; rintro e w9 ⟨rfl, rfl⟩))
  all_goals go_ret
  all_goals exact ⟨ret_int (by rw [HO.out]; clear HC1 HC2 HO; first | (simp; done) | simp_all), 0, _, by rw [Sort.alloc_eq_grow]; rfl⟩
end Go.Proofs.YtfogiljgecmakaaGreat
namespace Go.Proofs.YtfogiljgecmakaaGreat
open Go.RowKit

def ordL (x y : Int) : Bool := decide (varW x < varW y ∨ (varW x = varW y ∧ y < x))
theorem ordI_lt (x y : Int) : decide (ordI x y < 0) = ordL x y := by
  unfold ordI ordL Lib.compareInt
  rw [decide_eq_decide]
  constructor
  · intro h
    split at h <;> rename_i h1 <;> (repeat' split at h) <;> (repeat' split at h1) <;> omega
  · intro h
    (repeat' split) <;> omega
theorem swo_ordL : Sort.SWO ordL where
  irrefl x := by simp [ordL]
  trans x y z h1 h2 := by simp only [ordL, decide_eq_true_eq] at *; omega
  ntrans x y z h1 h2 := by simp only [ordL, decide_eq_false_iff_not] at *; omega
theorem ordL_total (x y : Int) (h1 : ordL x y = false) (h2 : ordL y x = false) : x = y := by
  simp only [ordL, decide_eq_false_iff_not] at *
  omega
/-- a clause's literals in order -/
def srtI (l : List Int) : List Int := l.mergeSort fun x y => !ordL y x
theorem srtI_perm (l : List Int) : (srtI l).Perm l := List.mergeSort_perm _ _
theorem srtI_len (l : List Int) : (srtI l).length = l.length := (srtI_perm l).length_eq
theorem srtI_eq {a b : List Int} : srtI a = srtI b ↔ a.Perm b := by
  constructor
  · intro h
    exact (srtI_perm a).symm.trans (h ▸ srtI_perm b)
  · intro h
    have hp : ∀ l : List Int, (srtI l).Pairwise fun x y => (!ordL y x) = true := fun l => List.pairwise_mergeSort (by
        intro a b c h1 h2
        simp only [Bool.not_eq_true'] at h1 h2 ⊢
        exact swo_ordL.ntrans c b a h2 h1) (by
        intro a b
        cases h : ordL b a with
        | false => simp
        | true =>
          cases h' : ordL a b with
          | false => simp
          | true => have := swo_ordL.trans _ _ _ h h'; rw [swo_ordL.irrefl] at this; cases this) l
    refine List.Perm.eq_of_pairwise (le := fun x y => (!ordL y x) = true) ?_ (hp a) (hp b) ((srtI_perm a).trans (h.trans (srtI_perm b).symm))
    intro x y _ _ h1 h2
    simp only [Bool.not_eq_true'] at h1 h2
    exact ordL_total x y h2 h1
theorem permB_srt (a b : List Int) : permB a b = decide (srtI a = srtI b) := by
  unfold permB
  rw [decide_eq_decide]
  exact srtI_eq.symm
end Go.Proofs.YtfogiljgecmakaaGreat
namespace Go.Proofs.YtfogiljgecmakaaGreat
open Go.RowKit

def Tryz.sortF_ren : Go.Shelf.Ren := ⟨fun | 6 => 114 | 15 => 138 | 14 => 137 | 28 => 162 | 29 => 163 | 20 => 154 | 21 => 155 | 22 => 156 | 23 => 157 | 24 => 158 | 25 => 159 | 26 => 160 | 27 => 161 | 46 => 174 | 47 => 175 | 48 => 176 | 49 => 177 | 50 => 178 | 57 => 188 | n => n, fun | 22 => 28 | 24 => 3 | 25 => 43 | 3 => 3 | 39 => 130 | 0 => 0 | 53 => 129 | 55 => 93 | 4 => 4 | 46 => 187 | 45 => 186 | 50 => 191 | 5 => 5 | 9 => 9 | 66 => 198 | 70 => 201 | 76 => 210 | 77 => 118 | n => n, fun | n => n⟩
theorem Tryz.sortF : Go.Proofs.SlLaysF.n6 Tryz.prog Tryz.sortF_ren := {
  mixed := by kernel_rfl
  f6 := ⟨Tryz.f114.name, by decide, Tryz.func114.trans (congrArg some (by kernel_rfl))⟩
  f14 := ⟨Tryz.f137.name, by decide, Tryz.func137.trans (congrArg some (by kernel_rfl))⟩
  f15 := Tryz.func138.trans (congrArg some (by kernel_rfl))
  f20 := ⟨Tryz.f154.name, by decide, Tryz.func154.trans (congrArg some (by kernel_rfl))⟩
  f21 := ⟨Tryz.f155.name, by decide, Tryz.func155.trans (congrArg some (by kernel_rfl))⟩
  f22 := ⟨Tryz.f156.name, by decide, Tryz.func156.trans (congrArg some (by kernel_rfl))⟩
  f23 := ⟨Tryz.f157.name, by decide, Tryz.func157.trans (congrArg some (by kernel_rfl))⟩
  f24 := ⟨Tryz.f158.name, by decide, Tryz.func158.trans (congrArg some (by kernel_rfl))⟩
  f25 := ⟨Tryz.f159.name, by decide, Tryz.func159.trans (congrArg some (by kernel_rfl))⟩
  f26 := ⟨Tryz.f160.name, by decide, Tryz.func160.trans (congrArg some (by kernel_rfl))⟩
  f27 := ⟨Tryz.f161.name, by decide, Tryz.func161.trans (congrArg some (by kernel_rfl))⟩
  f28 := Tryz.func162.trans (congrArg some (by kernel_rfl))
  f29 := Tryz.func163.trans (congrArg some (by kernel_rfl))
  f46 := ⟨Tryz.f174.name, by decide, Tryz.func174.trans (congrArg some (by kernel_rfl))⟩
  f47 := Tryz.func175.trans (congrArg some (by kernel_rfl))
  f48 := Tryz.func176.trans (congrArg some (by kernel_rfl))
  f49 := ⟨Tryz.f177.name, by decide, Tryz.func177.trans (congrArg some (by kernel_rfl))⟩
  f50 := ⟨Tryz.f178.name, by decide, Tryz.func178.trans (congrArg some (by kernel_rfl))⟩
  f57 := ⟨Tryz.f188.name, by decide, Tryz.func188.trans (congrArg some (by kernel_rfl))⟩
  t0 := Tryz.underlying0
  a0 := Tryz.isAgg0
  z0 := Tryz.sizeOf0
  v0 := Tryz.zeroValue0
  t3 := Tryz.underlying3
  a3 := Tryz.isAgg3
  z3 := Tryz.sizeOf3
  v3 := Tryz.zeroValue3
  t4 := Tryz.underlying4
  a4 := Tryz.isAgg4
  z4 := Tryz.sizeOf4
  v4 := Tryz.zeroValue4
  t5 := Tryz.underlying5
  a5 := Tryz.isAgg5
  z5 := Tryz.sizeOf5
  v5 := Tryz.zeroValue5
  t9 := Tryz.underlying9
  a9 := Tryz.isAgg9
  z9 := Tryz.sizeOf9
  v9 := Tryz.zeroValue9
  t22 := Tryz.underlying28
  a22 := Tryz.isAgg28
  z22 := Tryz.sizeOf28
  v22 := Tryz.zeroValue28
  a24 := Tryz.isAgg3
  z24 := Tryz.sizeOf3
  t25 := Tryz.underlying43
  a25 := Tryz.isAgg43
  z25 := Tryz.sizeOf43
  v25 := Tryz.zeroValue43
  t39 := Tryz.underlying130
  a39 := Tryz.isAgg130
  z39 := Tryz.sizeOf130
  v39 := Tryz.zeroValue130
  t45 := Tryz.underlying186
  a45 := Tryz.isAgg186
  z45 := Tryz.sizeOf186
  v45 := Tryz.zeroValue186
  t46 := Tryz.underlying187
  a46 := Tryz.isAgg187
  z46 := Tryz.sizeOf187
  v46 := Tryz.zeroValue187
  t50 := Tryz.underlying191
  a50 := Tryz.isAgg191
  z50 := Tryz.sizeOf191
  v50 := Tryz.zeroValue191
  t53 := Tryz.underlying129
  a53 := Tryz.isAgg129
  z53 := Tryz.sizeOf129
  v53 := Tryz.zeroValue129
  t55 := Tryz.underlying93
  a55 := Tryz.isAgg93
  z55 := Tryz.sizeOf93
  v55 := Tryz.zeroValue93
  t66 := Tryz.underlying198
  a66 := Tryz.isAgg198
  z66 := Tryz.sizeOf198
  v66 := Tryz.zeroValue198
  t70 := Tryz.underlying201
  a70 := Tryz.isAgg201
  z70 := Tryz.sizeOf201
  v70 := Tryz.zeroValue201
  t76 := Tryz.underlying210
  a76 := Tryz.isAgg210
  z76 := Tryz.sizeOf210
  v76 := Tryz.zeroValue210
  t77 := Tryz.underlying118
  a77 := Tryz.isAgg118
  z77 := Tryz.sizeOf118
  v77 := Tryz.zeroValue118 }

theorem ltOf_ordI : ltOf ordI = ordL := funext fun x => funext fun y => ordI_lt x y
theorem sortI_any (base : Nat) (v : Value) (xs : List Int) (w : World) (hown : OwnInts w base v xs) (hb : base ≤ w.heap.size) (hn : xs.length ≤ 1000) :
    Calls Tryz.prog 114 #[v, .func (.func 115) #[] #[]] w fun e w' => e = .returned (.tuple #[]) ∧ OwnInts w' base v (srtI xs) ∧ Below base w w' := by
  rcases hown.1.2 with ⟨rfl, h0⟩ | ⟨g, cap, cur, rfl, hbase, hheap, hnc, hcap, hcs, htake⟩
  · have hx : xs = [] := List.eq_nil_of_length_eq_zero h0
    subst hx
    have hcon := AnyF.slices_SortFunc_none { Tryz.sortF with } none 0 (.func (.func 115) #[] #[]) w
    change Calls Tryz.prog 114 _ _ _ at hcon
    exact hcon.mono fun _ _ ⟨he, hw⟩ => ⟨he, by subst hw; rw [show srtI [] = [] from List.perm_nil.1 (srtI_perm [])]; exact hown, by subst hw; exact Below.refl _ _⟩
  · have eg := enters_of Tryz.func115 (by kernel_rfl) rfl
    have hg : g < w.heap.size := (Array.getElem?_eq_some_iff.1 hheap).1
    have hH : Sort.Holds (Value.int .i64) w g 0 xs.toArray := holds_of_blockI hheap (by rw [← htake, Nat.mul_one])
    have hcmp : CmpLays1 Tryz.prog 115 #[] (Value.int .i64) ordI g 0 xs.toArray.size w := fun m os dk _ x y => order_any x y _
    have hcon := Any.slices_SortFunc_total Tryz.sortF (Value.int .i64) (fun _ => rfl) ordI (by rw [ltOf_ordI]; exact swo_ordL) 115 #[] g 0 cap xs.toArray w eg hcmp hH hg (by simp; omega) (by rw [ltOf_ordI]; exact ordL_total)
    change Calls Tryz.prog 114 _ _ _ at hcon
    rw [ltOf_ordI] at hcon
    have hcon' : Calls Tryz.prog 114 #[.slice (some ⟨g, 0, none⟩) xs.length cap, .func (.func 115) #[] #[]] w fun e w' => e = .returned (.tuple #[]) ∧ ∃ n os, w' = Sort.grow (Sort.putRow (Value.int .i64) (Sort.ahead w n) g 0 (srtI xs).toArray) os := hcon
    refine hcon'.mono fun _ _ ⟨he, n, os, hw⟩ => ⟨he, ?_, ?_⟩
    · subst hw
      refine ⟨?_, fun x hx => hown.2 x ((srtI_perm xs).mem_iff.1 hx)⟩
      have := ownsRow_sortedI (n := n) (os := os) (ts := srtI xs) (srtI_len xs) hbase hheap hnc hcap hcs
      rw [← srtI_len xs] at this
      rw [srtI_len xs] at this ⊢
      exact this
    · subst hw
      exact (Below.refl _ _).grown (grownBy_sortedI _) hb (fun k hk => by injection hk with hk; omega)
set_option maxHeartbeats 1000000 in
theorem sorted_any (A : Option Addr) (n c : Nat) (xs : List Int) (w : World) (hxs : IntsB w w.heap.size A n xs) (hn : n ≤ 1000) :
    Calls Tryz.prog 73 #[.slice A n c] w (CloneP w.heap.size (srtI xs) w) := by
  have hlen := hxs.len
  have HC := Lib.hid (cloneInts_any A n c xs w hxs (by omega))
  clear hxs
  go_enter Tryz.func73, Tryz.ntmps73
  go_wp2_with fail
  refine HC.out.mono ?_
  rintro e w1 ⟨v, rfl, hown, hb⟩
  have HS := Lib.hid (sortI_any w.heap.size v xs w1 hown hb.size (by omega))
  have HB := Lib.hid hb
  clear hown hb
  go_wp2_with fail
  refine HS.out.mono ?_
  rintro e w2 ⟨rfl, hown, hb⟩
  have HO := Lib.hid (And.intro hown (HB.out.trans hb))
  clear hown hb
  go_wp2_with fail
  go_ret
  exact ⟨v, rfl, HO.out.1, HO.out.2⟩
end Go.Proofs.YtfogiljgecmakaaGreat
namespace Go.Proofs.YtfogiljgecmakaaGreat
open Go.RowKit

set_option maxHeartbeats 1000000 in
theorem eqI_any (A A' : Option Addr) (n c n' c' : Nat) (xs ys : List Int) (R : Bool) (S S' : Nat → Prop) (w : World) (h : Arr AtInt 1 w S A n xs) (h' : Arr AtInt 1 w S' A' n' ys) (hn : n ≤ 9223372036854775807) (hn' : n' ≤ 9223372036854775807) (hR : decide (xs = ys) = R) :
    Calls Tryz.prog 75 #[.slice A n c, .slice A' n' c'] w (DrewP (.bool R) w) := by
  by_cases hnn : n = n'
  · subst hnn
    have hq0 : ((n : Int) != (n : Int)) = false := by simp
    have HR := Lib.hid hR
    clear hR
    go_enter Tryz.func75, Tryz.ntmps75
    go_wp2_with fail
    go_loopw [13] (fun s wr => ∃ k : Nat, k ≤ n ∧ s = .int .i64 k ∧ Arr AtInt 1 wr S A n xs ∧ Arr AtInt 1 wr S' A' n ys ∧ Hid (decide (xs.drop k = ys.drop k) = R) ∧ Hid (∃ m, wr = w.drewN m)) (fun s _ => n - (intOf s).toNat)
    case atStart => exact ⟨0, Nat.zero_le _, rfl, h, h', HR, 0, rfl⟩
    case round =>
      obtain ⟨k, hk, rfl, hl, hl', HK, HM⟩ := hrel
      clear h h'
      by_cases hlt : k < n
      · have HL := Lib.hid (And.intro hl hl')
        obtain ⟨b, off, hx, rfl, hb, hc, -⟩ := Arr.get hl hlt
        obtain ⟨b', off', hx', rfl, hb', hc', -⟩ := Arr.get hl' hlt
        rw [Nat.mul_one] at hc hc'
        have e1 := HK.out
        rw [drop_cons hx, drop_cons hx'] at e1
        simp only [List.cons.injEq] at e1
        generalize xs[k] = y at hc e1
        generalize ys[k] = z at hc' e1
        have hij : (k : Int) < n := by omega
        clear hl hl' hx hx' hb hb' HK
        by_cases hyz : y = z
        · subst hyz
          simp only [true_and] at e1
          have H1 := Lib.hid e1
          have hq : (y != y) = false := by simp
          clear e1
          go_wp2_with fail
          go_quiet (fail)
          go_wp2_with fail
          go_roundw
          case rel => exact ⟨k + 1, by omega, by go_num, HL.out.1.drewN stays_int _, HL.out.2.drewN stays_int _, H1, by obtain ⟨m, e⟩ := HM.out; exact ⟨m + nq, by rw [e, World.drewN_drewN]⟩⟩
          case measure => simp [intOf]; omega
        · simp only [hyz, false_and, decide_false] at e1
          have H1 := Lib.hid e1
          have hq : (y != z) = true := by simp [hyz]
          clear e1 hyz
          go_wp2_with fail
          go_quiet (fail)
          go_wp2_with fail
          go_ret
          exact ⟨ret_bool H1.out, by obtain ⟨m, e⟩ := HM.out; exact ⟨m + nq, by rw [e, World.drewN_drewN]⟩⟩
      · obtain rfl : n = k := by omega
        have e1 := HK.out
        rw [List.drop_of_length_le (by have := hl.len; omega), List.drop_of_length_le (by have := hl'.len; omega)] at e1
        simp only [decide_true] at e1
        have H1 := Lib.hid e1
        clear e1 HK
        go_wp2_with fail
        go_ret
        exact ⟨ret_bool H1.out, HM.out⟩
  · have hne : R = false := by
      rw [← hR, decide_eq_false_iff_not]
      intro e
      have h1 := h.len
      have h2 := h'.len
      rw [e] at h1
      omega
    subst hne
    have hq0 : ((n : Int) != (n' : Int)) = true := by rw [bne_iff_ne]; omega
    clear hR h h' hnn
    go_enter Tryz.func75, Tryz.ntmps75
    go_wp2_with fail
    go_ret
    exact ⟨rfl, 0, rfl⟩
end Go.Proofs.YtfogiljgecmakaaGreat
namespace Go.Proofs.YtfogiljgecmakaaGreat
open Go.RowKit

set_option maxRecDepth 100000 in
set_option maxHeartbeats 2000000 in
theorem step1_any (B : Nat) (A : Option Addr) (n c : Nat) (xs : List Int) (Y : Option Addr) (ny cy : Nat) (ys : List Int) (w : World) (hB : B < w.heap.size) (hc : w.cell? ⟨B, 0, none⟩ = some (.slice Y ny cy))
    (hxs : IntsB w w.heap.size A n xs) (hys : IntsB w w.heap.size Y ny ys) (hn : n ≤ 1000) (hny : ny ≤ 1000) :
    Calls Tryz.prog 74 #[.slice A n c, .pointer (some ⟨B, 0, none⟩)] w fun e w' => e = .returned (.bool (decide (srtI xs = ys))) ∧ Below w.heap.size w w' := by
  obtain ⟨R, hR⟩ : ∃ R, decide (srtI xs = ys) = R := ⟨_, rfl⟩
  rw [hR]
  have HS : Hid (∀ W, Below w.heap.size w W → Calls Tryz.prog 73 #[.slice A n c] W (CloneP W.heap.size (srtI xs) W)) := fun W hW => sorted_any A n c xs W (hxs.below stays_int hW hW.size) hn
  have hsl : (srtI xs).length = n := by rw [srtI_len]; exact hxs.len
  have H := Lib.hid (And.intro hB (And.intro hc (And.intro hys (And.intro hR hsl))))
  clear hR hsl hxs hys
  go_enter Tryz.func74, Tryz.ntmps74
  go_wp2_with fail
  go_region_with (first
    | (go_at_call 73
       with_reducible refine (HS.out w.drew (below_drewN (Below.refl _ _) 1)).mono ?_
       rintro e w9 ⟨v, rfl, hown, hb9⟩
       have hbw : Below w.heap.size w w9 := below_of_drew hb9
       obtain ⟨A9, c9, rfl, hc9, hc9m, har⟩ := hown.reads
       rw [H.out.2.2.2.2] at har ⊢
       have hcB : w9.cell? ⟨B, 0, none⟩ = some (.slice Y ny cy) := (hbw.cell (p := ⟨B, 0, none⟩) H.out.1).trans H.out.2.1
       have HE9 := Lib.hid (eqI_any A9 Y n c9 ny cy (srtI xs) ys R _ _ w9 har (H.out.2.2.1.below stays_int hbw (Nat.le_refl _)) (by omega) (by omega) H.out.2.2.2.1)
       have HB9 := Lib.hid hbw
       clear hown hb9 hbw har hc9 hc9m
       go_simp)
    | (go_at_call 75
       with_reducible refine HE9.out.mono ?_
       rintro e w8 ⟨rfl, m8, rfl⟩
       go_simp))
  all_goals go_wp2_with fail
  all_goals go_ret
  all_goals exact ⟨rfl, below_drewN HB9.out _⟩
end Go.Proofs.YtfogiljgecmakaaGreat
