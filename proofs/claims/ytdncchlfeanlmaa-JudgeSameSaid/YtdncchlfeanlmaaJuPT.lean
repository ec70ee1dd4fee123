/- Walks: cnf.Sorted: a clause's literals in order, in a row of the call's own. · Walk: slices.Equal over numbers (the text of AskN, for seats without the asks). · Walk: the test that a clause is the one that is looked for (judge.(*state).step$1). -/
import Derived.Test.YtdncchlfeanlmaaJuNO
import Derived.Test.YtdncchlfeanlmaaClone
import Derived.Shelf.SlSortCmp.NoneTotal
import Derived.Sort.OwnSortedInts
import Derived.Ground.SlsfProg
import Derived.Test.YtdncchlfeanlmaaFuncs
import Derived.Deep.QuietTactic
import Derived.BigQuiet
import Derived.Deep.RegionWith
namespace Go.Proofs.Ytdncchlfeanlmaa
open Go.RowKit

def Try.sortF_ren : Go.Shelf.Ren := ⟨fun | 6 => 55 | 15 => 69 | 14 => 68 | 28 => 83 | 29 => 84 | 20 => 75 | 21 => 76 | 22 => 77 | 23 => 78 | 24 => 79 | 25 => 80 | 26 => 81 | 27 => 82 | 46 => 89 | 47 => 90 | 48 => 91 | 49 => 92 | 50 => 93 | 57 => 96 | n => n, fun | 22 => 31 | 24 => 3 | 25 => 37 | 3 => 3 | 39 => 111 | 0 => 0 | 53 => 129 | 55 => 103 | 4 => 4 | 46 => 122 | 45 => 121 | 50 => 126 | 5 => 5 | 9 => 9 | 66 => 133 | 70 => 137 | 76 => 141 | 77 => 67 | n => n, fun | n => n⟩
theorem Try.sortF : Go.Proofs.SlLaysF.n6 Try.prog Try.sortF_ren := {
  mixed := by kernel_rfl
  f6 := ⟨Try.f55.name, by decide, Try.func55.trans (congrArg some (by kernel_rfl))⟩
  f14 := ⟨Try.f68.name, by decide, Try.func68.trans (congrArg some (by kernel_rfl))⟩
  f15 := Try.func69.trans (congrArg some (by kernel_rfl))
  f20 := ⟨Try.f75.name, by decide, Try.func75.trans (congrArg some (by kernel_rfl))⟩
  f21 := ⟨Try.f76.name, by decide, Try.func76.trans (congrArg some (by kernel_rfl))⟩
  f22 := ⟨Try.f77.name, by decide, Try.func77.trans (congrArg some (by kernel_rfl))⟩
  f23 := ⟨Try.f78.name, by decide, Try.func78.trans (congrArg some (by kernel_rfl))⟩
  f24 := ⟨Try.f79.name, by decide, Try.func79.trans (congrArg some (by kernel_rfl))⟩
  f25 := ⟨Try.f80.name, by decide, Try.func80.trans (congrArg some (by kernel_rfl))⟩
  f26 := ⟨Try.f81.name, by decide, Try.func81.trans (congrArg some (by kernel_rfl))⟩
  f27 := ⟨Try.f82.name, by decide, Try.func82.trans (congrArg some (by kernel_rfl))⟩
  f28 := Try.func83.trans (congrArg some (by kernel_rfl))
  f29 := Try.func84.trans (congrArg some (by kernel_rfl))
  f46 := ⟨Try.f89.name, by decide, Try.func89.trans (congrArg some (by kernel_rfl))⟩
  f47 := Try.func90.trans (congrArg some (by kernel_rfl))
  f48 := Try.func91.trans (congrArg some (by kernel_rfl))
  f49 := ⟨Try.f92.name, by decide, Try.func92.trans (congrArg some (by kernel_rfl))⟩
  f50 := ⟨Try.f93.name, by decide, Try.func93.trans (congrArg some (by kernel_rfl))⟩
  f57 := ⟨Try.f96.name, by decide, Try.func96.trans (congrArg some (by kernel_rfl))⟩
  t0 := Try.underlying0
  a0 := Try.isAgg0
  z0 := Try.sizeOf0
  v0 := Try.zeroValue0
  t3 := Try.underlying3
  a3 := Try.isAgg3
  z3 := Try.sizeOf3
  v3 := Try.zeroValue3
  t4 := Try.underlying4
  a4 := Try.isAgg4
  z4 := Try.sizeOf4
  v4 := Try.zeroValue4
  t5 := Try.underlying5
  a5 := Try.isAgg5
  z5 := Try.sizeOf5
  v5 := Try.zeroValue5
  t9 := Try.underlying9
  a9 := Try.isAgg9
  z9 := Try.sizeOf9
  v9 := Try.zeroValue9
  t22 := Try.underlying31
  a22 := Try.isAgg31
  z22 := Try.sizeOf31
  v22 := Try.zeroValue31
  a24 := Try.isAgg3
  z24 := Try.sizeOf3
  t25 := Try.underlying37
  a25 := Try.isAgg37
  z25 := Try.sizeOf37
  v25 := Try.zeroValue37
  t39 := Try.underlying111
  a39 := Try.isAgg111
  z39 := Try.sizeOf111
  v39 := Try.zeroValue111
  t45 := Try.underlying121
  a45 := Try.isAgg121
  z45 := Try.sizeOf121
  v45 := Try.zeroValue121
  t46 := Try.underlying122
  a46 := Try.isAgg122
  z46 := Try.sizeOf122
  v46 := Try.zeroValue122
  t50 := Try.underlying126
  a50 := Try.isAgg126
  z50 := Try.sizeOf126
  v50 := Try.zeroValue126
  t53 := Try.underlying129
  a53 := Try.isAgg129
  z53 := Try.sizeOf129
  v53 := Try.zeroValue129
  t55 := Try.underlying103
  a55 := Try.isAgg103
  z55 := Try.sizeOf103
  v55 := Try.zeroValue103
  t66 := Try.underlying133
  a66 := Try.isAgg133
  z66 := Try.sizeOf133
  v66 := Try.zeroValue133
  t70 := Try.underlying137
  a70 := Try.isAgg137
  z70 := Try.sizeOf137
  v70 := Try.zeroValue137
  t76 := Try.underlying141
  a76 := Try.isAgg141
  z76 := Try.sizeOf141
  v76 := Try.zeroValue141
  t77 := Try.underlying67
  a77 := Try.isAgg67
  z77 := Try.sizeOf67
  v77 := Try.zeroValue67 }

theorem ltOf_ordI : ltOf ordI = ordL := funext fun x => funext fun y => ordI_lt x y
theorem sortI_any (base : Nat) (v : Value) (xs : List Int) (w : World) (hown : OwnInts w base v xs) (hb : base ≤ w.heap.size) (hn : xs.length ≤ 1000) :
    Calls Try.prog 55 #[v, .func (.func 56) #[] #[]] w fun e w' => e = .returned (.tuple #[]) ∧ OwnInts w' base v (srtI xs) ∧ Below base w w' := by
  rcases hown.1.2 with ⟨rfl, h0⟩ | ⟨g, cap, cur, rfl, hbase, hheap, hnc, hcap, hcs, htake⟩
  · have hx : xs = [] := List.eq_nil_of_length_eq_zero h0
    subst hx
    have hcon := AnyF.slices_SortFunc_none { Try.sortF with } none 0 (.func (.func 56) #[] #[]) w
    change Calls Try.prog 55 _ _ _ at hcon
    exact hcon.mono fun _ _ ⟨he, hw⟩ => ⟨he, by subst hw; rw [show srtI [] = [] from List.perm_nil.1 (srtI_perm [])]; exact hown, by subst hw; exact Below.refl _ _⟩
  · have eg := enters_of Try.func56 (by kernel_rfl) rfl
    have hg : g < w.heap.size := (Array.getElem?_eq_some_iff.1 hheap).1
    have hH : Sort.Holds (Value.int .i64) w g 0 xs.toArray := holds_of_blockI hheap (by rw [← htake, Nat.mul_one])
    have hcmp : CmpLays1 Try.prog 56 #[] (Value.int .i64) ordI g 0 xs.toArray.size w := fun m os dk _ x y => order_any x y _
    have hcon := Any.slices_SortFunc_total Try.sortF (Value.int .i64) (fun _ => rfl) ordI (by rw [ltOf_ordI]; exact swo_ordL) 56 #[] g 0 cap xs.toArray w eg hcmp hH hg (by simp; omega) (by rw [ltOf_ordI]; exact ordL_total)
    change Calls Try.prog 55 _ _ _ at hcon
    rw [ltOf_ordI] at hcon
    have hcon' : Calls Try.prog 55 #[.slice (some ⟨g, 0, none⟩) xs.length cap, .func (.func 56) #[] #[]] w fun e w' => e = .returned (.tuple #[]) ∧ ∃ n os, w' = Sort.grow (Sort.putRow (Value.int .i64) (Sort.ahead w n) g 0 (srtI xs).toArray) os := hcon
    refine hcon'.mono fun _ _ ⟨he, n, os, hw⟩ => ⟨he, ?_, ?_⟩
    · subst hw
      refine ⟨?_, fun x hx => hown.2 x ((srtI_perm xs).mem_iff.1 hx)⟩
      have := ownsRow_sortedI (n := n) (os := os) (ts := srtI xs) (srtI_len xs) hbase hheap hnc hcap hcs
      rw [← srtI_len xs] at this
      rw [srtI_len xs] at this ⊢
      exact this
    · subst hw
      exact (Below.refl _ _).grown (grownBy_sortedI _) hb (fun k hk => by injection hk with hk; omega)
set_option maxHeartbeats 1000000 in
theorem sorted_any (A : Option Addr) (n c : Nat) (xs : List Int) (w : World) (hxs : IntsB w w.heap.size A n xs) (hn : n ≤ 1000) :
    Calls Try.prog 30 #[.slice A n c] w (CloneP w.heap.size (srtI xs) w) := by
  have hlen := hxs.len
  have HC := Lib.hid (cloneInts_any A n c xs w hxs (by omega))
  clear hxs
  go_enter Try.func30, Try.ntmps30
  go_wp2_with fail
  refine HC.out.mono ?_
  rintro e w1 ⟨v, rfl, hown, hb⟩
  have HS := Lib.hid (sortI_any w.heap.size v xs w1 hown hb.size (by omega))
  have HB := Lib.hid hb
  clear hown hb
  go_wp2_with fail
  refine HS.out.mono ?_
  rintro e w2 ⟨rfl, hown, hb⟩
  have HO := Lib.hid (And.intro hown (HB.out.trans hb))
  clear hown hb
  go_wp2_with fail
  go_ret
  exact ⟨v, rfl, HO.out.1, HO.out.2⟩
end Go.Proofs.Ytdncchlfeanlmaa
namespace Go.Proofs.Ytdncchlfeanlmaa
open Go.RowKit

set_option maxHeartbeats 1000000 in
theorem eqI_any (A A' : Option Addr) (n c n' c' : Nat) (xs ys : List Int) (R : Bool) (S S' : Nat → Prop) (w : World) (h : Arr AtInt 1 w S A n xs) (h' : Arr AtInt 1 w S' A' n' ys) (hn : n ≤ 9223372036854775807) (hn' : n' ≤ 9223372036854775807) (hR : decide (xs = ys) = R) :
    Calls Try.prog 33 #[.slice A n c, .slice A' n' c'] w (DrewP (.bool R) w) := by
  by_cases hnn : n = n'
  · subst hnn
    have hq0 : ((n : Int) != (n : Int)) = false := by simp
    have HR := Lib.hid hR
    clear hR
    go_enter Try.func33, Try.ntmps33
    go_wp2_with fail
    go_loopw [13] (fun s wr => ∃ k : Nat, k ≤ n ∧ s = .int .i64 k ∧ Arr AtInt 1 wr S A n xs ∧ Arr AtInt 1 wr S' A' n ys ∧ Hid (decide (xs.drop k = ys.drop k) = R) ∧ Hid (∃ m, wr = w.drewN m)) (fun s _ => n - (intOf s).toNat)
    case atStart => exact ⟨0, Nat.zero_le _, rfl, h, h', HR, 0, rfl⟩
    case round =>
      obtain ⟨k, hk, rfl, hl, hl', HK, HM⟩ := hrel
      clear h h'
      by_cases hlt : k < n
      · have HL := Lib.hid (And.intro hl hl')
        obtain ⟨b, off, hx, rfl, hb, hc, -⟩ := Arr.get hl hlt
        obtain ⟨b', off', hx', rfl, hb', hc', -⟩ := Arr.get hl' hlt
        rw [Nat.mul_one] at hc hc'
        have e1 := HK.out
        rw [drop_cons hx, drop_cons hx'] at e1
        simp only [List.cons.injEq] at e1
        generalize xs[k] = y at hc e1
        generalize ys[k] = z at hc' e1
        have hij : (k : Int) < n := by omega
        clear hl hl' hx hx' hb hb' HK
        by_cases hyz : y = z
        · subst hyz
          simp only [true_and] at e1
          have H1 := Lib.hid e1
          have hq : (y != y) = false := by simp
          clear e1
          go_wp2_with fail
          go_quiet (fail)
          go_wp2_with fail
          go_roundw
          case rel => exact ⟨k + 1, by omega, by go_num, HL.out.1.drewN stays_int _, HL.out.2.drewN stays_int _, H1, by obtain ⟨m, e⟩ := HM.out; exact ⟨m + nq, by rw [e, World.drewN_drewN]⟩⟩
          case measure => simp [intOf]; omega
        · simp only [hyz, false_and, decide_false] at e1
          have H1 := Lib.hid e1
          have hq : (y != z) = true := by simp [hyz]
          clear e1 hyz
          go_wp2_with fail
          go_quiet (fail)
          go_wp2_with fail
          go_ret
          exact ⟨ret_bool H1.out, by obtain ⟨m, e⟩ := HM.out; exact ⟨m + nq, by rw [e, World.drewN_drewN]⟩⟩
      · obtain rfl : n = k := by omega
        have e1 := HK.out
        rw [List.drop_of_length_le (by have := hl.len; omega), List.drop_of_length_le (by have := hl'.len; omega)] at e1
        simp only [decide_true] at e1
        have H1 := Lib.hid e1
        clear e1 HK
        go_wp2_with fail
        go_ret
        exact ⟨ret_bool H1.out, HM.out⟩
  · have hne : R = false := by
      rw [← hR, decide_eq_false_iff_not]
      intro e
      have h1 := h.len
      have h2 := h'.len
      rw [e] at h1
      omega
    subst hne
    have hq0 : ((n : Int) != (n' : Int)) = true := by rw [bne_iff_ne]; omega
    clear hR h h' hnn
    go_enter Try.func33, Try.ntmps33
    go_wp2_with fail
    go_ret
    exact ⟨rfl, 0, rfl⟩
end Go.Proofs.Ytdncchlfeanlmaa
namespace Go.Proofs.Ytdncchlfeanlmaa
open Go.RowKit

set_option maxRecDepth 100000 in
set_option maxHeartbeats 2000000 in
theorem step1_any (B : Nat) (A : Option Addr) (n c : Nat) (xs : List Int) (Y : Option Addr) (ny cy : Nat) (ys : List Int) (w : World) (hB : B < w.heap.size) (hc : w.cell? ⟨B, 0, none⟩ = some (.slice Y ny cy))
    (hxs : IntsB w w.heap.size A n xs) (hys : IntsB w w.heap.size Y ny ys) (hn : n ≤ 1000) (hny : ny ≤ 1000) :
    Calls Try.prog 32 #[.slice A n c, .pointer (some ⟨B, 0, none⟩)] w fun e w' => e = .returned (.bool (decide (srtI xs = ys))) ∧ Below w.heap.size w w' := by
  obtain ⟨R, hR⟩ : ∃ R, decide (srtI xs = ys) = R := ⟨_, rfl⟩
  rw [hR]
  have HS : Hid (∀ W, Below w.heap.size w W → Calls Try.prog 30 #[.slice A n c] W (CloneP W.heap.size (srtI xs) W)) := fun W hW => sorted_any A n c xs W (hxs.below stays_int hW hW.size) hn
  have hsl : (srtI xs).length = n := by rw [srtI_len]; exact hxs.len
  have H := Lib.hid (And.intro hB (And.intro hc (And.intro hys (And.intro hR hsl))))
  clear hR hsl hxs hys
  go_enter Try.func32, Try.ntmps32
  go_wp2_with fail
  go_region_with (first
    | (go_at_call 30
       with_reducible refine (HS.out w.drew (below_drewN (Below.refl _ _) 1)).mono ?_
       rintro e w9 ⟨v, rfl, hown, hb9⟩
       have hbw : Below w.heap.size w w9 := below_of_drew hb9
       obtain ⟨A9, c9, rfl, hc9, hc9m, har⟩ := hown.reads
       rw [H.out.2.2.2.2] at har ⊢
       have hcB : w9.cell? ⟨B, 0, none⟩ = some (.slice Y ny cy) := (hbw.cell (p := ⟨B, 0, none⟩) H.out.1).trans H.out.2.1
       have HE9 := Lib.hid (eqI_any A9 Y n c9 ny cy (srtI xs) ys R _ _ w9 har (H.out.2.2.1.below stays_int hbw (Nat.le_refl _)) (by omega) (by omega) H.out.2.2.2.1)
       have HB9 := Lib.hid hbw
       clear hown hb9 hbw har hc9 hc9m
       go_simp)
    | (go_at_call 33
       with_reducible refine HE9.out.mono ?_
       rintro e w8 ⟨rfl, m8, rfl⟩
       go_simp))
  all_goals go_wp2_with fail
  all_goals go_ret
  all_goals exact ⟨rfl, below_drewN HB9.out _⟩
end Go.Proofs.Ytdncchlfeanlmaa
