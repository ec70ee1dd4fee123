/- Walks: cnf.Sorted: a clause's literals in order, in a row of the call's own. · Walk: slices.Equal over numbers (the text of AskN, for seats without the asks). · Walk: the test that a clause is the one that is looked for (judge.(*state).step$1). -/
import Derived.Test.YthjfiomcpihlaaaGreatJuNO
import Derived.Test.YthjfiomcpihlaaaGreatClRA
import Derived.Shelf.SlSortCmp.NoneTotal
import Derived.Sort.OwnSortedInts
import Derived.Ground.SlsfProg
import Derived.Test.YthjfiomcpihlaaaGreatFuFr
import Derived.Deep.QuietTactic
import Derived.BigQuiet
import Derived.Deep.RegionWith
namespace Go.Proofs.YthjfiomcpihlaaaGreat
open Go.RowKit

def Tryz.sortF_ren : Go.Shelf.Ren := ⟨fun | 6 => 60 | 15 => 87 | 14 => 86 | 28 => 103 | 29 => 104 | 20 => 95 | 21 => 96 | 22 => 97 | 23 => 98 | 24 => 99 | 25 => 100 | 26 => 101 | 27 => 102 | 46 => 109 | 47 => 110 | 48 => 111 | 49 => 112 | 50 => 113 | 57 => 116 | n => n, fun | 22 => 40 | 24 => 3 | 25 => 100 | 3 => 3 | 39 => 121 | 0 => 0 | 53 => 140 | 55 => 113 | 4 => 4 | 46 => 133 | 45 => 132 | 50 => 137 | 5 => 5 | 9 => 9 | 66 => 144 | 70 => 148 | 76 => 152 | 77 => 77 | n => n, fun | n => n⟩
theorem Tryz.sortF : Go.Proofs.SlLaysF.n6 Tryz.prog Tryz.sortF_ren := {
  mixed := by kernel_rfl
  f6 := ⟨Tryz.f60.name, by decide, Tryz.func60.trans (congrArg some (by kernel_rfl))⟩
  f14 := ⟨Tryz.f86.name, by decide, Tryz.func86.trans (congrArg some (by kernel_rfl))⟩
  f15 := Tryz.func87.trans (congrArg some (by kernel_rfl))
  f20 := ⟨Tryz.f95.name, by decide, Tryz.func95.trans (congrArg some (by kernel_rfl))⟩
  f21 := ⟨Tryz.f96.name, by decide, Tryz.func96.trans (congrArg some (by kernel_rfl))⟩
  f22 := ⟨Tryz.f97.name, by decide, Tryz.func97.trans (congrArg some (by kernel_rfl))⟩
  f23 := ⟨Tryz.f98.name, by decide, Tryz.func98.trans (congrArg some (by kernel_rfl))⟩
  f24 := ⟨Tryz.f99.name, by decide, Tryz.func99.trans (congrArg some (by kernel_rfl))⟩
  f25 := ⟨Tryz.f100.name, by decide, Tryz.func100.trans (congrArg some (by kernel_rfl))⟩
  f26 := ⟨Tryz.f101.name, by decide, Tryz.func101.trans (congrArg some (by kernel_rfl))⟩
  f27 := ⟨Tryz.f102.name, by decide, Tryz.func102.trans (congrArg some (by kernel_rfl))⟩
  f28 := Tryz.func103.trans (congrArg some (by kernel_rfl))
  f29 := Tryz.func104.trans (congrArg some (by kernel_rfl))
  f46 := ⟨Tryz.f109.name, by decide, Tryz.func109.trans (congrArg some (by kernel_rfl))⟩
  f47 := Tryz.func110.trans (congrArg some (by kernel_rfl))
  f48 := Tryz.func111.trans (congrArg some (by kernel_rfl))
  f49 := ⟨Tryz.f112.name, by decide, Tryz.func112.trans (congrArg some (by kernel_rfl))⟩
  f50 := ⟨Tryz.f113.name, by decide, Tryz.func113.trans (congrArg some (by kernel_rfl))⟩
  f57 := ⟨Tryz.f116.name, by decide, Tryz.func116.trans (congrArg some (by kernel_rfl))⟩
  t0 := Tryz.underlying0
  a0 := Tryz.isAgg0
  z0 := Tryz.sizeOf0
  v0 := Tryz.zeroValue0
  t3 := Tryz.underlying3
  a3 := Tryz.isAgg3
  z3 := Tryz.sizeOf3
  v3 := Tryz.zeroValue3
  t4 := Tryz.underlying4
  a4 := Tryz.isAgg4
  z4 := Tryz.sizeOf4
  v4 := Tryz.zeroValue4
  t5 := Tryz.underlying5
  a5 := Tryz.isAgg5
  z5 := Tryz.sizeOf5
  v5 := Tryz.zeroValue5
  t9 := Tryz.underlying9
  a9 := Tryz.isAgg9
  z9 := Tryz.sizeOf9
  v9 := Tryz.zeroValue9
  t22 := Tryz.underlying40
  a22 := Tryz.isAgg40
  z22 := Tryz.sizeOf40
  v22 := Tryz.zeroValue40
  a24 := Tryz.isAgg3
  z24 := Tryz.sizeOf3
  t25 := Tryz.underlying100
  a25 := Tryz.isAgg100
  z25 := Tryz.sizeOf100
  v25 := Tryz.zeroValue100
  t39 := Tryz.underlying121
  a39 := Tryz.isAgg121
  z39 := Tryz.sizeOf121
  v39 := Tryz.zeroValue121
  t45 := Tryz.underlying132
  a45 := Tryz.isAgg132
  z45 := Tryz.sizeOf132
  v45 := Tryz.zeroValue132
  t46 := Tryz.underlying133
  a46 := Tryz.isAgg133
  z46 := Tryz.sizeOf133
  v46 := Tryz.zeroValue133
  t50 := Tryz.underlying137
  a50 := Tryz.isAgg137
  z50 := Tryz.sizeOf137
  v50 := Tryz.zeroValue137
  t53 := Tryz.underlying140
  a53 := Tryz.isAgg140
  z53 := Tryz.sizeOf140
  v53 := Tryz.zeroValue140
  t55 := Tryz.underlying113
  a55 := Tryz.isAgg113
  z55 := Tryz.sizeOf113
  v55 := Tryz.zeroValue113
  t66 := Tryz.underlying144
  a66 := Tryz.isAgg144
  z66 := Tryz.sizeOf144
  v66 := Tryz.zeroValue144
  t70 := Tryz.underlying148
  a70 := Tryz.isAgg148
  z70 := Tryz.sizeOf148
  v70 := Tryz.zeroValue148
  t76 := Tryz.underlying152
  a76 := Tryz.isAgg152
  z76 := Tryz.sizeOf152
  v76 := Tryz.zeroValue152
  t77 := Tryz.underlying77
  a77 := Tryz.isAgg77
  z77 := Tryz.sizeOf77
  v77 := Tryz.zeroValue77 }

theorem ltOf_ordI : ltOf ordI = ordL := funext fun x => funext fun y => ordI_lt x y
theorem sortI_any (base : Nat) (v : Value) (xs : List Int) (w : World) (hown : OwnInts w base v xs) (hb : base ≤ w.heap.size) (hn : xs.length ≤ 1000) :
    Calls Tryz.prog 60 #[v, .func (.func 61) #[] #[]] w fun e w' => e = .returned (.tuple #[]) ∧ OwnInts w' base v (srtI xs) ∧ Below base w w' := by
  rcases hown.1.2 with ⟨rfl, h0⟩ | ⟨g, cap, cur, rfl, hbase, hheap, hnc, hcap, hcs, htake⟩
  · have hx : xs = [] := List.eq_nil_of_length_eq_zero h0
    subst hx
    have hcon := AnyF.slices_SortFunc_none { Tryz.sortF with } none 0 (.func (.func 61) #[] #[]) w
    change Calls Tryz.prog 60 _ _ _ at hcon
    exact hcon.mono fun _ _ ⟨he, hw⟩ => ⟨he, by subst hw; rw [show srtI [] = [] from List.perm_nil.1 (srtI_perm [])]; exact hown, by subst hw; exact Below.refl _ _⟩
  · have eg := enters_of Tryz.func61 (by kernel_rfl) rfl
    have hg : g < w.heap.size := (Array.getElem?_eq_some_iff.1 hheap).1
    have hH : Sort.Holds (Value.int .i64) w g 0 xs.toArray := holds_of_blockI hheap (by rw [← htake, Nat.mul_one])
    have hcmp : CmpLays1 Tryz.prog 61 #[] (Value.int .i64) ordI g 0 xs.toArray.size w := fun m os dk _ x y => order_any x y _
    have hcon := Any.slices_SortFunc_total Tryz.sortF (Value.int .i64) (fun _ => rfl) ordI (by rw [ltOf_ordI]; exact swo_ordL) 61 #[] g 0 cap xs.toArray w eg hcmp hH hg (by simp; omega) (by rw [ltOf_ordI]; exact ordL_total)
    change Calls Tryz.prog 60 _ _ _ at hcon
    rw [ltOf_ordI] at hcon
    have hcon' : Calls Tryz.prog 60 #[.slice (some ⟨g, 0, none⟩) xs.length cap, .func (.func 61) #[] #[]] w fun e w' => e = .returned (.tuple #[]) ∧ ∃ n os, w' = Sort.grow (Sort.putRow (Value.int .i64) (Sort.ahead w n) g 0 (srtI xs).toArray) os := hcon
    refine hcon'.mono fun _ _ ⟨he, n, os, hw⟩ => ⟨he, ?_, ?_⟩
    · subst hw
      refine ⟨?_, fun x hx => hown.2 x ((srtI_perm xs).mem_iff.1 hx)⟩
      have := ownsRow_sortedI (n := n) (os := os) (ts := srtI xs) (srtI_len xs) hbase hheap hnc hcap hcs
      rw [← srtI_len xs] at this
      rw [srtI_len xs] at this ⊢
      exact this
    · subst hw
      exact (Below.refl _ _).grown (grownBy_sortedI _) hb (fun k hk => by injection hk with hk; omega)
set_option maxHeartbeats 1000000 in
theorem sorted_any (A : Option Addr) (n c : Nat) (xs : List Int) (w : World) (hxs : IntsB w w.heap.size A n xs) (hn : n ≤ 1000) :
    Calls Tryz.prog 24 #[.slice A n c] w (CloneP w.heap.size (srtI xs) w) := by
  have hlen := hxs.len
  have HC := Lib.hid (cloneInts_any A n c xs w hxs (by omega))
  clear hxs
  go_enter Tryz.func24, Tryz.ntmps24
  go_wp2_with fail
  refine HC.out.mono ?_
  rintro e w1 ⟨v, rfl, hown, hb⟩
  have HS := Lib.hid (sortI_any w.heap.size v xs w1 hown hb.size (by omega))
  have HB := Lib.hid hb
  clear hown hb
  go_wp2_with fail
  refine HS.out.mono ?_
  rintro e w2 ⟨rfl, hown, hb⟩
  have HO := Lib.hid (And.intro hown (HB.out.trans hb))
  clear hown hb
  go_wp2_with fail
  go_ret
  exact ⟨v, rfl, HO.out.1, HO.out.2⟩
end Go.Proofs.YthjfiomcpihlaaaGreat
namespace Go.Proofs.YthjfiomcpihlaaaGreat
open Go.RowKit

set_option maxHeartbeats 1000000 in
theorem eqI_any (A A' : Option Addr) (n c n' c' : Nat) (xs ys : List Int) (R : Bool) (S S' : Nat → Prop) (w : World) (h : Arr AtInt 1 w S A n xs) (h' : Arr AtInt 1 w S' A' n' ys) (hn : n ≤ 9223372036854775807) (hn' : n' ≤ 9223372036854775807) (hR : decide (xs = ys) = R) :
    Calls Tryz.prog 27 #[.slice A n c, .slice A' n' c'] w (DrewP (.bool R) w) := by
  by_cases hnn : n = n'
  · subst hnn
    have hq0 : ((n : Int) != (n : Int)) = false := by simp
    have HR := Lib.hid hR
    clear hR
    go_enter Tryz.func27, Tryz.ntmps27
    go_wp2_with fail
    go_loopw [13] (fun s wr => ∃ k : Nat, k ≤ n ∧ s = .int .i64 k ∧ Arr AtInt 1 wr S A n xs ∧ Arr AtInt 1 wr S' A' n ys ∧ Hid (decide (xs.drop k = ys.drop k) = R) ∧ Hid (∃ m, wr = w.drewN m)) (fun s _ => n - (intOf s).toNat)
    case atStart => exact ⟨0, Nat.zero_le _, rfl, h, h', HR, 0, rfl⟩
    case round =>
      obtain ⟨k, hk, rfl, hl, hl', HK, HM⟩ := hrel
      clear h h'
      by_cases hlt : k < n
      · have HL := Lib.hid (And.intro hl hl')
        obtain ⟨b, off, hx, rfl, hb, hc, -⟩ := Arr.get hl hlt
        obtain ⟨b', off', hx', rfl, hb', hc', -⟩ := Arr.get hl' hlt
        rw [Nat.mul_one] at hc hc'
        have e1 := HK.out
        rw [drop_cons hx, drop_cons hx'] at e1
        simp only [List.cons.injEq] at e1
        generalize xs[k] = y at hc e1
        generalize ys[k] = z at hc' e1
        have hij : (k : Int) < n := by omega
        clear hl hl' hx hx' hb hb' HK
        by_cases hyz : y = z
        · subst hyz
          simp only [true_and] at e1
          have H1 := Lib.hid e1
          have hq : (y != y) = false := by simp
          clear e1
          go_wp2_with fail
          go_quiet (fail)
          go_wp2_with fail
          go_roundw
          case rel => exact ⟨k + 1, by omega, by go_num, HL.out.1.drewN stays_int _, HL.out.2.drewN stays_int _, H1, by obtain ⟨m, e⟩ := HM.out; exact ⟨m + nq, by rw [e, World.drewN_drewN]⟩⟩
          case measure => simp [intOf]; omega
        · simp only [hyz, false_and, decide_false] at e1
          have H1 := Lib.hid e1
          have hq : (y != z) = true := by simp [hyz]
          clear e1 hyz
          go_wp2_with fail
          go_quiet (fail)
          go_wp2_with fail
          go_ret
          exact ⟨ret_bool H1.out, by obtain ⟨m, e⟩ := HM.out; exact ⟨m + nq, by rw [e, World.drewN_drewN]⟩⟩
      · obtain rfl : n = k := by omega
        have e1 := HK.out
        rw [List.drop_of_length_le (by have := hl.len; omega), List.drop_of_length_le (by have := hl'.len; omega)] at e1
        simp only [decide_true] at e1
        have H1 := Lib.hid e1
        clear e1 HK
        go_wp2_with fail
        go_ret
        exact ⟨ret_bool H1.out, HM.out⟩
  · have hne : R = false := by
      rw [← hR, decide_eq_false_iff_not]
      intro e
      have h1 := h.len
      have h2 := h'.len
      rw [e] at h1
      omega
    subst hne
    have hq0 : ((n : Int) != (n' : Int)) = true := by rw [bne_iff_ne]; omega
    clear hR h h' hnn
    go_enter Tryz.func27, Tryz.ntmps27
    go_wp2_with fail
    go_ret
    exact ⟨rfl, 0, rfl⟩
end Go.Proofs.YthjfiomcpihlaaaGreat
namespace Go.Proofs.YthjfiomcpihlaaaGreat
open Go.RowKit

set_option maxRecDepth 100000 in
set_option maxHeartbeats 2000000 in
theorem step1_any (B : Nat) (A : Option Addr) (n c : Nat) (xs : List Int) (Y : Option Addr) (ny cy : Nat) (ys : List Int) (w : World) (hB : B < w.heap.size) (hc : w.cell? ⟨B, 0, none⟩ = some (.slice Y ny cy))
    (hxs : IntsB w w.heap.size A n xs) (hys : IntsB w w.heap.size Y ny ys) (hn : n ≤ 1000) (hny : ny ≤ 1000) :
    Calls Tryz.prog 26 #[.slice A n c, .pointer (some ⟨B, 0, none⟩)] w fun e w' => e = .returned (.bool (decide (srtI xs = ys))) ∧ Below w.heap.size w w' := by
  obtain ⟨R, hR⟩ : ∃ R, decide (srtI xs = ys) = R := ⟨_, rfl⟩
  rw [hR]
  have HS : Hid (∀ W, Below w.heap.size w W → Calls Tryz.prog 24 #[.slice A n c] W (CloneP W.heap.size (srtI xs) W)) := fun W hW => sorted_any A n c xs W (hxs.below stays_int hW hW.size) hn
  have hsl : (srtI xs).length = n := by rw [srtI_len]; exact hxs.len
  have H := Lib.hid (And.intro hB (And.intro hc (And.intro hys (And.intro hR hsl))))
  clear hR hsl hxs hys
  go_enter Tryz.func26, Tryz.ntmps26
  go_wp2_with fail
  go_region_with (first
    | (go_at_call 24
       with_reducible refine (HS.out w.drew (below_drewN (Below.refl _ _) 1)).mono ?_
       rintro e w9 ⟨v, rfl, hown, hb9⟩
       have hbw : Below w.heap.size w w9 := below_of_drew hb9
       obtain ⟨A9, c9, rfl, hc9, hc9m, har⟩ := hown.reads
       rw [H.out.2.2.2.2] at har ⊢
       have hcB : w9.cell? ⟨B, 0, none⟩ = some (.slice Y ny cy) := (hbw.cell (p := ⟨B, 0, none⟩) H.out.1).trans H.out.2.1
       have HE9 := Lib.hid (eqI_any A9 Y n c9 ny cy (srtI xs) ys R _ _ w9 har (H.out.2.2.1.below stays_int hbw (Nat.le_refl _)) (by omega) (by omega) H.out.2.2.2.1)
       have HB9 := Lib.hid hbw
       clear hown hb9 hbw har hc9 hc9m
       go_simp)
    | (go_at_call 27
       with_reducible refine HE9.out.mono ?_
       rintro e w8 ⟨rfl, m8, rfl⟩
       go_simp))
  all_goals go_wp2_with fail
  all_goals go_ret
  all_goals exact ⟨rfl, below_drewN HB9.out _⟩
end Go.Proofs.YthjfiomcpihlaaaGreat
