/- Walks: the reference's comparison of numbers; slices.IndexFunc and ContainsFunc over the rows of a meaning. · Walks: the tests of the rows of a meaning. -/
import Derived.Test.YthooecojopfjbaaMeanC
namespace Go.Proofs.Ythooecojopfjbaa
open Go.RowKit

theorem entries_get {w : World} {B : Nat} {A : Option Addr} {n : Nat} {xs : List EntryD} (h : ArrB AtEntry 5 w B A n xs) {i : Nat} (hi : i < n) :
    ∃ (b off : Nat) (hx : i < xs.length) (A' : Option Addr) (n' c' : Nat) (A2 : Option Addr) (n2 c2 : Nat), A = some ⟨b, off, none⟩ ∧ b < B ∧ w.cell? ⟨b, off + i * 5, none⟩ = some (.slice A' n' c') ∧ w.cell? ⟨b, off + i * 5 + 1, none⟩ = some (.int .i64 xs[i].to_.num) ∧
      w.cell? ⟨b, off + i * 5 + 1 + 1, none⟩ = some (.int .i64 xs[i].to_.den) ∧ w.cell? ⟨b, off + i * 5 + 1 + 2, none⟩ = some (.slice A2 n2 c2) ∧ w.cell? ⟨b, off + i * 5 + 1 + 3, none⟩ = some (.int .i64 xs[i].to_.rest) ∧
      IntsB w B A' n' xs[i].args ∧ ArrB AtCell 2 w B A2 n2 xs[i].to_.cells ∧ n' ≤ 9223372036854775807 ∧ n2 ≤ 9223372036854775807 := by
  obtain ⟨b, off, hx, e, hb, ⟨A', n', c', h0, h1, h2, h3⟩, h4, h5, ⟨A2, n2, c2, h6, h7, h8, h9⟩, h10⟩ := Arr.get h hi
  unfold maxLen at h2 h8
  exact ⟨b, off, hx, A', n', c', A2, n2, c2, e, hb, h0, h4.1, h5.1, h6, h10.1, h3, h9, by omega, by omega⟩
/-- the function g (with what it captured) tells p of each row of xs, and makes new blocks at most -/
def PredEntry (P : Program) (g : Nat) (lb : Array Value) (p : EntryD → Bool) (xs : List EntryD) (w : World) : Prop :=
  ∀ (W : World) (x : EntryD) (A : Option Addr) (n c : Nat) (A2 : Option Addr) (n2 c2 : Nat), x ∈ xs → Below w.heap.size w W → IntsB W w.heap.size A n x.args → ArrB AtCell 2 W w.heap.size A2 n2 x.to_.cells → n ≤ 9223372036854775807 → n2 ≤ 9223372036854775807 →
    Calls P g (#[.agg #[.slice A n c, .int .i64 x.to_.num, .int .i64 x.to_.den, .slice A2 n2 c2, .int .i64 x.to_.rest]] ++ lb) W fun e w' => e = .returned (.bool (p x)) ∧ Below w.heap.size w w'

set_option maxHeartbeats 1000000 in
theorem indexEntries_any (g : Nat) (lb : Array Value) (eg : ∀ args w, (callFunc g args).run Try.prog w = .ok (.enter g args) w) (p : EntryD → Bool) (A : Option Addr) (n c : Nat) (xs : List EntryD) (R : Int) (w : World)
    (hxs : ArrB AtEntry 5 w w.heap.size A n xs) (hn : n ≤ 9223372036854775807) (hp : PredEntry Try.prog g lb p xs w) (hR : idx p xs 0 = R) :
    Calls Try.prog 139 #[.slice A n c, .func (.func g) #[] lb] w fun e w' => e = .returned (.int .i64 R) ∧ Below w.heap.size w w' := by
  have HP := Lib.hid hp
  have HR := Lib.hid hR
  clear hp hR
  go_enter Try.func139, Try.ntmps139
  go_wp2_with fail
  go_loopw [8] (fun s wr => ∃ k : Nat, k ≤ n ∧ s = .int .i64 k ∧ Hid (idx p (xs.drop k) k = R) ∧ Below w.heap.size w wr) (fun s _ => n - (intOf s).toNat)
  case atStart => exact ⟨0, Nat.zero_le _, rfl, HR, Below.refl _ _⟩
  case round =>
    obtain ⟨k, hk, rfl, HK, hbel⟩ := hrel
    by_cases hlt : k < n
    · obtain ⟨b, off, hx, A', n', c', A2, n2, c2, rfl, hb, hc0, hc1, hc2, hc3, hc4, hca, hcc, hcn, hcn2⟩ := entries_get (hxs.below stays_entry hbel (Nat.le_refl _)) hlt
      have hcall := HP.out wr xs[k] A' n' c' A2 n2 c2 (List.getElem_mem hx) hbel hca hcc hcn hcn2
      have e1 := HK.out
      rw [drop_cons hx, idx] at e1
      have HX := Lib.hid hx
      generalize xs[k] = y at hcall e1 hc1 hc2 hc4 hca hcc
      clear HK hx hxs hca hcc hcn hcn2
      cases hq : p y with
      | true =>
        rw [hq] at hcall e1
        have e2 : (k : Int) = R := e1
        have HC := Lib.hid hcall
        have H2 := Lib.hid e2
        clear hcall e1 hq e2
        go_wp2_with (go_at_fn g; refine HC.out.mono ?_; rintro e w' ⟨rfl, hb'⟩)
        go_ret
        exact ⟨ret_int H2.out, hb'⟩
      | false =>
        rw [hq] at hcall e1
        have e2 : idx p (xs.drop (k + 1)) ((k : Int) + 1) = R := e1
        have HC := Lib.hid hcall
        have H2 := Lib.hid e2
        clear hcall e1 hq e2
        go_wp2_with (go_at_fn g; refine HC.out.mono ?_; rintro e w' ⟨rfl, hb'⟩)
        go_roundw
        case rel => exact ⟨k + 1, by omega, by go_num, by show _ = _; rw [Int.natCast_add]; exact H2.out, hb'⟩
        case measure => simp [intOf]; omega
    · obtain rfl : k = n := by omega
      have e1 := HK.out
      rw [List.drop_of_length_le (by have := hxs.len; omega), idx] at e1
      have H1 := Lib.hid e1
      clear e1 HK
      go_wp2_with fail
      go_ret
      exact ⟨ret_int H1.out, hbel⟩

set_option maxHeartbeats 1000000 in
theorem containsEntries_any (g : Nat) (lb : Array Value) (eg : ∀ args w, (callFunc g args).run Try.prog w = .ok (.enter g args) w) (p : EntryD → Bool) (A : Option Addr) (n c : Nat) (xs : List EntryD) (R : Bool) (w : World)
    (hxs : ArrB AtEntry 5 w w.heap.size A n xs) (hn : n ≤ 9223372036854775807) (hp : PredEntry Try.prog g lb p xs w) (hR : xs.any p = R) :
    Calls Try.prog 121 #[.slice A n c, .func (.func g) #[] lb] w fun e w' => e = .returned (.bool R) ∧ Below w.heap.size w w' := by
  have HH := Lib.hid (indexEntries_any g lb eg p A n c xs _ w hxs hn hp rfl)
  have h0 := idx_any p xs 0 (by omega)
  rw [hR] at h0
  generalize idx p xs 0 = r at HH h0
  have H0 := Lib.hid h0
  clear h0 hR hp hxs
  go_enter Try.func121, Try.ntmps121
  go_wp2_with fail
  refine HH.out.mono ?_
  rintro e w' ⟨rfl, hb⟩
  go_wp2_with fail
  go_ret
  exact ⟨ret_bool H0.out, hb⟩

end Go.Proofs.Ythooecojopfjbaa
namespace Go.Proofs.Ythooecojopfjbaa
open Go.RowKit

set_option maxHeartbeats 1000000 in
theorem mean1_any (x : EntryD) (A : Option Addr) (n c : Nat) (A2 : Option Addr) (n2 c2 : Nat) (B : Nat) (AD : Option Addr) (nd cd : Nat) (w : World) (hB : w.cell? ⟨B, 1, none⟩ = some (.slice AD nd cd)) (hlt : B < w.heap.size) (hx : x.args.length = n) :
    Calls Try.prog 122 #[.agg #[.slice A n c, .int .i64 x.to_.num, .int .i64 x.to_.den, .slice A2 n2 c2, .int .i64 x.to_.rest], .pointer (some ⟨B, 0, none⟩)] w fun e w' => e = .returned (.bool (sizeBad nd x)) ∧ Below w.heap.size w w' := by
  have hs : ((n : Int) != (nd : Int)) = sizeBad nd x := by
    rw [sizeBad, hx, Bool.eq_iff_iff, bne_iff_ne, decide_eq_true_eq]
    omega
  have HS := Lib.hid hs
  have HB : Hid (Below w.heap.size w (w.alloc (.cells #[.slice A n c, .int .i64 x.to_.num, .int .i64 x.to_.den, .slice A2 n2 c2, .int .i64 x.to_.rest] 91))) := (Below.refl _ _).alloc (Nat.le_refl _) _
  clear hs hx
  generalize sizeBad nd x = R at HS ⊢
  go_enter Try.func122, Try.ntmps122
  go_wp2_with fail
  go_ret
  exact ⟨ret_bool HS.out, HB.out⟩

set_option maxHeartbeats 1000000 in
theorem mean21_any (y : Int) (w : World) : Calls Try.prog 124 #[.int .i64 y] w fun e w' => e = .returned (.bool (!thingB y)) ∧ w = w' := by
  have HT := Lib.hid (thing_is y _ rfl)
  generalize thingB y = b at HT ⊢
  go_enter Try.func124, Try.ntmps124
  go_wp2_with (go_at_call 125; refine (HT.out _).mono ?_; rintro e w' ⟨rfl, rfl⟩)
  go_ret
  exact ⟨rfl, rfl⟩

set_option maxHeartbeats 1000000 in
theorem mean2_any (x : EntryD) (A : Option Addr) (n c : Nat) (A2 : Option Addr) (n2 c2 : Nat) (B0 : Nat) (w : World) (hB : B0 ≤ w.heap.size) (ha : IntsB w B0 A n x.args) (hn : n ≤ 1000000) :
    Calls Try.prog 123 #[.agg #[.slice A n c, .int .i64 x.to_.num, .int .i64 x.to_.den, .slice A2 n2 c2, .int .i64 x.to_.rest]] w fun e w' => e = .returned (.bool (rangeBad x)) ∧ Below w.heap.size w w' := by
  have eg : ∀ args w, (callFunc 124 args).run Try.prog w = .ok (.enter 124 args) w := enters_of Try.func124 (by kernel_rfl) rfl
  have hb0 : Below w.heap.size w (w.alloc (.cells #[.slice A n c, .int .i64 x.to_.num, .int .i64 x.to_.den, .slice A2 n2 c2, .int .i64 x.to_.rest] 91)) := (Below.refl _ _).alloc (Nat.le_refl _) _
  have HC := Lib.hid (containsInts_any 124 #[] eg (fun y => !thingB y) A n c x.args (rangeBad x) (w.alloc (.cells #[.slice A n c, .int .i64 x.to_.num, .int .i64 x.to_.den, .slice A2 n2 c2, .int .i64 x.to_.rest] 91)) (ha.below stays_int (hb0.mono hB) (Nat.le_trans hB hb0.size)) hn (fun W y _ hb => (mean21_any y W).mono fun _ _ ⟨he, hw⟩ => ⟨he, hw ▸ hb⟩) rfl)
  have HB := Lib.hid hb0
  clear ha hb0 eg
  generalize rangeBad x = R at HC ⊢
  go_enter Try.func123, Try.ntmps123
  go_wp2_with fail
  refine HC.out.mono ?_
  rintro e w' ⟨rfl, hb⟩
  go_wp2_with fail
  go_ret
  exact ⟨rfl, HB.out.trans (hb.mono HB.out.size)⟩

set_option maxHeartbeats 1000000 in
theorem mean3_any (x y : EntryD) (A : Option Addr) (n c : Nat) (A2 : Option Addr) (n2 c2 : Nat) (B0 : Nat) (B : Nat) (AY : Option Addr) (ny cy : Nat) (w : World) (hB0 : B0 ≤ w.heap.size) (ha : IntsB w B0 A n x.args) (hn : n ≤ 9223372036854775807)
    (hB : w.cell? ⟨B, 0, none⟩ = some (.slice AY ny cy)) (hlt : B < w.heap.size) (hy : IntsB w B0 AY ny y.args) (hny : ny ≤ 9223372036854775807) :
    Calls Try.prog 126 #[.agg #[.slice A n c, .int .i64 x.to_.num, .int .i64 x.to_.den, .slice A2 n2 c2, .int .i64 x.to_.rest], .pointer (some ⟨B, 0, none⟩)] w fun e w' => e = .returned (.bool (sameArgs y x)) ∧ Below w.heap.size w w' := by
  have hb0 : Below w.heap.size w (w.alloc (.cells #[.slice A n c, .int .i64 x.to_.num, .int .i64 x.to_.den, .slice A2 n2 c2, .int .i64 x.to_.rest] 91)) := (Below.refl _ _).alloc (Nat.le_refl _) _
  have HC := Lib.hid (equalInts_any A AY n c ny cy x.args y.args (sameArgs y x) _ _ (w.alloc (.cells #[.slice A n c, .int .i64 x.to_.num, .int .i64 x.to_.den, .slice A2 n2 c2, .int .i64 x.to_.rest] 91)) (ha.below stays_int (hb0.mono hB0) (Nat.le_trans hB0 hb0.size)) (hy.below stays_int (hb0.mono hB0) (Nat.le_trans hB0 hb0.size)) hn hny rfl)
  have HB := Lib.hid hb0
  clear ha hy hb0
  generalize sameArgs y x = R at HC ⊢
  go_enter Try.func126, Try.ntmps126
  go_wp2_with fail
  refine HC.out.mono ?_
  rintro e w' ⟨rfl, m, rfl⟩
  go_wp2_with fail
  go_ret
  exact ⟨rfl, below_drewN HB.out _⟩

set_option maxHeartbeats 1000000 in
theorem mean4_any (x : EntryD) (A : Option Addr) (n c : Nat) (A2 : Option Addr) (n2 c2 : Nat) (B0 : Nat) (B : Nat) (so : Int) (w : World) (hB0 : B0 ≤ w.heap.size) (ha : ArrB AtCell 2 w B0 A2 n2 x.to_.cells) (hn2 : n2 ≤ 9223372036854775807)
    (hB : w.cell? ⟨B, 2, none⟩ = some (.int .i64 so)) (hlt : B < w.heap.size) :
    Calls Try.prog 128 #[.agg #[.slice A n c, .int .i64 x.to_.num, .int .i64 x.to_.den, .slice A2 n2 c2, .int .i64 x.to_.rest], .pointer (some ⟨B, 0, none⟩)] w fun e w' => e = .returned (.bool (toBad so x)) ∧ Below w.heap.size w w' := by
  have hb0 : Below w.heap.size w (w.alloc (.cells #[.slice A n c, .int .i64 x.to_.num, .int .i64 x.to_.den, .slice A2 n2 c2, .int .i64 x.to_.rest] 91)) := (Below.refl _ _).alloc (Nat.le_refl _) _
  have hg : goodV so ⟨x.to_.num, x.to_.den, x.to_.cells, x.to_.rest⟩ = goodV so x.to_ := rfl
  have HC := Lib.hid (is_any so x.to_.num x.to_.den A2 n2 c2 x.to_.cells x.to_.rest _ (w.alloc (.cells #[.slice A n c, .int .i64 x.to_.num, .int .i64 x.to_.den, .slice A2 n2 c2, .int .i64 x.to_.rest] 91)) (ha.below stays_cell (hb0.mono hB0) (Nat.le_trans hB0 hb0.size)) hn2 hg)
  have HB := Lib.hid hb0
  have HT : Hid ((!goodV so x.to_) = toBad so x) := rfl
  clear ha hb0 hg
  generalize toBad so x = R at HT ⊢
  generalize goodV so x.to_ = g at HC HT
  go_enter Try.func128, Try.ntmps128
  go_wp2_with fail
  refine HC.out.mono ?_
  rintro e w' ⟨rfl, hb⟩
  go_wp2_with fail
  go_ret
  exact ⟨ret_bool HT.out, HB.out.trans (hb.mono HB.out.size)⟩
end Go.Proofs.Ythooecojopfjbaa
