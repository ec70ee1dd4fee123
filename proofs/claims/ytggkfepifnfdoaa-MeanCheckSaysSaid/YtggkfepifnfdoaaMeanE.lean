/- Walks: the tests of the rows of a meaning. -/
import Derived.Test.YtggkfepifnfdoaaMeanD
namespace Go.Proofs.Ytggkfepifnfdoaa
open Go.RowKit

set_option maxHeartbeats 1000000 in
theorem mean1_any (x : EntryD) (A : Option Addr) (n c : Nat) (A2 : Option Addr) (n2 c2 : Nat) (B : Nat) (AD : Option Addr) (nd cd : Nat) (w : World) (hB : w.cell? ⟨B, 1, none⟩ = some (.slice AD nd cd)) (hlt : B < w.heap.size) (hx : x.args.length = n) :
    Calls Try.prog 69 #[.agg #[.slice A n c, .int .i64 x.to_.num, .int .i64 x.to_.den, .slice A2 n2 c2, .int .i64 x.to_.rest], .pointer (some ⟨B, 0, none⟩)] w fun e w' => e = .returned (.bool (sizeBad nd x)) ∧ Below w.heap.size w w' := by
  have hs : ((n : Int) != (nd : Int)) = sizeBad nd x := by
    rw [sizeBad, hx, Bool.eq_iff_iff, bne_iff_ne, decide_eq_true_eq]
    omega
  have HS := Lib.hid hs
  have HB : Hid (Below w.heap.size w (w.alloc (.cells #[.slice A n c, .int .i64 x.to_.num, .int .i64 x.to_.den, .slice A2 n2 c2, .int .i64 x.to_.rest] 89))) := (Below.refl _ _).alloc (Nat.le_refl _) _
  clear hs hx
  generalize sizeBad nd x = R at HS ⊢
  go_enter Try.func69, Try.ntmps69
  go_wp2_with fail
  go_ret
  exact ⟨ret_bool HS.out, HB.out⟩

set_option maxHeartbeats 1000000 in
theorem mean21_any (y : Int) (w : World) : Calls Try.prog 71 #[.int .i64 y] w fun e w' => e = .returned (.bool (!thingB y)) ∧ w = w' := by
  have HT := Lib.hid (thing_is y _ rfl)
  generalize thingB y = b at HT ⊢
  go_enter Try.func71, Try.ntmps71
  go_wp2_with (go_at_call 72; refine (HT.out _).mono ?_; rintro e w' ⟨rfl, rfl⟩)
  go_ret
  exact ⟨rfl, rfl⟩

set_option maxHeartbeats 1000000 in
theorem mean2_any (x : EntryD) (A : Option Addr) (n c : Nat) (A2 : Option Addr) (n2 c2 : Nat) (B0 : Nat) (w : World) (hB : B0 ≤ w.heap.size) (ha : IntsB w B0 A n x.args) (hn : n ≤ 1000000) :
    Calls Try.prog 70 #[.agg #[.slice A n c, .int .i64 x.to_.num, .int .i64 x.to_.den, .slice A2 n2 c2, .int .i64 x.to_.rest]] w fun e w' => e = .returned (.bool (rangeBad x)) ∧ Below w.heap.size w w' := by
  have eg : ∀ args w, (callFunc 71 args).run Try.prog w = .ok (.enter 71 args) w := enters_of Try.func71 (by kernel_rfl) rfl
  have hb0 : Below w.heap.size w (w.alloc (.cells #[.slice A n c, .int .i64 x.to_.num, .int .i64 x.to_.den, .slice A2 n2 c2, .int .i64 x.to_.rest] 89)) := (Below.refl _ _).alloc (Nat.le_refl _) _
  have HC := Lib.hid (containsInts_any 71 #[] eg (fun y => !thingB y) A n c x.args (rangeBad x) (w.alloc (.cells #[.slice A n c, .int .i64 x.to_.num, .int .i64 x.to_.den, .slice A2 n2 c2, .int .i64 x.to_.rest] 89)) (ha.below stays_int (hb0.mono hB) (Nat.le_trans hB hb0.size)) hn (fun W y _ hb => (mean21_any y W).mono fun _ _ ⟨he, hw⟩ => ⟨he, hw ▸ hb⟩) rfl)
  have HB := Lib.hid hb0
  clear ha hb0 eg
  generalize rangeBad x = R at HC ⊢
  go_enter Try.func70, Try.ntmps70
  go_wp2_with fail
  refine HC.out.mono ?_
  rintro e w' ⟨rfl, hb⟩
  go_wp2_with fail
  go_ret
  exact ⟨rfl, HB.out.trans (hb.mono HB.out.size)⟩

set_option maxHeartbeats 1000000 in
theorem mean3_any (x y : EntryD) (A : Option Addr) (n c : Nat) (A2 : Option Addr) (n2 c2 : Nat) (B0 : Nat) (B : Nat) (AY : Option Addr) (ny cy : Nat) (w : World) (hB0 : B0 ≤ w.heap.size) (ha : IntsB w B0 A n x.args) (hn : n ≤ 9223372036854775807)
    (hB : w.cell? ⟨B, 0, none⟩ = some (.slice AY ny cy)) (hlt : B < w.heap.size) (hy : IntsB w B0 AY ny y.args) (hny : ny ≤ 9223372036854775807) :
    Calls Try.prog 73 #[.agg #[.slice A n c, .int .i64 x.to_.num, .int .i64 x.to_.den, .slice A2 n2 c2, .int .i64 x.to_.rest], .pointer (some ⟨B, 0, none⟩)] w fun e w' => e = .returned (.bool (sameArgs y x)) ∧ Below w.heap.size w w' := by
  have hb0 : Below w.heap.size w (w.alloc (.cells #[.slice A n c, .int .i64 x.to_.num, .int .i64 x.to_.den, .slice A2 n2 c2, .int .i64 x.to_.rest] 89)) := (Below.refl _ _).alloc (Nat.le_refl _) _
  have HC := Lib.hid (equalInts_any A AY n c ny cy x.args y.args (sameArgs y x) _ _ (w.alloc (.cells #[.slice A n c, .int .i64 x.to_.num, .int .i64 x.to_.den, .slice A2 n2 c2, .int .i64 x.to_.rest] 89)) (ha.below stays_int (hb0.mono hB0) (Nat.le_trans hB0 hb0.size)) (hy.below stays_int (hb0.mono hB0) (Nat.le_trans hB0 hb0.size)) hn hny rfl)
  have HB := Lib.hid hb0
  clear ha hy hb0
  generalize sameArgs y x = R at HC ⊢
  go_enter Try.func73, Try.ntmps73
  go_wp2_with fail
  refine HC.out.mono ?_
  rintro e w' ⟨rfl, m, rfl⟩
  go_wp2_with fail
  go_ret
  exact ⟨rfl, below_drewN HB.out _⟩

set_option maxHeartbeats 1000000 in
theorem mean4_any (x : EntryD) (A : Option Addr) (n c : Nat) (A2 : Option Addr) (n2 c2 : Nat) (B0 : Nat) (B : Nat) (so : Int) (w : World) (hB0 : B0 ≤ w.heap.size) (ha : ArrB AtCell 2 w B0 A2 n2 x.to_.cells) (hn2 : n2 ≤ 9223372036854775807)
    (hB : w.cell? ⟨B, 2, none⟩ = some (.int .i64 so)) (hlt : B < w.heap.size) :
    Calls Try.prog 76 #[.agg #[.slice A n c, .int .i64 x.to_.num, .int .i64 x.to_.den, .slice A2 n2 c2, .int .i64 x.to_.rest], .pointer (some ⟨B, 0, none⟩)] w fun e w' => e = .returned (.bool (toBad so x)) ∧ Below w.heap.size w w' := by
  have hb0 : Below w.heap.size w (w.alloc (.cells #[.slice A n c, .int .i64 x.to_.num, .int .i64 x.to_.den, .slice A2 n2 c2, .int .i64 x.to_.rest] 89)) := (Below.refl _ _).alloc (Nat.le_refl _) _
  have hg : goodV so ⟨x.to_.num, x.to_.den, x.to_.cells, x.to_.rest⟩ = goodV so x.to_ := rfl
  have HC := Lib.hid (is_any so x.to_.num x.to_.den A2 n2 c2 x.to_.cells x.to_.rest _ (w.alloc (.cells #[.slice A n c, .int .i64 x.to_.num, .int .i64 x.to_.den, .slice A2 n2 c2, .int .i64 x.to_.rest] 89)) (ha.below stays_cell (hb0.mono hB0) (Nat.le_trans hB0 hb0.size)) hn2 hg)
  have HB := Lib.hid hb0
  have HT : Hid ((!goodV so x.to_) = toBad so x) := rfl
  clear ha hb0 hg
  generalize toBad so x = R at HT ⊢
  generalize goodV so x.to_ = g at HC HT
  go_enter Try.func76, Try.ntmps76
  go_wp2_with fail
  refine HC.out.mono ?_
  rintro e w' ⟨rfl, hb⟩
  go_wp2_with fail
  go_ret
  exact ⟨ret_bool HT.out, HB.out.trans (hb.mono HB.out.size)⟩
end Go.Proofs.Ytggkfepifnfdoaa
