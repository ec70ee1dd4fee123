/- Walks: cnf.True, cnf.Sat, cnf.All: whether clauses hold. -/
import Derived.Test.YtkkpfdfoojcljaaGreatTC
namespace Go.Proofs.YtkkpfdfoojcljaaGreat
open Go.RowKit

/-- a literal holds -/
def litH (bs : List Bool) (l : Int) : Bool := (bs[(absI l - 1).toNat]?.getD false) == decide (0 < l)
/-- literals of variables that there are -/
def LitOk (n : Nat) (l : Int) : Prop := ¬ l = 0 ∧ -(n : Int) ≤ l ∧ l ≤ (n : Int)
theorem bools_get {w : World} {B : Nat} {A : Option Addr} {n : Nat} {xs : List Bool} (h : ArrB AtBool 1 w B A n xs) {i : Nat} (hi : i < n) :
    ∃ (b off : Nat) (hx : i < xs.length), A = some ⟨b, off, none⟩ ∧ b < B ∧ w.cell? ⟨b, off + i, none⟩ = some (.bool xs[i]) := by
  obtain ⟨b, off, hx, e, hb, h0⟩ := Arr.get h hi
  rw [Nat.mul_one] at h0
  exact ⟨b, off, hx, e, hb, h0⟩
set_option maxHeartbeats 1000000 in
theorem true_any (l : Int) (B : Option Addr) (n c : Nat) (bs : List Bool) (w : World) (hbs : ArrB AtBool 1 w w.heap.size B n bs) (hn : n ≤ 120) (hl : LitOk n l) :
    Calls Tryz.prog 46 #[.int .i64 l, .slice B n c] w fun e w' => e = .returned (.bool (litH bs l)) ∧ w = w' := by
  obtain ⟨h0, h1, h2⟩ := hl
  have HV := var_any l w (by omega) (by omega)
  obtain ⟨k, hk⟩ : ∃ k : Nat, absI l - 1 = (k : Int) := ⟨(absI l - 1).toNat, by
    have : 1 ≤ absI l := by unfold absI; split <;> omega
    omega⟩
  have hkn : k < n := by
    unfold absI at hk
    by_cases hz : l < 0
    · rw [if_pos hz] at hk; omega
    · rw [if_neg hz] at hk; omega
  obtain ⟨b, off, hx, rfl, hb, hcell⟩ := bools_get hbs hkn
  unfold litH
  rw [hk, Int.toNat_natCast, List.getElem?_eq_getElem hx, Option.getD_some]
  generalize bs[k] = y at hcell ⊢
  generalize absI l = v at hk HV
  obtain rfl : v = (k : Int) + 1 := by omega
  have HC := Lib.hid HV
  clear hk HV hbs hx
  go_enter Tryz.func46, Tryz.ntmps46
  go_wp2_with fail
  refine HC.out.mono ?_
  rintro e w' ⟨rfl, rfl⟩
  go_wp2_with fail
  go_ret
  exact ⟨ret_bool (by first | rfl | (rw [Bool.eq_iff_iff]; simp)), rfl⟩
set_option maxHeartbeats 1000000 in
theorem sat1_any (l : Int) (g : Nat) (B : Option Addr) (n c : Nat) (bs : List Bool) (w : World) (hbs : ArrB AtBool 1 w w.heap.size B n bs) (hn : n ≤ 120) (hl : LitOk n l) (hg : w.cell? ⟨g, 0, none⟩ = some (.slice B n c)) :
    Calls Tryz.prog 45 #[.int .i64 l, .pointer (some ⟨g, 0, none⟩)] w fun e w' => e = .returned (.bool (litH bs l)) ∧ w = w' := by
  have HC := Lib.hid (true_any l B n c bs w hbs hn hl)
  clear hbs hl
  go_enter Tryz.func45, Tryz.ntmps45
  go_wp2_with fail
  refine HC.out.mono ?_
  rintro e w' ⟨rfl, rfl⟩
  go_wp2_with fail
  go_ret
  exact ⟨ret_bool rfl, rfl⟩
set_option maxHeartbeats 1000000 in
theorem sat_any (A : Option Addr) (n c : Nat) (xs : List Int) (B : Option Addr) (k e0 : Nat) (bs : List Bool) (w : World) (hxs : IntsB w w.heap.size A n xs) (hn : n ≤ 1000000) (hbs : ArrB AtBool 1 w w.heap.size B k bs) (hk : k ≤ 120) (hl : ∀ x ∈ xs, LitOk k x) :
    Calls Tryz.prog 28 #[.slice A n c, .slice B k e0] w fun e w' => e = .returned (.bool (xs.any (litH bs))) ∧ Below w.heap.size w w' := by
  have EG : ∀ args w, (callFunc 45 args).run Tryz.prog w = .ok (.enter 45 args) w := enters_of Tryz.func45 (by kernel_rfl) rfl
  have hb0 : Below w.heap.size w (w.alloc (.cells #[.slice B k e0] 23)) := (Below.refl _ _).alloc (Nat.le_refl _) _
  have hp : PredOn Tryz.prog 45 #[.pointer (some ⟨w.heap.size, 0, none⟩)] (litH bs) xs (w.alloc (.cells #[.slice B k e0] 23)) := fun W y hy hb =>
    (sat1_any y w.heap.size B k e0 bs W (hbs.below stays_bool (hb0.trans (hb.mono hb0.size)) (Nat.le_trans hb0.size hb.size)) hk (hl y hy)
      ((hb.cell (p := ⟨w.heap.size, 0, none⟩) (by simp)).trans (by simp))).mono fun _ _ ⟨he, hw⟩ => ⟨he, hw ▸ hb⟩
  have HC := Lib.hid (containsInts_any 45 #[.pointer (some ⟨w.heap.size, 0, none⟩)] EG (litH bs) A n c xs _ (w.alloc (.cells #[.slice B k e0] 23)) (hxs.below stays_int hb0 hb0.size) hn hp rfl)
  generalize xs.any (litH bs) = R at HC ⊢
  have HB := Lib.hid hb0
  clear hxs hbs hl hp hb0 EG
  go_enter Tryz.func28, Tryz.ntmps28
  go_wp2_with fail
  refine HC.out.mono ?_
  rintro e w' ⟨rfl, hb⟩
  go_wp2_with fail
  go_ret
  exact ⟨ret_bool rfl, HB.out.trans (hb.mono HB.out.size)⟩
set_option maxHeartbeats 1000000 in
theorem all1_any (A : Option Addr) (n c : Nat) (xs : List Int) (g : Nat) (B : Option Addr) (k e0 : Nat) (bs : List Bool) (w : World) (hxs : IntsB w w.heap.size A n xs) (hn : n ≤ 1000000) (hbs : ArrB AtBool 1 w w.heap.size B k bs) (hk : k ≤ 120) (hl : ∀ x ∈ xs, LitOk k x) (hg : w.cell? ⟨g, 0, none⟩ = some (.slice B k e0)) :
    Calls Tryz.prog 27 #[.slice A n c, .pointer (some ⟨g, 0, none⟩)] w fun e w' => e = .returned (.bool (!xs.any (litH bs))) ∧ Below w.heap.size w w' := by
  have HC := Lib.hid (sat_any A n c xs B k e0 bs w hxs hn hbs hk hl)
  generalize xs.any (litH bs) = R at HC ⊢
  clear hxs hbs hl
  go_enter Tryz.func27, Tryz.ntmps27
  go_wp2_with fail
  refine HC.out.mono ?_
  rintro e w' ⟨rfl, hb⟩
  go_wp2_with fail
  go_ret
  exact ⟨ret_bool rfl, hb⟩
/-- the clauses hold -/
def clsH (bs : List Bool) (cs : List (List Int)) : Bool := !cs.any fun l => !l.any (litH bs)
set_option maxHeartbeats 1000000 in
theorem all_any (A : Option Addr) (n c : Nat) (cs : List (List Int)) (B : Option Addr) (k e0 : Nat) (bs : List Bool) (w : World) (hcs : ArrB (AtArr AtInt 1) 1 w w.heap.size A n cs) (hn : n ≤ 1000000) (hbs : ArrB AtBool 1 w w.heap.size B k bs) (hk : k ≤ 120) (hl : ∀ l ∈ cs, l.length ≤ 1000000 ∧ ∀ x ∈ l, LitOk k x) :
    Calls Tryz.prog 9 #[.slice A n c, .slice B k e0] w fun e w' => e = .returned (.bool (clsH bs cs)) ∧ Below w.heap.size w w' := by
  have EG : ∀ args w, (callFunc 27 args).run Tryz.prog w = .ok (.enter 27 args) w := enters_of Tryz.func27 (by kernel_rfl) rfl
  have hb0 : Below w.heap.size w (w.alloc (.cells #[.slice B k e0] 23)) := (Below.refl _ _).alloc (Nat.le_refl _) _
  have hp : PredCls Tryz.prog 27 #[.pointer (some ⟨w.heap.size, 0, none⟩)] (fun l => !l.any (litH bs)) cs (w.alloc (.cells #[.slice B k e0] 23)) := fun W A' n' c' y hy hb hin hnc =>
    (all1_any A' n' c' y w.heap.size B k e0 bs W hin (by have := hin.len; have := (hl y hy).1; omega) (hbs.below stays_bool (hb0.trans (hb.mono hb0.size)) (Nat.le_trans hb0.size hb.size)) hk (hl y hy).2
      ((hb.cell (p := ⟨w.heap.size, 0, none⟩) (by simp)).trans (by simp))).mono fun _ _ ⟨he, hw⟩ => ⟨he, hb.trans (hw.mono hb.size)⟩
  have HC := Lib.hid (containsCls_any 27 #[.pointer (some ⟨w.heap.size, 0, none⟩)] EG (fun l => !l.any (litH bs)) A n c cs _ (w.alloc (.cells #[.slice B k e0] 23)) (hcs.below (stays_arr stays_int) hb0 hb0.size) hn hp rfl)
  unfold clsH
  generalize (cs.any fun l => !l.any (litH bs)) = R at HC ⊢
  have HB := Lib.hid hb0
  clear hcs hbs hl hp hb0 EG
  go_enter Tryz.func9, Tryz.ntmps9
  go_wp2_with fail
  refine HC.out.mono ?_
  rintro e w' ⟨rfl, hb⟩
  go_wp2_with fail
  go_ret
  exact ⟨ret_bool rfl, HB.out.trans (hb.mono HB.out.size)⟩
end Go.Proofs.YtkkpfdfoojcljaaGreat
