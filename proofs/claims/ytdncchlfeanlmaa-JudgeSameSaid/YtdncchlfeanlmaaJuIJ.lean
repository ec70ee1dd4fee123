/- Walks: whether one of fractions is not none; a place of a row; rows that mirror each other. · Walk: whether rows, times numbers, add up to none. -/
import Derived.Test.YtdncchlfeanlmaaJuEF
import Derived.Test.YtdncchlfeanlmaaJuGG
import Derived.Deep.RegionWith
import Derived.Test.YtdncchlfeanlmaaJuHH
import Derived.Test.YtdncchlfeanlmaaFracE
namespace Go.Proofs.Ytdncchlfeanlmaa
open Go.RowKit

theorem fracs_get' {w : World} {B : Nat} {A : Option Addr} {n : Nat} {xs : List FracD} (h : ArrB AtFrac 2 w B A n xs) {i : Nat} (hi : i < n) :
    ∃ (b off : Nat) (hx : i < xs.length), A = some ⟨b, off, none⟩ ∧ b < B ∧ w.cell? ⟨b, off + i * 2, none⟩ = some (.int .i64 xs[i].num) ∧ w.cell? ⟨b, off + i * 2 + 1, none⟩ = some (.int .i64 xs[i].den) := by
  obtain ⟨b, off, hx, e, hb, ⟨h0, _⟩, h1, _⟩ := Arr.get h hi
  exact ⟨b, off, hx, e, hb, h0, h1⟩
set_option maxHeartbeats 1000000 in
theorem rows1_any (num den : Int) (w : World) : Calls Try.prog 51 #[.agg #[.int .i64 num, .int .i64 den]] w fun e w' => e = .returned (.bool (num != 0)) ∧ Below w.heap.size w w' := by
  go_enter Try.func51, Try.ntmps51
  go_wp2_with fail
  go_ret
  exact ⟨rfl, (Below.refl _ _).alloc (Nat.le_refl _) _⟩
def someNum (xs : List FracD) : Bool := xs.any fun q => q.num != 0
set_option maxHeartbeats 2000000 in
theorem indexNum_any (A : Option Addr) (n c : Nat) (xs : List FracD) (w : World) (hxs : ArrB AtFrac 2 w w.heap.size A n xs) (hn : n ≤ 1000000) :
    Calls Try.prog 67 #[.slice A n c, .func (.func 51) #[] #[]] w fun e w' => e = .returned (.int .i64 (idx (fun q => q.num != 0) xs 0)) ∧ Below w.heap.size w w' := by
  have eg : ∀ args w, (callFunc 51 args).run Try.prog w = .ok (.enter 51 args) w := enters_of Try.func51 (by kernel_rfl) rfl
  obtain ⟨R, hR⟩ : ∃ R, idx (fun q : FracD => q.num != 0) xs 0 = R := ⟨_, rfl⟩
  rw [hR]
  have HR := Lib.hid hR
  clear hR
  go_enter Try.func67, Try.ntmps67
  go_wp2_with fail
  go_loopw [8] (fun s wr => ∃ k : Nat, k ≤ n ∧ s = .int .i64 k ∧ Hid (idx (fun q : FracD => q.num != 0) (xs.drop k) k = R) ∧ Below w.heap.size w wr) (fun s _ => n - (intOf s).toNat)
  case atStart => exact ⟨0, Nat.zero_le _, rfl, HR, Below.refl _ _⟩
  case round =>
    obtain ⟨k, hk, rfl, HK, hbel⟩ := hrel
    by_cases hlt : k < n
    · obtain ⟨b, off, hx, rfl, hb, hc0, hc1⟩ := fracs_get' (hxs.below stays_frac hbel (Nat.le_refl _)) hlt
      have hkI : (k : Int) < (n : Int) := by omega
      have e1 := HK.out
      rw [drop_cons hx, idx] at e1
      generalize xs[k] = y at e1 hc0 hc1
      obtain ⟨nm, dn⟩ := y
      simp only at hc0 hc1 e1
      have HC := Lib.hid (rows1_any nm dn wr)
      clear HK hx hxs
      cases hq : (nm != 0) with
      | true =>
        rw [hq] at HC e1
        have H2 : Hid ((k : Int) = R) := e1
        clear e1 hq
        go_wp2_with (go_at_fn 51; refine HC.out.mono ?_; rintro e w' ⟨rfl, hb'⟩)
        go_ret
        exact ⟨ret_int H2.out, hbel.trans (hb'.mono hbel.size)⟩
      | false =>
        rw [hq] at HC e1
        have H2 : Hid (idx (fun q : FracD => q.num != 0) (xs.drop (k + 1)) ((k : Int) + 1) = R) := e1
        clear e1 hq
        go_wp2_with (go_at_fn 51; refine HC.out.mono ?_; rintro e w' ⟨rfl, hb'⟩)
        go_roundw
        case rel => exact ⟨k + 1, by omega, by go_num, by show _ = _; rw [Int.natCast_add]; exact H2.out, hbel.trans (hb'.mono hbel.size)⟩
        case measure => simp [intOf]; omega
    · obtain rfl : k = n := by omega
      have e1 := HK.out
      rw [List.drop_of_length_le (by have := hxs.len; omega), idx] at e1
      have H1 := Lib.hid e1
      clear e1 HK
      go_wp2_with fail
      go_ret
      exact ⟨ret_int H1.out, hbel⟩
set_option maxHeartbeats 1000000 in
theorem someNum_any (A : Option Addr) (n c : Nat) (xs : List FracD) (w : World) (hxs : ArrB AtFrac 2 w w.heap.size A n xs) (hn : n ≤ 1000000) :
    Calls Try.prog 50 #[.slice A n c, .func (.func 51) #[] #[]] w fun e w' => e = .returned (.bool (someNum xs)) ∧ Below w.heap.size w w' := by
  have HH := Lib.hid (indexNum_any A n c xs w hxs hn)
  have h0 : decide (0 ≤ idx (fun q : FracD => q.num != 0) xs 0) = someNum xs := idx_any _ xs 0 (by omega)
  generalize idx (fun q : FracD => q.num != 0) xs 0 = r at HH h0
  have H0 := Lib.hid h0
  clear h0 hxs
  go_enter Try.func50, Try.ntmps50
  go_wp2_with fail
  refine HH.out.mono ?_
  rintro e w' ⟨rfl, hb⟩
  go_wp2_with fail
  go_ret
  exact ⟨ret_bool H0.out, hb⟩

set_option maxHeartbeats 1000000 in
theorem jat_any (A : Option Addr) (n c : Nat) (xs : List Int) (i : Nat) (B : Nat) (w : World) (hxs : IntsB w B A n xs) :
    Calls Try.prog 53 #[.slice A n c, .int .i64 (i : Int)] w fun e w' => e = .returned (.int .i64 (xs.getD i 0)) ∧ w = w' := by
  have hl := hxs.len
  by_cases hlt : i < n
  · obtain ⟨b, off, hx, rfl, hb, hcell, hlo, hhi⟩ := ints_get hxs hlt
    have hltI : (i : Int) < (n : Int) := by omega
    rw [show xs.getD i 0 = xs[i] from by rw [List.getD_eq_getElem?_getD, List.getElem?_eq_getElem hx]; rfl]
    generalize xs[i] = y at hcell hlo hhi ⊢
    clear hl hxs hx hlo hhi
    go_enter Try.func53, Try.ntmps53
    go_wp2_with fail
    go_ret
    exact ⟨rfl, rfl⟩
  · have hltI : ¬ (i : Int) < (n : Int) := by omega
    rw [show xs.getD i 0 = 0 from by rw [List.getD_eq_getElem?_getD, List.getElem?_eq_none (by omega)]; rfl]
    clear hl hxs
    go_enter Try.func53, Try.ntmps53
    go_wp2_with fail
    go_ret
    exact ⟨rfl, rfl⟩
set_option maxHeartbeats 400000 in
theorem gap1_any (l : Int) (w : World) : Calls Try.prog 52 #[.int .i64 l] w fun e w' => e = .returned (.bool (decide (l < 0))) ∧ w = w' := by
  go_enter Try.func52, Try.ntmps52
  go_wp2_with fail
  go_ret
  exact ⟨rfl, rfl⟩

theorem upto_step {P : Nat → Prop} {j : Nat} (h : ∀ i, i < j → P i) (hj : P j) : ∀ i, i < j + 1 → P i := fun i hi => by
  by_cases e : i = j
  · rw [e]; exact hj
  · exact h i (by omega)
theorem turnedF_at {n : Nat} {a b : List Int} {s : Int} {j : Nat} (hj : j < n) (h : ¬ b.getD j 0 = s * a.getD j 0) : turnedF n a b s = false := by
  unfold turnedF
  rw [List.all_eq_false]
  exact ⟨j, List.mem_range.2 hj, by simpa using h⟩
theorem turnedF_all {n : Nat} {a b : List Int} {s : Int} (h : ∀ j, j < n → b.getD j 0 = s * a.getD j 0) : turnedF n a b s = true := by
  unfold turnedF
  rw [List.all_eq_true]
  exact fun j hj => by simpa using h j (List.mem_range.1 hj)
theorem getD_small {xs : List Int} {j : Nat} (h : ∀ c ∈ xs, -1000000 ≤ c ∧ c ≤ 1000000) : -1000000 ≤ xs.getD j 0 ∧ xs.getD j 0 ≤ 1000000 := by
  rw [List.getD_eq_getElem?_getD]
  cases hj : xs[j]? with
  | none => simp
  | some y => exact h y (List.mem_of_getElem? hj)
set_option maxRecDepth 100000 in
set_option maxHeartbeats 4000000 in
theorem turned_any (G n c2 : Nat) (A2 : Option Addr) (A : Option Addr) (na ca : Nat) (a : List Int) (ak at_ : Int) (A' : Option Addr) (nb cb : Nat) (b : List Int) (bk bt : Int) (s : Int) (w : World) (hs : s = 1 ∨ s = -1) (q1 : w.cell? ⟨G, 1, none⟩ = some (.slice A2 n c2)) (hG : G < w.heap.size)
    (ha : IntsB w w.heap.size A na a) (hb : IntsB w w.heap.size A' nb b) (hn : n ≤ 1000) (ra : ∀ c ∈ a, -1000000 ≤ c ∧ c ≤ 1000000) (rb : ∀ c ∈ b, -1000000 ≤ c ∧ c ≤ 1000000) :
    Calls Try.prog 54 #[.pointer (some ⟨G, 0, none⟩), .agg #[.slice A na ca, .int .i64 ak, .int .i64 at_], .agg #[.slice A' nb cb, .int .i64 bk, .int .i64 bt], .int .i64 s] w fun e w' => e = .returned (.bool (turnedF n a b s)) ∧ Below w.heap.size w w' := by
  have hbX : Below w.heap.size w ((w.alloc (.cells #[.slice A na ca, .int .i64 ak, .int .i64 at_] 33)).alloc (.cells #[.slice A' nb cb, .int .i64 bk, .int .i64 bt] 33)) := ((Below.refl _ _).alloc (Nat.le_refl _) _).alloc (by simp) _
  have hka := (Blk.new w 33 #[.slice A na ca, .int .i64 ak, .int .i64 at_]).alloc (.cells #[.slice A' nb cb, .int .i64 bk, .int .i64 bt] 33)
  have hkb := Blk.new (w.alloc (.cells #[.slice A na ca, .int .i64 ak, .int .i64 at_] 33)) 33 #[.slice A' nb cb, .int .i64 bk, .int .i64 bt]
  rw [World.size_alloc] at hkb
  have HX := Lib.hid (And.intro hbX (And.intro hka hkb))
  have HA : Hid (∀ (j : Nat) (W : World), Below w.heap.size w W → Calls Try.prog 53 #[.slice A na ca, .int .i64 (j : Int)] W fun e w' => e = .returned (.int .i64 (a.getD j 0)) ∧ W = w') := fun j W hW => jat_any A na ca a j w.heap.size W (ha.below stays_int hW (Nat.le_refl _))
  have HB : Hid (∀ (j : Nat) (W : World), Below w.heap.size w W → Calls Try.prog 53 #[.slice A' nb cb, .int .i64 (j : Int)] W fun e w' => e = .returned (.int .i64 (b.getD j 0)) ∧ W = w') := fun j W hW => jat_any A' nb cb b j w.heap.size W (hb.below stays_int hW (Nat.le_refl _))
  have HRG := Lib.hid (And.intro ra rb)
  clear hbX hka hkb ha hb ra rb
  rcases hs with rfl | rfl
  · go_enter Try.func54, Try.ntmps54
    go_wp2_with fail
    go_loopw [16] (fun s wr => ∃ j : Nat, j ≤ n ∧ s = .int .i64 (j : Int) ∧ Hid ((∀ i, i < j → b.getD i 0 = 1 * a.getD i 0) ∧ Below w.heap.size w wr ∧ Blk wr w.heap.size 33 #[.slice A na ca, .int .i64 ak, .int .i64 at_] ∧ Blk wr (w.heap.size + 1) 33 #[.slice A' nb cb, .int .i64 bk, .int .i64 bt])) (fun s _ => n - (intOf s).toNat)
    case atStart => exact ⟨0, Nat.zero_le _, rfl, fun i h => absurd h (Nat.not_lt_zero _), HX.out⟩
    case round =>
      clear HX
      obtain ⟨j, hj, rfl, HJ⟩ := hrel
      have p0 : wr.cell? ⟨w.heap.size, 0, none⟩ = some (.slice A na ca) := HJ.out.2.2.1.cell 0
      have p1 : wr.cell? ⟨w.heap.size + 1, 0, none⟩ = some (.slice A' nb cb) := HJ.out.2.2.2.cell 0
      by_cases hlt : j < n
      · have hltI : (j : Int) < (n : Int) := by omega
        have hx := getD_small (j := j) HRG.out.2
        have hy := getD_small (j := j) HRG.out.1
        have hCB := fun k => HB.out j (wr.drewN k) (below_drewN HJ.out.2.1 k)
        have hCA := fun k => HA.out j (wr.drewN k) (below_drewN HJ.out.2.1 k)
        obtain ⟨x, hx0⟩ : ∃ x, b.getD j 0 = x := ⟨_, rfl⟩
        obtain ⟨y, hy0⟩ : ∃ y, a.getD j 0 = y := ⟨_, rfl⟩
        rw [hx0] at hCB hx
        rw [hy0] at hCA hy
        have HCB := Lib.hid hCB
        have HCA := Lib.hid hCA
        have hw1 : IntKind.i64.wrap y = y := IntWalk.i64_in _ (by omega)
        have hw2 : IntKind.i64.wrap (-y) = -y := IntWalk.i64_in _ (by omega)
        have HXY := Lib.hid (And.intro hx0 hy0)
        have HLT := Lib.hid hlt
        clear hCB hCA hx0 hy0
        by_cases he : x = 1 * y
        · have hb : (x != y) = false := by rw [bne_eq_false_iff_eq]; omega
          have HE := Lib.hid he
          clear he
          go_wp2_with fail
          go_quiet ((first | (go_at_call 53; with_reducible exact quiet_eq (HCB.out _)) | (go_at_call 53; with_reducible exact quiet_eq (HCA.out _))))
          go_wp2_with fail
          go_roundw
          case rel => exact ⟨j + 1, by omega, by go_num, upto_step HJ.out.1 (by rw [HXY.out.1, HXY.out.2]; exact HE.out), below_drewN HJ.out.2.1 _, HJ.out.2.2.1.drewN _, HJ.out.2.2.2.drewN _⟩
          case measure => simp [intOf]; omega
        · have hb : (x != y) = true := by rw [bne_iff_ne]; omega
          have HE := Lib.hid he
          clear he
          go_wp2_with fail
          go_quiet ((first | (go_at_call 53; with_reducible exact quiet_eq (HCB.out _)) | (go_at_call 53; with_reducible exact quiet_eq (HCA.out _))))
          go_wp2_with fail
          go_ret
          exact ⟨ret_bool (turnedF_at HLT.out (by rw [HXY.out.1, HXY.out.2]; exact HE.out)).symm, below_drewN HJ.out.2.1 _⟩
      · obtain rfl : j = n := by omega
        have HT := Lib.hid (turnedF_all HJ.out.1)
        go_wp2_with fail
        go_ret
        exact ⟨ret_bool HT.out.symm, HJ.out.2.1⟩
  · go_enter Try.func54, Try.ntmps54
    go_wp2_with fail
    go_loopw [16] (fun s wr => ∃ j : Nat, j ≤ n ∧ s = .int .i64 (j : Int) ∧ Hid ((∀ i, i < j → b.getD i 0 = -1 * a.getD i 0) ∧ Below w.heap.size w wr ∧ Blk wr w.heap.size 33 #[.slice A na ca, .int .i64 ak, .int .i64 at_] ∧ Blk wr (w.heap.size + 1) 33 #[.slice A' nb cb, .int .i64 bk, .int .i64 bt])) (fun s _ => n - (intOf s).toNat)
    case atStart => exact ⟨0, Nat.zero_le _, rfl, fun i h => absurd h (Nat.not_lt_zero _), HX.out⟩
    case round =>
      clear HX
      obtain ⟨j, hj, rfl, HJ⟩ := hrel
      have p0 : wr.cell? ⟨w.heap.size, 0, none⟩ = some (.slice A na ca) := HJ.out.2.2.1.cell 0
      have p1 : wr.cell? ⟨w.heap.size + 1, 0, none⟩ = some (.slice A' nb cb) := HJ.out.2.2.2.cell 0
      by_cases hlt : j < n
      · have hltI : (j : Int) < (n : Int) := by omega
        have hx := getD_small (j := j) HRG.out.2
        have hy := getD_small (j := j) HRG.out.1
        have hCB := fun k => HB.out j (wr.drewN k) (below_drewN HJ.out.2.1 k)
        have hCA := fun k => HA.out j (wr.drewN k) (below_drewN HJ.out.2.1 k)
        obtain ⟨x, hx0⟩ : ∃ x, b.getD j 0 = x := ⟨_, rfl⟩
        obtain ⟨y, hy0⟩ : ∃ y, a.getD j 0 = y := ⟨_, rfl⟩
        rw [hx0] at hCB hx
        rw [hy0] at hCA hy
        have HCB := Lib.hid hCB
        have HCA := Lib.hid hCA
        have hw1 : IntKind.i64.wrap y = y := IntWalk.i64_in _ (by omega)
        have hw2 : IntKind.i64.wrap (-y) = -y := IntWalk.i64_in _ (by omega)
        have HXY := Lib.hid (And.intro hx0 hy0)
        have HLT := Lib.hid hlt
        clear hCB hCA hx0 hy0
        by_cases he : x = -1 * y
        · have hb : (x != -y) = false := by rw [bne_eq_false_iff_eq]; omega
          have HE := Lib.hid he
          clear he
          go_wp2_with fail
          go_quiet ((first | (go_at_call 53; with_reducible exact quiet_eq (HCB.out _)) | (go_at_call 53; with_reducible exact quiet_eq (HCA.out _))))
          go_wp2_with fail
          go_roundw
          case rel => exact ⟨j + 1, by omega, by go_num, upto_step HJ.out.1 (by rw [HXY.out.1, HXY.out.2]; exact HE.out), below_drewN HJ.out.2.1 _, HJ.out.2.2.1.drewN _, HJ.out.2.2.2.drewN _⟩
          case measure => simp [intOf]; omega
        · have hb : (x != -y) = true := by rw [bne_iff_ne]; omega
          have HE := Lib.hid he
          clear he
          go_wp2_with fail
          go_quiet ((first | (go_at_call 53; with_reducible exact quiet_eq (HCB.out _)) | (go_at_call 53; with_reducible exact quiet_eq (HCA.out _))))
          go_wp2_with fail
          go_ret
          exact ⟨ret_bool (turnedF_at HLT.out (by rw [HXY.out.1, HXY.out.2]; exact HE.out)).symm, below_drewN HJ.out.2.1 _⟩
      · obtain rfl : j = n := by omega
        have HT := Lib.hid (turnedF_all HJ.out.1)
        go_wp2_with fail
        go_ret
        exact ⟨ret_bool HT.out.symm, HJ.out.2.1⟩
end Go.Proofs.Ytdncchlfeanlmaa
namespace Go.Proofs.Ytdncchlfeanlmaa
open Go.RowKit

theorem infoFrac : (Try.prog.info? 88).map (fun i => (i.zero, i.size, i.bytes)) = some (some (.agg #[.int .i64 0, .int .i64 0]), 2, 16) := by kernel_rfl
theorem field_row (x : AtomD) (A : Option Addr) (n c : Nat) (w : World) : (Instr.field 35 (.agg #[.int .i64 x.kind, .int .i64 x.a, .int .i64 x.b, .slice A n c, .int .i64 x.row.kind, .int .i64 x.row.to_]) 3).run Try.prog w = .ok (.agg #[.slice A n c, .int .i64 x.row.kind, .int .i64 x.row.to_]) w := by kernel_rfl
theorem fracCheck_no (num den : Int) (h : fracGood num den = false) (w : World) :
    Calls Try.prog 48 #[.agg #[.int .i64 num, .int .i64 den]] w fun e w' => e = .returned (.agg #[.int .i64 3, .int .i64 0]) ∧ Below w.heap.size w w' :=
  (fracCheck_any num den w).mono fun _ _ ⟨h1, h2⟩ => ⟨by rw [h1, h]; rfl, h2⟩
theorem toList_made2 (n : Nat) : (madeCells (Value.agg #[.int .i64 0, .int .i64 0]).cells (n * 2)).toList = List.replicate (n * 2) (.int .i64 0) := by
  rw [show (Value.agg #[Value.int .i64 0, .int .i64 0]).cells = #[Value.int .i64 0, .int .i64 0] from rfl]
  apply List.ext_getElem
  · simp [madeCells]
  · intro i h1 h2
    have : i % 2 = 0 ∨ i % 2 = 1 := by omega
    rcases this with h | h <;> simp [madeCells, h]
theorem cels_zero2 (w : World) (S : Nat → Prop) : ∀ n : Nat, Cels VFrac w S (List.replicate n ⟨0, 0⟩) (List.replicate (n * 2) (.int .i64 0))
  | 0 => rfl
  | n + 1 => ⟨[.int .i64 0, .int .i64 0], List.replicate (n * 2) (.int .i64 0), by rw [show (n + 1) * 2 = n * 2 + 1 + 1 from by omega]; rfl, ⟨rfl, ⟨by decide, by decide⟩, ⟨by decide, by decide⟩⟩, cels_zero2 w S n⟩
def oneL (n j : Nat) : List FracD := (List.range n).map fun i => if i < j then ⟨0, 1⟩ else ⟨0, 0⟩
theorem oneL_len (n j : Nat) : (oneL n j).length = n := by simp [oneL]
theorem oneL_get {n j i : Nat} (h : i < n) : (oneL n j)[i]? = some (if i < j then ⟨0, 1⟩ else ⟨0, 0⟩) := by simp [oneL, h]
theorem oneL_next {n j : Nat} (h : j < n) : (oneL n j).set j ⟨0, 1⟩ = oneL n (j + 1) := by
  apply List.ext_getElem?
  intro i
  rw [List.getElem?_set]
  by_cases hi : i < n
  · rw [oneL_get hi, oneL_get hi]
    by_cases e : j = i
    · subst e
      simp [oneL_len, h]
    · rw [if_neg e]
      congr 1
      by_cases h1 : i < j
      · rw [if_pos h1, if_pos (by omega)]
      · rw [if_neg h1, if_neg (by omega)]
  · rw [if_neg (by omega), List.getElem?_eq_none (by rw [oneL_len]; omega), List.getElem?_eq_none (by rw [oneL_len]; omega)]
theorem oneL_zero (n : Nat) : oneL n 0 = List.replicate n ⟨0, 0⟩ := by
  apply List.ext_getElem?
  intro i
  by_cases hi : i < n
  · rw [oneL_get hi]; simp [hi]
  · rw [List.getElem?_eq_none (by rw [oneL_len]; omega), List.getElem?_eq_none (by simp; omega)]
theorem oneL_all (n : Nat) : oneL n n = List.replicate n ⟨0, 1⟩ := by
  apply List.ext_getElem?
  intro i
  by_cases hi : i < n
  · rw [oneL_get hi]; simp [hi]
  · rw [List.getElem?_eq_none (by rw [oneL_len]; omega), List.getElem?_eq_none (by simp; omega)]
theorem Cels.setDen {w : World} {S : Nat → Prop} {d : Int} (hd : I64 d) : ∀ (xs : List FracD) (cs : List Value) (i : Nat) (q : FracD), Cels VFrac w S xs cs → xs[i]? = some q → Cels VFrac w S (xs.set i ⟨q.num, d⟩) (cs.set (i * 2 + 1) (.int .i64 d))
  | [], _, _, _, _, hq => by simp at hq
  | y :: r, _, 0, q, h, hq => by
    obtain ⟨c0, c1, rfl, ⟨rfl, h1, h2⟩, h0⟩ := h
    simp only [List.getElem?_cons_zero, Option.some.injEq] at hq
    subst hq
    exact ⟨[.int .i64 y.num, .int .i64 d], c1, rfl, ⟨rfl, h1, hd⟩, h0⟩
  | y :: r, _, i + 1, q, h, hq => by
    obtain ⟨c0, c1, rfl, ⟨rfl, h1, h2⟩, h0⟩ := h
    refine ⟨[.int .i64 y.num, .int .i64 y.den], c1.set (i * 2 + 1) (.int .i64 d), ?_, ⟨rfl, h1, h2⟩, Cels.setDen hd r c1 i q h0 (by simpa using hq)⟩
    rw [show (i + 1) * 2 + 1 = i * 2 + 1 + 1 + 1 from by omega]
    rfl
theorem OwnF.den {w : World} {B g n : Nat} {xs : List FracD} (h : OwnF w B (.slice (some ⟨g, 0, none⟩) n n) xs) (hn : n = xs.length) {i : Nat} {q : FracD} (hq : xs[i]? = some q) {d : Int} (hd : I64 d) : OwnF (w.setCell ⟨g, i * 2 + 1, none⟩ (.int .i64 d)) B (.slice (some ⟨g, 0, none⟩) n n) (xs.set i ⟨q.num, d⟩) := by
  obtain ⟨cells, hown, hels⟩ := h
  subst hn
  obtain ⟨h1, h2⟩ := hown.stored (i * 2 + 1) (.int .i64 d)
  exact ⟨_, by rw [List.length_set]; exact h1, Cels.keep tells_frac (fun _ h => h) (fun _ _ h => False.elim h) _ _ (Cels.setDen hd xs cells i q hels hq)⟩

/-- atoms of rows are over so many numbers -/
def GoodRows (n : Nat) (ats : List AtomD) : Prop := ∀ x ∈ ats, x.kind = 3 → RowOk n x.row
theorem sumF_cons {ats : List AtomD} {t : SumD} {l : Int} {r : List Int} {m : FracD} {ms : List FracD} : sumF ats t (l :: r) (m :: ms) = if fracGood m.num m.den = true then (takeF t (atomAt ats l).row (decide (0 < l)) m).bind fun t' => sumF ats t' r ms else none := rfl
theorem all_someNum (xs : List FracD) : (xs.all fun f => decide (f.num = 0)) = !someNum xs := by
  unfold someNum
  induction xs with
  | nil => rfl
  | cons q r ih => by_cases h : q.num = 0 <;> simp [h, ih]

def rowsEnd : Option SumD → Bool
  | none => false
  | some t => sumOk t
theorem rowsF_eq {ni : Nat} {ats : List AtomD} {lits : List Int} {nums : List FracD} (h1 : allK ats 3 lits = true) (h2 : nums.length = lits.length) : rowsF ni ats lits nums = rowsEnd (sumF ats (sum0 ni) lits nums) := by
  unfold rowsF
  rw [h1, decide_eq_true h2]
  cases sumF ats (sum0 ni) lits nums <;> rfl
set_option maxRecDepth 100000 in
set_option maxHeartbeats 4000000 in
theorem jrows_any (B0 G : Nat) (A1 A2 A3 : Option Addr) (c1 c2 c3 : Nat) (ts : List TermD) (ints : List Bool) (ats : List AtomD) (kd : Int) (L : Option Addr) (nl cl : Nat) (lits : List Int) (M : Option Addr) (nm cm : Nat) (nums : List FracD) (ak aa ab : Int) (O : Option Addr) (no co : Nat) (rk rt : Int) (w : World)
    (h : StR w B0 G A1 c1 A2 c2 A3 c3 ts ints ats) (hlits : IntsB w w.heap.size L nl lits) (hl : ∀ l ∈ lits, LitIn ats.length l) (hnl : nl ≤ 1000) (hnums : ArrB AtFrac 2 w w.heap.size M nm nums) (hgr : GoodRows ints.length ats) (hni : ints.length ≤ 1000) :
    Calls Try.prog 28 #[.pointer (some ⟨G, 0, none⟩), .agg #[.int .i64 kd, .slice L nl cl, .slice M nm cm, .int .i64 ak, .int .i64 aa, .int .i64 ab, .slice O no co, .int .i64 rk, .int .i64 rt]] w fun e w' => e = .returned (.bool (rowsF ints.length ats lits nums)) ∧ Below w.heap.size w w' := by
  have hb0 : Below w.heap.size w (w.alloc (.cells #[.int .i64 kd, .slice L nl cl, .slice M nm cm, .int .i64 ak, .int .i64 aa, .int .i64 ab, .slice O no co, .int .i64 rk, .int .i64 rt] 44)) := (Below.refl _ _).alloc (Nat.le_refl _) _
  have hk0 := Blk.new w 44 #[.int .i64 kd, .slice L nl cl, .slice M nm cm, .int .i64 ak, .int .i64 aa, .int .i64 ab, .slice O no co, .int .i64 rk, .int .i64 rt]
  have HALL := Lib.hid (jall_any B0 G A1 A2 A3 c1 c2 c3 ts ints ats L nl cl lits 3 _ (h.later hb0) (hlits.below stays_int hb0 hb0.size) hl (by omega))
  have HK := Lib.hid (And.intro hb0 hk0)
  have H := Lib.hid (And.intro h (And.intro hlits (And.intro hl (And.intro hnums (And.intro hgr hni)))))
  have hGl := h.lt
  have hll := hlits.len
  have hml := hnums.len
  cases hall : allK ats 3 lits with
  | false =>
    rw [hall] at HALL
    rw [show rowsF ints.length ats lits nums = false from by unfold rowsF; rw [hall]; rfl]
    clear h hlits hl hnums hgr hb0 hk0 hall hll hml
    go_enter Try.func28, Try.ntmps28
    go_wp2_with fail
    refine HALL.out.mono ?_
    rintro e w9 ⟨rfl, hb9⟩
    have HB9 := Lib.hid (HK.out.1.trans (hb9.mono HK.out.1.size))
    clear hb9
    go_wp2_with fail
    go_ret
    exact ⟨rfl, HB9.out⟩
  | true =>
    rw [hall] at HALL
    by_cases hlen : nm = nl
    · subst hlen
      obtain ⟨R, hR⟩ : ∃ R, sumF ats (sum0 ints.length) lits nums = R := ⟨_, rfl⟩
      have HRW : Hid (rowsF ints.length ats lits nums = rowsEnd R) := by
        show _ = _
        rw [rowsF_eq hall (by omega), hR]
      have HR := Lib.hid hR
      have HA := Lib.hid hall
      have HL := Lib.hid (And.intro hll hml)
      have hq1 := h.q1
      obtain ⟨n, hn⟩ : ∃ n, ints.length = n := ⟨_, rfl⟩
      rw [hn] at hq1 hni HR H HRW ⊢
      clear h hlits hl hnums hgr hb0 hk0 hall hll hml hR hn
      obtain ⟨i0, hi0, hz0, hz1, hz2⟩ := info_parts infoFrac
      have HI := Lib.hid (And.intro hi0 (And.intro hz0 (And.intro hz1 hz2)))
      clear hi0 hz0 hz1 hz2
      go_enter Try.func28, Try.ntmps28
      go_wp2_with fail
      refine HALL.out.mono ?_
      rintro e Z ⟨rfl, hbZ⟩
      have hbZ' : Below (w.heap.size + 1) (w.alloc (.cells #[.int .i64 kd, .slice L nm cl, .slice M nm cm, .int .i64 ak, .int .i64 aa, .int .i64 ab, .slice O no co, .int .i64 rk, .int .i64 rt] 44)) Z := by rwa [World.size_alloc] at hbZ
      have hkZ := HK.out.2.below hbZ' (Nat.lt_succ_self _)
      have hzZ : w.heap.size + 1 ≤ Z.heap.size := by have := hbZ'.size; simpa using this
      have z1 : Z.cell? ⟨w.heap.size, 1, none⟩ = some (.slice L nm cl) := hkZ.cell 1
      have z2 : Z.cell? ⟨w.heap.size, 2, none⟩ = some (.slice M nm cm) := hkZ.cell 2
      have z3 : Z.cell? ⟨G, 1, none⟩ = some (.slice A2 n c2) := ((hbZ'.cell (p := ⟨G, 1, none⟩) (by show G < _; omega)).trans (HK.out.1.cell (p := ⟨G, 1, none⟩) hGl)).trans hq1
      have HZ := Lib.hid (And.intro hbZ' hkZ)
      clear hbZ hbZ' hkZ hq1
      go_wp2_with (at_make; refine wpList_make_full _ rfl _ _ _ rfl (w.heap.size + 1) 88 i0 _ 2 Try.underlying42 HI.out.1 HI.out.2.1 HI.out.2.2.1 .i64 .i64 (n : Int) (n : Int) n rfl rfl rfl rfl (by rw [HI.out.2.2.2]; omega) (by unfold maxLen; omega) hzZ ?_; intro w1 hown1 hgrow1; have H1 := Lib.hid (And.intro hown1 hgrow1); have zw1 := hgrow1.size; clear hown1 hgrow1)
      have H2 : Hid (OwnF (w1.alloc (.cells #[.slice (some ⟨Z.heap.size, 0, none⟩) n n, .int .i64 0, .int .i64 1, .bool false] 90)) (w.heap.size + 1) (.slice (some ⟨Z.heap.size, 0, none⟩) n n) (oneL n 0) ∧ Blk (w1.alloc (.cells #[.slice (some ⟨Z.heap.size, 0, none⟩) n n, .int .i64 0, .int .i64 1, .bool false] 90)) w1.heap.size 90 #[.slice (some ⟨Z.heap.size, 0, none⟩) n n, .int .i64 0, .int .i64 1, .bool false] ∧ Below (w.heap.size + 1) (w.alloc (.cells #[.int .i64 kd, .slice L nm cl, .slice M nm cm, .int .i64 ak, .int .i64 aa, .int .i64 ab, .slice O no co, .int .i64 rk, .int .i64 rt] 44)) (w1.alloc (.cells #[.slice (some ⟨Z.heap.size, 0, none⟩) n n, .int .i64 0, .int .i64 1, .bool false] 90))) := by
        obtain ⟨hown1, hgrow1⟩ := H1.out
        rw [toList_made2] at hown1
        have hb1 : Below (w.heap.size + 1) (w.alloc (.cells #[.int .i64 kd, .slice L nm cl, .slice M nm cm, .int .i64 ak, .int .i64 aa, .int .i64 ab, .slice O no co, .int .i64 rk, .int .i64 rt] 44)) w1 := below_then HZ.out.1 hgrow1 hzZ (fun x hx => by cases hx)
        refine ⟨frac_later (w := w1) ⟨_, by rw [oneL_len]; exact hown1, by rw [oneL_zero]; exact cels_zero2 _ _ n⟩ (only_alloc (only_refl w1 none) _) (by simp [Value.ownBlock]), Blk.new _ _ _, hb1.alloc (by omega) _⟩
      have hgs : ¬ Z.heap.size = w1.heap.size := by
        have := (owns_ge H1.out.1 Z.heap.size rfl).2; omega
      have hgs' : ¬ w1.heap.size = Z.heap.size := fun e => hgs e.symm
      clear H1 z1 z2 z3
      go_loopw [38] (fun s38 wr => ∃ j : Nat, j ≤ n ∧ s38 = .int .i64 (j : Int) ∧ Hid (OwnF wr (w.heap.size + 1) (.slice (some ⟨Z.heap.size, 0, none⟩) n n) (oneL n j) ∧ Blk wr w1.heap.size 90 #[.slice (some ⟨Z.heap.size, 0, none⟩) n n, .int .i64 0, .int .i64 1, .bool false] ∧ Below (w.heap.size + 1) (w.alloc (.cells #[.int .i64 kd, .slice L nm cl, .slice M nm cm, .int .i64 ak, .int .i64 aa, .int .i64 ab, .slice O no co, .int .i64 rk, .int .i64 rt] 44)) wr)) (fun s _ => n - (intOf s).toNat)
      case atStart => exact ⟨0, Nat.zero_le _, rfl, H2⟩
      case round =>
        clear H2
        obtain ⟨j, hj, rfl, HJ⟩ := hrel
        have d0 : wr.cell? ⟨w1.heap.size, 0, none⟩ = some (.slice (some ⟨Z.heap.size, 0, none⟩) n n) := HJ.out.2.1.cell 0
        have hgl : Z.heap.size < wr.heap.size := (HJ.out.1.lt _ rfl).2
        have hsl : w1.heap.size < wr.heap.size := HJ.out.2.1.lt
        by_cases hlt : j < n
        · have hltI : (j : Int) < (n : Int) := by omega
          have hg0 := oneL_get (j := j) hlt
          rw [if_neg (Nat.lt_irrefl j)] at hg0
          have d1 := (HJ.out.1.cells hg0).2
          have d2 : wr.frozen? ⟨Z.heap.size, j * 2 + 1, none⟩ = false := HJ.out.1.unfrozen (j * 2 + 1)
          have HX := Lib.hid (And.intro (oneL_next hlt) hg0)
          clear hg0
          go_wp2_with fail
          go_roundw
          case rel =>
            refine ⟨j + 1, by omega, by go_num, ?_, HJ.out.2.1.far (by simpa using hgs') _, HJ.out.2.2.setCell (p := ⟨Z.heap.size, j * 2 + 1, none⟩) hzZ _⟩
            rw [← HX.out.1]
            exact OwnF.den HJ.out.1 (oneL_len n j).symm HX.out.2 (d := 1) ⟨by decide, by decide⟩
          case measure => simp [intOf]; omega
        · obtain rfl : j = n := by omega
          have H3 : Hid (SumM wr (w.heap.size + 1) w1.heap.size Z.heap.size j (sum0 j) ∧ sumF ats (sum0 j) (lits.drop 0) (nums.drop 0) = R ∧ Below (w.heap.size + 1) (w.alloc (.cells #[.int .i64 kd, .slice L nm cl, .slice M nm cm, .int .i64 ak, .int .i64 aa, .int .i64 ab, .slice O no co, .int .i64 rk, .int .i64 rt] 44)) wr) :=
            ⟨⟨HJ.out.2.1, by have := HJ.out.1; rwa [oneL_all] at this, by simp [sum0], hgs, by omega, fun q hq => by rw [(List.mem_replicate.1 hq).2]; decide +kernel, show fracGood 0 1 = true from by decide +kernel⟩, HR.out, HJ.out.2.2⟩
          have e1 : wr.cell? ⟨w.heap.size, 1, none⟩ = some (.slice L nm cl) := (HK.out.2.below HJ.out.2.2 (Nat.lt_succ_self _)).cell 1
          have e2 : wr.cell? ⟨w.heap.size, 2, none⟩ = some (.slice M nm cm) := (HK.out.2.below HJ.out.2.2 (Nat.lt_succ_self _)).cell 2
          clear HJ d0
          go_wp2_with fail
          go_loopw [52] (fun s52 wr => ∃ k : Nat, k ≤ nm ∧ s52 = .int .i64 (k : Int) ∧ Hid (∃ t, SumM wr (w.heap.size + 1) w1.heap.size Z.heap.size j t ∧ sumF ats t (lits.drop k) (nums.drop k) = R ∧ Below (w.heap.size + 1) (w.alloc (.cells #[.int .i64 kd, .slice L nm cl, .slice M nm cm, .int .i64 ak, .int .i64 aa, .int .i64 ab, .slice O no co, .int .i64 rk, .int .i64 rt] 44)) wr)) (fun s _ => nm - (intOf s).toNat)
          case atStart => exact ⟨0, Nat.zero_le _, rfl, _, H3.out⟩
          case round =>
            clear H3 e1 e2 hgl hsl
            obtain ⟨k, hk, rfl, HX⟩ := hrel
            obtain ⟨t, hsum, hrest, hbel⟩ := HX.out
            have hkW := HK.out.2.below hbel (Nat.lt_succ_self _)
            have e1 : wr.cell? ⟨w.heap.size, 1, none⟩ = some (.slice L nm cl) := hkW.cell 1
            have e2 : wr.cell? ⟨w.heap.size, 2, none⟩ = some (.slice M nm cm) := hkW.cell 2
            have hbw : Below w.heap.size w wr := HK.out.1.trans (hbel.mono (by omega))
            have hwz : w.heap.size + 1 ≤ wr.heap.size := by have := hbel.size; simpa using this
            have hgl : Z.heap.size < wr.heap.size := (hsum.own.lt _ rfl).2
            have hsl : w1.heap.size < wr.heap.size := hsum.blk.lt
            by_cases hlt : k < nm
            · have hltI : (k : Int) < (nm : Int) := by omega
              obtain ⟨b, off, hx, hLA, hb, hcell, hlo, hhi⟩ := ints_get (H.out.2.1.below stays_int hbw (Nat.le_refl _)) hlt
              obtain ⟨b2, off2, hx2, hMA, hb2, hm0, hm1⟩ := fracs_get' (H.out.2.2.2.1.below stays_frac hbw (Nat.le_refl _)) hlt
              subst hLA
              subst hMA
              have hlm := List.getElem_mem hx
              have hrest1 := hrest
              rw [drop_cons hx, drop_cons hx2, sumF_cons] at hrest1
              obtain ⟨y, hy⟩ : ∃ y, lits[k] = y := ⟨_, rfl⟩
              obtain ⟨m, hm⟩ : ∃ m, nums[k] = m := ⟨_, rfl⟩
              rw [hy] at hcell hlm hrest1
              rw [hm] at hm0 hm1 hrest1
              have hlit := H.out.2.2.1 y hlm
              have hst := H.out.1.later hbw
              have hkind : (atomAt ats y).kind = 3 := by
                have h1 := HA.out
                unfold allK at h1
                exact of_decide_eq_true (List.all_eq_true.1 h1 y hlm)
              have hrok := H.out.2.2.2.2.1 _ (atomAt_mem hlit) hkind
              have hbl : b < wr.heap.size := by omega
              have hb2l : b2 < wr.heap.size := by omega
              have HS := Lib.hid (And.intro hsum (And.intro hbel (And.intro hst (And.intro hlit hrok))))
              clear hy hm hlo hhi hlm hx hx2 hkind hkW hsum hbel hst hlit hrok hbw HX hrest
              cases hgood : fracGood m.num m.den with
              | false =>
                rw [hgood, if_neg (by simp)] at hrest1
                have HE : Hid (R = none) := hrest1.symm
                have HC := Lib.hid (fun W => fracCheck_no m.num m.den hgood W)
                have hfd := fun W => field_codeF 3 0 W
                clear hgood hrest1
                go_wp2_with fail
                refine wp_region_any (by kernel_rfl) ?_
                try (change wpAny _ _ _ _ _ _ _ (World.drew _))
                refine wpAny_take (i := 0) (v := ?vp0_1) rfl (by kernel_rfl) (by kernel_rfl) (by kernel_rfl) (fun _ _ _ h => h) (Or.inl ⟨by kernel_rfl, ?hyp0_1⟩) ?restp0_1
                case hyp0_1 => (intro w; go_simp; try with_reducible rfl)
                refine wpAny_take (i := 2) (v := ?vp2_2) rfl (by kernel_rfl) (by kernel_rfl) (by kernel_rfl) (fun _ _ _ h => h) (Or.inl ⟨by kernel_rfl, ?hyp2_2⟩) ?restp2_2
                case hyp2_2 => (intro w; go_simp; try with_reducible rfl)
                refine wpAny_ready (rs := [1]) (by kernel_rfl) (by simp) ?_
                refine AllReady.cons rfl (fun K hK => ?_) ?_
                · go_simp
                  refine hK _ _ ?_
                  clear hK K
                  refine wpAny_take (i := 3) (v := ?vp3_3) rfl (by kernel_rfl) (by kernel_rfl) (by kernel_rfl) (fun _ _ _ h => h) (Or.inl ⟨by kernel_rfl, ?hyp3_3⟩) ?restp3_3
                  case hyp3_3 => (intro w; go_simp; try with_reducible rfl)
                  refine wpAny_ready (rs := [4]) (by kernel_rfl) (by simp) ?_
                  refine AllReady.cons rfl (fun K hK => ?_) ?_
                  · go_simp
                    refine hK _ _ ?_
                    clear hK K
                    refine wpAny_ready (rs := [5]) (by kernel_rfl) (by simp) ?_
                    refine AllReady.cons rfl (fun K hK => ?_) ?_
                    · go_simp
                      go_at_call 48
                      with_reducible refine (HC.out wr.drew).mono ?_
                      rintro e w9 ⟨rfl, hb9⟩
                      have HB9 := Lib.hid (below_of_drew hb9)
                      clear hb9
                      go_simp
                      refine hK _ _ ?_
                      clear hK K
                      refine wpAny_take (i := 6) (v := ?vp6_4) rfl (by kernel_rfl) (by kernel_rfl) (by kernel_rfl) (fun _ _ _ h => h) (Or.inl ⟨by kernel_rfl, ?hyp6_4⟩) ?restp6_4
                      case hyp6_4 => (intro w; go_simp; try with_reducible rfl)
                      refine wpAny_take (i := 7) (v := ?vp7_5) rfl (by kernel_rfl) (by kernel_rfl) (by kernel_rfl) (fun _ _ _ h => h) (Or.inl ⟨by kernel_rfl, ?hyp7_5⟩) ?restp7_5
                      case hyp7_5 => (intro w; go_simp; try with_reducible rfl)
                      refine wpAny_take (i := 8) (v := ?vp8_6) rfl (by kernel_rfl) (by kernel_rfl) (by kernel_rfl) (fun _ _ _ h => h) (Or.inl ⟨by kernel_rfl, ?hyp8_6⟩) ?restp8_6
                      case hyp8_6 => (intro w; go_simp; try with_reducible rfl)
                      refine wpAny_take (i := 9) (v := undef) rfl (by kernel_rfl) (by kernel_rfl) (by kernel_rfl) (fun _ _ _ h => h) (Or.inr ⟨by kernel_rfl, rfl⟩) ?_
                      refine wpAny_take (i := 10) (v := undef) rfl (by kernel_rfl) (by kernel_rfl) (by kernel_rfl) (fun _ _ _ h => h) (Or.inr ⟨by kernel_rfl, rfl⟩) ?_
                      refine wpAny_take (i := 11) (v := undef) rfl (by kernel_rfl) (by kernel_rfl) (by kernel_rfl) (fun _ _ _ h => h) (Or.inr ⟨by kernel_rfl, rfl⟩) ?_
                      refine wpAny_take (i := 14) (v := undef) rfl (by kernel_rfl) (by kernel_rfl) (by kernel_rfl) (fun _ _ _ h => h) (Or.inr ⟨by kernel_rfl, rfl⟩) ?_
                      refine wpAny_take (i := 15) (v := undef) rfl (by kernel_rfl) (by kernel_rfl) (by kernel_rfl) (fun _ _ _ h => h) (Or.inr ⟨by kernel_rfl, rfl⟩) ?_
                      refine wpAny_take (i := 16) (v := undef) rfl (by kernel_rfl) (by kernel_rfl) (by kernel_rfl) (fun _ _ _ h => h) (Or.inr ⟨by kernel_rfl, rfl⟩) ?_
                      refine wpAny_take (i := 18) (v := undef) rfl (by kernel_rfl) (by kernel_rfl) (by kernel_rfl) (fun _ _ _ h => h) (Or.inr ⟨by kernel_rfl, rfl⟩) ?_
                      refine wpAny_ready (rs := [12, 17]) (by kernel_rfl) (by simp) ?_
                      refine AllReady.cons rfl (fun K hK => ?_) ?_
                      · go_simp
                        refine hK _ _ ?_
                        clear hK K
                        refine wpAny_take (i := 13) (v := undef) rfl (by kernel_rfl) (by kernel_rfl) (by kernel_rfl) (fun _ _ _ h => h) (Or.inr ⟨by kernel_rfl, rfl⟩) ?_
                        refine wpAny_ready (rs := [17]) (by kernel_rfl) (by simp) ?_
                        refine AllReady.cons rfl (fun K hK => ?_) ?_
                        · go_simp
                          refine hK _ _ ?_
                          clear hK K
                          refine wpAny_take (i := 19) (v := undef) rfl (by kernel_rfl) (by kernel_rfl) (by kernel_rfl) (fun _ _ _ h => h) (Or.inr ⟨by kernel_rfl, rfl⟩) ?_
                          refine wpAny_ready (rs := [20]) (by kernel_rfl) (by simp) ?_
                          refine AllReady.cons rfl (fun K hK => ?_) ?_
                          · go_simp
                            refine hK _ _ ?_
                            clear hK K
                            refine wpAny_ready (rs := [21]) (by kernel_rfl) (by simp) ?_
                            refine AllReady.cons rfl (fun K hK => ?_) ?_
                            · go_simp
                              refine hK _ _ ?_
                              clear hK K
                              refine wpAny_take (i := 22) (v := undef) rfl (by kernel_rfl) (by kernel_rfl) (by kernel_rfl) (fun _ _ _ h => h) (Or.inr ⟨by kernel_rfl, rfl⟩) ?_
                              refine wpAny_take (i := 23) (v := ?vp23_7) rfl (by kernel_rfl) (by kernel_rfl) (by kernel_rfl) (fun _ _ _ h => h) (Or.inl ⟨by kernel_rfl, ?hyp23_7⟩) ?restp23_7
                              case hyp23_7 => (intro w; go_simp; try with_reducible rfl)
                              refine wpAny_done (by kernel_rfl) ?_ _
                              go_simp
                              go_wp2_with fail
                              go_ret
                              exact ⟨ret_bool (by rw [HRW.out, HE.out]; rfl), HK.out.1.trans ((HS.out.2.1.trans (HB9.out.mono hwz)).mono (by omega))⟩
                            exact AllReady.nil
                          exact AllReady.nil
                        exact AllReady.nil
                      refine AllReady.cons rfl (fun K hK => ?_) ?_
                      · go_simp
                        refine hK _ _ ?_
                        clear hK K
                        refine wpAny_take (i := 19) (v := undef) rfl (by kernel_rfl) (by kernel_rfl) (by kernel_rfl) (fun _ _ _ h => h) (Or.inr ⟨by kernel_rfl, rfl⟩) ?_
                        refine wpAny_ready (rs := [12, 20]) (by kernel_rfl) (by simp) ?_
                        refine AllReady.cons rfl (fun K hK => ?_) ?_
                        · go_simp
                          refine hK _ _ ?_
                          clear hK K
                          refine wpAny_take (i := 13) (v := undef) rfl (by kernel_rfl) (by kernel_rfl) (by kernel_rfl) (fun _ _ _ h => h) (Or.inr ⟨by kernel_rfl, rfl⟩) ?_
                          refine wpAny_ready (rs := [20]) (by kernel_rfl) (by simp) ?_
                          refine AllReady.cons rfl (fun K hK => ?_) ?_
                          · go_simp
                            refine hK _ _ ?_
                            clear hK K
                            refine wpAny_ready (rs := [21]) (by kernel_rfl) (by simp) ?_
                            refine AllReady.cons rfl (fun K hK => ?_) ?_
                            · go_simp
                              refine hK _ _ ?_
                              clear hK K
                              refine wpAny_take (i := 22) (v := undef) rfl (by kernel_rfl) (by kernel_rfl) (by kernel_rfl) (fun _ _ _ h => h) (Or.inr ⟨by kernel_rfl, rfl⟩) ?_
                              refine wpAny_take (i := 23) (v := ?vp23_8) rfl (by kernel_rfl) (by kernel_rfl) (by kernel_rfl) (fun _ _ _ h => h) (Or.inl ⟨by kernel_rfl, ?hyp23_8⟩) ?restp23_8
                              case hyp23_8 => (intro w; go_simp; try with_reducible rfl)
                              refine wpAny_done (by kernel_rfl) ?_ _
                              go_simp
                              go_wp2_with fail
                              go_ret
                              exact ⟨ret_bool (by rw [HRW.out, HE.out]; rfl), HK.out.1.trans ((HS.out.2.1.trans (HB9.out.mono hwz)).mono (by omega))⟩
                            exact AllReady.nil
                          exact AllReady.nil
                        refine AllReady.cons rfl (fun K hK => ?_) ?_
                        · go_simp
                          refine hK _ _ ?_
                          clear hK K
                          refine wpAny_ready (rs := [12]) (by kernel_rfl) (by simp) ?_
                          refine AllReady.cons rfl (fun K hK => ?_) ?_
                          · go_simp
                            refine hK _ _ ?_
                            clear hK K
                            refine wpAny_take (i := 13) (v := undef) rfl (by kernel_rfl) (by kernel_rfl) (by kernel_rfl) (fun _ _ _ h => h) (Or.inr ⟨by kernel_rfl, rfl⟩) ?_
                            refine wpAny_ready (rs := [21]) (by kernel_rfl) (by simp) ?_
                            refine AllReady.cons rfl (fun K hK => ?_) ?_
                            · go_simp
                              refine hK _ _ ?_
                              clear hK K
                              refine wpAny_take (i := 22) (v := undef) rfl (by kernel_rfl) (by kernel_rfl) (by kernel_rfl) (fun _ _ _ h => h) (Or.inr ⟨by kernel_rfl, rfl⟩) ?_
                              refine wpAny_take (i := 23) (v := ?vp23_9) rfl (by kernel_rfl) (by kernel_rfl) (by kernel_rfl) (fun _ _ _ h => h) (Or.inl ⟨by kernel_rfl, ?hyp23_9⟩) ?restp23_9
                              case hyp23_9 => (intro w; go_simp; try with_reducible rfl)
                              refine wpAny_done (by kernel_rfl) ?_ _
                              go_simp
                              go_wp2_with fail
                              go_ret
                              exact ⟨ret_bool (by rw [HRW.out, HE.out]; rfl), HK.out.1.trans ((HS.out.2.1.trans (HB9.out.mono hwz)).mono (by omega))⟩
                            exact AllReady.nil
                          exact AllReady.nil
                        exact AllReady.nil
                      exact AllReady.nil
                    exact AllReady.nil
                  exact AllReady.nil
                exact AllReady.nil
              | true =>
                rw [hgood, if_pos rfl] at hrest1
                have HC := Lib.hid (fun W => fracCheck_yes m.num m.den hgood W)
                have hfd := fun W => field_codeF 0 0 W
                have HG := Lib.hid hgood
                obtain ⟨z, hz⟩ : ∃ z, atomAt ats y = z := ⟨_, rfl⟩
                have HAT : Hid (∀ W, Below wr.heap.size wr W → Calls Try.prog 45 #[.pointer (some ⟨G, 0, none⟩), .int .i64 y] W (AtomP B0 z W)) := fun W hW => by
                  rw [← hz]
                  exact jatom_any B0 G A1 A2 A3 c1 c2 c3 ts ints ats y W (HS.out.2.2.1.later hW) HS.out.2.2.2.1
                have HTK : Hid (∀ (W : World) (Az : Option Addr) (nz cz : Nat), Below wr.heap.size wr W → IntsB W B0 Az nz z.row.of_ → Calls Try.prog 49 #[.pointer (some ⟨w1.heap.size, 0, none⟩), .agg #[.slice Az nz cz, .int .i64 z.row.kind, .int .i64 z.row.to_], .bool (decide (0 < y)), .agg #[.int .i64 m.num, .int .i64 m.den]] W (TakeP (w.heap.size + 1) w1.heap.size Z.heap.size j t z.row (decide (0 < y)) m W)) := fun W Az nz cz hW har =>
                  jtake_any (w.heap.size + 1) w1.heap.size Z.heap.size j t Az nz cz z.row (decide (0 < y)) m W (HS.out.1.later hW) (Nat.le_trans hwz hW.size) (har.below stays_int (Below.refl _ _) (by have := H.out.1.hB; omega)) (by have := HS.out.2.2.2.2; rwa [hz] at this) HG.out hni
                have hfr := field_row z
                rw [hz] at hrest1
                clear hz hgood
                cases htk : takeF t z.row (decide (0 < y)) m with
                | none =>
                  rw [htk] at hrest1
                  have HE : Hid (R = none) := hrest1.symm
                  have HQ := Lib.hid htk
                  clear htk hrest1
                  go_wp2_with fail
                  refine wp_region_any (by kernel_rfl) ?_
                  try (change wpAny _ _ _ _ _ _ _ (World.drew _))
                  refine wpAny_take (i := 0) (v := ?vq0_1) rfl (by kernel_rfl) (by kernel_rfl) (by kernel_rfl) (fun _ _ _ h => h) (Or.inl ⟨by kernel_rfl, ?hyq0_1⟩) ?restq0_1
                  case hyq0_1 => (intro w; go_simp; try with_reducible rfl)
                  refine wpAny_take (i := 2) (v := ?vq2_2) rfl (by kernel_rfl) (by kernel_rfl) (by kernel_rfl) (fun _ _ _ h => h) (Or.inl ⟨by kernel_rfl, ?hyq2_2⟩) ?restq2_2
                  case hyq2_2 => (intro w; go_simp; try with_reducible rfl)
                  refine wpAny_ready (rs := [1]) (by kernel_rfl) (by simp) ?_
                  refine AllReady.cons rfl (fun K hK => ?_) ?_
                  · go_simp
                    refine hK _ _ ?_
                    clear hK K
                    refine wpAny_take (i := 3) (v := ?vq3_3) rfl (by kernel_rfl) (by kernel_rfl) (by kernel_rfl) (fun _ _ _ h => h) (Or.inl ⟨by kernel_rfl, ?hyq3_3⟩) ?restq3_3
                    case hyq3_3 => (intro w; go_simp; try with_reducible rfl)
                    refine wpAny_ready (rs := [4]) (by kernel_rfl) (by simp) ?_
                    refine AllReady.cons rfl (fun K hK => ?_) ?_
                    · go_simp
                      refine hK _ _ ?_
                      clear hK K
                      refine wpAny_ready (rs := [5]) (by kernel_rfl) (by simp) ?_
                      refine AllReady.cons rfl (fun K hK => ?_) ?_
                      · go_simp
                        go_at_call 48
                        with_reducible refine (HC.out wr.drew).mono ?_
                        rintro e w9 ⟨rfl, hb9⟩
                        have hbx9 : Below wr.heap.size wr w9 := below_of_drew hb9
                        have f1 : w9.cell? ⟨w.heap.size, 2, none⟩ = some (.slice (some ⟨b2, off2, none⟩) nm cm) := (hbx9.cell (p := ⟨w.heap.size, 2, none⟩) (by show w.heap.size < _; omega)).trans e2
                        have f2 : w9.cell? ⟨b2, off2 + k * 2, none⟩ = some (.int .i64 m.num) := (hbx9.cell (p := ⟨b2, off2 + k * 2, none⟩) hb2l).trans hm0
                        have f3 : w9.cell? ⟨b2, off2 + k * 2 + 1, none⟩ = some (.int .i64 m.den) := (hbx9.cell (p := ⟨b2, off2 + k * 2 + 1, none⟩) hb2l).trans hm1
                        have HB9 := Lib.hid hbx9
                        clear hb9 hbx9
                        go_simp
                        refine hK _ _ ?_
                        clear hK K
                        refine wpAny_take (i := 6) (v := ?vq6_4) rfl (by kernel_rfl) (by kernel_rfl) (by kernel_rfl) (fun _ _ _ h => h) (Or.inl ⟨by kernel_rfl, ?hyq6_4⟩) ?restq6_4
                        case hyq6_4 => (intro w; go_simp; try with_reducible rfl)
                        refine wpAny_take (i := 7) (v := ?vq7_5) rfl (by kernel_rfl) (by kernel_rfl) (by kernel_rfl) (fun _ _ _ h => h) (Or.inl ⟨by kernel_rfl, ?hyq7_5⟩) ?restq7_5
                        case hyq7_5 => (intro w; go_simp; try with_reducible rfl)
                        refine wpAny_take (i := 8) (v := ?vq8_6) rfl (by kernel_rfl) (by kernel_rfl) (by kernel_rfl) (fun _ _ _ h => h) (Or.inl ⟨by kernel_rfl, ?hyq8_6⟩) ?restq8_6
                        case hyq8_6 => (intro w; go_simp; try with_reducible rfl)
                        refine wpAny_take (i := 9) (v := ?vq9_7) rfl (by kernel_rfl) (by kernel_rfl) (by kernel_rfl) (fun _ _ _ h => h) (Or.inl ⟨by kernel_rfl, ?hyq9_7⟩) ?restq9_7
                        case hyq9_7 => (intro w; go_simp; try with_reducible rfl)
                        refine wpAny_take (i := 10) (v := ?vq10_8) rfl (by kernel_rfl) (by kernel_rfl) (by kernel_rfl) (fun _ _ _ h => h) (Or.inl ⟨by kernel_rfl, ?hyq10_8⟩) ?restq10_8
                        case hyq10_8 => (intro w; go_simp; try with_reducible rfl)
                        refine wpAny_take (i := 11) (v := ?vq11_9) rfl (by kernel_rfl) (by kernel_rfl) (by kernel_rfl) (fun _ _ _ h => h) (Or.inl ⟨by kernel_rfl, ?hyq11_9⟩) ?restq11_9
                        case hyq11_9 => (intro w; go_simp; try with_reducible rfl)
                        refine wpAny_take (i := 14) (v := ?vq14_10) rfl (by kernel_rfl) (by kernel_rfl) (by kernel_rfl) (fun _ _ _ h => h) (Or.inl ⟨by kernel_rfl, ?hyq14_10⟩) ?restq14_10
                        case hyq14_10 => (intro w; go_simp; try with_reducible rfl)
                        refine wpAny_take (i := 15) (v := ?vq15_11) rfl (by kernel_rfl) (by kernel_rfl) (by kernel_rfl) (fun _ _ _ h => h) (Or.inl ⟨by kernel_rfl, ?hyq15_11⟩) ?restq15_11
                        case hyq15_11 => (intro w; go_simp; try with_reducible rfl)
                        refine wpAny_take (i := 16) (v := ?vq16_12) rfl (by kernel_rfl) (by kernel_rfl) (by kernel_rfl) (fun _ _ _ h => h) (Or.inl ⟨by kernel_rfl, ?hyq16_12⟩) ?restq16_12
                        case hyq16_12 => (intro w; go_simp; try with_reducible rfl)
                        refine wpAny_take (i := 18) (v := ?vq18_13) rfl (by kernel_rfl) (by kernel_rfl) (by kernel_rfl) (fun _ _ _ h => h) (Or.inl ⟨by kernel_rfl, ?hyq18_13⟩) ?restq18_13
                        case hyq18_13 => (intro w; go_simp; try with_reducible rfl)
                        refine wpAny_ready (rs := [12, 17]) (by kernel_rfl) (by simp) ?_
                        refine AllReady.cons rfl (fun K hK => ?_) ?_
                        · go_simp
                          go_at_call 45
                          with_reducible refine (HAT.out w9 HB9.out).mono ?_
                          rintro e w8 ⟨Az, nz, cz, rfl, har, hnc, hcm, hb8⟩
                          have hbx8 : Below wr.heap.size wr w8 := HB9.out.trans (hb8.mono HB9.out.size)
                          have g1 : w8.cell? ⟨w.heap.size, 2, none⟩ = some (.slice (some ⟨b2, off2, none⟩) nm cm) := (hbx8.cell (p := ⟨w.heap.size, 2, none⟩) (by show w.heap.size < _; omega)).trans e2
                          have g2 : w8.cell? ⟨b2, off2 + k * 2, none⟩ = some (.int .i64 m.num) := (hbx8.cell (p := ⟨b2, off2 + k * 2, none⟩) hb2l).trans hm0
                          have g3 : w8.cell? ⟨b2, off2 + k * 2 + 1, none⟩ = some (.int .i64 m.den) := (hbx8.cell (p := ⟨b2, off2 + k * 2 + 1, none⟩) hb2l).trans hm1
                          have HB8 := Lib.hid (And.intro hbx8 (har.below stays_int (hb8.mono (by have := H.out.1.hB; have := HB9.out.size; omega)) (Nat.le_refl _)))
                          clear hb8 hbx8 har hnc hcm
                          go_simp
                          refine hK _ _ ?_
                          clear hK K
                          refine wpAny_take (i := 13) (v := ?vq13_14) rfl (by kernel_rfl) (by kernel_rfl) (by kernel_rfl) (fun _ _ _ h => h) (Or.inl ⟨by kernel_rfl, ?hyq13_14⟩) ?restq13_14
                          case hyq13_14 => (intro w; go_simp; try with_reducible rfl)
                          refine wpAny_ready (rs := [17]) (by kernel_rfl) (by simp) ?_
                          refine AllReady.cons rfl (fun K hK => ?_) ?_
                          · go_simp
                            refine hK _ _ ?_
                            clear hK K
                            refine wpAny_take (i := 19) (v := ?vq19_15) rfl (by kernel_rfl) (by kernel_rfl) (by kernel_rfl) (fun _ _ _ h => h) (Or.inl ⟨by kernel_rfl, ?hyq19_15⟩) ?restq19_15
                            case hyq19_15 => (intro w; go_simp; try with_reducible rfl)
                            refine wpAny_ready (rs := [20]) (by kernel_rfl) (by simp) ?_
                            refine AllReady.cons rfl (fun K hK => ?_) ?_
                            · go_simp
                              refine hK _ _ ?_
                              clear hK K
                              refine wpAny_ready (rs := [21]) (by kernel_rfl) (by simp) ?_
                              refine AllReady.cons rfl (fun K hK => ?_) ?_
                              · go_simp
                                go_at_call 49
                                with_reducible refine (HTK.out w8 Az nz cz HB8.out.1 HB8.out.2).mono ?_
                                rintro e w7 ⟨-, hno, hb7⟩
                                obtain rfl := hno HQ.out
                                have HB7 := Lib.hid hb7
                                clear hno hb7
                                go_simp
                                refine hK _ _ ?_
                                clear hK K
                                refine wpAny_take (i := 22) (v := ?vq22_16) rfl (by kernel_rfl) (by kernel_rfl) (by kernel_rfl) (fun _ _ _ h => h) (Or.inl ⟨by kernel_rfl, ?hyq22_16⟩) ?restq22_16
                                case hyq22_16 => (intro w; go_simp; try with_reducible rfl)
                                refine wpAny_take (i := 23) (v := ?vq23_17) rfl (by kernel_rfl) (by kernel_rfl) (by kernel_rfl) (fun _ _ _ h => h) (Or.inl ⟨by kernel_rfl, ?hyq23_17⟩) ?restq23_17
                                case hyq23_17 => (intro w; go_simp; try with_reducible rfl)
                                refine wpAny_done (by kernel_rfl) ?_ _
                                go_simp
                                go_wp2_with fail
                                go_ret
                                exact ⟨ret_bool (by rw [HRW.out, HE.out]; rfl), HK.out.1.trans (((HS.out.2.1.trans (HB8.out.1.mono hwz)).trans HB7.out).mono (by omega))⟩
                              exact AllReady.nil
                            exact AllReady.nil
                          exact AllReady.nil
                        refine AllReady.cons rfl (fun K hK => ?_) ?_
                        · go_simp
                          refine hK _ _ ?_
                          clear hK K
                          refine wpAny_take (i := 19) (v := ?vq19_18) rfl (by kernel_rfl) (by kernel_rfl) (by kernel_rfl) (fun _ _ _ h => h) (Or.inl ⟨by kernel_rfl, ?hyq19_18⟩) ?restq19_18
                          case hyq19_18 => (intro w; go_simp; try with_reducible rfl)
                          refine wpAny_ready (rs := [12, 20]) (by kernel_rfl) (by simp) ?_
                          refine AllReady.cons rfl (fun K hK => ?_) ?_
                          · go_simp
                            go_at_call 45
                            with_reducible refine (HAT.out w9 HB9.out).mono ?_
                            rintro e w8 ⟨Az, nz, cz, rfl, har, hnc, hcm, hb8⟩
                            have hbx8 : Below wr.heap.size wr w8 := HB9.out.trans (hb8.mono HB9.out.size)
                            have g1 : w8.cell? ⟨w.heap.size, 2, none⟩ = some (.slice (some ⟨b2, off2, none⟩) nm cm) := (hbx8.cell (p := ⟨w.heap.size, 2, none⟩) (by show w.heap.size < _; omega)).trans e2
                            have g2 : w8.cell? ⟨b2, off2 + k * 2, none⟩ = some (.int .i64 m.num) := (hbx8.cell (p := ⟨b2, off2 + k * 2, none⟩) hb2l).trans hm0
                            have g3 : w8.cell? ⟨b2, off2 + k * 2 + 1, none⟩ = some (.int .i64 m.den) := (hbx8.cell (p := ⟨b2, off2 + k * 2 + 1, none⟩) hb2l).trans hm1
                            have HB8 := Lib.hid (And.intro hbx8 (har.below stays_int (hb8.mono (by have := H.out.1.hB; have := HB9.out.size; omega)) (Nat.le_refl _)))
                            clear hb8 hbx8 har hnc hcm
                            go_simp
                            refine hK _ _ ?_
                            clear hK K
                            refine wpAny_take (i := 13) (v := ?vq13_19) rfl (by kernel_rfl) (by kernel_rfl) (by kernel_rfl) (fun _ _ _ h => h) (Or.inl ⟨by kernel_rfl, ?hyq13_19⟩) ?restq13_19
                            case hyq13_19 => (intro w; go_simp; try with_reducible rfl)
                            refine wpAny_ready (rs := [20]) (by kernel_rfl) (by simp) ?_
                            refine AllReady.cons rfl (fun K hK => ?_) ?_
                            · go_simp
                              refine hK _ _ ?_
                              clear hK K
                              refine wpAny_ready (rs := [21]) (by kernel_rfl) (by simp) ?_
                              refine AllReady.cons rfl (fun K hK => ?_) ?_
                              · go_simp
                                go_at_call 49
                                with_reducible refine (HTK.out w8 Az nz cz HB8.out.1 HB8.out.2).mono ?_
                                rintro e w7 ⟨-, hno, hb7⟩
                                obtain rfl := hno HQ.out
                                have HB7 := Lib.hid hb7
                                clear hno hb7
                                go_simp
                                refine hK _ _ ?_
                                clear hK K
                                refine wpAny_take (i := 22) (v := ?vq22_20) rfl (by kernel_rfl) (by kernel_rfl) (by kernel_rfl) (fun _ _ _ h => h) (Or.inl ⟨by kernel_rfl, ?hyq22_20⟩) ?restq22_20
                                case hyq22_20 => (intro w; go_simp; try with_reducible rfl)
                                refine wpAny_take (i := 23) (v := ?vq23_21) rfl (by kernel_rfl) (by kernel_rfl) (by kernel_rfl) (fun _ _ _ h => h) (Or.inl ⟨by kernel_rfl, ?hyq23_21⟩) ?restq23_21
                                case hyq23_21 => (intro w; go_simp; try with_reducible rfl)
                                refine wpAny_done (by kernel_rfl) ?_ _
                                go_simp
                                go_wp2_with fail
                                go_ret
                                exact ⟨ret_bool (by rw [HRW.out, HE.out]; rfl), HK.out.1.trans (((HS.out.2.1.trans (HB8.out.1.mono hwz)).trans HB7.out).mono (by omega))⟩
                              exact AllReady.nil
                            exact AllReady.nil
                          refine AllReady.cons rfl (fun K hK => ?_) ?_
                          · go_simp
                            refine hK _ _ ?_
                            clear hK K
                            refine wpAny_ready (rs := [12]) (by kernel_rfl) (by simp) ?_
                            refine AllReady.cons rfl (fun K hK => ?_) ?_
                            · go_simp
                              go_at_call 45
                              with_reducible refine (HAT.out w9 HB9.out).mono ?_
                              rintro e w8 ⟨Az, nz, cz, rfl, har, hnc, hcm, hb8⟩
                              have hbx8 : Below wr.heap.size wr w8 := HB9.out.trans (hb8.mono HB9.out.size)
                              have g1 : w8.cell? ⟨w.heap.size, 2, none⟩ = some (.slice (some ⟨b2, off2, none⟩) nm cm) := (hbx8.cell (p := ⟨w.heap.size, 2, none⟩) (by show w.heap.size < _; omega)).trans e2
                              have g2 : w8.cell? ⟨b2, off2 + k * 2, none⟩ = some (.int .i64 m.num) := (hbx8.cell (p := ⟨b2, off2 + k * 2, none⟩) hb2l).trans hm0
                              have g3 : w8.cell? ⟨b2, off2 + k * 2 + 1, none⟩ = some (.int .i64 m.den) := (hbx8.cell (p := ⟨b2, off2 + k * 2 + 1, none⟩) hb2l).trans hm1
                              have HB8 := Lib.hid (And.intro hbx8 (har.below stays_int (hb8.mono (by have := H.out.1.hB; have := HB9.out.size; omega)) (Nat.le_refl _)))
                              clear hb8 hbx8 har hnc hcm
                              go_simp
                              refine hK _ _ ?_
                              clear hK K
                              refine wpAny_take (i := 13) (v := ?vq13_22) rfl (by kernel_rfl) (by kernel_rfl) (by kernel_rfl) (fun _ _ _ h => h) (Or.inl ⟨by kernel_rfl, ?hyq13_22⟩) ?restq13_22
                              case hyq13_22 => (intro w; go_simp; try with_reducible rfl)
                              refine wpAny_ready (rs := [21]) (by kernel_rfl) (by simp) ?_
                              refine AllReady.cons rfl (fun K hK => ?_) ?_
                              · go_simp
                                go_at_call 49
                                with_reducible refine (HTK.out w8 Az nz cz HB8.out.1 HB8.out.2).mono ?_
                                rintro e w7 ⟨-, hno, hb7⟩
                                obtain rfl := hno HQ.out
                                have HB7 := Lib.hid hb7
                                clear hno hb7
                                go_simp
                                refine hK _ _ ?_
                                clear hK K
                                refine wpAny_take (i := 22) (v := ?vq22_23) rfl (by kernel_rfl) (by kernel_rfl) (by kernel_rfl) (fun _ _ _ h => h) (Or.inl ⟨by kernel_rfl, ?hyq22_23⟩) ?restq22_23
                                case hyq22_23 => (intro w; go_simp; try with_reducible rfl)
                                refine wpAny_take (i := 23) (v := ?vq23_24) rfl (by kernel_rfl) (by kernel_rfl) (by kernel_rfl) (fun _ _ _ h => h) (Or.inl ⟨by kernel_rfl, ?hyq23_24⟩) ?restq23_24
                                case hyq23_24 => (intro w; go_simp; try with_reducible rfl)
                                refine wpAny_done (by kernel_rfl) ?_ _
                                go_simp
                                go_wp2_with fail
                                go_ret
                                exact ⟨ret_bool (by rw [HRW.out, HE.out]; rfl), HK.out.1.trans (((HS.out.2.1.trans (HB8.out.1.mono hwz)).trans HB7.out).mono (by omega))⟩
                              exact AllReady.nil
                            exact AllReady.nil
                          exact AllReady.nil
                        exact AllReady.nil
                      exact AllReady.nil
                    exact AllReady.nil
                  exact AllReady.nil
                | some t' =>
                  rw [htk] at hrest1
                  have HE : Hid (sumF ats t' (lits.drop (k + 1)) (nums.drop (k + 1)) = R) := hrest1
                  have HQ := Lib.hid htk
                  clear htk hrest1
                  go_wp2_with fail
                  refine wp_region_any (by kernel_rfl) ?_
                  try (change wpAny _ _ _ _ _ _ _ (World.drew _))
                  refine wpAny_take (i := 0) (v := ?vr0_1) rfl (by kernel_rfl) (by kernel_rfl) (by kernel_rfl) (fun _ _ _ h => h) (Or.inl ⟨by kernel_rfl, ?hyr0_1⟩) ?restr0_1
                  case hyr0_1 => (intro w; go_simp; try with_reducible rfl)
                  refine wpAny_take (i := 2) (v := ?vr2_2) rfl (by kernel_rfl) (by kernel_rfl) (by kernel_rfl) (fun _ _ _ h => h) (Or.inl ⟨by kernel_rfl, ?hyr2_2⟩) ?restr2_2
                  case hyr2_2 => (intro w; go_simp; try with_reducible rfl)
                  refine wpAny_ready (rs := [1]) (by kernel_rfl) (by simp) ?_
                  refine AllReady.cons rfl (fun K hK => ?_) ?_
                  · go_simp
                    refine hK _ _ ?_
                    clear hK K
                    refine wpAny_take (i := 3) (v := ?vr3_3) rfl (by kernel_rfl) (by kernel_rfl) (by kernel_rfl) (fun _ _ _ h => h) (Or.inl ⟨by kernel_rfl, ?hyr3_3⟩) ?restr3_3
                    case hyr3_3 => (intro w; go_simp; try with_reducible rfl)
                    refine wpAny_ready (rs := [4]) (by kernel_rfl) (by simp) ?_
                    refine AllReady.cons rfl (fun K hK => ?_) ?_
                    · go_simp
                      refine hK _ _ ?_
                      clear hK K
                      refine wpAny_ready (rs := [5]) (by kernel_rfl) (by simp) ?_
                      refine AllReady.cons rfl (fun K hK => ?_) ?_
                      · go_simp
                        go_at_call 48
                        with_reducible refine (HC.out wr.drew).mono ?_
                        rintro e w9 ⟨rfl, hb9⟩
                        have hbx9 : Below wr.heap.size wr w9 := below_of_drew hb9
                        have f1 : w9.cell? ⟨w.heap.size, 2, none⟩ = some (.slice (some ⟨b2, off2, none⟩) nm cm) := (hbx9.cell (p := ⟨w.heap.size, 2, none⟩) (by show w.heap.size < _; omega)).trans e2
                        have f2 : w9.cell? ⟨b2, off2 + k * 2, none⟩ = some (.int .i64 m.num) := (hbx9.cell (p := ⟨b2, off2 + k * 2, none⟩) hb2l).trans hm0
                        have f3 : w9.cell? ⟨b2, off2 + k * 2 + 1, none⟩ = some (.int .i64 m.den) := (hbx9.cell (p := ⟨b2, off2 + k * 2 + 1, none⟩) hb2l).trans hm1
                        have HB9 := Lib.hid hbx9
                        clear hb9 hbx9
                        go_simp
                        refine hK _ _ ?_
                        clear hK K
                        refine wpAny_take (i := 6) (v := ?vr6_4) rfl (by kernel_rfl) (by kernel_rfl) (by kernel_rfl) (fun _ _ _ h => h) (Or.inl ⟨by kernel_rfl, ?hyr6_4⟩) ?restr6_4
                        case hyr6_4 => (intro w; go_simp; try with_reducible rfl)
                        refine wpAny_take (i := 7) (v := ?vr7_5) rfl (by kernel_rfl) (by kernel_rfl) (by kernel_rfl) (fun _ _ _ h => h) (Or.inl ⟨by kernel_rfl, ?hyr7_5⟩) ?restr7_5
                        case hyr7_5 => (intro w; go_simp; try with_reducible rfl)
                        refine wpAny_take (i := 8) (v := ?vr8_6) rfl (by kernel_rfl) (by kernel_rfl) (by kernel_rfl) (fun _ _ _ h => h) (Or.inl ⟨by kernel_rfl, ?hyr8_6⟩) ?restr8_6
                        case hyr8_6 => (intro w; go_simp; try with_reducible rfl)
                        refine wpAny_take (i := 9) (v := ?vr9_7) rfl (by kernel_rfl) (by kernel_rfl) (by kernel_rfl) (fun _ _ _ h => h) (Or.inl ⟨by kernel_rfl, ?hyr9_7⟩) ?restr9_7
                        case hyr9_7 => (intro w; go_simp; try with_reducible rfl)
                        refine wpAny_take (i := 10) (v := ?vr10_8) rfl (by kernel_rfl) (by kernel_rfl) (by kernel_rfl) (fun _ _ _ h => h) (Or.inl ⟨by kernel_rfl, ?hyr10_8⟩) ?restr10_8
                        case hyr10_8 => (intro w; go_simp; try with_reducible rfl)
                        refine wpAny_take (i := 11) (v := ?vr11_9) rfl (by kernel_rfl) (by kernel_rfl) (by kernel_rfl) (fun _ _ _ h => h) (Or.inl ⟨by kernel_rfl, ?hyr11_9⟩) ?restr11_9
                        case hyr11_9 => (intro w; go_simp; try with_reducible rfl)
                        refine wpAny_take (i := 14) (v := ?vr14_10) rfl (by kernel_rfl) (by kernel_rfl) (by kernel_rfl) (fun _ _ _ h => h) (Or.inl ⟨by kernel_rfl, ?hyr14_10⟩) ?restr14_10
                        case hyr14_10 => (intro w; go_simp; try with_reducible rfl)
                        refine wpAny_take (i := 15) (v := ?vr15_11) rfl (by kernel_rfl) (by kernel_rfl) (by kernel_rfl) (fun _ _ _ h => h) (Or.inl ⟨by kernel_rfl, ?hyr15_11⟩) ?restr15_11
                        case hyr15_11 => (intro w; go_simp; try with_reducible rfl)
                        refine wpAny_take (i := 16) (v := ?vr16_12) rfl (by kernel_rfl) (by kernel_rfl) (by kernel_rfl) (fun _ _ _ h => h) (Or.inl ⟨by kernel_rfl, ?hyr16_12⟩) ?restr16_12
                        case hyr16_12 => (intro w; go_simp; try with_reducible rfl)
                        refine wpAny_take (i := 18) (v := ?vr18_13) rfl (by kernel_rfl) (by kernel_rfl) (by kernel_rfl) (fun _ _ _ h => h) (Or.inl ⟨by kernel_rfl, ?hyr18_13⟩) ?restr18_13
                        case hyr18_13 => (intro w; go_simp; try with_reducible rfl)
                        refine wpAny_ready (rs := [12, 17]) (by kernel_rfl) (by simp) ?_
                        refine AllReady.cons rfl (fun K hK => ?_) ?_
                        · go_simp
                          go_at_call 45
                          with_reducible refine (HAT.out w9 HB9.out).mono ?_
                          rintro e w8 ⟨Az, nz, cz, rfl, har, hnc, hcm, hb8⟩
                          have hbx8 : Below wr.heap.size wr w8 := HB9.out.trans (hb8.mono HB9.out.size)
                          have g1 : w8.cell? ⟨w.heap.size, 2, none⟩ = some (.slice (some ⟨b2, off2, none⟩) nm cm) := (hbx8.cell (p := ⟨w.heap.size, 2, none⟩) (by show w.heap.size < _; omega)).trans e2
                          have g2 : w8.cell? ⟨b2, off2 + k * 2, none⟩ = some (.int .i64 m.num) := (hbx8.cell (p := ⟨b2, off2 + k * 2, none⟩) hb2l).trans hm0
                          have g3 : w8.cell? ⟨b2, off2 + k * 2 + 1, none⟩ = some (.int .i64 m.den) := (hbx8.cell (p := ⟨b2, off2 + k * 2 + 1, none⟩) hb2l).trans hm1
                          have HB8 := Lib.hid (And.intro hbx8 (har.below stays_int (hb8.mono (by have := H.out.1.hB; have := HB9.out.size; omega)) (Nat.le_refl _)))
                          clear hb8 hbx8 har hnc hcm
                          go_simp
                          refine hK _ _ ?_
                          clear hK K
                          refine wpAny_take (i := 13) (v := ?vr13_14) rfl (by kernel_rfl) (by kernel_rfl) (by kernel_rfl) (fun _ _ _ h => h) (Or.inl ⟨by kernel_rfl, ?hyr13_14⟩) ?restr13_14
                          case hyr13_14 => (intro w; go_simp; try with_reducible rfl)
                          refine wpAny_ready (rs := [17]) (by kernel_rfl) (by simp) ?_
                          refine AllReady.cons rfl (fun K hK => ?_) ?_
                          · go_simp
                            refine hK _ _ ?_
                            clear hK K
                            refine wpAny_take (i := 19) (v := ?vr19_15) rfl (by kernel_rfl) (by kernel_rfl) (by kernel_rfl) (fun _ _ _ h => h) (Or.inl ⟨by kernel_rfl, ?hyr19_15⟩) ?restr19_15
                            case hyr19_15 => (intro w; go_simp; try with_reducible rfl)
                            refine wpAny_ready (rs := [20]) (by kernel_rfl) (by simp) ?_
                            refine AllReady.cons rfl (fun K hK => ?_) ?_
                            · go_simp
                              refine hK _ _ ?_
                              clear hK K
                              refine wpAny_ready (rs := [21]) (by kernel_rfl) (by simp) ?_
                              refine AllReady.cons rfl (fun K hK => ?_) ?_
                              · go_simp
                                go_at_call 49
                                with_reducible refine (HTK.out w8 Az nz cz HB8.out.1 HB8.out.2).mono ?_
                                rintro e w7 ⟨hyes, -, hb7⟩
                                obtain ⟨rfl, hs7⟩ := hyes t' HQ.out
                                have HB7 := Lib.hid (And.intro hs7 hb7)
                                clear hyes hs7 hb7
                                go_simp
                                refine hK _ _ ?_
                                clear hK K
                                refine wpAny_take (i := 22) (v := ?vr22_16) rfl (by kernel_rfl) (by kernel_rfl) (by kernel_rfl) (fun _ _ _ h => h) (Or.inl ⟨by kernel_rfl, ?hyr22_16⟩) ?restr22_16
                                case hyr22_16 => (intro w; go_simp; try with_reducible rfl)
                                refine wpAny_take (i := 23) (v := ?vr23_17) rfl (by kernel_rfl) (by kernel_rfl) (by kernel_rfl) (fun _ _ _ h => h) (Or.inl ⟨by kernel_rfl, ?hyr23_17⟩) ?restr23_17
                                case hyr23_17 => (intro w; go_simp; try with_reducible rfl)
                                refine wpAny_done (by kernel_rfl) ?_ _
                                go_simp
                                go_wp2_with fail
                                go_roundw
                                case rel => exact ⟨k + 1, by omega, by go_num, t', HB7.out.1, HE.out, (HS.out.2.1.trans (HB8.out.1.mono hwz)).trans HB7.out.2⟩
                                case measure => simp [intOf]; omega
                              exact AllReady.nil
                            exact AllReady.nil
                          exact AllReady.nil
                        refine AllReady.cons rfl (fun K hK => ?_) ?_
                        · go_simp
                          refine hK _ _ ?_
                          clear hK K
                          refine wpAny_take (i := 19) (v := ?vr19_18) rfl (by kernel_rfl) (by kernel_rfl) (by kernel_rfl) (fun _ _ _ h => h) (Or.inl ⟨by kernel_rfl, ?hyr19_18⟩) ?restr19_18
                          case hyr19_18 => (intro w; go_simp; try with_reducible rfl)
                          refine wpAny_ready (rs := [12, 20]) (by kernel_rfl) (by simp) ?_
                          refine AllReady.cons rfl (fun K hK => ?_) ?_
                          · go_simp
                            go_at_call 45
                            with_reducible refine (HAT.out w9 HB9.out).mono ?_
                            rintro e w8 ⟨Az, nz, cz, rfl, har, hnc, hcm, hb8⟩
                            have hbx8 : Below wr.heap.size wr w8 := HB9.out.trans (hb8.mono HB9.out.size)
                            have g1 : w8.cell? ⟨w.heap.size, 2, none⟩ = some (.slice (some ⟨b2, off2, none⟩) nm cm) := (hbx8.cell (p := ⟨w.heap.size, 2, none⟩) (by show w.heap.size < _; omega)).trans e2
                            have g2 : w8.cell? ⟨b2, off2 + k * 2, none⟩ = some (.int .i64 m.num) := (hbx8.cell (p := ⟨b2, off2 + k * 2, none⟩) hb2l).trans hm0
                            have g3 : w8.cell? ⟨b2, off2 + k * 2 + 1, none⟩ = some (.int .i64 m.den) := (hbx8.cell (p := ⟨b2, off2 + k * 2 + 1, none⟩) hb2l).trans hm1
                            have HB8 := Lib.hid (And.intro hbx8 (har.below stays_int (hb8.mono (by have := H.out.1.hB; have := HB9.out.size; omega)) (Nat.le_refl _)))
                            clear hb8 hbx8 har hnc hcm
                            go_simp
                            refine hK _ _ ?_
                            clear hK K
                            refine wpAny_take (i := 13) (v := ?vr13_19) rfl (by kernel_rfl) (by kernel_rfl) (by kernel_rfl) (fun _ _ _ h => h) (Or.inl ⟨by kernel_rfl, ?hyr13_19⟩) ?restr13_19
                            case hyr13_19 => (intro w; go_simp; try with_reducible rfl)
                            refine wpAny_ready (rs := [20]) (by kernel_rfl) (by simp) ?_
                            refine AllReady.cons rfl (fun K hK => ?_) ?_
                            · go_simp
                              refine hK _ _ ?_
                              clear hK K
                              refine wpAny_ready (rs := [21]) (by kernel_rfl) (by simp) ?_
                              refine AllReady.cons rfl (fun K hK => ?_) ?_
                              · go_simp
                                go_at_call 49
                                with_reducible refine (HTK.out w8 Az nz cz HB8.out.1 HB8.out.2).mono ?_
                                rintro e w7 ⟨hyes, -, hb7⟩
                                obtain ⟨rfl, hs7⟩ := hyes t' HQ.out
                                have HB7 := Lib.hid (And.intro hs7 hb7)
                                clear hyes hs7 hb7
                                go_simp
                                refine hK _ _ ?_
                                clear hK K
                                refine wpAny_take (i := 22) (v := ?vr22_20) rfl (by kernel_rfl) (by kernel_rfl) (by kernel_rfl) (fun _ _ _ h => h) (Or.inl ⟨by kernel_rfl, ?hyr22_20⟩) ?restr22_20
                                case hyr22_20 => (intro w; go_simp; try with_reducible rfl)
                                refine wpAny_take (i := 23) (v := ?vr23_21) rfl (by kernel_rfl) (by kernel_rfl) (by kernel_rfl) (fun _ _ _ h => h) (Or.inl ⟨by kernel_rfl, ?hyr23_21⟩) ?restr23_21
                                case hyr23_21 => (intro w; go_simp; try with_reducible rfl)
                                refine wpAny_done (by kernel_rfl) ?_ _
                                go_simp
                                go_wp2_with fail
                                go_roundw
                                case rel => exact ⟨k + 1, by omega, by go_num, t', HB7.out.1, HE.out, (HS.out.2.1.trans (HB8.out.1.mono hwz)).trans HB7.out.2⟩
                                case measure => simp [intOf]; omega
                              exact AllReady.nil
                            exact AllReady.nil
                          refine AllReady.cons rfl (fun K hK => ?_) ?_
                          · go_simp
                            refine hK _ _ ?_
                            clear hK K
                            refine wpAny_ready (rs := [12]) (by kernel_rfl) (by simp) ?_
                            refine AllReady.cons rfl (fun K hK => ?_) ?_
                            · go_simp
                              go_at_call 45
                              with_reducible refine (HAT.out w9 HB9.out).mono ?_
                              rintro e w8 ⟨Az, nz, cz, rfl, har, hnc, hcm, hb8⟩
                              have hbx8 : Below wr.heap.size wr w8 := HB9.out.trans (hb8.mono HB9.out.size)
                              have g1 : w8.cell? ⟨w.heap.size, 2, none⟩ = some (.slice (some ⟨b2, off2, none⟩) nm cm) := (hbx8.cell (p := ⟨w.heap.size, 2, none⟩) (by show w.heap.size < _; omega)).trans e2
                              have g2 : w8.cell? ⟨b2, off2 + k * 2, none⟩ = some (.int .i64 m.num) := (hbx8.cell (p := ⟨b2, off2 + k * 2, none⟩) hb2l).trans hm0
                              have g3 : w8.cell? ⟨b2, off2 + k * 2 + 1, none⟩ = some (.int .i64 m.den) := (hbx8.cell (p := ⟨b2, off2 + k * 2 + 1, none⟩) hb2l).trans hm1
                              have HB8 := Lib.hid (And.intro hbx8 (har.below stays_int (hb8.mono (by have := H.out.1.hB; have := HB9.out.size; omega)) (Nat.le_refl _)))
                              clear hb8 hbx8 har hnc hcm
                              go_simp
                              refine hK _ _ ?_
                              clear hK K
                              refine wpAny_take (i := 13) (v := ?vr13_22) rfl (by kernel_rfl) (by kernel_rfl) (by kernel_rfl) (fun _ _ _ h => h) (Or.inl ⟨by kernel_rfl, ?hyr13_22⟩) ?restr13_22
                              case hyr13_22 => (intro w; go_simp; try with_reducible rfl)
                              refine wpAny_ready (rs := [21]) (by kernel_rfl) (by simp) ?_
                              refine AllReady.cons rfl (fun K hK => ?_) ?_
                              · go_simp
                                go_at_call 49
                                with_reducible refine (HTK.out w8 Az nz cz HB8.out.1 HB8.out.2).mono ?_
                                rintro e w7 ⟨hyes, -, hb7⟩
                                obtain ⟨rfl, hs7⟩ := hyes t' HQ.out
                                have HB7 := Lib.hid (And.intro hs7 hb7)
                                clear hyes hs7 hb7
                                go_simp
                                refine hK _ _ ?_
                                clear hK K
                                refine wpAny_take (i := 22) (v := ?vr22_23) rfl (by kernel_rfl) (by kernel_rfl) (by kernel_rfl) (fun _ _ _ h => h) (Or.inl ⟨by kernel_rfl, ?hyr22_23⟩) ?restr22_23
                                case hyr22_23 => (intro w; go_simp; try with_reducible rfl)
                                refine wpAny_take (i := 23) (v := ?vr23_24) rfl (by kernel_rfl) (by kernel_rfl) (by kernel_rfl) (fun _ _ _ h => h) (Or.inl ⟨by kernel_rfl, ?hyr23_24⟩) ?restr23_24
                                case hyr23_24 => (intro w; go_simp; try with_reducible rfl)
                                refine wpAny_done (by kernel_rfl) ?_ _
                                go_simp
                                go_wp2_with fail
                                go_roundw
                                case rel => exact ⟨k + 1, by omega, by go_num, t', HB7.out.1, HE.out, (HS.out.2.1.trans (HB8.out.1.mono hwz)).trans HB7.out.2⟩
                                case measure => simp [intOf]; omega
                              exact AllReady.nil
                            exact AllReady.nil
                          exact AllReady.nil
                        exact AllReady.nil
                      exact AllReady.nil
                    exact AllReady.nil
                  exact AllReady.nil
            · obtain rfl : k = nm := by omega
              rw [List.drop_of_length_le (by have := HL.out.1; omega)] at hrest
              have HE : Hid (R = some t) := hrest.symm
              have hlt9 := hsum.own.lt
              obtain ⟨A9, c9, he9, -, -, har9⟩ := OwnV.reads (E := AtFrac) tells_frac (fun _ _ _ _ _ h => atV_frac h) hsum.own (S' := fun b => b < wr.heap.size) (fun b h => False.elim h) (fun g hg => (hlt9 g hg).2)
              rw [hsum.len] at he9 har9
              injection he9 with e91 e92 e93
              subst e91
              have HSN := Lib.hid (someNum_any _ j j t.of_ wr har9 (by omega))
              have d0 : wr.cell? ⟨w1.heap.size, 0, none⟩ = some (.slice (some ⟨Z.heap.size, 0, none⟩) j j) := hsum.blk.cell 0
              have HS := Lib.hid (And.intro hsum hbel)
              clear hrest hlt9 har9 e92 e93 hsum hbel hkW hbw HX
              cases hsn : someNum t.of_ with
              | true =>
                rw [hsn] at HSN
                have HSV : Hid (sumOk t = false) := by show _ = _; unfold sumOk; rw [all_someNum, hsn]; rfl
                clear hsn
                go_wp2_with fail
                refine HSN.out.mono ?_
                rintro e w9 ⟨rfl, hb9⟩
                have HB9 := Lib.hid hb9
                clear hb9
                go_wp2_with fail
                go_ret
                exact ⟨ret_bool (by rw [HRW.out, HE.out]; exact HSV.out.symm), HK.out.1.trans ((HS.out.2.trans (HB9.out.mono hwz)).mono (by omega))⟩
              | false =>
                rw [hsn] at HSN
                have HSV : Hid (sumOk t = (decide (t.to_.num < 0) || (decide (t.to_.num = 0) && t.less))) := by show _ = _; unfold sumOk; rw [all_someNum, hsn]; rfl
                obtain ⟨tof, tto, tl⟩ := t
                clear hsn
                have key : ∀ rb : Bool, (decide (tto.num < 0) || (decide (tto.num = 0) && tl)) = rb → Hid (rowsF j ats lits nums = rb) := fun rb h => by show _ = _; rw [HRW.out, HE.out]; exact HSV.out.trans h
                by_cases h1 : tto.num < 0
                · have HF := key true (by simp [h1])
                  clear key
                  go_wp2_with fail
                  refine HSN.out.mono ?_
                  rintro e w9 ⟨rfl, hb9⟩
                  have hk9 := HS.out.1.blk.below hb9 hsl
                  have d1 : w9.cell? ⟨w1.heap.size, 1, none⟩ = some (.int .i64 tto.num) := hk9.cell 1
                  have HB9 := Lib.hid hb9
                  clear hb9 hk9
                  go_wp2_with fail
                  go_ret
                  exact ⟨ret_bool HF.out.symm, HK.out.1.trans ((HS.out.2.trans (HB9.out.mono hwz)).mono (by omega))⟩
                · by_cases h2 : tto.num = 0
                  · have HF := key tl (by simp [h2])
                    have h1b : decide (tto.num < 0) = false := by simpa using h1
                    have h2b : (tto.num == 0) = true := by simpa using h2
                    clear key h2
                    go_wp2_with fail
                    refine HSN.out.mono ?_
                    rintro e w9 ⟨rfl, hb9⟩
                    have hk9 := HS.out.1.blk.below hb9 hsl
                    have d1 : w9.cell? ⟨w1.heap.size, 1, none⟩ = some (.int .i64 tto.num) := hk9.cell 1
                    have d3 : w9.cell? ⟨w1.heap.size, 3, none⟩ = some (.bool tl) := hk9.cell 3
                    have HB9 := Lib.hid hb9
                    clear hb9 hk9
                    go_wp2_with fail
                    go_ret
                    exact ⟨ret_bool HF.out.symm, HK.out.1.trans ((HS.out.2.trans (HB9.out.mono hwz)).mono (by omega))⟩
                  · have HF := key false (by simp [h1, h2])
                    have h1b : decide (tto.num < 0) = false := by simpa using h1
                    have h2b : (tto.num == 0) = false := by simpa using h2
                    clear key h2
                    go_wp2_with fail
                    refine HSN.out.mono ?_
                    rintro e w9 ⟨rfl, hb9⟩
                    have hk9 := HS.out.1.blk.below hb9 hsl
                    have d1 : w9.cell? ⟨w1.heap.size, 1, none⟩ = some (.int .i64 tto.num) := hk9.cell 1
                    have HB9 := Lib.hid hb9
                    clear hb9 hk9
                    go_wp2_with fail
                    go_ret
                    exact ⟨ret_bool HF.out.symm, HK.out.1.trans ((HS.out.2.trans (HB9.out.mono hwz)).mono (by omega))⟩
    · have hne : ¬ (nm : Int) = (nl : Int) := by omega
      have hneb : (((nm : Nat) : Int) != ((nl : Nat) : Int)) = true := by simpa using hne
      have HF : Hid (rowsF ints.length ats lits nums = false) := by
        show _ = _
        unfold rowsF
        rw [hall, decide_eq_false (show ¬ nums.length = lits.length by omega)]
        rfl
      clear h hlits hl hnums hgr hb0 hk0 hall hll hml hne hlen
      go_enter Try.func28, Try.ntmps28
      go_wp2_with fail
      refine HALL.out.mono ?_
      rintro e Z ⟨rfl, hbZ⟩
      have hkZ := HK.out.2.below hbZ HK.out.2.lt
      have z1 : Z.cell? ⟨w.heap.size, 1, none⟩ = some (.slice L nl cl) := hkZ.cell 1
      have z2 : Z.cell? ⟨w.heap.size, 2, none⟩ = some (.slice M nm cm) := hkZ.cell 2
      have HZ := Lib.hid (HK.out.1.trans (hbZ.mono HK.out.1.size))
      clear hbZ hkZ
      go_wp2_with fail
      go_ret
      exact ⟨ret_bool HF.out.symm, HZ.out⟩
end Go.Proofs.Ytdncchlfeanlmaa
