/- Plain: fractions: which of them are good; the lowest terms, the sum, the product. No program is named here. · Walks: slices.IndexFunc and ContainsFunc over numbers, whatever function is handed over. · Walks: slices.Clone over numbers; a row of numbers of the call's own. · Walks: which fractions are good: the program. · Walks: umpiragekit.Picked (the part of KitA0 for seats without At). -/
import Derived.Test.YtfogiljgecmakaaGreatCore
import Derived.Test.YtfogiljgecmakaaGreatProg
import Derived.Deep.LoopGhost
import Derived.Shelf.Abstract
import Derived.Deep.AppendLies
import Derived.Lib.SliceRun
import Derived.Deep.QuietTactic
import Derived.BigQuiet
namespace Go.Proofs.YtfogiljgecmakaaGreat
open Go.RowKit

structure FracD where
  num : Int
  den : Int
def AtFrac : Ent FracD := fun w S b o x => AtInt w S b o x.num ∧ AtInt w S b (o + 1) x.den
theorem stays_frac : Stays AtFrac := fun _ _ _ _ _ _ _ hS hk hb h => ⟨stays_int _ _ _ _ _ _ _ hS hk hb h.1, stays_int _ _ _ _ _ _ _ hS hk hb h.2⟩
def fracGood (num den : Int) : Bool := decide (1 ≤ den ∧ den ≤ 1073741824 ∧ -1073741824 ≤ num ∧ num ≤ 1073741824 ∧ Int.gcd num den = 1)
/-- n / d in lowest terms (d above 0); none: it is beyond -/
def lowF (n d : Int) : Option FracD :=
  if 1073741824 < n.tdiv (Int.gcd n d : Nat) ∨ n.tdiv (Int.gcd n d : Nat) < -1073741824 ∨ 1073741824 < d.tdiv (Int.gcd n d : Nat) then none else some ⟨n.tdiv (Int.gcd n d : Nat), d.tdiv (Int.gcd n d : Nat)⟩
def addQ (a b : FracD) : Option FracD := lowF (a.num * b.den + b.num * a.den) (a.den * b.den)
def timesQ (a b : FracD) : Option FracD := lowF (a.num * b.num) (a.den * b.den)
end Go.Proofs.YtfogiljgecmakaaGreat
namespace Go.Proofs.YtfogiljgecmakaaGreat
open Go.RowKit

/-- the function g (with what it captured) tells p of each x of xs, and makes new blocks at most -/
def PredOn (P : Program) (g : Nat) (lb : Array Value) (p : Int → Bool) (xs : List Int) (w : World) : Prop :=
  ∀ (W : World) (x : Int), x ∈ xs → Below w.heap.size w W → Calls P g (#[.int .i64 x] ++ lb) W fun e w' => e = .returned (.bool (p x)) ∧ Below w.heap.size w w'

def idx {α : Type} (p : α → Bool) : List α → Int → Int
  | [], _ => -1
  | x :: r, i => if p x then i else idx p r (i + 1)
theorem idx_any {α : Type} (p : α → Bool) : ∀ (l : List α) (i : Int), 0 ≤ i → decide (0 ≤ idx p l i) = l.any p
  | [], i, _ => by simp [idx]
  | x :: r, i, h => by
    have := idx_any p r (i + 1) (by omega)
    cases hx : p x <;> simp [idx, hx] at this ⊢
    · exact this
    · exact h

set_option maxHeartbeats 1000000 in
theorem indexInts_any (g : Nat) (lb : Array Value) (eg : ∀ args w, (callFunc g args).run Tryz.prog w = .ok (.enter g args) w) (p : Int → Bool) (A : Option Addr) (n c : Nat) (xs : List Int) (R : Int) (w : World)
    (hxs : IntsB w w.heap.size A n xs) (hn : n ≤ 1000000) (hp : PredOn Tryz.prog g lb p xs w) (hR : idx p xs 0 = R) :
    Calls Tryz.prog 27 #[.slice A n c, .func (.func g) #[] lb] w fun e w' => e = .returned (.int .i64 R) ∧ Below w.heap.size w w' := by
  have HP := Lib.hid hp
  have HR := Lib.hid hR
  clear hp hR
  go_enter Tryz.func27, Tryz.ntmps27
  go_wp2_with fail
  go_loopw [8] (fun s wr => ∃ k : Nat, k ≤ n ∧ s = .int .i64 k ∧ Hid (idx p (xs.drop k) k = R) ∧ Below w.heap.size w wr) (fun s _ => n - (intOf s).toNat)
  case atStart => exact ⟨0, Nat.zero_le _, rfl, HR, Below.refl _ _⟩
  case round =>
    obtain ⟨k, hk, rfl, HK, hbel⟩ := hrel
    by_cases hlt : k < n
    · obtain ⟨b, off, hx, rfl, hb, hcell, hlo, hhi⟩ := ints_get (hxs.below stays_int hbel (Nat.le_refl _)) hlt
      have hcall := HP.out wr xs[k] (List.getElem_mem hx) hbel
      have e1 := HK.out
      rw [drop_cons hx, idx] at e1
      have HX := Lib.hid hx
      generalize xs[k] = y at hcall e1 hlo hhi hcell
      clear HK hx hxs
      cases hq : p y with
      | true =>
        rw [hq] at hcall e1
        have e2 : (k : Int) = R := e1
        have HC := Lib.hid hcall
        have H2 := Lib.hid e2
        clear hcall e1 hq e2
        go_wp2_with (go_at_fn g; refine HC.out.mono ?_; rintro e w' ⟨rfl, hb'⟩)
        go_ret
        exact ⟨ret_int H2.out, hb'⟩
      | false =>
        rw [hq] at hcall e1
        have e2 : idx p (xs.drop (k + 1)) ((k : Int) + 1) = R := e1
        have HC := Lib.hid hcall
        have H2 := Lib.hid e2
        clear hcall e1 hq e2
        go_wp2_with (go_at_fn g; refine HC.out.mono ?_; rintro e w' ⟨rfl, hb'⟩)
        go_roundw
        case rel => exact ⟨k + 1, by omega, by go_num, by show _ = _; rw [Int.natCast_add]; exact H2.out, hb'⟩
        case measure => simp [intOf]; omega
    · obtain rfl : k = n := by omega
      have e1 := HK.out
      rw [List.drop_of_length_le (by have := hxs.len; omega), idx] at e1
      have H1 := Lib.hid e1
      clear e1 HK
      go_wp2_with fail
      go_ret
      exact ⟨ret_int H1.out, hbel⟩

set_option maxHeartbeats 1000000 in
theorem containsInts_any (g : Nat) (lb : Array Value) (eg : ∀ args w, (callFunc g args).run Tryz.prog w = .ok (.enter g args) w) (p : Int → Bool) (A : Option Addr) (n c : Nat) (xs : List Int) (R : Bool) (w : World)
    (hxs : IntsB w w.heap.size A n xs) (hn : n ≤ 1000000) (hp : PredOn Tryz.prog g lb p xs w) (hR : xs.any p = R) :
    Calls Tryz.prog 53 #[.slice A n c, .func (.func g) #[] lb] w fun e w' => e = .returned (.bool R) ∧ Below w.heap.size w w' := by
  have HH := Lib.hid (indexInts_any g lb eg p A n c xs _ w hxs hn hp rfl)
  have h0 := idx_any p xs 0 (by omega)
  rw [hR] at h0
  generalize idx p xs 0 = r at HH h0
  have H0 := Lib.hid h0
  clear h0 hR hp hxs
  go_enter Tryz.func53, Tryz.ntmps53
  go_wp2_with fail
  refine HH.out.mono ?_
  rintro e w' ⟨rfl, hb⟩
  go_wp2_with fail
  go_ret
  exact ⟨ret_bool H0.out, hb⟩
end Go.Proofs.YtfogiljgecmakaaGreat
namespace Go.Proofs.YtfogiljgecmakaaGreat
open Go.RowKit

theorem infoInt : (Tryz.prog.info? 3).map (fun i => (i.zero, i.size, i.bytes)) = some (some (.int .i64 0), 1, 8) := by kernel_rfl

/-- the slice value v is a row of the call's own (in a block from base on) and holds the numbers xs -/
def OwnInts (w : World) (base : Nat) (v : Value) (xs : List Int) : Prop := w.ownsRow base 3 1 v xs.length (xs.map (.int .i64)) ∧ ∀ x ∈ xs, I64 x

theorem ints_news {w : World} {S : Nat → Prop} {ad : Addr} {n : Nat} {xs : List Int} (h : Arr AtInt 1 w S (some ad) n xs) : ∀ j u, (xs.map (Value.int .i64))[j]? = some u → w.cell? (ad.add j) = some u := fun j u hu => by
  rw [List.getElem?_map] at hu
  cases hx : xs[j]? with
  | none => rw [hx] at hu; simp at hu
  | some x =>
    rw [hx] at hu
    obtain ⟨b, off, e, hb, hc, _⟩ := h.at_ j x hx
    injection e with e
    subst e
    rw [Go.WideShapes.add_plain, ← Nat.mul_one j, hc]
    simpa using hu
theorem ints_i64 {w : World} {S : Nat → Prop} {A : Option Addr} {n : Nat} {xs : List Int} (h : Arr AtInt 1 w S A n xs) : ∀ x ∈ xs, I64 x := fun x hx => by
  obtain ⟨i, hi, rfl⟩ := List.mem_iff_getElem.1 hx
  obtain ⟨b, off, e, hb, hc, hI⟩ := h.at_ i _ (List.getElem?_eq_getElem hi)
  exact hI
theorem ints_one (xs : List Int) : ∀ u ∈ xs.map (Value.int .i64), u.oneCell' = true := fun u hu => by
  obtain ⟨x, _, rfl⟩ := List.mem_map.1 hu
  rfl
theorem OwnInts.reads {w : World} {base : Nat} {v : Value} {xs : List Int} (h : OwnInts w base v xs) : ∃ A c, v = .slice A xs.length c ∧ xs.length ≤ c ∧ c ≤ maxLen ∧ Arr AtInt 1 w (fun b => base ≤ b ∧ b < w.heap.size ∧ v.ownBlock = some b) A xs.length xs := by
  rcases h.1.2 with ⟨rfl, h0⟩ | ⟨g, cap, cur, rfl, hb, hh, hn, hcap, hcs, htake⟩
  · rw [h0, List.eq_nil_of_length_eq_zero h0]
    exact ⟨none, 0, rfl, Nat.le_refl _, by simp [maxLen], Arr.nil_⟩
  · refine ⟨_, _, rfl, hn, hcap, rfl, fun i x hx => ⟨g, 0, rfl, ⟨hb, (Array.getElem?_eq_some_iff.1 hh).1, rfl⟩, ?_, h.2 x (List.mem_of_getElem? hx)⟩⟩
    have := h.1.cells (g := g) rfl i (.int .i64 x) (by rw [List.getElem?_map, hx]; rfl)
    rwa [Go.WideShapes.add_plain, ← Nat.mul_one i] at this

def CloneP (base : Nat) (xs : List Int) (w : World) (e : Ending) (w' : World) : Prop := ∃ v, e = .returned v ∧ OwnInts w' base v xs ∧ Below w.heap.size w w'

set_option maxRecDepth 100000 in
set_option maxHeartbeats 1000000 in
theorem cloneInts_any (A : Option Addr) (n c : Nat) (xs : List Int) (w : World) (hxs : IntsB w w.heap.size A n xs) (hn : n * 8 ≤ 140737488355328) :
    Calls Tryz.prog 113 #[.slice A n c] w (CloneP w.heap.size xs w) := by
  have q40 : ∀ (w : World) (a : Option Addr) (n c n' c' : Nat), (binOp .eql 28 (.slice a n c) (.slice none n' c')).run Tryz.prog w = .ok (.bool a.isNone) w := fun w a n c n' c' => Lib.run_eql_slice_nil w _ _ a n c n' c' Tryz.underlying28
  have hl := hxs.len
  subst hl
  rcases A with _ | ad
  · have h0 : xs = [] := by
      cases xs with
      | nil => rfl
      | cons x r => obtain ⟨b, off, _, e, _⟩ := ints_get hxs (show 0 < (x :: r).length by simp); cases e
    subst h0
    go_enter Tryz.func113, Tryz.ntmps113
    go_wp2
    go_ret
    exact ⟨_, rfl, ⟨⟨rfl, .inl ⟨rfl, rfl⟩⟩, fun x hx => by simp at hx⟩, Below.refl _ _⟩
  · obtain ⟨i0, hi0, hz0, hz1, hz2⟩ := info_parts infoInt
    have HI := Lib.hid (And.intro hi0 (And.intro hz0 (And.intro hz1 hz2)))
    have hx2 : IntsB (w.alloc (.cells #[] 3)) w.heap.size (some ad) xs.length xs := hxs.alloc stays_int (Nat.le_refl _) _
    have HX := Lib.hid (And.intro hx2 (ints_i64 hxs))
    clear hi0 hz0 hz1 hz2 hxs hx2
    go_enter Tryz.func113, Tryz.ntmps113
    go_wp2_with (at_builtin; go_loud (refine wpList_append_own_at _ rfl (.tmp 5) (.tmp 6) 28 rfl w.heap.size 3 i0 _ 1 8 Tryz.underlying28 HI.out.1 HI.out.2.1 HI.out.2.2.1 HI.out.2.2.2 rfl (by omega) (.slice (some ⟨w.heap.size, 0, none⟩) 0 0) 0 [] rfl ⟨rfl, .inr ⟨_, 0, #[], rfl, Nat.le_refl _, heap_alloc_new w _, by omega, by omega, rfl, rfl⟩⟩ ad xs.length c (xs.map (.int .i64)) rfl (by simp) (ints_news HX.out.1) (ints_one xs) (by unfold maxLen; omega) (by omega) (by simp) ?_); intro v' w1 hown hgrow _ hat)
    go_ret
    refine ⟨v', rfl, ⟨by simpa using hown, HX.out.2⟩, ?_⟩
    exact below_then ((Below.refl _ _).alloc (Nat.le_refl _) _) hgrow (by simp) (fun x hx => by simp [Value.ownBlock] at hx; omega)
theorem rowInts : RowT Tryz.prog 28 3 1 8 := rowT_of Tryz.underlying28 infoInt rfl (by omega)
end Go.Proofs.YtfogiljgecmakaaGreat
namespace Go.Proofs.YtfogiljgecmakaaGreat
open Go.RowKit

theorem wrap_abs {x : Int} (h0 : -4611686018427387904 ≤ x) (h : x < 0) : IntKind.u64.wrap (-IntKind.u64.wrap x) = x.natAbs := by
  rw [IntKind.wrap_u64, IntKind.wrap_u64]; omega


set_option maxHeartbeats 400000 in
theorem size_any (x : Int) (w : World) (h0 : -4611686018427387904 ≤ x) (h1 : x ≤ 4611686018427387904) :
    Calls Tryz.prog 51 #[.int .i64 x] w fun e w' => e = .returned (.int .u64 (x.natAbs : Int)) ∧ w = w' := by
  go_enter Tryz.func51, Tryz.ntmps51
  go_wp2
  all_goals go_ret
  all_goals refine ⟨ret_int ?_, rfl⟩
  · exact wrap_abs h0 (by assumption)
  · omega

set_option maxHeartbeats 400000 in
theorem gcdU_any (x y : Nat) (w : World) (h0 : x ≤ 4611686018427387904) (h1 : y ≤ 4611686018427387904) :
    Calls Tryz.prog 50 #[.int .u64 x, .int .u64 y] w (DrewP (.int .u64 (Nat.gcd x y : Nat)) w) := by
  go_enter Tryz.func50, Tryz.ntmps50
  go_wp2_with fail
  go_loopw [0, 1] (fun s0 s1 wr => ∃ a b : Nat, s0 = .int .u64 a ∧ s1 = .int .u64 b ∧ a ≤ 4611686018427387904 ∧ b ≤ 4611686018427387904 ∧ Hid (Nat.gcd a b = Nat.gcd x y) ∧ Hid (∃ n, wr = w.drewN n)) (fun _ s1 _ => (intOf s1).toNat)
  case atStart => exact ⟨x, y, rfl, rfl, h0, h1, rfl, 0, rfl⟩
  case round =>
    obtain ⟨a, b, rfl, rfl, ha, hb, HG, HW⟩ := hrel
    by_cases hz : b = 0
    · subst hz
      have e1 : a = Nat.gcd x y := by rw [← HG.out, Nat.gcd_zero_right]
      go_wp2_with fail
      go_ret
      exact ⟨ret_int (by rw [e1]), HW.out⟩
    · have hq : ((b : Int) != 0) = true := by rw [bne_iff_ne]; omega
      have hq2 : ((b : Int) == 0) = false := by rw [beq_eq_false_iff_ne]; omega
      go_wp2_with fail
      go_quiet (fail)
      go_wp2_with fail
      go_roundw
      case rel =>
        refine ⟨b, a % b, rfl, by go_num, hb, Nat.le_trans (Nat.le_of_lt (Nat.mod_lt _ (by omega))) hb, ?_, ?_⟩
        · show _ = _
          rw [← HG.out, Nat.gcd_comm, ← Nat.gcd_rec, Nat.gcd_comm]
        · obtain ⟨n, hn⟩ := HW.out
          exact ⟨n + nq, by rw [hn, World.drewN_drewN]⟩
      case measure =>
        have h1 := Nat.mod_lt a (show 0 < b by omega)
        have h2 : ((a : Int) % (b : Int)) = ((a % b : Nat) : Int) := rfl
        show ((a : Int) % (b : Int)).toNat < (b : Int).toNat
        omega


theorem good_yes {num den : Int} (a : 1 ≤ den) (b : den ≤ 1073741824) (c : -1073741824 ≤ num) (d : num ≤ 1073741824) : fracGood num den = decide (Int.gcd num den = 1) := by
  rw [Bool.eq_iff_iff]; simp [fracGood, a, b, c, d]

set_option maxRecDepth 100000 in
set_option maxHeartbeats 1000000 in
theorem fracCheck_any (num den : Int) (w : World) :
    Calls Tryz.prog 31 #[.agg #[.int .i64 num, .int .i64 den]] w fun e w' => e = .returned (.agg #[.int .i64 (if fracGood num den then 0 else 3), .int .i64 0]) ∧ Below w.heap.size w w' := by
  have hb : ∀ (o1 o2 : Obj) (n : Nat), Below w.heap.size w (((w.alloc o1).alloc o2).drewN n) := fun o1 o2 n => below_drewN (((Below.refl _ _).alloc (Nat.le_refl _) _).alloc (by simp) _) n
  have HB := Lib.hid hb
  clear hb
  by_cases h1 : den < 1
  · have e1 : fracGood num den = false := by simp [fracGood]; omega
    rw [e1]
    clear e1
    have q1 : decide (den < 1) = true := by simpa using h1
    go_enter Tryz.func31, Tryz.ntmps31
    go_wp2_with fail
    go_quiet (fail)
    go_wp2_with fail
    refine bodyPost_ret (v := .agg #[.int .i64 3, .int .i64 0]) (by simp [results, Tryz.results31, go_sem]) rfl ⟨rfl, ?_⟩
    exact ((HB.out _ _ _).setCell (p := ⟨w.heap.size + 1, 0, none⟩) (by simp) _).setCell (p := ⟨w.heap.size + 1, 1, none⟩) (by simp) _
  have q1 : decide (den < 1) = false := by simpa using h1
  by_cases h2 : 1073741824 < den
  · have e1 : fracGood num den = false := by simp [fracGood]; omega
    rw [e1]
    clear e1
    have q2 : decide (1073741824 < den) = true := by simpa using h2
    go_enter Tryz.func31, Tryz.ntmps31
    go_wp2_with fail
    go_quiet (fail)
    go_wp2_with fail
    refine bodyPost_ret (v := .agg #[.int .i64 3, .int .i64 0]) (by simp [results, Tryz.results31, go_sem]) rfl ⟨rfl, ?_⟩
    exact ((HB.out _ _ _).setCell (p := ⟨w.heap.size + 1, 0, none⟩) (by simp) _).setCell (p := ⟨w.heap.size + 1, 1, none⟩) (by simp) _
  have q2 : decide (1073741824 < den) = false := by simpa using h2
  by_cases h3 : num < -1073741824
  · have e1 : fracGood num den = false := by simp [fracGood]; omega
    rw [e1]
    clear e1
    have q3 : decide (num < -1073741824) = true := by simpa using h3
    go_enter Tryz.func31, Tryz.ntmps31
    go_wp2_with fail
    go_quiet (fail)
    go_wp2_with fail
    refine bodyPost_ret (v := .agg #[.int .i64 3, .int .i64 0]) (by simp [results, Tryz.results31, go_sem]) rfl ⟨rfl, ?_⟩
    exact ((HB.out _ _ _).setCell (p := ⟨w.heap.size + 1, 0, none⟩) (by simp) _).setCell (p := ⟨w.heap.size + 1, 1, none⟩) (by simp) _
  have q3 : decide (num < -1073741824) = false := by simpa using h3
  by_cases h4 : 1073741824 < num
  · have e1 : fracGood num den = false := by simp [fracGood]; omega
    rw [e1]
    clear e1
    have q4 : decide (1073741824 < num) = true := by simpa using h4
    go_enter Tryz.func31, Tryz.ntmps31
    go_wp2_with fail
    go_quiet (fail)
    go_wp2_with fail
    refine bodyPost_ret (v := .agg #[.int .i64 3, .int .i64 0]) (by simp [results, Tryz.results31, go_sem]) rfl ⟨rfl, ?_⟩
    exact ((HB.out _ _ _).setCell (p := ⟨w.heap.size + 1, 0, none⟩) (by simp) _).setCell (p := ⟨w.heap.size + 1, 1, none⟩) (by simp) _
  have q4 : decide (1073741824 < num) = false := by simpa using h4
  rw [good_yes (by omega) (by omega) (by omega) (by omega)]
  have hgd : Nat.gcd num.natAbs den.natAbs = Int.gcd num den := rfl
  have HG := Lib.hid (fun W => gcdU_any num.natAbs den.natAbs W (by omega) (by omega))
  rw [hgd] at HG
  generalize Int.gcd num den = g at HG
  clear hgd
  by_cases h5 : g = 1
  · subst h5
    go_enter Tryz.func31, Tryz.ntmps31
    go_wp2_with fail
    go_quiet ((first | (go_at_call 51; exact quiet_eq (size_any _ _ (by omega) (by omega))) | (go_at_call 50; exact Calls.quiet_of (HG.out _))))
    go_wp2_with fail
    refine bodyPost_ret (v := .agg #[.int .i64 0, .int .i64 0]) (by simp [results, Tryz.results31, go_sem]) rfl ⟨rfl, ?_⟩
    exact ((HB.out _ _ _).setCell (p := ⟨w.heap.size + 1, 0, none⟩) (by simp) _).setCell (p := ⟨w.heap.size + 1, 1, none⟩) (by simp) _
  · have q5 : ((g : Int) != 1) = true := by rw [bne_iff_ne]; omega
    rw [show decide (g = 1) = false by simpa using h5]
    clear h5
    go_enter Tryz.func31, Tryz.ntmps31
    go_wp2_with fail
    go_quiet ((first | (go_at_call 51; exact quiet_eq (size_any _ _ (by omega) (by omega))) | (go_at_call 50; exact Calls.quiet_of (HG.out _))))
    go_wp2_with fail
    refine bodyPost_ret (v := .agg #[.int .i64 3, .int .i64 0]) (by simp [results, Tryz.results31, go_sem]) rfl ⟨rfl, ?_⟩
    exact ((HB.out _ _ _).setCell (p := ⟨w.heap.size + 1, 0, none⟩) (by simp) _).setCell (p := ⟨w.heap.size + 1, 1, none⟩) (by simp) _
end Go.Proofs.YtfogiljgecmakaaGreat
namespace Go.Proofs.YtfogiljgecmakaaGreat
open Go.RowKit

set_option maxHeartbeats 400000 in
theorem picked_any (a n R : Int) (w : World) (ha : I64 a) (h1 : 1 ≤ n) (h2 : n ≤ 9223372036854775807) (hR : a % n = R) : Calls Tryz.prog 12 #[.int .i64 a, .int .i64 n] w fun e w' => e = .returned (.int .i64 R) ∧ w = w' := by
  obtain ⟨h3, h4⟩ := ha
  have hn0 : (n == 0) = false := by rw [beq_eq_false_iff_ne]; omega
  have hn1 : (n == -1) = false := by rw [beq_eq_false_iff_ne]; omega
  by_cases h0 : 0 ≤ a
  · have hge := Int.emod_nonneg a (show n ≠ 0 by omega)
    have hlt := Int.emod_lt_of_pos a (show 0 < n by omega)
    have HR := Lib.hid hR
    have hng : ¬ a % n < 0 := by omega
    clear hR
    go_enter Tryz.func12, Tryz.ntmps12
    go_wp2_with fail
    go_ret
    exact ⟨ret_int HR.out, rfl⟩
  · have e : a.tmod n = -((-a) % n) := by rw [← Int.tmod_eq_emod_of_nonneg (show 0 ≤ -a by omega), Int.neg_tmod, Int.neg_neg]
    have hge := Int.emod_nonneg (-a) (show n ≠ 0 by omega)
    have hlt := Int.emod_lt_of_pos (-a) (show 0 < n by omega)
    obtain ⟨T, hT⟩ : ∃ T, a.tmod n = T := ⟨_, rfl⟩
    have hT1 : -n < T := by omega
    have hT2 : T ≤ 0 := by omega
    have hmod : (if T < 0 then T + n else T) = R := by
      rw [← hR]
      have h5 := Int.emod_emod_of_dvd a (Int.dvd_refl n)
      have h6 : a % n = T % n := by rw [← hT, Int.tmod_def, Int.sub_mul_emod_self_left]
      rw [h6]
      split
      · rw [← Int.add_emod_right, Int.emod_eq_of_lt (by omega) (by omega)]
      · rw [show T = 0 from by omega]; simp
    clear e hge hlt hR
    by_cases hT0 : T < 0
    · rw [if_pos hT0] at hmod
      have HR := Lib.hid hmod
      clear hmod
      go_enter Tryz.func12, Tryz.ntmps12
      go_wp2_with fail
      go_ret
      exact ⟨ret_int HR.out, rfl⟩
    · rw [if_neg hT0] at hmod
      have HR := Lib.hid hmod
      clear hmod
      go_enter Tryz.func12, Tryz.ntmps12
      go_wp2_with fail
      go_ret
      exact ⟨ret_int HR.out, rfl⟩

theorem wrap_i64 (x : Int) : I64 (wrap64 x) := by unfold wrap64 I64; omega
theorem picked_in (a n : Int) (w : World) (ha : I64 a) (h1 : 1 ≤ n) (h2 : n ≤ 9223372036854775807) : Calls Tryz.prog 12 #[.int .i64 a, .int .i64 n] w fun e w' => ∃ R : Int, e = .returned (.int .i64 R) ∧ w = w' ∧ 0 ≤ R ∧ R < n :=
  (picked_any a n (a % n) w ha h1 h2 rfl).mono fun _ _ ⟨h3, h4⟩ => ⟨a % n, h3, h4, Int.emod_nonneg a (by omega), Int.emod_lt_of_pos a (by omega)⟩
end Go.Proofs.YtfogiljgecmakaaGreat
