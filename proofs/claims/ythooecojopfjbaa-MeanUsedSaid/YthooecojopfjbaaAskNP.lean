/- Walks: slices.Equal over numbers; the test of all; the tests that are handed to it. · Walk: the sort of a node, by its kids' sorts: small facts; operators without kids, and with one. -/
import Derived.Test.YthooecojopfjbaaAskLM
import Derived.Deep.QuietTactic
import Derived.BigQuiet
namespace Go.Proofs.Ythooecojopfjbaa
open Go.RowKit

set_option maxHeartbeats 1000000 in
theorem equalInts_any (A A' : Option Addr) (n c n' c' : Nat) (xs ys : List Int) (R : Bool) (S S' : Nat → Prop) (w : World) (h : Arr AtInt 1 w S A n xs) (h' : Arr AtInt 1 w S' A' n' ys) (hn : n ≤ 9223372036854775807) (hn' : n' ≤ 9223372036854775807) (hR : decide (xs = ys) = R) :
    Calls Try.prog 90 #[.slice A n c, .slice A' n' c'] w (DrewP (.bool R) w) := by
  by_cases hnn : n = n'
  · subst hnn
    have hq0 : ((n : Int) != (n : Int)) = false := by simp
    have HR := Lib.hid hR
    clear hR
    go_enter Try.func90, Try.ntmps90
    go_wp2_with fail
    go_loopw [13] (fun s wr => ∃ k : Nat, k ≤ n ∧ s = .int .i64 k ∧ Arr AtInt 1 wr S A n xs ∧ Arr AtInt 1 wr S' A' n ys ∧ Hid (decide (xs.drop k = ys.drop k) = R) ∧ Hid (∃ m, wr = w.drewN m)) (fun s _ => n - (intOf s).toNat)
    case atStart => exact ⟨0, Nat.zero_le _, rfl, h, h', HR, 0, rfl⟩
    case round =>
      obtain ⟨k, hk, rfl, hl, hl', HK, HM⟩ := hrel
      clear h h'
      by_cases hlt : k < n
      · have HL := Lib.hid (And.intro hl hl')
        obtain ⟨b, off, hx, rfl, hb, hc, -⟩ := Arr.get hl hlt
        obtain ⟨b', off', hx', rfl, hb', hc', -⟩ := Arr.get hl' hlt
        rw [Nat.mul_one] at hc hc'
        have e1 := HK.out
        rw [drop_cons hx, drop_cons hx'] at e1
        simp only [List.cons.injEq] at e1
        generalize xs[k] = y at hc e1
        generalize ys[k] = z at hc' e1
        have hij : (k : Int) < n := by omega
        clear hl hl' hx hx' hb hb' HK
        by_cases hyz : y = z
        · subst hyz
          simp only [true_and] at e1
          have H1 := Lib.hid e1
          have hq : (y != y) = false := by simp
          clear e1
          go_wp2_with fail
          go_quiet (fail)
          go_wp2_with fail
          go_roundw
          case rel => exact ⟨k + 1, by omega, by go_num, HL.out.1.drewN stays_int _, HL.out.2.drewN stays_int _, H1, by obtain ⟨m, e⟩ := HM.out; exact ⟨m + nq, by rw [e, World.drewN_drewN]⟩⟩
          case measure => simp [intOf]; omega
        · simp only [hyz, false_and, decide_false] at e1
          have H1 := Lib.hid e1
          have hq : (y != z) = true := by simp [hyz]
          clear e1 hyz
          go_wp2_with fail
          go_quiet (fail)
          go_wp2_with fail
          go_ret
          exact ⟨ret_bool H1.out, by obtain ⟨m, e⟩ := HM.out; exact ⟨m + nq, by rw [e, World.drewN_drewN]⟩⟩
      · obtain rfl : n = k := by omega
        have e1 := HK.out
        rw [List.drop_of_length_le (by have := hl.len; omega), List.drop_of_length_le (by have := hl'.len; omega)] at e1
        simp only [decide_true] at e1
        have H1 := Lib.hid e1
        clear e1 HK
        go_wp2_with fail
        go_ret
        exact ⟨ret_bool H1.out, HM.out⟩
  · have hne : R = false := by
      rw [← hR, decide_eq_false_iff_not]
      intro e
      have h1 := h.len
      have h2 := h'.len
      rw [e] at h1
      omega
    subst hne
    have hq0 : ((n : Int) != (n' : Int)) = true := by rw [bne_iff_ne]; omega
    clear hR h h' hnn
    go_enter Try.func90, Try.ntmps90
    go_wp2_with fail
    go_ret
    exact ⟨rfl, 0, rfl⟩

set_option maxHeartbeats 1000000 in
theorem isSame_any (A A' : Option Addr) (n c n' c' : Nat) (xs ys : List Int) (R : Bool) (S S' : Nat → Prop) (B : Nat) (w : World) (hB : w.cell? ⟨B, 0, none⟩ = some (.slice A n c)) (h : Arr AtInt 1 w S A n xs) (h' : Arr AtInt 1 w S' A' n' ys) (hn : n ≤ 9223372036854775807) (hn' : n' ≤ 9223372036854775807) (hR : decide (xs = ys) = R) :
    Calls Try.prog 89 #[.slice A' n' c', .pointer (some ⟨B, 0, none⟩)] w (DrewP (.bool R) w) := by
  have HE := Lib.hid (fun c c' => equalInts_any A A' n c n' c' xs ys R S S' w h h' hn hn' hR)
  clear hR h h'
  go_enter Try.func89, Try.ntmps89
  go_wp2_with fail
  refine (HE.out _ _).mono ?_
  rintro e w' ⟨rfl, m, rfl⟩
  go_wp2_with fail
  go_ret
  exact ⟨rfl, m, rfl⟩

/-- the function g tells p of every number and changes nothing -/
def PlainPred (P : Program) (g : Nat) (p : Int → Bool) : Prop := ∀ (W : World) (x : Int), Calls P g #[.int .i64 x] W fun e w' => e = .returned (.bool (p x)) ∧ W = w'

set_option maxHeartbeats 400000 in
theorem all1_any (g : Nat) (eg : ∀ args w, (callFunc g args).run Try.prog w = .ok (.enter g args) w) (p : Int → Bool) (y : Int) (B : Nat) (w : World) (hB : w.cell? ⟨B, 0, none⟩ = some (.func (.func g) #[] #[])) (hp : PlainPred Try.prog g p) :
    Calls Try.prog 120 #[.int .i64 y, .pointer (some ⟨B, 0, none⟩)] w fun e w' => e = .returned (.bool (!(p y))) ∧ w = w' := by
  have HP := Lib.hid hp
  clear hp
  go_enter Try.func120, Try.ntmps120
  go_wp2_with (go_at_fn g; refine (HP.out _ _).mono ?_; rintro e w' ⟨rfl, rfl⟩)
  go_ret
  exact ⟨rfl, rfl⟩

set_option maxHeartbeats 1000000 in
theorem all_any (g : Nat) (eg : ∀ args w, (callFunc g args).run Try.prog w = .ok (.enter g args) w) (p : Int → Bool) (A : Option Addr) (n c : Nat) (xs : List Int) (R : Bool) (w : World)
    (hxs : IntsB w w.heap.size A n xs) (hn : n ≤ 1000000) (hp : PlainPred Try.prog g p) (hR : allB p xs = R) :
    Calls Try.prog 91 #[.slice A n c, .func (.func g) #[] #[]] w fun e w' => e = .returned (.bool R) ∧ Below w.heap.size w w' := by
  have eg1 : ∀ args w, (callFunc 120 args).run Try.prog w = .ok (.enter 120 args) w := enters_of Try.func120 (by kernel_rfl) rfl
  have hb0 : Below w.heap.size w (w.alloc (.cells #[.func (.func g) #[] #[]] 96)) := (Below.refl _ _).alloc (Nat.le_refl _) _
  have hbn := Blk.new w 96 #[.func (.func g) #[] #[]]
  have hs : (w.alloc (.cells #[.func (.func g) #[] #[]] 96)).heap.size = w.heap.size + 1 := by simp
  have hpred : PredOn Try.prog 120 #[.pointer (some ⟨w.heap.size, 0, none⟩)] (fun s => !(p s)) xs (w.alloc (.cells #[.func (.func g) #[] #[]] 96)) := fun W y hy hb => by
    have hc2 : W.cell? ⟨w.heap.size, 0, none⟩ = some (.func (.func g) #[] #[]) := (hb.cell (p := ⟨w.heap.size, 0, none⟩) (by show w.heap.size < _; omega)).trans (hbn.cell 0)
    exact (all1_any g eg p y w.heap.size W hc2 hp).mono fun e w' ⟨he, hw⟩ => ⟨he, hw ▸ hb⟩
  have hR2 : (xs.any fun s => !(p s)) = !R := by rw [← hR, allB, Bool.not_not]
  have HC := Lib.hid (containsInts_any 120 _ eg1 (fun s => !(p s)) A n c xs (!R) _ (hxs.below stays_int hb0 hb0.size) hn hpred hR2)
  have HB := Lib.hid (And.intro hb0 hs)
  clear hb0 hbn hs hpred hR2 hR hxs hp
  go_enter Try.func91, Try.ntmps91
  go_wp2_with fail
  refine HC.out.mono ?_
  rintro e w' ⟨rfl, hb⟩
  go_wp2_with fail
  go_ret
  exact ⟨ret_bool (by simp), HB.out.1.trans (hb.mono (by rw [HB.out.2]; omega))⟩

theorem isBool_pred : PlainPred Try.prog 92 isBoolS := fun W x => by
  go_enter Try.func92, Try.ntmps92
  go_wp2_with fail
  go_ret
  exact ⟨rfl, rfl⟩
theorem isInt_pred : PlainPred Try.prog 95 isIntS := fun W x => by
  go_enter Try.func95, Try.ntmps95
  go_wp2_with fail
  go_ret
  exact ⟨rfl, rfl⟩
theorem numeric_pred : PlainPred Try.prog 93 numS := fun W x => numeric_any x W
end Go.Proofs.Ythooecojopfjbaa
namespace Go.Proofs.Ythooecojopfjbaa
open Go.RowKit

theorem three_boxes (w : World) (c1 c2 c3 : Array Value) : Below w.heap.size w (((w.alloc (.cells c1 59)).alloc (.cells c2 22)).alloc (.cells c3 61)) ∧
    Blk (((w.alloc (.cells c1 59)).alloc (.cells c2 22)).alloc (.cells c3 61)) w.heap.size 59 c1 ∧
    Blk (((w.alloc (.cells c1 59)).alloc (.cells c2 22)).alloc (.cells c3 61)) (w.heap.size + 1) 22 c2 ∧
    Blk (((w.alloc (.cells c1 59)).alloc (.cells c2 22)).alloc (.cells c3 61)) (w.heap.size + 2) 61 c3 ∧
    (((w.alloc (.cells c1 59)).alloc (.cells c2 22)).alloc (.cells c3 61)).heap.size = w.heap.size + 3 :=
  ⟨(((Below.refl _ _).alloc (Nat.le_refl _) _).alloc (by simp) _).alloc (by simp; omega) _, ((Blk.new _ _ _).alloc _).alloc _,
    by have := (Blk.new (w.alloc (.cells c1 59)) 22 c2).alloc (.cells c3 61); rwa [World.size_alloc] at this,
    by have := Blk.new ((w.alloc (.cells c1 59)).alloc (.cells c2 22)) 61 c3; rwa [World.size_alloc, World.size_alloc] at this, by simp⟩
theorem ints_at {w : World} {B : Nat} {A : Option Addr} {n : Nat} {xs : List Int} (h : IntsB w B A n xs) {i : Nat} {x : Int} (hx : xs[i]? = some x) : ∃ (b off : Nat), A = some ⟨b, off, none⟩ ∧ b < B ∧ w.cell? ⟨b, off + i, none⟩ = some (.int .i64 x) := by
  obtain ⟨b, off, e, hb, h0, -⟩ := h.at_ i x hx
  rw [Nat.mul_one] at h0
  exact ⟨b, off, e, hb, h0⟩
theorem ints_one {w : World} {B : Nat} {A : Option Addr} {x : Int} (h : IntsB w B A 1 [x]) : ∃ (b off : Nat), A = some ⟨b, off, none⟩ ∧ b < B ∧ w.cell? ⟨b, off, none⟩ = some (.int .i64 x) := ints_at h (i := 0) rfl
theorem ints_two {w : World} {B : Nat} {A : Option Addr} {x y : Int} (h : IntsB w B A 2 [x, y]) : ∃ (b off : Nat), A = some ⟨b, off, none⟩ ∧ b < B ∧ w.cell? ⟨b, off, none⟩ = some (.int .i64 x) ∧ w.cell? ⟨b, off + 1, none⟩ = some (.int .i64 y) := by
  obtain ⟨b, off, rfl, hb, h0⟩ := ints_at h (i := 0) rfl
  obtain ⟨b', off', e, -, h1⟩ := ints_at h (i := 1) rfl
  simp only [Option.some.injEq, Addr.mk.injEq, and_true] at e
  obtain ⟨rfl, rfl⟩ := e
  exact ⟨b, off, rfl, hb, h0, h1⟩
theorem ints_three {w : World} {B : Nat} {A : Option Addr} {x y z : Int} (h : IntsB w B A 3 [x, y, z]) : ∃ (b off : Nat), A = some ⟨b, off, none⟩ ∧ b < B ∧ w.cell? ⟨b, off, none⟩ = some (.int .i64 x) ∧ w.cell? ⟨b, off + 1, none⟩ = some (.int .i64 y) ∧ w.cell? ⟨b, off + 2, none⟩ = some (.int .i64 z) := by
  obtain ⟨b, off, rfl, hb, h0⟩ := ints_at h (i := 0) rfl
  obtain ⟨b', off', e, -, h1⟩ := ints_at h (i := 1) rfl
  obtain ⟨b2, off2, e2, -, h2⟩ := ints_at h (i := 2) rfl
  simp only [Option.some.injEq, Addr.mk.injEq, and_true] at e e2
  obtain ⟨rfl, rfl⟩ := e
  obtain ⟨rfl, rfl⟩ := e2
  exact ⟨b, off, rfl, hb, h0, h1, h2⟩
theorem word_is (n : Int) (b : Bool) (h : wordB n = b) (w : World) : Calls Try.prog 74 #[.int .i64 n] w fun e w' => e = .returned (.bool b) ∧ w = w' := by subst h; exact word_any n w
theorem numeric_is (n : Int) (b : Bool) (h : numS n = b) (w : World) : Calls Try.prog 93 #[.int .i64 n] w fun e w' => e = .returned (.bool b) ∧ w = w' := by subst h; exact numeric_any n w
theorem whole_is (b : Bool) (r : Int) (h : (if b then (2 : Int) else 3) = r) (w : World) : Calls Try.prog 94 #[.bool b] w fun e w' => e = .returned (.int .i64 r) ∧ w = w' := by subst h; exact whole_any b w
/-- a callee that changes nothing, met in a quiet region behind another -/
theorem quiet_same2 {P : Program} {f : FuncId} {args : Array Value} {w : World} {a n : Nat} {v : Value} (h : ∀ W : World, Calls P f args W fun e w' => e = .returned v ∧ W = w') :
    Calls P f args (w.drewN (a + n)) fun e w'' => e = .returned v ∧ ∃ m, w'' = w.drewN (a + m) :=
  (h _).mono fun _ _ ⟨he, hm⟩ => ⟨he, n, hm.symm⟩
theorem quiet_drew2 {P : Program} {f : FuncId} {args : Array Value} {w : World} {a n : Nat} {v : Value} (h : Calls P f args (w.drewN (a + n)) (DrewP v (w.drewN (a + n)))) :
    Calls P f args (w.drewN (a + n)) fun e w'' => e = .returned v ∧ ∃ m, w'' = w.drewN (a + m) :=
  h.mono fun _ _ ⟨he, m, hm⟩ => ⟨he, n + m, by rw [hm, World.drewN_drewN, Nat.add_assoc]⟩

set_option maxRecDepth 100000 in
set_option maxHeartbeats 8000000 in
theorem sort_1 (n d : Int) (nm : ByteArray) (K : Option Addr) (kn kc : Nat) (A : Option Addr) (c : Nat) (dn : ByteArray) (A3 : Option Addr) (n3 c3 : Nat) (ds : Int) (ar : List Int) (w : World) :
    Calls Try.prog 66 #[.agg #[.int .i64 1, .slice K kn kc, .int .i64 n, .int .i64 d, .string nm], .slice A 0 c, .agg #[.string dn, .slice A3 n3 c3, .int .i64 ds]] w fun e w' => e = .returned (.int .i64 (sortF 1 d [] ar ds)) ∧ Below w.heap.size w w' := by
  obtain ⟨X, hX⟩ : ∃ X, (((w.alloc (.cells #[.int .i64 1, .slice K kn kc, .int .i64 n, .int .i64 d, .string nm] 59)).alloc (.cells #[.slice A 0 c] 22)).alloc (.cells #[.string dn, .slice A3 n3 c3, .int .i64 ds] 61)) = X := ⟨_, rfl⟩
  have h3 := three_boxes w #[.int .i64 1, .slice K kn kc, .int .i64 n, .int .i64 d, .string nm] #[.slice A 0 c] #[.string dn, .slice A3 n3 c3, .int .i64 ds]
  rw [hX] at h3
  obtain ⟨hb0, hn0, hk0, hd0, hs0⟩ := h3
  have x0 : X.cell? ⟨w.heap.size, 0, none⟩ = some (.int .i64 1) := hn0.cell 0
  have x3 : X.cell? ⟨w.heap.size, 3, none⟩ = some (.int .i64 d) := hn0.cell 3
  have y0 : X.cell? ⟨w.heap.size + 1, 0, none⟩ = some (.slice A 0 c) := hk0.cell 0
  have z1 : X.cell? ⟨w.heap.size + 2, 1, none⟩ = some (.slice A3 n3 c3) := hd0.cell 1
  have z2 : X.cell? ⟨w.heap.size + 2, 2, none⟩ = some (.int .i64 ds) := hd0.cell 2
  have HB := Lib.hid (And.intro hb0 (And.intro hn0 (And.intro hk0 (And.intro hd0 hs0))))
  have HX := Lib.hid hX
  clear hb0 hn0 hk0 hd0 hs0 hX
  go_enter Try.func66, Try.ntmps66
  go_wp2_with fail
  rw [HX.out]
  go_quiet (fail)
  go_wp2_with fail
  go_ret
  exact ⟨ret_int (rfl), (by first | exact HB.out.1 | exact below_drewN HB.out.1 _ | exact below_drewN (below_drewN HB.out.1 _) _)⟩

set_option maxRecDepth 100000 in
set_option maxHeartbeats 8000000 in
theorem sort_2 (n d : Int) (nm : ByteArray) (K : Option Addr) (kn kc : Nat) (A : Option Addr) (c : Nat) (dn : ByteArray) (A3 : Option Addr) (n3 c3 : Nat) (ds : Int) (ar : List Int) (w : World) :
    Calls Try.prog 66 #[.agg #[.int .i64 2, .slice K kn kc, .int .i64 n, .int .i64 d, .string nm], .slice A 0 c, .agg #[.string dn, .slice A3 n3 c3, .int .i64 ds]] w fun e w' => e = .returned (.int .i64 (sortF 2 d [] ar ds)) ∧ Below w.heap.size w w' := by
  obtain ⟨X, hX⟩ : ∃ X, (((w.alloc (.cells #[.int .i64 2, .slice K kn kc, .int .i64 n, .int .i64 d, .string nm] 59)).alloc (.cells #[.slice A 0 c] 22)).alloc (.cells #[.string dn, .slice A3 n3 c3, .int .i64 ds] 61)) = X := ⟨_, rfl⟩
  have h3 := three_boxes w #[.int .i64 2, .slice K kn kc, .int .i64 n, .int .i64 d, .string nm] #[.slice A 0 c] #[.string dn, .slice A3 n3 c3, .int .i64 ds]
  rw [hX] at h3
  obtain ⟨hb0, hn0, hk0, hd0, hs0⟩ := h3
  have x0 : X.cell? ⟨w.heap.size, 0, none⟩ = some (.int .i64 2) := hn0.cell 0
  have x3 : X.cell? ⟨w.heap.size, 3, none⟩ = some (.int .i64 d) := hn0.cell 3
  have y0 : X.cell? ⟨w.heap.size + 1, 0, none⟩ = some (.slice A 0 c) := hk0.cell 0
  have z1 : X.cell? ⟨w.heap.size + 2, 1, none⟩ = some (.slice A3 n3 c3) := hd0.cell 1
  have z2 : X.cell? ⟨w.heap.size + 2, 2, none⟩ = some (.int .i64 ds) := hd0.cell 2
  have HB := Lib.hid (And.intro hb0 (And.intro hn0 (And.intro hk0 (And.intro hd0 hs0))))
  have HX := Lib.hid hX
  clear hb0 hn0 hk0 hd0 hs0 hX
  go_enter Try.func66, Try.ntmps66
  go_wp2_with fail
  rw [HX.out]
  go_quiet (fail)
  go_wp2_with fail
  go_ret
  exact ⟨ret_int (rfl), (by first | exact HB.out.1 | exact below_drewN HB.out.1 _ | exact below_drewN (below_drewN HB.out.1 _) _)⟩

set_option maxRecDepth 100000 in
set_option maxHeartbeats 8000000 in
theorem sort_10 (n d : Int) (nm : ByteArray) (K : Option Addr) (kn kc : Nat) (A : Option Addr) (c : Nat) (dn : ByteArray) (A3 : Option Addr) (n3 c3 : Nat) (ds : Int) (ar : List Int) (w : World) :
    Calls Try.prog 66 #[.agg #[.int .i64 10, .slice K kn kc, .int .i64 n, .int .i64 d, .string nm], .slice A 0 c, .agg #[.string dn, .slice A3 n3 c3, .int .i64 ds]] w fun e w' => e = .returned (.int .i64 (sortF 10 d [] ar ds)) ∧ Below w.heap.size w w' := by
  have hs : ∀ b, (d == 1) = b → sortF 10 d [] ar ds = if b then 2 else 3 := fun b hb => by subst hb; simp [sortF]
  cases hd : (d == 1)
  all_goals
    have HS := Lib.hid (hs _ hd)
    clear hs
    obtain ⟨X, hX⟩ : ∃ X, (((w.alloc (.cells #[.int .i64 10, .slice K kn kc, .int .i64 n, .int .i64 d, .string nm] 59)).alloc (.cells #[.slice A 0 c] 22)).alloc (.cells #[.string dn, .slice A3 n3 c3, .int .i64 ds] 61)) = X := ⟨_, rfl⟩
    have h3 := three_boxes w #[.int .i64 10, .slice K kn kc, .int .i64 n, .int .i64 d, .string nm] #[.slice A 0 c] #[.string dn, .slice A3 n3 c3, .int .i64 ds]
    rw [hX] at h3
    obtain ⟨hb0, hn0, hk0, hd0, hs0⟩ := h3
    have x0 : X.cell? ⟨w.heap.size, 0, none⟩ = some (.int .i64 10) := hn0.cell 0
    have x3 : X.cell? ⟨w.heap.size, 3, none⟩ = some (.int .i64 d) := hn0.cell 3
    have y0 : X.cell? ⟨w.heap.size + 1, 0, none⟩ = some (.slice A 0 c) := hk0.cell 0
    have z1 : X.cell? ⟨w.heap.size + 2, 1, none⟩ = some (.slice A3 n3 c3) := hd0.cell 1
    have z2 : X.cell? ⟨w.heap.size + 2, 2, none⟩ = some (.int .i64 ds) := hd0.cell 2
    have HB := Lib.hid (And.intro hb0 (And.intro hn0 (And.intro hk0 (And.intro hd0 hs0))))
    have HX := Lib.hid hX
    clear hb0 hn0 hk0 hd0 hs0 hX
    go_enter Try.func66, Try.ntmps66
    go_wp2_with fail
    rw [HX.out]
    go_quiet (fail)
    go_wp2_with (go_at_call 94; refine (whole_is _ _ rfl _).mono ?_; rintro e w' ⟨rfl, rfl⟩)
    go_ret
    exact ⟨ret_int (by rw [HS.out]; rfl), (by first | exact HB.out.1 | exact below_drewN HB.out.1 _ | exact below_drewN (below_drewN HB.out.1 _) _)⟩

set_option maxRecDepth 100000 in
set_option maxHeartbeats 8000000 in
theorem sort_15 (n d : Int) (nm : ByteArray) (K : Option Addr) (kn kc : Nat) (A : Option Addr) (c : Nat) (dn : ByteArray) (A3 : Option Addr) (n3 c3 : Nat) (ds : Int) (ar : List Int) (w : World) (h1 : 1 ≤ d) (h8 : d ≤ 8) :
    Calls Try.prog 66 #[.agg #[.int .i64 15, .slice K kn kc, .int .i64 n, .int .i64 d, .string nm], .slice A 0 c, .agg #[.string dn, .slice A3 n3 c3, .int .i64 ds]] w fun e w' => e = .returned (.int .i64 (sortF 15 d [] ar ds)) ∧ Below w.heap.size w w' := by
  have hw : IntKind.i64.wrap (10 + d) = 10 + d := IntWalk.i64_in _ (by omega)
  obtain ⟨X, hX⟩ : ∃ X, (((w.alloc (.cells #[.int .i64 15, .slice K kn kc, .int .i64 n, .int .i64 d, .string nm] 59)).alloc (.cells #[.slice A 0 c] 22)).alloc (.cells #[.string dn, .slice A3 n3 c3, .int .i64 ds] 61)) = X := ⟨_, rfl⟩
  have h3 := three_boxes w #[.int .i64 15, .slice K kn kc, .int .i64 n, .int .i64 d, .string nm] #[.slice A 0 c] #[.string dn, .slice A3 n3 c3, .int .i64 ds]
  rw [hX] at h3
  obtain ⟨hb0, hn0, hk0, hd0, hs0⟩ := h3
  have x0 : X.cell? ⟨w.heap.size, 0, none⟩ = some (.int .i64 15) := hn0.cell 0
  have x3 : X.cell? ⟨w.heap.size, 3, none⟩ = some (.int .i64 d) := hn0.cell 3
  have y0 : X.cell? ⟨w.heap.size + 1, 0, none⟩ = some (.slice A 0 c) := hk0.cell 0
  have z1 : X.cell? ⟨w.heap.size + 2, 1, none⟩ = some (.slice A3 n3 c3) := hd0.cell 1
  have z2 : X.cell? ⟨w.heap.size + 2, 2, none⟩ = some (.int .i64 ds) := hd0.cell 2
  have HB := Lib.hid (And.intro hb0 (And.intro hn0 (And.intro hk0 (And.intro hd0 hs0))))
  have HX := Lib.hid hX
  clear hb0 hn0 hk0 hd0 hs0 hX
  go_enter Try.func66, Try.ntmps66
  go_wp2_with fail
  rw [HX.out]
  go_quiet (fail)
  go_wp2_with fail
  go_quiet (fail)
  go_wp2_with fail
  go_ret
  exact ⟨ret_int (rfl), (by first | exact HB.out.1 | exact below_drewN HB.out.1 _ | exact below_drewN (below_drewN HB.out.1 _) _)⟩

set_option maxRecDepth 100000 in
set_option maxHeartbeats 8000000 in
theorem sort_16 (a : Int) (n d : Int) (nm : ByteArray) (K : Option Addr) (kn kc : Nat) (A : Option Addr) (c : Nat) (dn : ByteArray) (A3 : Option Addr) (n3 c3 : Nat) (ds : Int) (ar : List Int) (w : World) (hks : IntsB w w.heap.size A 1 [a]) :
    Calls Try.prog 66 #[.agg #[.int .i64 16, .slice K kn kc, .int .i64 n, .int .i64 d, .string nm], .slice A 1 c, .agg #[.string dn, .slice A3 n3 c3, .int .i64 ds]] w fun e w' => e = .returned (.int .i64 (sortF 16 d [a] ar ds)) ∧ Below w.heap.size w w' := by
  obtain ⟨b, off, rfl, hb, k0⟩ := ints_one hks
  have hs : ∀ r, wordB a = r → sortF 16 d [a] ar ds = if r then a else 0 := fun r hr => by subst hr; simp [sortF, word1F]
  cases hw : wordB a
  all_goals
    have HS := Lib.hid (hs _ hw)
    have HW := Lib.hid (word_is a _ hw)
    clear hs hw
    obtain ⟨X, hX⟩ : ∃ X, (((w.alloc (.cells #[.int .i64 16, .slice K kn kc, .int .i64 n, .int .i64 d, .string nm] 59)).alloc (.cells #[.slice (some ⟨b, off, none⟩) 1 c] 22)).alloc (.cells #[.string dn, .slice A3 n3 c3, .int .i64 ds] 61)) = X := ⟨_, rfl⟩
    have h3 := three_boxes w #[.int .i64 16, .slice K kn kc, .int .i64 n, .int .i64 d, .string nm] #[.slice (some ⟨b, off, none⟩) 1 c] #[.string dn, .slice A3 n3 c3, .int .i64 ds]
    rw [hX] at h3
    obtain ⟨hb0, hn0, hk0, hd0, hs0⟩ := h3
    have x0 : X.cell? ⟨w.heap.size, 0, none⟩ = some (.int .i64 16) := hn0.cell 0
    have x3 : X.cell? ⟨w.heap.size, 3, none⟩ = some (.int .i64 d) := hn0.cell 3
    have y0 : X.cell? ⟨w.heap.size + 1, 0, none⟩ = some (.slice (some ⟨b, off, none⟩) 1 c) := hk0.cell 0
    have z1 : X.cell? ⟨w.heap.size + 2, 1, none⟩ = some (.slice A3 n3 c3) := hd0.cell 1
    have z2 : X.cell? ⟨w.heap.size + 2, 2, none⟩ = some (.int .i64 ds) := hd0.cell 2
    have j0 : X.cell? ⟨b, off, none⟩ = some (.int .i64 a) := (hb0.cell (p := ⟨b, off, none⟩) hb).trans k0
    clear hks k0
    have HB := Lib.hid (And.intro hb0 (And.intro hn0 (And.intro hk0 (And.intro hd0 hs0))))
    have HX := Lib.hid hX
    clear hb0 hn0 hk0 hd0 hs0 hX
    go_enter Try.func66, Try.ntmps66
    go_wp2_with fail
    rw [HX.out]
    go_quiet (fail)
    go_wp2_with fail
    go_quiet ((go_at_call 74; exact quiet_same2 HW.out))
    go_wp2_with fail
    go_ret
    exact ⟨ret_int (by rw [HS.out]; rfl), (by first | exact HB.out.1 | exact below_drewN HB.out.1 _ | exact below_drewN (below_drewN HB.out.1 _) _)⟩

set_option maxRecDepth 100000 in
set_option maxHeartbeats 8000000 in
theorem sort_23 (a : Int) (n d : Int) (nm : ByteArray) (K : Option Addr) (kn kc : Nat) (A : Option Addr) (c : Nat) (dn : ByteArray) (A3 : Option Addr) (n3 c3 : Nat) (ds : Int) (ar : List Int) (w : World) (hks : IntsB w w.heap.size A 1 [a]) :
    Calls Try.prog 66 #[.agg #[.int .i64 23, .slice K kn kc, .int .i64 n, .int .i64 d, .string nm], .slice A 1 c, .agg #[.string dn, .slice A3 n3 c3, .int .i64 ds]] w fun e w' => e = .returned (.int .i64 (sortF 23 d [a] ar ds)) ∧ Below w.heap.size w w' := by
  obtain ⟨b, off, rfl, hb, k0⟩ := ints_one hks
  have hs : ∀ r, wordB a = r → sortF 23 d [a] ar ds = if r then a else 0 := fun r hr => by subst hr; simp [sortF, word1F]
  cases hw : wordB a
  all_goals
    have HS := Lib.hid (hs _ hw)
    have HW := Lib.hid (word_is a _ hw)
    clear hs hw
    obtain ⟨X, hX⟩ : ∃ X, (((w.alloc (.cells #[.int .i64 23, .slice K kn kc, .int .i64 n, .int .i64 d, .string nm] 59)).alloc (.cells #[.slice (some ⟨b, off, none⟩) 1 c] 22)).alloc (.cells #[.string dn, .slice A3 n3 c3, .int .i64 ds] 61)) = X := ⟨_, rfl⟩
    have h3 := three_boxes w #[.int .i64 23, .slice K kn kc, .int .i64 n, .int .i64 d, .string nm] #[.slice (some ⟨b, off, none⟩) 1 c] #[.string dn, .slice A3 n3 c3, .int .i64 ds]
    rw [hX] at h3
    obtain ⟨hb0, hn0, hk0, hd0, hs0⟩ := h3
    have x0 : X.cell? ⟨w.heap.size, 0, none⟩ = some (.int .i64 23) := hn0.cell 0
    have x3 : X.cell? ⟨w.heap.size, 3, none⟩ = some (.int .i64 d) := hn0.cell 3
    have y0 : X.cell? ⟨w.heap.size + 1, 0, none⟩ = some (.slice (some ⟨b, off, none⟩) 1 c) := hk0.cell 0
    have z1 : X.cell? ⟨w.heap.size + 2, 1, none⟩ = some (.slice A3 n3 c3) := hd0.cell 1
    have z2 : X.cell? ⟨w.heap.size + 2, 2, none⟩ = some (.int .i64 ds) := hd0.cell 2
    have j0 : X.cell? ⟨b, off, none⟩ = some (.int .i64 a) := (hb0.cell (p := ⟨b, off, none⟩) hb).trans k0
    clear hks k0
    have HB := Lib.hid (And.intro hb0 (And.intro hn0 (And.intro hk0 (And.intro hd0 hs0))))
    have HX := Lib.hid hX
    clear hb0 hn0 hk0 hd0 hs0 hX
    go_enter Try.func66, Try.ntmps66
    go_wp2_with fail
    rw [HX.out]
    go_quiet (fail)
    go_wp2_with fail
    go_quiet ((go_at_call 74; exact quiet_same2 HW.out))
    go_wp2_with fail
    go_ret
    exact ⟨ret_int (by rw [HS.out]; rfl), (by first | exact HB.out.1 | exact below_drewN HB.out.1 _ | exact below_drewN (below_drewN HB.out.1 _) _)⟩

set_option maxRecDepth 100000 in
set_option maxHeartbeats 8000000 in
theorem sort_12 (a : Int) (n d : Int) (nm : ByteArray) (K : Option Addr) (kn kc : Nat) (A : Option Addr) (c : Nat) (dn : ByteArray) (A3 : Option Addr) (n3 c3 : Nat) (ds : Int) (ar : List Int) (w : World) (hks : IntsB w w.heap.size A 1 [a]) :
    Calls Try.prog 66 #[.agg #[.int .i64 12, .slice K kn kc, .int .i64 n, .int .i64 d, .string nm], .slice A 1 c, .agg #[.string dn, .slice A3 n3 c3, .int .i64 ds]] w fun e w' => e = .returned (.int .i64 (sortF 12 d [a] ar ds)) ∧ Below w.heap.size w w' := by
  obtain ⟨b, off, rfl, hb, k0⟩ := ints_one hks
  have hs : ∀ r s t, numS a = r → (a == 2) = s → (d == 1) = t → sortF 12 d [a] ar ds = if r then (if s && t then 2 else 3) else 0 := fun r s t hr hs ht => by subst hr; subst hs; subst ht; simp [sortF, timesF]
  cases hw : numS a <;> cases h2 : (a == 2) <;> cases h1 : (d == 1)
  all_goals
    have HS := Lib.hid (hs _ _ _ hw h2 h1)
    have HW := Lib.hid (numeric_is a _ hw)
    clear hs hw
    obtain ⟨X, hX⟩ : ∃ X, (((w.alloc (.cells #[.int .i64 12, .slice K kn kc, .int .i64 n, .int .i64 d, .string nm] 59)).alloc (.cells #[.slice (some ⟨b, off, none⟩) 1 c] 22)).alloc (.cells #[.string dn, .slice A3 n3 c3, .int .i64 ds] 61)) = X := ⟨_, rfl⟩
    have h3 := three_boxes w #[.int .i64 12, .slice K kn kc, .int .i64 n, .int .i64 d, .string nm] #[.slice (some ⟨b, off, none⟩) 1 c] #[.string dn, .slice A3 n3 c3, .int .i64 ds]
    rw [hX] at h3
    obtain ⟨hb0, hn0, hk0, hd0, hs0⟩ := h3
    have x0 : X.cell? ⟨w.heap.size, 0, none⟩ = some (.int .i64 12) := hn0.cell 0
    have x3 : X.cell? ⟨w.heap.size, 3, none⟩ = some (.int .i64 d) := hn0.cell 3
    have y0 : X.cell? ⟨w.heap.size + 1, 0, none⟩ = some (.slice (some ⟨b, off, none⟩) 1 c) := hk0.cell 0
    have z1 : X.cell? ⟨w.heap.size + 2, 1, none⟩ = some (.slice A3 n3 c3) := hd0.cell 1
    have z2 : X.cell? ⟨w.heap.size + 2, 2, none⟩ = some (.int .i64 ds) := hd0.cell 2
    have j0 : X.cell? ⟨b, off, none⟩ = some (.int .i64 a) := (hb0.cell (p := ⟨b, off, none⟩) hb).trans k0
    clear hks k0
    have HB := Lib.hid (And.intro hb0 (And.intro hn0 (And.intro hk0 (And.intro hd0 hs0))))
    have HX := Lib.hid hX
    clear hb0 hn0 hk0 hd0 hs0 hX
    go_enter Try.func66, Try.ntmps66
    go_wp2_with fail
    rw [HX.out]
    go_quiet (fail)
    go_wp2_with fail
    go_quiet ((first | (go_at_call 93; exact quiet_same2 HW.out) | (go_at_call 94; exact quiet_same2 (whole_is _ _ rfl))))
    go_wp2_with fail
    go_ret
    exact ⟨ret_int (by rw [HS.out]; rfl), (by first | exact HB.out.1 | exact below_drewN HB.out.1 _ | exact below_drewN (below_drewN HB.out.1 _) _)⟩

end Go.Proofs.Ythooecojopfjbaa
