/- Walks: the maker's method leaf. -/
import Derived.Test.YthooecojopfjbaaMkAB
import Derived.Test.YthooecojopfjbaaKitAB
import Derived.IntWalk
namespace Go.Proofs.Ythooecojopfjbaa
open Go.RowKit

/-- a call of the maker's methods has handed back a node of that sort, and has made at most m nodes -/
def GotP (w : World) (q : Nat) (vn vs : Value) (av : Nat → Prop) (ns : List NodeD) (ss : List Int) (s : Int) (m : Nat) (e : Ending) (w' : World) : Prop :=
  ∃ (k : Nat) (ns' : List NodeD) (ss' : List Int) (vn' vs' : Value), e = .returned (.int .i64 k) ∧ MkIn w' q vn' vs' av ns' ss' ∧ MkTo w q vn vs w' vn' vs' ∧ Mk ns' ss' ∧ ss <+: ss' ∧ ss'[k]? = some s ∧ ns'.length ≤ ns.length + m

theorem put_leaf (q : Nat) (vn vs : Value) (av : Nat → Prop) (ns : List NodeD) (ss : List Int) (op n d : Int) (nm : ByteArray) (s : Int) (w W : World) (hI : MkIn w q vn vs av ns ss) (hb : Below w.heap.size w W) (hM : Mk ns ss) (hn : ns.length ≤ 900)
    (hx : nodeF declsK ns.length ss ⟨op, [], n, d, nm⟩ = (s, 0)) (h1 : 0 ≤ op ∧ op ≤ 100) (h2 : -100 ≤ n ∧ n ≤ 100) (h3 : 0 ≤ d ∧ d ≤ 100) (h4 : nm.size ≤ maxLen) (hs : 0 ≤ s ∧ s ≤ 100) :
    Calls Try.prog 54 #[.pointer (some ⟨q, 0, none⟩), .agg #[.int .i64 op, .slice none 0 0, .int .i64 n, .int .i64 d, .string nm], .int .i64 s] W (GotP w q vn vs av ns ss s 1) := by
  refine (mkPut_any q vn vs av ns ss op n d nm [] none 0 0 s W (hI.below hb) ⟨none, 0, 0, rfl, ⟨⟨by show (_ : Int) ≤ op; omega, by show op ≤ _; omega⟩, ⟨by show (_ : Int) ≤ n; omega, by show n ≤ _; omega⟩, ⟨by show (_ : Int) ≤ d; omega, by show d ≤ _; omega⟩, h4⟩, Nat.le_refl _, Nat.zero_le _, Arr.nil_⟩ (by unfold I64; omega) (by omega) hM.len).mono ?_
  rintro e w' ⟨rfl, vn', vs', h5, h6⟩
  refine ⟨ns.length, _, _, vn', vs', rfl, h5, (MkTo.of_below hb).trans h6, hM.put hx, List.prefix_append _ _, ?_, by simp⟩
  rw [← hM.len]
  simp
theorem wrapM_i64 (n : Int) : I64 (wrap64 n) := by unfold I64 wrap64; omega
theorem gcd_odd {j : Int} (h : 0 ≤ j ∧ j < 4) : Int.gcd (2 * j - 3) 2 = 1 := by
  have : j = 0 ∨ j = 1 ∨ j = 2 ∨ j = 3 := by omega
  rcases this with rfl | rfl | rfl | rfl <;> decide

set_option maxRecDepth 100000 in
set_option maxHeartbeats 4000000 in
theorem leaf_bool_any (n : Int) (q : Nat) (vn vs : Value) (av : Nat → Prop) (ns : List NodeD) (ss : List Int) (w : World) (hI : MkIn w q vn vs av ns ss) (hM : Mk ns ss) (hn : ns.length ≤ 900) (hi : I64 n) :
    Calls Try.prog 85 #[.pointer (some ⟨q, 0, none⟩), .int .i64 1, .int .i64 n] w (GotP w q vn vs av ns ss 1 1) := by
  have HI := Lib.hid (And.intro hI (And.intro hM (And.intro hn hM.len)))
  have HN := Lib.hid hi
  obtain ⟨k, hk⟩ : ∃ k, n % 4 = k := ⟨_, rfl⟩
  have hk4 : k = 0 ∨ k = 1 ∨ k = 2 ∨ k = 3 := by omega
  have HK := Lib.hid hk
  obtain ⟨j, hj⟩ : ∃ j, wrap64 (n.tdiv 4) % 2 = j := ⟨_, rfl⟩
  have hj0 : 0 ≤ j := by omega
  have hj1 : j < 2 := by omega
  have HJ := Lib.hid hj
  have HJB := Lib.hid (And.intro hj0 hj1)
  clear hj
  clear hI hM hn hi hk
  rcases hk4 with rfl | rfl | rfl | rfl
  all_goals
    go_enter Try.func85, Try.ntmps85
    go_wp2_with (first
    | (go_at_call 13; (with_reducible refine (picked_any n 4 _ _ HN.out (by omega) (by omega) HK.out).mono ?_); rintro e w' ⟨rfl, rfl⟩)
    | (go_at_call 13; (with_reducible refine (picked_any (wrap64 (n.tdiv 4)) 2 _ _ (wrapM_i64 _) (by omega) (by omega) HJ.out).mono ?_); rintro e w' ⟨rfl, rfl⟩)
    | (go_at_call 54; refine (put_leaf q vn vs av ns ss _ _ _ _ 1 w _ HI.out.1 (by first | exact Below.refl _ _ | exact (Below.refl _ _).alloc (Nat.le_refl _) _) HI.out.2.1 HI.out.2.2.1 (by first | exact leaf_p HI.out.2.2.2 | exact leaf_q HI.out.2.2.2 | exact leaf_bool HI.out.2.2.2 (by omega)) (by omega) (by omega) (by omega) (by first | exact nameC_size _ | exact Nat.zero_le _) (by omega)).mono ?_; rintro e w' ⟨k', ns', ss', vn', vs', rfl, h'⟩; have HG := Lib.hid h'; clear h')
    | fail)
    go_ret
    exact ⟨k', ns', ss', vn', vs', rfl, HG.out⟩

set_option maxRecDepth 100000 in
set_option maxHeartbeats 4000000 in
theorem leaf_int_any (n : Int) (q : Nat) (vn vs : Value) (av : Nat → Prop) (ns : List NodeD) (ss : List Int) (w : World) (hI : MkIn w q vn vs av ns ss) (hM : Mk ns ss) (hn : ns.length ≤ 900) (hi : I64 n) :
    Calls Try.prog 85 #[.pointer (some ⟨q, 0, none⟩), .int .i64 2, .int .i64 n] w (GotP w q vn vs av ns ss 2 1) := by
  have HI := Lib.hid (And.intro hI (And.intro hM (And.intro hn hM.len)))
  have HN := Lib.hid hi
  obtain ⟨k, hk⟩ : ∃ k, n % 4 = k := ⟨_, rfl⟩
  have hk4 : k = 0 ∨ k = 1 ∨ k = 2 ∨ k = 3 := by omega
  have HK := Lib.hid hk
  obtain ⟨j, hj⟩ : ∃ j, wrap64 (n.tdiv 4) % 7 = j := ⟨_, rfl⟩
  have hj0 : 0 ≤ j := by omega
  have hj1 : j < 7 := by omega
  have HJ := Lib.hid hj
  have HJB := Lib.hid (And.intro hj0 hj1)
  clear hj
  clear hI hM hn hi hk
  rcases hk4 with rfl | rfl | rfl | rfl
  all_goals
    go_enter Try.func85, Try.ntmps85
    go_wp2_with (first
    | (go_at_call 13; (with_reducible refine (picked_any n 4 _ _ HN.out (by omega) (by omega) HK.out).mono ?_); rintro e w' ⟨rfl, rfl⟩)
    | (go_at_call 13; (with_reducible refine (picked_any (wrap64 (n.tdiv 4)) 7 _ _ (wrapM_i64 _) (by omega) (by omega) HJ.out).mono ?_); rintro e w' ⟨rfl, rfl⟩)
    | (go_at_call 54; refine (put_leaf q vn vs av ns ss _ _ _ _ 2 w _ HI.out.1 (by first | exact Below.refl _ _ | exact (Below.refl _ _).alloc (Nat.le_refl _) _) HI.out.2.1 HI.out.2.2.1 (by first | exact leaf_x HI.out.2.2.2 | exact leaf_y HI.out.2.2.2 | exact leaf_num HI.out.2.2.2 ⟨by omega, by omega⟩ ⟨by omega, by omega⟩ (Int.gcd_one_right _) rfl) (by omega) (by omega) (by omega) (by first | exact nameC_size _ | exact Nat.zero_le _) (by omega)).mono ?_; rintro e w' ⟨k', ns', ss', vn', vs', rfl, h'⟩; have HG := Lib.hid h'; clear h')
    | fail)
    go_ret
    exact ⟨k', ns', ss', vn', vs', rfl, HG.out⟩

set_option maxRecDepth 100000 in
set_option maxHeartbeats 4000000 in
theorem leaf_real_any (n : Int) (q : Nat) (vn vs : Value) (av : Nat → Prop) (ns : List NodeD) (ss : List Int) (w : World) (hI : MkIn w q vn vs av ns ss) (hM : Mk ns ss) (hn : ns.length ≤ 900) (hi : I64 n) :
    Calls Try.prog 85 #[.pointer (some ⟨q, 0, none⟩), .int .i64 3, .int .i64 n] w (GotP w q vn vs av ns ss 3 1) := by
  have HI := Lib.hid (And.intro hI (And.intro hM (And.intro hn hM.len)))
  have HN := Lib.hid hi
  obtain ⟨k, hk⟩ : ∃ k, n % 4 = k := ⟨_, rfl⟩
  have hk4 : k = 0 ∨ k = 1 ∨ k = 2 ∨ k = 3 := by omega
  have HK := Lib.hid hk
  obtain ⟨j, hj⟩ : ∃ j, wrap64 (n.tdiv 4) % 4 = j := ⟨_, rfl⟩
  have hj0 : 0 ≤ j := by omega
  have hj1 : j < 4 := by omega
  have HJ := Lib.hid hj
  have HJB := Lib.hid (And.intro hj0 hj1)
  clear hj
  clear hI hM hn hi hk
  rcases hk4 with rfl | rfl | rfl | rfl
  all_goals
    go_enter Try.func85, Try.ntmps85
    go_wp2_with (first
    | (go_at_call 13; (with_reducible refine (picked_any n 4 _ _ HN.out (by omega) (by omega) HK.out).mono ?_); rintro e w' ⟨rfl, rfl⟩)
    | (go_at_call 13; (with_reducible refine (picked_any (wrap64 (n.tdiv 4)) 4 _ _ (wrapM_i64 _) (by omega) (by omega) HJ.out).mono ?_); rintro e w' ⟨rfl, rfl⟩)
    | (go_at_call 54; refine (put_leaf q vn vs av ns ss _ _ _ _ 3 w _ HI.out.1 (by first | exact Below.refl _ _ | exact (Below.refl _ _).alloc (Nat.le_refl _) _) HI.out.2.1 HI.out.2.2.1 (by first | exact leaf_r HI.out.2.2.2 | exact leaf_num HI.out.2.2.2 ⟨by omega, by omega⟩ ⟨by omega, by omega⟩ (gcd_odd HJB.out) rfl) (by omega) (by omega) (by omega) (by first | exact nameC_size _ | exact Nat.zero_le _) (by omega)).mono ?_; rintro e w' ⟨k', ns', ss', vn', vs', rfl, h'⟩; have HG := Lib.hid h'; clear h')
    | fail)
    go_ret
    exact ⟨k', ns', ss', vn', vs', rfl, HG.out⟩

set_option maxRecDepth 100000 in
set_option maxHeartbeats 4000000 in
theorem leaf_thing_any (n : Int) (q : Nat) (vn vs : Value) (av : Nat → Prop) (ns : List NodeD) (ss : List Int) (w : World) (hI : MkIn w q vn vs av ns ss) (hM : Mk ns ss) (hn : ns.length ≤ 900) (hi : I64 n) :
    Calls Try.prog 85 #[.pointer (some ⟨q, 0, none⟩), .int .i64 4, .int .i64 n] w (GotP w q vn vs av ns ss 4 1) := by
  have HI := Lib.hid (And.intro hI (And.intro hM (And.intro hn hM.len)))
  have HN := Lib.hid hi
  obtain ⟨k, hk⟩ : ∃ k, n % 4 = k := ⟨_, rfl⟩
  have hk4 : k = 0 ∨ k = 1 ∨ k = 2 ∨ k = 3 := by omega
  have HK := Lib.hid hk
  clear hI hM hn hi hk
  rcases hk4 with rfl | rfl | rfl | rfl
  all_goals
    go_enter Try.func85, Try.ntmps85
    go_wp2_with (first
    | (go_at_call 13; (with_reducible refine (picked_any n 4 _ _ HN.out (by omega) (by omega) HK.out).mono ?_); rintro e w' ⟨rfl, rfl⟩)
    | (go_at_call 54; refine (put_leaf q vn vs av ns ss _ _ _ _ 4 w _ HI.out.1 (by first | exact Below.refl _ _ | exact (Below.refl _ _).alloc (Nat.le_refl _) _) HI.out.2.1 HI.out.2.2.1 (by first | exact leaf_a HI.out.2.2.2 | exact leaf_b HI.out.2.2.2 | exact leaf_c HI.out.2.2.2) (by omega) (by omega) (by omega) (by first | exact nameC_size _ | exact Nat.zero_le _) (by omega)).mono ?_; rintro e w' ⟨k', ns', ss', vn', vs', rfl, h'⟩; have HG := Lib.hid h'; clear h')
    | fail)
    go_ret
    exact ⟨k', ns', ss', vn', vs', rfl, HG.out⟩

set_option maxRecDepth 100000 in
set_option maxHeartbeats 4000000 in
theorem leaf_array_any (n : Int) (q : Nat) (vn vs : Value) (av : Nat → Prop) (ns : List NodeD) (ss : List Int) (w : World) (hI : MkIn w q vn vs av ns ss) (hM : Mk ns ss) (hn : ns.length ≤ 900) (hi : I64 n) :
    Calls Try.prog 85 #[.pointer (some ⟨q, 0, none⟩), .int .i64 5, .int .i64 n] w (GotP w q vn vs av ns ss 5 1) := by
  have HI := Lib.hid (And.intro hI (And.intro hM (And.intro hn hM.len)))
  have HN := Lib.hid hi
  obtain ⟨k, hk⟩ : ∃ k, n % 4 = k := ⟨_, rfl⟩
  have hk4 : k = 0 ∨ k = 1 ∨ k = 2 ∨ k = 3 := by omega
  have HK := Lib.hid hk
  clear hI hM hn hi hk
  rcases hk4 with rfl | rfl | rfl | rfl
  all_goals
    go_enter Try.func85, Try.ntmps85
    go_wp2_with (first
    | (go_at_call 13; (with_reducible refine (picked_any n 4 _ _ HN.out (by omega) (by omega) HK.out).mono ?_); rintro e w' ⟨rfl, rfl⟩)
    | (go_at_call 54; refine (put_leaf q vn vs av ns ss _ _ _ _ 5 w _ HI.out.1 (by first | exact Below.refl _ _ | exact (Below.refl _ _).alloc (Nat.le_refl _) _) HI.out.2.1 HI.out.2.2.1 (by first | exact leaf_m HI.out.2.2.2) (by omega) (by omega) (by omega) (by first | exact nameC_size _ | exact Nat.zero_le _) (by omega)).mono ?_; rintro e w' ⟨k', ns', ss', vn', vs', rfl, h'⟩; have HG := Lib.hid h'; clear h')
    | fail)
    go_ret
    exact ⟨k', ns', ss', vn', vs', rfl, HG.out⟩

set_option maxRecDepth 100000 in
set_option maxHeartbeats 4000000 in
theorem leaf_word_any (n : Int) (q : Nat) (vn vs : Value) (av : Nat → Prop) (ns : List NodeD) (ss : List Int) (w : World) (hI : MkIn w q vn vs av ns ss) (hM : Mk ns ss) (hn : ns.length ≤ 900) (hi : I64 n) :
    Calls Try.prog 85 #[.pointer (some ⟨q, 0, none⟩), .int .i64 13, .int .i64 n] w (GotP w q vn vs av ns ss 13 1) := by
  have HI := Lib.hid (And.intro hI (And.intro hM (And.intro hn hM.len)))
  have HN := Lib.hid hi
  obtain ⟨k, hk⟩ : ∃ k, n % 4 = k := ⟨_, rfl⟩
  have hk4 : k = 0 ∨ k = 1 ∨ k = 2 ∨ k = 3 := by omega
  have HK := Lib.hid hk
  obtain ⟨j, hj⟩ : ∃ j, wrap64 (n.tdiv 4) % 8 = j := ⟨_, rfl⟩
  have hj0 : 0 ≤ j := by omega
  have hj1 : j < 8 := by omega
  have HJ := Lib.hid hj
  have HJB := Lib.hid (And.intro hj0 hj1)
  clear hj
  clear hI hM hn hi hk
  rcases hk4 with rfl | rfl | rfl | rfl
  all_goals
    go_enter Try.func85, Try.ntmps85
    go_wp2_with (first
    | (go_at_call 13; (with_reducible refine (picked_any n 4 _ _ HN.out (by omega) (by omega) HK.out).mono ?_); rintro e w' ⟨rfl, rfl⟩)
    | (go_at_call 13; (with_reducible refine (picked_any (wrap64 (n.tdiv 4)) 8 _ _ (wrapM_i64 _) (by omega) (by omega) HJ.out).mono ?_); rintro e w' ⟨rfl, rfl⟩)
    | (go_at_call 54; refine (put_leaf q vn vs av ns ss _ _ _ _ 13 w _ HI.out.1 (by first | exact Below.refl _ _ | exact (Below.refl _ _).alloc (Nat.le_refl _) _) HI.out.2.1 HI.out.2.2.1 (by first | exact leaf_v HI.out.2.2.2 | exact leaf_w HI.out.2.2.2 | exact leaf_word HI.out.2.2.2 HJB.out) (by omega) (by omega) (by omega) (by first | exact nameC_size _ | exact Nat.zero_le _) (by omega)).mono ?_; rintro e w' ⟨k', ns', ss', vn', vs', rfl, h'⟩; have HG := Lib.hid h'; clear h')
    | fail)
    go_ret
    exact ⟨k', ns', ss', vn', vs', rfl, HG.out⟩
end Go.Proofs.Ythooecojopfjbaa
