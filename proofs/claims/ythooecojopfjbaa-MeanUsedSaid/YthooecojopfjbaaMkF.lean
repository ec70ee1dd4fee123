/- Walks: the maker's method grow, kinds 0 3 5 6 7 8 9 12 13. -/
import Derived.Test.YthooecojopfjbaaMkE
import Derived.Deep.RegionWith
namespace Go.Proofs.Ythooecojopfjbaa
open Go.RowKit

def GrowP (w : World) (q : Nat) (vn vs : Value) (ns : List NodeD) (ss : List Int) (e : Ending) (w' : World) : Prop :=
  e = .returned (.tuple #[]) ∧ ∃ (vn2 vs2 : Value) (ns2 : List NodeD) (ss2 : List Int), Grew w q vn vs ns ss 4 w' vn2 vs2 (.slice none 0 0) [] ns2 ss2
theorem Grew.more {w w1 : World} {q m k : Nat} {vn vs vn1 vs1 u : Value} {ns ns1 : List NodeD} {ss ss1 L : List Int} (h : Grew w q vn vs ns ss m w1 vn1 vs1 u L ns1 ss1) (hk : m ≤ k) : Grew w q vn vs ns ss k w1 vn1 vs1 u L ns1 ss1 :=
  ⟨h.isIn, h.to, h.made, h.pre, by have := h.le; omega, h.row, h.lt⟩
theorem sumS_or (sl : List Int) : sumS sl = 2 ∨ sumS sl = 3 := by unfold sumS; split <;> simp
theorem allB_append (p : Int → Bool) (l m : List Int) : allB p (l ++ m) = (allB p l && allB p m) := by
  induction l with
  | nil => simp [allB_nil]
  | cons x r ih => rw [List.cons_append, allB_cons, allB_cons, ih, Bool.and_assoc]
theorem sumS_two (sl : List Int) : sumS (sl ++ [2]) = sumS sl := by simp [sumS, allB_append, allB_cons, allB_nil, isIntS]
theorem sumS_three (sl : List Int) : sumS (sl ++ [3]) = 3 := by simp [sumS, allB_append, allB_cons, allB_nil, isIntS]
theorem Has.nil (ss : List Int) : Has ss [] [] := rfl

set_option maxRecDepth 100000 in
set_option maxHeartbeats 4000000 in
theorem grow0_any (a b c : Int) (q : Nat) (vn vs : Value) (ns : List NodeD) (ss : List Int) (w : World) (hI : MkIn w q vn vs (fun b => (Value.slice none 0 0).ownBlock = some b) ns ss) (hM : Mk ns ss) (hn : ns.length ≤ 800) (ha : I64 a) (hb : I64 b) (hc : I64 c) (hk : a % 22 = 0) :
    Calls Try.prog 31 #[.pointer (some ⟨q, 0, none⟩), .int .i64 a, .int .i64 b, .int .i64 c, .int .i64 0] w (GrowP w q vn vs ns ss) := by
  have HG0 := Lib.hid (Grew.start hI hM)
  have HA0 := Lib.hid (Has.nil ss)
  have HB := Lib.hid (And.intro ha (And.intro hb hc))
  obtain ⟨d, hd⟩ : ∃ d, wrap64 (a.tdiv 22) % 4 = d := ⟨_, rfl⟩
  have hd4 : d = 0 ∨ d = 1 ∨ d = 2 ∨ d = 3 := by omega
  have HD := Lib.hid hd
  have HR := Lib.hid hk
  clear hI hM ha hb hc hk hd
  go_enter Try.func31, Try.ntmps31
  go_wp2_with fail
  with_reducible refine (picked_any a 22 _ _ HB.out.1 (by omega) (by omega) HR.out).mono ?_
  rintro e w' ⟨rfl, rfl⟩
  go_wp2_with fail
  with_reducible refine (picked_any (wrap64 (a.tdiv 22)) 4 _ _ (wrapM_i64 _) (by omega) (by omega) HD.out).mono ?_
  rintro e w' ⟨rfl, rfl⟩
  go_wp2_with fail
  refine (last_grew 1 b 0 HG0.out (by first | exact Below.refl _ _ | exact (Below.refl _ _).alloc (Nat.le_refl _) _) (by omega) HB.out.2.1 (by simp [SortK])).mono ?_
  rintro e w1 ⟨k1, vn1, vs1, ns1, ss1, rfl, hG, hp, hk⟩
  have HG1 := Lib.hid hG
  have HA1 := Lib.hid (Has.app (HA0.out.more hp) (Has.one hk))
  clear hG hp hk
  go_wp2_with fail
  refine (put_grew HG1.out (by first | exact Below.refl _ _ | exact (Below.refl _ _).alloc (Nat.le_refl _) _) (by omega) (lit_kids (l := [k1]) HG1.out (Nat.le_refl _) (Blk.new _ _ _) HA1.out.sorts.2.2 (by omega)) (Nat.le_refl _) (by unfold maxLen; simp) (mk_not HG1.out.len HA1.out) (by omega) (by omega) (by omega) (by first | exact nameC_size _ | exact Nat.zero_le _) (by omega)).mono ?_
  rintro e w9 ⟨k9, vn9, vs9, ns9, ss9, rfl, hG⟩
  have HG9 := Lib.hid hG
  clear hG
  go_wp2_with fail
  go_end0
  exact ⟨rfl, vn9, vs9, ns9, ss9, HG9.out.more (by omega)⟩

set_option maxRecDepth 100000 in
set_option maxHeartbeats 4000000 in
theorem grow3_any (a b c : Int) (q : Nat) (vn vs : Value) (ns : List NodeD) (ss : List Int) (w : World) (hI : MkIn w q vn vs (fun b => (Value.slice none 0 0).ownBlock = some b) ns ss) (hM : Mk ns ss) (hn : ns.length ≤ 800) (ha : I64 a) (hb : I64 b) (hc : I64 c) (hk : a % 22 = 3) :
    Calls Try.prog 31 #[.pointer (some ⟨q, 0, none⟩), .int .i64 a, .int .i64 b, .int .i64 c, .int .i64 0] w (GrowP w q vn vs ns ss) := by
  have HG0 := Lib.hid (Grew.start hI hM)
  have HA0 := Lib.hid (Has.nil ss)
  have HB := Lib.hid (And.intro ha (And.intro hb hc))
  obtain ⟨d, hd⟩ : ∃ d, wrap64 (a.tdiv 22) % 4 = d := ⟨_, rfl⟩
  have hd4 : d = 0 ∨ d = 1 ∨ d = 2 ∨ d = 3 := by omega
  have HD := Lib.hid hd
  have HR := Lib.hid hk
  clear hI hM ha hb hc hk hd
  go_enter Try.func31, Try.ntmps31
  go_wp2_with fail
  with_reducible refine (picked_any a 22 _ _ HB.out.1 (by omega) (by omega) HR.out).mono ?_
  rintro e w' ⟨rfl, rfl⟩
  go_wp2_with fail
  with_reducible refine (picked_any (wrap64 (a.tdiv 22)) 4 _ _ (wrapM_i64 _) (by omega) (by omega) HD.out).mono ?_
  rintro e w' ⟨rfl, rfl⟩
  go_wp2_with fail
  refine (last_grew 1 b 0 HG0.out (by first | exact Below.refl _ _ | exact (Below.refl _ _).alloc (Nat.le_refl _) _) (by omega) HB.out.2.1 (by simp [SortK])).mono ?_
  rintro e w1 ⟨k1, vn1, vs1, ns1, ss1, rfl, hG, hp, hk⟩
  have HG1 := Lib.hid hG
  have HA1 := Lib.hid (Has.app (HA0.out.more hp) (Has.one hk))
  clear hG hp hk
  go_wp2_with fail
  refine (last_grew 1 c 1 HG1.out (by first | exact Below.refl _ _ | exact (Below.refl _ _).alloc (Nat.le_refl _) _) (by omega) HB.out.2.2 (by simp [SortK])).mono ?_
  rintro e w2 ⟨k2, vn2, vs2, ns2, ss2, rfl, hG, hp, hk⟩
  have HG2 := Lib.hid hG
  have HA2 := Lib.hid (Has.app (HA1.out.more hp) (Has.one hk))
  clear hG hp hk
  go_wp2_with fail
  refine (put_grew HG2.out (by first | exact Below.refl _ _ | exact (Below.refl _ _).alloc (Nat.le_refl _) _) (by omega) (lit_kids (l := [k1, k2]) HG2.out (Nat.le_refl _) (Blk.new _ _ _) HA2.out.sorts.2.2 (by omega)) (Nat.le_refl _) (by unfold maxLen; simp) (mk_iff HG2.out.len HA2.out) (by omega) (by omega) (by omega) (by first | exact nameC_size _ | exact Nat.zero_le _) (by omega)).mono ?_
  rintro e w9 ⟨k9, vn9, vs9, ns9, ss9, rfl, hG⟩
  have HG9 := Lib.hid hG
  clear hG
  go_wp2_with fail
  go_end0
  exact ⟨rfl, vn9, vs9, ns9, ss9, HG9.out.more (by omega)⟩

set_option maxRecDepth 100000 in
set_option maxHeartbeats 4000000 in
theorem grow5_any (a b c : Int) (q : Nat) (vn vs : Value) (ns : List NodeD) (ss : List Int) (w : World) (hI : MkIn w q vn vs (fun b => (Value.slice none 0 0).ownBlock = some b) ns ss) (hM : Mk ns ss) (hn : ns.length ≤ 800) (ha : I64 a) (hb : I64 b) (hc : I64 c) (hk : a % 22 = 5) :
    Calls Try.prog 31 #[.pointer (some ⟨q, 0, none⟩), .int .i64 a, .int .i64 b, .int .i64 c, .int .i64 0] w (GrowP w q vn vs ns ss) := by
  have HG0 := Lib.hid (Grew.start hI hM)
  have HA0 := Lib.hid (Has.nil ss)
  have HB := Lib.hid (And.intro ha (And.intro hb hc))
  obtain ⟨d, hd⟩ : ∃ d, wrap64 (a.tdiv 22) % 4 = d := ⟨_, rfl⟩
  have hd4 : d = 0 ∨ d = 1 ∨ d = 2 ∨ d = 3 := by omega
  have HD := Lib.hid hd
  have HR := Lib.hid hk
  clear hI hM ha hb hc hk hd
  go_enter Try.func31, Try.ntmps31
  go_wp2_with fail
  with_reducible refine (picked_any a 22 _ _ HB.out.1 (by omega) (by omega) HR.out).mono ?_
  rintro e w' ⟨rfl, rfl⟩
  go_wp2_with fail
  with_reducible refine (picked_any (wrap64 (a.tdiv 22)) 4 _ _ (wrapM_i64 _) (by omega) (by omega) HD.out).mono ?_
  rintro e w' ⟨rfl, rfl⟩
  go_wp2_with fail
  obtain ⟨s1, hs1, hc⟩ := number_grew b 1 HG0.out (by first | exact Below.refl _ _ | exact (Below.refl _ _).alloc (Nat.le_refl _) _) (by omega) HB.out.2.1
  refine hc.mono ?_
  clear hc
  rintro e w1 ⟨k1, vn1, vs1, ns1, ss1, rfl, hG, hp, hk⟩
  have HG1 := Lib.hid hG
  have HA1 := Lib.hid (Has.app (HA0.out.more hp) (Has.one hk))
  clear hG hp hk
  go_wp2_with fail
  obtain ⟨s2, hs2, hc⟩ := number_grew c 1 HG1.out (by first | exact Below.refl _ _ | exact (Below.refl _ _).alloc (Nat.le_refl _) _) (by omega) HB.out.2.2
  refine hc.mono ?_
  clear hc
  rintro e w2 ⟨k2, vn2, vs2, ns2, ss2, rfl, hG, hp, hk⟩
  have HG2 := Lib.hid hG
  have HA2 := Lib.hid (Has.app (HA1.out.more hp) (Has.one hk))
  clear hG hp hk
  go_wp2_with fail
  refine (put_grew HG2.out (by first | exact Below.refl _ _ | exact (Below.refl _ _).alloc (Nat.le_refl _) _) (by omega) (lit_kids (l := [k1, k2]) HG2.out (Nat.le_refl _) (Blk.new _ _ _) HA2.out.sorts.2.2 (by omega)) (Nat.le_refl _) (by unfold maxLen; simp) ((fun hl ha => mk_sameN hl ha hs1 hs2) HG2.out.len HA2.out) (by omega) (by omega) (by omega) (by first | exact nameC_size _ | exact Nat.zero_le _) (by omega)).mono ?_
  rintro e w9 ⟨k9, vn9, vs9, ns9, ss9, rfl, hG⟩
  have HG9 := Lib.hid hG
  clear hG
  go_wp2_with fail
  go_end0
  exact ⟨rfl, vn9, vs9, ns9, ss9, HG9.out.more (by omega)⟩

set_option maxRecDepth 100000 in
set_option maxHeartbeats 4000000 in
theorem grow6_any (a b c : Int) (q : Nat) (vn vs : Value) (ns : List NodeD) (ss : List Int) (w : World) (hI : MkIn w q vn vs (fun b => (Value.slice none 0 0).ownBlock = some b) ns ss) (hM : Mk ns ss) (hn : ns.length ≤ 800) (ha : I64 a) (hb : I64 b) (hc : I64 c) (hk : a % 22 = 6) :
    Calls Try.prog 31 #[.pointer (some ⟨q, 0, none⟩), .int .i64 a, .int .i64 b, .int .i64 c, .int .i64 0] w (GrowP w q vn vs ns ss) := by
  have HG0 := Lib.hid (Grew.start hI hM)
  have HA0 := Lib.hid (Has.nil ss)
  have HB := Lib.hid (And.intro ha (And.intro hb hc))
  obtain ⟨d, hd⟩ : ∃ d, wrap64 (a.tdiv 22) % 4 = d := ⟨_, rfl⟩
  have hd4 : d = 0 ∨ d = 1 ∨ d = 2 ∨ d = 3 := by omega
  have HD := Lib.hid hd
  have HR := Lib.hid hk
  clear hI hM ha hb hc hk hd
  go_enter Try.func31, Try.ntmps31
  go_wp2_with fail
  with_reducible refine (picked_any a 22 _ _ HB.out.1 (by omega) (by omega) HR.out).mono ?_
  rintro e w' ⟨rfl, rfl⟩
  go_wp2_with fail
  with_reducible refine (picked_any (wrap64 (a.tdiv 22)) 4 _ _ (wrapM_i64 _) (by omega) (by omega) HD.out).mono ?_
  rintro e w' ⟨rfl, rfl⟩
  go_wp2_with fail
  refine (last_grew 4 b 1 HG0.out (by first | exact Below.refl _ _ | exact (Below.refl _ _).alloc (Nat.le_refl _) _) (by omega) HB.out.2.1 (by simp [SortK])).mono ?_
  rintro e w1 ⟨k1, vn1, vs1, ns1, ss1, rfl, hG, hp, hk⟩
  have HG1 := Lib.hid hG
  have HA1 := Lib.hid (Has.app (HA0.out.more hp) (Has.one hk))
  clear hG hp hk
  go_wp2_with fail
  refine (last_grew 4 c 1 HG1.out (by first | exact Below.refl _ _ | exact (Below.refl _ _).alloc (Nat.le_refl _) _) (by omega) HB.out.2.2 (by simp [SortK])).mono ?_
  rintro e w2 ⟨k2, vn2, vs2, ns2, ss2, rfl, hG, hp, hk⟩
  have HG2 := Lib.hid hG
  have HA2 := Lib.hid (Has.app (HA1.out.more hp) (Has.one hk))
  clear hG hp hk
  go_wp2_with fail
  refine (put_grew HG2.out (by first | exact Below.refl _ _ | exact (Below.refl _ _).alloc (Nat.le_refl _) _) (by omega) (lit_kids (l := [k1, k2]) HG2.out (Nat.le_refl _) (Blk.new _ _ _) HA2.out.sorts.2.2 (by omega)) (Nat.le_refl _) (by unfold maxLen; simp) (mk_same4 HG2.out.len HA2.out) (by omega) (by omega) (by omega) (by first | exact nameC_size _ | exact Nat.zero_le _) (by omega)).mono ?_
  rintro e w9 ⟨k9, vn9, vs9, ns9, ss9, rfl, hG⟩
  have HG9 := Lib.hid hG
  clear hG
  go_wp2_with fail
  go_end0
  exact ⟨rfl, vn9, vs9, ns9, ss9, HG9.out.more (by omega)⟩

set_option maxRecDepth 100000 in
set_option maxHeartbeats 4000000 in
theorem grow7_any (a b c : Int) (q : Nat) (vn vs : Value) (ns : List NodeD) (ss : List Int) (w : World) (hI : MkIn w q vn vs (fun b => (Value.slice none 0 0).ownBlock = some b) ns ss) (hM : Mk ns ss) (hn : ns.length ≤ 800) (ha : I64 a) (hb : I64 b) (hc : I64 c) (hk : a % 22 = 7) :
    Calls Try.prog 31 #[.pointer (some ⟨q, 0, none⟩), .int .i64 a, .int .i64 b, .int .i64 c, .int .i64 0] w (GrowP w q vn vs ns ss) := by
  have HG0 := Lib.hid (Grew.start hI hM)
  have HA0 := Lib.hid (Has.nil ss)
  have HB := Lib.hid (And.intro ha (And.intro hb hc))
  obtain ⟨d, hd⟩ : ∃ d, wrap64 (a.tdiv 22) % 4 = d := ⟨_, rfl⟩
  have hd4 : d = 0 ∨ d = 1 ∨ d = 2 ∨ d = 3 := by omega
  have HD := Lib.hid hd
  have HR := Lib.hid hk
  clear hI hM ha hb hc hk hd
  go_enter Try.func31, Try.ntmps31
  go_wp2_with fail
  with_reducible refine (picked_any a 22 _ _ HB.out.1 (by omega) (by omega) HR.out).mono ?_
  rintro e w' ⟨rfl, rfl⟩
  go_wp2_with fail
  with_reducible refine (picked_any (wrap64 (a.tdiv 22)) 4 _ _ (wrapM_i64 _) (by omega) (by omega) HD.out).mono ?_
  rintro e w' ⟨rfl, rfl⟩
  go_wp2_with fail
  refine (last_grew 4 b 1 HG0.out (by first | exact Below.refl _ _ | exact (Below.refl _ _).alloc (Nat.le_refl _) _) (by omega) HB.out.2.1 (by simp [SortK])).mono ?_
  rintro e w1 ⟨k1, vn1, vs1, ns1, ss1, rfl, hG, hp, hk⟩
  have HG1 := Lib.hid hG
  have HA1 := Lib.hid (Has.app (HA0.out.more hp) (Has.one hk))
  clear hG hp hk
  go_wp2_with fail
  refine (put_grew HG1.out (by first | exact Below.refl _ _ | exact (Below.refl _ _).alloc (Nat.le_refl _) _) (by omega) (lit_kids (l := [k1]) HG1.out (Nat.le_refl _) (Blk.new _ _ _) HA1.out.sorts.2.2 (by omega)) (Nat.le_refl _) (by unfold maxLen; simp) ((fun hl ha => node_f hl (by simpa [Has] using ha)) HG1.out.len HA1.out) (by omega) (by omega) (by omega) (by first | exact nameC_size _ | exact Nat.zero_le _) (by omega)).mono ?_
  rintro e w9 ⟨k9, vn9, vs9, ns9, ss9, rfl, hG⟩
  have HG9 := Lib.hid hG
  clear hG
  go_wp2_with fail
  go_end0
  exact ⟨rfl, vn9, vs9, ns9, ss9, HG9.out.more (by omega)⟩

set_option maxRecDepth 100000 in
set_option maxHeartbeats 4000000 in
theorem grow8_any (a b c : Int) (q : Nat) (vn vs : Value) (ns : List NodeD) (ss : List Int) (w : World) (hI : MkIn w q vn vs (fun b => (Value.slice none 0 0).ownBlock = some b) ns ss) (hM : Mk ns ss) (hn : ns.length ≤ 800) (ha : I64 a) (hb : I64 b) (hc : I64 c) (hk : a % 22 = 8) :
    Calls Try.prog 31 #[.pointer (some ⟨q, 0, none⟩), .int .i64 a, .int .i64 b, .int .i64 c, .int .i64 0] w (GrowP w q vn vs ns ss) := by
  have HG0 := Lib.hid (Grew.start hI hM)
  have HA0 := Lib.hid (Has.nil ss)
  have HB := Lib.hid (And.intro ha (And.intro hb hc))
  obtain ⟨d, hd⟩ : ∃ d, wrap64 (a.tdiv 22) % 4 = d := ⟨_, rfl⟩
  have hd4 : d = 0 ∨ d = 1 ∨ d = 2 ∨ d = 3 := by omega
  have HD := Lib.hid hd
  have HR := Lib.hid hk
  clear hI hM ha hb hc hk hd
  go_enter Try.func31, Try.ntmps31
  go_wp2_with fail
  with_reducible refine (picked_any a 22 _ _ HB.out.1 (by omega) (by omega) HR.out).mono ?_
  rintro e w' ⟨rfl, rfl⟩
  go_wp2_with fail
  with_reducible refine (picked_any (wrap64 (a.tdiv 22)) 4 _ _ (wrapM_i64 _) (by omega) (by omega) HD.out).mono ?_
  rintro e w' ⟨rfl, rfl⟩
  go_wp2_with fail
  refine (last_grew 4 b 1 HG0.out (by first | exact Below.refl _ _ | exact (Below.refl _ _).alloc (Nat.le_refl _) _) (by omega) HB.out.2.1 (by simp [SortK])).mono ?_
  rintro e w1 ⟨k1, vn1, vs1, ns1, ss1, rfl, hG, hp, hk⟩
  have HG1 := Lib.hid hG
  have HA1 := Lib.hid (Has.app (HA0.out.more hp) (Has.one hk))
  clear hG hp hk
  go_wp2_with fail
  refine (last_grew 4 c 1 HG1.out (by first | exact Below.refl _ _ | exact (Below.refl _ _).alloc (Nat.le_refl _) _) (by omega) HB.out.2.2 (by simp [SortK])).mono ?_
  rintro e w2 ⟨k2, vn2, vs2, ns2, ss2, rfl, hG, hp, hk⟩
  have HG2 := Lib.hid hG
  have HA2 := Lib.hid (Has.app (HA1.out.more hp) (Has.one hk))
  clear hG hp hk
  go_wp2_with fail
  refine (put_grew HG2.out (by first | exact Below.refl _ _ | exact (Below.refl _ _).alloc (Nat.le_refl _) _) (by omega) (lit_kids (l := [k1, k2]) HG2.out (Nat.le_refl _) (Blk.new _ _ _) HA2.out.sorts.2.2 (by omega)) (Nat.le_refl _) (by unfold maxLen; simp) ((fun hl ha => node_g hl (by simp [Has] at ha; exact ha.1) (by simp [Has] at ha; exact ha.2)) HG2.out.len HA2.out) (by omega) (by omega) (by omega) (by first | exact nameC_size _ | exact Nat.zero_le _) (by omega)).mono ?_
  rintro e w9 ⟨k9, vn9, vs9, ns9, ss9, rfl, hG⟩
  have HG9 := Lib.hid hG
  clear hG
  go_wp2_with fail
  go_end0
  exact ⟨rfl, vn9, vs9, ns9, ss9, HG9.out.more (by omega)⟩

set_option maxRecDepth 100000 in
set_option maxHeartbeats 4000000 in
theorem grow9_any (a b c : Int) (q : Nat) (vn vs : Value) (ns : List NodeD) (ss : List Int) (w : World) (hI : MkIn w q vn vs (fun b => (Value.slice none 0 0).ownBlock = some b) ns ss) (hM : Mk ns ss) (hn : ns.length ≤ 800) (ha : I64 a) (hb : I64 b) (hc : I64 c) (hk : a % 22 = 9) :
    Calls Try.prog 31 #[.pointer (some ⟨q, 0, none⟩), .int .i64 a, .int .i64 b, .int .i64 c, .int .i64 0] w (GrowP w q vn vs ns ss) := by
  have HG0 := Lib.hid (Grew.start hI hM)
  have HA0 := Lib.hid (Has.nil ss)
  have HB := Lib.hid (And.intro ha (And.intro hb hc))
  obtain ⟨d, hd⟩ : ∃ d, wrap64 (a.tdiv 22) % 4 = d := ⟨_, rfl⟩
  have hd4 : d = 0 ∨ d = 1 ∨ d = 2 ∨ d = 3 := by omega
  have HD := Lib.hid hd
  have HR := Lib.hid hk
  clear hI hM ha hb hc hk hd
  go_enter Try.func31, Try.ntmps31
  go_wp2_with fail
  with_reducible refine (picked_any a 22 _ _ HB.out.1 (by omega) (by omega) HR.out).mono ?_
  rintro e w' ⟨rfl, rfl⟩
  go_wp2_with fail
  with_reducible refine (picked_any (wrap64 (a.tdiv 22)) 4 _ _ (wrapM_i64 _) (by omega) (by omega) HD.out).mono ?_
  rintro e w' ⟨rfl, rfl⟩
  go_wp2_with fail
  refine (last_grew 4 b 1 HG0.out (by first | exact Below.refl _ _ | exact (Below.refl _ _).alloc (Nat.le_refl _) _) (by omega) HB.out.2.1 (by simp [SortK])).mono ?_
  rintro e w1 ⟨k1, vn1, vs1, ns1, ss1, rfl, hG, hp, hk⟩
  have HG1 := Lib.hid hG
  have HA1 := Lib.hid (Has.app (HA0.out.more hp) (Has.one hk))
  clear hG hp hk
  go_wp2_with fail
  refine (put_grew HG1.out (by first | exact Below.refl _ _ | exact (Below.refl _ _).alloc (Nat.le_refl _) _) (by omega) (lit_kids (l := [k1]) HG1.out (Nat.le_refl _) (Blk.new _ _ _) HA1.out.sorts.2.2 (by omega)) (Nat.le_refl _) (by unfold maxLen; simp) ((fun hl ha => node_h hl (by simpa [Has] using ha)) HG1.out.len HA1.out) (by omega) (by omega) (by omega) (by first | exact nameC_size _ | exact Nat.zero_le _) (by omega)).mono ?_
  rintro e w9 ⟨k9, vn9, vs9, ns9, ss9, rfl, hG⟩
  have HG9 := Lib.hid hG
  clear hG
  go_wp2_with fail
  go_end0
  exact ⟨rfl, vn9, vs9, ns9, ss9, HG9.out.more (by omega)⟩

set_option maxRecDepth 100000 in
set_option maxHeartbeats 4000000 in
theorem grow12_any (a b c : Int) (q : Nat) (vn vs : Value) (ns : List NodeD) (ss : List Int) (w : World) (hI : MkIn w q vn vs (fun b => (Value.slice none 0 0).ownBlock = some b) ns ss) (hM : Mk ns ss) (hn : ns.length ≤ 800) (ha : I64 a) (hb : I64 b) (hc : I64 c) (hk : a % 22 = 12) :
    Calls Try.prog 31 #[.pointer (some ⟨q, 0, none⟩), .int .i64 a, .int .i64 b, .int .i64 c, .int .i64 0] w (GrowP w q vn vs ns ss) := by
  have HG0 := Lib.hid (Grew.start hI hM)
  have HA0 := Lib.hid (Has.nil ss)
  have HB := Lib.hid (And.intro ha (And.intro hb hc))
  obtain ⟨d, hd⟩ : ∃ d, wrap64 (a.tdiv 22) % 4 = d := ⟨_, rfl⟩
  have hd4 : d = 0 ∨ d = 1 ∨ d = 2 ∨ d = 3 := by omega
  have HD := Lib.hid hd
  have HR := Lib.hid hk
  clear hI hM ha hb hc hk hd
  go_enter Try.func31, Try.ntmps31
  go_wp2_with fail
  with_reducible refine (picked_any a 22 _ _ HB.out.1 (by omega) (by omega) HR.out).mono ?_
  rintro e w' ⟨rfl, rfl⟩
  go_wp2_with fail
  with_reducible refine (picked_any (wrap64 (a.tdiv 22)) 4 _ _ (wrapM_i64 _) (by omega) (by omega) HD.out).mono ?_
  rintro e w' ⟨rfl, rfl⟩
  go_wp2_with fail
  obtain ⟨s1, hs1, hc⟩ := number_grew b 1 HG0.out (by first | exact Below.refl _ _ | exact (Below.refl _ _).alloc (Nat.le_refl _) _) (by omega) HB.out.2.1
  refine hc.mono ?_
  clear hc
  rintro e w1 ⟨k1, vn1, vs1, ns1, ss1, rfl, hG, hp, hk⟩
  have HG1 := Lib.hid hG
  have HA1 := Lib.hid (Has.app (HA0.out.more hp) (Has.one hk))
  clear hG hp hk
  go_wp2_with fail
  obtain ⟨s2, hs2, hc⟩ := number_grew c 1 HG1.out (by first | exact Below.refl _ _ | exact (Below.refl _ _).alloc (Nat.le_refl _) _) (by omega) HB.out.2.2
  refine hc.mono ?_
  clear hc
  rintro e w2 ⟨k2, vn2, vs2, ns2, ss2, rfl, hG, hp, hk⟩
  have HG2 := Lib.hid hG
  have HA2 := Lib.hid (Has.app (HA1.out.more hp) (Has.one hk))
  clear hG hp hk
  go_wp2_with fail
  refine (put_grew HG2.out (by first | exact Below.refl _ _ | exact (Below.refl _ _).alloc (Nat.le_refl _) _) (by omega) (lit_kids (l := [k1, k2]) HG2.out (Nat.le_refl _) (Blk.new _ _ _) HA2.out.sorts.2.2 (by omega)) (Nat.le_refl _) (by unfold maxLen; simp) ((fun hl ha => mk_less hl ha hs1 hs2 (by omega)) HG2.out.len HA2.out) (by omega) (by omega) (by omega) (by first | exact nameC_size _ | exact Nat.zero_le _) (by omega)).mono ?_
  rintro e w9 ⟨k9, vn9, vs9, ns9, ss9, rfl, hG⟩
  have HG9 := Lib.hid hG
  clear hG
  go_wp2_with fail
  go_end0
  exact ⟨rfl, vn9, vs9, ns9, ss9, HG9.out.more (by omega)⟩

set_option maxRecDepth 100000 in
set_option maxHeartbeats 4000000 in
theorem grow13_any (a b c : Int) (q : Nat) (vn vs : Value) (ns : List NodeD) (ss : List Int) (w : World) (hI : MkIn w q vn vs (fun b => (Value.slice none 0 0).ownBlock = some b) ns ss) (hM : Mk ns ss) (hn : ns.length ≤ 800) (ha : I64 a) (hb : I64 b) (hc : I64 c) (hk : a % 22 = 13) :
    Calls Try.prog 31 #[.pointer (some ⟨q, 0, none⟩), .int .i64 a, .int .i64 b, .int .i64 c, .int .i64 0] w (GrowP w q vn vs ns ss) := by
  have HG0 := Lib.hid (Grew.start hI hM)
  have HA0 := Lib.hid (Has.nil ss)
  have HB := Lib.hid (And.intro ha (And.intro hb hc))
  obtain ⟨d, hd⟩ : ∃ d, wrap64 (a.tdiv 22) % 4 = d := ⟨_, rfl⟩
  have hd4 : d = 0 ∨ d = 1 ∨ d = 2 ∨ d = 3 := by omega
  have HD := Lib.hid hd
  have HR := Lib.hid hk
  clear hI hM ha hb hc hk hd
  go_enter Try.func31, Try.ntmps31
  go_wp2_with fail
  with_reducible refine (picked_any a 22 _ _ HB.out.1 (by omega) (by omega) HR.out).mono ?_
  rintro e w' ⟨rfl, rfl⟩
  go_wp2_with fail
  with_reducible refine (picked_any (wrap64 (a.tdiv 22)) 4 _ _ (wrapM_i64 _) (by omega) (by omega) HD.out).mono ?_
  rintro e w' ⟨rfl, rfl⟩
  go_wp2_with fail
  obtain ⟨s1, hs1, hc⟩ := number_grew b 1 HG0.out (by first | exact Below.refl _ _ | exact (Below.refl _ _).alloc (Nat.le_refl _) _) (by omega) HB.out.2.1
  refine hc.mono ?_
  clear hc
  rintro e w1 ⟨k1, vn1, vs1, ns1, ss1, rfl, hG, hp, hk⟩
  have HG1 := Lib.hid hG
  have HA1 := Lib.hid (Has.app (HA0.out.more hp) (Has.one hk))
  clear hG hp hk
  go_wp2_with fail
  obtain ⟨s2, hs2, hc⟩ := number_grew c 1 HG1.out (by first | exact Below.refl _ _ | exact (Below.refl _ _).alloc (Nat.le_refl _) _) (by omega) HB.out.2.2
  refine hc.mono ?_
  clear hc
  rintro e w2 ⟨k2, vn2, vs2, ns2, ss2, rfl, hG, hp, hk⟩
  have HG2 := Lib.hid hG
  have HA2 := Lib.hid (Has.app (HA1.out.more hp) (Has.one hk))
  clear hG hp hk
  go_wp2_with fail
  refine (put_grew HG2.out (by first | exact Below.refl _ _ | exact (Below.refl _ _).alloc (Nat.le_refl _) _) (by omega) (lit_kids (l := [k1, k2]) HG2.out (Nat.le_refl _) (Blk.new _ _ _) HA2.out.sorts.2.2 (by omega)) (Nat.le_refl _) (by unfold maxLen; simp) ((fun hl ha => mk_less hl ha hs1 hs2 (by omega)) HG2.out.len HA2.out) (by omega) (by omega) (by omega) (by first | exact nameC_size _ | exact Nat.zero_le _) (by omega)).mono ?_
  rintro e w9 ⟨k9, vn9, vs9, ns9, ss9, rfl, hG⟩
  have HG9 := Lib.hid hG
  clear hG
  go_wp2_with fail
  go_end0
  exact ⟨rfl, vn9, vs9, ns9, ss9, HG9.out.more (by omega)⟩
end Go.Proofs.Ythooecojopfjbaa
