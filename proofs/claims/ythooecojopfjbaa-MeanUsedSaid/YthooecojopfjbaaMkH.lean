/- Walks: the maker's method grow, kinds 4 14 15 16 17 18 19 20 21. -/
import Derived.Test.YthooecojopfjbaaMkF
import Derived.Deep.RegionWith
namespace Go.Proofs.Ythooecojopfjbaa
open Go.RowKit

set_option maxRecDepth 100000 in
set_option maxHeartbeats 4000000 in
theorem grow4_any (a b c : Int) (q : Nat) (vn vs : Value) (ns : List NodeD) (ss : List Int) (w : World) (hI : MkIn w q vn vs (fun b => (Value.slice none 0 0).ownBlock = some b) ns ss) (hM : Mk ns ss) (hn : ns.length ≤ 800) (ha : I64 a) (hb : I64 b) (hc : I64 c) (hk : a % 22 = 4) :
    Calls Try.prog 31 #[.pointer (some ⟨q, 0, none⟩), .int .i64 a, .int .i64 b, .int .i64 c, .int .i64 0] w (GrowP w q vn vs ns ss) := by
  have HG0 := Lib.hid (Grew.start hI hM)
  have HA0 := Lib.hid (Has.nil ss)
  have HB := Lib.hid (And.intro ha (And.intro hb hc))
  obtain ⟨d, hd⟩ : ∃ d, wrap64 (a.tdiv 22) % 4 = d := ⟨_, rfl⟩
  have hd4 : d = 0 ∨ d = 1 ∨ d = 2 ∨ d = 3 := by omega
  have HD := Lib.hid hd
  have HR := Lib.hid hk
  clear hI hM ha hb hc hk hd
  go_enter Try.func31, Try.ntmps31
  go_wp2_with fail
  with_reducible refine (picked_any a 22 _ _ HB.out.1 (by omega) (by omega) HR.out).mono ?_
  rintro e w' ⟨rfl, rfl⟩
  go_wp2_with fail
  with_reducible refine (picked_any (wrap64 (a.tdiv 22)) 4 _ _ (wrapM_i64 _) (by omega) (by omega) HD.out).mono ?_
  rintro e w' ⟨rfl, rfl⟩
  rcases hd4 with rfl | rfl | rfl | rfl
  · go_wp2_with fail
    refine (last_grew 1 b 0 HG0.out (by first | exact Below.refl _ _ | exact (Below.refl _ _).alloc (Nat.le_refl _) _) (by omega) HB.out.2.1 (by simp [SortK])).mono ?_
    rintro e w1 ⟨k1, vn1, vs1, ns1, ss1, rfl, hG, hp, hk⟩
    have HG1 := Lib.hid hG
    have HA1 := Lib.hid (Has.app (HA0.out.more hp) (Has.one hk))
    clear hG hp hk
    go_wp2_with fail
    refine (last_grew 1 (wrap64 (b.tdiv 7)) 1 HG1.out (by first | exact Below.refl _ _ | exact (Below.refl _ _).alloc (Nat.le_refl _) _) (by omega) (wrapM_i64 _) (by simp [SortK])).mono ?_
    rintro e w2 ⟨k2, vn2, vs2, ns2, ss2, rfl, hG, hp, hk⟩
    have HG2 := Lib.hid hG
    have HA2 := Lib.hid (Has.app (HA1.out.more hp) (Has.one hk))
    clear hG hp hk
    go_wp2_with fail
    refine (last_grew 1 c 1 HG2.out (by first | exact Below.refl _ _ | exact (Below.refl _ _).alloc (Nat.le_refl _) _) (by omega) HB.out.2.2 (by simp [SortK])).mono ?_
    rintro e w3 ⟨k3, vn3, vs3, ns3, ss3, rfl, hG, hp, hk⟩
    have HG3 := Lib.hid hG
    have HA3 := Lib.hid (Has.app (HA2.out.more hp) (Has.one hk))
    clear hG hp hk
    go_wp2_with fail
    refine (put_grew HG3.out (by first | exact Below.refl _ _ | exact (Below.refl _ _).alloc (Nat.le_refl _) _) (by omega) (lit_kids (l := [k1, k2, k3]) HG3.out (Nat.le_refl _) (Blk.new _ _ _) HA3.out.sorts.2.2 (by omega)) (Nat.le_refl _) (by unfold maxLen; simp) ((fun hl ha => mk_pick hl ha (by omega)) HG3.out.len HA3.out) (by omega) (by omega) (by omega) (by first | exact nameC_size _ | exact Nat.zero_le _) (by omega)).mono ?_
    rintro e w9 ⟨k9, vn9, vs9, ns9, ss9, rfl, hG⟩
    have HG9 := Lib.hid hG
    clear hG
    go_wp2_with fail
    go_end0
    exact ⟨rfl, vn9, vs9, ns9, ss9, HG9.out.more (by omega)⟩
  · go_wp2_with fail
    refine (last_grew 1 b 0 HG0.out (by first | exact Below.refl _ _ | exact (Below.refl _ _).alloc (Nat.le_refl _) _) (by omega) HB.out.2.1 (by simp [SortK])).mono ?_
    rintro e w1 ⟨k1, vn1, vs1, ns1, ss1, rfl, hG, hp, hk⟩
    have HG1 := Lib.hid hG
    have HA1 := Lib.hid (Has.app (HA0.out.more hp) (Has.one hk))
    clear hG hp hk
    go_wp2_with fail
    refine (last_grew 2 (wrap64 (b.tdiv 7)) 1 HG1.out (by first | exact Below.refl _ _ | exact (Below.refl _ _).alloc (Nat.le_refl _) _) (by omega) (wrapM_i64 _) (by simp [SortK])).mono ?_
    rintro e w2 ⟨k2, vn2, vs2, ns2, ss2, rfl, hG, hp, hk⟩
    have HG2 := Lib.hid hG
    have HA2 := Lib.hid (Has.app (HA1.out.more hp) (Has.one hk))
    clear hG hp hk
    go_wp2_with fail
    refine (last_grew 2 c 1 HG2.out (by first | exact Below.refl _ _ | exact (Below.refl _ _).alloc (Nat.le_refl _) _) (by omega) HB.out.2.2 (by simp [SortK])).mono ?_
    rintro e w3 ⟨k3, vn3, vs3, ns3, ss3, rfl, hG, hp, hk⟩
    have HG3 := Lib.hid hG
    have HA3 := Lib.hid (Has.app (HA2.out.more hp) (Has.one hk))
    clear hG hp hk
    go_wp2_with fail
    refine (put_grew HG3.out (by first | exact Below.refl _ _ | exact (Below.refl _ _).alloc (Nat.le_refl _) _) (by omega) (lit_kids (l := [k1, k2, k3]) HG3.out (Nat.le_refl _) (Blk.new _ _ _) HA3.out.sorts.2.2 (by omega)) (Nat.le_refl _) (by unfold maxLen; simp) ((fun hl ha => mk_pick hl ha (by omega)) HG3.out.len HA3.out) (by omega) (by omega) (by omega) (by first | exact nameC_size _ | exact Nat.zero_le _) (by omega)).mono ?_
    rintro e w9 ⟨k9, vn9, vs9, ns9, ss9, rfl, hG⟩
    have HG9 := Lib.hid hG
    clear hG
    go_wp2_with fail
    go_end0
    exact ⟨rfl, vn9, vs9, ns9, ss9, HG9.out.more (by omega)⟩
  · go_wp2_with fail
    refine (last_grew 1 b 0 HG0.out (by first | exact Below.refl _ _ | exact (Below.refl _ _).alloc (Nat.le_refl _) _) (by omega) HB.out.2.1 (by simp [SortK])).mono ?_
    rintro e w1 ⟨k1, vn1, vs1, ns1, ss1, rfl, hG, hp, hk⟩
    have HG1 := Lib.hid hG
    have HA1 := Lib.hid (Has.app (HA0.out.more hp) (Has.one hk))
    clear hG hp hk
    go_wp2_with fail
    refine (last_grew 4 (wrap64 (b.tdiv 7)) 1 HG1.out (by first | exact Below.refl _ _ | exact (Below.refl _ _).alloc (Nat.le_refl _) _) (by omega) (wrapM_i64 _) (by simp [SortK])).mono ?_
    rintro e w2 ⟨k2, vn2, vs2, ns2, ss2, rfl, hG, hp, hk⟩
    have HG2 := Lib.hid hG
    have HA2 := Lib.hid (Has.app (HA1.out.more hp) (Has.one hk))
    clear hG hp hk
    go_wp2_with fail
    refine (last_grew 4 c 1 HG2.out (by first | exact Below.refl _ _ | exact (Below.refl _ _).alloc (Nat.le_refl _) _) (by omega) HB.out.2.2 (by simp [SortK])).mono ?_
    rintro e w3 ⟨k3, vn3, vs3, ns3, ss3, rfl, hG, hp, hk⟩
    have HG3 := Lib.hid hG
    have HA3 := Lib.hid (Has.app (HA2.out.more hp) (Has.one hk))
    clear hG hp hk
    go_wp2_with fail
    refine (put_grew HG3.out (by first | exact Below.refl _ _ | exact (Below.refl _ _).alloc (Nat.le_refl _) _) (by omega) (lit_kids (l := [k1, k2, k3]) HG3.out (Nat.le_refl _) (Blk.new _ _ _) HA3.out.sorts.2.2 (by omega)) (Nat.le_refl _) (by unfold maxLen; simp) ((fun hl ha => mk_pick hl ha (by omega)) HG3.out.len HA3.out) (by omega) (by omega) (by omega) (by first | exact nameC_size _ | exact Nat.zero_le _) (by omega)).mono ?_
    rintro e w9 ⟨k9, vn9, vs9, ns9, ss9, rfl, hG⟩
    have HG9 := Lib.hid hG
    clear hG
    go_wp2_with fail
    go_end0
    exact ⟨rfl, vn9, vs9, ns9, ss9, HG9.out.more (by omega)⟩
  · go_wp2_with fail
    refine (last_grew 1 b 0 HG0.out (by first | exact Below.refl _ _ | exact (Below.refl _ _).alloc (Nat.le_refl _) _) (by omega) HB.out.2.1 (by simp [SortK])).mono ?_
    rintro e w1 ⟨k1, vn1, vs1, ns1, ss1, rfl, hG, hp, hk⟩
    have HG1 := Lib.hid hG
    have HA1 := Lib.hid (Has.app (HA0.out.more hp) (Has.one hk))
    clear hG hp hk
    go_wp2_with fail
    refine (last_grew 3 (wrap64 (b.tdiv 7)) 1 HG1.out (by first | exact Below.refl _ _ | exact (Below.refl _ _).alloc (Nat.le_refl _) _) (by omega) (wrapM_i64 _) (by simp [SortK])).mono ?_
    rintro e w2 ⟨k2, vn2, vs2, ns2, ss2, rfl, hG, hp, hk⟩
    have HG2 := Lib.hid hG
    have HA2 := Lib.hid (Has.app (HA1.out.more hp) (Has.one hk))
    clear hG hp hk
    go_wp2_with fail
    refine (last_grew 3 c 1 HG2.out (by first | exact Below.refl _ _ | exact (Below.refl _ _).alloc (Nat.le_refl _) _) (by omega) HB.out.2.2 (by simp [SortK])).mono ?_
    rintro e w3 ⟨k3, vn3, vs3, ns3, ss3, rfl, hG, hp, hk⟩
    have HG3 := Lib.hid hG
    have HA3 := Lib.hid (Has.app (HA2.out.more hp) (Has.one hk))
    clear hG hp hk
    go_wp2_with fail
    refine (put_grew HG3.out (by first | exact Below.refl _ _ | exact (Below.refl _ _).alloc (Nat.le_refl _) _) (by omega) (lit_kids (l := [k1, k2, k3]) HG3.out (Nat.le_refl _) (Blk.new _ _ _) HA3.out.sorts.2.2 (by omega)) (Nat.le_refl _) (by unfold maxLen; simp) ((fun hl ha => mk_pick hl ha (by omega)) HG3.out.len HA3.out) (by omega) (by omega) (by omega) (by first | exact nameC_size _ | exact Nat.zero_le _) (by omega)).mono ?_
    rintro e w9 ⟨k9, vn9, vs9, ns9, ss9, rfl, hG⟩
    have HG9 := Lib.hid hG
    clear hG
    go_wp2_with fail
    go_end0
    exact ⟨rfl, vn9, vs9, ns9, ss9, HG9.out.more (by omega)⟩

set_option maxRecDepth 100000 in
set_option maxHeartbeats 4000000 in
theorem grow14_any (a b c : Int) (q : Nat) (vn vs : Value) (ns : List NodeD) (ss : List Int) (w : World) (hI : MkIn w q vn vs (fun b => (Value.slice none 0 0).ownBlock = some b) ns ss) (hM : Mk ns ss) (hn : ns.length ≤ 800) (ha : I64 a) (hb : I64 b) (hc : I64 c) (hk : a % 22 = 14) :
    Calls Try.prog 31 #[.pointer (some ⟨q, 0, none⟩), .int .i64 a, .int .i64 b, .int .i64 c, .int .i64 0] w (GrowP w q vn vs ns ss) := by
  have HG0 := Lib.hid (Grew.start hI hM)
  have HA0 := Lib.hid (Has.nil ss)
  have HB := Lib.hid (And.intro ha (And.intro hb hc))
  obtain ⟨d, hd⟩ : ∃ d, wrap64 (a.tdiv 22) % 4 = d := ⟨_, rfl⟩
  have hd4 : d = 0 ∨ d = 1 ∨ d = 2 ∨ d = 3 := by omega
  have HD := Lib.hid hd
  have HR := Lib.hid hk
  clear hI hM ha hb hc hk hd
  go_enter Try.func31, Try.ntmps31
  go_wp2_with fail
  with_reducible refine (picked_any a 22 _ _ HB.out.1 (by omega) (by omega) HR.out).mono ?_
  rintro e w' ⟨rfl, rfl⟩
  go_wp2_with fail
  with_reducible refine (picked_any (wrap64 (a.tdiv 22)) 4 _ _ (wrapM_i64 _) (by omega) (by omega) HD.out).mono ?_
  rintro e w' ⟨rfl, rfl⟩
  go_wp2_with fail
  refine (last_grew 13 b 1 HG0.out (by first | exact Below.refl _ _ | exact (Below.refl _ _).alloc (Nat.le_refl _) _) (by omega) HB.out.2.1 (by simp [SortK])).mono ?_
  rintro e w1 ⟨k1, vn1, vs1, ns1, ss1, rfl, hG, hp, hk⟩
  have HG1 := Lib.hid hG
  have HA1 := Lib.hid (Has.app (HA0.out.more hp) (Has.one hk))
  clear hG hp hk
  rcases hd4 with rfl | rfl | rfl | rfl
  all_goals
    go_wp2_with fail
    refine (put_grew HG1.out (by first | exact Below.refl _ _ | exact (Below.refl _ _).alloc (Nat.le_refl _) _) (by omega) (lit_kids (l := [k1]) HG1.out (Nat.le_refl _) (Blk.new _ _ _) HA1.out.sorts.2.2 (by omega)) (Nat.le_refl _) (by unfold maxLen; simp) ((fun hl ha => mk_wleft hl ha (by omega)) HG1.out.len HA1.out) (by omega) (by omega) (by omega) (by first | exact nameC_size _ | exact Nat.zero_le _) (by omega)).mono ?_
    rintro e w9 ⟨k9, vn9, vs9, ns9, ss9, rfl, hG⟩
    have HG9 := Lib.hid hG
    clear hG
    go_wp2_with fail
    go_end0
    exact ⟨rfl, vn9, vs9, ns9, ss9, HG9.out.more (by omega)⟩

set_option maxRecDepth 100000 in
set_option maxHeartbeats 4000000 in
theorem grow15_any (a b c : Int) (q : Nat) (vn vs : Value) (ns : List NodeD) (ss : List Int) (w : World) (hI : MkIn w q vn vs (fun b => (Value.slice none 0 0).ownBlock = some b) ns ss) (hM : Mk ns ss) (hn : ns.length ≤ 800) (ha : I64 a) (hb : I64 b) (hc : I64 c) (hk : a % 22 = 15) :
    Calls Try.prog 31 #[.pointer (some ⟨q, 0, none⟩), .int .i64 a, .int .i64 b, .int .i64 c, .int .i64 0] w (GrowP w q vn vs ns ss) := by
  have HG0 := Lib.hid (Grew.start hI hM)
  have HA0 := Lib.hid (Has.nil ss)
  have HB := Lib.hid (And.intro ha (And.intro hb hc))
  obtain ⟨d, hd⟩ : ∃ d, wrap64 (a.tdiv 22) % 4 = d := ⟨_, rfl⟩
  have hd4 : d = 0 ∨ d = 1 ∨ d = 2 ∨ d = 3 := by omega
  have HD := Lib.hid hd
  have HR := Lib.hid hk
  clear hI hM ha hb hc hk hd
  go_enter Try.func31, Try.ntmps31
  go_wp2_with fail
  with_reducible refine (picked_any a 22 _ _ HB.out.1 (by omega) (by omega) HR.out).mono ?_
  rintro e w' ⟨rfl, rfl⟩
  go_wp2_with fail
  with_reducible refine (picked_any (wrap64 (a.tdiv 22)) 4 _ _ (wrapM_i64 _) (by omega) (by omega) HD.out).mono ?_
  rintro e w' ⟨rfl, rfl⟩
  go_wp2_with fail
  refine (last_grew 13 b 1 HG0.out (by first | exact Below.refl _ _ | exact (Below.refl _ _).alloc (Nat.le_refl _) _) (by omega) HB.out.2.1 (by simp [SortK])).mono ?_
  rintro e w1 ⟨k1, vn1, vs1, ns1, ss1, rfl, hG, hp, hk⟩
  have HG1 := Lib.hid hG
  have HA1 := Lib.hid (Has.app (HA0.out.more hp) (Has.one hk))
  clear hG hp hk
  go_wp2_with fail
  refine (put_grew HG1.out (by first | exact Below.refl _ _ | exact (Below.refl _ _).alloc (Nat.le_refl _) _) (by omega) (lit_kids (l := [k1]) HG1.out (Nat.le_refl _) (Blk.new _ _ _) HA1.out.sorts.2.2 (by omega)) (Nat.le_refl _) (by unfold maxLen; simp) (mk_wnot HG1.out.len HA1.out) (by omega) (by omega) (by omega) (by first | exact nameC_size _ | exact Nat.zero_le _) (by omega)).mono ?_
  rintro e w9 ⟨k9, vn9, vs9, ns9, ss9, rfl, hG⟩
  have HG9 := Lib.hid hG
  clear hG
  go_wp2_with fail
  go_end0
  exact ⟨rfl, vn9, vs9, ns9, ss9, HG9.out.more (by omega)⟩

set_option maxRecDepth 100000 in
set_option maxHeartbeats 4000000 in
theorem grow16_any (a b c : Int) (q : Nat) (vn vs : Value) (ns : List NodeD) (ss : List Int) (w : World) (hI : MkIn w q vn vs (fun b => (Value.slice none 0 0).ownBlock = some b) ns ss) (hM : Mk ns ss) (hn : ns.length ≤ 800) (ha : I64 a) (hb : I64 b) (hc : I64 c) (hk : a % 22 = 16) :
    Calls Try.prog 31 #[.pointer (some ⟨q, 0, none⟩), .int .i64 a, .int .i64 b, .int .i64 c, .int .i64 0] w (GrowP w q vn vs ns ss) := by
  have HG0 := Lib.hid (Grew.start hI hM)
  have HA0 := Lib.hid (Has.nil ss)
  have HB := Lib.hid (And.intro ha (And.intro hb hc))
  obtain ⟨d, hd⟩ : ∃ d, wrap64 (a.tdiv 22) % 4 = d := ⟨_, rfl⟩
  have hd4 : d = 0 ∨ d = 1 ∨ d = 2 ∨ d = 3 := by omega
  have HD := Lib.hid hd
  have HR := Lib.hid hk
  clear hI hM ha hb hc hk hd
  go_enter Try.func31, Try.ntmps31
  go_wp2_with fail
  with_reducible refine (picked_any a 22 _ _ HB.out.1 (by omega) (by omega) HR.out).mono ?_
  rintro e w' ⟨rfl, rfl⟩
  go_wp2_with fail
  with_reducible refine (picked_any (wrap64 (a.tdiv 22)) 4 _ _ (wrapM_i64 _) (by omega) (by omega) HD.out).mono ?_
  rintro e w' ⟨rfl, rfl⟩
  obtain ⟨r5, hr5⟩ : ∃ r5, wrap64 (a.tdiv 22) % 5 = r5 := ⟨_, rfl⟩
  have h50 : 0 ≤ r5 := by omega
  have h51 : r5 < 5 := by omega
  have HR5 := Lib.hid hr5
  clear hr5
  go_wp2_with fail
  refine (last_grew 13 b 1 HG0.out (by first | exact Below.refl _ _ | exact (Below.refl _ _).alloc (Nat.le_refl _) _) (by omega) HB.out.2.1 (by simp [SortK])).mono ?_
  rintro e w1 ⟨k1, vn1, vs1, ns1, ss1, rfl, hG, hp, hk⟩
  have HG1 := Lib.hid hG
  have HA1 := Lib.hid (Has.app (HA0.out.more hp) (Has.one hk))
  clear hG hp hk
  go_wp2_with fail
  with_reducible refine (picked_any (wrap64 (a.tdiv 22)) 5 _ _ (wrapM_i64 _) (by omega) (by omega) HR5.out).mono ?_
  rintro e w8 ⟨rfl, rfl⟩
  have hr5 : r5 = 0 ∨ r5 = 1 ∨ r5 = 2 ∨ r5 = 3 ∨ r5 = 4 := by omega
  rcases hr5 with rfl | rfl | rfl | rfl | rfl
  all_goals
    go_wp2_with fail
    refine (last_grew 13 c 1 HG1.out (by first | exact Below.refl _ _ | exact (Below.refl _ _).alloc (Nat.le_refl _) _) (by omega) HB.out.2.2 (by simp [SortK])).mono ?_
    rintro e w2 ⟨k2, vn2, vs2, ns2, ss2, rfl, hG, hp, hk⟩
    have HG2 := Lib.hid hG
    have HA2 := Lib.hid (Has.app (HA1.out.more hp) (Has.one hk))
    clear hG hp hk
    go_wp2_with fail
    refine (put_grew HG2.out (by first | exact Below.refl _ _ | exact (Below.refl _ _).alloc (Nat.le_refl _) _) (by omega) (lit_kids (l := [k1, k2]) HG2.out (Nat.le_refl _) (Blk.new _ _ _) HA2.out.sorts.2.2 (by omega)) (Nat.le_refl _) (by unfold maxLen; simp) ((fun hl ha => mk_word2 hl ha (by omega)) HG2.out.len HA2.out) (by omega) (by omega) (by omega) (by first | exact nameC_size _ | exact Nat.zero_le _) (by omega)).mono ?_
    rintro e w9 ⟨k9, vn9, vs9, ns9, ss9, rfl, hG⟩
    have HG9 := Lib.hid hG
    clear hG
    go_wp2_with fail
    go_end0
    exact ⟨rfl, vn9, vs9, ns9, ss9, HG9.out.more (by omega)⟩

set_option maxRecDepth 100000 in
set_option maxHeartbeats 4000000 in
theorem grow17_any (a b c : Int) (q : Nat) (vn vs : Value) (ns : List NodeD) (ss : List Int) (w : World) (hI : MkIn w q vn vs (fun b => (Value.slice none 0 0).ownBlock = some b) ns ss) (hM : Mk ns ss) (hn : ns.length ≤ 800) (ha : I64 a) (hb : I64 b) (hc : I64 c) (hk : a % 22 = 17) :
    Calls Try.prog 31 #[.pointer (some ⟨q, 0, none⟩), .int .i64 a, .int .i64 b, .int .i64 c, .int .i64 0] w (GrowP w q vn vs ns ss) := by
  have HG0 := Lib.hid (Grew.start hI hM)
  have HA0 := Lib.hid (Has.nil ss)
  have HB := Lib.hid (And.intro ha (And.intro hb hc))
  obtain ⟨d, hd⟩ : ∃ d, wrap64 (a.tdiv 22) % 4 = d := ⟨_, rfl⟩
  have hd4 : d = 0 ∨ d = 1 ∨ d = 2 ∨ d = 3 := by omega
  have HD := Lib.hid hd
  have HR := Lib.hid hk
  clear hI hM ha hb hc hk hd
  go_enter Try.func31, Try.ntmps31
  go_wp2_with fail
  with_reducible refine (picked_any a 22 _ _ HB.out.1 (by omega) (by omega) HR.out).mono ?_
  rintro e w' ⟨rfl, rfl⟩
  go_wp2_with fail
  with_reducible refine (picked_any (wrap64 (a.tdiv 22)) 4 _ _ (wrapM_i64 _) (by omega) (by omega) HD.out).mono ?_
  rintro e w' ⟨rfl, rfl⟩
  obtain ⟨r5, hr5⟩ : ∃ r5, wrap64 (a.tdiv 22) % 5 = r5 := ⟨_, rfl⟩
  have h50 : 0 ≤ r5 := by omega
  have h51 : r5 < 5 := by omega
  have HR5 := Lib.hid hr5
  clear hr5
  go_wp2_with fail
  refine (last_grew 13 b 1 HG0.out (by first | exact Below.refl _ _ | exact (Below.refl _ _).alloc (Nat.le_refl _) _) (by omega) HB.out.2.1 (by simp [SortK])).mono ?_
  rintro e w1 ⟨k1, vn1, vs1, ns1, ss1, rfl, hG, hp, hk⟩
  have HG1 := Lib.hid hG
  have HA1 := Lib.hid (Has.app (HA0.out.more hp) (Has.one hk))
  clear hG hp hk
  go_wp2_with fail
  with_reducible refine (picked_any (wrap64 (a.tdiv 22)) 5 _ _ (wrapM_i64 _) (by omega) (by omega) HR5.out).mono ?_
  rintro e w8 ⟨rfl, rfl⟩
  have hr5 : r5 = 0 ∨ r5 = 1 ∨ r5 = 2 ∨ r5 = 3 ∨ r5 = 4 := by omega
  rcases hr5 with rfl | rfl | rfl | rfl | rfl
  all_goals
    go_wp2_with fail
    refine (last_grew 13 c 1 HG1.out (by first | exact Below.refl _ _ | exact (Below.refl _ _).alloc (Nat.le_refl _) _) (by omega) HB.out.2.2 (by simp [SortK])).mono ?_
    rintro e w2 ⟨k2, vn2, vs2, ns2, ss2, rfl, hG, hp, hk⟩
    have HG2 := Lib.hid hG
    have HA2 := Lib.hid (Has.app (HA1.out.more hp) (Has.one hk))
    clear hG hp hk
    go_wp2_with fail
    refine (put_grew HG2.out (by first | exact Below.refl _ _ | exact (Below.refl _ _).alloc (Nat.le_refl _) _) (by omega) (lit_kids (l := [k1, k2]) HG2.out (Nat.le_refl _) (Blk.new _ _ _) HA2.out.sorts.2.2 (by omega)) (Nat.le_refl _) (by unfold maxLen; simp) ((fun hl ha => mk_word2 hl ha (by omega)) HG2.out.len HA2.out) (by omega) (by omega) (by omega) (by first | exact nameC_size _ | exact Nat.zero_le _) (by omega)).mono ?_
    rintro e w9 ⟨k9, vn9, vs9, ns9, ss9, rfl, hG⟩
    have HG9 := Lib.hid hG
    clear hG
    go_wp2_with fail
    go_end0
    exact ⟨rfl, vn9, vs9, ns9, ss9, HG9.out.more (by omega)⟩

set_option maxRecDepth 100000 in
set_option maxHeartbeats 4000000 in
theorem grow18_any (a b c : Int) (q : Nat) (vn vs : Value) (ns : List NodeD) (ss : List Int) (w : World) (hI : MkIn w q vn vs (fun b => (Value.slice none 0 0).ownBlock = some b) ns ss) (hM : Mk ns ss) (hn : ns.length ≤ 800) (ha : I64 a) (hb : I64 b) (hc : I64 c) (hk : a % 22 = 18) :
    Calls Try.prog 31 #[.pointer (some ⟨q, 0, none⟩), .int .i64 a, .int .i64 b, .int .i64 c, .int .i64 0] w (GrowP w q vn vs ns ss) := by
  have HG0 := Lib.hid (Grew.start hI hM)
  have HA0 := Lib.hid (Has.nil ss)
  have HB := Lib.hid (And.intro ha (And.intro hb hc))
  obtain ⟨d, hd⟩ : ∃ d, wrap64 (a.tdiv 22) % 4 = d := ⟨_, rfl⟩
  have hd4 : d = 0 ∨ d = 1 ∨ d = 2 ∨ d = 3 := by omega
  have HD := Lib.hid hd
  have HR := Lib.hid hk
  clear hI hM ha hb hc hk hd
  go_enter Try.func31, Try.ntmps31
  go_wp2_with fail
  with_reducible refine (picked_any a 22 _ _ HB.out.1 (by omega) (by omega) HR.out).mono ?_
  rintro e w' ⟨rfl, rfl⟩
  go_wp2_with fail
  with_reducible refine (picked_any (wrap64 (a.tdiv 22)) 4 _ _ (wrapM_i64 _) (by omega) (by omega) HD.out).mono ?_
  rintro e w' ⟨rfl, rfl⟩
  go_wp2_with fail
  refine (last_grew 13 b 1 HG0.out (by first | exact Below.refl _ _ | exact (Below.refl _ _).alloc (Nat.le_refl _) _) (by omega) HB.out.2.1 (by simp [SortK])).mono ?_
  rintro e w1 ⟨k1, vn1, vs1, ns1, ss1, rfl, hG, hp, hk⟩
  have HG1 := Lib.hid hG
  have HA1 := Lib.hid (Has.app (HA0.out.more hp) (Has.one hk))
  clear hG hp hk
  go_wp2_with fail
  refine (last_grew 13 c 1 HG1.out (by first | exact Below.refl _ _ | exact (Below.refl _ _).alloc (Nat.le_refl _) _) (by omega) HB.out.2.2 (by simp [SortK])).mono ?_
  rintro e w2 ⟨k2, vn2, vs2, ns2, ss2, rfl, hG, hp, hk⟩
  have HG2 := Lib.hid hG
  have HA2 := Lib.hid (Has.app (HA1.out.more hp) (Has.one hk))
  clear hG hp hk
  go_wp2_with fail
  refine (put_grew HG2.out (by first | exact Below.refl _ _ | exact (Below.refl _ _).alloc (Nat.le_refl _) _) (by omega) (lit_kids (l := [k1, k2]) HG2.out (Nat.le_refl _) (Blk.new _ _ _) HA2.out.sorts.2.2 (by omega)) (Nat.le_refl _) (by unfold maxLen; simp) (mk_wless HG2.out.len HA2.out) (by omega) (by omega) (by omega) (by first | exact nameC_size _ | exact Nat.zero_le _) (by omega)).mono ?_
  rintro e w9 ⟨k9, vn9, vs9, ns9, ss9, rfl, hG⟩
  have HG9 := Lib.hid hG
  clear hG
  go_wp2_with fail
  go_end0
  exact ⟨rfl, vn9, vs9, ns9, ss9, HG9.out.more (by omega)⟩

set_option maxRecDepth 100000 in
set_option maxHeartbeats 4000000 in
theorem grow19_any (a b c : Int) (q : Nat) (vn vs : Value) (ns : List NodeD) (ss : List Int) (w : World) (hI : MkIn w q vn vs (fun b => (Value.slice none 0 0).ownBlock = some b) ns ss) (hM : Mk ns ss) (hn : ns.length ≤ 800) (ha : I64 a) (hb : I64 b) (hc : I64 c) (hk : a % 22 = 19) :
    Calls Try.prog 31 #[.pointer (some ⟨q, 0, none⟩), .int .i64 a, .int .i64 b, .int .i64 c, .int .i64 0] w (GrowP w q vn vs ns ss) := by
  have HG0 := Lib.hid (Grew.start hI hM)
  have HA0 := Lib.hid (Has.nil ss)
  have HB := Lib.hid (And.intro ha (And.intro hb hc))
  obtain ⟨d, hd⟩ : ∃ d, wrap64 (a.tdiv 22) % 4 = d := ⟨_, rfl⟩
  have hd4 : d = 0 ∨ d = 1 ∨ d = 2 ∨ d = 3 := by omega
  have HD := Lib.hid hd
  have HR := Lib.hid hk
  clear hI hM ha hb hc hk hd
  go_enter Try.func31, Try.ntmps31
  go_wp2_with fail
  with_reducible refine (picked_any a 22 _ _ HB.out.1 (by omega) (by omega) HR.out).mono ?_
  rintro e w' ⟨rfl, rfl⟩
  go_wp2_with fail
  with_reducible refine (picked_any (wrap64 (a.tdiv 22)) 4 _ _ (wrapM_i64 _) (by omega) (by omega) HD.out).mono ?_
  rintro e w' ⟨rfl, rfl⟩
  go_wp2_with fail
  refine (last_grew 13 b 1 HG0.out (by first | exact Below.refl _ _ | exact (Below.refl _ _).alloc (Nat.le_refl _) _) (by omega) HB.out.2.1 (by simp [SortK])).mono ?_
  rintro e w1 ⟨k1, vn1, vs1, ns1, ss1, rfl, hG, hp, hk⟩
  have HG1 := Lib.hid hG
  have HA1 := Lib.hid (Has.app (HA0.out.more hp) (Has.one hk))
  clear hG hp hk
  go_wp2_with fail
  refine (last_grew 13 c 1 HG1.out (by first | exact Below.refl _ _ | exact (Below.refl _ _).alloc (Nat.le_refl _) _) (by omega) HB.out.2.2 (by simp [SortK])).mono ?_
  rintro e w2 ⟨k2, vn2, vs2, ns2, ss2, rfl, hG, hp, hk⟩
  have HG2 := Lib.hid hG
  have HA2 := Lib.hid (Has.app (HA1.out.more hp) (Has.one hk))
  clear hG hp hk
  go_wp2_with fail
  refine (put_grew HG2.out (by first | exact Below.refl _ _ | exact (Below.refl _ _).alloc (Nat.le_refl _) _) (by omega) (lit_kids (l := [k1, k2]) HG2.out (Nat.le_refl _) (Blk.new _ _ _) HA2.out.sorts.2.2 (by omega)) (Nat.le_refl _) (by unfold maxLen; simp) (mk_same13 HG2.out.len HA2.out) (by omega) (by omega) (by omega) (by first | exact nameC_size _ | exact Nat.zero_le _) (by omega)).mono ?_
  rintro e w9 ⟨k9, vn9, vs9, ns9, ss9, rfl, hG⟩
  have HG9 := Lib.hid hG
  clear hG
  go_wp2_with fail
  go_end0
  exact ⟨rfl, vn9, vs9, ns9, ss9, HG9.out.more (by omega)⟩

set_option maxRecDepth 100000 in
set_option maxHeartbeats 4000000 in
theorem grow20_any (a b c : Int) (q : Nat) (vn vs : Value) (ns : List NodeD) (ss : List Int) (w : World) (hI : MkIn w q vn vs (fun b => (Value.slice none 0 0).ownBlock = some b) ns ss) (hM : Mk ns ss) (hn : ns.length ≤ 800) (ha : I64 a) (hb : I64 b) (hc : I64 c) (hk : a % 22 = 20) :
    Calls Try.prog 31 #[.pointer (some ⟨q, 0, none⟩), .int .i64 a, .int .i64 b, .int .i64 c, .int .i64 0] w (GrowP w q vn vs ns ss) := by
  have HG0 := Lib.hid (Grew.start hI hM)
  have HA0 := Lib.hid (Has.nil ss)
  have HB := Lib.hid (And.intro ha (And.intro hb hc))
  obtain ⟨d, hd⟩ : ∃ d, wrap64 (a.tdiv 22) % 4 = d := ⟨_, rfl⟩
  have hd4 : d = 0 ∨ d = 1 ∨ d = 2 ∨ d = 3 := by omega
  have HD := Lib.hid hd
  have HR := Lib.hid hk
  clear hI hM ha hb hc hk hd
  go_enter Try.func31, Try.ntmps31
  go_wp2_with fail
  with_reducible refine (picked_any a 22 _ _ HB.out.1 (by omega) (by omega) HR.out).mono ?_
  rintro e w' ⟨rfl, rfl⟩
  go_wp2_with fail
  with_reducible refine (picked_any (wrap64 (a.tdiv 22)) 4 _ _ (wrapM_i64 _) (by omega) (by omega) HD.out).mono ?_
  rintro e w' ⟨rfl, rfl⟩
  go_wp2_with fail
  refine (last_grew 5 b 0 HG0.out (by first | exact Below.refl _ _ | exact (Below.refl _ _).alloc (Nat.le_refl _) _) (by omega) HB.out.2.1 (by simp [SortK])).mono ?_
  rintro e w1 ⟨k1, vn1, vs1, ns1, ss1, rfl, hG, hp, hk⟩
  have HG1 := Lib.hid hG
  have HA1 := Lib.hid (Has.app (HA0.out.more hp) (Has.one hk))
  clear hG hp hk
  go_wp2_with fail
  refine (last_grew 4 c 1 HG1.out (by first | exact Below.refl _ _ | exact (Below.refl _ _).alloc (Nat.le_refl _) _) (by omega) HB.out.2.2 (by simp [SortK])).mono ?_
  rintro e w2 ⟨k2, vn2, vs2, ns2, ss2, rfl, hG, hp, hk⟩
  have HG2 := Lib.hid hG
  have HA2 := Lib.hid (Has.app (HA1.out.more hp) (Has.one hk))
  clear hG hp hk
  go_wp2_with fail
  refine (put_grew HG2.out (by first | exact Below.refl _ _ | exact (Below.refl _ _).alloc (Nat.le_refl _) _) (by omega) (lit_kids (l := [k1, k2]) HG2.out (Nat.le_refl _) (Blk.new _ _ _) HA2.out.sorts.2.2 (by omega)) (Nat.le_refl _) (by unfold maxLen; simp) (mk_get HG2.out.len HA2.out) (by omega) (by omega) (by omega) (by first | exact nameC_size _ | exact Nat.zero_le _) (by omega)).mono ?_
  rintro e w9 ⟨k9, vn9, vs9, ns9, ss9, rfl, hG⟩
  have HG9 := Lib.hid hG
  clear hG
  go_wp2_with fail
  go_end0
  exact ⟨rfl, vn9, vs9, ns9, ss9, HG9.out.more (by omega)⟩

set_option maxRecDepth 100000 in
set_option maxHeartbeats 4000000 in
theorem grow21_any (a b c : Int) (q : Nat) (vn vs : Value) (ns : List NodeD) (ss : List Int) (w : World) (hI : MkIn w q vn vs (fun b => (Value.slice none 0 0).ownBlock = some b) ns ss) (hM : Mk ns ss) (hn : ns.length ≤ 800) (ha : I64 a) (hb : I64 b) (hc : I64 c) (hk : a % 22 = 21) :
    Calls Try.prog 31 #[.pointer (some ⟨q, 0, none⟩), .int .i64 a, .int .i64 b, .int .i64 c, .int .i64 0] w (GrowP w q vn vs ns ss) := by
  have HG0 := Lib.hid (Grew.start hI hM)
  have HA0 := Lib.hid (Has.nil ss)
  have HB := Lib.hid (And.intro ha (And.intro hb hc))
  obtain ⟨d, hd⟩ : ∃ d, wrap64 (a.tdiv 22) % 4 = d := ⟨_, rfl⟩
  have hd4 : d = 0 ∨ d = 1 ∨ d = 2 ∨ d = 3 := by omega
  have HD := Lib.hid hd
  have HR := Lib.hid hk
  clear hI hM ha hb hc hk hd
  go_enter Try.func31, Try.ntmps31
  go_wp2_with fail
  with_reducible refine (picked_any a 22 _ _ HB.out.1 (by omega) (by omega) HR.out).mono ?_
  rintro e w' ⟨rfl, rfl⟩
  go_wp2_with fail
  with_reducible refine (picked_any (wrap64 (a.tdiv 22)) 4 _ _ (wrapM_i64 _) (by omega) (by omega) HD.out).mono ?_
  rintro e w' ⟨rfl, rfl⟩
  go_wp2_with fail
  refine (last_grew 5 b 0 HG0.out (by first | exact Below.refl _ _ | exact (Below.refl _ _).alloc (Nat.le_refl _) _) (by omega) HB.out.2.1 (by simp [SortK])).mono ?_
  rintro e w1 ⟨k1, vn1, vs1, ns1, ss1, rfl, hG, hp, hk⟩
  have HG1 := Lib.hid hG
  have HA1 := Lib.hid (Has.app (HA0.out.more hp) (Has.one hk))
  clear hG hp hk
  go_wp2_with fail
  refine (last_grew 4 c 1 HG1.out (by first | exact Below.refl _ _ | exact (Below.refl _ _).alloc (Nat.le_refl _) _) (by omega) HB.out.2.2 (by simp [SortK])).mono ?_
  rintro e w2 ⟨k2, vn2, vs2, ns2, ss2, rfl, hG, hp, hk⟩
  have HG2 := Lib.hid hG
  have HA2 := Lib.hid (Has.app (HA1.out.more hp) (Has.one hk))
  clear hG hp hk
  go_wp2_with fail
  refine (last_grew 4 (wrap64 (c.tdiv 5)) 1 HG2.out (by first | exact Below.refl _ _ | exact (Below.refl _ _).alloc (Nat.le_refl _) _) (by omega) (wrapM_i64 _) (by simp [SortK])).mono ?_
  rintro e w3 ⟨k3, vn3, vs3, ns3, ss3, rfl, hG, hp, hk⟩
  have HG3 := Lib.hid hG
  have HA3 := Lib.hid (Has.app (HA2.out.more hp) (Has.one hk))
  clear hG hp hk
  go_wp2_with fail
  refine (put_grew HG3.out (by first | exact Below.refl _ _ | exact (Below.refl _ _).alloc (Nat.le_refl _) _) (by omega) (lit_kids (l := [k1, k2, k3]) HG3.out (Nat.le_refl _) (Blk.new _ _ _) HA3.out.sorts.2.2 (by omega)) (Nat.le_refl _) (by unfold maxLen; simp) (mk_put HG3.out.len HA3.out) (by omega) (by omega) (by omega) (by first | exact nameC_size _ | exact Nat.zero_le _) (by omega)).mono ?_
  rintro e w9 ⟨k9, vn9, vs9, ns9, ss9, rfl, hG⟩
  have HG9 := Lib.hid hG
  clear hG
  go_wp2_with fail
  go_end0
  exact ⟨rfl, vn9, vs9, ns9, ss9, HG9.out.more (by omega)⟩
end Go.Proofs.Ythooecojopfjbaa
