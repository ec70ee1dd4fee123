/- Walks: math/bits.Len32, LeadingZeros32. · Walks: package long's cmp. · Walks: package long's Bits, limited, Of, Cmp. -/
import Derived.Test.YtfkciiiopbanaaaLgAV
import Derived.Test.YtfkciiiopbanaaaProg
import Derived.Test.YtfkciiiopbanaaaLgIb
import Derived.Deep.QuietTactic
import Derived.BigQuiet
namespace Go.Proofs.Ytfkciiiopbanaaa
open Go.RowKit
theorem len8_at (i : Int) (h0 : 0 ≤ i) (h1 : i < 256) (W : World) : (Instr.index 9 (.string Lib.len8tab) (.int .u8 i)).run Try.prog W = .ok (.int .u8 (Lib.bitLen i.toNat : Int)) W := by
  rw [Lib.run_index_len8tab W 9 .u8 i Try.underlying9 h0 (by omega), Lib.len8_of i h0 (by omega)]
set_option maxRecDepth 100000 in
set_option maxHeartbeats 4000000 in
theorem len32_any (x : Int) (w : World) (h0 : 0 ≤ x) (h1 : x < 4294967296) :
    Calls Try.prog 81 #[.int .u32 x] w fun e w' => e = .returned (.int .i64 (Lib.bitLen x.toNat)) ∧ w = w' := by
  by_cases h2 : x < 65536
  · by_cases h3 : x < 256
    · have hi := len8_at x h0 h3
      have hl := Lib.bitLen_le8' x h0 (by omega)
      go_enter Try.func81, Try.ntmps81
      go_wp2
      go_ret
      exact ⟨rfl, rfl⟩
    · have hi := len8_at (x / 256) (by omega) (by omega)
      have hl := Lib.bitLen_le8' (x / 256) (by omega) (by omega)
      have hs := Lib.bitLen_shift8 x.toNat (by omega) (by omega)
      rw [show (x / 256).toNat = x.toNat / 256 by omega] at hi hl
      go_enter Try.func81, Try.ntmps81
      go_wp2
      go_ret
      exact ⟨rfl, rfl⟩
  · by_cases h3 : x / 65536 < 256
    · have hi := len8_at (x / 65536) (by omega) (by omega)
      have hl := Lib.bitLen_le8' (x / 65536) (by omega) (by omega)
      have hs := Lib.bitLen_shift16 x.toNat (by omega) (by omega)
      rw [show (x / 65536).toNat = x.toNat / 65536 by omega] at hi hl
      go_enter Try.func81, Try.ntmps81
      go_wp2
      go_ret
      exact ⟨rfl, rfl⟩
    · have hi := len8_at (x / 65536 / 256) (by omega) (by omega)
      have hl := Lib.bitLen_le8' (x / 65536 / 256) (by omega) (by omega)
      have hs := Lib.bitLen_shift24 x.toNat (by omega) (by omega)
      rw [show (x / 65536 / 256).toNat = x.toNat / 16777216 by omega] at hi hl
      go_enter Try.func81, Try.ntmps81
      go_wp2
      go_ret
      exact ⟨rfl, rfl⟩
set_option maxHeartbeats 400000 in
theorem lead32_any (x : Int) (w : World) (h0 : 0 < x) (h1 : x < 4294967296) :
    Calls Try.prog 83 #[.int .u32 x] w fun e w' => e = .returned (.int .i64 (32 - (Lib.bitLen x.toNat : Int))) ∧ w = w' := by
  have hl := bitLen_le32 (x := x.toNat) (by omega) (by omega)
  go_enter Try.func83, Try.ntmps83
  go_wp2_with fail
  refine (len32_any x w (by omega) h1).mono ?_
  rintro e w1 ⟨rfl, rfl⟩
  go_wp2_with fail
  go_ret
  exact ⟨rfl, rfl⟩
end Go.Proofs.Ytfkciiiopbanaaa
namespace Go.Proofs.Ytfkciiiopbanaaa
open Go.RowKit

set_option maxHeartbeats 1000000 in
theorem cmp_any (A : Option Addr) (n c : Nat) (l : List Nat) (A2 : Option Addr) (n2 c2 : Nat) (m : List Nat) (w : World) (B : Nat) (h : DigsB w B A n l) (h2 : DigsB w B A2 n2 m) (hn : n ≤ 1000000) (hn2 : n2 ≤ 1000000) (hc : Canon l) (hc2 : Canon m) :
    Calls Try.prog 66 #[.slice A n c, .slice A2 n2 c2] w fun e w' => e = .returned (.int .i64 (cmpN (valL l) (valL m))) ∧ Below B w w' := by
  have HL := Lib.hid (And.intro h (And.intro h2 (And.intro hc hc2)))
  have hl := h.len
  have hl2 := h2.len
  clear h h2 hc hc2
  rcases Nat.lt_trichotomy n n2 with hlt | heq | hgt
  · rw [cmpN_lt (cmp_len HL.out.2.2.1 HL.out.2.2.2 (by omega))]
    go_enter Try.func66, Try.ntmps66
    go_wp2_with fail
    go_ret
    exact ⟨rfl, Below.refl _ _⟩
  · subst heq
    obtain ⟨N, hN⟩ : ∃ N, cmpN (valL l) (valL m) = N := ⟨_, rfl⟩
    rw [hN]
    have HN := Lib.hid (And.intro hN (And.intro hl hl2))
    clear hN hl hl2
    go_enter Try.func66, Try.ntmps66
    go_wp2_with fail
    go_loopw [5] (fun s5 wr => ∃ (k : Nat), s5 = .int .i64 ((k : Int) - 1) ∧ k ≤ n ∧ Hid (Below B w wr ∧ l.drop k = m.drop k)) (fun s5 _ => (intOf s5 + 1).toNat)
    case atStart => exact ⟨n, rfl, Nat.le_refl _, Below.refl _ _, by rw [List.drop_eq_nil_of_le (by have := HN.out.2.1; omega), List.drop_eq_nil_of_le (by have := HN.out.2.2; omega)]⟩
    case round =>
      obtain ⟨k, rfl, hk, HK⟩ := hrel
      rcases k with _ | k
      · have he : l = m := by have := HK.out.2; simpa using this
        have hN0 : N = 0 := by rw [← HN.out.1, he, cmpN_eq]
        go_wp2_with fail
        go_ret
        exact ⟨ret_int hN0.symm, HK.out.1⟩
      · obtain ⟨b, off, x, hx, rfl, hb, hcell0, hx32⟩ := digs_get HL.out.1 (i := k) (by omega)
        obtain ⟨b2, off2, y, hy, rfl, hb2, hcell20, hy32⟩ := digs_get HL.out.2.1 (i := k) (by omega)
        have hcell := (HK.out.1.cell (p := ⟨b, off + k, none⟩) hb).trans hcell0
        have hcell2 := (HK.out.1.cell (p := ⟨b2, off2 + k, none⟩) hb2).trans hcell20
        have HX := Lib.hid (And.intro hx (And.intro hy (And.intro hx32 hy32)))
        have hk1 : ((k + 1 : Nat) : Int) - 1 = (k : Int) := by omega
        have hkn : (k : Int) < (n : Int) := by omega
        clear hcell0 hcell20 hx hy hb hb2
        rw [hk1]
        rcases Nat.lt_trichotomy x y with hlt | heq | hgt
        · have hN1 : N = -1 := by rw [← HN.out.1, cmpN_lt (cmp_at HL.out.2.2.1.1 HL.out.2.2.2.1 (by have := HN.out.2; omega) HK.out.2 HX.out.1 HX.out.2.1 hlt)]
          have hltI : (x : Int) < (y : Int) := by omega
          go_wp2_with fail
          go_quiet (fail)
          go_wp2_with fail
          go_ret
          exact ⟨ret_int hN1.symm, below_drewN HK.out.1 _⟩
        · subst heq
          have hltI : ¬ (x : Int) < (x : Int) := by omega
          go_wp2_with fail
          go_quiet (fail)
          go_wp2_with fail
          go_quiet (fail)
          go_wp2_with fail
          go_roundw
          case rel => exact ⟨k, rfl, by omega, below_drewN HK.out.1 _, by
            obtain ⟨i1, e1⟩ := List.getElem?_eq_some_iff.1 HX.out.1
            obtain ⟨i2, e2⟩ := List.getElem?_eq_some_iff.1 HX.out.2.1
            rw [drop_cons i1, drop_cons i2, e1, e2, HK.out.2]⟩
          case measure => simp only [intOf]; omega
        · have hN1 : N = 1 := by rw [← HN.out.1, cmpN_gt (cmp_at HL.out.2.2.2.1 HL.out.2.2.1.1 (by have := HN.out.2; omega) HK.out.2.symm HX.out.2.1 HX.out.1 hgt)]
          have hltI : ¬ (x : Int) < (y : Int) := by omega
          have hltI2 : (y : Int) < (x : Int) := by omega
          go_wp2_with fail
          go_quiet (fail)
          go_wp2_with fail
          go_quiet (fail)
          go_wp2_with fail
          go_ret
          exact ⟨ret_int hN1.symm, below_drewN (below_drewN HK.out.1 _) _⟩
  · rw [cmpN_gt (cmp_len HL.out.2.2.2 HL.out.2.2.1 (by omega))]
    go_enter Try.func66, Try.ntmps66
    go_wp2_with fail
    go_ret
    exact ⟨rfl, Below.refl _ _⟩
end Go.Proofs.Ytfkciiiopbanaaa
namespace Go.Proofs.Ytfkciiiopbanaaa
open Go.RowKit

theorem lng_cells {w : World} {g : Nat} {t : TypeId} {a b : Value} (h : Blk w g t #[a, b]) : w.cell? ⟨g, 0, none⟩ = some a ∧ w.cell? ⟨g, 1, none⟩ = some b ∧ w.frozen? ⟨g, 0, none⟩ = false ∧ w.frozen? ⟨g, 1, none⟩ = false :=
  ⟨by rw [h.cell 0]; rfl, by rw [h.cell 1]; rfl, h.frozen 0, h.frozen 1⟩
/-- a number is put into a box -/
theorem lng_put {w1 W Z : World} {g B : Nat} {t : TypeId} {x y : Value} (a b : Value) (hZ : Z = (w1.setCell ⟨g, 0, none⟩ a).setCell ⟨g, 1, none⟩ b) (h : Blk w1 g t #[x, y]) (hb : Below B W w1) (hg : B ≤ g) :
    Z.cell? ⟨g, 0, none⟩ = some a ∧ Z.cell? ⟨g, 1, none⟩ = some b ∧ Below B W Z := by
  have hz := lng_cells ((h.set_ 0 a).set_ 1 b)
  rw [← hZ] at hz
  exact ⟨hz.1, hz.2.1, by rw [hZ]; exact (hb.setCell hg _).setCell hg _⟩
set_option maxHeartbeats 1000000 in
theorem bits_any (z : Int) (w : World) (hz : (digN z.natAbs).length ≤ 100000) :
    Calls Try.prog 74 #[Lng z] w fun e w' => ∃ b : Nat, e = .returned (.int .i64 (b : Int)) ∧ b ≤ 32 * (digN z.natAbs).length ∧ Below w.heap.size w w' := by
  have HLb : ∀ W, Calls Try.prog 67 #[Lng z] W (RowP (digN z.natAbs) W) := fun W => limbs_any z W hz
  have hcan := canon_digN z.natAbs
  obtain ⟨s, l, hL, hl, -⟩ := lng_open z
  rw [hL] at HLb ⊢
  rw [hl] at hz hcan HLb ⊢
  clear hL hl
  generalize decide (z < 0) = ng at HLb ⊢
  go_enter Try.func74, Try.ntmps74
  go_wp2_with fail
  refine (HLb _).mono ?_
  rintro e w1 ⟨v, rfl, hown, hb⟩
  have hb0 : Below w.heap.size w w1 := ((Below.refl _ _).alloc (Nat.le_refl _) _).trans (hb.mono (by simp))
  obtain ⟨A, c, rfl, h1, h2, h3⟩ := hown.reads
  have HO := Lib.hid (And.intro h3 (And.intro hb0 (And.intro hcan h2)))
  clear hown hb hb0 h3 h1 h2 hcan HLb
  obtain ⟨n, hn⟩ : ∃ n, l.length = n := ⟨_, rfl⟩
  rw [hn] at hz HO ⊢
  have HN := Lib.hid hn
  clear hn
  rcases n with _ | n
  · go_wp2_with fail
    go_ret
    exact ⟨0, rfl, Nat.zero_le _, HO.out.2.1⟩
  · obtain ⟨b, off, x, hx, rfl, hb, hcell, hx32⟩ := digs_get HO.out.1 (i := n) (by omega)
    have hx0 : 0 < x := by
      apply Nat.pos_of_ne_zero
      intro e
      apply HO.out.2.2.1.2
      rw [List.getLast?_eq_getElem?, HN.out, Nat.add_sub_cancel, hx, e]
    have hl := bitLen_le32 hx0 hx32
    clear hx hb
    go_wp2_with fail
    refine (len32_any (x : Int) _ (by omega) (by omega)).mono ?_
    rintro e w2 ⟨rfl, rfl⟩
    rw [Int.toNat_natCast]
    go_wp2_with fail
    go_ret
    exact ⟨32 * n + Lib.bitLen x, ret_int (by simp), by have := HN.out; omega, HO.out.2.1⟩

set_option maxHeartbeats 1000000 in
theorem limited_any (z : Int) (w : World) (hz : (digN z.natAbs).length ≤ 4096) :
    Calls Try.prog 75 #[Lng z] w fun e w' => e = .returned (.tuple #[Lng z, .int .i64 0]) ∧ Below w.heap.size w w' := by
  have HLb : ∀ W, Calls Try.prog 74 #[Lng z] W _ := fun W => bits_any z W (by omega)
  obtain ⟨s, l, hL, hl, -⟩ := lng_open z
  rw [hL] at HLb ⊢
  rw [hl] at hz HLb
  clear hL hl
  generalize decide (z < 0) = ng at HLb ⊢
  go_enter Try.func75, Try.ntmps75
  go_wp2_with fail
  refine (HLb _).mono ?_
  rintro e w1 ⟨b, rfl, hb32, hb⟩
  have hk1 : Blk w1 w.heap.size 88 #[.bool ng, .string s] := ((Blk.new w _ _).alloc _).below hb (by simp; omega)
  have hk2 : Blk w1 (w.heap.size + 1) 88 #[.bool false, .string ⟨#[]⟩] := by
    have := Blk.new (w.alloc (.cells #[.bool ng, .string s] 88)) 88 #[.bool false, .string ⟨#[]⟩]
    have := this.below hb (by simp)
    simpa using this
  have hb0 : Below w.heap.size w w1 := (((Below.refl _ _).alloc (Nat.le_refl _) _).alloc (by simp) _).trans (hb.mono (by simp; omega))
  obtain ⟨a0, a1, a2, a3⟩ := lng_cells hk1
  obtain ⟨c0, c1, c2, c3⟩ := lng_cells hk2
  have HB := Lib.hid (And.intro hk2 hb0)
  clear hk1 hk2 hb0 hb HLb
  have hbI : ¬ (131072 : Int) < (b : Int) := by omega
  go_wp2_with fail
  obtain ⟨Z, hZ⟩ : ∃ Z, Z = (w1.setCell ⟨w.heap.size + 1, 0, none⟩ (.bool ng)).setCell ⟨w.heap.size + 1, 1, none⟩ (.string s) := ⟨_, rfl⟩
  have hz := lng_cells ((HB.out.1.set_ 0 (.bool ng)).set_ 1 (.string s))
  have hzb := (HB.out.2.setCell (p := ⟨w.heap.size + 1, 0, none⟩) (by simp) (.bool ng)).setCell (p := ⟨w.heap.size + 1, 1, none⟩) (by simp) (.string s)
  rw [← hZ] at hz hzb ⊢
  refine bodyPost_ret (v := .tuple #[.agg #[.bool ng, .string s], .int .i64 0]) (by simp [results, Try.results75, go_sem, hz.1, hz.2.1]) rfl ⟨rfl, hzb⟩
end Go.Proofs.Ytfkciiiopbanaaa
