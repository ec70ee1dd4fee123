/- The reference's whole numbers of any length: Quo, DivMod, Mod (of what is not below 0). · The reference's whole numbers of any length: GCD. -/
import Derived.Test.YtkkpfdfoojcljaaGreatFhLN
import Derived.Deep.LoopGhost
namespace Go.Proofs.YtkkpfdfoojcljaaGreat
open Go.RowKit

theorem Grow2.toOld {w w0 w' : World} {g1 g2 : Nat} (h : Grow2 g1 g2 w0 w') (hb : Below w.heap.size w w0) (h2 : w.heap.size ≤ g2) : w.grownBy w' (some g1) := by
  induction h with
  | refl => exact only_of_below hb _
  | none_ _ hw ih => exact only_then ih hw (fun x hx => by cases hx)
  | one _ hw _ ih => exact only_then ih hw (fun x hx => .inr hx)
  | two _ hw _ ih => exact only_then ih hw (fun x hx => by injection hx with hx; subst hx; exact .inl h2)
theorem Grow2.swap {w w' : World} {g1 g2 : Nat} (h : Grow2 g1 g2 w w') : Grow2 g2 g1 w w' := by
  induction h with
  | refl => exact .refl
  | none_ _ hw ih => exact .none_ ih hw
  | one _ hw hu ih => exact .two ih hw hu
  | two _ hw hu ih => exact .one ih hw hu
theorem own_put {w w' : World} {g : Nat} {t : TypeId} {a b : Value} {z : Int} (hk : Blk w g t #[a, b]) (ht : t ≠ 110) (hg : w.grownBy w' (some g)) (ho : ∃ A n c, Own1 w' g t (decide (z < 0)) A n c (digN z.natAbs)) : Put w w' g 0 z := by
  obtain ⟨A, n, c, o⟩ := ho
  exact put_own hk ht hg o.blk rfl o.nc o.cm o.digs
set_option maxRecDepth 100000 in
set_option maxHeartbeats 4000000 in
theorem wQuo_any (HP : PartsSpec) (g : Nat) (t : TypeId) (a b : Value) (gx : Nat) (x : Int) (A : Option Addr) (n c : Nat) (gy : Nat) (y : Int) (A2 : Option Addr) (n2 c2 : Nat) (w : World) (hk : Blk w g t #[a, b]) (ht : t ≠ 110) (h : IntAt w gx 0 x A n c) (h2 : IntAt w gy 0 y A2 n2 c2) (hn : n ≤ 50000) (hn2 : n2 ≤ 50000) (hy0 : ¬ y = 0) :
    Calls Tryz.prog 71 #[.pointer (some ⟨g, 0, none⟩), .pointer (some ⟨gx, 0, none⟩), .pointer (some ⟨gy, 0, none⟩)] w fun e w' => e = .returned (.pointer (some ⟨g, 0, none⟩)) ∧ Put w w' g 0 (x.tdiv y) := by
  have hb0 : Below w.heap.size w (w.alloc (.cells #[.bool false, .slice none 0 0] 72)) := (Below.refl _ _).alloc (Nat.le_refl _) _
  have hk0 := Blk.new w 72 #[.bool false, .slice none 0 0]
  have hg := hk.lt
  have HC := Lib.hid (wQuoRem_any HP g w.heap.size t 72 a b _ _ gx x A n c gy y A2 n2 c2 _ (by omega) (hk.below hb0 hg) ht hk0 (by decide) (h.below hb0) (h2.below hb0) hn hn2 hy0)
  have HH := Lib.hid (And.intro hk (And.intro ht hb0))
  clear hk ht h h2 hb0 hk0
  go_enter Tryz.func71, Tryz.ntmps71
  go_wp2_with fail
  refine HC.out.mono ?_
  rintro e w1 ⟨rfl, hq⟩
  have HP1 := Lib.hid (own_put HH.out.1 HH.out.2.1 (hq.1.toOld HH.out.2.2 (Nat.le_refl _)) hq.2.1)
  clear hq
  go_wp2_with fail
  go_ret
  exact ⟨rfl, HP1.out⟩
set_option maxRecDepth 100000 in
set_option maxHeartbeats 4000000 in
theorem wDivMod_any (HP : PartsSpec) (gz gr : Nat) (tz tr : TypeId) (a b a' b' : Value) (gx : Nat) (x : Int) (A : Option Addr) (n c : Nat) (gy : Nat) (y : Int) (A2 : Option Addr) (n2 c2 : Nat) (w : World) (hne : gz ≠ gr) (hz : Blk w gz tz #[a, b]) (hzt : tz ≠ 110) (hr : Blk w gr tr #[a', b']) (hrt : tr ≠ 110)
    (h : IntAt w gx 0 x A n c) (h2 : IntAt w gy 0 y A2 n2 c2) (hn : n ≤ 50000) (hn2 : n2 ≤ 50000) (hy0 : ¬ y = 0) (hx0 : 0 ≤ x) :
    Calls Tryz.prog 104 #[.pointer (some ⟨gz, 0, none⟩), .pointer (some ⟨gx, 0, none⟩), .pointer (some ⟨gy, 0, none⟩), .pointer (some ⟨gr, 0, none⟩)] w fun e w' => e = .returned (.tuple #[.pointer (some ⟨gz, 0, none⟩), .pointer (some ⟨gr, 0, none⟩)]) ∧ QR w w' gz gr tz tr (x.tdiv y) (x.tmod y) := by
  have hb0 : Below w.heap.size w (w.alloc (.cells #[.bool false, .slice none 0 0] 72)) := (Below.refl _ _).alloc (Nat.le_refl _) _
  have hk0 := Blk.new w 72 #[.bool false, .slice none 0 0]
  have HC := Lib.hid (wSet_any w.heap.size 0 gy 0 72 _ y A2 n2 c2 _ hk0 (by decide) (by simp) (h2.below hb0) (by omega))
  have HH := Lib.hid (And.intro hz (And.intro hzt (And.intro hr (And.intro hrt (And.intro h (And.intro h2 hb0))))))
  clear hz hzt hr hrt h h2 hb0 hk0
  go_enter Tryz.func104, Tryz.ntmps104
  go_wp2_with fail
  refine HC.out.mono ?_
  rintro e w1 ⟨rfl, hp⟩
  have hb1 : Below w.heap.size w w1 := below_then HH.out.2.2.2.2.2.2 hp.1 HH.out.2.2.2.2.2.2.size (fun x hx => by injection hx with hx; omega)
  have HQ := Lib.hid (wQuoRem_any HP gz gr tz tr a b a' b' gx x A n c gy y A2 n2 c2 w1 hne (HH.out.1.below hb1 HH.out.1.lt) HH.out.2.1 (HH.out.2.2.1.below hb1 HH.out.2.2.1.lt) HH.out.2.2.2.1 (HH.out.2.2.2.2.1.below hb1) (HH.out.2.2.2.2.2.1.below hb1) hn hn2 hy0)
  have HB := Lib.hid hb1
  clear hp hb1
  go_wp2_with fail
  refine HQ.out.mono ?_
  rintro e w2 ⟨rfl, hq⟩
  obtain ⟨hg, hoz, Ar, nr, cr, hor⟩ := hq
  have c0 : w2.cell? ⟨gr, 0, none⟩ = some (.bool (decide (x.tmod y < 0))) := hor.blk.cell 0
  rw [decide_eq_false (Int.not_lt.2 (Int.tmod_nonneg y hx0))] at c0
  have HQ2 := Lib.hid (And.intro hg (And.intro hoz hor))
  clear hg hoz hor
  go_wp2_with fail
  go_ret2
  refine ⟨rfl, ?_, HQ2.out.2.1, Ar, nr, cr, HQ2.out.2.2⟩
  have key : ∀ {wa : World}, Grow2 gz gr w1 wa → Grow2 gz gr w wa := fun h => by
    induction h with
    | refl => exact .none_ .refl (only_of_below HB.out none)
    | none_ _ hw ih => exact .none_ ih hw
    | one _ hw hu ih => exact .one ih hw hu
    | two _ hw hu ih => exact .two ih hw hu
  exact key HQ2.out.1
set_option maxRecDepth 100000 in
set_option maxHeartbeats 4000000 in
theorem wMod_any (HP : PartsSpec) (g : Nat) (t : TypeId) (a b : Value) (gx : Nat) (x : Int) (A : Option Addr) (n c : Nat) (gy : Nat) (y : Int) (A2 : Option Addr) (n2 c2 : Nat) (w : World) (hk : Blk w g t #[a, b]) (ht : t ≠ 110) (h : IntAt w gx 0 x A n c) (h2 : IntAt w gy 0 y A2 n2 c2) (hn : n ≤ 50000) (hn2 : n2 ≤ 50000) (hy0 : ¬ y = 0) (hx0 : 0 ≤ x) :
    Calls Tryz.prog 94 #[.pointer (some ⟨g, 0, none⟩), .pointer (some ⟨gx, 0, none⟩), .pointer (some ⟨gy, 0, none⟩)] w fun e w' => e = .returned (.pointer (some ⟨g, 0, none⟩)) ∧ Put w w' g 0 (x.tmod y) := by
  have hb0 : Below w.heap.size w (w.alloc (.cells #[.bool false, .slice none 0 0] 72)) := (Below.refl _ _).alloc (Nat.le_refl _) _
  have hk0 := Blk.new w 72 #[.bool false, .slice none 0 0]
  have hg := hk.lt
  have HC := Lib.hid (wDivMod_any HP w.heap.size g 72 t _ _ a b gx x A n c gy y A2 n2 c2 _ (by omega) hk0 (by decide) (hk.below hb0 hg) ht (h.below hb0) (h2.below hb0) hn hn2 hy0 hx0)
  have HH := Lib.hid (And.intro hk (And.intro ht hb0))
  clear hk ht h h2 hb0 hk0
  go_enter Tryz.func94, Tryz.ntmps94
  go_wp2_with fail
  refine HC.out.mono ?_
  rintro e w1 ⟨rfl, hq⟩
  have HP1 := Lib.hid (own_put HH.out.1 HH.out.2.1 (hq.1.swap.toOld HH.out.2.2 (Nat.le_refl _)) hq.2.2)
  clear hq
  go_wp2_with fail
  go_ret
  exact ⟨rfl, HP1.out⟩
end Go.Proofs.YtkkpfdfoojcljaaGreat
namespace Go.Proofs.YtkkpfdfoojcljaaGreat
open Go.RowKit

theorem Put.belowB {w w' : World} {g o : Nat} {z : Int} {B : Nat} (h : Put w w' g o z) (hB : B ≤ w.heap.size) (hg : B ≤ g) : Below B w w' := only_below h.1 hg hB
set_option maxRecDepth 100000 in
set_option maxHeartbeats 8000000 in
theorem wGCD_any (HPS : PartsSpec) (g : Nat) (t : TypeId) (a b : Value) (gx : Nat) (x : Int) (A : Option Addr) (n c : Nat) (gy : Nat) (y : Int) (A2 : Option Addr) (n2 c2 : Nat) (w : World) (hk : Blk w g t #[a, b]) (ht : t ≠ 110) (h : IntAt w gx 0 x A n c) (h2 : IntAt w gy 0 y A2 n2 c2) (K : Nat) (hn : n ≤ K) (hn2 : n2 ≤ K) (hK : K ≤ 50000) :
    Calls Tryz.prog 70 #[.pointer (some ⟨g, 0, none⟩), .pointer none, .pointer none, .pointer (some ⟨gx, 0, none⟩), .pointer (some ⟨gy, 0, none⟩)] w fun e w' => e = .returned (.pointer (some ⟨g, 0, none⟩)) ∧ Put w w' g 0 ((Nat.gcd x.natAbs y.natAbs : Nat) : Int) := by
  have hb0 : Below w.heap.size w (w.alloc (.cells #[.bool false, .slice none 0 0] 72)) := (Below.refl _ _).alloc (Nat.le_refl _) _
  have hk0 := Blk.new w 72 #[.bool false, .slice none 0 0]
  have HC := Lib.hid (wAbs_any w.heap.size 72 _ _ gx 0 x A n c _ hk0 (by decide) (h.below hb0) (by omega))
  have hlx := h.digs.len
  have hly := h2.digs.len
  have HH := Lib.hid (And.intro hk (And.intro ht (And.intro h2 hb0)))
  clear hk ht h h2 hb0 hk0
  obtain ⟨GG, hGG⟩ : ∃ GG, Nat.gcd x.natAbs y.natAbs = GG := ⟨_, rfl⟩
  rw [hGG]
  have HGG := Lib.hid hGG
  clear hGG
  go_enter Tryz.func70, Tryz.ntmps70
  go_wp2_with fail
  refine HC.out.mono ?_
  rintro e w1 ⟨rfl, hp⟩
  obtain ⟨A3, n3, c3, h3⟩ := hp.at_
  have hb1 : Below w.heap.size w w1 := below_then HH.out.2.2.2 hp.1 HH.out.2.2.2.size (fun x hx => by injection hx with hx; omega)
  have hb1' : Below w1.heap.size w1 (w1.alloc (.cells #[.bool false, .slice none 0 0] 72)) := (Below.refl _ _).alloc (Nat.le_refl _) _
  have hk1 := Blk.new w1 72 #[.bool false, .slice none 0 0]
  have HC2 := Lib.hid (wAbs_any w1.heap.size 72 _ _ gy 0 y A2 n2 c2 _ hk1 (by decide) ((HH.out.2.2.1.below hb1).below hb1') (by omega))
  have H1 := Lib.hid (And.intro hb1 (And.intro hb1' (And.intro hk1 h3)))
  have hw1 : w.heap.size < w1.heap.size := by have := h3.lt; omega
  clear hp h3 hb1 hb1' hk1
  go_wp2_with fail
  refine HC2.out.mono ?_
  rintro e w2 ⟨rfl, hp⟩
  obtain ⟨A4, n4, c4, h4⟩ := hp.at_
  have hb2 : Below w.heap.size w w2 := below_then (H1.out.1.trans (H1.out.2.1.mono (by omega))) hp.1 (by have := H1.out.2.1.size; omega) (fun x hx => by injection hx with hx; omega)
  have h3' : IntAt w2 w.heap.size 0 (x.natAbs : Int) A3 n3 c3 := (H1.out.2.2.2.below H1.out.2.1).grown hp.1 (by simp; omega) (fun u hu => by injection hu with hu; subst hu; exact urow_not H1.out.2.2.1 (by decide))
  have hn3 : n3 ≤ K := by have := h3'.digs.len; rw [Int.natAbs_natCast] at this; omega
  have hn4 : n4 ≤ K := by have := h4.digs.len; rw [Int.natAbs_natCast] at this; omega
  have H2 := Lib.hid (And.intro h3' (And.intro h4 (And.intro hn3 (And.intro hn4 (And.intro HGG.out hb2)))))
  clear hp h4 hb2 h3' hn3 hn4
  go_wp2_with fail
  go_loopg [11, 12] (y.natAbs + 1) (fun gk s11 s12 wr => ∃ (gp gq P Q n c n2 c2 : Nat) (A A2 : Option Addr), s11 = .pointer (some ⟨gp, 0, none⟩) ∧ s12 = .pointer (some ⟨gq, 0, none⟩) ∧ Hid (IntAt wr gp 0 (P : Int) A n c ∧ IntAt wr gq 0 (Q : Int) A2 n2 c2 ∧ n ≤ K ∧ n2 ≤ K ∧ Nat.gcd P Q = GG ∧ Q < gk ∧ Below w.heap.size w wr))
  case atStart => exact ⟨_, _, x.natAbs, y.natAbs, _, _, _, _, _, _, rfl, rfl, H2.out.1, H2.out.2.1, H2.out.2.2.1, H2.out.2.2.2.1, H2.out.2.2.2.2.1, Nat.lt_succ_self _, H2.out.2.2.2.2.2⟩
  case round =>
    obtain ⟨gp, gq, P, Q, n, c, n2, c2, A, A2, rfl, rfl, HD⟩ := hrel
    have hzr := HH.out.1.below HD.out.2.2.2.2.2.2 HH.out.1.lt
    have HSg := Lib.hid (wSign_any gq 0 (Q : Int) A2 n2 c2 wr HD.out.2.1)
    have HZ := Lib.hid hzr
    clear hzr
    by_cases hQ : Q = 0
    · have hs : sgnI (Q : Int) = 0 := by unfold sgnI; rw [if_pos (by omega)]
      have hPG : P = GG := by have := HD.out.2.2.2.2.1; rwa [hQ, Nat.gcd_zero_right] at this
      have HS := Lib.hid (wSet_any g 0 gp 0 t #[a, b] (P : Int) A n c wr HZ.out HH.out.2.1 (by simp) HD.out.1 (by have := HD.out.2.2.1; omega))
      go_wp2_with fail
      refine HSg.out.mono ?_
      rintro e w9 ⟨rfl, hw⟩
      subst hw
      rw [hs]
      go_wp2_with fail
      refine HS.out.mono ?_
      rintro e w5 ⟨rfl, hp⟩
      have HP := Lib.hid (put_old HH.out.1 HD.out.2.2.2.2.2.2 hp)
      clear hp
      go_wp2_with fail
      go_ret
      exact ⟨rfl, by rw [← hPG]; exact HP.out⟩
    · have hs : sgnI (Q : Int) = 1 := by unfold sgnI; rw [if_neg (by omega), if_neg (by omega)]
      have k1 : wr.cell? ⟨gp, 1, none⟩ = some (.slice A n c) := HD.out.1.row
      have k2 : wr.cell? ⟨gq, 1, none⟩ = some (.slice A2 n2 c2) := HD.out.2.1.row
      by_cases hsm : n ≤ 2 ∧ n2 ≤ 2
      · have hI1 : (n : Int) < 3 := by omega
        have hI2 : (n2 : Int) < 3 := by omega
        have HU := Lib.hid (wUint64_any gp 0 (P : Int) A n c wr HD.out.1 hsm.1)
        have HU2 := Lib.hid (wUint64_any gq 0 (Q : Int) A2 n2 c2 wr HD.out.2.1 hsm.2)
        have hP64 : P < 18446744073709551616 := by
          have h1 := val_lt (canon_digN P).1
          have h2 := HD.out.1.digs.len
          rw [Int.natAbs_natCast] at h2
          rw [val_digN, h2] at h1
          exact Nat.lt_of_lt_of_le h1 (Nat.pow_le_pow_right (n := 4294967296) (by omega) hsm.1)
        have hQ64 : Q < 18446744073709551616 := by
          have h1 := val_lt (canon_digN Q).1
          have h2 := HD.out.2.1.digs.len
          rw [Int.natAbs_natCast] at h2
          rw [val_digN, h2] at h1
          exact Nat.lt_of_lt_of_le h1 (Nat.pow_le_pow_right (n := 4294967296) (by omega) hsm.2)
        go_wp2_with fail
        refine HSg.out.mono ?_
        rintro e w9 ⟨rfl, hw⟩
        subst hw
        rw [hs]
        go_wp2_with fail
        refine HU.out.mono ?_
        rintro e w9 ⟨rfl, hw⟩
        subst hw
        go_wp2_with fail
        refine HU2.out.mono ?_
        rintro e w9 ⟨rfl, hw⟩
        subst hw
        rw [Int.natAbs_natCast]
        obtain ⟨wo, rfl⟩ : ∃ wo : World, wo = wr := ⟨_, rfl⟩
        go_wp2_with fail
        go_loopw [13, 14] (fun s13 s14 wq => ∃ (C D : Nat), s13 = .int .u64 (C : Int) ∧ s14 = .int .u64 (D : Int) ∧ C < 18446744073709551616 ∧ D < 18446744073709551616 ∧ Hid (Nat.gcd C D = GG ∧ Below w.heap.size w wq)) (fun _ s14 _ => (intOf s14).toNat)
        case atStart => exact ⟨P, Q, rfl, rfl, hP64, hQ64, HD.out.2.2.2.2.1, HD.out.2.2.2.2.2.2⟩
        case round =>
          obtain ⟨C, D, rfl, rfl, hC, hDl, HE⟩ := hrel
          by_cases hD0 : D = 0
          · have hDI : ¬ (0 : Int) < (D : Int) := by omega
            have hCG : C = GG := by have := HE.out.1; rwa [hD0, Nat.gcd_zero_right] at this
            have HCG := Lib.hid hCG
            clear hD0 hCG
            have HS := Lib.hid (wSetUint64_any g t a b C wr (HH.out.1.below HE.out.2 HH.out.1.lt) HH.out.2.1 hC)
            go_wp2_with fail
            refine HS.out.mono ?_
            rintro e w5 ⟨rfl, hp⟩
            have HP := Lib.hid (put_old HH.out.1 HE.out.2 hp)
            clear hp
            go_wp2_with fail
            go_ret
            exact ⟨rfl, by rw [← HCG.out]; exact HP.out⟩
          · have hDI : (0 : Int) < (D : Int) := by omega
            have hDz : ((D : Int) == 0) = false := beq_eq_false_iff_ne.2 (by omega)
            obtain ⟨m, hm⟩ : ∃ m, C % D = m := ⟨_, rfl⟩
            have hmI : (C : Int) % (D : Int) = (m : Int) := by rw [← hm]; exact (Int.natCast_emod C D).symm
            have hmD : m < D := by rw [← hm]; exact Nat.mod_lt _ (by omega)
            have hwm : IntKind.u64.wrap (m : Int) = (m : Int) := by rw [IntKind.wrap_u64]; omega
            have HM := Lib.hid hm
            clear hm
            go_wp2_with fail
            go_quiet (fail)
            go_wp2_with fail
            go_roundw
            case rel => exact ⟨D, m, rfl, by rw [hmI], hDl, by omega, by rw [← HM.out, Nat.gcd_comm, ← Nat.gcd_rec, Nat.gcd_comm]; exact HE.out.1, below_drewN HE.out.2 _⟩
            case measure => simp only [intOf]; omega
      · have hb3 : Below wr.heap.size wr (wr.alloc (.cells #[.bool false, .slice none 0 0] 72)) := (Below.refl _ _).alloc (Nat.le_refl _) _
        have hk3 := Blk.new wr 72 #[.bool false, .slice none 0 0]
        have HM := Lib.hid (wMod_any HPS wr.heap.size 72 _ _ gp (P : Int) A n c gq (Q : Int) A2 n2 c2 _ hk3 (by decide) (HD.out.1.below hb3) (HD.out.2.1.below hb3) (by have := HD.out.2.2.1; omega) (by have := HD.out.2.2.2.1; omega) (by omega) (by omega))
        have HK := Lib.hid (And.intro hk3 hb3)
        clear hk3 hb3
        by_cases hn1 : n ≤ 2
        · have hI1 : (n : Int) < 3 := by omega
          have hI2 : ¬ (n2 : Int) < 3 := by omega
          go_wp2_with fail
          refine HSg.out.mono ?_
          rintro e w9 ⟨rfl, hw⟩
          subst hw
          rw [hs]
          go_wp2_with fail
          refine HM.out.mono ?_
          rintro e w5 ⟨rfl, hp⟩
          obtain ⟨A5, n5, c5, h5⟩ := hp.at_
          have hq5 := (HD.out.2.1.below HK.out.2).grown hp.1 (by simp; have := HD.out.2.1.lt; omega) (fun u hu => by injection hu with hu; subst hu; exact urow_not HK.out.1 (by decide))
          have hb5 : Below wr.heap.size wr w5 := below_then HK.out.2 hp.1 HK.out.2.size (fun u hu => by injection hu with hu; omega)
          have H5 := Lib.hid (And.intro h5 (And.intro hq5 hb5))
          clear hp h5 hq5 hb5
          go_wp2_with fail
          go_roundg Q
          case measure => exact HD.out.2.2.2.2.2.1
          case rel => exact ⟨gq, _, Q, P % Q, _, _, _, _, _, _, rfl, rfl, H5.out.2.1, H5.out.1, HD.out.2.2.2.1, by
            have h1 := H5.out.1.digs.len
            have h2 := HD.out.2.1.digs.len
            rw [show ((P : Int).tmod (Q : Int)).natAbs = P % Q from rfl] at h1
            rw [Int.natAbs_natCast] at h2
            have h3 := digN_mono (Nat.le_of_lt (Nat.mod_lt P (by omega : 0 < Q)))
            have h4 := HD.out.2.2.2.1
            omega, by rw [Nat.gcd_comm, ← Nat.gcd_rec, Nat.gcd_comm]; exact HD.out.2.2.2.2.1, Nat.mod_lt P (by omega), HD.out.2.2.2.2.2.2.trans (H5.out.2.2.mono HD.out.2.2.2.2.2.2.size)⟩
        · have hI1 : ¬ (n : Int) < 3 := by omega
          go_wp2_with fail
          refine HSg.out.mono ?_
          rintro e w9 ⟨rfl, hw⟩
          subst hw
          rw [hs]
          go_wp2_with fail
          refine HM.out.mono ?_
          rintro e w5 ⟨rfl, hp⟩
          obtain ⟨A5, n5, c5, h5⟩ := hp.at_
          have hq5 := (HD.out.2.1.below HK.out.2).grown hp.1 (by simp; have := HD.out.2.1.lt; omega) (fun u hu => by injection hu with hu; subst hu; exact urow_not HK.out.1 (by decide))
          have hb5 : Below wr.heap.size wr w5 := below_then HK.out.2 hp.1 HK.out.2.size (fun u hu => by injection hu with hu; omega)
          have H5 := Lib.hid (And.intro h5 (And.intro hq5 hb5))
          clear hp h5 hq5 hb5
          go_wp2_with fail
          go_roundg Q
          case measure => exact HD.out.2.2.2.2.2.1
          case rel => exact ⟨gq, _, Q, P % Q, _, _, _, _, _, _, rfl, rfl, H5.out.2.1, H5.out.1, HD.out.2.2.2.1, by
            have h1 := H5.out.1.digs.len
            have h2 := HD.out.2.1.digs.len
            rw [show ((P : Int).tmod (Q : Int)).natAbs = P % Q from rfl] at h1
            rw [Int.natAbs_natCast] at h2
            have h3 := digN_mono (Nat.le_of_lt (Nat.mod_lt P (by omega : 0 < Q)))
            have h4 := HD.out.2.2.2.1
            omega, by rw [Nat.gcd_comm, ← Nat.gcd_rec, Nat.gcd_comm]; exact HD.out.2.2.2.2.1, Nat.mod_lt P (by omega), HD.out.2.2.2.2.2.2.trans (H5.out.2.2.mono HD.out.2.2.2.2.2.2.size)⟩
end Go.Proofs.YtkkpfdfoojcljaaGreat
