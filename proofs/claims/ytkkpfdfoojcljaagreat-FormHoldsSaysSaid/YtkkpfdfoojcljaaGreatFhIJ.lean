/- The reference's whole numbers of any length: Mul (printed by genFhI.py out of XLgO). · The reference's whole numbers of any length: shiftRight (printed by genFhJ.py out of XLgS), shiftLeft. -/
import Derived.Test.YtkkpfdfoojcljaaGreatFhEG
import Derived.Test.YtkkpfdfoojcljaaGreatLgOR
import Derived.Test.YtkkpfdfoojcljaaGreatLgSU
namespace Go.Proofs.YtkkpfdfoojcljaaGreat
open Go.RowKit

theorem own1_drew {w : World} {g : Nat} {t : TypeId} {s : Bool} {A : Option Addr} {n c : Nat} {l : List Nat} (h : Own1 w g t s A n c l) : Own1 w.drew g t s A n c l := ⟨h.blk, h.ne, h.nc, h.cm, h.digs.keep (w := w) (w' := w.drew) stays_u (fun _ hb => hb) (fun _ _ _ => rfl)⟩
theorem mul_sgn {x y : Int} {l : List Nat} (h : valL l = x.natAbs * y.natAbs) : sgnD (decide (x < 0) != decide (y < 0)) l = x * y := by
  unfold sgnD
  rw [h]
  by_cases hx : x < 0 <;> by_cases hy : y < 0
  · obtain ⟨p, rfl⟩ : ∃ p : Nat, x = -(p : Int) := ⟨x.natAbs, by omega⟩
    obtain ⟨q, rfl⟩ : ∃ q : Nat, y = -(q : Int) := ⟨y.natAbs, by omega⟩
    rw [decide_eq_true hx, decide_eq_true hy, if_neg (by simp), Int.natAbs_neg, Int.natAbs_neg, Int.natAbs_natCast, Int.natAbs_natCast, Int.natCast_mul, Int.neg_mul_neg]
  · obtain ⟨p, rfl⟩ : ∃ p : Nat, x = -(p : Int) := ⟨x.natAbs, by omega⟩
    obtain ⟨q, rfl⟩ := Int.eq_ofNat_of_zero_le (show 0 ≤ y by omega)
    rw [decide_eq_true hx, decide_eq_false hy, if_pos (by simp), Int.natAbs_neg, Int.natAbs_natCast, Int.natAbs_natCast, Int.natCast_mul, Int.neg_mul]
  · obtain ⟨p, rfl⟩ := Int.eq_ofNat_of_zero_le (show 0 ≤ x by omega)
    obtain ⟨q, rfl⟩ : ∃ q : Nat, y = -(q : Int) := ⟨y.natAbs, by omega⟩
    rw [decide_eq_false hx, decide_eq_true hy, if_pos (by simp), Int.natAbs_neg, Int.natAbs_natCast, Int.natAbs_natCast, Int.natCast_mul, Int.mul_neg]
  · obtain ⟨p, rfl⟩ := Int.eq_ofNat_of_zero_le (show 0 ≤ x by omega)
    obtain ⟨q, rfl⟩ := Int.eq_ofNat_of_zero_le (show 0 ≤ y by omega)
    rw [decide_eq_false hx, decide_eq_false hy, if_neg (by simp), Int.natAbs_natCast, Int.natAbs_natCast, Int.natCast_mul]
set_option maxRecDepth 100000 in
set_option maxHeartbeats 8000000 in
theorem wMul_any (g : Nat) (t : TypeId) (a b : Value) (gx : Nat) (x0 : Int) (A : Option Addr) (n c : Nat) (gy : Nat) (y0 : Int) (A2 : Option Addr) (n2 c2 : Nat) (w : World) (hk : Blk w g t #[a, b]) (ht : t ≠ 110) (h : IntAt w gx 0 x0 A n c) (h2 : IntAt w gy 0 y0 A2 n2 c2) (hn : n ≤ 50000) (hn2 : n2 ≤ 50000) :
    Calls Tryz.prog 53 #[.pointer (some ⟨g, 0, none⟩), .pointer (some ⟨gx, 0, none⟩), .pointer (some ⟨gy, 0, none⟩)] w fun e w' => e = .returned (.pointer (some ⟨g, 0, none⟩)) ∧ Put w w' g 0 (x0 * y0) := by
  have c0 := h.neg
  have c1 : w.cell? ⟨gx, 1, none⟩ = some (.slice A n c) := h.row
  have d0 := h2.neg
  have d1 : w.cell? ⟨gy, 1, none⟩ = some (.slice A2 n2 c2) := h2.row
  have hgx := h.lt
  have hgy := h2.lt
  have hg := hk.lt
  have HH := Lib.hid (And.intro hk ht)
  have HAB := Lib.hid (And.intro h.digsB (And.intro h2.digsB (And.intro h.digs.len h2.digs.len)))
  have HVX := Lib.hid (And.intro (val_digN x0.natAbs) (val_digN y0.natAbs))
  clear hk ht h h2
  generalize digN x0.natAbs = l at HAB HVX
  generalize digN y0.natAbs = m at HAB HVX
  have hmk := make_u (n + n2) (n + n2) .i64 .i64 (Nat.le_refl _) (by omega)
  rw [Int.natCast_add] at hmk
  go_enter Tryz.func53, Tryz.ntmps53
  go_wp2_with fail
  go_region
  obtain ⟨X, hX⟩ : ∃ X, (w.alloc (.cells (zc (n + n2)) 110)).drew = X := ⟨_, rfl⟩
  have H0 : Hid (OwnU X w.heap.size (.slice (some ⟨w.heap.size, 0, none⟩) (n + n2) (n + n2)) (List.replicate (n + n2) 0) ∧ Below w.heap.size w X) := by
    rw [← hX]
    exact ⟨(own_made w (B := w.heap.size) (l := n + n2) (c := n + n2) (Nat.le_refl _) (Nat.le_refl _) (by omega)).drew, ((Below.refl w.heap.size w).alloc (Nat.le_refl _) _).drew⟩
  rw [hX]
  clear hX
  have e1 := (H0.out.2.cell (p := ⟨gx, 1, none⟩) hgx).trans c1
  go_wp2_with fail
  clear e1
  obtain ⟨N, hN⟩ : ∃ N, N = n + n2 := ⟨_, rfl⟩
  rw [← hN] at H0 ⊢
  go_loopw [30] (fun s30 wr => ∃ (i : Nat) (out : List Nat), s30 = .int .i64 (i : Int) ∧ i ≤ n ∧ Hid (out.length = N ∧ Digs out ∧ valL out = valL (l.take i) * valL m ∧ (∀ j, i + n2 ≤ j → j < N → out[j]? = some 0) ∧ OwnU wr w.heap.size (.slice (some ⟨w.heap.size, 0, none⟩) N N) out ∧ Below w.heap.size w wr)) (fun s30 _ => n - (intOf s30).toNat)
  case atStart => exact ⟨0, List.replicate N 0, rfl, by omega, by simp, digs_zeros _, by rw [val_zeros]; simp [valL], fun j _ hj => by rw [List.getElem?_replicate, if_pos hj], H0.out⟩
  case round =>
    clear H0 hmk
    obtain ⟨i, out, rfl, hi, HD⟩ := hrel
    have q1 := (HD.out.2.2.2.2.2.cell (p := ⟨gy, 1, none⟩) hgy).trans d1
    by_cases hil : i < n
    · have hilI : (i : Int) < (n : Int) := by omega
      obtain ⟨b1, off1, x, hx, ea, hb1, hcell0, hx32⟩ := digs_get HAB.out.1 hil
      subst ea
      have hcell := (HD.out.2.2.2.2.2.cell (p := ⟨b1, off1 + i, none⟩) hb1).trans hcell0
      have HX := Lib.hid hx
      clear hcell0 hb1 hx
      go_wp2_with fail
      go_loopw [10, 40] (fun s10 s40 wq => ∃ (k p : Nat) (o2 : List Nat), s40 = .int .i64 (k : Int) ∧ s10 = .int .u64 (p : Int) ∧ k ≤ n2 ∧ p < 4294967296 ∧ Hid (o2.length = N ∧ Digs o2 ∧ valL o2 + 4294967296 ^ (i + k) * p = valL out + 4294967296 ^ i * x * valL (m.take k) ∧ (∀ j, i + n2 ≤ j → j < N → o2[j]? = some 0) ∧ OwnU wq w.heap.size (.slice (some ⟨w.heap.size, 0, none⟩) N N) o2 ∧ Below w.heap.size w wq)) (fun _ s40 _ => n2 - (intOf s40).toNat)
      case atStart => exact ⟨0, 0, out, rfl, rfl, by omega, by omega, HD.out.1, HD.out.2.1, by simp [valL], HD.out.2.2.2⟩
      case round =>
        obtain ⟨k, p, o2, rfl, rfl, hk, hp, HE⟩ := hrel
        have q2 := (HE.out.2.2.2.2.2.cell (p := ⟨gy, 1, none⟩) hgy).trans d1
        by_cases hkl : k < n2
        · have hklI : (k : Int) < (n2 : Int) := by omega
          obtain ⟨b2, off2, y, hy, eb, hb2, hcell20, hy32⟩ := digs_get HAB.out.2.1 hkl
          subst eb
          have hcell2 := (HE.out.2.2.2.2.2.cell (p := ⟨b2, off2 + k, none⟩) hb2).trans hcell20
          obtain ⟨z, hz⟩ : ∃ z, o2[i + k]? = some z := ⟨_, List.getElem?_eq_getElem (by have := HE.out.1; omega)⟩
          have hz32 := dig_at HE.out.2.1 hz
          have hcell3 := HE.out.2.2.2.2.1.cell hz
          have hfr3 := HE.out.2.2.2.2.1.unfrozen (i + k)
          have hr := times_round HE.out.2.2.1 hy hz
          have hfit := times_fits hp hx32 hy32 hz32
          have HY := Lib.hid (And.intro hr hfit)
          clear hcell20 hb2 hy hz hr hfit
          obtain ⟨hm0, hm1⟩ := mul_cast_le hx32 hy32
          have hikN : (i : Int) + (k : Int) < (N : Int) := by omega
          go_wp2_with fail
          obtain ⟨q, hq⟩ : ∃ q, x * y = q := ⟨_, rfl⟩
          have hqI : (x : Int) * (y : Int) = (q : Int) := by rw [← hq, Int.natCast_mul]
          have hY := HY.out
          rw [hq] at hY
          have e1 : (((p + (q + z)) % 4294967296 : Nat) : Int) = ((p : Int) + ((q : Int) + (z : Int))) % 4294967296 := by omega
          have e2 : (((p + (q + z)) / 4294967296 : Nat) : Int) = ((p : Int) + ((q : Int) + (z : Int))) / 4294967296 := by omega
          have hd : (p + (q + z)) % 4294967296 < 4294967296 := Nat.mod_lt _ (by omega)
          have hd2 : (p + (q + z)) / 4294967296 < 4294967296 := by have := hY.2; omega
          rw [hqI, ← e1, ← e2]
          clear HY hq hqI e1 e2 hm0 hm1
          go_roundw
          case rel => exact ⟨k + 1, _, o2.set (i + k) ((p + (q + z)) % 4294967296), by go_num, rfl, by omega, hd2, by rw [List.length_set]; exact HE.out.1, HE.out.2.1.set _ hd, hY.1, set_zeros HE.out.2.2.2.1 (by omega) _, HE.out.2.2.2.2.1.put HE.out.1.symm _ hd, HE.out.2.2.2.2.2.setCell (Nat.le_refl _) _⟩
          case measure => simp only [intOf]; omega
        · obtain rfl : k = n2 := by omega
          have hz : o2[i + k]? = some 0 := HE.out.2.2.2.1 _ (Nat.le_refl _) (by omega)
          have hcell3 := HE.out.2.2.2.2.1.cell hz
          have hfr3 := HE.out.2.2.2.2.1.unfrozen (i + k)
          have hv : Hid (valL (o2.set (i + k) p) = valL (l.take (i + 1)) * valL m) := by
            have h1 := HE.out.2.2.1
            have h2 := val_set hz p
            rw [List.take_of_length_le (by rw [HAB.out.2.2.2]; exact Nat.le_refl _), HD.out.2.2.1] at h1
            show _ = _
            rw [val_take_succ HX.out, Nat.add_mul]
            omega
          have hikN : (i : Int) + (k : Int) < (N : Int) := by omega
          have hpm : (p : Int) % 4294967296 = (p : Int) := by omega
          clear hz
          go_wp2_with fail
          go_roundw
          case rel => exact ⟨i + 1, o2.set (i + k) p, by go_num, by omega, by rw [List.length_set]; exact HE.out.1, HE.out.2.1.set _ hp, hv.out, fun j h1 h2 => by rw [List.getElem?_set_ne (by omega)]; exact HE.out.2.2.2.1 j (by omega) h2, HE.out.2.2.2.2.1.put HE.out.1.symm _ hp, HE.out.2.2.2.2.2.setCell (Nat.le_refl _) _⟩
          case measure => simp only [intOf]; omega
    · obtain rfl : i = n := by omega
      have hv : Hid (valL out = valL l * valL m) := by
        have h1 := HD.out.2.2.1
        rwa [List.take_of_length_le (by rw [HAB.out.2.2.1]; exact Nat.le_refl _)] at h1
      have hbw := HD.out.2.2.2.2.2
      have f0 := (hbw.cell (p := ⟨gx, 0, none⟩) hgx).trans c0
      have f2 := (hbw.cell (p := ⟨gy, 0, none⟩) hgy).trans d0
      have k6 := HH.out.1.below hbw hg
      have y0' : wr.cell? ⟨g, 0, none⟩ = some a := k6.cell 0
      have y1' : wr.cell? ⟨g, 1, none⟩ = some b := k6.cell 1
      have z0 := k6.frozen 0
      have z1 := k6.frozen 1
      have gz6 := k6.lt
      have H6 := Lib.hid (head_made (s := (decide (x0 < 0) != decide (y0 < 0))) HH.out.1 HH.out.2 hbw HD.out.2.2.2.2.1)
      clear hbw k6 hN
      go_wp2_with fail
      go_region
      go_wp2_with fail
      refine (wTrim_any g t (decide (x0 < 0) != decide (y0 < 0)) (some ⟨w.heap.size, 0, none⟩) _ _ out _ (own1_drew H6.out.1)).mono ?_
      rintro e w7 ⟨rfl, hp⟩
      have HP := Lib.hid (put_trim (z := x0 * y0) HH.out.1 ⟨own1_drew H6.out.1, only_drew H6.out.2⟩ (mul_sgn (by rw [hv.out, HVX.out.1, HVX.out.2])) hp)
      clear hp
      go_wp2_with fail
      go_ret
      exact ⟨rfl, HP.out⟩
end Go.Proofs.YtkkpfdfoojcljaaGreat
namespace Go.Proofs.YtkkpfdfoojcljaaGreat
open Go.RowKit

set_option maxRecDepth 100000 in
set_option maxHeartbeats 4000000 in
theorem shiftRight_any (A : Option Addr) (n c : Nat) (l : List Nat) (k : Nat) (w : World) (h : DigsB w w.heap.size A n l) (hn : n ≤ 100000) (hn0 : 0 < n) (hnc : n ≤ c) (hcm : c ≤ maxLen) (hk : k < 32) :
    Calls Tryz.prog 112 #[.slice A n c, .int .i64 (k : Int)] w (FullP (valL l / 2 ^ k) n w) := by
  obtain ⟨e, f, he, hf, hef, he0, hf0, he31, hf32⟩ := pow_split hk
  rw [← he]
  have heI : (2 : Int) ^ k = (e : Int) := by rw [he]; exact (Int.natCast_pow 2 k).symm
  obtain ⟨j, hj⟩ : ∃ j, 32 - k = j := ⟨_, rfl⟩
  rw [hj] at hf
  have hfI : (2 : Int) ^ j = (f : Int) := by rw [hf]; exact (Int.natCast_pow 2 j).symm
  have hjI : (32 : Int) - (k : Int) = (j : Int) := by omega
  have hj32 : j ≤ 32 := by omega
  have hkj : k = 0 ∨ j < 32 := by omega
  have HEF := Lib.hid (And.intro he (And.intro hf (And.intro hef hkj)))
  clear hj he hf hef hkj
  obtain ⟨b0, off0, rfl⟩ := h.some_ hn0
  have HAB := Lib.hid (And.intro h h.len)
  clear h
  unfold maxLen at hcm
  have hkI : (k : Int) / 32 = 0 := by omega
  have hkm : (k : Int) % 32 = (k : Int) := by omega
  have hc0 : 0 < c := by omega
  have hmk := make_u n n .i64 .i64 (Nat.le_refl _) (by omega)
  have hn0I : (0 : Int) < (n : Int) := by omega
  have hn0J : ¬ (n : Int) ≤ 0 := by omega
  have H0 := Lib.hid (And.intro (own_made w (B := w.heap.size) (l := n) (c := n) (Nat.le_refl _) (by omega) (by omega)) ((Below.refl w.heap.size w).alloc (Nat.le_refl _) (.cells (zc n) 110)))
  go_enter Tryz.func112, Tryz.ntmps112
  go_wp2_with fail
  go_loopw [22] (fun s22 wr => ∃ (i : Nat) (out : List Nat), s22 = .int .i64 (i : Int) ∧ i ≤ n ∧ Hid (out.length = n ∧ Digs out ∧ valL (out.take i) + 4294967296 ^ i * (valL (l.drop i) / e) = valL l / e ∧ OwnU wr w.heap.size (.slice (some ⟨w.heap.size, 0, none⟩) n n) out ∧ Below w.heap.size w wr)) (fun s22 _ => n - (intOf s22).toNat)
  case atStart => exact ⟨0, List.replicate n 0, rfl, by omega, by simp, digs_zeros _, by simp [valL], H0.out⟩
  case round =>
    clear H0 hmk
    obtain ⟨i, out, rfl, hi, HD⟩ := hrel
    by_cases hil : i < n
    · have hilI : (i : Int) < (n : Int) := by omega
      obtain ⟨b2, off2, x, hx, ea, hb2, hcell1, hx32⟩ := digs_get HAB.out.1 hil
      injection ea with ea
      injection ea with e1 e2
      subst e1 e2
      have hcell := (HD.out.2.2.2.2.cell (p := ⟨b0, off0 + i, none⟩) hb2).trans hcell1
      obtain ⟨z, hz⟩ : ∃ z, out[i]? = some z := ⟨_, List.getElem?_eq_getElem (by have := HD.out.1; omega)⟩
      have hcell3 := HD.out.2.2.2.1.cell hz
      have hfr3 := HD.out.2.2.2.1.unfrozen i
      have hiv : i < out.length := by rw [HD.out.1]; exact hil
      have HX := Lib.hid (And.intro hx hiv)
      obtain ⟨q, hq⟩ : ∃ q, x / e = q := ⟨_, rfl⟩
      have hqx : q ≤ x := by rw [← hq]; exact Nat.div_le_self _ _
      have hxe : (x : Int) / (e : Int) = (q : Int) := by rw [← hq]; exact (Int.natCast_ediv x e).symm
      have HQ := Lib.hid hq
      clear hcell1 hx hz hiv hq
      by_cases hmore : i + 1 < n
      · have hmoreI : (i : Int) + 1 < (n : Int) := by omega
        obtain ⟨b3, off3, y, hy, eb, -, hcell4, hy32⟩ := digs_get HAB.out.1 hmore
        injection eb with eb
        injection eb with e1 e2
        subst e1 e2
        have hcell5 := (HD.out.2.2.2.2.cell (p := ⟨b0, off0 + (i + 1), none⟩) hb2).trans hcell4
        obtain ⟨r1, r2, r3⟩ := right_plain (y := y) HEF.out.2.2.1 he0 hx32
        have hr := right_round he0 HEF.out.2.2.1 (by rw [List.length_take, Nat.min_eq_left (by rw [HD.out.1]; omega)]) HD.out.2.2.1 HX.out.1 (.inl hy)
        rw [← take_set_succ HX.out.2] at hr
        clear hcell4 hy
        by_cases hk0 : 0 < k
        · have hk0I : (0 : Int) < (k : Int) := by omega
          go_upto_region 10 with fail
          have hy1 := HD.out.2.2.2.1.put HD.out.1.symm i (x := q) (by omega)
          have hyb := HD.out.2.2.2.2.setCell (p := ⟨w.heap.size, i, none⟩) (Nat.le_refl _) (.int .u32 (q : Int))
          have hq0 : (out.set i q)[i]? = some q := List.getElem?_set_self HX.out.2
          have hor : bits .or .u32 (q : Int) ((y : Int) * (f : Int) % 4294967296) = ((q + f * (y % e) : Nat) : Int) := by
            have h0 : ((y * f % 4294967296 : Nat) : Int) = (y : Int) * (f : Int) % 4294967296 := by rw [Int.natCast_emod, Int.natCast_mul]; rfl
            rw [← h0, ← r2]
            rw [HQ.out] at r1
            exact or_up (j := j) (by rw [← HEF.out.2.1]; exact r1) (by omega) (Nat.mod_lt _ (by omega)) (by rw [r2, ← HEF.out.2.1, Nat.mul_mod_right])
          rw [HQ.out] at hr r3
          obtain ⟨r, hrr⟩ : ∃ r, q + f * (y % e) = r := ⟨_, rfl⟩
          rw [hrr] at hr hor r3
          have HR := Lib.hid (And.intro hr r3)
          obtain ⟨Y, hY⟩ : ∃ Y, Y = wr.setCell ⟨w.heap.size, i, none⟩ (.int .u32 (q : Int)) := ⟨_, rfl⟩
          have c5 : Y.cell? ⟨b0, off0 + (i + 1), none⟩ = some (.int .u32 (y : Int)) := by
            rw [hY]
            exact (World.cell?_of_block (w := wr) (Below.heap_setCell wr _ _ b0 (by show b0 ≠ w.heap.size; omega))).trans hcell5
          rw [← hY] at hy1 hyb ⊢
          have c3 := hy1.cell hq0
          have f3 := hy1.unfrozen i
          have HY := Lib.hid (And.intro hy1 hyb)
          clear hy1 hyb hq0 hY hcell hcell3 hfr3 hcell5 hr r1 r2 r3 hrr
          go_region
          go_wp2_with fail
          go_roundw
          case rel => exact ⟨i + 1, out.set i r, by go_num, by omega, by rw [List.length_set]; exact HD.out.1, HD.out.2.1.set _ HR.out.2, HR.out.1, by
            have h1 := OwnU.drew (HY.out.1.put (by rw [List.length_set]; exact HD.out.1.symm) i HR.out.2)
            rwa [List.set_set] at h1, (HY.out.2.setCell (Nat.le_refl _) _).drew⟩
          case measure => simp only [intOf]; omega
        · have hk0I : ¬ (0 : Int) < (k : Int) := by omega
          have he1 : e = 1 := by rw [HEF.out.1, show k = 0 by omega, Nat.pow_zero]
          have hm0 : y % e = 0 := by rw [he1]; exact Nat.mod_one y
          rw [hm0, Nat.mul_zero, Nat.add_zero, HQ.out] at hr
          have HR := Lib.hid hr
          clear hr he1 hm0 r1 r2 r3 hcell5
          go_wp2_with fail
          go_roundw
          case rel => exact ⟨i + 1, out.set i q, by go_num, by omega, by rw [List.length_set]; exact HD.out.1, HD.out.2.1.set _ (by omega), HR.out, HD.out.2.2.2.1.put HD.out.1.symm i (by omega), HD.out.2.2.2.2.setCell (Nat.le_refl _) _⟩
          case measure => simp only [intOf]; omega
      · have hmoreI : ¬ (i : Int) + 1 < (n : Int) := by omega
        have hr := right_round (y := 0) he0 HEF.out.2.2.1 (by rw [List.length_take, Nat.min_eq_left (by rw [HD.out.1]; omega)]) HD.out.2.2.1 HX.out.1 (.inr ⟨by rw [HAB.out.2]; omega, rfl⟩)
        rw [Nat.zero_mod, Nat.mul_zero, Nat.add_zero, ← take_set_succ HX.out.2, HQ.out] at hr
        have HR := Lib.hid hr
        clear hr
        go_wp2_with fail
        go_roundw
        case rel => exact ⟨i + 1, out.set i q, by go_num, by omega, by rw [List.length_set]; exact HD.out.1, HD.out.2.1.set _ (by omega), HR.out, HD.out.2.2.2.1.put HD.out.1.symm i (by omega), HD.out.2.2.2.2.setCell (Nat.le_refl _) _⟩
        case measure => simp only [intOf]; omega
    · obtain rfl : i = n := by omega
      have hv : Hid (valL out = valL l / e) := by
        have h1 := HD.out.2.2.1
        rwa [List.take_of_length_le (by rw [HD.out.1]; exact Nat.le_refl _), List.drop_eq_nil_of_le (by rw [HAB.out.2]; exact Nat.le_refl _), valL, Nat.zero_div, Nat.mul_zero, Nat.add_zero] at h1
      go_wp2_with fail
      go_ret
      exact ⟨_, out, rfl, HD.out.2.2.2.1, hv.out, HD.out.1, HD.out.2.2.2.2⟩
set_option maxRecDepth 100000 in
set_option maxHeartbeats 4000000 in
theorem shiftLeft_any (A : Option Addr) (n c : Nat) (l : List Nat) (k : Nat) (w : World) (h : DigsB w w.heap.size A n l) (hn : n ≤ 100000) (hk : k < 32) :
    Calls Tryz.prog 111 #[.slice A n c, .int .i64 (k : Int)] w (FullP (valL l * 2 ^ k) (n + 1) w) := by
  have HAB := Lib.hid (And.intro h h.len)
  clear h
  obtain ⟨e, f, he, hf, hef, he0, hf0, he31, hf32⟩ := pow_split hk
  rw [← he]
  have heI : (2 : Int) ^ k = (e : Int) := by rw [he]; exact (Int.natCast_pow 2 k).symm
  have HEF := Lib.hid (And.intro he (And.intro hf hef))
  clear he hf hef
  have hkI : (k : Int) / 32 = 0 := by omega
  have hkm : (k : Int) % 32 = (k : Int) := by omega
  have hmk := make_u (n + 1) (n + 1) .i64 .i64 (Nat.le_refl _) (by omega)
  have hm1 : ((n + 1 : Nat) : Int) = (n : Int) + 1 := by omega
  rw [hm1] at hmk
  clear hm1
  have H0 := Lib.hid (And.intro (own_made w (B := w.heap.size) (l := n + 1) (c := n + 1) (Nat.le_refl _) (Nat.le_refl _) (by omega)) ((Below.refl w.heap.size w).alloc (Nat.le_refl _) (.cells (zc (n + 1)) 110)))
  go_enter Tryz.func111, Tryz.ntmps111
  go_wp2_with fail
  go_loopw [18] (fun s18 wr => ∃ (i p : Nat) (out : List Nat), s18 = .int .i64 (i : Int) ∧ i ≤ n ∧ p < e ∧ Hid (out.length = n + 1 ∧ Digs out ∧ out[i]? = some p ∧ (∀ j, i < j → j ≤ n → out[j]? = some 0) ∧ valL (out.take i) + 4294967296 ^ i * p = valL (l.take i) * (4294967296 ^ 0 * e) ∧ OwnU wr w.heap.size (.slice (some ⟨w.heap.size, 0, none⟩) (n + 1) (n + 1)) out ∧ Below w.heap.size w wr)) (fun s18 _ => n - (intOf s18).toNat)
  case atStart => exact ⟨0, 0, List.replicate (n + 1) 0, rfl, by omega, he0, by simp, digs_zeros _, by simp, fun j h1 h2 => by rw [List.getElem?_replicate, if_pos (by omega)], by simp [valL], H0.out⟩
  case round =>
    clear H0
    obtain ⟨i, p, out, rfl, hi, hp, HD⟩ := hrel
    by_cases hil : i < n
    · have hilI : (i : Int) < (n : Int) := by omega
      have hilJ : (i : Int) < (n : Int) + 1 := by omega
      have hilK : (i : Int) + 1 < (n : Int) + 1 := by omega
      obtain ⟨b1, off1, x, hx, ea, hb1, hcell0, hx32⟩ := digs_get HAB.out.1 hil
      subst ea
      have hcell := (HD.out.2.2.2.2.2.2.cell (p := ⟨b1, off1 + i, none⟩) hb1).trans hcell0
      have hcell3 := HD.out.2.2.2.2.2.1.cell HD.out.2.2.1
      have hcell4 := HD.out.2.2.2.2.2.1.cell (HD.out.2.2.2.1 (i + 1) (by omega) (by omega))
      have hfr3 := HD.out.2.2.2.2.2.1.unfrozen i
      have hfr4 := HD.out.2.2.2.2.2.1.unfrozen (i + 1)
      have hgl := (HD.out.2.2.2.2.2.1.lt w.heap.size rfl).2
      obtain ⟨hy, hq, hm⟩ := left_plain (x := x) HEF.out.2.2 he0 hp
      have hr := left_round (n := 0) (k := x * e + p) (out := out.take i) (by rw [List.length_take, HD.out.1]; omega) (by rw [Nat.zero_add]; exact HD.out.2.2.2.2.1) hx rfl
      rw [hq, Nat.zero_add] at hr
      have hy32 : (x * e + p) % 4294967296 < 4294967296 := Nat.mod_lt _ (by omega)
      have hor : bits .or .u32 (p : Int) ((x : Int) * (e : Int) % 4294967296) = (((x * e + p) % 4294967296 : Nat) : Int) := by
        have h0 : ((x * e % 4294967296 : Nat) : Int) = (x : Int) * (e : Int) % 4294967296 := by rw [Int.natCast_emod, Int.natCast_mul]; rfl
        rw [← h0, hy, or_up (L := p) (H := x * e % 4294967296) (j := k) (by rw [← HEF.out.1]; exact hp) (by omega) (Nat.mod_lt _ (by omega)) (by rw [← HEF.out.1]; exact hm)]
        omega
      have hqp : x / f < e := (Nat.div_lt_iff_lt_mul hf0).2 (by rw [HEF.out.2.2]; exact hx32)
      have hm1 : (x : Int) * (e : Int) ≤ 9223372034707292160 := by
        have h1 : x * e ≤ 4294967295 * 2147483648 := Nat.mul_le_mul (by omega) he31
        have h2 : ((x * e : Nat) : Int) ≤ ((4294967295 * 2147483648 : Nat) : Int) := Int.ofNat_le.2 h1
        rwa [Int.natCast_mul] at h2
      have hm0 : 0 ≤ (x : Int) * (e : Int) := Int.mul_nonneg (by omega) (by omega)
      have e1 : (x : Int) * (e : Int) % 4294967296 + (p : Int) = (((x * e + p) % 4294967296 : Nat) : Int) := by
        rw [hy, Int.natCast_add, Int.natCast_emod, Int.natCast_mul]; rfl
      have e2 : (x : Int) * (e : Int) / 4294967296 = ((x / f : Nat) : Int) := by
        have h1 : x * e / 4294967296 = x / f := by rw [← HEF.out.2.2, Nat.mul_comm e f]; exact Nat.mul_div_mul_right x f he0
        rw [← h1, Int.natCast_ediv, Int.natCast_mul]; rfl
      have HE := Lib.hid (And.intro e1 e2)
      have HR := Lib.hid (And.intro hr (And.intro hy32 hqp))
      clear e1 e2 hr hy32 hq hm hb1 hcell0
      go_wp2_with fail
      rw [HE.out.1, HE.out.2]
      go_roundw
      case rel => exact ⟨i + 1, x / f, (out.set i ((x * e + p) % 4294967296)).set (i + 1) (x / f), by go_num, by omega, HR.out.2.2, by rw [List.length_set, List.length_set]; exact HD.out.1, (HD.out.2.1.set _ HR.out.2.1).set _ (by omega),
        List.getElem?_set_self (by rw [List.length_set, HD.out.1]; omega), fun j h1 h2 => by rw [List.getElem?_set_ne (by omega), List.getElem?_set_ne (by omega)]; exact HD.out.2.2.2.1 j (by omega) h2,
        by rw [List.take_set_of_le (Nat.le_refl _), take_set (by rw [HD.out.1]; omega)]; exact HR.out.1,
        (HD.out.2.2.2.2.2.1.put HD.out.1.symm i HR.out.2.1).put (by rw [List.length_set]; exact HD.out.1.symm) (i + 1) (by omega), (HD.out.2.2.2.2.2.2.setCell (Nat.le_refl _) _).setCell (Nat.le_refl _) _⟩
      case measure => simp only [intOf]; omega
    · obtain rfl : i = n := by omega
      have hend : valL out = valL l * e := by
        have h1 := HD.out.2.2.2.2.1
        rw [List.take_of_length_le (l := l) (by rw [HAB.out.2]; exact Nat.le_refl _)] at h1
        have h2 := val_take_succ HD.out.2.2.1
        rw [List.take_of_length_le (by rw [HD.out.1]; exact Nat.le_refl _)] at h2
        rw [h2, h1, Nat.pow_zero, Nat.one_mul]
      have HE := Lib.hid hend
      clear hend
      go_wp2_with fail
      go_ret
      exact ⟨_, out, rfl, HD.out.2.2.2.2.2.1, HE.out, HD.out.1, HD.out.2.2.2.2.2.2⟩
end Go.Proofs.YtkkpfdfoojcljaaGreat
