/- Walk: package long's right (by less than 32 bits, at least one digit). · Walk: package long's subtract. -/
import Derived.Test.YtkkpfdfoojcljaaGreatLgOR
import Derived.BigRegion
namespace Go.Proofs.YtkkpfdfoojcljaaGreat
open Go.RowKit

theorem or_up {L H j : Nat} (hL : L < 2 ^ j) (hL2 : L < 4294967296) (hH : H < 4294967296) (hm : H % 2 ^ j = 0) : bits .or .u32 (L : Int) (H : Int) = ((L + H : Nat) : Int) := by
  rw [bits_join_low .u32 32 (by decide) wraps_u32 j (L : Int) (H : Int) (by omega) (by exact_mod_cast hL) (by omega) (by omega) (by exact_mod_cast congrArg (Nat.cast : Nat → Int) hm) (by omega)]
  omega
theorem right_plain {x y e f : Nat} (hef : e * f = 4294967296) (he : 0 < e) (hx : x < 4294967296) : x / e < f ∧ y * f % 4294967296 = f * (y % e) ∧ x / e + f * (y % e) < 4294967296 := by
  have h1 : x / e < f := (Nat.div_lt_iff_lt_mul he).2 (by rw [Nat.mul_comm, hef]; exact hx)
  have h2 : f * (y % e) + f ≤ 4294967296 := by
    have h3 := Nat.mod_lt y he
    have h4 : f * (y % e + 1) ≤ f * e := Nat.mul_le_mul_left _ h3
    rw [Nat.mul_add, Nat.mul_comm f e, hef] at h4
    omega
  exact ⟨h1, by rw [← hef, Nat.mul_comm e f, Nat.mul_comm y f, Nat.mul_mod_mul_left], by omega⟩
def RightP (N n : Nat) (w : World) (e : Ending) (w' : World) : Prop := ∃ v l b, e = .returned (.tuple #[v, .bool b]) ∧ OwnU w' w.heap.size v l ∧ valL l = N ∧ l.length = n ∧ Below w.heap.size w w'
set_option maxRecDepth 100000 in
set_option maxHeartbeats 4000000 in
theorem right_any (A : Option Addr) (n c : Nat) (l : List Nat) (k : Nat) (w : World) (h : DigsB w w.heap.size A n l) (hn : n ≤ 100000) (hn0 : 0 < n) (hnc : n ≤ c) (hcm : c ≤ maxLen) (hk : k < 32) :
    Calls Tryz.prog 117 #[.slice A n c, .int .i64 (k : Int)] w (RightP (valL l / 2 ^ k) n w) := by
  obtain ⟨e, f, he, hf, hef, he0, hf0, he31, hf32⟩ := pow_split hk
  rw [← he]
  have heI : (2 : Int) ^ k = (e : Int) := by rw [he]; exact (Int.natCast_pow 2 k).symm
  obtain ⟨j, hj⟩ : ∃ j, 32 - k = j := ⟨_, rfl⟩
  rw [hj] at hf
  have hfI : (2 : Int) ^ j = (f : Int) := by rw [hf]; exact (Int.natCast_pow 2 j).symm
  have hjI : (32 : Int) - (k : Int) = (j : Int) := by omega
  have hj32 : j ≤ 32 := by omega
  have hkj : k = 0 ∨ j < 32 := by omega
  have HEF := Lib.hid (And.intro he (And.intro hf (And.intro hef hkj)))
  clear hj he hf hef hkj
  obtain ⟨b0, off0, rfl⟩ := h.some_ hn0
  have HAB := Lib.hid (And.intro h h.len)
  clear h
  unfold maxLen at hcm
  have hkI : (k : Int) / 32 = 0 := by omega
  have hkm : (k : Int) % 32 = (k : Int) := by omega
  have hc0 : 0 < c := by omega
  have hmk := make_u n n .i64 .i64 (Nat.le_refl _) (by omega)
  go_enter Tryz.func117, Tryz.ntmps117
  go_wp2_with fail
  obtain ⟨b1, off1, x0, hx0, ea, hb0, hcell0, hx032⟩ := digs_get HAB.out.1 (i := 0) hn0
  injection ea with ea
  injection ea with e1 e2
  subst e1 e2
  rw [Nat.add_zero] at hcell0
  have hn0I : (0 : Int) < (n : Int) := by omega
  have hnz : ((n : Int) == 0) = false := by rw [beq_eq_false_iff_ne]; omega
  clear hx0
  refine wp_loop_rounds 1 ?_
  rw [rounds_succ]
  go_upto_region 12 with fail
  rw [hkm]
  go_cut [6] (fun s6 wx => ∃ b : Bool, s6 = .bool b ∧ wx = w)
  case first =>
    by_cases hz : (x0 : Int) * (f : Int) % 4294967296 = 0
    · have hzb : ((x0 : Int) * (f : Int) % 4294967296 != 0) = false := by simp [hz]
      go_wp2_with fail
      go_meet
      exact ⟨_, rfl, rfl⟩
    · have hzb : ((x0 : Int) * (f : Int) % 4294967296 != 0) = true := by simp [hz]
      go_wp2_with fail
      go_meet
      exact ⟨_, rfl, rfl⟩
  case rest =>
    obtain ⟨lb, rfl, rfl⟩ := hcut
    have H0 := Lib.hid (And.intro (own_made wc (B := wc.heap.size) (l := n) (c := n) (Nat.le_refl _) (by omega) (by omega)) ((Below.refl wc.heap.size wc).alloc (Nat.le_refl _) (.cells (zc n) 110)))
    clear hcell0 hx032
    go_wp2_with fail
    go_loopw [60] (fun s60 wr => ∃ (i : Nat) (out : List Nat), s60 = .int .i64 (i : Int) ∧ i ≤ n ∧ Hid (out.length = n ∧ Digs out ∧ valL (out.take i) + 4294967296 ^ i * (valL (l.drop i) / e) = valL l / e ∧ OwnU wr wc.heap.size (.slice (some ⟨wc.heap.size, 0, none⟩) n n) out ∧ Below wc.heap.size wc wr)) (fun s60 _ => n - (intOf s60).toNat)
    case atStart => exact ⟨0, List.replicate n 0, rfl, by omega, by simp, digs_zeros _, by simp [valL], H0.out⟩
    case round =>
      clear H0 hmk
      obtain ⟨i, out, rfl, hi, HD⟩ := hrel
      by_cases hil : i < n
      · have hilI : (i : Int) < (n : Int) := by omega
        obtain ⟨b2, off2, x, hx, ea, hb2, hcell1, hx32⟩ := digs_get HAB.out.1 hil
        injection ea with ea
        injection ea with e1 e2
        subst e1 e2
        have hcell := (HD.out.2.2.2.2.cell (p := ⟨b0, off0 + i, none⟩) hb2).trans hcell1
        obtain ⟨z, hz⟩ : ∃ z, out[i]? = some z := ⟨_, List.getElem?_eq_getElem (by have := HD.out.1; omega)⟩
        have hcell3 := HD.out.2.2.2.1.cell hz
        have hfr3 := HD.out.2.2.2.1.unfrozen i
        have hiv : i < out.length := by rw [HD.out.1]; exact hil
        have HX := Lib.hid (And.intro hx hiv)
        obtain ⟨q, hq⟩ : ∃ q, x / e = q := ⟨_, rfl⟩
        have hqx : q ≤ x := by rw [← hq]; exact Nat.div_le_self _ _
        have hxe : (x : Int) / (e : Int) = (q : Int) := by rw [← hq]; exact (Int.natCast_ediv x e).symm
        have HQ := Lib.hid hq
        clear hcell1 hx hz hiv hq
        by_cases hmore : i + 1 < n
        · have hmoreI : (i : Int) + 1 < (n : Int) := by omega
          obtain ⟨b3, off3, y, hy, eb, -, hcell4, hy32⟩ := digs_get HAB.out.1 hmore
          injection eb with eb
          injection eb with e1 e2
          subst e1 e2
          have hcell5 := (HD.out.2.2.2.2.cell (p := ⟨b0, off0 + (i + 1), none⟩) hb2).trans hcell4
          obtain ⟨r1, r2, r3⟩ := right_plain (y := y) HEF.out.2.2.1 he0 hx32
          have hr := right_round he0 HEF.out.2.2.1 (by rw [List.length_take, Nat.min_eq_left (by rw [HD.out.1]; omega)]) HD.out.2.2.1 HX.out.1 (.inl hy)
          rw [← take_set_succ HX.out.2] at hr
          clear hcell4 hy
          by_cases hk0 : 0 < k
          · have hk0I : (0 : Int) < (k : Int) := by omega
            go_upto_region 19 with fail
            have hy1 := HD.out.2.2.2.1.put HD.out.1.symm i (x := q) (by omega)
            have hyb := HD.out.2.2.2.2.setCell (p := ⟨wc.heap.size, i, none⟩) (Nat.le_refl _) (.int .u32 (q : Int))
            have hq0 : (out.set i q)[i]? = some q := List.getElem?_set_self HX.out.2
            have hor : bits .or .u32 (q : Int) ((y : Int) * (f : Int) % 4294967296) = ((q + f * (y % e) : Nat) : Int) := by
              have h0 : ((y * f % 4294967296 : Nat) : Int) = (y : Int) * (f : Int) % 4294967296 := by rw [Int.natCast_emod, Int.natCast_mul]; rfl
              rw [← h0, ← r2]
              rw [HQ.out] at r1
              exact or_up (j := j) (by rw [← HEF.out.2.1]; exact r1) (by omega) (Nat.mod_lt _ (by omega)) (by rw [r2, ← HEF.out.2.1, Nat.mul_mod_right])
            rw [HQ.out] at hr r3
            obtain ⟨r, hrr⟩ : ∃ r, q + f * (y % e) = r := ⟨_, rfl⟩
            rw [hrr] at hr hor r3
            have HR := Lib.hid (And.intro hr r3)
            obtain ⟨Y, hY⟩ : ∃ Y, Y = wr.setCell ⟨wc.heap.size, i, none⟩ (.int .u32 (q : Int)) := ⟨_, rfl⟩
            have c5 : Y.cell? ⟨b0, off0 + (i + 1), none⟩ = some (.int .u32 (y : Int)) := by
              rw [hY]
              exact (World.cell?_of_block (w := wr) (Below.heap_setCell wr _ _ b0 (by show b0 ≠ wc.heap.size; omega))).trans hcell5
            rw [← hY] at hy1 hyb ⊢
            have c3 := hy1.cell hq0
            have f3 := hy1.unfrozen i
            have HY := Lib.hid (And.intro hy1 hyb)
            clear hy1 hyb hq0 hY hcell hcell3 hfr3 hcell5 hr r1 r2 r3 hrr
            go_region
            go_wp2_with fail
            go_roundw
            case rel => exact ⟨i + 1, out.set i r, by go_num, by omega, by rw [List.length_set]; exact HD.out.1, HD.out.2.1.set _ HR.out.2, HR.out.1, by
              have h1 := OwnU.drew (HY.out.1.put (by rw [List.length_set]; exact HD.out.1.symm) i HR.out.2)
              rwa [List.set_set] at h1, (HY.out.2.setCell (Nat.le_refl _) _).drew⟩
            case measure => simp only [intOf]; omega
          · have hk0I : ¬ (0 : Int) < (k : Int) := by omega
            have he1 : e = 1 := by rw [HEF.out.1, show k = 0 by omega, Nat.pow_zero]
            have hm0 : y % e = 0 := by rw [he1]; exact Nat.mod_one y
            rw [hm0, Nat.mul_zero, Nat.add_zero, HQ.out] at hr
            have HR := Lib.hid hr
            clear hr he1 hm0 r1 r2 r3 hcell5
            go_wp2_with fail
            go_roundw
            case rel => exact ⟨i + 1, out.set i q, by go_num, by omega, by rw [List.length_set]; exact HD.out.1, HD.out.2.1.set _ (by omega), HR.out, HD.out.2.2.2.1.put HD.out.1.symm i (by omega), HD.out.2.2.2.2.setCell (Nat.le_refl _) _⟩
            case measure => simp only [intOf]; omega
        · have hmoreI : ¬ (i : Int) + 1 < (n : Int) := by omega
          have hr := right_round (y := 0) he0 HEF.out.2.2.1 (by rw [List.length_take, Nat.min_eq_left (by rw [HD.out.1]; omega)]) HD.out.2.2.1 HX.out.1 (.inr ⟨by rw [HAB.out.2]; omega, rfl⟩)
          rw [Nat.zero_mod, Nat.mul_zero, Nat.add_zero, ← take_set_succ HX.out.2, HQ.out] at hr
          have HR := Lib.hid hr
          clear hr
          go_wp2_with fail
          go_roundw
          case rel => exact ⟨i + 1, out.set i q, by go_num, by omega, by rw [List.length_set]; exact HD.out.1, HD.out.2.1.set _ (by omega), HR.out, HD.out.2.2.2.1.put HD.out.1.symm i (by omega), HD.out.2.2.2.2.setCell (Nat.le_refl _) _⟩
          case measure => simp only [intOf]; omega
      · obtain rfl : i = n := by omega
        have hv : Hid (valL out = valL l / e) := by
          have h1 := HD.out.2.2.1
          rwa [List.take_of_length_le (by rw [HD.out.1]; exact Nat.le_refl _), List.drop_eq_nil_of_le (by rw [HAB.out.2]; exact Nat.le_refl _), valL, Nat.zero_div, Nat.mul_zero, Nat.add_zero] at h1
        go_wp2_with fail
        go_ret2
        exact ⟨_, out, lb, rfl, HD.out.2.2.2.1, hv.out, HD.out.1, HD.out.2.2.2.2⟩
end Go.Proofs.YtkkpfdfoojcljaaGreat
namespace Go.Proofs.YtkkpfdfoojcljaaGreat
open Go.RowKit

theorem window_set {U out : List Nat} {j i d : Nat} (hl : out.length = i) (hj : j + i < U.length) : (U.take j ++ out ++ U.drop (j + i)).set (j + i) d = U.take j ++ (out ++ [d]) ++ U.drop (j + (i + 1)) := by
  rw [List.set_append_right _ _ (by rw [List.length_append, List.length_take, hl, Nat.min_eq_left (by omega)]; exact Nat.le_refl _), List.length_append, List.length_take, hl, Nat.min_eq_left (by omega), Nat.sub_self, drop_cons hj, List.set_cons_zero]
  simp [Nat.add_assoc]
theorem window_get {U out : List Nat} {j i : Nat} (hl : out.length = i) (hj : j + i < U.length) : (U.take j ++ out ++ U.drop (j + i))[j + i]? = U[j + i]? := by
  rw [List.getElem?_append_right (by rw [List.length_append, List.length_take, hl, Nat.min_eq_left (by omega)]; exact Nat.le_refl _), List.length_append, List.length_take, hl, Nat.min_eq_left (by omega), Nat.sub_self, List.getElem?_drop, Nat.add_zero]
theorem window_len {U out : List Nat} {j i : Nat} (hl : out.length = i) (hj : j + i ≤ U.length) : (U.take j ++ out ++ U.drop (j + i)).length = U.length := by
  rw [List.length_append, List.length_append, List.length_take, List.length_drop, hl, Nat.min_eq_left (by omega)]; omega
theorem mask32 (a : Nat) (ha : a < 18446744073709551616) : bits .and .u64 (a : Int) 4294967295 = ((a % 4294967296 : Nat) : Int) := by
  have h := u64_and_nat a 4294967295 ha (by omega)
  have h2 : a &&& 4294967295 = a % 4294967296 := Nat.and_two_pow_sub_one_eq_mod a 32
  rw [h2] at h
  exact h
/-- a digit of a difference, in Go's unsigned numbers -/
theorem sub_digit {x m o : Nat} (hx : x < 4294967296) (hm : m < 4294967296) (ho : o ≤ 1) : ∃ d o' : Nat, d < 4294967296 ∧ o' ≤ 1 ∧ d + m + o = x + 4294967296 * o' ∧
    IntKind.u64.wrap (IntKind.u64.wrap ((x : Int) - (m : Int)) - (o : Int)) % 4294967296 = (d : Int) ∧ IntKind.u64.wrap (IntKind.u64.wrap ((x : Int) - (m : Int)) - (o : Int)) / 9223372036854775808 = (o' : Int) := by
  rw [IntKind.wrap_u64, IntKind.wrap_u64]
  by_cases h : x < m + o
  · exact ⟨x + 4294967296 - m - o, 1, by omega, by omega, by omega, by omega, by omega⟩
  · exact ⟨x - m - o, 0, by omega, by omega, by omega, by omega, by omega⟩
/-- what is taken off the window W at j of the row U, of M digits -/
def SubP (g L c B0 j M : Nat) (U : List Nat) (N : Nat) (w : World) (e : Ending) (w' : World) : Prop := ∃ (o : Nat) (out : List Nat), e = .returned (.bool (decide (0 < o))) ∧ o ≤ 1 ∧ out.length = M ∧ Digs out ∧
  valL out + N = valL ((U.drop j).take M) + 4294967296 ^ M * o ∧ OwnU w' B0 (.slice (some ⟨g, 0, none⟩) L c) (U.take j ++ out ++ U.drop (j + M)) ∧ w.grownBy w' (some g)
set_option maxRecDepth 100000 in
set_option maxHeartbeats 4000000 in
theorem subtract_any (g L c B0 j M cc : Nat) (U : List Nat) (A2 : Option Addr) (n2 c2 : Nat) (v : List Nat) (G : Nat) (w : World) (h : OwnU w B0 (.slice (some ⟨g, 0, none⟩) L c) U) (hL : U.length = L) (h2 : Arr AtU 1 w (fun b => b ≠ g ∧ b < w.heap.size) A2 n2 v) (hM : M = n2 + 1) (hj : j + M ≤ L) (hL5 : L ≤ 200000) (hG : G < 4294967296) :
    Calls Tryz.prog 116 #[.slice (some ⟨g, j, none⟩) M cc, .slice A2 n2 c2, .int .u64 (G : Int)] w (SubP g L c B0 j M U (G * valL v) w) := by
  have HAB := Lib.hid (And.intro h (And.intro hL (And.intro h2 (And.intro h2.len hM))))
  have hMn : n2 < M := by omega
  clear h hL h2 hM
  go_enter Tryz.func116, Tryz.ntmps116
  go_wp2_with fail
  go_loopw [7, 8, 13] (fun s7 s8 s13 wr => ∃ (i p o : Nat) (out : List Nat), s13 = .int .i64 (i : Int) ∧ s8 = .int .u64 (p : Int) ∧ s7 = .int .u64 (o : Int) ∧ i ≤ M ∧ p < 4294967296 ∧ o ≤ 1 ∧ Hid (out.length = i ∧ Digs out ∧ valL out + G * valL (v.take i) = valL (((U.drop j).take M).take i) + 4294967296 ^ i * (p + o) ∧ (n2 < i → p = 0) ∧ OwnU wr B0 (.slice (some ⟨g, 0, none⟩) L c) (U.take j ++ out ++ U.drop (j + i)) ∧ w.grownBy wr (some g))) (fun _ _ s13 _ => M - (intOf s13).toNat)
  case atStart => exact ⟨0, 0, 0, [], rfl, rfl, rfl, by omega, by omega, by omega, rfl, Digs.nil_, by simp [valL], fun _ => rfl, by simpa using HAB.out.1, only_refl w (some g)⟩
  case round =>
    obtain ⟨i, p, o, out, rfl, rfl, rfl, hi, hp, ho, HD⟩ := hrel
    by_cases hil : i < M
    · have hilI : (i : Int) < (M : Int) := by omega
      obtain ⟨x, hx⟩ : ∃ x, U[j + i]? = some x := ⟨_, List.getElem?_eq_getElem (by have := HAB.out.2.1; omega)⟩
      have hx2 : (U.take j ++ out ++ U.drop (j + i))[j + i]? = some x := (window_get HD.out.1 (by have := HAB.out.2.1; omega)).trans hx
      have hx32 := dig_at HAB.out.1.digs hx
      have hcell := HD.out.2.2.2.2.1.cell hx2
      have hfr := HD.out.2.2.2.2.1.unfrozen (j + i)
      have hx3 : ((U.drop j).take M)[i]? = some x := by rw [List.getElem?_take, if_pos hil, List.getElem?_drop]; exact hx
      have HX := Lib.hid (And.intro hx hx3)
      clear hx hx2 hx3
      by_cases hib : i < n2
      · have hibI : (i : Int) < (n2 : Int) := by omega
        obtain ⟨b2, off2, hlt2, eb, ⟨hb2, hb2s⟩, hcell20, hy32⟩ := Arr.get HAB.out.2.2.1 hib
        have hy : v[i]? = some v[i] := List.getElem?_eq_getElem hlt2
        rw [Nat.mul_one] at hcell20
        generalize v[i] = y at hy hcell20 hy32
        subst eb
        have hcell2 := (only_cell HD.out.2.2.2.2.2 hb2s (by simpa using (Ne.symm hb2))).trans hcell20
        obtain ⟨hm0, hm1⟩ := mul_cast_le hG hy32
        have HY := Lib.hid hy
        clear hcell20 hy hlt2
        go_wp2_with fail
        obtain ⟨q, hq⟩ : ∃ q, G * y = q := ⟨_, rfl⟩
        have hqI : (G : Int) * (y : Int) = (q : Int) := by rw [← hq, Int.natCast_mul]
        have hmask : bits .and .u64 ((p : Int) + (q : Int)) 4294967295 = (((p + q) % 4294967296 : Nat) : Int) := by
          have := mask32 (p + q) (by omega)
          rwa [Int.natCast_add] at this
        have hpqI : ((p : Int) + (q : Int)) / 4294967296 = (((p + q) / 4294967296 : Nat) : Int) := by omega
        obtain ⟨d, o2, hd32, ho2, hdo, hd, hod⟩ := sub_digit (m := (p + q) % 4294967296) hx32 (Nat.mod_lt _ (by omega)) ho
        have hr := off_round (c := p) (g := G) (t := y) HD.out.1 HD.out.2.2.1 HX.out.2 (.inl HY.out) (d := d) (o' := o2) (by rw [hq]; exact hdo)
        rw [hq] at hr
        rw [hqI, hpqI, hmask, hd, hod]
        clear hd hod hmask
        go_roundw
        case rel => exact ⟨i + 1, (p + q) / 4294967296, o2, out ++ [d], by go_num, rfl, rfl, by omega, by omega, ho2, by rw [List.length_append, HD.out.1]; rfl, digs_snoc HD.out.2.1 hd32, hr, fun h => by omega, by
          have h1 := HD.out.2.2.2.2.1.put (by rw [window_len HD.out.1 (by have := HAB.out.2.1; omega)]; exact HAB.out.2.1.symm) (j + i) hd32
          rwa [window_set HD.out.1 (by have := HAB.out.2.1; omega)] at h1, only_setCell HD.out.2.2.2.2.2 (.inl rfl) _⟩
        case measure => simp only [intOf]; omega
      · have hibI : ¬ (i : Int) < (n2 : Int) := by omega
        have hin : i = n2 := by have := HAB.out.2.2.2.2; omega
        have HIN := Lib.hid hin
        clear hin
        go_wp2_with fail
        have hmask : bits .and .u64 (p : Int) 4294967295 = ((p % 4294967296 : Nat) : Int) := mask32 p (by omega)
        have hpqI : (p : Int) / 4294967296 = ((p / 4294967296 : Nat) : Int) := by omega
        obtain ⟨d, o2, hd32, ho2, hdo, hd, hod⟩ := sub_digit (m := p % 4294967296) hx32 (Nat.mod_lt _ (by omega)) ho
        have hr := off_round (c := p) (g := G) (t := 0) HD.out.1 HD.out.2.2.1 HX.out.2 (.inr ⟨by rw [HAB.out.2.2.2.1, HIN.out]; exact Nat.le_refl _, rfl⟩) (d := d) (o' := o2) (by rw [Nat.mul_zero, Nat.add_zero]; exact hdo)
        rw [Nat.mul_zero, Nat.add_zero] at hr
        rw [hmask, hd, hod]
        try rw [hpqI]
        clear hd hod hmask
        go_roundw
        case rel => exact ⟨i + 1, p / 4294967296, o2, out ++ [d], by go_num, rfl, rfl, by omega, by omega, ho2, by rw [List.length_append, HD.out.1]; rfl, digs_snoc HD.out.2.1 hd32, hr, fun _ => by omega, by
          have h1 := HD.out.2.2.2.2.1.put (by rw [window_len HD.out.1 (by have := HAB.out.2.1; omega)]; exact HAB.out.2.1.symm) (j + i) hd32
          rwa [window_set HD.out.1 (by have := HAB.out.2.1; omega)] at h1, only_setCell HD.out.2.2.2.2.2 (.inl rfl) _⟩
        case measure => simp only [intOf]; omega
    · obtain rfl : i = M := by omega
      have hp0 : p = 0 := HD.out.2.2.2.1 hMn
      have hend : Hid (valL out + G * valL v = valL ((U.drop j).take i) + 4294967296 ^ i * o) := by
        have h1 := HD.out.2.2.1
        rw [hp0, Nat.zero_add, List.take_of_length_le (l := v) (by rw [HAB.out.2.2.2.1]; omega), List.take_take, Nat.min_self] at h1
        exact h1
      have hoI : decide ((0 : Int) < (o : Int)) = decide (0 < o) := by rw [decide_eq_decide]; omega
      clear hp0
      go_wp2_with fail
      go_ret
      exact ⟨o, out, rfl, ho, HD.out.1, HD.out.2.1, hend.out, HD.out.2.2.2.2.1, HD.out.2.2.2.2.2⟩
end Go.Proofs.YtkkpfdfoojcljaaGreat
