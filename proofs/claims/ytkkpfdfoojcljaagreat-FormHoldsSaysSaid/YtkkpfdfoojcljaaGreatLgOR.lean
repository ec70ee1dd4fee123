/- Walk: package long's times. · Walk: package long's short. · Walk: package long's left (by less than 32 bits). -/
import Derived.Test.YtkkpfdfoojcljaaGreatLgN
namespace Go.Proofs.YtkkpfdfoojcljaaGreat
open Go.RowKit

theorem set_zeros {l : List Nat} {a N : Nat} (h : ∀ j, a ≤ j → j < N → l[j]? = some 0) {i : Nat} (hi : i < a) (v : Nat) : ∀ j, a ≤ j → j < N → (l.set i v)[j]? = some 0 := fun j h1 h2 => by
  rw [List.getElem?_set_ne (by omega)]; exact h j h1 h2
theorem mul_cast_le {x y : Nat} (hx : x < 4294967296) (hy : y < 4294967296) : 0 ≤ (x : Int) * (y : Int) ∧ (x : Int) * (y : Int) ≤ 18446744065119617025 := by
  have h : x * y ≤ 4294967295 * 4294967295 := Nat.mul_le_mul (by omega) (by omega)
  have h2 : ((x * y : Nat) : Int) ≤ ((4294967295 * 4294967295 : Nat) : Int) := Int.ofNat_le.2 h
  rw [Int.natCast_mul] at h2
  exact ⟨Int.mul_nonneg (by omega) (by omega), h2⟩
set_option maxRecDepth 100000 in
set_option maxHeartbeats 4000000 in
theorem times_any (A : Option Addr) (n c : Nat) (l : List Nat) (A2 : Option Addr) (n2 c2 : Nat) (m : List Nat) (w : World) (h : DigsB w w.heap.size A n l) (h2 : DigsB w w.heap.size A2 n2 m) (hn : n ≤ 50000) (hn2 : n2 ≤ 50000) :
    Calls Tryz.prog 102 #[.slice A n c, .slice A2 n2 c2] w (ValP (valL l * valL m) (n + n2) w) := by
  have HAB := Lib.hid (And.intro h (And.intro h2 (And.intro h.len h2.len)))
  clear h h2
  have hmk := make_u (n + n2) (n + n2) .i64 .i64 (Nat.le_refl _) (by omega)
  have H0 := Lib.hid (And.intro (own_made w (B := w.heap.size) (l := n + n2) (c := n + n2) (Nat.le_refl _) (by omega) (by omega)) ((Below.refl w.heap.size w).alloc (Nat.le_refl _) (.cells (zc (n + n2)) 110)))
  rw [Int.natCast_add] at hmk
  go_enter Tryz.func102, Tryz.ntmps102
  go_wp2_with fail
  obtain ⟨N, hN⟩ : ∃ N, N = n + n2 := ⟨_, rfl⟩
  rw [← hN] at H0 ⊢
  go_loopw [19] (fun s19 wr => ∃ (i : Nat) (out : List Nat), s19 = .int .i64 (i : Int) ∧ i ≤ n ∧ Hid (out.length = N ∧ Digs out ∧ valL out = valL (l.take i) * valL m ∧ (∀ j, i + n2 ≤ j → j < N → out[j]? = some 0) ∧ OwnU wr w.heap.size (.slice (some ⟨w.heap.size, 0, none⟩) N N) out ∧ Below w.heap.size w wr)) (fun s19 _ => n - (intOf s19).toNat)
  case atStart => exact ⟨0, List.replicate N 0, rfl, by omega, by simp, digs_zeros _, by rw [val_zeros]; simp [valL], fun j _ hj => by rw [List.getElem?_replicate, if_pos hj], H0.out⟩
  case round =>
    clear H0 hmk
    obtain ⟨i, out, rfl, hi, HD⟩ := hrel
    by_cases hil : i < n
    · have hilI : (i : Int) < (n : Int) := by omega
      obtain ⟨b1, off1, x, hx, ea, hb1, hcell0, hx32⟩ := digs_get HAB.out.1 hil
      subst ea
      have hcell := (HD.out.2.2.2.2.2.cell (p := ⟨b1, off1 + i, none⟩) hb1).trans hcell0
      have HX := Lib.hid hx
      clear hcell0 hb1 hx
      go_wp2_with fail
      go_loopw [8, 26] (fun s8 s26 wq => ∃ (k p : Nat) (o2 : List Nat), s26 = .int .i64 (k : Int) ∧ s8 = .int .u64 (p : Int) ∧ k ≤ n2 ∧ p < 4294967296 ∧ Hid (o2.length = N ∧ Digs o2 ∧ valL o2 + 4294967296 ^ (i + k) * p = valL out + 4294967296 ^ i * x * valL (m.take k) ∧ (∀ j, i + n2 ≤ j → j < N → o2[j]? = some 0) ∧ OwnU wq w.heap.size (.slice (some ⟨w.heap.size, 0, none⟩) N N) o2 ∧ Below w.heap.size w wq)) (fun _ s26 _ => n2 - (intOf s26).toNat)
      case atStart => exact ⟨0, 0, out, rfl, rfl, by omega, by omega, HD.out.1, HD.out.2.1, by simp [valL], HD.out.2.2.2⟩
      case round =>
        obtain ⟨k, p, o2, rfl, rfl, hk, hp, HE⟩ := hrel
        by_cases hkl : k < n2
        · have hklI : (k : Int) < (n2 : Int) := by omega
          obtain ⟨b2, off2, y, hy, eb, hb2, hcell20, hy32⟩ := digs_get HAB.out.2.1 hkl
          subst eb
          have hcell2 := (HE.out.2.2.2.2.2.cell (p := ⟨b2, off2 + k, none⟩) hb2).trans hcell20
          obtain ⟨z, hz⟩ : ∃ z, o2[i + k]? = some z := ⟨_, List.getElem?_eq_getElem (by have := HE.out.1; omega)⟩
          have hz32 := dig_at HE.out.2.1 hz
          have hcell3 := HE.out.2.2.2.2.1.cell hz
          have hfr3 := HE.out.2.2.2.2.1.unfrozen (i + k)
          have hr := times_round HE.out.2.2.1 hy hz
          have hfit := times_fits hp hx32 hy32 hz32
          have HY := Lib.hid (And.intro hr hfit)
          clear hcell20 hb2 hy hz hr hfit
          obtain ⟨hm0, hm1⟩ := mul_cast_le hx32 hy32
          have hikN : (i : Int) + (k : Int) < (N : Int) := by omega
          go_wp2_with fail
          obtain ⟨q, hq⟩ : ∃ q, x * y = q := ⟨_, rfl⟩
          have hqI : (x : Int) * (y : Int) = (q : Int) := by rw [← hq, Int.natCast_mul]
          have hY := HY.out
          rw [hq] at hY
          have e1 : (((p + (q + z)) % 4294967296 : Nat) : Int) = ((p : Int) + ((q : Int) + (z : Int))) % 4294967296 := by omega
          have e2 : (((p + (q + z)) / 4294967296 : Nat) : Int) = ((p : Int) + ((q : Int) + (z : Int))) / 4294967296 := by omega
          have hd : (p + (q + z)) % 4294967296 < 4294967296 := Nat.mod_lt _ (by omega)
          have hd2 : (p + (q + z)) / 4294967296 < 4294967296 := by have := hY.2; omega
          rw [hqI, ← e1, ← e2]
          clear HY hq hqI e1 e2 hm0 hm1
          go_roundw
          case rel => exact ⟨k + 1, _, o2.set (i + k) ((p + (q + z)) % 4294967296), by go_num, rfl, by omega, hd2, by rw [List.length_set]; exact HE.out.1, HE.out.2.1.set _ hd, hY.1, set_zeros HE.out.2.2.2.1 (by omega) _, HE.out.2.2.2.2.1.put HE.out.1.symm _ hd, HE.out.2.2.2.2.2.setCell (Nat.le_refl _) _⟩
          case measure => simp only [intOf]; omega
        · obtain rfl : k = n2 := by omega
          have hz : o2[i + k]? = some 0 := HE.out.2.2.2.1 _ (Nat.le_refl _) (by omega)
          have hcell3 := HE.out.2.2.2.2.1.cell hz
          have hfr3 := HE.out.2.2.2.2.1.unfrozen (i + k)
          have hv : Hid (valL (o2.set (i + k) p) = valL (l.take (i + 1)) * valL m) := by
            have h1 := HE.out.2.2.1
            have h2 := val_set hz p
            rw [List.take_of_length_le (by rw [HAB.out.2.2.2]; exact Nat.le_refl _), HD.out.2.2.1] at h1
            show _ = _
            rw [val_take_succ HX.out, Nat.add_mul]
            omega
          have hikN : (i : Int) + (k : Int) < (N : Int) := by omega
          have hpm : (p : Int) % 4294967296 = (p : Int) := by omega
          clear hz
          go_wp2_with fail
          go_roundw
          case rel => exact ⟨i + 1, o2.set (i + k) p, by go_num, by omega, by rw [List.length_set]; exact HE.out.1, HE.out.2.1.set _ hp, hv.out, fun j h1 h2 => by rw [List.getElem?_set_ne (by omega)]; exact HE.out.2.2.2.1 j (by omega) h2, HE.out.2.2.2.2.1.put HE.out.1.symm _ hp, HE.out.2.2.2.2.2.setCell (Nat.le_refl _) _⟩
          case measure => simp only [intOf]; omega
    · obtain rfl : i = n := by omega
      have hv : Hid (valL out = valL l * valL m) := by
        have h1 := HD.out.2.2.1
        rwa [List.take_of_length_le (by rw [HAB.out.2.2.1]; exact Nat.le_refl _)] at h1
      go_wp2_with fail
      go_ret
      exact ⟨_, out, rfl, HD.out.2.2.2.2.1, hv.out, by rw [HD.out.1, hN]; exact Nat.le_refl _, HD.out.2.2.2.2.2⟩
end Go.Proofs.YtkkpfdfoojcljaaGreat
namespace Go.Proofs.YtkkpfdfoojcljaaGreat
open Go.RowKit

theorem or_hi {r x : Nat} (hr : r < 4294967296) (hx : x < 4294967296) : bits .or .u64 ((r : Int) * 4294967296) (x : Int) = ((r * 4294967296 + x : Nat) : Int) := by
  rw [bits_join .u64 64 (by decide) wraps_u64 32 ((r : Int) * 4294967296) (x : Int) (by omega) (by omega) (by omega) (by omega) (by omega) (by omega)]
  omega
/-- a quotient and what is left, as digits -/
def ShortP (N d n : Nat) (w : World) (e : Ending) (w' : World) : Prop := ∃ v q, e = .returned (.tuple #[v, .int .u32 ((N % d : Nat) : Int)]) ∧ OwnU w' w.heap.size v q ∧ valL q = N / d ∧ q.length = n ∧ Below w.heap.size w w'
set_option maxRecDepth 100000 in
set_option maxHeartbeats 4000000 in
theorem short_any (A : Option Addr) (n c : Nat) (l : List Nat) (d : Nat) (w : World) (h : DigsB w w.heap.size A n l) (hn : n ≤ 100000) (hd0 : 0 < d) (hd : d < 4294967296) :
    Calls Tryz.prog 113 #[.slice A n c, .int .u32 (d : Int)] w (ShortP (valL l) d n w) := by
  have HAB := Lib.hid (And.intro h h.len)
  clear h
  have hmk := make_u n n .i64 .i64 (Nat.le_refl _) (by omega)
  have H0 := Lib.hid (And.intro (own_made w (B := w.heap.size) (l := n) (c := n) (Nat.le_refl _) (by omega) (by omega)) ((Below.refl w.heap.size w).alloc (Nat.le_refl _) (.cells (zc n) 110)))
  have hdz : ((d : Int) == 0) = false := by rw [beq_eq_false_iff_ne]; omega
  go_enter Tryz.func113, Tryz.ntmps113
  go_wp2_with fail
  go_loopw [7, 8] (fun s7 s8 wr => ∃ (k r : Nat) (out : List Nat), s8 = .int .i64 ((k : Int) - 1) ∧ s7 = .int .u64 (r : Int) ∧ k ≤ n ∧ r < d ∧ Hid (out.length = n ∧ Digs out ∧ valL (out.drop k) * d + r = valL (l.drop k) ∧ OwnU wr w.heap.size (.slice (some ⟨w.heap.size, 0, none⟩) n n) out ∧ Below w.heap.size w wr)) (fun _ s8 _ => (intOf s8 + 1).toNat)
  case atStart => exact ⟨n, 0, List.replicate n 0, rfl, rfl, Nat.le_refl _, hd0, by simp, digs_zeros _, by rw [List.drop_eq_nil_of_le (by simp), List.drop_eq_nil_of_le (by rw [HAB.out.2]; exact Nat.le_refl _)]; simp [valL], H0.out⟩
  case round =>
    clear H0 hmk
    obtain ⟨k, r, out, rfl, rfl, hk, hr, HD⟩ := hrel
    rcases k with _ | k
    · have hv := HD.out.2.2.1
      rw [List.drop_zero, List.drop_zero] at hv
      have hq : valL l / d = valL out := by rw [← hv, Nat.mul_comm, Nat.mul_add_div hd0, Nat.div_eq_of_lt hr, Nat.add_zero]
      have hm : valL l % d = r := by rw [← hv, Nat.mul_comm, Nat.mul_add_mod, Nat.mod_eq_of_lt hr]
      have HQ := Lib.hid (And.intro hq hm)
      clear hv hq hm
      have hrm : (r : Int) % 4294967296 = (r : Int) := by omega
      go_wp2_with fail
      go_ret2
      exact ⟨_, out, by rw [HQ.out.2]; rfl, HD.out.2.2.2.1, HQ.out.1.symm, HD.out.1, HD.out.2.2.2.2⟩
    · obtain ⟨b1, off1, x, hx, ea, hb1, hcell0, hx32⟩ := digs_get HAB.out.1 (i := k) (by omega)
      subst ea
      have hcell := (HD.out.2.2.2.2.cell (p := ⟨b1, off1 + k, none⟩) hb1).trans hcell0
      obtain ⟨z, hz⟩ : ∃ z, out[k]? = some z := ⟨_, List.getElem?_eq_getElem (by have := HD.out.1; omega)⟩
      have hcell3 := HD.out.2.2.2.1.cell hz
      have hfr3 := HD.out.2.2.2.1.unfrozen k
      have hs := short_round HD.out.2.2.1 hx (by have := HD.out.1; omega)
      have hor := or_hi (r := r) (by omega) hx32
      have hk1 : ((k + 1 : Nat) : Int) - 1 = (k : Int) := by omega
      have hkn : (k : Int) < (n : Int) := by omega
      have hlt : (r * 4294967296 + x) / d < 4294967296 := by
        rw [Nat.div_lt_iff_lt_mul hd0]
        have : (r + 1) * 4294967296 ≤ d * 4294967296 := Nat.mul_le_mul_right _ hr
        rw [Nat.add_mul] at this
        rw [Nat.mul_comm 4294967296]
        omega
      have HS := Lib.hid hs
      clear hcell0 hb1 hx hz hs
      rw [hk1]
      go_wp2_with fail
      have hI : (r : Int) * 4294967296 + (x : Int) = ((r * 4294967296 + x : Nat) : Int) := by omega
      have e1 : ((r : Int) * 4294967296 + (x : Int)) / (d : Int) % 4294967296 = (((r * 4294967296 + x) / d : Nat) : Int) := by
        rw [hI, ← Int.natCast_ediv]; exact Int.emod_eq_of_lt (Int.natCast_nonneg _) (Int.ofNat_lt.2 hlt)
      have e2 : ((r : Int) * 4294967296 + (x : Int)) % (d : Int) = (((r * 4294967296 + x) % d : Nat) : Int) := by
        rw [hI, ← Int.natCast_emod]
      have hmd := Nat.mod_lt (r * 4294967296 + x) hd0
      rw [e1, e2]
      clear e1 e2 hI hor
      go_roundw
      case rel => exact ⟨k, _, out.set k ((r * 4294967296 + x) / d), rfl, rfl, by omega, hmd, by rw [List.length_set]; exact HD.out.1, HD.out.2.1.set _ hlt, HS.out, HD.out.2.2.2.1.put HD.out.1.symm _ hlt, HD.out.2.2.2.2.setCell (Nat.le_refl _) _⟩
      case measure => simp only [intOf]; omega
end Go.Proofs.YtkkpfdfoojcljaaGreat
namespace Go.Proofs.YtkkpfdfoojcljaaGreat
open Go.RowKit

/-- digits of a number, just L of them -/
def FullP (N L : Nat) (w : World) (e : Ending) (w' : World) : Prop := ∃ v l, e = .returned v ∧ OwnU w' w.heap.size v l ∧ valL l = N ∧ l.length = L ∧ Below w.heap.size w w'
theorem left_plain {x p e f : Nat} (hef : e * f = 4294967296) (he : 0 < e) (hp : p < e) : (x * e + p) % 4294967296 = x * e % 4294967296 + p ∧ (x * e + p) / 4294967296 = x / f ∧ x * e % 4294967296 % e = 0 := by
  have h1 : x * e % 4294967296 = e * (x % f) := by rw [← hef, Nat.mul_comm x e, Nat.mul_mod_mul_left]
  have hf : 0 < f := by
    apply Nat.pos_of_ne_zero
    rintro rfl
    omega
  have h2 : e * (x % f) + e ≤ 4294967296 := by
    have h3 := Nat.mod_lt x hf
    have h4 : e * (x % f + 1) ≤ e * f := Nat.mul_le_mul_left _ h3
    rw [Nat.mul_add, hef] at h4
    omega
  refine ⟨?_, ?_, by rw [h1, Nat.mul_mod_right]⟩
  · rw [Nat.add_mod, h1, Nat.mod_eq_of_lt (a := p) (by omega), Nat.mod_eq_of_lt (by omega)]
  · rw [← hef, ← Nat.div_div_eq_div_mul, Nat.mul_comm x e, Nat.mul_add_div he, Nat.div_eq_of_lt hp, Nat.add_zero]
theorem or_low {A p k : Nat} (hA : A < 4294967296) (hm : A % 2 ^ k = 0) (hp : p < 2 ^ k) (hp2 : p < 4294967296) : bits .or .u32 (A : Int) (p : Int) = ((A + p : Nat) : Int) := by
  rw [bits_join .u32 32 (by decide) wraps_u32 k (A : Int) (p : Int) (by omega) (by exact_mod_cast congrArg (Nat.cast : Nat → Int) hm) (by omega) (by omega) (by exact_mod_cast hp) (by omega)]
  omega
/-- a shift by k: e and what is left of 32 bits -/
theorem pow_split {k : Nat} (hk : k < 32) : ∃ e f : Nat, e = 2 ^ k ∧ f = 2 ^ (32 - k) ∧ e * f = 4294967296 ∧ 0 < e ∧ 0 < f ∧ e ≤ 2147483648 ∧ f ≤ 4294967296 := by
  refine ⟨2 ^ k, 2 ^ (32 - k), rfl, rfl, ?_, Nat.pow_pos (by omega), Nat.pow_pos (by omega), ?_, ?_⟩
  · rw [← Nat.pow_add, show k + (32 - k) = 32 by omega]
  · exact Nat.pow_le_pow_right (n := 2) (by omega) (show k ≤ 31 by omega)
  · exact Nat.pow_le_pow_right (n := 2) (by omega) (show 32 - k ≤ 32 by omega)
set_option maxRecDepth 100000 in
set_option maxHeartbeats 4000000 in
theorem left_any (A : Option Addr) (n c : Nat) (l : List Nat) (k : Nat) (w : World) (h : DigsB w w.heap.size A n l) (hn : n ≤ 100000) (hk : k < 32) :
    Calls Tryz.prog 115 #[.slice A n c, .int .i64 (k : Int)] w (FullP (valL l * 2 ^ k) (n + 1) w) := by
  have HAB := Lib.hid (And.intro h h.len)
  clear h
  obtain ⟨e, f, he, hf, hef, he0, hf0, he31, hf32⟩ := pow_split hk
  rw [← he]
  have heI : (2 : Int) ^ k = (e : Int) := by rw [he]; exact (Int.natCast_pow 2 k).symm
  obtain ⟨j, hj⟩ : ∃ j, 32 - k = j := ⟨_, rfl⟩
  rw [hj] at hf
  have hfI : (2 : Int) ^ j = (f : Int) := by rw [hf]; exact (Int.natCast_pow 2 j).symm
  have hjI : (32 : Int) - (k : Int) = (j : Int) := by omega
  have hj32 : j ≤ 32 := by omega
  clear hj
  have HEF := Lib.hid (And.intro he (And.intro hf hef))
  clear he hf hef
  have hkI : (k : Int) / 32 = 0 := by omega
  have hkm : (k : Int) % 32 = (k : Int) := by omega
  have hmk := make_u0 (n + 1) .i64 .i64 (by omega)
  have hm1 : ((n + 1 : Nat) : Int) = (n : Int) + 1 := by omega
  rw [hm1] at hmk
  clear hm1
  have H0 := Lib.hid (And.intro (own_made w (B := w.heap.size) (l := 0) (c := n + 1) (Nat.le_refl _) (by omega) (by omega)) ((Below.refl w.heap.size w).alloc (Nat.le_refl _) (.cells (zc (n + 1)) 110)))
  go_enter Tryz.func115, Tryz.ntmps115
  go_wp2_with fail
  go_loopw [5, 6, 20] (fun s5 s6 s20 wr => ∃ (i p : Nat) (out : List Nat), s20 = .int .i64 (i : Int) ∧ s6 = .int .u32 (p : Int) ∧ i ≤ n ∧ p < e ∧ Hid (out.length = i ∧ Digs out ∧ valL out + 4294967296 ^ i * p = valL (l.take i) * (4294967296 ^ 0 * e) ∧ OwnU wr w.heap.size s5 out ∧ Below w.heap.size w wr)) (fun _ _ s20 _ => n - (intOf s20).toNat)
  case atStart => exact ⟨0, 0, [], rfl, rfl, by omega, he0, rfl, Digs.nil_, by simp [valL], H0.out⟩
  case round =>
    clear H0
    obtain ⟨i, p, out, rfl, rfl, hi, hp, HD⟩ := hrel
    obtain ⟨A5, c5, rfl, hc5, hc5m⟩ := HD.out.2.2.2.1.len
    have hlo := HD.out.1
    rw [hlo] at HD hc5 ⊢
    have HLO := Lib.hid hlo
    clear hlo
    have hzw : w.heap.size ≤ wr.heap.size := HD.out.2.2.2.2.size
    have hown0 := HD.out.2.2.2.1.lt
    have HL5 := Lib.hid (And.intro hc5 (And.intro hc5m hown0))
    clear hc5 hc5m hown0
    by_cases hil : i < n
    · have hilI : (i : Int) < (n : Int) := by omega
      obtain ⟨b1, off1, x, hx, ea, hb1, hcell0, hx32⟩ := digs_get HAB.out.1 hil
      subst ea
      have hcell := (HD.out.2.2.2.2.cell (p := ⟨b1, off1 + i, none⟩) hb1).trans hcell0
      obtain ⟨hy, hq, hm⟩ := left_plain (x := x) HEF.out.2.2 he0 hp
      have hr := left_round (n := 0) (k := x * e + p) (by rw [HLO.out, Nat.zero_add]) (by rw [Nat.zero_add]; exact HD.out.2.2.1) hx rfl
      rw [hq, Nat.zero_add] at hr
      have hy32 : (x * e + p) % 4294967296 < 4294967296 := Nat.mod_lt _ (by omega)
      have hor : bits .or .u32 ((x : Int) * (e : Int) % 4294967296) (p : Int) = (((x * e + p) % 4294967296 : Nat) : Int) := by
        have h0 : ((x * e % 4294967296 : Nat) : Int) = (x : Int) * (e : Int) % 4294967296 := by rw [Int.natCast_emod, Int.natCast_mul]; rfl
        rw [← h0, hy]
        exact or_low (A := x * e % 4294967296) (p := p) (k := k) (Nat.mod_lt _ (by omega)) (by rw [← HEF.out.1]; exact hm) (by rw [← HEF.out.1]; exact hp) (by omega)
      have hqp : x / f < e := (Nat.div_lt_iff_lt_mul hf0).2 (by rw [HEF.out.2.2]; exact hx32)
      generalize (x * e + p) % 4294967296 = y at *
      have HR := Lib.hid (And.intro hr (And.intro hy32 hqp))
      have hbn := Blk.new wr 110 #[.int .u32 (y : Int)]
      have hba := (Below.refl wr.heap.size wr).alloc (Nat.le_refl _) (.cells #[.int .u32 (y : Int)] 110)
      have HO := Lib.hid (And.intro (HD.out.2.2.2.1.past hba (Nat.le_refl _)) (And.intro hbn hba))
      have hzz : (wr.alloc (.cells #[.int .u32 (y : Int)] 110)).heap.size = wr.heap.size + 1 := by simp
      clear hcell0 hb1 hy hq hm hr hy32 hbn hba hqp
      have hfq : (x : Int) / (f : Int) = ((x / f : Nat) : Int) := (Int.natCast_ediv x f).symm
      have hqx : x / f ≤ x := Nat.div_le_self _ _
      generalize x / f = q at hfq HR hqx
      go_wp2_with (at_builtin; refine wpList_append_item rfl _ _ _ rfl rowU tells_u (v := .slice A5 i c5) (xs := out) (base := w.heap.size) (S := fun _ => False) rfl HO.out.1 (g := wr.heap.size) (cs := #[.int .u32 (y : Int)]) rfl HO.out.2.1 (y := y) ⟨rfl, HR.out.2.1⟩ (fun b h => h.elim) (by rw [HLO.out]; unfold maxLen; omega) (by rw [HLO.out]; omega) (by omega) ?_; intro v' w6 hown6 hgrow6 hat6; have HB6 := Lib.hid (And.intro hown6 hgrow6); clear hown6 hgrow6 hat6)
      go_roundw
      case rel => exact ⟨i + 1, q, out ++ [y], by go_num, rfl, by omega, HR.out.2.2, by rw [List.length_append, HLO.out]; rfl, digs_snoc HD.out.2.1 HR.out.2.1, HR.out.1, HB6.out.1, below_then (HD.out.2.2.2.2.trans (HO.out.2.2.mono hzw)) HB6.out.2 (by rw [hzz]; omega) (fun g hg => (HL5.out.2.2 g hg).1)⟩
      case measure => simp only [intOf]; omega
    · obtain rfl : i = n := by omega
      have hend : Hid (valL (out ++ [p]) = valL l * e) := by
        have h1 := HD.out.2.2.1
        rw [List.take_of_length_le (by rw [HAB.out.2]; exact Nat.le_refl _)] at h1
        show _ = _
        rw [val_snoc, HLO.out, h1, Nat.pow_zero, Nat.one_mul]
      have hp32 : p < 4294967296 := by omega
      have hbn := Blk.new wr 110 #[.int .u32 (p : Int)]
      have hba := (Below.refl wr.heap.size wr).alloc (Nat.le_refl _) (.cells #[.int .u32 (p : Int)] 110)
      have HO := Lib.hid (And.intro (HD.out.2.2.2.1.past hba (Nat.le_refl _)) (And.intro hbn hba))
      have hzz : (wr.alloc (.cells #[.int .u32 (p : Int)] 110)).heap.size = wr.heap.size + 1 := by simp
      clear hbn hba
      go_wp2_with (at_builtin; refine wpList_append_item rfl _ _ _ rfl rowU tells_u (v := .slice A5 i c5) (xs := out) (base := w.heap.size) (S := fun _ => False) rfl HO.out.1 (g := wr.heap.size) (cs := #[.int .u32 (p : Int)]) rfl HO.out.2.1 (y := p) ⟨rfl, hp32⟩ (fun b h => h.elim) (by rw [HLO.out]; unfold maxLen; omega) (by rw [HLO.out]; omega) (by omega) ?_; intro v' w6 hown6 hgrow6 hat6; have HB6 := Lib.hid (And.intro hown6 hgrow6); clear hown6 hgrow6 hat6)
      go_ret
      exact ⟨v', out ++ [p], rfl, HB6.out.1, hend.out, by rw [List.length_append, HLO.out]; rfl, below_then (HD.out.2.2.2.2.trans (HO.out.2.2.mono hzw)) HB6.out.2 (by rw [hzz]; omega) (fun g hg => (HL5.out.2.2 g hg).1)⟩
end Go.Proofs.YtkkpfdfoojcljaaGreat
