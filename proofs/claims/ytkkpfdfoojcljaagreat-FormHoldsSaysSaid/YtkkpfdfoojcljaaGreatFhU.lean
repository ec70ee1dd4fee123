/- The reference's whole numbers of any length: the long division (printed by genFhU.py). -/
import Derived.Test.YtkkpfdfoojcljaaGreatFhLN
import Derived.Test.YtkkpfdfoojcljaaGreatLgW
import Derived.Test.YtkkpfdfoojcljaaGreatFhIJ
namespace Go.Proofs.YtkkpfdfoojcljaaGreat
open Go.RowKit

theorem ownU_one {W : World} {B g x : Nat} (hk : Blk W g 110 #[.int .u32 (x : Int)]) (hB : B ≤ g) (hx : x < 4294967296) : OwnU W B (.slice (some ⟨g, 0, none⟩) 1 1) [x] := by
  have h0 : W.heap[g]? = some (.cells #[.int .u32 (x : Int)] 110 (0, 0)) := hk
  exact ⟨[.int .u32 (x : Int)], ⟨by simp, .inr ⟨g, 1, _, rfl, hB, h0, by simp, by decide, by simp, by simp⟩⟩, Cels.single ⟨rfl, hx⟩⟩
/-- one digit more is shifted off -/
theorem shift_more {x k : Nat} (hx : 0 < x) (hk : k ≤ 31) (h : x * 2 ^ k < 2147483648) : k < 31 ∧ x * 2 ^ (k + 1) < 4294967296 := by
  refine ⟨?_, by rw [Nat.pow_succ, ← Nat.mul_assoc]; omega⟩
  apply Nat.lt_of_not_le
  intro h31
  have e : k = 31 := by omega
  subst e
  have := Nat.mul_le_mul_right (2 ^ 31) hx
  omega
set_option maxRecDepth 100000 in
set_option maxHeartbeats 8000000 in
theorem parts_one (A : Option Addr) (n c : Nat) (l : List Nat) (A2 : Option Addr) (c2 : Nat) (d : Nat) (w : World) (h : DigsB w w.heap.size A n l) (h2 : DigsB w w.heap.size A2 1 [d]) (hn : n ≤ 50000) (hd0 : 0 < d) :
    Calls Tryz.prog 105 #[.slice A n c, .slice A2 1 c2] w (PartsP (valL l) d (n + 1) w) := by
  have HAB := Lib.hid (And.intro h h.len)
  obtain ⟨b0, off0, z, hz, ea, hb0, hcell0, hd⟩ := digs_get h2 (i := 0) (by omega)
  injection hz with hz
  subst hz ea
  rw [Nat.add_zero] at hcell0
  have HC := Lib.hid (And.intro hb0 hcell0)
  clear h h2 hb0
  have hmk := make_u n n .i64 .i64 (Nat.le_refl _) (by omega)
  have H0 := Lib.hid (And.intro (own_made w (B := w.heap.size) (l := n) (c := n) (Nat.le_refl _) (by omega) (by omega)) ((Below.refl w.heap.size w).alloc (Nat.le_refl _) (.cells (zc n) 110)))
  have hdz : ((d : Int) == 0) = false := by rw [beq_eq_false_iff_ne]; omega
  go_enter Tryz.func105, Tryz.ntmps105
  go_wp2_with fail
  go_loopw [7, 8] (fun s7 s8 wr => ∃ (k r : Nat) (out : List Nat), s8 = .int .i64 ((k : Int) - 1) ∧ s7 = .int .u64 (r : Int) ∧ k ≤ n ∧ r < d ∧ Hid (out.length = n ∧ Digs out ∧ valL (out.drop k) * d + r = valL (l.drop k) ∧ OwnU wr w.heap.size (.slice (some ⟨w.heap.size, 0, none⟩) n n) out ∧ Below w.heap.size w wr)) (fun _ s8 _ => (intOf s8 + 1).toNat)
  case atStart => exact ⟨n, 0, List.replicate n 0, rfl, rfl, Nat.le_refl _, hd0, by simp, digs_zeros _, by rw [List.drop_eq_nil_of_le (by simp), List.drop_eq_nil_of_le (by rw [HAB.out.2]; exact Nat.le_refl _)]; simp [valL], H0.out⟩
  case round =>
    clear H0 hmk
    obtain ⟨k, r, out, rfl, rfl, hk, hr, HD⟩ := hrel
    clear hcell0
    rcases k with _ | k
    · have hv := HD.out.2.2.1
      rw [List.drop_zero, List.drop_zero] at hv
      have hq : valL l / d = valL out := by rw [← hv, Nat.mul_comm, Nat.mul_add_div hd0, Nat.div_eq_of_lt hr, Nat.add_zero]
      have hm : valL l % d = r := by rw [← hv, Nat.mul_comm, Nat.mul_add_mod, Nat.mod_eq_of_lt hr]
      have HQ := Lib.hid (And.intro hq hm)
      clear hv hq hm
      have hrm : (r : Int) % 4294967296 = (r : Int) := by omega
      go_wp2_with fail
      go_ret2
      have hbn := Blk.new wr 110 #[.int .u32 (r : Int)]
      have hba := (Below.refl wr.heap.size wr).alloc (Nat.le_refl _) (.cells #[.int .u32 (r : Int)] 110)
      exact ⟨_, out, _, [r], rfl, HD.out.2.2.2.1.past hba (Nat.le_refl _), ownU_one hbn HD.out.2.2.2.2.size (by omega), HQ.out.1.symm, by rw [HQ.out.2]; simp [valL], by rw [HD.out.1]; omega, by simp, HD.out.2.2.2.2.trans (hba.mono HD.out.2.2.2.2.size)⟩
    · obtain ⟨b1, off1, x, hx, ea, hb1, hcell1, hx32⟩ := digs_get HAB.out.1 (i := k) (by omega)
      subst ea
      have hcell := (HD.out.2.2.2.2.cell (p := ⟨b1, off1 + k, none⟩) hb1).trans hcell1
      have hcelld := (HD.out.2.2.2.2.cell (p := ⟨b0, off0, none⟩) HC.out.1).trans HC.out.2
      obtain ⟨z, hz⟩ : ∃ z, out[k]? = some z := ⟨_, List.getElem?_eq_getElem (by have := HD.out.1; omega)⟩
      have hcell3 := HD.out.2.2.2.1.cell hz
      have hfr3 := HD.out.2.2.2.1.unfrozen k
      have hs := short_round HD.out.2.2.1 hx (by have := HD.out.1; omega)
      have hor := or_hi (r := r) (by omega) hx32
      have hk1 : ((k + 1 : Nat) : Int) - 1 = (k : Int) := by omega
      have hkn : (k : Int) < (n : Int) := by omega
      have hlt : (r * 4294967296 + x) / d < 4294967296 := by
        rw [Nat.div_lt_iff_lt_mul hd0]
        have : (r + 1) * 4294967296 ≤ d * 4294967296 := Nat.mul_le_mul_right _ hr
        rw [Nat.add_mul] at this
        rw [Nat.mul_comm 4294967296]
        omega
      have HS := Lib.hid hs
      have hne := HD.out.2.2.2.2.size
      have hc4 : (wr.setCell ⟨w.heap.size, k, none⟩ (.int .u32 (((r * 4294967296 + x) / d : Nat) : Int))).cell? ⟨b0, off0, none⟩ = some (.int .u32 (d : Int)) := by
        rw [World.cell?_of_block (w := wr) (Below.heap_setCell wr _ _ b0 (by have := HC.out.1; show b0 ≠ w.heap.size; omega))]; exact hcelld
      have hI : (r : Int) * 4294967296 + (x : Int) = ((r * 4294967296 + x : Nat) : Int) := by omega
      have hqI : ((r * 4294967296 + x : Nat) : Int) / (d : Int) = (((r * 4294967296 + x) / d : Nat) : Int) := (Int.natCast_ediv _ _).symm
      have hmI : ((r * 4294967296 + x : Nat) : Int) % (d : Int) = (((r * 4294967296 + x) % d : Nat) : Int) := (Int.natCast_emod _ _).symm
      have hmd := Nat.mod_lt (r * 4294967296 + x) hd0
      have ht18 : r * 4294967296 + x ≤ 18446744073709551615 := by omega
      clear hcell1 hb1 hx hz hs hI
      generalize r * 4294967296 + x = tt at *
      generalize tt / d = qq at *
      generalize tt % d = mm at *
      have HX := Lib.hid (And.intro hlt hmd)
      rw [hk1]
      go_wp2_with fail
      go_roundw
      case rel => exact ⟨k, mm, out.set k qq, rfl, by rw [← hmI], by omega, HX.out.2, by rw [List.length_set]; exact HD.out.1, HD.out.2.1.set _ HX.out.1, HS.out, HD.out.2.2.2.1.put HD.out.1.symm _ HX.out.1, HD.out.2.2.2.2.setCell (Nat.le_refl _) _⟩
      case measure => simp only [intOf]; omega
end Go.Proofs.YtkkpfdfoojcljaaGreat
