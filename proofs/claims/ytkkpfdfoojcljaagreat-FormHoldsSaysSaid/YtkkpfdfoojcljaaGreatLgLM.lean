/- Walk: package long's plus. · Walk: package long's minus. -/
import Derived.Test.YtkkpfdfoojcljaaGreatLgIK
namespace Go.Proofs.YtkkpfdfoojcljaaGreat
open Go.RowKit

/-- what a call that makes digits of a number hands back: at most L of them -/
def ValP (N L : Nat) (w : World) (e : Ending) (w' : World) : Prop := ∃ v l, e = .returned v ∧ OwnU w' w.heap.size v l ∧ valL l = N ∧ l.length ≤ L ∧ Below w.heap.size w w'
set_option maxRecDepth 100000 in
set_option maxHeartbeats 4000000 in
theorem plus_any (A : Option Addr) (n c : Nat) (l : List Nat) (A2 : Option Addr) (n2 c2 : Nat) (m : List Nat) (w : World) (h : DigsB w w.heap.size A n l) (h2 : DigsB w w.heap.size A2 n2 m) (hn : n ≤ 100000) (hn2 : n2 ≤ 100000) :
    Calls Tryz.prog 118 #[.slice A n c, .slice A2 n2 c2] w (ValP (valL l + valL m) (max n n2 + 1) w) := by
  have HAB := Lib.hid (And.intro h (And.intro h2 (And.intro h.len h2.len)))
  clear h h2
  by_cases hlt : n < n2
  · have hmax : max n n2 = n2 := by omega
    rw [hmax]
    clear hmax
    have hmk := make_u0 (n2 + 1) .i64 .i64 (by omega)
    have hm1 : ((n2 + 1 : Nat) : Int) = (n2 : Int) + 1 := by omega
    rw [hm1] at hmk
    have H0 := Lib.hid (And.intro (own_made w (B := w.heap.size) (l := 0) (c := n2 + 1) (Nat.le_refl _) (by omega) (by omega)) ((Below.refl w.heap.size w).alloc (Nat.le_refl _) (.cells (zc (n2 + 1)) 110)))
    clear hm1
    go_enter Tryz.func118, Tryz.ntmps118
    go_wp2_with fail
    go_loopw [5, 6, 22] (fun s5 s6 s22 wr => ∃ (i c : Nat) (out : List Nat), s22 = .int .i64 (i : Int) ∧ s6 = .int .u64 (c : Int) ∧ i ≤ n2 ∧ c ≤ 1 ∧ Hid (out.length = i ∧ Digs out ∧ valL out + 4294967296 ^ i * c = valL (m.take i) + valL (l.take i) ∧ OwnU wr w.heap.size s5 out ∧ Below w.heap.size w wr)) (fun _ _ s22 _ => n2 - (intOf s22).toNat)
    case atStart => exact ⟨0, 0, [], rfl, rfl, by omega, by omega, rfl, Digs.nil_, by simp [valL], H0.out⟩
    case round =>
      clear H0
      obtain ⟨i, k, out, rfl, rfl, hi, hk, HD⟩ := hrel
      obtain ⟨A5, c5, rfl, hc5, hc5m⟩ := HD.out.2.2.2.1.len
      have hlo := HD.out.1
      rw [hlo] at HD hc5 ⊢
      have HLO := Lib.hid hlo
      clear hlo
      have hzw : w.heap.size ≤ wr.heap.size := HD.out.2.2.2.2.size
      have hown0 := HD.out.2.2.2.1.lt
      have HL5 := Lib.hid (And.intro hc5 (And.intro hc5m hown0))
      clear hc5 hc5m hown0
      by_cases hil : i < n2
      · have hilI : (i : Int) < (n2 : Int) := by omega
        obtain ⟨b1, off1, x, hx, ea, hb1, hcell0, hx32⟩ := digs_get HAB.out.2.1 hil
        subst ea
        have hcell := (HD.out.2.2.2.2.cell (p := ⟨b1, off1 + i, none⟩) hb1).trans hcell0
        clear hcell0 hb1
        by_cases hib : i < n
        · have hibI : (i : Int) < (n : Int) := by omega
          obtain ⟨b2, off2, y, hy, eb, hb2, hcell20, hy32⟩ := digs_get HAB.out.1 hib
          subst eb
          have hcell2 := (HD.out.2.2.2.2.cell (p := ⟨b2, off2 + i, none⟩) hb2).trans hcell20
          clear hcell20 hb2
          have hr := plus_round HLO.out HD.out.2.2.1 hx (.inl hy)
          have HX := Lib.hid hr
          clear hr hx hy
          have HE : ((((k + x + y) % 4294967296 : Nat) : Int) = ((k : Int) + (x : Int) + (y : Int)) % 4294967296) := by omega
          have HE2 : ((((k + x + y) / 4294967296 : Nat) : Int) = ((k : Int) + (x : Int) + (y : Int)) / 4294967296) := by omega
          have hbn := Blk.new wr 110 #[.int .u32 (((k : Int) + (x : Int) + (y : Int)) % 4294967296)]
          have hba := (Below.refl wr.heap.size wr).alloc (Nat.le_refl _) (.cells #[.int .u32 (((k : Int) + (x : Int) + (y : Int)) % 4294967296)] 110)
          have HO := Lib.hid (And.intro (HD.out.2.2.2.1.past hba (Nat.le_refl _)) (And.intro hbn (And.intro hba (And.intro HE HE2))))
          have hzz : (wr.alloc (.cells #[.int .u32 (((k : Int) + (x : Int) + (y : Int)) % 4294967296)] 110)).heap.size = wr.heap.size + 1 := by simp
          clear hbn hba HE HE2
          go_wp2_with (at_builtin; refine wpList_append_item rfl _ _ _ rfl rowU tells_u (v := .slice A5 i c5) (xs := out) (base := w.heap.size) (S := fun _ => False) rfl HO.out.1 (g := wr.heap.size) (cs := #[.int .u32 (((k : Int) + (x : Int) + (y : Int)) % 4294967296)]) rfl HO.out.2.1 (y := (k + x + y) % 4294967296) ⟨by rw [HO.out.2.2.2.1], by omega⟩ (fun b h => h.elim) (by rw [HLO.out]; unfold maxLen; omega) (by rw [HLO.out]; omega) (by omega) ?_; intro v' w6 hown6 hgrow6 hat6; have HB6 := Lib.hid (And.intro hown6 hgrow6); clear hown6 hgrow6 hat6)
          go_roundw
          case rel => exact ⟨i + 1, (k + x + y) / 4294967296, out ++ [(k + x + y) % 4294967296], by go_num, by rw [HO.out.2.2.2.2], by omega, by omega, by rw [List.length_append, HLO.out]; rfl, digs_snoc HD.out.2.1 (by omega), HX.out, HB6.out.1, below_then (HD.out.2.2.2.2.trans (HO.out.2.2.1.mono hzw)) HB6.out.2 (by rw [hzz]; omega) (fun g hg => (HL5.out.2.2 g hg).1)⟩
          case measure => simp only [intOf]; omega
        · have hibI : ¬ (i : Int) < (n : Int) := by omega
          have hr := plus_round (t := 0) HLO.out HD.out.2.2.1 hx (.inr ⟨by rw [HAB.out.2.2.1]; omega, rfl⟩)
          have HX := Lib.hid hr
          clear hr hx
          have HE : ((((k + x + 0) % 4294967296 : Nat) : Int) = ((k : Int) + (x : Int)) % 4294967296) := by omega
          have HE2 : ((((k + x + 0) / 4294967296 : Nat) : Int) = ((k : Int) + (x : Int)) / 4294967296) := by omega
          have hbn := Blk.new wr 110 #[.int .u32 (((k : Int) + (x : Int)) % 4294967296)]
          have hba := (Below.refl wr.heap.size wr).alloc (Nat.le_refl _) (.cells #[.int .u32 (((k : Int) + (x : Int)) % 4294967296)] 110)
          have HO := Lib.hid (And.intro (HD.out.2.2.2.1.past hba (Nat.le_refl _)) (And.intro hbn (And.intro hba (And.intro HE HE2))))
          have hzz : (wr.alloc (.cells #[.int .u32 (((k : Int) + (x : Int)) % 4294967296)] 110)).heap.size = wr.heap.size + 1 := by simp
          clear hbn hba HE HE2
          go_wp2_with (at_builtin; refine wpList_append_item rfl _ _ _ rfl rowU tells_u (v := .slice A5 i c5) (xs := out) (base := w.heap.size) (S := fun _ => False) rfl HO.out.1 (g := wr.heap.size) (cs := #[.int .u32 (((k : Int) + (x : Int)) % 4294967296)]) rfl HO.out.2.1 (y := (k + x + 0) % 4294967296) ⟨by rw [HO.out.2.2.2.1], by omega⟩ (fun b h => h.elim) (by rw [HLO.out]; unfold maxLen; omega) (by rw [HLO.out]; omega) (by omega) ?_; intro v' w6 hown6 hgrow6 hat6; have HB6 := Lib.hid (And.intro hown6 hgrow6); clear hown6 hgrow6 hat6)
          go_roundw
          case rel => exact ⟨i + 1, (k + x + 0) / 4294967296, out ++ [(k + x + 0) % 4294967296], by go_num, by rw [HO.out.2.2.2.2], by omega, by omega, by rw [List.length_append, HLO.out]; rfl, digs_snoc HD.out.2.1 (by omega), HX.out, HB6.out.1, below_then (HD.out.2.2.2.2.trans (HO.out.2.2.1.mono hzw)) HB6.out.2 (by rw [hzz]; omega) (fun g hg => (HL5.out.2.2 g hg).1)⟩
          case measure => simp only [intOf]; omega
      · obtain rfl : i = n2 := by omega
        have hlt : (k : Int) % 4294967296 = (k : Int) := by omega
        have hend : Hid (valL (out ++ [k]) = valL l + valL m) := by
          have h1 := HD.out.2.2.1
          rw [List.take_of_length_le (by rw [HAB.out.2.2.2]; exact Nat.le_refl _), List.take_of_length_le (by rw [HAB.out.2.2.1]; omega)] at h1
          show _ = _
          rw [val_snoc, HLO.out, h1]; omega
        have hbn := Blk.new wr 110 #[.int .u32 (k : Int)]
        have hba := (Below.refl wr.heap.size wr).alloc (Nat.le_refl _) (.cells #[.int .u32 (k : Int)] 110)
        have HO := Lib.hid (And.intro (HD.out.2.2.2.1.past hba (Nat.le_refl _)) (And.intro hbn hba))
        have hzz : (wr.alloc (.cells #[.int .u32 (k : Int)] 110)).heap.size = wr.heap.size + 1 := by simp
        clear hbn hba
        go_wp2_with (at_builtin; refine wpList_append_item rfl _ _ _ rfl rowU tells_u (v := .slice A5 i c5) (xs := out) (base := w.heap.size) (S := fun _ => False) rfl HO.out.1 (g := wr.heap.size) (cs := #[.int .u32 (k : Int)]) rfl HO.out.2.1 (y := k) ⟨rfl, by omega⟩ (fun b h => h.elim) (by rw [HLO.out]; unfold maxLen; omega) (by rw [HLO.out]; omega) (by omega) ?_; intro v' w6 hown6 hgrow6 hat6; have HB6 := Lib.hid (And.intro hown6 hgrow6); clear hown6 hgrow6 hat6)
        go_ret
        exact ⟨v', out ++ [k], rfl, HB6.out.1, hend.out, by rw [List.length_append, HLO.out]; simp; try omega, below_then (HD.out.2.2.2.2.trans (HO.out.2.2.mono hzw)) HB6.out.2 (by rw [hzz]; omega) (fun g hg => (HL5.out.2.2 g hg).1)⟩
  · have hmax : max n n2 = n := by omega
    rw [hmax]
    clear hmax
    have hmk := make_u0 (n + 1) .i64 .i64 (by omega)
    have hm1 : ((n + 1 : Nat) : Int) = (n : Int) + 1 := by omega
    rw [hm1] at hmk
    have H0 := Lib.hid (And.intro (own_made w (B := w.heap.size) (l := 0) (c := n + 1) (Nat.le_refl _) (by omega) (by omega)) ((Below.refl w.heap.size w).alloc (Nat.le_refl _) (.cells (zc (n + 1)) 110)))
    clear hm1
    go_enter Tryz.func118, Tryz.ntmps118
    go_wp2_with fail
    go_loopw [5, 6, 22] (fun s5 s6 s22 wr => ∃ (i c : Nat) (out : List Nat), s22 = .int .i64 (i : Int) ∧ s6 = .int .u64 (c : Int) ∧ i ≤ n ∧ c ≤ 1 ∧ Hid (out.length = i ∧ Digs out ∧ valL out + 4294967296 ^ i * c = valL (l.take i) + valL (m.take i) ∧ OwnU wr w.heap.size s5 out ∧ Below w.heap.size w wr)) (fun _ _ s22 _ => n - (intOf s22).toNat)
    case atStart => exact ⟨0, 0, [], rfl, rfl, by omega, by omega, rfl, Digs.nil_, by simp [valL], H0.out⟩
    case round =>
      clear H0
      obtain ⟨i, k, out, rfl, rfl, hi, hk, HD⟩ := hrel
      obtain ⟨A5, c5, rfl, hc5, hc5m⟩ := HD.out.2.2.2.1.len
      have hlo := HD.out.1
      rw [hlo] at HD hc5 ⊢
      have HLO := Lib.hid hlo
      clear hlo
      have hzw : w.heap.size ≤ wr.heap.size := HD.out.2.2.2.2.size
      have hown0 := HD.out.2.2.2.1.lt
      have HL5 := Lib.hid (And.intro hc5 (And.intro hc5m hown0))
      clear hc5 hc5m hown0
      by_cases hil : i < n
      · have hilI : (i : Int) < (n : Int) := by omega
        obtain ⟨b1, off1, x, hx, ea, hb1, hcell0, hx32⟩ := digs_get HAB.out.1 hil
        subst ea
        have hcell := (HD.out.2.2.2.2.cell (p := ⟨b1, off1 + i, none⟩) hb1).trans hcell0
        clear hcell0 hb1
        by_cases hib : i < n2
        · have hibI : (i : Int) < (n2 : Int) := by omega
          obtain ⟨b2, off2, y, hy, eb, hb2, hcell20, hy32⟩ := digs_get HAB.out.2.1 hib
          subst eb
          have hcell2 := (HD.out.2.2.2.2.cell (p := ⟨b2, off2 + i, none⟩) hb2).trans hcell20
          clear hcell20 hb2
          have hr := plus_round HLO.out HD.out.2.2.1 hx (.inl hy)
          have HX := Lib.hid hr
          clear hr hx hy
          have HE : ((((k + x + y) % 4294967296 : Nat) : Int) = ((k : Int) + (x : Int) + (y : Int)) % 4294967296) := by omega
          have HE2 : ((((k + x + y) / 4294967296 : Nat) : Int) = ((k : Int) + (x : Int) + (y : Int)) / 4294967296) := by omega
          have hbn := Blk.new wr 110 #[.int .u32 (((k : Int) + (x : Int) + (y : Int)) % 4294967296)]
          have hba := (Below.refl wr.heap.size wr).alloc (Nat.le_refl _) (.cells #[.int .u32 (((k : Int) + (x : Int) + (y : Int)) % 4294967296)] 110)
          have HO := Lib.hid (And.intro (HD.out.2.2.2.1.past hba (Nat.le_refl _)) (And.intro hbn (And.intro hba (And.intro HE HE2))))
          have hzz : (wr.alloc (.cells #[.int .u32 (((k : Int) + (x : Int) + (y : Int)) % 4294967296)] 110)).heap.size = wr.heap.size + 1 := by simp
          clear hbn hba HE HE2
          go_wp2_with (at_builtin; refine wpList_append_item rfl _ _ _ rfl rowU tells_u (v := .slice A5 i c5) (xs := out) (base := w.heap.size) (S := fun _ => False) rfl HO.out.1 (g := wr.heap.size) (cs := #[.int .u32 (((k : Int) + (x : Int) + (y : Int)) % 4294967296)]) rfl HO.out.2.1 (y := (k + x + y) % 4294967296) ⟨by rw [HO.out.2.2.2.1], by omega⟩ (fun b h => h.elim) (by rw [HLO.out]; unfold maxLen; omega) (by rw [HLO.out]; omega) (by omega) ?_; intro v' w6 hown6 hgrow6 hat6; have HB6 := Lib.hid (And.intro hown6 hgrow6); clear hown6 hgrow6 hat6)
          go_roundw
          case rel => exact ⟨i + 1, (k + x + y) / 4294967296, out ++ [(k + x + y) % 4294967296], by go_num, by rw [HO.out.2.2.2.2], by omega, by omega, by rw [List.length_append, HLO.out]; rfl, digs_snoc HD.out.2.1 (by omega), HX.out, HB6.out.1, below_then (HD.out.2.2.2.2.trans (HO.out.2.2.1.mono hzw)) HB6.out.2 (by rw [hzz]; omega) (fun g hg => (HL5.out.2.2 g hg).1)⟩
          case measure => simp only [intOf]; omega
        · have hibI : ¬ (i : Int) < (n2 : Int) := by omega
          have hr := plus_round (t := 0) HLO.out HD.out.2.2.1 hx (.inr ⟨by rw [HAB.out.2.2.2]; omega, rfl⟩)
          have HX := Lib.hid hr
          clear hr hx
          have HE : ((((k + x + 0) % 4294967296 : Nat) : Int) = ((k : Int) + (x : Int)) % 4294967296) := by omega
          have HE2 : ((((k + x + 0) / 4294967296 : Nat) : Int) = ((k : Int) + (x : Int)) / 4294967296) := by omega
          have hbn := Blk.new wr 110 #[.int .u32 (((k : Int) + (x : Int)) % 4294967296)]
          have hba := (Below.refl wr.heap.size wr).alloc (Nat.le_refl _) (.cells #[.int .u32 (((k : Int) + (x : Int)) % 4294967296)] 110)
          have HO := Lib.hid (And.intro (HD.out.2.2.2.1.past hba (Nat.le_refl _)) (And.intro hbn (And.intro hba (And.intro HE HE2))))
          have hzz : (wr.alloc (.cells #[.int .u32 (((k : Int) + (x : Int)) % 4294967296)] 110)).heap.size = wr.heap.size + 1 := by simp
          clear hbn hba HE HE2
          go_wp2_with (at_builtin; refine wpList_append_item rfl _ _ _ rfl rowU tells_u (v := .slice A5 i c5) (xs := out) (base := w.heap.size) (S := fun _ => False) rfl HO.out.1 (g := wr.heap.size) (cs := #[.int .u32 (((k : Int) + (x : Int)) % 4294967296)]) rfl HO.out.2.1 (y := (k + x + 0) % 4294967296) ⟨by rw [HO.out.2.2.2.1], by omega⟩ (fun b h => h.elim) (by rw [HLO.out]; unfold maxLen; omega) (by rw [HLO.out]; omega) (by omega) ?_; intro v' w6 hown6 hgrow6 hat6; have HB6 := Lib.hid (And.intro hown6 hgrow6); clear hown6 hgrow6 hat6)
          go_roundw
          case rel => exact ⟨i + 1, (k + x + 0) / 4294967296, out ++ [(k + x + 0) % 4294967296], by go_num, by rw [HO.out.2.2.2.2], by omega, by omega, by rw [List.length_append, HLO.out]; rfl, digs_snoc HD.out.2.1 (by omega), HX.out, HB6.out.1, below_then (HD.out.2.2.2.2.trans (HO.out.2.2.1.mono hzw)) HB6.out.2 (by rw [hzz]; omega) (fun g hg => (HL5.out.2.2 g hg).1)⟩
          case measure => simp only [intOf]; omega
      · obtain rfl : i = n := by omega
        have hlt : (k : Int) % 4294967296 = (k : Int) := by omega
        have hend : Hid (valL (out ++ [k]) = valL l + valL m) := by
          have h1 := HD.out.2.2.1
          rw [List.take_of_length_le (by rw [HAB.out.2.2.1]; exact Nat.le_refl _), List.take_of_length_le (by rw [HAB.out.2.2.2]; omega)] at h1
          show _ = _
          rw [val_snoc, HLO.out, h1]
        have hbn := Blk.new wr 110 #[.int .u32 (k : Int)]
        have hba := (Below.refl wr.heap.size wr).alloc (Nat.le_refl _) (.cells #[.int .u32 (k : Int)] 110)
        have HO := Lib.hid (And.intro (HD.out.2.2.2.1.past hba (Nat.le_refl _)) (And.intro hbn hba))
        have hzz : (wr.alloc (.cells #[.int .u32 (k : Int)] 110)).heap.size = wr.heap.size + 1 := by simp
        clear hbn hba
        go_wp2_with (at_builtin; refine wpList_append_item rfl _ _ _ rfl rowU tells_u (v := .slice A5 i c5) (xs := out) (base := w.heap.size) (S := fun _ => False) rfl HO.out.1 (g := wr.heap.size) (cs := #[.int .u32 (k : Int)]) rfl HO.out.2.1 (y := k) ⟨rfl, by omega⟩ (fun b h => h.elim) (by rw [HLO.out]; unfold maxLen; omega) (by rw [HLO.out]; omega) (by omega) ?_; intro v' w6 hown6 hgrow6 hat6; have HB6 := Lib.hid (And.intro hown6 hgrow6); clear hown6 hgrow6 hat6)
        go_ret
        exact ⟨v', out ++ [k], rfl, HB6.out.1, hend.out, by rw [List.length_append, HLO.out]; simp; try omega, below_then (HD.out.2.2.2.2.trans (HO.out.2.2.mono hzw)) HB6.out.2 (by rw [hzz]; omega) (fun g hg => (HL5.out.2.2 g hg).1)⟩
end Go.Proofs.YtkkpfdfoojcljaaGreat
namespace Go.Proofs.YtkkpfdfoojcljaaGreat
open Go.RowKit

set_option maxRecDepth 100000 in
set_option maxHeartbeats 4000000 in
theorem minus_any (A : Option Addr) (n c : Nat) (l : List Nat) (A2 : Option Addr) (n2 c2 : Nat) (m : List Nat) (w : World) (h : DigsB w w.heap.size A n l) (h2 : DigsB w w.heap.size A2 n2 m) (hn : n ≤ 100000) (hn2 : n2 ≤ n) (hle : valL m ≤ valL l) :
    Calls Tryz.prog 119 #[.slice A n c, .slice A2 n2 c2] w (ValP (valL l - valL m) n w) := by
  have HAB := Lib.hid (And.intro h (And.intro h2 (And.intro h.len (And.intro h2.len hle))))
  clear h h2 hle
  have hmk := make_u0 n .i64 .i64 (by omega)
  have H0 := Lib.hid (And.intro (own_made w (B := w.heap.size) (l := 0) (c := n) (Nat.le_refl _) (by omega) (by omega)) ((Below.refl w.heap.size w).alloc (Nat.le_refl _) (.cells (zc n) 110)))
  go_enter Tryz.func119, Tryz.ntmps119
  go_wp2_with fail
  go_loopw [5, 6, 15] (fun s5 s6 s15 wr => ∃ (i k : Nat) (out : List Nat), s15 = .int .i64 (i : Int) ∧ s6 = .int .i64 (k : Int) ∧ i ≤ n ∧ k ≤ 1 ∧ Hid (out.length = i ∧ Digs out ∧ valL out + valL (m.take i) = valL (l.take i) + 4294967296 ^ i * k ∧ OwnU wr w.heap.size s5 out ∧ Below w.heap.size w wr)) (fun _ _ s15 _ => n - (intOf s15).toNat)
  case atStart => exact ⟨0, 0, [], rfl, rfl, by omega, by omega, rfl, Digs.nil_, by simp [valL], H0.out⟩
  case round =>
    clear H0
    obtain ⟨i, k, out, rfl, rfl, hi, hk, HD⟩ := hrel
    obtain ⟨A5, c5, rfl, hc5, hc5m⟩ := HD.out.2.2.2.1.len
    have hlo := HD.out.1
    rw [hlo] at HD hc5 ⊢
    have HLO := Lib.hid hlo
    clear hlo
    have hzw : w.heap.size ≤ wr.heap.size := HD.out.2.2.2.2.size
    have hown0 := HD.out.2.2.2.1.lt
    have HL5 := Lib.hid (And.intro hc5 (And.intro hc5m hown0))
    clear hc5 hc5m hown0
    by_cases hil : i < n
    · have hilI : (i : Int) < (n : Int) := by omega
      obtain ⟨b1, off1, x, hx, ea, hb1, hcell0, hx32⟩ := digs_get HAB.out.1 hil
      subst ea
      have hcell := (HD.out.2.2.2.2.cell (p := ⟨b1, off1 + i, none⟩) hb1).trans hcell0
      have HX0 := Lib.hid hx
      clear hcell0 hb1 hx
      by_cases hib : i < n2
      · have hibI : (i : Int) < (n2 : Int) := by omega
        obtain ⟨b2, off2, y, hy, eb, hb2, hcell20, hy32⟩ := digs_get HAB.out.2.1 hib
        subst eb
        have hcell2 := (HD.out.2.2.2.2.cell (p := ⟨b2, off2 + i, none⟩) hb2).trans hcell20
        have HY := Lib.hid hy
        clear hcell20 hb2 hy
        by_cases hneg : (x : Int) - (k : Int) - (y : Int) < 0
        · have HE : ((((x + 4294967296 - k - y) : Nat) : Int) = (x : Int) - (k : Int) - (y : Int) + 4294967296) := by omega
          have hr := minus_round (c := k) (t := y) (d := (x + 4294967296 - k - y)) (c' := 1) HLO.out HD.out.2.2.1 HX0.out (.inl HY.out) (by omega)
          have hbn := Blk.new wr 110 #[.int .u32 ((x : Int) - (k : Int) - (y : Int) + 4294967296)]
          have hba := (Below.refl wr.heap.size wr).alloc (Nat.le_refl _) (.cells #[.int .u32 ((x : Int) - (k : Int) - (y : Int) + 4294967296)] 110)
          have HO := Lib.hid (And.intro (HD.out.2.2.2.1.past hba (Nat.le_refl _)) (And.intro hbn (And.intro hba (And.intro HE hr))))
          have hzz : (wr.alloc (.cells #[.int .u32 ((x : Int) - (k : Int) - (y : Int) + 4294967296)] 110)).heap.size = wr.heap.size + 1 := by simp
          have hd32 : (x + 4294967296 - k - y) < 4294967296 := by omega
          have HD32 := Lib.hid hd32
          clear hbn hba HE hr hd32
          go_wp2_with (at_builtin; refine wpList_append_item rfl _ _ _ rfl rowU tells_u (v := .slice A5 i c5) (xs := out) (base := w.heap.size) (S := fun _ => False) rfl HO.out.1 (g := wr.heap.size) (cs := #[.int .u32 ((x : Int) - (k : Int) - (y : Int) + 4294967296)]) rfl HO.out.2.1 (y := (x + 4294967296 - k - y)) ⟨by rw [HO.out.2.2.2.1], HD32.out⟩ (fun b h => h.elim) (by rw [HLO.out]; unfold maxLen; omega) (by rw [HLO.out]; omega) (by omega) ?_; intro v' w6 hown6 hgrow6 hat6; have HB6 := Lib.hid (And.intro hown6 hgrow6); clear hown6 hgrow6 hat6)
          go_roundw
          case rel => exact ⟨i + 1, 1, out ++ [(x + 4294967296 - k - y)], by go_num, rfl, by omega, by omega, by rw [List.length_append, HLO.out]; rfl, digs_snoc HD.out.2.1 HD32.out, HO.out.2.2.2.2, HB6.out.1, below_then (HD.out.2.2.2.2.trans (HO.out.2.2.1.mono hzw)) HB6.out.2 (by rw [hzz]; omega) (fun g hg => (HL5.out.2.2 g hg).1)⟩
          case measure => simp only [intOf]; omega
        · have HE : ((((x - k - y) : Nat) : Int) = (x : Int) - (k : Int) - (y : Int)) := by omega
          have hr := minus_round (c := k) (t := y) (d := (x - k - y)) (c' := 0) HLO.out HD.out.2.2.1 HX0.out (.inl HY.out) (by omega)
          have hbn := Blk.new wr 110 #[.int .u32 ((x : Int) - (k : Int) - (y : Int))]
          have hba := (Below.refl wr.heap.size wr).alloc (Nat.le_refl _) (.cells #[.int .u32 ((x : Int) - (k : Int) - (y : Int))] 110)
          have HO := Lib.hid (And.intro (HD.out.2.2.2.1.past hba (Nat.le_refl _)) (And.intro hbn (And.intro hba (And.intro HE hr))))
          have hzz : (wr.alloc (.cells #[.int .u32 ((x : Int) - (k : Int) - (y : Int))] 110)).heap.size = wr.heap.size + 1 := by simp
          have hd32 : (x - k - y) < 4294967296 := by omega
          have HD32 := Lib.hid hd32
          clear hbn hba HE hr hd32
          go_wp2_with (at_builtin; refine wpList_append_item rfl _ _ _ rfl rowU tells_u (v := .slice A5 i c5) (xs := out) (base := w.heap.size) (S := fun _ => False) rfl HO.out.1 (g := wr.heap.size) (cs := #[.int .u32 ((x : Int) - (k : Int) - (y : Int))]) rfl HO.out.2.1 (y := (x - k - y)) ⟨by rw [HO.out.2.2.2.1], HD32.out⟩ (fun b h => h.elim) (by rw [HLO.out]; unfold maxLen; omega) (by rw [HLO.out]; omega) (by omega) ?_; intro v' w6 hown6 hgrow6 hat6; have HB6 := Lib.hid (And.intro hown6 hgrow6); clear hown6 hgrow6 hat6)
          go_roundw
          case rel => exact ⟨i + 1, 0, out ++ [(x - k - y)], by go_num, rfl, by omega, by omega, by rw [List.length_append, HLO.out]; rfl, digs_snoc HD.out.2.1 HD32.out, HO.out.2.2.2.2, HB6.out.1, below_then (HD.out.2.2.2.2.trans (HO.out.2.2.1.mono hzw)) HB6.out.2 (by rw [hzz]; omega) (fun g hg => (HL5.out.2.2 g hg).1)⟩
          case measure => simp only [intOf]; omega
      · have hibI : ¬ (i : Int) < (n2 : Int) := by omega
        have hpast : m.length ≤ i ∧ 0 = 0 := ⟨by rw [HAB.out.2.2.2.1]; omega, rfl⟩
        have HY := Lib.hid hpast
        clear hpast
        by_cases hneg : (x : Int) - (k : Int) < 0
        · have HE : ((((x + 4294967296 - k) : Nat) : Int) = (x : Int) - (k : Int) + 4294967296) := by omega
          have hr := minus_round (c := k) (t := 0) (d := (x + 4294967296 - k)) (c' := 1) HLO.out HD.out.2.2.1 HX0.out (.inr HY.out) (by omega)
          have hbn := Blk.new wr 110 #[.int .u32 ((x : Int) - (k : Int) + 4294967296)]
          have hba := (Below.refl wr.heap.size wr).alloc (Nat.le_refl _) (.cells #[.int .u32 ((x : Int) - (k : Int) + 4294967296)] 110)
          have HO := Lib.hid (And.intro (HD.out.2.2.2.1.past hba (Nat.le_refl _)) (And.intro hbn (And.intro hba (And.intro HE hr))))
          have hzz : (wr.alloc (.cells #[.int .u32 ((x : Int) - (k : Int) + 4294967296)] 110)).heap.size = wr.heap.size + 1 := by simp
          have hd32 : (x + 4294967296 - k) < 4294967296 := by omega
          have HD32 := Lib.hid hd32
          clear hbn hba HE hr hd32
          go_wp2_with (at_builtin; refine wpList_append_item rfl _ _ _ rfl rowU tells_u (v := .slice A5 i c5) (xs := out) (base := w.heap.size) (S := fun _ => False) rfl HO.out.1 (g := wr.heap.size) (cs := #[.int .u32 ((x : Int) - (k : Int) + 4294967296)]) rfl HO.out.2.1 (y := (x + 4294967296 - k)) ⟨by rw [HO.out.2.2.2.1], HD32.out⟩ (fun b h => h.elim) (by rw [HLO.out]; unfold maxLen; omega) (by rw [HLO.out]; omega) (by omega) ?_; intro v' w6 hown6 hgrow6 hat6; have HB6 := Lib.hid (And.intro hown6 hgrow6); clear hown6 hgrow6 hat6)
          go_roundw
          case rel => exact ⟨i + 1, 1, out ++ [(x + 4294967296 - k)], by go_num, rfl, by omega, by omega, by rw [List.length_append, HLO.out]; rfl, digs_snoc HD.out.2.1 HD32.out, HO.out.2.2.2.2, HB6.out.1, below_then (HD.out.2.2.2.2.trans (HO.out.2.2.1.mono hzw)) HB6.out.2 (by rw [hzz]; omega) (fun g hg => (HL5.out.2.2 g hg).1)⟩
          case measure => simp only [intOf]; omega
        · have HE : ((((x - k) : Nat) : Int) = (x : Int) - (k : Int)) := by omega
          have hr := minus_round (c := k) (t := 0) (d := (x - k)) (c' := 0) HLO.out HD.out.2.2.1 HX0.out (.inr HY.out) (by omega)
          have hbn := Blk.new wr 110 #[.int .u32 ((x : Int) - (k : Int))]
          have hba := (Below.refl wr.heap.size wr).alloc (Nat.le_refl _) (.cells #[.int .u32 ((x : Int) - (k : Int))] 110)
          have HO := Lib.hid (And.intro (HD.out.2.2.2.1.past hba (Nat.le_refl _)) (And.intro hbn (And.intro hba (And.intro HE hr))))
          have hzz : (wr.alloc (.cells #[.int .u32 ((x : Int) - (k : Int))] 110)).heap.size = wr.heap.size + 1 := by simp
          have hd32 : (x - k) < 4294967296 := by omega
          have HD32 := Lib.hid hd32
          clear hbn hba HE hr hd32
          go_wp2_with (at_builtin; refine wpList_append_item rfl _ _ _ rfl rowU tells_u (v := .slice A5 i c5) (xs := out) (base := w.heap.size) (S := fun _ => False) rfl HO.out.1 (g := wr.heap.size) (cs := #[.int .u32 ((x : Int) - (k : Int))]) rfl HO.out.2.1 (y := (x - k)) ⟨by rw [HO.out.2.2.2.1], HD32.out⟩ (fun b h => h.elim) (by rw [HLO.out]; unfold maxLen; omega) (by rw [HLO.out]; omega) (by omega) ?_; intro v' w6 hown6 hgrow6 hat6; have HB6 := Lib.hid (And.intro hown6 hgrow6); clear hown6 hgrow6 hat6)
          go_roundw
          case rel => exact ⟨i + 1, 0, out ++ [(x - k)], by go_num, rfl, by omega, by omega, by rw [List.length_append, HLO.out]; rfl, digs_snoc HD.out.2.1 HD32.out, HO.out.2.2.2.2, HB6.out.1, below_then (HD.out.2.2.2.2.trans (HO.out.2.2.1.mono hzw)) HB6.out.2 (by rw [hzz]; omega) (fun g hg => (HL5.out.2.2 g hg).1)⟩
          case measure => simp only [intOf]; omega
    · obtain rfl : i = n := by omega
      have hend : Hid (valL out = valL l - valL m) := by
        have h1 := HD.out.2.2.1
        rw [List.take_of_length_le (l := l) (by rw [HAB.out.2.2.1]; exact Nat.le_refl _), List.take_of_length_le (l := m) (by rw [HAB.out.2.2.2.1]; omega)] at h1
        exact (minus_end (a := l) HD.out.2.1 (by rw [HLO.out, HAB.out.2.2.1]) (by rw [HAB.out.2.2.1]; exact h1) HAB.out.2.2.2.2 hk).2
      go_wp2_with fail
      go_ret
      exact ⟨.slice A5 i c5, out, rfl, HD.out.2.2.2.1, hend.out, Nat.le_of_eq HLO.out, HD.out.2.2.2.2⟩
end Go.Proofs.YtkkpfdfoojcljaaGreat
