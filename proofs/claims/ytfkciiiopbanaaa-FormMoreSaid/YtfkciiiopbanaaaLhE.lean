/- Walk: package exact's made. -/
import Derived.Test.YtfkciiiopbanaaaLhCD
namespace Go.Proofs.Ytfkciiiopbanaaa
open Go.RowKit

theorem boxesM (w : World) (t t2 : TypeId) (c0 c1 c2 : Array Value) : Below w.heap.size w (((w.alloc (.cells c0 t)).alloc (.cells c1 t)).alloc (.cells c2 t2)) ∧ (((w.alloc (.cells c0 t)).alloc (.cells c1 t)).alloc (.cells c2 t2)).heap.size = w.heap.size + 3 ∧
    Blk (((w.alloc (.cells c0 t)).alloc (.cells c1 t)).alloc (.cells c2 t2)) w.heap.size t c0 ∧ Blk (((w.alloc (.cells c0 t)).alloc (.cells c1 t)).alloc (.cells c2 t2)) (w.heap.size + 1) t c1 ∧ Blk (((w.alloc (.cells c0 t)).alloc (.cells c1 t)).alloc (.cells c2 t2)) (w.heap.size + 1 + 1) t2 c2 :=
  ⟨lay_below [(t, c0), (t, c1), (t2, c2)] w, lay_size [(t, c0), (t, c1), (t2, c2)] w, lay_blk [(t, c0), (t, c1), (t2, c2)] w 0 _ _ rfl, lay_blk [(t, c0), (t, c1), (t2, c2)] w 1 _ _ rfl, lay_blk [(t, c0), (t, c1), (t2, c2)] w 2 _ _ rfl⟩
set_option maxRecDepth 100000 in
set_option maxHeartbeats 8000000 in
theorem xmade_any (n : Int) (d : Nat) (w : World) (hn : (digN n.natAbs).length ≤ 20000) (hd : (digN d).length ≤ 20000) (hd0 : 0 < d) :
    Calls Try.prog 63 #[Lng n, Lng (d : Int)] w fun e w' => e = .returned (NumV (n / ((Nat.gcd n.natAbs d : Nat) : Int)) ((d / Nat.gcd n.natAbs d : Nat) : Int)) ∧ Below w.heap.size w w' := by
  have HSG : ∀ W, Calls Try.prog 65 #[Lng (d : Int)] W fun e w' => e = .returned (.int .i64 1) ∧ Below W.heap.size W w' := fun W => by
    have := lngSign_any (d : Int) W
    rwa [Int.sign_eq_one_of_pos (by omega)] at this
  have HG := fun W => gcd_any n (d : Int) W (by omega) (by rw [Int.natAbs_natCast]; omega)
  rw [Int.natAbs_natCast] at HG
  have hg0 : 0 < Nat.gcd n.natAbs d := Nat.gcd_pos_of_pos_right _ hd0
  have hgd : Nat.gcd n.natAbs d ∣ d := Nat.gcd_dvd_right _ _
  have hgn : ((Nat.gcd n.natAbs d : Nat) : Int) ∣ n := Int.ofNat_dvd_left.2 (Nat.gcd_dvd_left _ _)
  have hgl : (digN (Nat.gcd n.natAbs d)).length ≤ 20000 := Nat.le_trans (digN_mono (Nat.le_of_dvd hd0 hgd)) hd
  generalize Nat.gcd n.natAbs d = g at *
  have HDN := fun W => divmod_any n g W hn hgl hg0 hgn
  have HDD := fun W => divmod_any (d : Int) g W (by rw [Int.natAbs_natCast]; exact hd) hgl hg0 (Int.ofNat_dvd.2 hgd)
  rw [← Int.natCast_ediv] at HDD
  rw [lng_zero] at HDN HDD
  obtain ⟨ps, qs, hN, hP, hQ⟩ := num_open (n / (g : Int)) ((d / g : Nat) : Int)
  rw [hN]
  rw [hP] at HDN
  rw [hQ] at HDD
  generalize decide (n / (g : Int) < 0) = pb at HDN ⊢
  generalize decide (((d / g : Nat) : Int) < 0) = qb at HDD ⊢
  obtain ⟨s, -, hL, -⟩ := lng_open n
  obtain ⟨t, -, hM, -⟩ := lng_open (d : Int)
  obtain ⟨gs, -, hG, -⟩ := lng_open (g : Int)
  rw [hL] at HG HDN ⊢
  rw [hM] at HSG HG HDD ⊢
  rw [hG] at HG HDN HDD
  generalize decide (n < 0) = na at HG HDN ⊢
  generalize decide ((d : Int) < 0) = nd at HSG HG HDD ⊢
  generalize decide ((g : Int) < 0) = gb at HG HDN HDD
  have HH := Lib.hid (And.intro HSG (And.intro HG (And.intro HDN HDD)))
  clear HSG HG HDN HDD hg0 hgd hgn hgl hN hP hQ hL hM hG hn hd hd0
  have hbx := boxesM w 88 90 #[.bool na, .string s] #[.bool nd, .string t] #[.bool false, .string ⟨#[]⟩, .bool false, .string ⟨#[]⟩]
  go_enter Try.func63, Try.ntmps63
  go_upto_region 1 with fail
  generalize ((w.alloc (.cells #[.bool na, .string s] 88)).alloc (.cells #[.bool nd, .string t] 88)).alloc (.cells #[.bool false, .string ⟨#[]⟩, .bool false, .string ⟨#[]⟩] 90) = X at hbx ⊢
  obtain ⟨hx, hsz, k0, k1, k2⟩ := hbx
  obtain ⟨b0, b1, -, -⟩ := lng_cells k1
  have HX := Lib.hid (And.intro hx (And.intro k0 (And.intro k1 (And.intro k2 hsz))))
  have hlt0 : w.heap.size < X.heap.size := by omega
  have hlt1 : w.heap.size + 1 < X.heap.size := by omega
  have hlt2 : w.heap.size + 1 + 1 < X.heap.size := by omega
  clear hx k0 k1 k2 hsz
  go_upto_region 4 with (first
    | (go_at_call 65
       with_reducible refine (HH.out.1 X).mono ?_
       rintro e w1 ⟨rfl, hb1⟩
       obtain ⟨c0, c1, -, -⟩ := lng_cells (HX.out.2.1.below hb1 hlt0)
       obtain ⟨c2, c3, -, -⟩ := lng_cells (HX.out.2.2.1.below hb1 hlt1)
       have H1 := Lib.hid hb1
       clear hb1)
    | (go_at_call 71
       with_reducible refine (HH.out.2.1 w1).mono ?_
       rintro e w2 ⟨rfl, hb2⟩
       obtain ⟨o0, o1, o2, o3⟩ := lng_cells (Blk.new w2 88 #[.bool false, .string ⟨#[]⟩])
       have H2 := Lib.hid (H1.out.trans (hb2.mono H1.out.size))
       clear hb2)
    | fail)
  obtain ⟨Y, hY⟩ : ∃ Y, Y = w2.alloc (.cells #[.bool gb, .string gs] 88) := ⟨_, rfl⟩
  have hby : Below X.heap.size X Y := by rw [hY]; exact H2.out.alloc H2.out.size _
  have hyg : Blk Y w2.heap.size 88 #[.bool gb, .string gs] := by rw [hY]; exact Blk.new w2 _ _
  obtain ⟨gg, hgg⟩ : ∃ gg, w2.heap.size = gg := ⟨_, rfl⟩
  rw [← hY]
  rw [hgg] at hyg ⊢
  obtain ⟨g0, g1, -, -⟩ := lng_cells hyg
  obtain ⟨y0, y1, -, -⟩ := lng_cells (HX.out.2.1.below hby hlt0)
  have hgX : X.heap.size ≤ gg := by rw [← hgg]; exact H2.out.size
  have HY := Lib.hid (And.intro hby hyg)
  clear hby hyg hY hgg H1 H2 c0 c1 c2 c3 o0 o1 o2 o3 b0 b1
  go_upto_region 5 with (first
    | (go_at_call 72
       with_reducible refine (HH.out.2.2.1 Y).mono ?_
       rintro e w3 ⟨rfl, hb3⟩
       obtain ⟨o0, o1, o2, o3⟩ := lng_cells ((Blk.new w3 88 #[.bool false, .string ⟨#[]⟩]).alloc (.cells #[.bool false, .string ⟨#[]⟩] 88))
       obtain ⟨p0, p1, p2, p3⟩ := lng_cells (new_at w3 88 #[.bool false, .string ⟨#[]⟩] #[.bool false, .string ⟨#[]⟩])
       obtain ⟨q0, q1, q2, q3⟩ := lng_cells (new_at w3 88 #[.bool pb, .string ps] #[.bool false, .string ⟨#[]⟩])
       have H3 := Lib.hid (And.intro (HY.out.1.trans (hb3.mono HY.out.1.size)) hb3)
       clear hb3)
    | fail)
  obtain ⟨Y2, hY2⟩ : ∃ Y2, Y2 = (w3.alloc (.cells #[.bool pb, .string ps] 88)).alloc (.cells #[.bool false, .string ⟨#[]⟩] 88) := ⟨_, rfl⟩
  have hby2 : Below Y.heap.size Y Y2 := by rw [hY2]; exact (H3.out.2.alloc H3.out.2.size _).alloc (by have := H3.out.2.size; simp; omega) _
  have hyp : Blk Y2 w3.heap.size 88 #[.bool pb, .string ps] := by rw [hY2]; exact (Blk.new w3 _ _).alloc _
  obtain ⟨gp, hgp⟩ : ∃ gp, w3.heap.size = gp := ⟨_, rfl⟩
  rw [← hY2]
  rw [hgp] at hyp ⊢
  have hgl2 : gg < Y.heap.size := HY.out.2.lt
  have hYX : X.heap.size ≤ Y.heap.size := HY.out.1.size
  obtain ⟨e0, e1, -, -⟩ := lng_cells (HY.out.2.below hby2 hgl2)
  obtain ⟨f0, f1, -, -⟩ := lng_cells ((HX.out.2.2.1.below HY.out.1 hlt1).below hby2 (Nat.lt_of_lt_of_le hlt1 hYX))
  have HY2 := Lib.hid (And.intro (HY.out.1.trans (hby2.mono hYX)) hyp)
  clear hby2 hyp hY2 hgp H3 g0 g1 y0 y1 o0 o1 o2 o3 p0 p1 p2 p3 q0 q1 q2 q3
  go_upto_region 6 with (first
    | (go_at_call 72
       with_reducible refine (HH.out.2.2.2 Y2).mono ?_
       rintro e w4 ⟨rfl, hb4⟩
       obtain ⟨o0, o1, o2, o3⟩ := lng_cells ((Blk.new w4 88 #[.bool false, .string ⟨#[]⟩]).alloc (.cells #[.bool false, .string ⟨#[]⟩] 88))
       obtain ⟨p0, p1, p2, p3⟩ := lng_cells (new_at w4 88 #[.bool false, .string ⟨#[]⟩] #[.bool false, .string ⟨#[]⟩])
       obtain ⟨q0, q1, q2, q3⟩ := lng_cells (new_at w4 88 #[.bool qb, .string qs] #[.bool false, .string ⟨#[]⟩])
       have H4 := Lib.hid (And.intro (HY2.out.1.trans (hb4.mono HY2.out.1.size)) hb4)
       clear hb4)
    | fail)
  obtain ⟨Y3, hY3⟩ : ∃ Y3, Y3 = (w4.alloc (.cells #[.bool qb, .string qs] 88)).alloc (.cells #[.bool false, .string ⟨#[]⟩] 88) := ⟨_, rfl⟩
  have hby3 : Below Y2.heap.size Y2 Y3 := by rw [hY3]; exact (H4.out.2.alloc H4.out.2.size _).alloc (by have := H4.out.2.size; simp; omega) _
  have hyq : Blk Y3 w4.heap.size 88 #[.bool qb, .string qs] := by rw [hY3]; exact (Blk.new w4 _ _).alloc _
  have hbX3 : Below X.heap.size X Y3 := HY2.out.1.trans (hby3.mono HY2.out.1.size)
  rw [← hY3]
  obtain ⟨l0, l1, -, -⟩ := lng_cells hyq
  obtain ⟨m0, m1, -, -⟩ := lng_cells (HY2.out.2.below hby3 HY2.out.2.lt)
  have hk3 := HX.out.2.2.2.1.below hbX3 hlt2
  obtain ⟨⟨r0, r1, r2, r3⟩, r4, r5, r6, r7⟩ := num_cells hk3
  have HY3 := Lib.hid (And.intro hk3 (HX.out.1.trans (hbX3.mono HX.out.1.size)))
  clear hby3 hyq hbX3 hk3 hY3 H4 e0 e1 f0 f1 o0 o1 o2 o3 p0 p1 p2 p3 q0 q1 q2 q3
  go_wp2_with fail
  obtain ⟨Z, hZ⟩ : ∃ Z, Z = (((Y3.setCell ⟨w.heap.size + 1 + 1, 0, none⟩ (.bool pb)).setCell ⟨w.heap.size + 1 + 1, 1, none⟩ (.string ps)).setCell ⟨w.heap.size + 1 + 1, 2, none⟩ (.bool qb)).setCell ⟨w.heap.size + 1 + 1, 3, none⟩ (.string qs) := ⟨_, rfl⟩
  obtain ⟨⟨z0, z1, z2, z3⟩, z4⟩ := num_put _ _ _ _ hZ HY3.out.1 HY3.out.2 (by omega)
  rw [← hZ]
  refine bodyPost_ret (v := .agg #[.bool pb, .string ps, .bool qb, .string qs]) (by simp [results, Try.results63, go_sem, z0, z1, z2, z3]) rfl ⟨rfl, z4⟩
end Go.Proofs.Ytfkciiiopbanaaa
