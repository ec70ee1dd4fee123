/- Walk: package long's DivMod (where nothing remains). -/
import Derived.Test.YtkkpfdfoojcljaaGreatLgX
namespace Go.Proofs.YtkkpfdfoojcljaaGreat
open Go.RowKit

theorem boxes4 (w : World) (t : TypeId) (c0 c1 c2 c3 : Array Value) : Below w.heap.size w ((((w.alloc (.cells c0 t)).alloc (.cells c1 t)).alloc (.cells c2 t)).alloc (.cells c3 t)) ∧ ((((w.alloc (.cells c0 t)).alloc (.cells c1 t)).alloc (.cells c2 t)).alloc (.cells c3 t)).heap.size = w.heap.size + 4 ∧
    Blk ((((w.alloc (.cells c0 t)).alloc (.cells c1 t)).alloc (.cells c2 t)).alloc (.cells c3 t)) w.heap.size t c0 ∧ Blk ((((w.alloc (.cells c0 t)).alloc (.cells c1 t)).alloc (.cells c2 t)).alloc (.cells c3 t)) (w.heap.size + 1) t c1 ∧ Blk ((((w.alloc (.cells c0 t)).alloc (.cells c1 t)).alloc (.cells c2 t)).alloc (.cells c3 t)) (w.heap.size + 1 + 1) t c2 ∧ Blk ((((w.alloc (.cells c0 t)).alloc (.cells c1 t)).alloc (.cells c2 t)).alloc (.cells c3 t)) (w.heap.size + 1 + 1 + 1) t c3 :=
  ⟨lay_below [(t, c0), (t, c1), (t, c2), (t, c3)] w, lay_size [(t, c0), (t, c1), (t, c2), (t, c3)] w, lay_blk [(t, c0), (t, c1), (t, c2), (t, c3)] w 0 _ _ rfl, lay_blk [(t, c0), (t, c1), (t, c2), (t, c3)] w 1 _ _ rfl, lay_blk [(t, c0), (t, c1), (t, c2), (t, c3)] w 2 _ _ rfl, lay_blk [(t, c0), (t, c1), (t, c2), (t, c3)] w 3 _ _ rfl⟩
theorem div_abs {a : Int} {b : Nat} (hb : 0 < b) (hd : (b : Int) ∣ a) : (if decide (a < 0) then -((a.natAbs / b : Nat) : Int) else ((a.natAbs / b : Nat) : Int)) = a / (b : Int) ∧ a.natAbs % b = 0 := by
  obtain ⟨k, rfl⟩ := hd
  have hbI : (0 : Int) < (b : Int) := by omega
  have h1 : ((b : Int) * k).natAbs = b * k.natAbs := by rw [Int.natAbs_mul, Int.natAbs_natCast]
  rw [h1, Nat.mul_div_cancel_left _ hb, Nat.mul_mod_right, Int.mul_ediv_cancel_left _ (by omega)]
  refine ⟨?_, rfl⟩
  by_cases hk : k < 0
  · have : (b : Int) * k < 0 := Int.mul_neg_of_pos_of_neg hbI hk
    rw [if_pos (by simpa using this)]; omega
  · have : ¬ (b : Int) * k < 0 := by
      have := Int.mul_nonneg (Int.le_of_lt hbI) (show 0 ≤ k by omega)
      omega
    rw [if_neg (by simpa using this)]; omega
theorem cell_skip {w : World} {p q : Addr} {u v : Value} (h : p.block ≠ q.block) (hw : w.cell? q = some v) : (w.setCell p u).cell? q = some v := (World.cell?_of_block (w := w) (Below.heap_setCell w p u q.block (Ne.symm h))).trans hw
theorem cell_old {w : World} {q : Addr} {o : Obj} {v : Value} (h : q.block < w.heap.size) (hw : w.cell? q = some v) : (w.alloc o).cell? q = some v := (World.cell?_of_block (w := w) (Below.heap_alloc w o q.block h)).trans hw
theorem lt_of_cell {w : World} {g i : Nat} {v : Value} (h : w.cell? ⟨g, i, none⟩ = some v) : g < w.heap.size := by
  rcases Nat.lt_or_ge g w.heap.size with hlt | hge
  · exact hlt
  · unfold World.cell? at h
    simp [Array.getElem?_eq_none hge] at h
/-- what stands in two boxes at the end -/
def TwoP (g9 g10 : Nat) (a b c d : Value) (W Z : World) : Prop := W.heap.size ≤ g9 ∧ W.heap.size ≤ g10 ∧ Z.cell? ⟨g9, 0, none⟩ = some a ∧ Z.cell? ⟨g9, 1, none⟩ = some b ∧ Z.cell? ⟨g10, 0, none⟩ = some c ∧ Z.cell? ⟨g10, 1, none⟩ = some d ∧ Below W.heap.size W Z
theorem two_of {Z W : World} {g9 g10 : Nat} {t : TypeId} {a b c d : Value} (h9 : Blk Z g9 t #[a, b]) (h10 : Blk Z g10 t #[c, d]) (hb : Below W.heap.size W Z) (h1 : W.heap.size ≤ g9) (h2 : W.heap.size ≤ g10) : TwoP g9 g10 a b c d W Z := by
  obtain ⟨z0, z1, -, -⟩ := lng_cells h9
  obtain ⟨y0, y1, -, -⟩ := lng_cells h10
  exact ⟨h1, h2, z0, z1, y0, y1, hb⟩
theorem put_two {V W : World} {g9 g10 : Nat} {t : TypeId} {x y x' y' : Value} (a b c d : Value) (h9 : Blk V g9 t #[x, y]) (h10 : Blk V g10 t #[x', y']) (hne : g9 ≠ g10) (hb : Below W.heap.size W V) (h1 : W.heap.size ≤ g9) (h2 : W.heap.size ≤ g10) :
    TwoP g9 g10 a b c d W ((((V.setCell ⟨g9, 0, none⟩ a).setCell ⟨g9, 1, none⟩ b).setCell ⟨g10, 0, none⟩ c).setCell ⟨g10, 1, none⟩ d) :=
  two_of ((((h9.set_ 0 a).set_ 1 b).far (p := ⟨g10, 0, none⟩) hne c).far (p := ⟨g10, 1, none⟩) hne d) ((((h10.far (p := ⟨g9, 0, none⟩) (Ne.symm hne) a).far (p := ⟨g9, 1, none⟩) (Ne.symm hne) b).set_ 0 c).set_ 1 d)
    ((((hb.setCell (p := ⟨g9, 0, none⟩) h1 _).setCell (p := ⟨g9, 1, none⟩) h1 _).setCell (p := ⟨g10, 0, none⟩) h2 _).setCell (p := ⟨g10, 1, none⟩) h2 _) h1 h2
theorem put_one {V W : World} {g10 : Nat} {t : TypeId} {x' y' : Value} (a b c d : Value) (h10 : Blk V g10 t #[x', y']) (hb : Below W.heap.size W V) (hlt : g10 < V.heap.size) (h2 : W.heap.size ≤ g10) :
    TwoP V.heap.size g10 a b c d W (((V.alloc (.cells #[a, b] t)).setCell ⟨g10, 0, none⟩ c).setCell ⟨g10, 1, none⟩ d) :=
  two_of (((Blk.new V t #[a, b]).far (p := ⟨g10, 0, none⟩) (by dsimp only; omega) c).far (p := ⟨g10, 1, none⟩) (by dsimp only; omega) d) (((h10.alloc (.cells #[a, b] t)).set_ 0 c).set_ 1 d)
    (((hb.alloc hb.size _).setCell (p := ⟨g10, 0, none⟩) h2 _).setCell (p := ⟨g10, 1, none⟩) h2 _) hb.size h2
theorem put_new {V W : World} {t : TypeId} (a b c d : Value) (hb : Below W.heap.size W V) : TwoP V.heap.size (V.heap.size + 1) a b c d W ((V.alloc (.cells #[a, b] t)).alloc (.cells #[c, d] t)) :=
  two_of ((Blk.new V t #[a, b]).alloc _) (lay_blk [(t, #[a, b]), (t, #[c, d])] V 1 _ _ rfl) ((hb.alloc hb.size _).alloc (by have := hb.size; simp; omega) _) hb.size (by have := hb.size; omega)
theorem put_new2 {V W : World} {t : TypeId} (a b c d : Value) (hb : Below W.heap.size W V) : TwoP (V.heap.size + 1) V.heap.size a b c d W ((V.alloc (.cells #[c, d] t)).alloc (.cells #[a, b] t)) :=
  two_of (lay_blk [(t, #[c, d]), (t, #[a, b])] V 1 _ _ rfl) ((Blk.new V t #[c, d]).alloc _) ((hb.alloc hb.size _).alloc (by have := hb.size; simp; omega) _) (by have := hb.size; omega) hb.size
theorem size_lt_alloc (w : World) (o : Obj) : w.heap.size < (w.alloc o).heap.size := by simp
theorem new_at (w : World) (t : TypeId) (c0 c1 : Array Value) : Blk ((w.alloc (.cells c0 t)).alloc (.cells c1 t)) (w.heap.size + 1) t c1 := lay_blk [(t, c0), (t, c1)] w 1 _ _ rfl
theorem below_drew1 {B : Nat} {a w : World} (h : Below B a w) : Below B a w.drew := h.drew
theorem lng_zero : Lng 0 = .agg #[.bool false, .string ⟨#[]⟩] := by
  unfold Lng
  rw [Int.natAbs_zero, digN_zero]
  rfl
set_option maxRecDepth 100000 in
set_option maxHeartbeats 8000000 in
theorem divmod_any (a : Int) (b : Nat) (w : World) (ha : (digN a.natAbs).length ≤ 20000) (hb : (digN b).length ≤ 20000) (hb0 : 0 < b) (hd : (b : Int) ∣ a) :
    Calls Tryz.prog 98 #[Lng a, Lng (b : Int)] w fun e w' => e = .returned (.tuple #[Lng (a / (b : Int)), Lng 0, .int .i64 0]) ∧ Below w.heap.size w w' := by
  obtain ⟨hdv, hdm⟩ := div_abs hb0 hd
  have HA : ∀ W, Calls Tryz.prog 88 #[Lng a] W (RowP (digN a.natAbs) W) := fun W => limbs_any a W (by omega)
  have HB : ∀ W, Calls Tryz.prog 88 #[Lng (b : Int)] W (RowP (digN (b : Int).natAbs) W) := fun W => limbs_any (b : Int) W (by rw [Int.natAbs_natCast]; omega)
  have HSG : ∀ W, Calls Tryz.prog 86 #[Lng (b : Int)] W fun e w' => e = .returned (.int .i64 1) ∧ Below W.heap.size W w' := fun W => by
    have := lngSign_any (b : Int) W
    rwa [Int.sign_eq_one_of_pos (by omega)] at this
  have HSZ : ∀ W, Calls Tryz.prog 86 #[Lng 0] W fun e w' => e = .returned (.int .i64 0) ∧ Below W.heap.size W w' := fun W => lngSign_any 0 W
  rw [lng_zero] at HSZ ⊢
  rw [Int.natAbs_natCast] at HB
  have hva := val_digN a.natAbs
  have hvb := val_digN b
  obtain ⟨rs, -, hR, -⟩ := lng_open (a / (b : Int))
  rw [hR]
  generalize decide (a / (b : Int) < 0) = rb at hR ⊢
  obtain ⟨s, l, hL, hl, -⟩ := lng_open a
  obtain ⟨t, m, hM, hm, -⟩ := lng_open (b : Int)
  rw [Int.natAbs_natCast] at hm
  rw [show decide ((b : Int) < 0) = false from decide_eq_false (by omega)] at hM
  rw [hL] at HA ⊢
  rw [hM] at HB HSG ⊢
  rw [hl] at ha hva HA
  rw [hm] at hb hvb HB
  clear hL hM hl hm
  generalize decide (a < 0) = na at HA hdv ⊢
  have HP := Lib.hid (And.intro hR (And.intro hdv (And.intro hdm (And.intro hva hvb))))
  have HAB := Lib.hid (And.intro HA HB)
  have HSGN := Lib.hid (And.intro HSG HSZ)
  clear hR hdv hdm HA HB hva hvb HSG HSZ hd
  go_enter Tryz.func98, Tryz.ntmps98
  go_upto_region 1 with fail
  have hbx := boxes4 w 86 #[.bool na, .string s] #[.bool false, .string t] #[.bool false, .string ⟨#[]⟩] #[.bool false, .string ⟨#[]⟩]
  generalize (((w.alloc (.cells #[.bool na, .string s] 86)).alloc (.cells #[.bool false, .string t] 86)).alloc (.cells #[.bool false, .string ⟨#[]⟩] 86)).alloc (.cells #[.bool false, .string ⟨#[]⟩] 86) = X at hbx ⊢
  obtain ⟨hx, hsz, k0, k1, k2, k3⟩ := hbx
  obtain ⟨b0, b1, -, -⟩ := lng_cells k1
  have HX := Lib.hid (And.intro hx (And.intro k0 (And.intro k1 (And.intro k2 (And.intro k3 hsz)))))
  have hlt0 : w.heap.size < X.heap.size := by omega
  have hlt1 : w.heap.size + 1 < X.heap.size := by omega
  have hlt2 : w.heap.size + 1 + 1 < X.heap.size := by omega
  have hlt3 : w.heap.size + 1 + 1 + 1 < X.heap.size := by omega
  clear hx k0 k1 k2 k3 hsz
  go_upto_region 3 with (first
    | (go_at_call 86
       with_reducible refine (HSGN.out.1 X).mono ?_
       rintro e wa ⟨rfl, hba⟩)
    | fail)
  have a0 : wa.cell? ⟨w.heap.size, 0, none⟩ = some (.bool na) := by rw [((HX.out.2.1.below hba hlt0).cell 0)]; rfl
  have a1 : wa.cell? ⟨w.heap.size, 1, none⟩ = some (.string s) := by rw [((HX.out.2.1.below hba hlt0).cell 1)]; rfl
  have c0 : wa.cell? ⟨w.heap.size + 1, 0, none⟩ = some (.bool false) := by rw [((HX.out.2.2.1.below hba hlt1).cell 0)]; rfl
  have c1 : wa.cell? ⟨w.heap.size + 1, 1, none⟩ = some (.string t) := by rw [((HX.out.2.2.1.below hba hlt1).cell 1)]; rfl
  have HBA := Lib.hid hba
  have hax : X.heap.size ≤ wa.heap.size := hba.size
  clear hba b0 b1
  go_cut [7, 8] (fun s7 s8 wx => ∃ q r, Hid (Got wx s7 q ∧ Got wx s8 r ∧ valL q = a.natAbs / b ∧ valL r = a.natAbs % b ∧ q.length ≤ 50000 ∧ r.length ≤ 50000 ∧ Below X.heap.size X wx))
  case first =>
    go_region_held3 (fun w' => w'.cell? ⟨w.heap.size, 0, none⟩ = some (.bool na) ∧ w'.cell? ⟨w.heap.size, 1, none⟩ = some (.string s) ∧ w'.cell? ⟨w.heap.size + 1, 0, none⟩ = some (.bool false) ∧ w'.cell? ⟨w.heap.size + 1, 1, none⟩ = some (.string t))
      (go_keep)
      (first
        | (go_simp
           go_at_call 88
           with_reducible refine (HAB.out.1 wa.drew).mono ?_
           rintro e w1 ⟨v1, rfl, hown1, hb1⟩
           obtain ⟨AA, cA, rfl, hl1, hm1, hd1⟩ := hown1.reads
           have hbw1 : Below wa.heap.size wa w1 := below_of_drew hb1
           have f0 : w1.cell? ⟨w.heap.size, 0, none⟩ = some (.bool na) := (hbw1.cell (p := ⟨w.heap.size, 0, none⟩) (Nat.lt_of_lt_of_le hlt0 hax)).trans a0
           have f1 : w1.cell? ⟨w.heap.size, 1, none⟩ = some (.string s) := (hbw1.cell (p := ⟨w.heap.size, 1, none⟩) (Nat.lt_of_lt_of_le hlt0 hax)).trans a1
           have f2 : w1.cell? ⟨w.heap.size + 1, 0, none⟩ = some (.bool false) := (hbw1.cell (p := ⟨w.heap.size + 1, 0, none⟩) (Nat.lt_of_lt_of_le hlt1 hax)).trans c0
           have f3 : w1.cell? ⟨w.heap.size + 1, 1, none⟩ = some (.string t) := (hbw1.cell (p := ⟨w.heap.size + 1, 1, none⟩) (Nat.lt_of_lt_of_le hlt1 hax)).trans c1
           have HA1 := Lib.hid (And.intro hd1 (And.intro hl1 (And.intro hm1 hbw1)))
           clear hown1 hb1 hbw1 hd1 hl1 hm1)
        | (go_simp
           go_at_call 88
           with_reducible refine (HAB.out.2 w1).mono ?_
           rintro e w2 ⟨v2, rfl, hown2, hb2⟩
           obtain ⟨AB, cB, rfl, hl2, hm2, hd2⟩ := hown2.reads
           have hbw2 : Below wa.heap.size wa w2 := HA1.out.2.2.2.trans (hb2.mono HA1.out.2.2.2.size)
           have g0 : w2.cell? ⟨w.heap.size, 0, none⟩ = some (.bool na) := (hbw2.cell (p := ⟨w.heap.size, 0, none⟩) (Nat.lt_of_lt_of_le hlt0 hax)).trans a0
           have g1 : w2.cell? ⟨w.heap.size, 1, none⟩ = some (.string s) := (hbw2.cell (p := ⟨w.heap.size, 1, none⟩) (Nat.lt_of_lt_of_le hlt0 hax)).trans a1
           have g2 : w2.cell? ⟨w.heap.size + 1, 0, none⟩ = some (.bool false) := (hbw2.cell (p := ⟨w.heap.size + 1, 0, none⟩) (Nat.lt_of_lt_of_le hlt1 hax)).trans c0
           have g3 : w2.cell? ⟨w.heap.size + 1, 1, none⟩ = some (.string t) := (hbw2.cell (p := ⟨w.heap.size + 1, 1, none⟩) (Nat.lt_of_lt_of_le hlt1 hax)).trans c1
           have HB2 := Lib.hid (And.intro hd2 (And.intro hl2 (And.intro hm2 hbw2)))
           have HA2 := Lib.hid (And.intro (HA1.out.1.below stays_u hb2 hb2.size) (And.intro HA1.out.2.1 HA1.out.2.2.1))
           clear hown2 hb2 hbw2 hd2 hl2 hm2)
        | (go_simp
           go_at_call 106
           with_reducible refine (quotient_any AA l.length cA l AB m.length cB m w2 HA2.out.1 HB2.out.1 (Nat.le_trans ha (by decide)) (Nat.le_trans hb (by decide)) HA2.out.2.1 HA2.out.2.2 HB2.out.2.1 HB2.out.2.2.1 (Nat.lt_of_lt_of_eq hb0 HP.out.2.2.2.2.symm)).mono ?_
           rintro e w3 ⟨v7, v8, q7, r8, rfl, hg7, hg8, hq7, hr8, hq7l, hr8l, hb3⟩
           rw [HP.out.2.2.2.1, HP.out.2.2.2.2] at hq7 hr8
           have hbw3 : Below wa.heap.size wa w3 := HB2.out.2.2.2.trans (hb3.mono HB2.out.2.2.2.size)
           have h0 : w3.cell? ⟨w.heap.size, 0, none⟩ = some (.bool na) := (hbw3.cell (p := ⟨w.heap.size, 0, none⟩) (Nat.lt_of_lt_of_le hlt0 hax)).trans a0
           have h1 : w3.cell? ⟨w.heap.size, 1, none⟩ = some (.string s) := (hbw3.cell (p := ⟨w.heap.size, 1, none⟩) (Nat.lt_of_lt_of_le hlt0 hax)).trans a1
           have h2 : w3.cell? ⟨w.heap.size + 1, 0, none⟩ = some (.bool false) := (hbw3.cell (p := ⟨w.heap.size + 1, 0, none⟩) (Nat.lt_of_lt_of_le hlt1 hax)).trans c0
           have h3 : w3.cell? ⟨w.heap.size + 1, 1, none⟩ = some (.string t) := (hbw3.cell (p := ⟨w.heap.size + 1, 1, none⟩) (Nat.lt_of_lt_of_le hlt1 hax)).trans c1
           have HQ3 := Lib.hid (And.intro hg7 (And.intro hg8 (And.intro hq7 (And.intro hr8 (And.intro hq7l (And.intro hr8l hbw3))))))
           clear hg7 hg8 hq7 hr8 hq7l hr8l hb3 hbw3)
        | fail)
    all_goals (go_wp2_with fail; go_meet; exact ⟨q7, r8, HQ3.out.1, HQ3.out.2.1, HQ3.out.2.2.1, HQ3.out.2.2.2.1, by have := HQ3.out.2.2.2.2.1; omega, by have := HQ3.out.2.2.2.2.2.1; omega, HBA.out.trans (HQ3.out.2.2.2.2.2.2.mono hax)⟩)
  case rest =>
    obtain ⟨q, r, ⟨A7, c7, rfl, h7, h7m, hd7⟩, ⟨A8, c8, rfl, h8, h8m, hd8⟩, hq, hr, hql, hrl, hbc⟩ := hcut
    clear a0 a1 c0 c1
    have hm7 : ∀ W, Below wc.heap.size wc W → Calls Tryz.prog 90 #[.bool na, .slice A7 q.length c7] W fun e w' => e = .returned (.agg #[.bool rb, .string rs]) ∧ Below W.heap.size W w' := fun W hW => by
      have := made_any na A7 q.length c7 q W wc.heap.size hW.size (hd7.below stays_u hW (Nat.le_refl _)) h7 h7m (by omega)
      rw [hq, HP.out.2.1, HP.out.1] at this
      exact this
    have hm8 : ∀ W, Below wc.heap.size wc W → Calls Tryz.prog 90 #[.bool na, .slice A8 r.length c8] W fun e w' => e = .returned (.agg #[.bool false, .string ⟨#[]⟩]) ∧ Below W.heap.size W w' := fun W hW => by
      have := made_any na A8 r.length c8 r W wc.heap.size hW.size (hd8.below stays_u hW (Nat.le_refl _)) h8 h8m (by omega)
      rw [hr, HP.out.2.2.1] at this
      have e0 : (if na then -((0 : Nat) : Int) else ((0 : Nat) : Int)) = 0 := by cases na <;> rfl
      rw [e0, lng_zero] at this
      exact this
    have HM := Lib.hid (And.intro hm7 hm8)
    have k0 := HX.out.2.1.below hbc hlt0
    have k1 := HX.out.2.2.1.below hbc hlt1
    have k2 := HX.out.2.2.2.1.below hbc hlt2
    have k3 := HX.out.2.2.2.2.1.below hbc hlt3
    have hcx : X.heap.size ≤ wc.heap.size := hbc.size
    have a0 : wc.cell? ⟨w.heap.size, 0, none⟩ = some (.bool na) := by rw [k0.cell 0]; rfl
    have c0 : wc.cell? ⟨w.heap.size + 1, 0, none⟩ = some (.bool false) := by rw [k1.cell 0]; rfl
    have HC := Lib.hid (And.intro hbc (And.intro k1 (And.intro k2 k3)))
    clear hm7 hm8 k0 k1 k2 k3 hbc h7 h7m hd7 h8 h8m hd8 hq hr HAB HBA HP
    go_upto_region 4 with fail
    go_cut [9, 10] (fun s9 s10 wx => ∃ g9 g10 : Nat, s9 = .pointer (some ⟨g9, 0, none⟩) ∧ s10 = .pointer (some ⟨g10, 0, none⟩) ∧ wc.heap.size ≤ g9 ∧ wc.heap.size ≤ g10 ∧ wx.cell? ⟨g9, 0, none⟩ = some (.bool rb) ∧ wx.cell? ⟨g9, 1, none⟩ = some (.string rs) ∧ wx.cell? ⟨g10, 0, none⟩ = some (.bool false) ∧ wx.cell? ⟨g10, 1, none⟩ = some (.string ⟨#[]⟩) ∧ Hid (Below wc.heap.size wc wx))
    case first =>
      go_region_held3 (fun w' => w'.cell? ⟨w.heap.size, 0, none⟩ = some (.bool na) ∧ w'.cell? ⟨w.heap.size + 1, 0, none⟩ = some (.bool false))
        ((try dsimp only) <;> (repeat' apply And.intro) <;> (first | go_keep | (repeat (first | (with_reducible assumption) | (with_reducible refine cell_skip (by dsimp only; omega) ?_) | (with_reducible refine cell_old (by dsimp only; omega) ?_)))))
        (first
          | (go_simp
             go_at_call 90
             have hW5 : Below wc.heap.size wc (wc.drew) := (below_drew1 (Below.refl wc.heap.size wc))
             with_reducible refine (HM.out.1 _ hW5).mono ?_
             rintro e w5 ⟨rfl, hb5⟩
             have hbw5 : Below wc.heap.size wc w5 := hW5.trans (hb5.mono hW5.size)
             have f0 : w5.cell? ⟨w.heap.size, 0, none⟩ = some (.bool na) := (hbw5.cell (p := ⟨w.heap.size, 0, none⟩) (Nat.lt_of_lt_of_le hlt0 hcx)).trans a0
             have f1 : w5.cell? ⟨w.heap.size + 1, 0, none⟩ = some (.bool false) := (hbw5.cell (p := ⟨w.heap.size + 1, 0, none⟩) (Nat.lt_of_lt_of_le hlt1 hcx)).trans c0
             have hz5 : wc.heap.size + 0 ≤ w5.heap.size := by have := hb5.size; first | omega | (simp at this; omega)
             have HB5 := Lib.hid (And.intro hbw5 True.intro)
             clear hb5 hW5 hbw5)
          | (go_simp
             go_at_call 90
             have hW5 : Below wc.heap.size wc ((wc.alloc (.cells #[.bool false, .string ⟨#[]⟩] 86)).drew) := (below_drew1 ((Below.refl wc.heap.size wc).alloc (Nat.le_refl _) (.cells #[.bool false, .string ⟨#[]⟩] 86)))
             with_reducible refine (HM.out.1 _ hW5).mono ?_
             rintro e w5 ⟨rfl, hb5⟩
             have hbw5 : Below wc.heap.size wc w5 := hW5.trans (hb5.mono hW5.size)
             have f0 : w5.cell? ⟨w.heap.size, 0, none⟩ = some (.bool na) := (hbw5.cell (p := ⟨w.heap.size, 0, none⟩) (Nat.lt_of_lt_of_le hlt0 hcx)).trans a0
             have f1 : w5.cell? ⟨w.heap.size + 1, 0, none⟩ = some (.bool false) := (hbw5.cell (p := ⟨w.heap.size + 1, 0, none⟩) (Nat.lt_of_lt_of_le hlt1 hcx)).trans c0
             have hz5 : wc.heap.size + 1 ≤ w5.heap.size := by have := hb5.size; first | omega | (simp at this; omega)
             have k5a : Blk w5 wc.heap.size 86 #[.bool false, .string ⟨#[]⟩] := Blk.below (Blk.new wc 86 #[.bool false, .string ⟨#[]⟩]).drew hb5 (by first | omega | (simp; done) | (simp; omega))
             have HB5 := Lib.hid (And.intro hbw5 k5a)
             clear hb5 hW5 hbw5 k5a)
          | (go_simp
             go_at_call 90
             have hW5 : Below wc.heap.size wc (((wc.alloc (.cells #[.bool false, .string ⟨#[]⟩] 86)).alloc (.cells #[.bool false, .string ⟨#[]⟩] 86)).drew) := (below_drew1 (((Below.refl wc.heap.size wc).alloc (Nat.le_refl _) (.cells #[.bool false, .string ⟨#[]⟩] 86)).alloc (Nat.le_of_lt (size_lt_alloc wc (.cells #[.bool false, .string ⟨#[]⟩] 86))) (.cells #[.bool false, .string ⟨#[]⟩] 86)))
             with_reducible refine (HM.out.1 _ hW5).mono ?_
             rintro e w5 ⟨rfl, hb5⟩
             have hbw5 : Below wc.heap.size wc w5 := hW5.trans (hb5.mono hW5.size)
             have f0 : w5.cell? ⟨w.heap.size, 0, none⟩ = some (.bool na) := (hbw5.cell (p := ⟨w.heap.size, 0, none⟩) (Nat.lt_of_lt_of_le hlt0 hcx)).trans a0
             have f1 : w5.cell? ⟨w.heap.size + 1, 0, none⟩ = some (.bool false) := (hbw5.cell (p := ⟨w.heap.size + 1, 0, none⟩) (Nat.lt_of_lt_of_le hlt1 hcx)).trans c0
             have hz5 : wc.heap.size + 2 ≤ w5.heap.size := by have := hb5.size; first | omega | (simp at this; omega)
             have k5a : Blk w5 wc.heap.size 86 #[.bool false, .string ⟨#[]⟩] := Blk.below ((Blk.new wc 86 #[.bool false, .string ⟨#[]⟩]).alloc (.cells #[.bool false, .string ⟨#[]⟩] 86)).drew hb5 (by first | omega | (simp; done) | (simp; omega))
             have k5b : Blk w5 (wc.heap.size + 1) 86 #[.bool false, .string ⟨#[]⟩] := Blk.below (new_at wc 86 #[.bool false, .string ⟨#[]⟩] #[.bool false, .string ⟨#[]⟩]).drew hb5 (by first | omega | (simp; done) | (simp; omega))
             have HB5 := Lib.hid (And.intro hbw5 (And.intro k5a k5b))
             clear hb5 hW5 hbw5 k5a k5b)
          | (go_simp
             go_at_call 90
             have k5n : True := HB5.out.2
             have hW6 : Below w5.heap.size w5 w5 := (Below.refl w5.heap.size w5)
             with_reducible refine (HM.out.2 _ (HB5.out.1.trans (hW6.mono HB5.out.1.size))).mono ?_
             rintro e w6 ⟨rfl, hb6⟩
             have hb56 : Below w5.heap.size w5 w6 := hW6.trans (hb6.mono hW6.size)
             have hz6 : w5.heap.size + 0 ≤ w6.heap.size := by have := hb6.size; first | omega | (simp at this; omega)
             obtain ⟨kn00, kn01, kn02, kn03⟩ := lng_cells ((Blk.new w6 86 #[.bool false, .string ⟨#[]⟩]).alloc (.cells #[.bool false, .string ⟨#[]⟩] 86))
             obtain ⟨kn10, kn11, kn12, kn13⟩ := lng_cells (new_at w6 86 #[.bool false, .string ⟨#[]⟩] #[.bool false, .string ⟨#[]⟩])
             obtain ⟨ks00, ks01, ks02, ks03⟩ := lng_cells (new_at w6 86 #[.bool rb, .string rs] #[.bool false, .string ⟨#[]⟩])
             obtain ⟨ks10, ks11, ks12, ks13⟩ := lng_cells ((Blk.new w6 86 #[.bool false, .string ⟨#[]⟩]).alloc (.cells #[.bool rb, .string rs] 86))
             have HB60 : Below wc.heap.size wc w6 := HB5.out.1.trans (hb56.mono HB5.out.1.size)
             have HF0 := Lib.hid (put_new (V := w6) (t := 86) (.bool rb) (.string rs) (.bool false) (.string ⟨#[]⟩) HB60)
             have HF1 := Lib.hid (put_new2 (V := w6) (t := 86) (.bool rb) (.string rs) (.bool false) (.string ⟨#[]⟩) HB60)
             have hbw6 : Below wc.heap.size wc w6 := HB5.out.1.trans (hb56.mono HB5.out.1.size)
             have g0 : w6.cell? ⟨w.heap.size, 0, none⟩ = some (.bool na) := (hbw6.cell (p := ⟨w.heap.size, 0, none⟩) (Nat.lt_of_lt_of_le hlt0 hcx)).trans a0
             have g1 : w6.cell? ⟨w.heap.size + 1, 0, none⟩ = some (.bool false) := (hbw6.cell (p := ⟨w.heap.size + 1, 0, none⟩) (Nat.lt_of_lt_of_le hlt1 hcx)).trans c0
             have HB6 := Lib.hid (HB5.out.1.trans (hb56.mono HB5.out.1.size))
             clear hb6 hW6 hb56 hbw6 HB60 k5n)
          | (go_simp
             go_at_call 90
             have k5n : True := HB5.out.2
             have hW6 : Below w5.heap.size w5 (w5.alloc (.cells #[.bool false, .string ⟨#[]⟩] 86)) := ((Below.refl w5.heap.size w5).alloc (Nat.le_refl _) (.cells #[.bool false, .string ⟨#[]⟩] 86))
             with_reducible refine (HM.out.2 _ (HB5.out.1.trans (hW6.mono HB5.out.1.size))).mono ?_
             rintro e w6 ⟨rfl, hb6⟩
             have hb56 : Below w5.heap.size w5 w6 := hW6.trans (hb6.mono hW6.size)
             have hz6 : w5.heap.size + 1 ≤ w6.heap.size := by have := hb6.size; first | omega | (simp at this; omega)
             have k6c : Blk w6 w5.heap.size 86 #[.bool false, .string ⟨#[]⟩] := Blk.below (Blk.new w5 86 #[.bool false, .string ⟨#[]⟩]) hb6 (by first | omega | (simp; done) | (simp; omega))
             obtain ⟨k6c0, k6c1, k6c2, k6c3⟩ := lng_cells (k6c.alloc (.cells #[.bool false, .string ⟨#[]⟩] 86))
             obtain ⟨k6ce0, k6ce1, k6ce2, k6ce3⟩ := lng_cells k6c
             obtain ⟨kn00, kn01, kn02, kn03⟩ := lng_cells (Blk.new w6 86 #[.bool false, .string ⟨#[]⟩])
             obtain ⟨ks00, ks01, ks02, ks03⟩ := lng_cells (((Blk.new w6 86 #[.bool false, .string ⟨#[]⟩]).far (p := ⟨w5.heap.size, 0, none⟩) (by dsimp only; first | omega | (simp; omega)) (.bool rb)).far (p := ⟨w5.heap.size, 1, none⟩) (by dsimp only; first | omega | (simp; omega)) (.string rs))
             obtain ⟨ks10, ks11, ks12, ks13⟩ := lng_cells (k6c.alloc (.cells #[.bool rb, .string rs] 86))
             have HB60 : Below wc.heap.size wc w6 := HB5.out.1.trans (hb56.mono HB5.out.1.size)
             have HF0 := Lib.hid (put_two (V := (w6.alloc (.cells #[.bool false, .string ⟨#[]⟩] 86))) (g9 := w5.heap.size) (g10 := w6.heap.size) (.bool rb) (.string rs) (.bool false) (.string ⟨#[]⟩) (k6c.alloc (.cells #[.bool false, .string ⟨#[]⟩] 86)) (Blk.new w6 86 #[.bool false, .string ⟨#[]⟩]) (by first | omega | (simp; omega) | (simp; done)) (HB60.trans (((Below.refl w6.heap.size w6).alloc (Nat.le_refl _) (.cells #[.bool false, .string ⟨#[]⟩] 86)).mono HB60.size)) (by first | omega | (simp; omega) | (simp; done)) (by first | omega | (simp; omega) | (simp; done)))
             have HF1 := Lib.hid (put_one (V := w6) (g10 := w5.heap.size) (t := 86) (.bool rb) (.string rs) (.bool false) (.string ⟨#[]⟩) k6c HB60 (by first | omega | (simp; omega) | (simp; done)) (by first | omega | (simp; omega) | (simp; done)))
             have hbw6 : Below wc.heap.size wc w6 := HB5.out.1.trans (hb56.mono HB5.out.1.size)
             have g0 : w6.cell? ⟨w.heap.size, 0, none⟩ = some (.bool na) := (hbw6.cell (p := ⟨w.heap.size, 0, none⟩) (Nat.lt_of_lt_of_le hlt0 hcx)).trans a0
             have g1 : w6.cell? ⟨w.heap.size + 1, 0, none⟩ = some (.bool false) := (hbw6.cell (p := ⟨w.heap.size + 1, 0, none⟩) (Nat.lt_of_lt_of_le hlt1 hcx)).trans c0
             have HB6 := Lib.hid (HB5.out.1.trans (hb56.mono HB5.out.1.size))
             clear hb6 hW6 hb56 hbw6 HB60 k6c k5n)
          | (go_simp
             go_at_call 90
             have k5n : True := HB5.out.2
             have hW6 : Below w5.heap.size w5 ((w5.alloc (.cells #[.bool false, .string ⟨#[]⟩] 86)).alloc (.cells #[.bool false, .string ⟨#[]⟩] 86)) := (((Below.refl w5.heap.size w5).alloc (Nat.le_refl _) (.cells #[.bool false, .string ⟨#[]⟩] 86)).alloc (Nat.le_of_lt (size_lt_alloc w5 (.cells #[.bool false, .string ⟨#[]⟩] 86))) (.cells #[.bool false, .string ⟨#[]⟩] 86))
             with_reducible refine (HM.out.2 _ (HB5.out.1.trans (hW6.mono HB5.out.1.size))).mono ?_
             rintro e w6 ⟨rfl, hb6⟩
             have hb56 : Below w5.heap.size w5 w6 := hW6.trans (hb6.mono hW6.size)
             have hz6 : w5.heap.size + 2 ≤ w6.heap.size := by have := hb6.size; first | omega | (simp at this; omega)
             have k6c : Blk w6 w5.heap.size 86 #[.bool false, .string ⟨#[]⟩] := Blk.below ((Blk.new w5 86 #[.bool false, .string ⟨#[]⟩]).alloc (.cells #[.bool false, .string ⟨#[]⟩] 86)) hb6 (by first | omega | (simp; done) | (simp; omega))
             have k6d : Blk w6 (w5.heap.size + 1) 86 #[.bool false, .string ⟨#[]⟩] := Blk.below (new_at w5 86 #[.bool false, .string ⟨#[]⟩] #[.bool false, .string ⟨#[]⟩]) hb6 (by first | omega | (simp; done) | (simp; omega))
             obtain ⟨k6c0, k6c1, k6c2, k6c3⟩ := lng_cells k6c
             obtain ⟨k6d0, k6d1, k6d2, k6d3⟩ := lng_cells k6d
             obtain ⟨ks00, ks01, ks02, ks03⟩ := lng_cells ((k6d.far (p := ⟨w5.heap.size, 0, none⟩) (by dsimp only; first | omega | (simp; omega)) (.bool rb)).far (p := ⟨w5.heap.size, 1, none⟩) (by dsimp only; first | omega | (simp; omega)) (.string rs))
             obtain ⟨ks10, ks11, ks12, ks13⟩ := lng_cells ((k6c.far (p := ⟨(w5.heap.size + 1), 0, none⟩) (by dsimp only; first | omega | (simp; omega)) (.bool rb)).far (p := ⟨(w5.heap.size + 1), 1, none⟩) (by dsimp only; first | omega | (simp; omega)) (.string rs))
             have HB60 : Below wc.heap.size wc w6 := HB5.out.1.trans (hb56.mono HB5.out.1.size)
             have HF0 := Lib.hid (put_two (V := w6) (g9 := w5.heap.size) (g10 := (w5.heap.size + 1)) (.bool rb) (.string rs) (.bool false) (.string ⟨#[]⟩) k6c k6d (by first | omega | (simp; omega) | (simp; done)) (HB60.trans ((Below.refl w6.heap.size w6).mono HB60.size)) (by first | omega | (simp; omega) | (simp; done)) (by first | omega | (simp; omega) | (simp; done)))
             have HF1 := Lib.hid (put_two (V := w6) (g9 := (w5.heap.size + 1)) (g10 := w5.heap.size) (.bool rb) (.string rs) (.bool false) (.string ⟨#[]⟩) k6d k6c (by first | omega | (simp; omega) | (simp; done)) (HB60.trans ((Below.refl w6.heap.size w6).mono HB60.size)) (by first | omega | (simp; omega) | (simp; done)) (by first | omega | (simp; omega) | (simp; done)))
             have hbw6 : Below wc.heap.size wc w6 := HB5.out.1.trans (hb56.mono HB5.out.1.size)
             have g0 : w6.cell? ⟨w.heap.size, 0, none⟩ = some (.bool na) := (hbw6.cell (p := ⟨w.heap.size, 0, none⟩) (Nat.lt_of_lt_of_le hlt0 hcx)).trans a0
             have g1 : w6.cell? ⟨w.heap.size + 1, 0, none⟩ = some (.bool false) := (hbw6.cell (p := ⟨w.heap.size + 1, 0, none⟩) (Nat.lt_of_lt_of_le hlt1 hcx)).trans c0
             have HB6 := Lib.hid (HB5.out.1.trans (hb56.mono HB5.out.1.size))
             clear hb6 hW6 hb56 hbw6 HB60 k6c k6d k5n)
          | (go_simp
             go_at_call 90
             have k5a : Blk w5 wc.heap.size 86 #[.bool false, .string ⟨#[]⟩] := HB5.out.2
             have hW6 : Below w5.heap.size w5 w5 := (Below.refl w5.heap.size w5)
             with_reducible refine (HM.out.2 _ (HB5.out.1.trans (hW6.mono HB5.out.1.size))).mono ?_
             rintro e w6 ⟨rfl, hb6⟩
             have hb56 : Below w5.heap.size w5 w6 := hW6.trans (hb6.mono hW6.size)
             have hz6 : w5.heap.size + 0 ≤ w6.heap.size := by have := hb6.size; first | omega | (simp at this; omega)
             have k6a := k5a.below hb56 k5a.lt
             obtain ⟨k6a0, k6a1, k6a2, k6a3⟩ := lng_cells (k6a.alloc (.cells #[.bool false, .string ⟨#[]⟩] 86))
             obtain ⟨k6ae0, k6ae1, k6ae2, k6ae3⟩ := lng_cells k6a
             obtain ⟨kn00, kn01, kn02, kn03⟩ := lng_cells (Blk.new w6 86 #[.bool false, .string ⟨#[]⟩])
             obtain ⟨ks00, ks01, ks02, ks03⟩ := lng_cells (((Blk.new w6 86 #[.bool false, .string ⟨#[]⟩]).far (p := ⟨wc.heap.size, 0, none⟩) (by dsimp only; first | omega | (simp; omega)) (.bool rb)).far (p := ⟨wc.heap.size, 1, none⟩) (by dsimp only; first | omega | (simp; omega)) (.string rs))
             obtain ⟨ks10, ks11, ks12, ks13⟩ := lng_cells (k6a.alloc (.cells #[.bool rb, .string rs] 86))
             have HB60 : Below wc.heap.size wc w6 := HB5.out.1.trans (hb56.mono HB5.out.1.size)
             have HF0 := Lib.hid (put_two (V := (w6.alloc (.cells #[.bool false, .string ⟨#[]⟩] 86))) (g9 := wc.heap.size) (g10 := w6.heap.size) (.bool rb) (.string rs) (.bool false) (.string ⟨#[]⟩) (k6a.alloc (.cells #[.bool false, .string ⟨#[]⟩] 86)) (Blk.new w6 86 #[.bool false, .string ⟨#[]⟩]) (by first | omega | (simp; omega) | (simp; done)) (HB60.trans (((Below.refl w6.heap.size w6).alloc (Nat.le_refl _) (.cells #[.bool false, .string ⟨#[]⟩] 86)).mono HB60.size)) (by first | omega | (simp; omega) | (simp; done)) (by first | omega | (simp; omega) | (simp; done)))
             have HF1 := Lib.hid (put_one (V := w6) (g10 := wc.heap.size) (t := 86) (.bool rb) (.string rs) (.bool false) (.string ⟨#[]⟩) k6a HB60 (by first | omega | (simp; omega) | (simp; done)) (by first | omega | (simp; omega) | (simp; done)))
             have hbw6 : Below wc.heap.size wc w6 := HB5.out.1.trans (hb56.mono HB5.out.1.size)
             have g0 : w6.cell? ⟨w.heap.size, 0, none⟩ = some (.bool na) := (hbw6.cell (p := ⟨w.heap.size, 0, none⟩) (Nat.lt_of_lt_of_le hlt0 hcx)).trans a0
             have g1 : w6.cell? ⟨w.heap.size + 1, 0, none⟩ = some (.bool false) := (hbw6.cell (p := ⟨w.heap.size + 1, 0, none⟩) (Nat.lt_of_lt_of_le hlt1 hcx)).trans c0
             have HB6 := Lib.hid (HB5.out.1.trans (hb56.mono HB5.out.1.size))
             clear hb6 hW6 hb56 hbw6 HB60 k6a k5a)
          | (go_simp
             go_at_call 90
             have k5a : Blk w5 wc.heap.size 86 #[.bool false, .string ⟨#[]⟩] := HB5.out.2
             have hW6 : Below w5.heap.size w5 (w5.alloc (.cells #[.bool false, .string ⟨#[]⟩] 86)) := ((Below.refl w5.heap.size w5).alloc (Nat.le_refl _) (.cells #[.bool false, .string ⟨#[]⟩] 86))
             with_reducible refine (HM.out.2 _ (HB5.out.1.trans (hW6.mono HB5.out.1.size))).mono ?_
             rintro e w6 ⟨rfl, hb6⟩
             have hb56 : Below w5.heap.size w5 w6 := hW6.trans (hb6.mono hW6.size)
             have hz6 : w5.heap.size + 1 ≤ w6.heap.size := by have := hb6.size; first | omega | (simp at this; omega)
             have k6a := k5a.below hb56 k5a.lt
             have k6c : Blk w6 w5.heap.size 86 #[.bool false, .string ⟨#[]⟩] := Blk.below (Blk.new w5 86 #[.bool false, .string ⟨#[]⟩]) hb6 (by first | omega | (simp; done) | (simp; omega))
             obtain ⟨k6a0, k6a1, k6a2, k6a3⟩ := lng_cells k6a
             obtain ⟨k6c0, k6c1, k6c2, k6c3⟩ := lng_cells k6c
             obtain ⟨ks00, ks01, ks02, ks03⟩ := lng_cells ((k6c.far (p := ⟨wc.heap.size, 0, none⟩) (by dsimp only; first | omega | (simp; omega)) (.bool rb)).far (p := ⟨wc.heap.size, 1, none⟩) (by dsimp only; first | omega | (simp; omega)) (.string rs))
             obtain ⟨ks10, ks11, ks12, ks13⟩ := lng_cells ((k6a.far (p := ⟨w5.heap.size, 0, none⟩) (by dsimp only; first | omega | (simp; omega)) (.bool rb)).far (p := ⟨w5.heap.size, 1, none⟩) (by dsimp only; first | omega | (simp; omega)) (.string rs))
             have HB60 : Below wc.heap.size wc w6 := HB5.out.1.trans (hb56.mono HB5.out.1.size)
             have HF0 := Lib.hid (put_two (V := w6) (g9 := wc.heap.size) (g10 := w5.heap.size) (.bool rb) (.string rs) (.bool false) (.string ⟨#[]⟩) k6a k6c (by first | omega | (simp; omega) | (simp; done)) (HB60.trans ((Below.refl w6.heap.size w6).mono HB60.size)) (by first | omega | (simp; omega) | (simp; done)) (by first | omega | (simp; omega) | (simp; done)))
             have HF1 := Lib.hid (put_two (V := w6) (g9 := w5.heap.size) (g10 := wc.heap.size) (.bool rb) (.string rs) (.bool false) (.string ⟨#[]⟩) k6c k6a (by first | omega | (simp; omega) | (simp; done)) (HB60.trans ((Below.refl w6.heap.size w6).mono HB60.size)) (by first | omega | (simp; omega) | (simp; done)) (by first | omega | (simp; omega) | (simp; done)))
             have hbw6 : Below wc.heap.size wc w6 := HB5.out.1.trans (hb56.mono HB5.out.1.size)
             have g0 : w6.cell? ⟨w.heap.size, 0, none⟩ = some (.bool na) := (hbw6.cell (p := ⟨w.heap.size, 0, none⟩) (Nat.lt_of_lt_of_le hlt0 hcx)).trans a0
             have g1 : w6.cell? ⟨w.heap.size + 1, 0, none⟩ = some (.bool false) := (hbw6.cell (p := ⟨w.heap.size + 1, 0, none⟩) (Nat.lt_of_lt_of_le hlt1 hcx)).trans c0
             have HB6 := Lib.hid (HB5.out.1.trans (hb56.mono HB5.out.1.size))
             clear hb6 hW6 hb56 hbw6 HB60 k6a k6c k5a)
          | (go_simp
             go_at_call 90
             have k5a : Blk w5 wc.heap.size 86 #[.bool false, .string ⟨#[]⟩] := HB5.out.2.1
             have k5b : Blk w5 (wc.heap.size + 1) 86 #[.bool false, .string ⟨#[]⟩] := HB5.out.2.2
             have hW6 : Below w5.heap.size w5 w5 := (Below.refl w5.heap.size w5)
             with_reducible refine (HM.out.2 _ (HB5.out.1.trans (hW6.mono HB5.out.1.size))).mono ?_
             rintro e w6 ⟨rfl, hb6⟩
             have hb56 : Below w5.heap.size w5 w6 := hW6.trans (hb6.mono hW6.size)
             have hz6 : w5.heap.size + 0 ≤ w6.heap.size := by have := hb6.size; first | omega | (simp at this; omega)
             have k6a := k5a.below hb56 k5a.lt
             have k6b := k5b.below hb56 k5b.lt
             obtain ⟨k6a0, k6a1, k6a2, k6a3⟩ := lng_cells k6a
             obtain ⟨k6b0, k6b1, k6b2, k6b3⟩ := lng_cells k6b
             obtain ⟨ks00, ks01, ks02, ks03⟩ := lng_cells ((k6b.far (p := ⟨wc.heap.size, 0, none⟩) (by dsimp only; first | omega | (simp; omega)) (.bool rb)).far (p := ⟨wc.heap.size, 1, none⟩) (by dsimp only; first | omega | (simp; omega)) (.string rs))
             obtain ⟨ks10, ks11, ks12, ks13⟩ := lng_cells ((k6a.far (p := ⟨(wc.heap.size + 1), 0, none⟩) (by dsimp only; first | omega | (simp; omega)) (.bool rb)).far (p := ⟨(wc.heap.size + 1), 1, none⟩) (by dsimp only; first | omega | (simp; omega)) (.string rs))
             have HB60 : Below wc.heap.size wc w6 := HB5.out.1.trans (hb56.mono HB5.out.1.size)
             have HF0 := Lib.hid (put_two (V := w6) (g9 := wc.heap.size) (g10 := (wc.heap.size + 1)) (.bool rb) (.string rs) (.bool false) (.string ⟨#[]⟩) k6a k6b (by first | omega | (simp; omega) | (simp; done)) (HB60.trans ((Below.refl w6.heap.size w6).mono HB60.size)) (by first | omega | (simp; omega) | (simp; done)) (by first | omega | (simp; omega) | (simp; done)))
             have HF1 := Lib.hid (put_two (V := w6) (g9 := (wc.heap.size + 1)) (g10 := wc.heap.size) (.bool rb) (.string rs) (.bool false) (.string ⟨#[]⟩) k6b k6a (by first | omega | (simp; omega) | (simp; done)) (HB60.trans ((Below.refl w6.heap.size w6).mono HB60.size)) (by first | omega | (simp; omega) | (simp; done)) (by first | omega | (simp; omega) | (simp; done)))
             have hbw6 : Below wc.heap.size wc w6 := HB5.out.1.trans (hb56.mono HB5.out.1.size)
             have g0 : w6.cell? ⟨w.heap.size, 0, none⟩ = some (.bool na) := (hbw6.cell (p := ⟨w.heap.size, 0, none⟩) (Nat.lt_of_lt_of_le hlt0 hcx)).trans a0
             have g1 : w6.cell? ⟨w.heap.size + 1, 0, none⟩ = some (.bool false) := (hbw6.cell (p := ⟨w.heap.size + 1, 0, none⟩) (Nat.lt_of_lt_of_le hlt1 hcx)).trans c0
             have HB6 := Lib.hid (HB5.out.1.trans (hb56.mono HB5.out.1.size))
             clear hb6 hW6 hb56 hbw6 HB60 k6a k6b k5a k5b)
          | fail)
      all_goals (go_wp2_with fail; go_meet; first | (obtain ⟨t1, t2, t3, t4, t5, t6, t7⟩ := HF0.out; exact ⟨_, _, rfl, rfl, t1, t2, t3, t4, t5, t6, t7⟩) | (obtain ⟨t1, t2, t3, t4, t5, t6, t7⟩ := HF1.out; exact ⟨_, _, rfl, rfl, t1, t2, t3, t4, t5, t6, t7⟩))
    case rest =>
      obtain ⟨g9, g10, rfl, rfl, hg9, hg10, e0, e1, e2, e3, hbd⟩ := hcut
      have hbX : Below X.heap.size X wc := HC.out.1.trans (hbd.mono HC.out.1.size)
      have k2 := HC.out.2.2.1.below hbd (Nat.lt_of_lt_of_le hlt2 hcx)
      have k3 := HC.out.2.2.2.below hbd (Nat.lt_of_lt_of_le hlt3 hcx)
      have hg9X : X.heap.size ≤ g9 := Nat.le_trans hcx hg9
      have hg10X : X.heap.size ≤ g10 := Nat.le_trans hcx hg10
      have l9 : g9 < wc.heap.size := lt_of_cell e0
      have l10 : g10 < wc.heap.size := lt_of_cell e2
      have HBD := Lib.hid (And.intro hbX (And.intro k2 k3))
      clear hbd a0 c0 HM HC hcx hg9 hg10 k2 k3 hbX
      go_upto_region 10 with (first
        | (go_at_call 86
           with_reducible refine (HSGN.out.2 wc).mono ?_
           rintro e w7 ⟨rfl, hb7⟩
           have HB7 := Lib.hid hb7
           clear hb7)
        | fail)
      have d0 : w7.cell? ⟨g9, 0, none⟩ = some (.bool rb) := (HB7.out.cell (p := ⟨g9, 0, none⟩) l9).trans e0
      have d1 : w7.cell? ⟨g9, 1, none⟩ = some (.string rs) := (HB7.out.cell (p := ⟨g9, 1, none⟩) l9).trans e1
      have d2 : w7.cell? ⟨g10, 0, none⟩ = some (.bool false) := (HB7.out.cell (p := ⟨g10, 0, none⟩) l10).trans e2
      have d3 : w7.cell? ⟨g10, 1, none⟩ = some (.string ⟨#[]⟩) := (HB7.out.cell (p := ⟨g10, 1, none⟩) l10).trans e3
      have k2 := HBD.out.2.1.below HB7.out (Nat.lt_of_lt_of_le hlt2 HBD.out.1.size)
      have k3 := HBD.out.2.2.below HB7.out (Nat.lt_of_lt_of_le hlt3 HBD.out.1.size)
      obtain ⟨x0, x1, x2, x3⟩ := lng_cells k2
      obtain ⟨y0, y1, y2, y3⟩ := lng_cells k3
      have HK := Lib.hid (And.intro k2 (And.intro k3 (HX.out.1.trans ((HBD.out.1.trans (HB7.out.mono HBD.out.1.size)).mono HX.out.1.size))))
      clear k2 k3 e0 e1 e2 e3
      go_region
      all_goals go_wp2_with fail
      obtain ⟨Z, hZ⟩ : ∃ Z, Z = ((((w7.setCell ⟨w.heap.size + 1 + 1, 0, none⟩ (.bool rb)).setCell ⟨w.heap.size + 1 + 1, 1, none⟩ (.string rs)).setCell ⟨w.heap.size + 1 + 1 + 1, 0, none⟩ (.bool false)).setCell ⟨w.heap.size + 1 + 1 + 1, 1, none⟩ (.string ⟨#[]⟩)).drew := ⟨_, rfl⟩
      obtain ⟨-, -, z0, z1, z2, z3, z4⟩ := put_two (W := w) (.bool rb) (.string rs) (.bool false) (.string ⟨#[]⟩) HK.out.1 HK.out.2.1 (by omega) HK.out.2.2 (by omega) (by omega)
      have z4' : Below w.heap.size w Z := by rw [hZ]; exact z4.drew
      have z0' : Z.cell? ⟨w.heap.size + 1 + 1, 0, none⟩ = some (.bool rb) := by rw [hZ]; exact z0
      have z1' : Z.cell? ⟨w.heap.size + 1 + 1, 1, none⟩ = some (.string rs) := by rw [hZ]; exact z1
      have z2' : Z.cell? ⟨w.heap.size + 1 + 1 + 1, 0, none⟩ = some (.bool false) := by rw [hZ]; exact z2
      have z3' : Z.cell? ⟨w.heap.size + 1 + 1 + 1, 1, none⟩ = some (.string ⟨#[]⟩) := by rw [hZ]; exact z3
      rw [← hZ]
      refine bodyPost_ret (v := .tuple #[.agg #[.bool rb, .string rs], .agg #[.bool false, .string ⟨#[]⟩], .int .i64 0]) (by simp [results, Tryz.results98, go_sem, z0', z1', z2', z3']) rfl ⟨rfl, z4'⟩
end Go.Proofs.YtkkpfdfoojcljaaGreat
