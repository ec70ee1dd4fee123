/- Walk: an array with something put into it: the program. -/
import Derived.Test.YthooecojopfjbaaValEF
namespace Go.Proofs.Ythooecojopfjbaa
open Go.RowKit

theorem boxesV (w : World) (t1 t2 t3 : TypeId) (c1 c2 c3 : Array Value) : Below w.heap.size w (((w.alloc (.cells c1 t1)).alloc (.cells c2 t2)).alloc (.cells c3 t3)) ∧ Blk (((w.alloc (.cells c1 t1)).alloc (.cells c2 t2)).alloc (.cells c3 t3)) w.heap.size t1 c1 ∧
    Blk (((w.alloc (.cells c1 t1)).alloc (.cells c2 t2)).alloc (.cells c3 t3)) (w.heap.size + 1) t2 c2 ∧ Blk (((w.alloc (.cells c1 t1)).alloc (.cells c2 t2)).alloc (.cells c3 t3)) (w.heap.size + 2) t3 c3 ∧ (((w.alloc (.cells c1 t1)).alloc (.cells c2 t2)).alloc (.cells c3 t3)).heap.size = w.heap.size + 3 := by
  obtain ⟨h1, h2, h3, h4⟩ := two_boxes w t1 t2 c1 c2
  refine ⟨h1.alloc (by omega) _, h2.alloc _, h3.alloc _, ?_, by simp⟩
  have := Blk.new ((w.alloc (.cells c1 t1)).alloc (.cells c2 t2)) t3 c3
  rwa [h4] at this

/-- since W0 only block G, the row v and new blocks have changed; block G is an array whose cells are the row v, which holds out -/
structure PutI (W0 wr : World) (G : Nat) (rest : Int) (v : Value) (out : List CellD) : Prop where
  lt : G < W0.heap.size
  only : W0.grownBy wr (some G)
  blk : Blk wr G 54 #[.int .i64 0, .int .i64 0, v, .int .i64 rest]
  own : OwnV VCell 93 2 wr W0.heap.size (fun _ => False) v out
section
variable {W0 wr w6 : World} {G : Nat} {rest : Int} {v v' : Value} {out : List CellD} {y : CellD}
theorem PutI.ne (h : PutI W0 wr G rest v out) : some G ≠ v.ownBlock := fun e => by have := (h.own.lt G e.symm).1; have := h.lt; omega
theorem PutI.alloc (h : PutI W0 wr G rest v out) (o : Obj) : PutI W0 (wr.alloc o) G rest v out :=
  ⟨h.lt, only_alloc h.only o, h.blk.alloc o, h.own.kept tells_cell (only_alloc (only_refl wr none) o) (by cases v.ownBlock <;> simp) (fun _ h => h.elim)⟩
theorem PutI.push (h : PutI W0 wr G rest v out) (hown : OwnV VCell 93 2 w6 W0.heap.size (fun _ => False) v' (out ++ [y])) (hg : wr.grownBy w6 v.ownBlock) : PutI W0 (w6.setCell ⟨G, 2, none⟩ v') G rest v' (out ++ [y]) := by
  refine ⟨h.lt, one_only (only_then h.only hg (fun x hx => .inl (h.own.lt x hx).1)) 2 v', (h.blk.grown hg h.ne).set_ 2 v', ?_⟩
  refine hown.kept tells_cell (one_only (only_refl w6 (some G)) 2 v') (.inr fun e => ?_) (fun _ h => h.elim)
  have := (hown.lt G e).1
  have := h.lt
  omega
theorem PutI.box (hg : wr.grownBy w6 v.ownBlock) {b : Nat} (hb : b < wr.heap.size) (hG : b ≠ G) (hv : v.ownBlock ≠ some b) (o : Nat) : (w6.setCell ⟨G, 2, none⟩ v').cell? ⟨b, o, none⟩ = wr.cell? ⟨b, o, none⟩ :=
  (only_cell (row := some G) (one_only (only_refl w6 _) 2 v') (Nat.lt_of_lt_of_le hb hg.size) (fun e => hG (by injection e with e; exact e.symm))).trans (only_cell hg hb hv)
end

set_option maxRecDepth 100000 in
set_option maxHeartbeats 4000000 in
theorem put_any (num den rest a t : Int) (A : Option Addr) (n c : Nat) (xs : List CellD) (w : World) (hxs : ArrB AtCell 2 w w.heap.size A n xs) (hn : n ≤ 1000000) (ha : I64 a) (ht : I64 t) :
    Calls Try.prog 108 #[.agg #[.int .i64 num, .int .i64 den, .slice A n c, .int .i64 rest], .int .i64 a, .int .i64 t] w (NewV ⟨0, 0, putP a t (t == rest) xs, rest⟩ w) := by
  obtain ⟨hb0, hk0, hm0, hf0, hs0⟩ := boxesV w 54 54 54 #[.int .i64 num, .int .i64 den, .slice A n c, .int .i64 rest] #[.int .i64 0, .int .i64 0, .slice none 0 0, .int .i64 0] #[.int .i64 0, .int .i64 0, .slice none 0 0, .int .i64 rest]
  obtain ⟨W0, hW0⟩ : ∃ X, ((w.alloc (.cells #[.int .i64 num, .int .i64 den, .slice A n c, .int .i64 rest] 54)).alloc (.cells #[.int .i64 0, .int .i64 0, .slice none 0 0, .int .i64 0] 54)).alloc (.cells #[.int .i64 0, .int .i64 0, .slice none 0 0, .int .i64 rest] 54) = X := ⟨_, rfl⟩
  rw [hW0] at hb0 hk0 hm0 hf0 hs0
  have hMK : ∀ wr, W0.grownBy wr (some (w.heap.size + 2)) → Below w.heap.size w wr ∧ Blk wr w.heap.size 54 #[.int .i64 num, .int .i64 den, .slice A n c, .int .i64 rest] ∧ Blk wr (w.heap.size + 1) 54 #[.int .i64 0, .int .i64 0, .slice none 0 0, .int .i64 0] ∧ w.heap.size + 3 ≤ wr.heap.size := fun wr hg =>
    ⟨hb0.trans (only_below hg (by omega) (by omega)), hk0.grown hg (by simp), hm0.grown hg (by simp), by have := hg.size; omega⟩
  have MK := Lib.hid hMK
  have HXS := Lib.hid hxs
  have HL := Lib.hid hxs.len
  have HIA := Lib.hid (And.intro ha ht)
  have HW0 := Lib.hid hW0
  have HS0 := Lib.hid hs0
  have H0 : Hid (PutI W0 W0 (w.heap.size + 2) rest (.slice none 0 0) []) := ⟨by omega, only_refl _ _, hf0, OwnV.none_ _ _ _ _ _ _⟩
  obtain ⟨R, hR⟩ : ∃ R, putP a t (t == rest) xs = R := ⟨_, rfl⟩
  obtain ⟨d0, hd0⟩ : ∃ d0, (t == rest) = d0 := ⟨_, rfl⟩
  rw [hR]
  rw [hd0] at hR
  have HR : Hid ([] ++ putP a t d0 xs = R) := hR
  clear hR hxs hb0 hk0 hm0 hf0 hs0 hW0 hMK ha ht
  go_enter Try.func108, Try.ntmps108
  go_wp2_with fail
  rw [HW0.out]
  go_loopw [8, 21] (fun s8 s21 wr => ∃ (k : Nat) (done : Bool) (v : Value) (out : List CellD), k ≤ n ∧ s8 = .bool done ∧ s21 = .int .i64 k ∧ PutI W0 wr (w.heap.size + 2) rest v out ∧ out.length ≤ 2 * k ∧ Hid (out ++ putP a t done (xs.drop k) = R)) (fun _ s21 _ => n - (intOf s21).toNat)
  case atStart => exact ⟨0, d0, .slice none 0 0, [], Nat.zero_le _, rfl, rfl, H0.out, Nat.zero_le _, HR⟩
  case round =>
    clear HR H0 hd0
    obtain ⟨k, done, v, out, hk, rfl, rfl, hI, hol, HK⟩ := hrel
    obtain ⟨hbel, hkv, hkr, hz⟩ := MK.out wr hI.only
    obtain ⟨Av, cv, rfl, -, -⟩ := hI.own.len
    by_cases hlt : k < n
    · obtain ⟨b, off, hx, rfl, hb, hc0, hc1, hi0, hi1⟩ := cells_get (HXS.out.below stays_cell hbel (Nat.le_refl _)) hlt
      have e1 := HK.out
      rw [drop_cons hx, putP] at e1
      generalize xs[k] = y at e1 hc0 hc1 hi0 hi1
      obtain ⟨ya, yi⟩ := y
      dsimp only at e1 hc0 hc1 hi0 hi1
      have hkI : (k : Int) < (n : Int) := by omega
      obtain ⟨Y, hY⟩ : ∃ Y, wr.alloc (.cells #[.int .i64 ya, .int .i64 yi] 93) = Y := ⟨_, rfl⟩
      have hIY : PutI W0 Y (w.heap.size + 2) rest (.slice Av out.length cv) out := by rw [← hY]; exact hI.alloc _
      have hby : Blk Y wr.heap.size 93 #[.int .i64 ya, .int .i64 yi] := by rw [← hY]; exact Blk.new _ _ _
      have hvy : (Value.slice Av out.length cv).ownBlock ≠ some wr.heap.size := fun e => by have := (hI.own.lt _ e).2; omega
      have hsY : Y.heap.size = wr.heap.size + 1 := by rw [← hY]; simp
      have HY := Lib.hid hY
      have HI := Lib.hid (And.intro hIY (And.intro hby (And.intro hvy hsY)))
      have y0 : Y.cell? ⟨wr.heap.size, 0, none⟩ = some (.int .i64 ya) := hby.cell 0
      have y1 : Y.cell? ⟨wr.heap.size, 1, none⟩ = some (.int .i64 yi) := hby.cell 1
      have gv : Y.cell? ⟨w.heap.size + 2, 2, none⟩ = some (.slice Av out.length cv) := hIY.blk.cell 2
      have gz : Y.frozen? ⟨w.heap.size + 2, 2, none⟩ = false := hIY.blk.frozen 2
      have HII := Lib.hid (And.intro hi0 hi1)
      have HZB : Hid (w.heap.size + 3 ≤ wr.heap.size) := hz
      clear HK hx hb hbel hkv hkr hIY hby hvy hI hY hi0 hi1 hsY
      go_upto_region 6 with fail
      rw [HY.out]
      clear hc0 hc1
      clear y0 y1 gv gz
      cases done with
      | true =>
        have e2 : out ++ ((if ya = a then [] else [⟨ya, yi⟩]) ++ putP a t true (xs.drop (k + 1))) = R := by rw [← e1]; simp
        have y0 : Y.cell? ⟨wr.heap.size, 0, none⟩ = some (.int .i64 ya) := HI.out.2.1.cell 0
        go_upto_region 9 with fail
        clear y0
        have y0 : Y.cell? ⟨wr.heap.size, 0, none⟩ = some (.int .i64 ya) := (And.intro HI.out.1 HI.out.2.1).2.cell 0
        have y1 : Y.cell? ⟨wr.heap.size, 1, none⟩ = some (.int .i64 yi) := (And.intro HI.out.1 HI.out.2.1).2.cell 1
        have gv : Y.cell? ⟨w.heap.size + 2, 2, none⟩ = some (.slice Av out.length cv) := (And.intro HI.out.1 HI.out.2.1).1.blk.cell 2
        have gz : Y.frozen? ⟨w.heap.size + 2, 2, none⟩ = false := (And.intro HI.out.1 HI.out.2.1).1.blk.frozen 2
        have zz : wr.heap.size < Y.heap.size := (And.intro HI.out.1 HI.out.2.1).2.lt
        have zg : w.heap.size + 2 < Y.heap.size := (And.intro HI.out.1 HI.out.2.1).1.blk.lt
        by_cases hya : ya = a
        · have hq : (ya != a) = false := by simpa using hya
          have H1 : Hid (out ++ putP a t true (xs.drop (k + 1)) = R) := by show _ = _; rw [← e2]; simp [hya]
          clear hya
          go_wp2_with fail
          go_roundw
          case rel => exact ⟨k + 1, true, _, out, by omega, rfl, by go_num, (And.intro HI.out.1 HI.out.2.1).1, by have := hol; (try simp only [List.length_append, List.length_cons, List.length_nil]); omega, H1⟩
          case measure => simp [intOf]; omega
        · have hq : (ya != a) = true := by simpa using hya
          have H1 : Hid (out ++ [⟨ya, yi⟩] ++ putP a t true (xs.drop (k + 1)) = R) := by show _ = _; rw [← e2]; simp [hya]
          clear hya
          go_upto_region 10 with fail
          have hIZ7 := (And.intro HI.out.1 HI.out.2.1).1.alloc (.cells #[.int .i64 ya, .int .i64 yi] 93)
          have hbz7 := Blk.new Y 93 #[.int .i64 ya, .int .i64 yi]
          have HZ7 := Lib.hid (And.intro hIZ7 (And.intro hbz7 ((And.intro HI.out.1 HI.out.2.1).2.alloc (.cells #[.int .i64 ya, .int .i64 yi] 93))))
          have hbs7 : W0.heap.size ≤ (Y.alloc (.cells #[.int .i64 ya, .int .i64 yi] 93)).heap.size := hIZ7.only.size
          have gw7 : (Y.alloc (.cells #[.int .i64 ya, .int .i64 yi] 93)).cell? ⟨w.heap.size + 2, 2, none⟩ = some (.slice Av out.length cv) := hIZ7.blk.cell 2
          clear hIZ7 hbz7
          go_upto_region 11 with (at_builtin; go_loud (refine wpList_append_item rfl _ _ _ rfl rowCells tells_cell (v := (.slice Av out.length cv)) (xs := out) (base := W0.heap.size) (S := fun _ => False) rfl HZ7.out.1.own (g := Y.heap.size) (cs := #[.int .i64 (ya), .int .i64 (yi)]) rfl HZ7.out.2.1 (y := ⟨ya, yi⟩) ⟨rfl, HII.out.1, HII.out.2⟩ (fun b h => h.elim) (by have := hol; unfold maxLen; (try simp only [List.length_append, List.length_cons, List.length_nil]); omega) (by have := hol; (try simp only [List.length_append, List.length_cons, List.length_nil]); omega) hbs7 ?_); intro v7 w7 hown6 hgrow6 hat6; obtain ⟨A7, cc7, rfl, -, -⟩ := hown6.len; have HO7 := Lib.hid (And.intro hown6 (And.intro hgrow6 hat6)); clear hown6 hgrow6 hat6; (have g7 : Blk w7 (w.heap.size + 2) 54 #[.int .i64 0, .int .i64 0, (.slice Av out.length cv), .int .i64 rest] := HZ7.out.1.blk.grown HO7.out.2.1 HZ7.out.1.ne); (have z7 : w.heap.size + 2 < w7.heap.size := g7.lt); (have k7 : w7.cell? ⟨w.heap.size + 2, 2, none⟩ = some (.slice Av out.length cv) := g7.cell 2); (have f7 : w7.frozen? ⟨w.heap.size + 2, 2, none⟩ = false := g7.frozen 2); clear g7; clear gw7)
          obtain ⟨W7, h7⟩ : ∃ W7, w7.setCell ⟨w.heap.size + 1 + 1, 2, none⟩ (.slice A7 (out ++ [(⟨ya, yi⟩ : CellD)]).length cc7) = W7 := ⟨_, rfl⟩
          have hP7 : PutI W0 W7 (w.heap.size + 2) rest (.slice A7 (out ++ [(⟨ya, yi⟩ : CellD)]).length cc7) (out ++ [(⟨ya, yi⟩ : CellD)]) := by rw [← h7]; exact HZ7.out.1.push HO7.out.1 HO7.out.2.1
          have hl7 : (out ++ [(⟨ya, yi⟩ : CellD)]).length = (out).length + 1 := by simp
          have HP7 := Lib.hid hP7
          have HH7 := Lib.hid h7
          clear hP7 h7 hl7 k7 f7 z7
          go_wp2_with fail
          go_roundw
          case rel => exact ⟨k + 1, true, .slice A7 (out ++ [(⟨ya, yi⟩ : CellD)]).length cc7, out ++ [⟨ya, yi⟩], by omega, rfl, by go_num, by have hp := HP7.out; rw [← HH7.out] at hp; simpa using hp, by have := hol; simp only [List.length_append, List.length_cons, List.length_nil]; omega, H1⟩
          case measure => simp [intOf]; omega
      | false =>
        have y0 : Y.cell? ⟨wr.heap.size, 0, none⟩ = some (.int .i64 ya) := HI.out.2.1.cell 0
        have zz0 : wr.heap.size < Y.heap.size := HI.out.2.1.lt
        by_cases hay : a ≤ ya
        · have hge : decide (ya ≥ a) = true := by simpa using hay
          have e2 : (out ++ [⟨a, t⟩]) ++ ((if ya = a then [] else [⟨ya, yi⟩]) ++ putP a t true (xs.drop (k + 1))) = R := by rw [← e1]; simp [hay]
          have gv0 : Y.cell? ⟨w.heap.size + 2, 2, none⟩ = some (.slice Av out.length cv) := HI.out.1.blk.cell 2
          have zg0 : w.heap.size + 2 < Y.heap.size := HI.out.1.blk.lt
          clear hay
          go_upto_region 7 with fail
          have hIZ6 := (And.intro HI.out.1 HI.out.2.1).1.alloc (.cells #[.int .i64 a, .int .i64 t] 93)
          have hbz6 := Blk.new Y 93 #[.int .i64 a, .int .i64 t]
          have HZ6 := Lib.hid (And.intro hIZ6 (And.intro hbz6 ((And.intro HI.out.1 HI.out.2.1).2.alloc (.cells #[.int .i64 a, .int .i64 t] 93))))
          have hbs6 : W0.heap.size ≤ (Y.alloc (.cells #[.int .i64 a, .int .i64 t] 93)).heap.size := hIZ6.only.size
          have gw6 : (Y.alloc (.cells #[.int .i64 a, .int .i64 t] 93)).cell? ⟨w.heap.size + 2, 2, none⟩ = some (.slice Av out.length cv) := hIZ6.blk.cell 2
          clear hIZ6 hbz6
          go_upto_region 9 with (at_builtin; go_loud (refine wpList_append_item rfl _ _ _ rfl rowCells tells_cell (v := (.slice Av out.length cv)) (xs := out) (base := W0.heap.size) (S := fun _ => False) rfl HZ6.out.1.own (g := Y.heap.size) (cs := #[.int .i64 (a), .int .i64 (t)]) rfl HZ6.out.2.1 (y := ⟨a, t⟩) ⟨rfl, HIA.out.1, HIA.out.2⟩ (fun b h => h.elim) (by have := hol; unfold maxLen; (try simp only [List.length_append, List.length_cons, List.length_nil]); omega) (by have := hol; (try simp only [List.length_append, List.length_cons, List.length_nil]); omega) hbs6 ?_); intro v6 w6 hown6 hgrow6 hat6; obtain ⟨A6, cc6, rfl, -, -⟩ := hown6.len; have HO6 := Lib.hid (And.intro hown6 (And.intro hgrow6 hat6)); clear hown6 hgrow6 hat6; (have g6 : Blk w6 (w.heap.size + 2) 54 #[.int .i64 0, .int .i64 0, (.slice Av out.length cv), .int .i64 rest] := HZ6.out.1.blk.grown HO6.out.2.1 HZ6.out.1.ne); (have z6 : w.heap.size + 2 < w6.heap.size := g6.lt); (have k6 : w6.cell? ⟨w.heap.size + 2, 2, none⟩ = some (.slice Av out.length cv) := g6.cell 2); (have f6 : w6.frozen? ⟨w.heap.size + 2, 2, none⟩ = false := g6.frozen 2); clear g6; clear gw6)
          obtain ⟨W6, h6⟩ : ∃ W6, w6.setCell ⟨w.heap.size + 1 + 1, 2, none⟩ (.slice A6 (out ++ [(⟨a, t⟩ : CellD)]).length cc6) = W6 := ⟨_, rfl⟩
          have hP6 : PutI W0 W6 (w.heap.size + 2) rest (.slice A6 (out ++ [(⟨a, t⟩ : CellD)]).length cc6) (out ++ [(⟨a, t⟩ : CellD)]) := by rw [← h6]; exact HZ6.out.1.push HO6.out.1 HO6.out.2.1
          have hb6 : Blk W6 wr.heap.size 93 #[.int .i64 ya, .int .i64 yi] := by rw [← h6]; exact (HZ6.out.2.2.grown HO6.out.2.1 (fun e => HI.out.2.2.1 e.symm)).far (p := ⟨w.heap.size + 1 + 1, 2, none⟩) (by show wr.heap.size ≠ w.heap.size + 1 + 1; have := HZB.out; omega) _
          have hl6 : (out ++ [(⟨a, t⟩ : CellD)]).length = out.length + 1 := by simp
          rw [hl6] at h6 hP6
          have H6 := Lib.hid (And.intro hP6 hb6)
          rw [h6]
          clear hP6 hb6 hl6 h6 k6 f6 z6 gv0 zg0 y0 zz0
          have hol6 : (out ++ [(⟨a, t⟩ : CellD)]).length ≤ 2 * k + 1 := by simp only [List.length_append, List.length_cons, List.length_nil]; omega
          have y0 : W6.cell? ⟨wr.heap.size, 0, none⟩ = some (.int .i64 ya) := H6.out.2.cell 0
          have y1 : W6.cell? ⟨wr.heap.size, 1, none⟩ = some (.int .i64 yi) := H6.out.2.cell 1
          have gv : W6.cell? ⟨w.heap.size + 2, 2, none⟩ = some (.slice A6 (out.length + 1) cc6) := H6.out.1.blk.cell 2
          have gz : W6.frozen? ⟨w.heap.size + 2, 2, none⟩ = false := H6.out.1.blk.frozen 2
          have zz : wr.heap.size < W6.heap.size := H6.out.2.lt
          have zg : w.heap.size + 2 < W6.heap.size := H6.out.1.blk.lt
          by_cases hya : ya = a
          · have hq : (ya != a) = false := by simpa using hya
            have H1 : Hid ((out ++ [(⟨a, t⟩ : CellD)]) ++ putP a t true (xs.drop (k + 1)) = R) := by show _ = _; rw [← e2]; simp [hya]
            clear hya
            go_wp2_with fail
            go_roundw
            case rel => exact ⟨k + 1, true, _, (out ++ [(⟨a, t⟩ : CellD)]), by omega, rfl, by go_num, H6.out.1, by have := hol6; (try simp only [List.length_append, List.length_cons, List.length_nil]); omega, H1⟩
            case measure => simp [intOf]; omega
          · have hq : (ya != a) = true := by simpa using hya
            have H1 : Hid ((out ++ [(⟨a, t⟩ : CellD)]) ++ [⟨ya, yi⟩] ++ putP a t true (xs.drop (k + 1)) = R) := by show _ = _; rw [← e2]; simp [hya]
            clear hya
            go_upto_region 10 with fail
            have hIZ7 := H6.out.1.alloc (.cells #[.int .i64 ya, .int .i64 yi] 93)
            have hbz7 := Blk.new W6 93 #[.int .i64 ya, .int .i64 yi]
            have HZ7 := Lib.hid (And.intro hIZ7 (And.intro hbz7 (H6.out.2.alloc (.cells #[.int .i64 ya, .int .i64 yi] 93))))
            have hbs7 : W0.heap.size ≤ (W6.alloc (.cells #[.int .i64 ya, .int .i64 yi] 93)).heap.size := hIZ7.only.size
            have gw7 : (W6.alloc (.cells #[.int .i64 ya, .int .i64 yi] 93)).cell? ⟨w.heap.size + 2, 2, none⟩ = some (.slice A6 (out.length + 1) cc6) := hIZ7.blk.cell 2
            clear hIZ7 hbz7
            go_upto_region 11 with (at_builtin; go_loud (refine wpList_append_item rfl _ _ _ rfl rowCells tells_cell (v := (.slice A6 (out.length + 1) cc6)) (xs := (out ++ [(⟨a, t⟩ : CellD)])) (base := W0.heap.size) (S := fun _ => False) rfl HZ7.out.1.own (g := W6.heap.size) (cs := #[.int .i64 (ya), .int .i64 (yi)]) rfl HZ7.out.2.1 (y := ⟨ya, yi⟩) ⟨rfl, HII.out.1, HII.out.2⟩ (fun b h => h.elim) (by have := hol6; unfold maxLen; (try simp only [List.length_append, List.length_cons, List.length_nil]); omega) (by have := hol6; (try simp only [List.length_append, List.length_cons, List.length_nil]); omega) hbs7 ?_); intro v7 w7 hown6 hgrow6 hat6; obtain ⟨A7, cc7, rfl, -, -⟩ := hown6.len; have HO7 := Lib.hid (And.intro hown6 (And.intro hgrow6 hat6)); clear hown6 hgrow6 hat6; (have g7 : Blk w7 (w.heap.size + 2) 54 #[.int .i64 0, .int .i64 0, (.slice A6 (out.length + 1) cc6), .int .i64 rest] := HZ7.out.1.blk.grown HO7.out.2.1 HZ7.out.1.ne); (have z7 : w.heap.size + 2 < w7.heap.size := g7.lt); (have k7 : w7.cell? ⟨w.heap.size + 2, 2, none⟩ = some (.slice A6 (out.length + 1) cc6) := g7.cell 2); (have f7 : w7.frozen? ⟨w.heap.size + 2, 2, none⟩ = false := g7.frozen 2); clear g7; clear gw7)
            obtain ⟨W7, h7⟩ : ∃ W7, w7.setCell ⟨w.heap.size + 1 + 1, 2, none⟩ (.slice A7 ((out ++ [(⟨a, t⟩ : CellD)]) ++ [(⟨ya, yi⟩ : CellD)]).length cc7) = W7 := ⟨_, rfl⟩
            have hP7 : PutI W0 W7 (w.heap.size + 2) rest (.slice A7 ((out ++ [(⟨a, t⟩ : CellD)]) ++ [(⟨ya, yi⟩ : CellD)]).length cc7) ((out ++ [(⟨a, t⟩ : CellD)]) ++ [(⟨ya, yi⟩ : CellD)]) := by rw [← h7]; exact HZ7.out.1.push HO7.out.1 HO7.out.2.1
            have hl7 : ((out ++ [(⟨a, t⟩ : CellD)]) ++ [(⟨ya, yi⟩ : CellD)]).length = ((out ++ [(⟨a, t⟩ : CellD)])).length + 1 := by simp
            have HP7 := Lib.hid hP7
            have HH7 := Lib.hid h7
            clear hP7 h7 hl7 k7 f7 z7
            go_wp2_with fail
            go_roundw
            case rel => exact ⟨k + 1, true, .slice A7 ((out ++ [(⟨a, t⟩ : CellD)]) ++ [(⟨ya, yi⟩ : CellD)]).length cc7, (out ++ [(⟨a, t⟩ : CellD)]) ++ [⟨ya, yi⟩], by omega, rfl, by go_num, by have hp := HP7.out; rw [← HH7.out] at hp; simpa using hp, by have := hol6; simp only [List.length_append, List.length_cons, List.length_nil]; omega, H1⟩
            case measure => simp [intOf]; omega
        · have hge : decide (ya ≥ a) = false := by simpa using hay
          have e2 : out ++ ((if ya = a then [] else [⟨ya, yi⟩]) ++ putP a t false (xs.drop (k + 1))) = R := by rw [← e1]; simp [hay]
          clear hay
          go_upto_region 9 with fail
          clear y0 zz0
          have y0 : Y.cell? ⟨wr.heap.size, 0, none⟩ = some (.int .i64 ya) := (And.intro HI.out.1 HI.out.2.1).2.cell 0
          have y1 : Y.cell? ⟨wr.heap.size, 1, none⟩ = some (.int .i64 yi) := (And.intro HI.out.1 HI.out.2.1).2.cell 1
          have gv : Y.cell? ⟨w.heap.size + 2, 2, none⟩ = some (.slice Av out.length cv) := (And.intro HI.out.1 HI.out.2.1).1.blk.cell 2
          have gz : Y.frozen? ⟨w.heap.size + 2, 2, none⟩ = false := (And.intro HI.out.1 HI.out.2.1).1.blk.frozen 2
          have zz : wr.heap.size < Y.heap.size := (And.intro HI.out.1 HI.out.2.1).2.lt
          have zg : w.heap.size + 2 < Y.heap.size := (And.intro HI.out.1 HI.out.2.1).1.blk.lt
          by_cases hya : ya = a
          · have hq : (ya != a) = false := by simpa using hya
            have H1 : Hid (out ++ putP a t false (xs.drop (k + 1)) = R) := by show _ = _; rw [← e2]; simp [hya]
            clear hya
            go_wp2_with fail
            go_roundw
            case rel => exact ⟨k + 1, false, _, out, by omega, rfl, by go_num, (And.intro HI.out.1 HI.out.2.1).1, by have := hol; (try simp only [List.length_append, List.length_cons, List.length_nil]); omega, H1⟩
            case measure => simp [intOf]; omega
          · have hq : (ya != a) = true := by simpa using hya
            have H1 : Hid (out ++ [⟨ya, yi⟩] ++ putP a t false (xs.drop (k + 1)) = R) := by show _ = _; rw [← e2]; simp [hya]
            clear hya
            go_upto_region 10 with fail
            have hIZ7 := (And.intro HI.out.1 HI.out.2.1).1.alloc (.cells #[.int .i64 ya, .int .i64 yi] 93)
            have hbz7 := Blk.new Y 93 #[.int .i64 ya, .int .i64 yi]
            have HZ7 := Lib.hid (And.intro hIZ7 (And.intro hbz7 ((And.intro HI.out.1 HI.out.2.1).2.alloc (.cells #[.int .i64 ya, .int .i64 yi] 93))))
            have hbs7 : W0.heap.size ≤ (Y.alloc (.cells #[.int .i64 ya, .int .i64 yi] 93)).heap.size := hIZ7.only.size
            have gw7 : (Y.alloc (.cells #[.int .i64 ya, .int .i64 yi] 93)).cell? ⟨w.heap.size + 2, 2, none⟩ = some (.slice Av out.length cv) := hIZ7.blk.cell 2
            clear hIZ7 hbz7
            go_upto_region 11 with (at_builtin; go_loud (refine wpList_append_item rfl _ _ _ rfl rowCells tells_cell (v := (.slice Av out.length cv)) (xs := out) (base := W0.heap.size) (S := fun _ => False) rfl HZ7.out.1.own (g := Y.heap.size) (cs := #[.int .i64 (ya), .int .i64 (yi)]) rfl HZ7.out.2.1 (y := ⟨ya, yi⟩) ⟨rfl, HII.out.1, HII.out.2⟩ (fun b h => h.elim) (by have := hol; unfold maxLen; (try simp only [List.length_append, List.length_cons, List.length_nil]); omega) (by have := hol; (try simp only [List.length_append, List.length_cons, List.length_nil]); omega) hbs7 ?_); intro v7 w7 hown6 hgrow6 hat6; obtain ⟨A7, cc7, rfl, -, -⟩ := hown6.len; have HO7 := Lib.hid (And.intro hown6 (And.intro hgrow6 hat6)); clear hown6 hgrow6 hat6; (have g7 : Blk w7 (w.heap.size + 2) 54 #[.int .i64 0, .int .i64 0, (.slice Av out.length cv), .int .i64 rest] := HZ7.out.1.blk.grown HO7.out.2.1 HZ7.out.1.ne); (have z7 : w.heap.size + 2 < w7.heap.size := g7.lt); (have k7 : w7.cell? ⟨w.heap.size + 2, 2, none⟩ = some (.slice Av out.length cv) := g7.cell 2); (have f7 : w7.frozen? ⟨w.heap.size + 2, 2, none⟩ = false := g7.frozen 2); clear g7; clear gw7)
            obtain ⟨W7, h7⟩ : ∃ W7, w7.setCell ⟨w.heap.size + 1 + 1, 2, none⟩ (.slice A7 (out ++ [(⟨ya, yi⟩ : CellD)]).length cc7) = W7 := ⟨_, rfl⟩
            have hP7 : PutI W0 W7 (w.heap.size + 2) rest (.slice A7 (out ++ [(⟨ya, yi⟩ : CellD)]).length cc7) (out ++ [(⟨ya, yi⟩ : CellD)]) := by rw [← h7]; exact HZ7.out.1.push HO7.out.1 HO7.out.2.1
            have hl7 : (out ++ [(⟨ya, yi⟩ : CellD)]).length = (out).length + 1 := by simp
            have HP7 := Lib.hid hP7
            have HH7 := Lib.hid h7
            clear hP7 h7 hl7 k7 f7 z7
            go_wp2_with fail
            go_roundw
            case rel => exact ⟨k + 1, false, .slice A7 (out ++ [(⟨ya, yi⟩ : CellD)]).length cc7, out ++ [⟨ya, yi⟩], by omega, rfl, by go_num, by have hp := HP7.out; rw [← HH7.out] at hp; simpa using hp, by have := hol; simp only [List.length_append, List.length_cons, List.length_nil]; omega, H1⟩
            case measure => simp [intOf]; omega
    · obtain rfl : n = k := by omega
      have HKR : Hid (Blk wr (w.heap.size + 1) 54 #[.int .i64 0, .int .i64 0, .slice none 0 0, .int .i64 0]) := hkr
      clear hkr
      have e1 := HK.out
      rw [List.drop_of_length_le (by have := HL.out; omega), putP] at e1
      have gv : wr.cell? ⟨w.heap.size + 2, 2, none⟩ = some (.slice Av out.length cv) := hI.blk.cell 2
      have g0 : wr.cell? ⟨w.heap.size + 2, 0, none⟩ = some (.int .i64 0) := hI.blk.cell 0
      have g1 : wr.cell? ⟨w.heap.size + 2, 1, none⟩ = some (.int .i64 0) := hI.blk.cell 1
      have g3 : wr.cell? ⟨w.heap.size + 2, 3, none⟩ = some (.int .i64 rest) := hI.blk.cell 3
      have zg : w.heap.size + 2 < wr.heap.size := hI.blk.lt
      have HI := Lib.hid hI
      clear HK hkv hbel hI
      cases done with
      | true =>
        have hm := (MK.out wr HI.out.only).2.2.1
        have hbw := (MK.out wr HI.out.only).1
        have zm : w.heap.size + 1 < wr.heap.size := hm.lt
        have m0 : wr.cell? ⟨w.heap.size + 1, 0, none⟩ = some (.int .i64 0) := hm.cell 0
        have m1 : wr.cell? ⟨w.heap.size + 1, 1, none⟩ = some (.int .i64 0) := hm.cell 1
        have m2 : wr.cell? ⟨w.heap.size + 1, 2, none⟩ = some (.slice none 0 0) := hm.cell 2
        have m3 : wr.cell? ⟨w.heap.size + 1, 3, none⟩ = some (.int .i64 0) := hm.cell 3
        have u0 : wr.frozen? ⟨w.heap.size + 1, 0, none⟩ = false := hm.frozen 0
        have u1 : wr.frozen? ⟨w.heap.size + 1, 1, none⟩ = false := hm.frozen 1
        have u2 : wr.frozen? ⟨w.heap.size + 1, 2, none⟩ = false := hm.frozen 2
        have u3 : wr.frozen? ⟨w.heap.size + 1, 3, none⟩ = false := hm.frozen 3
        have HM := Lib.hid (And.intro hbw hm)
        have HR := Lib.hid (show out = R from (by rw [← e1]; simp))
        clear hm hbw e1
        go_wp2_with fail
        clear m0 m1 m2 m3 u0 u1 u2 u3
        have hz1 := put4_blk HM.out.2 (.int .i64 0) (.int .i64 0) (.slice Av out.length cv) (.int .i64 rest)
        have hz2 := put4_below HM.out.1 (show w.heap.size ≤ w.heap.size + 1 by omega) (.int .i64 0) (.int .i64 0) (.slice Av out.length cv) (.int .i64 rest)
        have hz3 : wr.grownBy (put4 wr (w.heap.size + 1) (.int .i64 0) (.int .i64 0) (.slice Av out.length cv) (.int .i64 rest)) (some (w.heap.size + 1)) := put4_only (only_refl _ _) _ _ _ _
        have hk4 : OwnV VCell 93 2 (put4 wr (w.heap.size + 1) (.int .i64 0) (.int .i64 0) (.slice Av out.length cv) (.int .i64 rest)) W0.heap.size (fun _ => False) (.slice Av out.length cv) out := HI.out.own.kept tells_cell hz3 (.inr fun e => by have h5 := (HI.out.own.lt _ e).1; have := HS0.out; omega) (fun _ h => h.elim)
        have hz4 := hk4.reads (S' := fun b => w.heap.size ≤ b ∧ b < (put4 wr (w.heap.size + 1) (.int .i64 0) (.int .i64 0) (.slice Av out.length cv) (.int .i64 rest)).heap.size) tells_cell (fun _ _ _ _ _ h => atV_cell.1 h) (fun _ h => h.elim) (fun g hg => by have h5 := HI.out.own.lt g hg; have := HS0.out; exact ⟨by omega, Nat.lt_of_lt_of_le h5.2 hz3.size⟩)
        have e4 : (((wr.setCell ⟨w.heap.size + 1, 0, none⟩ (.int .i64 0)).setCell ⟨w.heap.size + 1, 1, none⟩ (.int .i64 0)).setCell ⟨w.heap.size + 1, 2, none⟩ (.slice Av out.length cv)).setCell ⟨w.heap.size + 1, 3, none⟩ (.int .i64 rest) = put4 wr (w.heap.size + 1) (.int .i64 0) (.int .i64 0) (.slice Av out.length cv) (.int .i64 rest) := rfl
        rw [e4]
        clear e4 hz3 hk4
        generalize put4 wr (w.heap.size + 1) (.int .i64 0) (.int .i64 0) (.slice Av out.length cv) (.int .i64 rest) = Z at hz1 hz2 hz4 ⊢
        obtain ⟨A9, c9, e9, h91, h92, h93⟩ := hz4
        have d0 := hz1.cell 0
        have d1 := hz1.cell 1
        have d2 := hz1.cell 2
        have d3 := hz1.cell 3
        simp only [List.getElem?_toArray, List.getElem?_cons_zero, List.getElem?_cons_succ] at d0 d1 d2 d3
        rw [e9] at d2
        subst R
        exact bodyPost_ret (v := .agg #[.int .i64 0, .int .i64 0, .slice A9 (out).length c9, .int .i64 rest]) (by simp [results, Try.results108, go_sem, d0, d1, d2, d3]) rfl ⟨A9, c9, rfl, h91, h92, h93, hz2⟩
      | false =>
        clear gv g0 g1 g3 zg
        have gz : wr.frozen? ⟨w.heap.size + 2, 2, none⟩ = false := HI.out.blk.frozen 2
        have gv : wr.cell? ⟨w.heap.size + 2, 2, none⟩ = some (.slice Av out.length cv) := HI.out.blk.cell 2
        go_upto_region 13 with fail
        have hIZ6 := (And.intro HI.out HKR.out).1.alloc (.cells #[.int .i64 a, .int .i64 t] 93)
        have hbz6 := Blk.new wr 93 #[.int .i64 a, .int .i64 t]
        have HZ6 := Lib.hid (And.intro hIZ6 (And.intro hbz6 ((And.intro HI.out HKR.out).2.alloc (.cells #[.int .i64 a, .int .i64 t] 93))))
        have hbs6 : W0.heap.size ≤ (wr.alloc (.cells #[.int .i64 a, .int .i64 t] 93)).heap.size := hIZ6.only.size
        have gw6 : (wr.alloc (.cells #[.int .i64 a, .int .i64 t] 93)).cell? ⟨w.heap.size + 2, 2, none⟩ = some (.slice Av out.length cv) := hIZ6.blk.cell 2
        clear hIZ6 hbz6
        go_upto_region 14 with (at_builtin; go_loud (refine wpList_append_item rfl _ _ _ rfl rowCells tells_cell (v := (.slice Av out.length cv)) (xs := out) (base := W0.heap.size) (S := fun _ => False) rfl HZ6.out.1.own (g := wr.heap.size) (cs := #[.int .i64 (a), .int .i64 (t)]) rfl HZ6.out.2.1 (y := ⟨a, t⟩) ⟨rfl, HIA.out.1, HIA.out.2⟩ (fun b h => h.elim) (by have := hol; unfold maxLen; (try simp only [List.length_append, List.length_cons, List.length_nil]); omega) (by have := hol; (try simp only [List.length_append, List.length_cons, List.length_nil]); omega) hbs6 ?_); intro v6 w6 hown6 hgrow6 hat6; obtain ⟨A6, cc6, rfl, -, -⟩ := hown6.len; have HO6 := Lib.hid (And.intro hown6 (And.intro hgrow6 hat6)); clear hown6 hgrow6 hat6; (have g6 : Blk w6 (w.heap.size + 2) 54 #[.int .i64 0, .int .i64 0, (.slice Av out.length cv), .int .i64 rest] := HZ6.out.1.blk.grown HO6.out.2.1 HZ6.out.1.ne); (have z6 : w.heap.size + 2 < w6.heap.size := g6.lt); (have k6 : w6.cell? ⟨w.heap.size + 2, 2, none⟩ = some (.slice Av out.length cv) := g6.cell 2); (have f6 : w6.frozen? ⟨w.heap.size + 2, 2, none⟩ = false := g6.frozen 2); clear g6; clear gw6)
        obtain ⟨W6, h6⟩ : ∃ W6, w6.setCell ⟨w.heap.size + 1 + 1, 2, none⟩ (.slice A6 (out ++ [(⟨a, t⟩ : CellD)]).length cc6) = W6 := ⟨_, rfl⟩
        have hP6 : PutI W0 W6 (w.heap.size + 2) rest (.slice A6 (out ++ [(⟨a, t⟩ : CellD)]).length cc6) (out ++ [(⟨a, t⟩ : CellD)]) := by rw [← h6]; exact HZ6.out.1.push HO6.out.1 HO6.out.2.1
        have hl6 : (out ++ [(⟨a, t⟩ : CellD)]).length = out.length + 1 := by simp
        rw [hl6] at h6 hP6
        have H6 := Lib.hid hP6
        have g0 : W6.cell? ⟨w.heap.size + 2, 0, none⟩ = some (.int .i64 0) := hP6.blk.cell 0
        have g1 : W6.cell? ⟨w.heap.size + 2, 1, none⟩ = some (.int .i64 0) := hP6.blk.cell 1
        have g2 : W6.cell? ⟨w.heap.size + 2, 2, none⟩ = some (.slice A6 (out.length + 1) cc6) := hP6.blk.cell 2
        have g3 : W6.cell? ⟨w.heap.size + 2, 3, none⟩ = some (.int .i64 rest) := hP6.blk.cell 3
        have zg : w.heap.size + 2 < W6.heap.size := hP6.blk.lt
        rw [h6]
        clear hP6 hl6 h6 k6 f6 z6 gv gz
        have hm := (MK.out W6 H6.out.only).2.2.1
        have hbw := (MK.out W6 H6.out.only).1
        have zm : w.heap.size + 1 < W6.heap.size := hm.lt
        have m0 : W6.cell? ⟨w.heap.size + 1, 0, none⟩ = some (.int .i64 0) := hm.cell 0
        have m1 : W6.cell? ⟨w.heap.size + 1, 1, none⟩ = some (.int .i64 0) := hm.cell 1
        have m2 : W6.cell? ⟨w.heap.size + 1, 2, none⟩ = some (.slice none 0 0) := hm.cell 2
        have m3 : W6.cell? ⟨w.heap.size + 1, 3, none⟩ = some (.int .i64 0) := hm.cell 3
        have u0 : W6.frozen? ⟨w.heap.size + 1, 0, none⟩ = false := hm.frozen 0
        have u1 : W6.frozen? ⟨w.heap.size + 1, 1, none⟩ = false := hm.frozen 1
        have u2 : W6.frozen? ⟨w.heap.size + 1, 2, none⟩ = false := hm.frozen 2
        have u3 : W6.frozen? ⟨w.heap.size + 1, 3, none⟩ = false := hm.frozen 3
        have HM := Lib.hid (And.intro hbw hm)
        have HR := Lib.hid (show (out ++ [(⟨a, t⟩ : CellD)]) = R from (by rw [← e1]; simp))
        clear hm hbw e1
        go_wp2_with fail
        clear m0 m1 m2 m3 u0 u1 u2 u3
        have hz1 := put4_blk HM.out.2 (.int .i64 0) (.int .i64 0) (.slice A6 (out.length + 1) cc6) (.int .i64 rest)
        have hz2 := put4_below HM.out.1 (show w.heap.size ≤ w.heap.size + 1 by omega) (.int .i64 0) (.int .i64 0) (.slice A6 (out.length + 1) cc6) (.int .i64 rest)
        have hz3 : W6.grownBy (put4 W6 (w.heap.size + 1) (.int .i64 0) (.int .i64 0) (.slice A6 (out.length + 1) cc6) (.int .i64 rest)) (some (w.heap.size + 1)) := put4_only (only_refl _ _) _ _ _ _
        have hk4 : OwnV VCell 93 2 (put4 W6 (w.heap.size + 1) (.int .i64 0) (.int .i64 0) (.slice A6 (out.length + 1) cc6) (.int .i64 rest)) W0.heap.size (fun _ => False) (.slice A6 (out.length + 1) cc6) (out ++ [(⟨a, t⟩ : CellD)]) := H6.out.own.kept tells_cell hz3 (.inr fun e => by have h5 := (H6.out.own.lt _ e).1; have := HS0.out; omega) (fun _ h => h.elim)
        have hz4 := hk4.reads (S' := fun b => w.heap.size ≤ b ∧ b < (put4 W6 (w.heap.size + 1) (.int .i64 0) (.int .i64 0) (.slice A6 (out.length + 1) cc6) (.int .i64 rest)).heap.size) tells_cell (fun _ _ _ _ _ h => atV_cell.1 h) (fun _ h => h.elim) (fun g hg => by have h5 := H6.out.own.lt g hg; have := HS0.out; exact ⟨by omega, Nat.lt_of_lt_of_le h5.2 hz3.size⟩)
        have e4 : (((W6.setCell ⟨w.heap.size + 1, 0, none⟩ (.int .i64 0)).setCell ⟨w.heap.size + 1, 1, none⟩ (.int .i64 0)).setCell ⟨w.heap.size + 1, 2, none⟩ (.slice A6 (out.length + 1) cc6)).setCell ⟨w.heap.size + 1, 3, none⟩ (.int .i64 rest) = put4 W6 (w.heap.size + 1) (.int .i64 0) (.int .i64 0) (.slice A6 (out.length + 1) cc6) (.int .i64 rest) := rfl
        rw [e4]
        clear e4 hz3 hk4
        generalize put4 W6 (w.heap.size + 1) (.int .i64 0) (.int .i64 0) (.slice A6 (out.length + 1) cc6) (.int .i64 rest) = Z at hz1 hz2 hz4 ⊢
        obtain ⟨A9, c9, e9, h91, h92, h93⟩ := hz4
        rw [show (out ++ [(⟨a, t⟩ : CellD)]).length = out.length + 1 from by simp] at e9
        have d0 := hz1.cell 0
        have d1 := hz1.cell 1
        have d2 := hz1.cell 2
        have d3 := hz1.cell 3
        simp only [List.getElem?_toArray, List.getElem?_cons_zero, List.getElem?_cons_succ] at d0 d1 d2 d3
        rw [e9] at d2
        subst R
        exact bodyPost_ret (v := .agg #[.int .i64 0, .int .i64 0, .slice A9 ((out ++ [(⟨a, t⟩ : CellD)])).length c9, .int .i64 rest]) (by simp [results, Try.results108, go_sem, d0, d1, d2, d3]) rfl ⟨A9, c9, rfl, h91, h92, h93, hz2⟩
end Go.Proofs.Ythooecojopfjbaa
