/- Walk: the value of a node, operator by operator: the program: words. -/
import Derived.Test.YthooecojopfjbaaValM
import Derived.Test.YthooecojopfjbaaWords
namespace Go.Proofs.Ythooecojopfjbaa
open Go.RowKit

theorem do_22 (b : Int) (x y : Int) (A : Option Addr) (c : Nat) (R : Int) (w : World) (h1 : 1 ≤ b) (h8 : b ≤ 8) (hx0 : 0 ≤ x) (hx : x < 2 ^ b.toNat) (hy0 : 0 ≤ y) (hy : y < 2 ^ b.toNat) (hks : IntsB w w.heap.size A 2 [x, y]) (hR : wordF 22 b x y 0 = R) :
    Calls Try.prog 109 #[.int .i64 22, .int .i64 b, .slice A 2 c, .int .i64 0] w (DoP w R) := by
  by_cases hxy : x < y
  · exact do_22a b x y A c R w h1 h8 hx0 hx hy0 hy hks hxy hR
  · exact do_22b b x y A c R w h1 h8 hx0 hx hy0 hy hks hxy hR

theorem not_word {op : Int} (h : 15 ≤ op ∧ op ≤ 23) : (op == 1) = false ∧ (op == 2) = false ∧ (op == 3) = false ∧ (op == 4) = false ∧ (op == 5) = false ∧ (op == 6) = false ∧ (op == 7) = false ∧ (op == 8) = false ∧ (op == 9) = false ∧ (op == 10) = false ∧ (op == 11) = false ∧ (op == 12) = false ∧ (op == 13) = false ∧ (op == 14) = false ∧ (op == 24) = false ∧ (op == 25) = false := by
  simp only [beq_eq_false_iff_ne]
  omega

set_option maxRecDepth 100000 in
set_option maxHeartbeats 4000000 in
theorem val_word (A1 A2 A3 : Option Addr) (n1 c1 n2 c2 n3 c3 : Nat) (AM : Option Addr) (nm cm : Nat) (s : Int) (K : Option Addr) (kn kc : Nat) (N D : Int) (nme : ByteArray) (AK : Option Addr) (ck : Nat) (b : Int) (op : Int) (nk : Nat) (vs : List ValueD) (S0 : Nat → Prop) (w : World) (hvs : ArrB AtValue 4 w w.heap.size AK nk vs) (hnk : nk ≤ 8) (hop : 15 ≤ op ∧ op ≤ 23) (R : Int) (hD : ∀ (A5 : Option Addr) (c5 : Nat) (W : World), IntsB W W.heap.size A5 nk (vs.map (·.num)) → Calls Try.prog 109 #[.int .i64 op, .int .i64 b, .slice A5 nk c5, .int .i64 N] W (DoP W R)) :
    Calls Try.prog 75 #[.agg #[.slice A1 n1 c1, .slice A2 n2 c2, .slice A3 n3 c3], .agg #[.slice AM nm cm], .int .i64 s, .agg #[.int .i64 op, .slice K kn kc, .int .i64 N, .int .i64 D, .string nme], .slice AK nk ck, .int .i64 b] w (ValueP S0 w (some (numV R))) := by
  obtain ⟨X, hX, hI, hsX⟩ := ValI.start w #[.slice A1 n1 c1, .slice A2 n2 c2, .slice A3 n3 c3] #[.slice AM nm cm] #[.int .i64 op, .slice K kn kc, .int .i64 N, .int .i64 D, .string nme] (.slice AK nk ck)
  have x0 : X.cell? ⟨w.heap.size + 2, 0, none⟩ = some (.int .i64 op) := hI.node.cell 0
  have x2 : X.cell? ⟨w.heap.size + 2, 2, none⟩ = some (.int .i64 N) := hI.node.cell 2
  have x3 : X.cell? ⟨w.heap.size + 2, 3, none⟩ = some (.int .i64 D) := hI.node.cell 3
  have x1 : X.cell? ⟨w.heap.size + 2, 1, none⟩ = some (.slice K kn kc) := hI.node.cell 1
  have x4 : X.cell? ⟨w.heap.size + 2, 4, none⟩ = some (.string nme) := hI.node.cell 4
  have xk : X.cell? ⟨w.heap.size + 3, 0, none⟩ = some (.slice AK nk ck) := hI.kids.cell 0
  have hzx : w.heap.size + 4 < X.heap.size := hI.val.lt
  have HX := Lib.hid hX
  have HI := Lib.hid hI
  have HD := Lib.hid hD
  have HVS := Lib.hid hvs
  have HL := Lib.hid hvs.len
  have HO : Hid (OwnV VInt 3 1 X X.heap.size (fun _ => False) (.slice none 0 0) ((vs.map (·.num)).take 0)) := OwnV.none_ _ _ _ _ _ _
  obtain ⟨e1, e2, e3, e4, e5, e6, e7, e8, e9, e10, e11, e12, e13, e14, e24, e25⟩ := not_word hop
  clear hX hI hsX hvs hD hop
  go_enter Try.func75, Try.ntmps75
  go_wp2_with fail
  rw [HX.out]
  clear x0 x1 x2 x3 x4 xk hzx
  go_loopw [21, 176] (fun s21 s176 wr => ∃ (k : Nat), k ≤ nk ∧ s176 = .int .i64 k ∧ Below X.heap.size X wr ∧ OwnV VInt 3 1 wr X.heap.size (fun _ => False) s21 ((vs.map (·.num)).take k)) (fun _ s176 _ => nk - (intOf s176).toNat)
  case atStart => exact ⟨0, Nat.zero_le _, rfl, Below.refl _ _, HO.out⟩
  case round =>
    clear HO
    obtain ⟨k, hk, rfl, hbel, hown⟩ := hrel
    have hI := HI.out.keep hbel
    by_cases hlt : k < nk
    · obtain ⟨b0, off, hx, A2, n2, c2, rfl, hb, hv0, hv1, hv2, hv3, -, -, -, hi0, -, -⟩ := values_get (HVS.out.below stays_value hI.below (Nat.le_refl _)) hlt
      have hnx : k < (vs.map (·.num)).length := by simpa using hx
      have htk := take_snoc_l hnx
      rw [List.getElem_map] at htk
      generalize vs[k] = y at hv0 hv1 hv3 hi0 htk
      obtain ⟨yn, yd, yc, yr⟩ := y
      dsimp only at hv0 hv1 hv3 hi0 htk
      have hkI : (k : Int) < (nk : Int) := by omega
      have hb1 : Below X.heap.size X (wr.alloc (.cells #[.int .i64 yn, .int .i64 yd, .slice A2 n2 c2, .int .i64 yr] 54)) := hbel.alloc hbel.size _
      have hb2 : Below X.heap.size X ((wr.alloc (.cells #[.int .i64 yn, .int .i64 yd, .slice A2 n2 c2, .int .i64 yr] 54)).alloc (.cells #[.int .i64 yn] 3)) := hb1.alloc hb1.size _
      have hO2 : OwnV VInt 3 1 ((wr.alloc (.cells #[.int .i64 yn, .int .i64 yd, .slice A2 n2 c2, .int .i64 yr] 54)).alloc (.cells #[.int .i64 yn] 3)) X.heap.size (fun _ => False) u21 ((vs.map (·.num)).take k) := hown.kept tells_int (only_alloc (only_alloc (only_refl wr none) _) _) (by cases u21.ownBlock <;> simp) (fun _ h => h.elim)
      have hbz := Blk.new (wr.alloc (.cells #[.int .i64 yn, .int .i64 yd, .slice A2 n2 c2, .int .i64 yr] 54)) 3 #[.int .i64 yn]
      have HO := Lib.hid (And.intro hO2 (And.intro hb2 (And.intro hbz hi0)))
      have hlk : ((vs.map (·.num)).take k).length ≤ 8 := by simp; omega
      have HLK := Lib.hid hlk
      have HTK := Lib.hid htk
      have hbs := hb2.size
      have hwr := hbel.size
      clear hx hb hbel hown hI hb1 hb2 hO2 hbz hi0 hnx htk hlk
      go_wp2_with (at_builtin; go_loud (refine wpList_append_item rfl _ _ _ rfl rowInts tells_int (v := u21) (xs := (vs.map (·.num)).take k) (base := X.heap.size) (S := fun _ => False) rfl HO.out.1 (g := wr.heap.size + 1) (cs := #[.int .i64 yn]) rfl (by have := HO.out.2.2.1; rw [World.size_alloc] at this; exact this) (y := yn) ⟨rfl, HO.out.2.2.2⟩ (fun b h => h.elim) (by have := HLK.out; unfold maxLen; omega) (by have := HLK.out; omega) hbs ?_); intro v6 w6 hown6 hgrow6 hat6; have HB6 := Lib.hid (And.intro hown6 hgrow6); clear hown6 hgrow6 hat6)
      go_roundw
      case rel => exact ⟨k + 1, by omega, by go_num, below_then HO.out.2.1 HB6.out.2 HO.out.2.1.size (fun x hx => (HO.out.1.lt x hx).1), by rw [HTK.out]; exact HB6.out.1⟩
      case measure => simp [intOf]; omega
    · obtain rfl : nk = k := by omega
      rw [List.take_of_length_le (by rw [List.length_map]; have := HL.out; omega)] at hown
      obtain ⟨A5, c5, he5, hc5, hc5m, hrd⟩ := hown.reads (E := AtInt) (S' := fun b => b < wr.heap.size) tells_int (fun _ _ _ _ _ h => atV_int.1 h) (fun _ h => h.elim) (fun g hg => (hown.lt g hg).2)
      rw [List.length_map, HL.out] at he5 hrd
      subst he5
      have hD := HD.out A5 c5 wr hrd
      have HDD := Lib.hid hD
      have HI2 := Lib.hid hI
      have n0 : wr.cell? ⟨w.heap.size + 2, 0, none⟩ = some (.int .i64 op) := hI.node.cell 0
      have n2 : wr.cell? ⟨w.heap.size + 2, 2, none⟩ = some (.int .i64 N) := hI.node.cell 2
      have zn : w.heap.size + 2 < wr.heap.size := hI.node.lt
      clear hI hbel hown hrd hc5 hc5m hD hk hlt
      go_wp2_with fail
      refine HDD.out.mono ?_
      rintro e w5 ⟨rfl, hb5⟩
      have hI5 := HI2.out.keep hb5
      have hI6 := hI5.keep ((Below.refl w5.heap.size w5).alloc (Nat.le_refl _) (.cells #[.int .i64 0, .int .i64 0] 29))
      have HI5 := Lib.hid hI6
      clear hb5 hI5 hI6 n0 n2 zn
      go_wp2_with fail
      refine (num_any _ _).mono ?_
      rintro e w6 ⟨rfl, hb6⟩
      have HI6 := Lib.hid (HI5.out.keep hb6)
      clear hb6
      obtain ⟨m0, m1, m2, m3, u0, u1, u2, u3, zm⟩ := HI6.out.val.four
      go_wp2_with fail
      have hF := HI6.out.fin (.int .i64 R) (.int .i64 1) (.slice none 0 0) (.int .i64 0)
      exact val_ret HI6.out.val rfl rfl rfl rfl (valueP_plain R 1 hF.1)
end Go.Proofs.Ythooecojopfjbaa
