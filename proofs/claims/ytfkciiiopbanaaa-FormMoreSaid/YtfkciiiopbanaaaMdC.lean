/- Walk: the law FormMore (printed by genMdC.py). -/
import Derived.Test.YtfkciiiopbanaaaMdA
import Derived.Test.YtfkciiiopbanaaaMdB
namespace Go.Proofs.Ytfkciiiopbanaaa
open Go.RowKit

theorem KForm.with {k m : Nat} {F : FormD} {cs : List (List Int)} (h : KForm k F) (hl : cs.length ≤ m) (hc : ∀ c ∈ cs, Lits F.atoms.length c) : KForm m ⟨F.terms, F.ints, F.atoms, cs⟩ := ⟨h.ints, h.tlen, h.terms, h.alen, h.atoms, hl, hc⟩
theorem KForm.zero {k : Nat} {F : FormD} (h : KForm k F) (hk : k ≤ 400) : (formF F).1 = 0 := by rw [h.fault hk]

set_option maxRecDepth 100000 in
set_option maxHeartbeats 8000000 in
theorem formMore_any (A : Option Addr) (n c : Nat) (xs : List Int) (B : Option Addr) (nb cb : Nat) (ms : List Int) (cl : Int) (w : World) (hxs : ArrB AtInt 1 w w.heap.size A n xs) (hn : n ≤ 9223372036854775807) (hms : ArrB AtInt 1 w w.heap.size B nb ms) (hnb : nb ≤ 9223372036854775807) (hcl : I64 cl) :
    Calls Try.prog 4 #[.slice A n c, .slice B nb cb, .int .i64 cl] w fun e w' => e = .returned (.bool true) ∧ Below w.heap.size w w' := by
  have HMS := Lib.hid hms
  have HCL := Lib.hid hcl
  have HFO : Hid (Calls Try.prog 9 #[.slice A n c, .int .i64 8] w (KFormP 8 w)) := formOf_any A n c xs 8 w hxs hn (by omega)
  clear hxs hms hcl
  go_enter Try.func4, Try.ntmps4
  go_wp2_with fail
  refine HFO.out.mono ?_
  rintro e w1 ⟨A1, A2, A3, A4, n1, c1, n2, c2, n3, c3, n4, c4, F, rfl, hF, hK, hn4, hn4m, hn1, hb1⟩
  clear HFO
  have hl1 : n1 ≤ 5 := by rw [← hF.terms.len]; exact hK.tlen.2
  have hl2 : n2 ≤ 2 := by rw [← hF.ints.len]; obtain ⟨b, hb⟩ := hK.ints; rw [hb]; exact Nat.le_refl 2
  have hl3 : n3 ≤ 7 := by rw [← hF.atoms.len]; exact hK.alen.2
  have hl3b : 3 ≤ n3 := by rw [← hF.atoms.len]; exact hK.alen.1
  have hl4 : n4 ≤ 8 := by rw [← hF.clauses.len]; exact hK.clen
  obtain ⟨X1, hXa⟩ : ∃ X, w1.alloc (.cells #[.slice A1 n1 c1, .slice A2 n2 c2, .slice A3 n3 c3, .slice A4 n4 c4] 27) = X := ⟨_, rfl⟩
  have hsa := lay_size [(27, #[.slice A1 n1 c1, .slice A2 n2 c2, .slice A3 n3 c3, .slice A4 n4 c4])] w1
  have hba := lay_below [(27, #[.slice A1 n1 c1, .slice A2 n2 c2, .slice A3 n3 c3, .slice A4 n4 c4])] w1
  have hka := fun i t c h => lay_blk [(27, #[.slice A1 n1 c1, .slice A2 n2 c2, .slice A3 n3 c3, .slice A4 n4 c4])] w1 i t c h
  rw [show lay w1 [(27, #[.slice A1 n1 c1, .slice A2 n2 c2, .slice A3 n3 c3, .slice A4 n4 c4])] = X1 from hXa] at hsa hba hka
  simp only [List.length_cons, List.length_nil] at hsa
  have HXa := Lib.hid hXa
  clear hXa
  have hFa : FormB X1 X1.heap.size A1 A2 A3 A4 n1 n2 n3 n4 F := hF.below hba hba.size
  have hbX1 : Below w.heap.size w X1 := hb1.trans (hba.mono hb1.size)
  have HMO := Lib.hid (modelOf_any A1 A2 A3 A4 n1 c1 n2 c2 n3 c3 n4 c4 F B nb cb ms X1 hFa (HMS.out.below stays_int hbX1 hbX1.size) hnb (by omega) (by omega) (by omega))
  have HK := Lib.hid hK
  have kf : Blk X1 w1.heap.size 27 #[.slice A1 n1 c1, .slice A2 n2 c2, .slice A3 n3 c3, .slice A4 n4 c4] := hka 0 _ _ rfl
  have H1 := Lib.hid (And.intro hbX1 (And.intro hFa kf))
  have HL := Lib.hid (And.intro hn1 (And.intro hn4 hn4m))
  have HLN := Lib.hid (And.intro hF.terms.len (And.intro hF.ints.len (And.intro hF.atoms.len hF.clauses.len)))
  have hsz1 : w1.heap.size + 1 = X1.heap.size := hsa.symm
  clear hsa hba hka hFa hF hK kf hbX1 hb1 hn1 hn4 hn4m HMS
  go_wp2_with fail
  rw [HXa.out]
  clear HXa
  refine HMO.out.mono ?_
  rintro e w2 ⟨B1, B2, B3, k1, e1, k2, e2, k3, e3, M, rfl, hM, hKM, -, -, -, -, hb2⟩
  clear HMO
  obtain ⟨X2, hXb⟩ : ∃ X, (w2.alloc (.cells #[.slice B1 k1 e1, .slice B2 k2 e2, .slice B3 k3 e3] 40)).alloc (.cells #[.slice A1 n1 c1, .slice A2 n2 c2, .slice A3 n3 c3, .slice A4 n4 c4] 27) = X := ⟨_, rfl⟩
  have hsb := lay_size [(40, #[.slice B1 k1 e1, .slice B2 k2 e2, .slice B3 k3 e3]), (27, #[.slice A1 n1 c1, .slice A2 n2 c2, .slice A3 n3 c3, .slice A4 n4 c4])] w2
  have hbb := lay_below [(40, #[.slice B1 k1 e1, .slice B2 k2 e2, .slice B3 k3 e3]), (27, #[.slice A1 n1 c1, .slice A2 n2 c2, .slice A3 n3 c3, .slice A4 n4 c4])] w2
  have hkb := fun i t c h => lay_blk [(40, #[.slice B1 k1 e1, .slice B2 k2 e2, .slice B3 k3 e3]), (27, #[.slice A1 n1 c1, .slice A2 n2 c2, .slice A3 n3 c3, .slice A4 n4 c4])] w2 i t c h
  rw [show lay w2 [(40, #[.slice B1 k1 e1, .slice B2 k2 e2, .slice B3 k3 e3]), (27, #[.slice A1 n1 c1, .slice A2 n2 c2, .slice A3 n3 c3, .slice A4 n4 c4])] = X2 from hXb] at hsb hbb hkb
  simp only [List.length_cons, List.length_nil] at hsb
  have HXb := Lib.hid hXb
  clear hXb
  have kf : Blk w2 w1.heap.size 27 #[.slice A1 n1 c1, .slice A2 n2 c2, .slice A3 n3 c3, .slice A4 n4 c4] := H1.out.2.2.below hb2 (by omega)
  have g0 : w2.cell? ⟨w1.heap.size, 0, none⟩ = some (.slice A1 n1 c1) := kf.cell 0
  have g1 : w2.cell? ⟨w1.heap.size, 1, none⟩ = some (.slice A2 n2 c2) := kf.cell 1
  have g2 : w2.cell? ⟨w1.heap.size, 2, none⟩ = some (.slice A3 n3 c3) := kf.cell 2
  have g3 : w2.cell? ⟨w1.heap.size, 3, none⟩ = some (.slice A4 n4 c4) := kf.cell 3
  have gz : w1.heap.size < w2.heap.size := kf.lt
  have hbc : Below X1.heap.size X1 X2 := hb2.trans (hbb.mono hb2.size)
  have HKM := Lib.hid hKM
  have H2 := Lib.hid (And.intro hbc (And.intro (hM.below hbb (Nat.le_refl _)) (And.intro (H1.out.2.2.below hbc (by omega)) (And.intro (hkb 0 _ _ rfl : Blk X2 w2.heap.size 40 #[.slice B1 k1 e1, .slice B2 k2 e2, .slice B3 k3 e3]) (hkb 1 _ _ rfl : Blk X2 (w2.heap.size + 1) 27 #[.slice A1 n1 c1, .slice A2 n2 c2, .slice A3 n3 c3, .slice A4 n4 c4])))))
  have hsz2 : w2.heap.size + 2 = X2.heap.size := hsb.symm
  have hsz12 : X1.heap.size ≤ w2.heap.size := hb2.size
  have HCO := Lib.hid (clauseOf_any cl (n3 : Int) X2 HCL.out (by omega) (by omega))
  clear hsb hbb hkb hM hKM kf hbc hb2 HCL
  go_wp2_with fail
  rw [HXb.out]
  clear HXb g0 g1 g2 g3
  refine HCO.out.mono ?_
  rintro e w3 ⟨v, ks, rfl, hown, hlits, hb3⟩
  clear HCO
  have hol := hown.lt
  obtain ⟨A5, c5, rfl, h51, h52, h53⟩ := OwnV.reads (E := AtInt) tells_int (fun _ _ _ _ _ h => atV_int.1 h) hown (S' := fun b => X2.heap.size ≤ b ∧ b < w3.heap.size) (fun b h => False.elim h) (fun g hg => hol g hg)
  have kf : Blk w3 w1.heap.size 27 #[.slice A1 n1 c1, .slice A2 n2 c2, .slice A3 n3 c3, .slice A4 n4 c4] := H2.out.2.2.1.below hb3 (by omega)
  have kg : Blk w3 (w2.heap.size + 1) 27 #[.slice A1 n1 c1, .slice A2 n2 c2, .slice A3 n3 c3, .slice A4 n4 c4] := H2.out.2.2.2.2.below hb3 (by omega)
  have g0 : w3.cell? ⟨w1.heap.size, 0, none⟩ = some (.slice A1 n1 c1) := kf.cell 0
  have g1 : w3.cell? ⟨w1.heap.size, 1, none⟩ = some (.slice A2 n2 c2) := kf.cell 1
  have g2 : w3.cell? ⟨w1.heap.size, 2, none⟩ = some (.slice A3 n3 c3) := kf.cell 2
  have g3 : w3.cell? ⟨w1.heap.size, 3, none⟩ = some (.slice A4 n4 c4) := kf.cell 3
  have gz : w1.heap.size < w3.heap.size := kf.lt
  have hb13 : Below X1.heap.size X1 w3 := H2.out.1.trans (hb3.mono (by omega))
  have HCL : Hid (Arr (AtArr AtInt 1) 1 w3 (fun b => b < w3.heap.size ∧ b ≠ w2.heap.size + 1) A4 n4 F.clauses) := H1.out.2.1.clauses.keep (stays_arr stays_int) (fun b hb => ⟨Nat.lt_of_lt_of_le hb hb13.size, by omega⟩) (fun b o hb => hb13.cell (p := ⟨b, o, none⟩) hb)
  have HKG := Lib.hid kg
  have HR5 := Lib.hid h53
  have HC5 := Lib.hid (And.intro h51 h52)
  have HLT := Lib.hid hlits
  have H3 := Lib.hid (And.intro hb13 (And.intro (H2.out.2.1.below (hb3.mono (by omega)) (Nat.le_refl _)) (And.intro kf (H2.out.2.2.2.1.below hb3 (by omega)))))
  have hsz3 : X2.heap.size ≤ w3.heap.size := hb3.size
  clear hown hol hlits hb3 h51 h52 h53 kf kg H2 hb13
  have hn4b : n4 ≤ maxLen := Nat.le_trans HL.out.2.1 HL.out.2.2
  go_upto_region 6 with first
    | (at_builtin; refine wpList_append_many rfl _ _ _ rfl rowRows tells_row' (v := .slice none 0 0) (xs := []) (base := w3.heap.size) (S := fun b => b < w3.heap.size ∧ b ≠ w2.heap.size + 1) rfl (OwnV.none_ _ _ _ _ _ _) (E := AtArr AtInt 1) (fun _ _ _ _ _ h => atV_arr.2 h) (A := A4) (m := n4) (c := c4) rfl HCL.out (fun b hb => ⟨hb.1, by simp [Value.ownBlock]⟩) (by simp only [List.length_nil]; unfold maxLen; omega) (by simp only [List.length_nil]; omega) (Nat.le_refl _) ?_
       intro v1 w4 hown4 hgrow4 hat4
       have hbelow4 : Below w3.heap.size w3 w4 := below_then (Below.refl _ _) hgrow4 (Nat.le_refl _) (fun x hx => by simp [Value.ownBlock] at hx)
       have hb5 : Below w4.heap.size w4 (w4.alloc (.cells #[.slice A5 ks.length c5] 31)) := (Below.refl _ _).alloc (Nat.le_refl _) _
       have hown5 : OwnV VRow 31 1 (w4.alloc (.cells #[.slice A5 ks.length c5] 31)) w3.heap.size (fun b => b < w3.heap.size ∧ b ≠ w2.heap.size + 1) v1 F.clauses := hown4.kept tells_row' (only_of_below hb5 none) (by cases v1.ownBlock <;> simp) (fun b hS => ⟨hS, Nat.lt_of_lt_of_le hS.1 hbelow4.size, by simp⟩)
       have HO5 := Lib.hid hown5
       have HB4 := Lib.hid (And.intro hbelow4 (hbelow4.trans (hb5.mono hbelow4.size)))
       have HBN := Lib.hid (Blk.new w4 31 #[.slice A5 ks.length c5])
       have HLT5 := Lib.hid hown5.lt
       clear hown4 hgrow4 hat4 hb5 hown5 hbelow4)
    | (at_builtin; refine wpList_append_item rfl _ _ _ rfl rowRows tells_row' (v := v1) (xs := F.clauses) (base := w3.heap.size) (S := fun b => b < w3.heap.size ∧ b ≠ w2.heap.size + 1) rfl HO5.out (g := w4.heap.size) (cs := #[.slice A5 ks.length c5]) rfl HBN.out (y := ks) (varr_of (HR5.out.keep stays_int (fun _ h => ⟨h.2, by omega⟩) (fun b o hb => HB4.out.2.cell (p := ⟨b, o, none⟩) hb.2)) HC5.out.1 HC5.out.2) (fun b h => ⟨Nat.lt_of_lt_of_le h.1 HB4.out.2.size, fun e => by have := (HLT5.out b e).1; have := h.1; omega⟩) (by have := HLN.out.2.2.2; unfold maxLen; omega) (by have := HLN.out.2.2.2; omega) HB4.out.2.size ?_
       intro v2 w6 hown6 hgrow6 hat6
       obtain ⟨A6, c6, rfl, hc6, hc6m⟩ := hown6.len
       have hl6 : (F.clauses ++ [ks]).length = n4 + 1 := by rw [List.length_append, HLN.out.2.2.2]; rfl
       rw [hl6] at hown6 hat6 hc6 ⊢
       have hb6 : Below w3.heap.size w3 w6 := below_then HB4.out.2 hgrow6 HB4.out.2.size (fun x hx => (HLT5.out x hx).1)
       have hk6 : Blk w6 (w2.heap.size + 1) 27 #[.slice A1 n1 c1, .slice A2 n2 c2, .slice A3 n3 c3, .slice A4 n4 c4] := HKG.out.below hb6 (by omega)
       have q3 : w6.cell? ⟨w2.heap.size + 1, 3, none⟩ = some (.slice A4 n4 c4) := hk6.cell 3
       have u3 : w6.frozen? ⟨w2.heap.size + 1, 3, none⟩ = false := hk6.frozen 3
       have z6 : w2.heap.size + 1 < w6.heap.size := hk6.lt
       have HB6 := Lib.hid (And.intro hown6 (And.intro hb6 (And.intro hk6 (And.intro hc6 hc6m))))
       clear hown6 hgrow6 hat6 hb6 hk6 hl6 hc6 hc6m)
  obtain ⟨Z1, hZ1⟩ : ∃ Z, w6.setCell ⟨w2.heap.size + 1, 3, none⟩ (.slice A6 (n4 + 1) c6) = Z := ⟨_, rfl⟩
  rw [hZ1]
  have hl6 : (F.clauses ++ [ks]).length = n4 + 1 := by rw [List.length_append, HLN.out.2.2.2]; rfl
  have hol := HB6.out.1.lt
  obtain ⟨A7, c7, e7, -, -, hrow⟩ := OwnV.reads (E := AtArr AtInt 1) tells_row' atArr_of HB6.out.1 (S' := fun b => b < w6.heap.size ∧ b ≠ w2.heap.size + 1) (fun b hb => ⟨Nat.lt_of_lt_of_le hb.1 HB6.out.2.1.size, hb.2⟩) (fun g hg => ⟨(hol g hg).2, by have := (hol g hg).1; omega⟩)
  injection e7 with e71 e72 e73
  subst e71
  rw [← e72] at hrow
  have oZ : w6.grownBy Z1 (some (w2.heap.size + 1)) := by rw [← hZ1]; exact one_only (only_refl w6 _) 3 _
  have hz6 := HB6.out.2.1.size
  have hzZ := oZ.size
  have hbZ : Below X1.heap.size X1 Z1 := below_then (H3.out.1.trans (HB6.out.2.1.mono (by omega))) oZ (by omega) (fun x hx => by injection hx; omega)
  have hkZ9 : Blk Z1 (w2.heap.size + 1) 27 #[.slice A1 n1 c1, .slice A2 n2 c2, .slice A3 n3 c3, .slice A6 (n4 + 1) c6] := by rw [← hZ1]; exact HB6.out.2.2.1.set_ 3 _
  have hkZ7 : Blk Z1 (w1.heap.size) 27 #[.slice A1 n1 c1, .slice A2 n2 c2, .slice A3 n3 c3, .slice A4 n4 c4] := (H3.out.2.2.1.below HB6.out.2.1 (by omega)).grown oZ (by simp; omega)
  have hkZ8 : Blk Z1 w2.heap.size 40 #[.slice B1 k1 e1, .slice B2 k2 e2, .slice B3 k3 e3] := (H3.out.2.2.2.below HB6.out.2.1 (by omega)).grown oZ (by simp)
  have hFZ := H1.out.2.1.below hbZ hbZ.size
  have hrowZ : Arr (AtArr AtInt 1) 1 Z1 (fun b => b < Z1.heap.size) A6 (n4 + 1) (F.clauses ++ [ks]) := hrow.keep (stays_arr stays_int) (fun b hb => Nat.lt_of_lt_of_le hb.1 hzZ) (fun b o hb => only_cell oZ hb.1 (by intro e; injection e with e; exact hb.2 e.symm))
  have hksZ : Arr AtInt 1 Z1 (fun b => b < Z1.heap.size) A5 ks.length ks := HR5.out.keep stays_int (fun b hb => by omega) (fun b o hb => (only_cell oZ (by omega) (by intro e; injection e with e; omega)).trans (HB6.out.2.1.cell (p := ⟨b, o, none⟩) hb.2))
  have hMZ : ModelB Z1 Z1.heap.size B1 B2 B3 k1 k2 k3 M := H3.out.2.1.below (below_then (HB6.out.2.1.mono (by omega)) oZ (by omega) (fun x hx => by injection hx; omega)) (by omega)
  have hFG : FormB Z1 Z1.heap.size A1 A2 A3 A6 n1 n2 n3 (n4 + 1) ⟨F.terms, F.ints, F.atoms, F.clauses ++ [ks]⟩ := ⟨hFZ.terms, hFZ.ints, hFZ.atoms, hrowZ, hFZ.m1, hFZ.m2, hFZ.m3, by omega⟩
  have p0 : Z1.cell? ⟨w1.heap.size, 0, none⟩ = some (.slice A1 n1 c1) := hkZ7.cell 0
  have p1 : Z1.cell? ⟨w1.heap.size, 1, none⟩ = some (.slice A2 n2 c2) := hkZ7.cell 1
  have p2 : Z1.cell? ⟨w1.heap.size, 2, none⟩ = some (.slice A3 n3 c3) := hkZ7.cell 2
  have p3 : Z1.cell? ⟨w1.heap.size, 3, none⟩ = some (.slice A4 n4 c4) := hkZ7.cell 3
  have pz : w1.heap.size < Z1.heap.size := hkZ7.lt
  have hwZ : Below w.heap.size w Z1 := H1.out.1.trans (hbZ.mono (by have := H1.out.1.size; omega))
  have HZ := Lib.hid (And.intro hwZ (And.intro hFZ (And.intro hFG (And.intro hMZ (And.intro hksZ (And.intro hkZ7 (And.intro hkZ8 hkZ9)))))))
  have hzz : w2.heap.size + 2 ≤ Z1.heap.size := by omega
  clear hZ1 hol e72 e73 hrow oZ hz6 hzZ hbZ hkZ9 hkZ7 hkZ8 hFZ hrowZ hksZ hMZ hFG hwZ HB6 q3 u3 z6 HO5 HB4 HBN HLT5 H3 HKG HCL HR5 H1 g0 g1 g2 g3 gz hsz3 hl6
  obtain ⟨D, hXd⟩ : ∃ X, (Z1.alloc (.cells #[.slice A1 n1 c1, .slice A2 n2 c2, .slice A3 n3 c3, .slice (some ⟨Z1.heap.size + 1, 0, none⟩) 1 1] 27)).alloc (.cells #[.slice A5 ks.length c5] 31) = X := ⟨_, rfl⟩
  have hsd := lay_size [(27, #[.slice A1 n1 c1, .slice A2 n2 c2, .slice A3 n3 c3, .slice (some ⟨Z1.heap.size + 1, 0, none⟩) 1 1]), (31, #[.slice A5 ks.length c5])] Z1
  have hbd := lay_below [(27, #[.slice A1 n1 c1, .slice A2 n2 c2, .slice A3 n3 c3, .slice (some ⟨Z1.heap.size + 1, 0, none⟩) 1 1]), (31, #[.slice A5 ks.length c5])] Z1
  have hkd := fun i t c h => lay_blk [(27, #[.slice A1 n1 c1, .slice A2 n2 c2, .slice A3 n3 c3, .slice (some ⟨Z1.heap.size + 1, 0, none⟩) 1 1]), (31, #[.slice A5 ks.length c5])] Z1 i t c h
  rw [show lay Z1 [(27, #[.slice A1 n1 c1, .slice A2 n2 c2, .slice A3 n3 c3, .slice (some ⟨Z1.heap.size + 1, 0, none⟩) 1 1]), (31, #[.slice A5 ks.length c5])] = D from hXd] at hsd hbd hkd
  simp only [List.length_cons, List.length_nil] at hsd
  have HXd := Lib.hid hXd
  clear hXd
  have hkD : Blk D Z1.heap.size 27 #[.slice A1 n1 c1, .slice A2 n2 c2, .slice A3 n3 c3, .slice (some ⟨Z1.heap.size + 1, 0, none⟩) 1 1] := hkd 0 _ _ rfl
  have hkR : Blk D (Z1.heap.size + 1) 31 #[.slice A5 ks.length c5] := hkd 1 _ _ rfl
  have hszD : Z1.heap.size + 2 = D.heap.size := hsd.symm
  have hFD := HZ.out.2.1.below hbd hbd.size
  have hGD := HZ.out.2.2.1.below hbd hbd.size
  have hMD := HZ.out.2.2.2.1.below hbd hbd.size
  have hHD : FormB D D.heap.size A1 A2 A3 (some ⟨Z1.heap.size + 1, 0, none⟩) n1 n2 n3 1 ⟨F.terms, F.ints, F.atoms, [ks]⟩ := ⟨hFD.terms, hFD.ints, hFD.atoms, row_one (tells_arr stays_int) atArr_of hkR (varr_of (HZ.out.2.2.2.2.1.keep stays_int (fun b hb => Nat.lt_of_lt_of_le hb hbd.size) (fun b o hb => hbd.cell (p := ⟨b, o, none⟩) hb)) HC5.out.1 HC5.out.2) (by omega), hFD.m1, hFD.m2, hFD.m3, by decide⟩
  have hk7D := HZ.out.2.2.2.2.2.1.below hbd (by omega)
  have hk8D := HZ.out.2.2.2.2.2.2.1.below hbd (by omega)
  have hk9D := HZ.out.2.2.2.2.2.2.2.below hbd (by omega)
  have hwD := HZ.out.1.trans (hbd.mono HZ.out.1.size)
  have K0 := HKM.out
  have HT1 : Hid (Calls Try.prog 12 #[.agg #[.slice A1 n1 c1, .slice A2 n2 c2, .slice A3 n3 c3, .slice A4 n4 c4], .agg #[.slice B1 k1 e1, .slice B2 k2 e2, .slice B3 k3 e3]] D fun e w' => e = .returned (.tuple #[.bool (formH F M), .agg #[.int .i64 0, .int .i64 0]]) ∧ Below D.heap.size D w') := (holds_any A1 A2 A3 A4 n1 c1 n2 c2 n3 c3 n4 c4 B1 B2 B3 k1 e1 k2 e2 k3 e3 F M D hFD hMD HL.out.1).mono fun e w' h => ⟨by rw [h.1, K0.holds_ok (HK.out.zero (by omega))], h.2⟩
  have m0 : Z1.cell? ⟨w2.heap.size, 0, none⟩ = some (.slice B1 k1 e1) := HZ.out.2.2.2.2.2.2.1.cell 0
  have m1 : Z1.cell? ⟨w2.heap.size, 1, none⟩ = some (.slice B2 k2 e2) := HZ.out.2.2.2.2.2.2.1.cell 1
  have m2 : Z1.cell? ⟨w2.heap.size, 2, none⟩ = some (.slice B3 k3 e3) := HZ.out.2.2.2.2.2.2.1.cell 2
  have mz : w2.heap.size < Z1.heap.size := HZ.out.2.2.2.2.2.2.1.lt
  have HFD := Lib.hid (And.intro hFD (And.intro hGD (And.intro hHD hMD)))
  have HKD := Lib.hid (And.intro hk7D (And.intro hk8D (And.intro hk9D (And.intro hkD hwD))))
  clear hkD hkR hFD hGD hMD hHD hsd hbd hkd hk7D hk8D hk9D hwD HZ K0
  go_wp2_with fail
  rw [HXd.out]
  clear HXd p0 p1 p2 p3 pz m0 m1 m2 mz
  refine HT1.out.mono ?_
  rintro e w8 ⟨rfl, hb8⟩
  clear HT1
  obtain ⟨E1, hXe⟩ : ∃ X, w8.alloc (.cells #[.int .i64 0, .int .i64 0] 29) = X := ⟨_, rfl⟩
  have hse := lay_size [(29, #[.int .i64 0, .int .i64 0])] w8
  have hbe := lay_below [(29, #[.int .i64 0, .int .i64 0])] w8
  have hke := fun i t c h => lay_blk [(29, #[.int .i64 0, .int .i64 0])] w8 i t c h
  rw [show lay w8 [(29, #[.int .i64 0, .int .i64 0])] = E1 from hXe] at hse hbe hke
  simp only [List.length_cons, List.length_nil] at hse
  have HXe := Lib.hid hXe
  clear hXe
  have hbw : Below D.heap.size D w8 := hb8
  have hbE : Below D.heap.size D E1 := hbw.trans (hbe.mono hbw.size)
  have k1e := HKD.out.2.2.1.below hbw (by omega)
  have k2e := HKD.out.2.1.below hbw (by omega)
  have p0 : w8.cell? ⟨w2.heap.size + 1, 0, none⟩ = some (.slice A1 n1 c1) := k1e.cell 0
  have p1 : w8.cell? ⟨w2.heap.size + 1, 1, none⟩ = some (.slice A2 n2 c2) := k1e.cell 1
  have p2 : w8.cell? ⟨w2.heap.size + 1, 2, none⟩ = some (.slice A3 n3 c3) := k1e.cell 2
  have p3 : w8.cell? ⟨w2.heap.size + 1, 3, none⟩ = some (.slice A6 (n4 + 1) c6) := k1e.cell 3
  have pz : w2.heap.size + 1 < w8.heap.size := k1e.lt
  have m0 : w8.cell? ⟨w2.heap.size, 0, none⟩ = some (.slice B1 k1 e1) := k2e.cell 0
  have m1 : w8.cell? ⟨w2.heap.size, 1, none⟩ = some (.slice B2 k2 e2) := k2e.cell 1
  have m2 : w8.cell? ⟨w2.heap.size, 2, none⟩ = some (.slice B3 k3 e3) := k2e.cell 2
  have mz : w2.heap.size < w8.heap.size := k2e.lt
  have HTe : Hid (Calls Try.prog 12 #[.agg #[.slice A1 n1 c1, .slice A2 n2 c2, .slice A3 n3 c3, .slice A6 (n4 + 1) c6], .agg #[.slice B1 k1 e1, .slice B2 k2 e2, .slice B3 k3 e3]] E1 fun e w' => e = .returned (.tuple #[.bool (formH ⟨F.terms, F.ints, F.atoms, F.clauses ++ [ks]⟩ M), .agg #[.int .i64 0, .int .i64 0]]) ∧ Below E1.heap.size E1 w') := (holds_any A1 A2 A3 A6 n1 c1 n2 c2 n3 c3 (n4 + 1) c6 B1 B2 B3 k1 e1 k2 e2 k3 e3 ⟨F.terms, F.ints, F.atoms, F.clauses ++ [ks]⟩ M E1 (HFD.out.2.1.below hbE hbE.size) (HFD.out.2.2.2.below hbE hbE.size) HL.out.1).mono fun e w' h => ⟨by rw [h.1, (HKM.out.clauses _).holds_ok ((HK.out.with (m := 9) (by simp only [List.length_append, List.length_cons, List.length_nil]; have := HK.out.clen; omega) (fun x hx => by
      rcases List.mem_append.1 hx with hx | hx
      · exact HK.out.clauses x hx
      · rw [List.mem_singleton.1 hx]; have := HLT.out; rwa [HLN.out.2.2.1])).zero (by omega))], h.2⟩
  have HBE := Lib.hid (And.intro hbE (hke 0 _ _ rfl : Blk E1 w8.heap.size 29 #[.int .i64 0, .int .i64 0]))
  have hszE : w8.heap.size + 1 = E1.heap.size := hse.symm
  have hszE0 : D.heap.size ≤ w8.heap.size := hbw.size
  clear hse hbe hke hbw hbE k1e k2e hb8
  go_wp2_with fail
  rw [HXe.out]
  clear HXe p0 p1 p2 p3 pz m0 m1 m2 mz
  refine HTe.out.mono ?_
  rintro e w9 ⟨rfl, hb9⟩
  clear HTe
  obtain ⟨E2, hXf⟩ : ∃ X, w9.alloc (.cells #[.int .i64 0, .int .i64 0] 29) = X := ⟨_, rfl⟩
  have hsf := lay_size [(29, #[.int .i64 0, .int .i64 0])] w9
  have hbf := lay_below [(29, #[.int .i64 0, .int .i64 0])] w9
  have hkf := fun i t c h => lay_blk [(29, #[.int .i64 0, .int .i64 0])] w9 i t c h
  rw [show lay w9 [(29, #[.int .i64 0, .int .i64 0])] = E2 from hXf] at hsf hbf hkf
  simp only [List.length_cons, List.length_nil] at hsf
  have HXf := Lib.hid hXf
  clear hXf
  have hbw : Below D.heap.size D w9 := HBE.out.1.trans (hb9.mono (by have := HBE.out.1.size; omega))
  have hbE : Below D.heap.size D E2 := hbw.trans (hbf.mono hbw.size)
  have k1f := HKD.out.2.2.2.1.below hbw (by omega)
  have k2f := HKD.out.2.1.below hbw (by omega)
  have p0 : w9.cell? ⟨Z1.heap.size, 0, none⟩ = some (.slice A1 n1 c1) := k1f.cell 0
  have p1 : w9.cell? ⟨Z1.heap.size, 1, none⟩ = some (.slice A2 n2 c2) := k1f.cell 1
  have p2 : w9.cell? ⟨Z1.heap.size, 2, none⟩ = some (.slice A3 n3 c3) := k1f.cell 2
  have p3 : w9.cell? ⟨Z1.heap.size, 3, none⟩ = some (.slice (some ⟨Z1.heap.size + 1, 0, none⟩) 1 1) := k1f.cell 3
  have pz : Z1.heap.size < w9.heap.size := k1f.lt
  have m0 : w9.cell? ⟨w2.heap.size, 0, none⟩ = some (.slice B1 k1 e1) := k2f.cell 0
  have m1 : w9.cell? ⟨w2.heap.size, 1, none⟩ = some (.slice B2 k2 e2) := k2f.cell 1
  have m2 : w9.cell? ⟨w2.heap.size, 2, none⟩ = some (.slice B3 k3 e3) := k2f.cell 2
  have mz : w2.heap.size < w9.heap.size := k2f.lt
  have HTf : Hid (Calls Try.prog 12 #[.agg #[.slice A1 n1 c1, .slice A2 n2 c2, .slice A3 n3 c3, .slice (some ⟨Z1.heap.size + 1, 0, none⟩) 1 1], .agg #[.slice B1 k1 e1, .slice B2 k2 e2, .slice B3 k3 e3]] E2 fun e w' => e = .returned (.tuple #[.bool (formH ⟨F.terms, F.ints, F.atoms, [ks]⟩ M), .agg #[.int .i64 0, .int .i64 0]]) ∧ Below E2.heap.size E2 w') := (holds_any A1 A2 A3 (some ⟨Z1.heap.size + 1, 0, none⟩) n1 c1 n2 c2 n3 c3 1 1 B1 B2 B3 k1 e1 k2 e2 k3 e3 ⟨F.terms, F.ints, F.atoms, [ks]⟩ M E2 (HFD.out.2.2.1.below hbE hbE.size) (HFD.out.2.2.2.below hbE hbE.size) HL.out.1).mono fun e w' h => ⟨by rw [h.1, (HKM.out.clauses _).holds_ok ((HK.out.with (m := 1) (cs := [ks]) (Nat.le_refl _) (fun x hx => by rw [List.mem_singleton.1 hx]; have := HLT.out; rwa [HLN.out.2.2.1])).zero (by omega))], h.2⟩
  have HBF := Lib.hid (And.intro hbE (And.intro (hkf 0 _ _ rfl : Blk E2 w9.heap.size 29 #[.int .i64 0, .int .i64 0]) ((HBE.out.2.below hb9 (by omega)).below hbf (by have := hb9.size; omega))))
  have hszF : w9.heap.size + 1 = E2.heap.size := hsf.symm
  have hszF0 : E1.heap.size ≤ w9.heap.size := hb9.size
  clear hsf hbf hkf hbw hbE k1f k2f hb9
  go_wp2_with fail
  rw [HXf.out]
  clear HXf p0 p1 p2 p3 pz m0 m1 m2 mz
  refine HTf.out.mono ?_
  rintro e w10 ⟨rfl, hb10⟩
  clear HTf
  have ka : Blk w10 w8.heap.size 29 #[.int .i64 0, .int .i64 0] := HBF.out.2.2.below hb10 (by omega)
  have kb : Blk w10 w9.heap.size 29 #[.int .i64 0, .int .i64 0] := HBF.out.2.1.below hb10 (by omega)
  have d0 : w10.cell? ⟨w8.heap.size, 0, none⟩ = some (.int .i64 0) := ka.cell 0
  have d1 : w10.cell? ⟨w9.heap.size, 0, none⟩ = some (.int .i64 0) := kb.cell 0
  have z0 : w8.heap.size < w10.heap.size := ka.lt
  have z1 : w9.heap.size < w10.heap.size := kb.lt
  have hw10 : Below w.heap.size w w10 := HKD.out.2.2.2.2.trans ((HBF.out.1.trans (hb10.mono (by have := HBF.out.1.size; omega))).mono HKD.out.2.2.2.2.size)
  have HW := Lib.hid hw10
  rw [more_law]
  generalize formH F M = x
  generalize formH ⟨F.terms, F.ints, F.atoms, [ks]⟩ M = z
  clear ka kb hw10 hb10
  cases x <;> cases z
  all_goals
    go_wp2_with fail
    refine (formSure_any _).mono ?_
    rintro e w5 ⟨rfl, hb5⟩
    have HB5 := Lib.hid hb5
    clear hb5
    go_wp2_with fail
    go_ret
    exact ⟨rfl, (HW.out.alloc HW.out.size _).trans (HB5.out.mono (by have := HW.out.size; simp; omega))⟩
end Go.Proofs.Ytfkciiiopbanaaa
