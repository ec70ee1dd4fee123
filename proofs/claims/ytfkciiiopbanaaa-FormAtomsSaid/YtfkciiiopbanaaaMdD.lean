/- Walk: the law FormAtoms (printed by genMdC.py). -/
import Derived.Test.YtfkciiiopbanaaaMdC
namespace Go.Proofs.Ytfkciiiopbanaaa
open Go.RowKit

set_option maxRecDepth 100000 in
set_option maxHeartbeats 8000000 in
theorem formAtoms_any (A : Option Addr) (n c : Nat) (xs : List Int) (B : Option Addr) (nb cb : Nat) (ms : List Int) (cl : Int) (w : World) (hxs : ArrB AtInt 1 w w.heap.size A n xs) (hn : n ≤ 9223372036854775807) (hms : ArrB AtInt 1 w w.heap.size B nb ms) (hnb : nb ≤ 9223372036854775807) (hcl : I64 cl) :
    Calls Try.prog 5 #[.slice A n c, .slice B nb cb, .int .i64 cl] w fun e w' => e = .returned (.bool true) ∧ Below w.heap.size w w' := by
  have HMS := Lib.hid hms
  have HCL := Lib.hid hcl
  have HFO : Hid (Calls Try.prog 9 #[.slice A n c, .int .i64 4] w (KFormP 4 w)) := formOf_any A n c xs 4 w hxs hn (by omega)
  clear hxs hms hcl
  go_enter Try.func5, Try.ntmps5
  go_wp2_with fail
  refine HFO.out.mono ?_
  rintro e w1 ⟨A1, A2, A3, A4, n1, c1, n2, c2, n3, c3, n4, c4, F, rfl, hF, hK, hn4, hn4m, hn1, hb1⟩
  clear HFO
  have hl1 : n1 ≤ 5 := by rw [← hF.terms.len]; exact hK.tlen.2
  have hl2 : n2 ≤ 2 := by rw [← hF.ints.len]; obtain ⟨b, hb⟩ := hK.ints; rw [hb]; exact Nat.le_refl 2
  have hl3 : n3 ≤ 7 := by rw [← hF.atoms.len]; exact hK.alen.2
  have hl3b : 3 ≤ n3 := by rw [← hF.atoms.len]; exact hK.alen.1
  have hl4 : n4 ≤ 4 := by rw [← hF.clauses.len]; exact hK.clen
  obtain ⟨X1, hXa⟩ : ∃ X, w1.alloc (.cells #[.slice A1 n1 c1, .slice A2 n2 c2, .slice A3 n3 c3, .slice none 0 0] 27) = X := ⟨_, rfl⟩
  have hsa := lay_size [(27, #[.slice A1 n1 c1, .slice A2 n2 c2, .slice A3 n3 c3, .slice none 0 0])] w1
  have hba := lay_below [(27, #[.slice A1 n1 c1, .slice A2 n2 c2, .slice A3 n3 c3, .slice none 0 0])] w1
  have hka := fun i t c h => lay_blk [(27, #[.slice A1 n1 c1, .slice A2 n2 c2, .slice A3 n3 c3, .slice none 0 0])] w1 i t c h
  rw [show lay w1 [(27, #[.slice A1 n1 c1, .slice A2 n2 c2, .slice A3 n3 c3, .slice none 0 0])] = X1 from hXa] at hsa hba hka
  simp only [List.length_cons, List.length_nil] at hsa
  have HXa := Lib.hid hXa
  clear hXa
  have hFa : FormB X1 X1.heap.size A1 A2 A3 none n1 n2 n3 0 ⟨F.terms, F.ints, F.atoms, []⟩ := ⟨hF.terms.below stays_term hba hba.size, hF.ints.below stays_bool hba hba.size, hF.atoms.below stays_atom hba hba.size, Arr.nil_, hF.m1, hF.m2, hF.m3, by decide⟩
  have hbX1 : Below w.heap.size w X1 := hb1.trans (hba.mono hb1.size)
  have HMO := Lib.hid (modelOf_any A1 A2 A3 none n1 c1 n2 c2 n3 c3 0 0 ⟨F.terms, F.ints, F.atoms, []⟩ B nb cb ms X1 hFa (HMS.out.below stays_int hbX1 hbX1.size) hnb (by omega) (by omega) (by omega))
  have HK := Lib.hid (hK.with (m := 0) (cs := []) (Nat.le_refl _) (fun x hx => by simp at hx))
  have kf : Blk X1 w1.heap.size 27 #[.slice A1 n1 c1, .slice A2 n2 c2, .slice A3 n3 c3, .slice none 0 0] := hka 0 _ _ rfl
  have H1 := Lib.hid (And.intro hbX1 (And.intro hFa kf))
  have HL := Lib.hid hn1
  have HLN := Lib.hid hF.atoms.len
  have hsz1 : w1.heap.size + 1 = X1.heap.size := hsa.symm
  clear hsa hba hka hFa hF hK kf hbX1 hb1 hn1 hn4 hn4m HMS hl4
  go_wp2_with fail
  rw [HXa.out]
  clear HXa
  refine HMO.out.mono ?_
  rintro e w2 ⟨B1, B2, B3, k1, e1, k2, e2, k3, e3, M, rfl, hM, hKM, -, he1, -, -, hb2⟩
  clear HMO
  have hk1 : k1 = n3 := by rw [← hM.holds.len, ← HLN.out]; exact hKM.lh
  subst hk1
  obtain ⟨X2, hXb⟩ : ∃ X, w2.alloc (.cells #[.slice B1 k1 e1, .slice B2 k2 e2, .slice B3 k3 e3] 40) = X := ⟨_, rfl⟩
  have hsb := lay_size [(40, #[.slice B1 k1 e1, .slice B2 k2 e2, .slice B3 k3 e3])] w2
  have hbb := lay_below [(40, #[.slice B1 k1 e1, .slice B2 k2 e2, .slice B3 k3 e3])] w2
  have hkb := fun i t c h => lay_blk [(40, #[.slice B1 k1 e1, .slice B2 k2 e2, .slice B3 k3 e3])] w2 i t c h
  rw [show lay w2 [(40, #[.slice B1 k1 e1, .slice B2 k2 e2, .slice B3 k3 e3])] = X2 from hXb] at hsb hbb hkb
  simp only [List.length_cons, List.length_nil] at hsb
  have HXb := Lib.hid hXb
  clear hXb
  have kf : Blk w2 w1.heap.size 27 #[.slice A1 n1 c1, .slice A2 n2 c2, .slice A3 k1 c3, .slice none 0 0] := H1.out.2.2.below hb2 (by omega)
  have g0 : w2.cell? ⟨w1.heap.size, 0, none⟩ = some (.slice A1 n1 c1) := kf.cell 0
  have g1 : w2.cell? ⟨w1.heap.size, 1, none⟩ = some (.slice A2 n2 c2) := kf.cell 1
  have g2 : w2.cell? ⟨w1.heap.size, 2, none⟩ = some (.slice A3 k1 c3) := kf.cell 2
  have g3 : w2.cell? ⟨w1.heap.size, 3, none⟩ = some (.slice none 0 0) := kf.cell 3
  have gz : w1.heap.size < w2.heap.size := kf.lt
  have hbc : Below X1.heap.size X1 X2 := hb2.trans (hbb.mono hb2.size)
  have HT1 : Hid (Calls Try.prog 12 #[.agg #[.slice A1 n1 c1, .slice A2 n2 c2, .slice A3 k1 c3, .slice none 0 0], .agg #[.slice B1 k1 e1, .slice B2 k2 e2, .slice B3 k3 e3]] X2 fun e w' => e = .returned (.tuple #[.bool (formH ⟨F.terms, F.ints, F.atoms, []⟩ M), .agg #[.int .i64 0, .int .i64 0]]) ∧ Below X2.heap.size X2 w') := (holds_any A1 A2 A3 none n1 c1 n2 c2 k1 c3 0 0 B1 B2 B3 k1 e1 k2 e2 k3 e3 ⟨F.terms, F.ints, F.atoms, []⟩ M X2 (H1.out.2.1.below hbc hbc.size) (hM.below hbb hbb.size) HL.out).mono fun e w' h => ⟨by rw [h.1, hKM.holds_ok (HK.out.zero (by omega))], h.2⟩
  have HKM := Lib.hid hKM
  have H2 := Lib.hid (And.intro hbc (And.intro (hM.below hbb (Nat.le_refl _)) (And.intro (H1.out.2.2.below hbc (by omega)) (hkb 0 _ _ rfl : Blk X2 w2.heap.size 40 #[.slice B1 k1 e1, .slice B2 k2 e2, .slice B3 k3 e3]))))
  have hsz2 : w2.heap.size + 1 = X2.heap.size := hsb.symm
  have hsz12 : X1.heap.size ≤ w2.heap.size := hb2.size
  clear hsb hbb hkb hM hKM kf hbc hb2
  go_wp2_with fail
  rw [HXb.out]
  clear HXb g0 g1 g2 g3 gz
  refine HT1.out.mono ?_
  rintro e w3 ⟨rfl, hb3⟩
  clear HT1
  obtain ⟨X3, hXc⟩ : ∃ X, w3.alloc (.cells #[.int .i64 0, .int .i64 0] 29) = X := ⟨_, rfl⟩
  have hsc := lay_size [(29, #[.int .i64 0, .int .i64 0])] w3
  have hbc := lay_below [(29, #[.int .i64 0, .int .i64 0])] w3
  have hkc := fun i t c h => lay_blk [(29, #[.int .i64 0, .int .i64 0])] w3 i t c h
  rw [show lay w3 [(29, #[.int .i64 0, .int .i64 0])] = X3 from hXc] at hsc hbc hkc
  simp only [List.length_cons, List.length_nil] at hsc
  have HXc := Lib.hid hXc
  clear hXc
  have kf : Blk w3 w1.heap.size 27 #[.slice A1 n1 c1, .slice A2 n2 c2, .slice A3 k1 c3, .slice none 0 0] := H2.out.2.2.1.below hb3 (by omega)
  have g0 : w3.cell? ⟨w1.heap.size, 0, none⟩ = some (.slice A1 n1 c1) := kf.cell 0
  have g1 : w3.cell? ⟨w1.heap.size, 1, none⟩ = some (.slice A2 n2 c2) := kf.cell 1
  have g2 : w3.cell? ⟨w1.heap.size, 2, none⟩ = some (.slice A3 k1 c3) := kf.cell 2
  have g3 : w3.cell? ⟨w1.heap.size, 3, none⟩ = some (.slice none 0 0) := kf.cell 3
  have gz : w1.heap.size < w3.heap.size := kf.lt
  have hbc : Below X2.heap.size X2 X3 := hb3.trans (hbc.mono hb3.size)
  have H3 := Lib.hid (And.intro (H2.out.1.trans (hbc.mono (by omega))) (And.intro (H2.out.2.1.below (hbc.mono (by omega)) (Nat.le_refl _)) (And.intro (H2.out.2.2.1.below hbc (by omega)) (And.intro (H2.out.2.2.2.below hbc (by omega)) (hkc 0 _ _ rfl : Blk X3 w3.heap.size 29 #[.int .i64 0, .int .i64 0])))))
  have hsz3 : w3.heap.size + 1 = X3.heap.size := hsc.symm
  have hsz23 : X2.heap.size ≤ w3.heap.size := hb3.size
  clear hsc hbc hkc kf hb3 H2
  go_wp2_with fail
  rw [HXc.out]
  clear HXc g0 g1 g2 g3 gz
  refine (picked_in cl (k1 : Int) _ HCL.out (by omega) (by omega)).mono ?_
  rintro e w9 ⟨K, rfl, hw9, r0, r1⟩
  subst hw9
  obtain ⟨k, rfl⟩ := Int.eq_ofNat_of_zero_le r0
  have hkk : k < k1 := by omega
  obtain ⟨X4, hXd⟩ : ∃ X, X3.alloc (.cells #[.slice B1 k1 e1, .slice B2 k2 e2, .slice B3 k3 e3] 40) = X := ⟨_, rfl⟩
  have hsd := lay_size [(40, #[.slice B1 k1 e1, .slice B2 k2 e2, .slice B3 k3 e3])] X3
  have hbd := lay_below [(40, #[.slice B1 k1 e1, .slice B2 k2 e2, .slice B3 k3 e3])] X3
  have hkd := fun i t c h => lay_blk [(40, #[.slice B1 k1 e1, .slice B2 k2 e2, .slice B3 k3 e3])] X3 i t c h
  rw [show lay X3 [(40, #[.slice B1 k1 e1, .slice B2 k2 e2, .slice B3 k3 e3])] = X4 from hXd] at hsd hbd hkd
  simp only [List.length_cons, List.length_nil] at hsd
  have HXd := Lib.hid hXd
  clear hXd
  have m0 : X3.cell? ⟨w2.heap.size, 0, none⟩ = some (.slice B1 k1 e1) := H3.out.2.2.2.1.cell 0
  have m1 : X3.cell? ⟨w2.heap.size, 1, none⟩ = some (.slice B2 k2 e2) := H3.out.2.2.2.1.cell 1
  have m2 : X3.cell? ⟨w2.heap.size, 2, none⟩ = some (.slice B3 k3 e3) := H3.out.2.2.2.1.cell 2
  have mz : w2.heap.size < X3.heap.size := H3.out.2.2.2.1.lt
  go_upto_region 7 with fail
  rw [HXd.out]
  clear HXd m0 m1 m2 mz
  have hk8 : Blk X4 w2.heap.size 40 #[.slice B1 k1 e1, .slice B2 k2 e2, .slice B3 k3 e3] := H3.out.2.2.2.1.below hbd (by omega)
  have m0 : X4.cell? ⟨w2.heap.size, 0, none⟩ = some (.slice B1 k1 e1) := hk8.cell 0
  have mz : w2.heap.size < X4.heap.size := hk8.lt
  have HM4 : Hid (Arr AtBool 1 X4 (fun b => b < w2.heap.size) B1 k1 M.holds) := (H3.out.2.1.below (hbd.mono (by omega)) (Nat.le_refl _)).holds
  have H4 := Lib.hid (And.intro hbd (hkd 0 _ _ rfl : Blk X4 X3.heap.size 40 #[.slice B1 k1 e1, .slice B2 k2 e2, .slice B3 k3 e3]))
  have hsz4 : X3.heap.size + 1 = X4.heap.size := hsd.symm
  have hk1m : k1 ≤ maxLen := by unfold maxLen; omega
  have hlh : M.holds.length = k1 := HM4.out.len
  clear hbd hkd hsd hk8
  go_upto_region 8 with (at_builtin; refine wpList_append_many rfl _ _ _ rfl rowBools tells_bool (v := .slice none 0 0) (xs := []) (base := X4.heap.size) (S := fun b => b < w2.heap.size) rfl (OwnV.none_ _ _ _ _ _ _) (E := AtBool) (fun _ _ _ _ _ h => atV_bool.2 h) (A := B1) (m := k1) (c := e1) rfl HM4.out (fun b hb => ⟨by omega, by simp [Value.ownBlock]⟩) (by simp only [List.length_nil]; unfold maxLen; omega) (by simp only [List.length_nil]; omega) (Nat.le_refl _) ?_; intro v1 w4 hown4 hgrow4 hat4; (have hown4' : OwnV VBool 4 1 w4 X4.heap.size (fun b => b < w2.heap.size) v1 M.holds := hown4); obtain ⟨g6, c6, rfl, hg6, hg6l, hc6, hc6m⟩ := hown4'.form (by omega); rw [hlh] at hown4' hc6 hat4 ⊢; (have hbelow4 : Below X4.heap.size X4 w4 := below_then (Below.refl _ _) hgrow4 (Nat.le_refl _) (fun x hx => by simp [Value.ownBlock] at hx)); (have hk12 : Blk w4 X3.heap.size 40 #[.slice B1 k1 e1, .slice B2 k2 e2, .slice B3 k3 e3] := H4.out.2.below hbelow4 (by omega)); (have q0 : w4.cell? ⟨X3.heap.size, 0, none⟩ = some (.slice B1 k1 e1) := hk12.cell 0); (have u0 : w4.frozen? ⟨X3.heap.size, 0, none⟩ = false := hk12.frozen 0); (have z4 : X3.heap.size < w4.heap.size := hk12.lt); have HB4 := Lib.hid (And.intro hown4' (And.intro hbelow4 (And.intro hk12 (And.intro hc6 hc6m)))); clear hown4 hown4' hgrow4 hat4 hbelow4 hk12 hc6 hc6m)
  obtain ⟨Z1, hZ1⟩ : ∃ Z, w4.setCell ⟨X3.heap.size, 0, none⟩ (.slice (some ⟨g6, 0, none⟩) k1 c6) = Z := ⟨_, rfl⟩
  rw [hZ1]
  have oZ : w4.grownBy Z1 (some (X3.heap.size)) := by rw [← hZ1]; exact one_only (only_refl w4 _) 0 _
  have hownZ : OwnV VBool 4 1 Z1 X4.heap.size (fun b => b < w2.heap.size) (.slice (some ⟨g6, 0, none⟩) k1 c6) M.holds := HB4.out.1.kept tells_bool oZ (.inr (by simp [Value.ownBlock]; omega)) (fun b hb => ⟨hb, by have := HB4.out.2.1.size; omega, by simp; omega⟩)
  obtain ⟨bb, hbb⟩ : ∃ bb, M.holds[k]? = some bb := ⟨M.holds[k], List.getElem?_eq_getElem (by omega)⟩
  obtain ⟨u, hu, hv⟩ := hownZ.elem tells_bool hbb
  obtain rfl : u = .bool bb := (List.cons.inj hv).1
  have hfr := hownZ.unfrozen k
  have hkZ : Blk Z1 X3.heap.size 40 #[.slice (some ⟨g6, 0, none⟩) k1 c6, .slice B2 k2 e2, .slice B3 k3 e3] := by rw [← hZ1]; exact HB4.out.2.2.1.set_ 0 _
  have q1 : Z1.cell? ⟨X3.heap.size, 0, none⟩ = some (.slice (some ⟨g6, 0, none⟩) k1 c6) := hkZ.cell 0
  have zg6 : g6 < Z1.heap.size := (hownZ.lt g6 rfl).2
  have hkI : (k : Int) < (k1 : Int) := by omega
  have hk0 : (0 : Int) ≤ (k : Int) := by omega
  have hlo := hownZ.lt
  have HOZ := Lib.hid (And.intro hownZ (And.intro oZ (And.intro hkZ hbb)))
  clear hownZ oZ hkZ hbb hv hZ1 q0 u0
  go_wp2_with fail
  go_region
  obtain ⟨Z2, hZ2⟩ : ∃ Z, (Z1.setCell ⟨g6, k, none⟩ (.bool !bb)).drew = Z := ⟨_, rfl⟩
  rw [hZ2]
  have o2 : Z1.grownBy Z2 (some g6) := by rw [← hZ2]; exact only_drew (one_only (only_refl Z1 _) k _)
  have hgl := hlo g6 rfl
  have hownS : OwnV VBool 4 1 (Z1.setCell ⟨g6, k, none⟩ (.bool !bb)) X4.heap.size (fun b => b < w2.heap.size) (.slice (some ⟨g6, 0, none⟩) k1 c6) (M.holds.set k (!bb)) := OwnV.set tells_bool HOZ.out.1 hlh.symm rfl (fun b hb => by omega)
  have hown2 : OwnV VBool 4 1 Z2 X4.heap.size (fun b => b < w2.heap.size) (.slice (some ⟨g6, 0, none⟩) k1 c6) (M.holds.set k (!bb)) := by rw [← hZ2]; exact hownS.kept tells_bool (only_drew (only_refl _ none)) (.inr (by simp [Value.ownBlock])) (fun b hb => ⟨hb, by rw [World.size_setCell]; have := HOZ.out.2.2.1.lt; omega, by simp⟩)
  have hzz2 := o2.size
  obtain ⟨A7, c7, e7, -, -, hrow⟩ := OwnV.reads (E := AtBool) tells_bool (fun _ _ _ _ _ h => atV_bool.1 h) hown2 (S' := fun b => b < Z2.heap.size) (fun b hb => by omega) (fun g hg => (hown2.lt g hg).2)
  injection e7 with e71 e72 e73
  subst e71
  rw [← e72] at hrow
  have hbXZ : Below X3.heap.size X3 Z2 := below_then (below_then (H4.out.1.trans (HB4.out.2.1.mono (by omega))) HOZ.out.2.1 (by have := HB4.out.2.1.size; omega) (fun x hx => by injection hx; omega)) o2 (by have := HB4.out.2.1.size; have := HOZ.out.2.1.size; omega) (fun x hx => by injection hx; omega)
  have hM3 := H3.out.2.1.below (hbXZ.mono (by omega)) (show w2.heap.size ≤ Z2.heap.size by have := hbXZ.size; omega)
  have hturn : turnM M k = ⟨M.holds.set k (!bb), M.things, M.nums⟩ := by rw [turnM, HOZ.out.2.2.2]; rfl
  have hMT : ModelB Z2 Z2.heap.size (some ⟨g6, 0, none⟩) B2 B3 k1 k2 k3 (turnM M k) := by rw [hturn]; exact ⟨hrow, hM3.things, hM3.nums, hM3.m1, hM3.m2, hM3.m3⟩
  have hF2 := H1.out.2.1.below (H3.out.1.trans (hbXZ.mono (by omega))) (show X1.heap.size ≤ Z2.heap.size by have := hbXZ.size; omega)
  have kf : Blk Z2 w1.heap.size 27 #[.slice A1 n1 c1, .slice A2 n2 c2, .slice A3 k1 c3, .slice none 0 0] := H3.out.2.2.1.below hbXZ (by omega)
  have kn : Blk Z2 X3.heap.size 40 #[.slice (some ⟨g6, 0, none⟩) k1 c6, .slice B2 k2 e2, .slice B3 k3 e3] := HOZ.out.2.2.1.grown o2 (by simp; omega)
  have ka : Blk Z2 w3.heap.size 29 #[.int .i64 0, .int .i64 0] := H3.out.2.2.2.2.below hbXZ (by omega)
  have HT2 : Hid (Calls Try.prog 12 #[.agg #[.slice A1 n1 c1, .slice A2 n2 c2, .slice A3 k1 c3, .slice none 0 0], .agg #[.slice (some ⟨g6, 0, none⟩) k1 c6, .slice B2 k2 e2, .slice B3 k3 e3]] Z2 fun e w' => e = .returned (.tuple #[.bool (formH ⟨F.terms, F.ints, F.atoms, []⟩ (turnM M k)), .agg #[.int .i64 0, .int .i64 0]]) ∧ Below Z2.heap.size Z2 w') := (holds_any A1 A2 A3 none n1 c1 n2 c2 k1 c3 0 0 (some ⟨g6, 0, none⟩) B2 B3 k1 c6 k2 e2 k3 e3 ⟨F.terms, F.ints, F.atoms, []⟩ (turnM M k) Z2 hF2 hMT HL.out).mono fun e w' h => ⟨by rw [h.1, (HKM.out.turn k).holds_ok (HK.out.zero (by omega))], h.2⟩
  obtain ⟨x, hx⟩ : ∃ x, F.atoms[k]? = some x := ⟨F.atoms[k]'(by have := HLN.out; omega), List.getElem?_eq_getElem _⟩
  have hlaw := atoms_law F.terms F.ints (M := M) hx (by omega)
  have hka := HK.out.atoms x (List.mem_of_getElem? hx)
  obtain ⟨b3, o3, hA3, hb3, hat, -⟩ := hF2.atoms.at_ k x hx
  subst hA3
  have H5 := Lib.hid (And.intro (H1.out.1.trans ((H3.out.1.trans (hbXZ.mono (by omega))).mono H1.out.1.size)) (And.intro kf (And.intro ka (And.intro hb3 hat.1))))
  have g0 : Z2.cell? ⟨w1.heap.size, 0, none⟩ = some (.slice A1 n1 c1) := kf.cell 0
  have g1 : Z2.cell? ⟨w1.heap.size, 1, none⟩ = some (.slice A2 n2 c2) := kf.cell 1
  have g2 : Z2.cell? ⟨w1.heap.size, 2, none⟩ = some (.slice (some ⟨b3, o3, none⟩) k1 c3) := kf.cell 2
  have g3 : Z2.cell? ⟨w1.heap.size, 3, none⟩ = some (.slice none 0 0) := kf.cell 3
  have gz : w1.heap.size < Z2.heap.size := kf.lt
  have m0 : Z2.cell? ⟨X3.heap.size, 0, none⟩ = some (.slice (some ⟨g6, 0, none⟩) k1 c6) := kn.cell 0
  have m1 : Z2.cell? ⟨X3.heap.size, 1, none⟩ = some (.slice B2 k2 e2) := kn.cell 1
  have m2 : Z2.cell? ⟨X3.heap.size, 2, none⟩ = some (.slice B3 k3 e3) := kn.cell 2
  have mz : X3.heap.size < Z2.heap.size := kn.lt
  have hzX := hbXZ.size
  clear hZ2 o2 hownS hown2 hrow e72 e73 hbXZ hM3 hturn hMT hF2 kf kn ka hx hb3 hat HOZ H4 HB4 HM4 HL HLN H3 H1 hlo hgl HKM HK hu hfr q1 hkI hk0 z4
  have hkI : (k : Int) < (k1 : Int) := by omega
  have hk0 : (0 : Int) ≤ (k : Int) := by omega
  go_wp2_with fail
  refine HT2.out.mono ?_
  rintro e w5 ⟨rfl, hb5⟩
  clear HT2 g0 g1 g2 g3 gz m0 m1 m2 mz
  obtain ⟨E1, hXe⟩ : ∃ X, w5.alloc (.cells #[.int .i64 0, .int .i64 0] 29) = X := ⟨_, rfl⟩
  have hse := lay_size [(29, #[.int .i64 0, .int .i64 0])] w5
  have hbe := lay_below [(29, #[.int .i64 0, .int .i64 0])] w5
  have hke := fun i t c h => lay_blk [(29, #[.int .i64 0, .int .i64 0])] w5 i t c h
  rw [show lay w5 [(29, #[.int .i64 0, .int .i64 0])] = E1 from hXe] at hse hbe hke
  simp only [List.length_cons, List.length_nil] at hse
  have HXe := Lib.hid hXe
  clear hXe
  have ka : Blk w5 w3.heap.size 29 #[.int .i64 0, .int .i64 0] := H5.out.2.2.1.below hb5 (by omega)
  have d0 : w5.cell? ⟨w3.heap.size, 0, none⟩ = some (.int .i64 0) := ka.cell 0
  have d1 : w3.heap.size < w5.heap.size := ka.lt
  have hbE : Below Z2.heap.size Z2 E1 := hb5.trans (hbe.mono hb5.size)
  have H6 := Lib.hid (And.intro (H5.out.1.trans (hbE.mono H5.out.1.size)) (And.intro (H5.out.2.1.below hbE (by omega)) (And.intro (Nat.lt_of_lt_of_le H5.out.2.2.2.1 hbE.size) ((hbE.cell (p := ⟨b3, o3 + k * 6, none⟩) H5.out.2.2.2.1).trans H5.out.2.2.2.2))))
  clear ka hbE hb5 hse hbe hke H5
  go_wp2_with fail
  rw [HXe.out]
  clear HXe d0 d1
  refine (formSure_any _).mono ?_
  rintro e w6 ⟨rfl, hb6⟩
  have kf : Blk w6 w1.heap.size 27 #[.slice A1 n1 c1, .slice A2 n2 c2, .slice (some ⟨b3, o3, none⟩) k1 c3, .slice none 0 0] := H6.out.2.1.below hb6 (by have := H6.out.2.1.lt; omega)
  have g2 : w6.cell? ⟨w1.heap.size, 2, none⟩ = some (.slice (some ⟨b3, o3, none⟩) k1 c3) := kf.cell 2
  have gz : w1.heap.size < w6.heap.size := kf.lt
  have c3' : w6.cell? ⟨b3, o3 + k * 6, none⟩ = some (.int .i64 x.kind) := (hb6.cell (p := ⟨b3, o3 + k * 6, none⟩) H6.out.2.2.1).trans H6.out.2.2.2
  have HB := Lib.hid (H6.out.1.trans (hb6.mono H6.out.1.size))
  clear kf hb6 H6
  generalize formH ⟨F.terms, F.ints, F.atoms, []⟩ M = p at hlaw ⊢
  generalize formH ⟨F.terms, F.ints, F.atoms, []⟩ (turnM M k) = q at hlaw ⊢
  by_cases hk1 : x.kind = 1
  · rw [if_neg (by omega)] at hlaw
    subst hlaw
    rw [hk1] at c3'
    clear hka
    go_wp2_with fail
    go_ret
    exact ⟨by simp, HB.out⟩
  · have hk23 : x.kind = 2 ∨ x.kind = 3 := by
      rcases hka with rfl | ⟨_, _, -, -, -, rfl⟩ | ⟨_, _, _, _, -, -, -, -, -, -, -, -, rfl⟩
      · exact absurd rfl hk1
      · exact .inl rfl
      · exact .inr rfl
    rw [if_pos hk23] at hlaw
    have hkb : (x.kind == 1) = false := beq_eq_false_iff_ne.2 hk1
    clear hka hk23
    cases p <;> cases q
    all_goals first
      | (exact absurd hlaw (by decide))
      | (go_wp2_with fail
         go_ret
         exact ⟨rfl, HB.out⟩)
end Go.Proofs.Ytfkciiiopbanaaa
