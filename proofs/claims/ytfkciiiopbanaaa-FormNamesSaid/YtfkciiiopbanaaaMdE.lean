/- Walk: the law FormNames (printed by genMdC.py). -/
import Derived.Test.YtfkciiiopbanaaaMdC
namespace Go.Proofs.Ytfkciiiopbanaaa
open Go.RowKit

/-- the law's other names -/
def nameG (P x : Int) : Int := (x * 7 + P).tmod 101
theorem nameG_emod {P x : Int} (h : 0 ≤ x * 7 + P) : nameG P x = (x * 7 + P) % 101 := Int.tmod_eq_emod_of_nonneg h

set_option maxRecDepth 100000 in
set_option maxHeartbeats 8000000 in
theorem formNames_any (A : Option Addr) (n c : Nat) (xs : List Int) (B : Option Addr) (nb cb : Nat) (ms : List Int) (cl : Int) (w : World) (hxs : ArrB AtInt 1 w w.heap.size A n xs) (hn : n ≤ 9223372036854775807) (hms : ArrB AtInt 1 w w.heap.size B nb ms) (hnb : nb ≤ 9223372036854775807) (hcl : I64 cl) :
    Calls Try.prog 6 #[.slice A n c, .slice B nb cb, .int .i64 cl] w fun e w' => e = .returned (.bool true) ∧ Below w.heap.size w w' := by
  have HMS := Lib.hid hms
  have HCL := Lib.hid hcl
  have HFO : Hid (Calls Try.prog 9 #[.slice A n c, .int .i64 8] w (KFormP 8 w)) := formOf_any A n c xs 8 w hxs hn (by omega)
  clear hxs hms hcl
  go_enter Try.func6, Try.ntmps6
  go_wp2_with fail
  refine HFO.out.mono ?_
  rintro e w1 ⟨A1, A2, A3, A4, n1, c1, n2, c2, n3, c3, n4, c4, F, rfl, hF, hK, hn4, hn4m, hn1, hb1⟩
  clear HFO
  have hl1 : n1 ≤ 5 := by rw [← hF.terms.len]; exact hK.tlen.2
  have hl2 : n2 ≤ 2 := by rw [← hF.ints.len]; obtain ⟨b, hb⟩ := hK.ints; rw [hb]; exact Nat.le_refl 2
  have hl3 : n3 ≤ 7 := by rw [← hF.atoms.len]; exact hK.alen.2
  have hl3b : 3 ≤ n3 := by rw [← hF.atoms.len]; exact hK.alen.1
  have hl4 : n4 ≤ 8 := by rw [← hF.clauses.len]; exact hK.clen
  obtain ⟨X1, hXa⟩ : ∃ X, w1.alloc (.cells #[.slice A1 n1 c1, .slice A2 n2 c2, .slice A3 n3 c3, .slice A4 n4 c4] 27) = X := ⟨_, rfl⟩
  have hsa := lay_size [(27, #[.slice A1 n1 c1, .slice A2 n2 c2, .slice A3 n3 c3, .slice A4 n4 c4])] w1
  have hba := lay_below [(27, #[.slice A1 n1 c1, .slice A2 n2 c2, .slice A3 n3 c3, .slice A4 n4 c4])] w1
  have hka := fun i t c h => lay_blk [(27, #[.slice A1 n1 c1, .slice A2 n2 c2, .slice A3 n3 c3, .slice A4 n4 c4])] w1 i t c h
  rw [show lay w1 [(27, #[.slice A1 n1 c1, .slice A2 n2 c2, .slice A3 n3 c3, .slice A4 n4 c4])] = X1 from hXa] at hsa hba hka
  simp only [List.length_cons, List.length_nil] at hsa
  have HXa := Lib.hid hXa
  clear hXa
  have hFa : FormB X1 X1.heap.size A1 A2 A3 A4 n1 n2 n3 n4 F := hF.below hba hba.size
  have hbX1 : Below w.heap.size w X1 := hb1.trans (hba.mono hb1.size)
  have HMO := Lib.hid (modelOf_any A1 A2 A3 A4 n1 c1 n2 c2 n3 c3 n4 c4 F B nb cb ms X1 hFa (HMS.out.below stays_int hbX1 hbX1.size) hnb (by omega) (by omega) (by omega))
  have HK := Lib.hid hK
  have kf : Blk X1 w1.heap.size 27 #[.slice A1 n1 c1, .slice A2 n2 c2, .slice A3 n3 c3, .slice A4 n4 c4] := hka 0 _ _ rfl
  have H1 := Lib.hid (And.intro hbX1 (And.intro hFa kf))
  have HL := Lib.hid (And.intro hn1 hF.terms.len)
  have hsz1 : w1.heap.size + 1 = X1.heap.size := hsa.symm
  clear hsa hba hka hFa hF hK kf hbX1 hb1 hn1 hn4 hn4m HMS hl4 hl3b
  go_wp2_with fail
  rw [HXa.out]
  clear HXa
  refine HMO.out.mono ?_
  rintro e w2 ⟨B1, B2, B3, k1, e1, k2, e2, k3, e3, M, rfl, hM, hKM, hth, -, he2, -, hb2⟩
  clear HMO
  have hk2 : k2 ≤ 5 := by rw [← hM.things.len, hKM.lt, HL.out.2]; exact hl1
  obtain ⟨X2, hXb⟩ : ∃ X, (w2.alloc (.cells #[.slice B1 k1 e1, .slice B2 k2 e2, .slice B3 k3 e3] 40)).alloc (.cells #[.slice B1 k1 e1, .slice none 0 0, .slice B3 k3 e3] 40) = X := ⟨_, rfl⟩
  have hsb := lay_size [(40, #[.slice B1 k1 e1, .slice B2 k2 e2, .slice B3 k3 e3]), (40, #[.slice B1 k1 e1, .slice none 0 0, .slice B3 k3 e3])] w2
  have hbb := lay_below [(40, #[.slice B1 k1 e1, .slice B2 k2 e2, .slice B3 k3 e3]), (40, #[.slice B1 k1 e1, .slice none 0 0, .slice B3 k3 e3])] w2
  have hkb := fun i t c h => lay_blk [(40, #[.slice B1 k1 e1, .slice B2 k2 e2, .slice B3 k3 e3]), (40, #[.slice B1 k1 e1, .slice none 0 0, .slice B3 k3 e3])] w2 i t c h
  rw [show lay w2 [(40, #[.slice B1 k1 e1, .slice B2 k2 e2, .slice B3 k3 e3]), (40, #[.slice B1 k1 e1, .slice none 0 0, .slice B3 k3 e3])] = X2 from hXb] at hsb hbb hkb
  simp only [List.length_cons, List.length_nil] at hsb
  have HXb := Lib.hid hXb
  clear hXb
  have hbc : Below X1.heap.size X1 X2 := hb2.trans (hbb.mono hb2.size)
  have kf : Blk w2 w1.heap.size 27 #[.slice A1 n1 c1, .slice A2 n2 c2, .slice A3 n3 c3, .slice A4 n4 c4] := H1.out.2.2.below hb2 (by omega)
  have HKM := Lib.hid hKM
  have HTH := Lib.hid hth
  have H2 := Lib.hid (And.intro hbc (And.intro (hM.below hbb (Nat.le_refl _)) (And.intro (H1.out.2.2.below hbc (by omega)) (And.intro (hkb 0 _ _ rfl : Blk X2 (w2.heap.size) 40 #[.slice B1 k1 e1, .slice B2 k2 e2, .slice B3 k3 e3]) (hkb 1 _ _ rfl : Blk X2 (w2.heap.size + 1) 40 #[.slice B1 k1 e1, .slice none 0 0, .slice B3 k3 e3])))))
  have hsz2 : w2.heap.size + 2 = X2.heap.size := hsb.symm
  have hsz12 : X1.heap.size ≤ w2.heap.size := hb2.size
  have hclI := HCL.out
  obtain ⟨P, hP⟩ : ∃ P, cl % 100 = P := ⟨_, rfl⟩
  have hP0 : 0 ≤ P := by omega
  have hP1 : P < 100 := by omega
  have HP := Lib.hid hP
  clear hsb hbb hkb hM hKM hth kf hbc hb2 HCL hP
  go_upto_region 5 with fail
  rw [HXb.out]
  clear HXb
  go_wp2_with fail
  go_loopw [10] (fun s10 wr => ∃ (i : Nat) (v1 : Value) (ys : List Int), s10 = .int .i64 (i : Int) ∧ i ≤ k2 ∧ Hid (Blk wr (w2.heap.size + 1) 40 #[.slice B1 k1 e1, v1, .slice B3 k3 e3] ∧ Out VInt 3 1 X2 wr (w2.heap.size + 1) v1 ys) ∧ Hid (ys = (M.things.take i).map (nameG P))) (fun s10 _ => k2 - (intOf s10).toNat)
  case atStart => exact ⟨0, .slice none 0 0, [], rfl, Nat.zero_le _, ⟨H2.out.2.2.2.2, Out.start VInt 3 1 X2 H2.out.2.2.2.2.lt⟩, rfl⟩
  case round =>
    obtain ⟨i, v1, ys, rfl, hi, HR, HY⟩ := hrel
    have hGw : w2.heap.size + 1 < wr.heap.size := HR.out.1.lt
    have HB : Hid (Below w2.heap.size X2 wr) := below_then (Below.refl _ _) HR.out.2.only (by omega) (fun x hx => by injection hx; omega)
    have HM8 : Hid (Blk wr (w2.heap.size) 40 #[.slice B1 k1 e1, .slice B2 k2 e2, .slice B3 k3 e3]) := H2.out.2.2.2.1.grown HR.out.2.only (by simp)
    by_cases hlt : i < k2
    · have hiI : (i : Int) < (k2 : Int) := by omega
      have hi0 : (0 : Int) ≤ (i : Int) := by omega
      obtain ⟨bx, ox, hx, rfl, hbx, hcx, hx0, hx1⟩ := ints_get (H2.out.2.1.things.below stays_int HB.out (Nat.le_refl _)) (i := i) hlt
      have hxt := HTH.out M.things[i] (List.getElem_mem hx)
      have htk : (M.things.take (i + 1)).map (nameG P) = (M.things.take i).map (nameG P) ++ [(M.things[i] * 7 + P).tmod 101] := by
        rw [List.take_succ_eq_append_getElem hx, List.map_append]; rfl
      have HTK := Lib.hid htk
      have hlt' : ys.length ≤ 100 := by rw [HY.out, List.length_map, List.length_take]; omega
      have HLT' := Lib.hid hlt'
      generalize M.things[i] = x at hcx hx0 hx1 hxt HTK
      obtain ⟨hxt0, hxt1⟩ := hxt
      have hw1 : IntKind.i64.wrap (x * 7) = x * 7 := by rw [IntKind.wrap_i64]; omega
      have hw2 : IntKind.i64.wrap (x * 7 + P) = x * 7 + P := by rw [IntKind.wrap_i64]; omega
      have q1 : wr.cell? ⟨w2.heap.size + 1, 1, none⟩ = some v1 := HR.out.1.cell 1
      have f1 : wr.cell? ⟨w2.heap.size, 1, none⟩ = some (.slice (some ⟨bx, ox, none⟩) k2 e2) := HM8.out.cell 1
      have HL9 := HLT'
      have HC := Lib.hid (picked_any cl 100 P wr.drew hclI (by omega) (by omega) HP.out)
      have hit : I64 ((x * 7 + P).tmod 101) := by rw [Int.tmod_eq_emod_of_nonneg (by omega)]; unfold I64; omega
      have HIT := Lib.hid hit
      clear hx hbx htk hlt' hit
      go_wp2_with fail
      go_region_law (first
        | (refine step_append_item (by rfl) _ _ _ (by rfl) rowInts tells_int (v := v1) (xs := ys) (base := X2.heap.size) (S := SO X2.heap.size (w3.alloc (.cells #[.int .i64 ((x * 7 + P).tmod 101)] 3)) v1) (by rfl) (.inl HOY.out.own) (g := w3.heap.size) (cs := #[.int .i64 ((x * 7 + P).tmod 101)]) (by rfl) HBN.out (y := ((x * 7 + P).tmod 101)) (show VInt _ _ [.int .i64 ((x * 7 + P).tmod 101)] _ from ⟨rfl, HIT.out⟩) (fun b h => ⟨h.2.1, h.2.2⟩) (by unfold maxLen; omega) (by omega) hW0 ?_
           intro g' cap w6 hown6 hgrow6 hat6 hlt6
           have hgb6 : Blk w6 (w2.heap.size + 1) 40 #[.slice B1 k1 e1, v1, .slice B3 k3 e3] := HGY.out.grown hgrow6 (fun e => by have := (HLT.out (w2.heap.size + 1) e.symm).1; have := HGW.out; omega)
           have q6 : w6.cell? ⟨(w2.heap.size + 1), 1, none⟩ = some v1 := hgb6.cell 1
           have z6 : w6.frozen? ⟨(w2.heap.size + 1), 1, none⟩ = false := hgb6.frozen 1
           have HB6 := Lib.hid (And.intro hgb6 (And.intro hown6 (And.intro hgrow6 hat6)))
           clear hgb6 hown6 hgrow6 hat6)
        | (go_simp
           go_at_call 14
           refine HC.out.mono ?_
           rintro e w3 ⟨rfl, hw3⟩
           have hbX : Below wr.heap.size wr w3 := hw3 ▸ (Below.refl wr.heap.size wr).drew
           have HPX : Hid (Out VInt 3 1 X2 w3 (w2.heap.size + 1) v1 ys ∧ Blk w3 (w2.heap.size + 1) 40 #[.slice B1 k1 e1, v1, .slice B3 k3 e3]) := ⟨HR.out.2.step tells_int hbX, HR.out.1.below hbX hGw⟩
           have hcx3 : w3.cell? ⟨bx, ox + i, none⟩ = some (.int .i64 x) := by rw [← hw3]; exact hcx
           have f13 : w3.cell? ⟨w2.heap.size, 1, none⟩ = some (.slice (some ⟨bx, ox, none⟩) k2 e2) := by rw [← hw3]; exact f1
           clear hbX hw3
           have hbY : Below w3.heap.size w3 (w3.alloc (.cells #[.int .i64 ((x * 7 + P).tmod 101)] 3)) := (Below.refl _ _).alloc (Nat.le_refl _) _
           have HOY := Lib.hid (HPX.out.1.step tells_int hbY)
           have hlt := HPX.out.1.own.lt
           have HBN := Lib.hid (Blk.new w3 3 #[.int .i64 ((x * 7 + P).tmod 101)])
           have HGY : Hid (Blk (w3.alloc (.cells #[.int .i64 ((x * 7 + P).tmod 101)] 3)) (w2.heap.size + 1) 40 #[.slice B1 k1 e1, v1, .slice B3 k3 e3]) := HPX.out.2.below hbY HPX.out.2.lt
           have qx : w3.cell? ⟨(w2.heap.size + 1), 1, none⟩ = some v1 := HPX.out.2.cell 1
           have zX : (w2.heap.size + 1) < w3.heap.size := HPX.out.2.lt
           have HLT := Lib.hid hlt
           have hlx : ys.length ≤ 100 := HL9.out
           have hW0 : X2.heap.size ≤ (w3.alloc (.cells #[.int .i64 ((x * 7 + P).tmod 101)] 3)).heap.size := Nat.le_trans HPX.out.1.only.size hbY.size
           have HGW : Hid ((w2.heap.size + 1) < X2.heap.size) := HPX.out.1.lt
           clear hbY hlt)
        | fail)
      all_goals
        go_wp2_with fail
        go_roundw
        case rel =>
          obtain ⟨hgb6, hown6, hgrow6, hat6⟩ := HB6.out
          exact ⟨i + 1, _, ys ++ [(x * 7 + P).tmod 101], by go_num, by omega, ⟨hgb6.set_ 1 _, Out.push tells_int HOY.out hown6 hgrow6 (hat6.elim (fun h => .inl h.symm) (fun h => .inr (congrArg some h))) 1 _⟩, by show _ = _; rw [HTK.out, HY.out]⟩
        case measure => simp [intOf]; omega
    · obtain rfl : i = k2 := by omega
      have hthl : M.things.length = i := H2.out.2.1.things.len
      obtain ⟨D2, d2, e7, hd2, hd2m, hT2⟩ := HR.out.2.done tells_int (E := AtInt) (fun _ _ _ _ _ h => atV_int.1 h)
      have hyy := HY.out
      rw [List.take_of_length_le (by omega)] at hyy
      rw [hyy] at hT2 e7 hd2
      rw [List.length_map, hthl] at hT2 e7 hd2
      subst e7
      obtain ⟨W1, rfl⟩ : ∃ W1 : World, W1 = wr := ⟨_, rfl⟩
      have o1 := HR.out.2.only
      have hz1 := o1.size
      have hb1W : Below w2.heap.size X2 W1 := HB.out
      have hbXW : Below X1.heap.size X1 W1 := H2.out.1.trans (HB.out.mono (by omega))
      have hFW := H1.out.2.1.below hbXW hbXW.size
      have hMW := H2.out.2.1.below hb1W (show w2.heap.size ≤ W1.heap.size by omega)
      have hMN : ModelB W1 W1.heap.size B1 D2 B3 k1 i k3 (nameM M (nameG P)) := ⟨hMW.holds, hT2.keep stays_int (fun b hb => hb.2) (fun _ _ _ => rfl), hMW.nums, hMW.m1, by omega, hMW.m3⟩
      have kf : Blk W1 (w1.heap.size) 27 #[.slice A1 n1 c1, .slice A2 n2 c2, .slice A3 n3 c3, .slice A4 n4 c4] := H2.out.2.2.1.grown o1 (by simp; omega)
      have km : Blk W1 (w2.heap.size) 40 #[.slice B1 k1 e1, .slice B2 i e2, .slice B3 k3 e3] := HM8.out
      have kn : Blk W1 (w2.heap.size + 1) 40 #[.slice B1 k1 e1, .slice D2 i d2, .slice B3 k3 e3] := HR.out.1
      have HT1 : Hid (Calls Try.prog 12 #[.agg #[.slice A1 n1 c1, .slice A2 n2 c2, .slice A3 n3 c3, .slice A4 n4 c4], .agg #[.slice B1 k1 e1, .slice B2 i e2, .slice B3 k3 e3]] W1 fun e w' => e = .returned (.tuple #[.bool (formH F M), .agg #[.int .i64 0, .int .i64 0]]) ∧ Below W1.heap.size W1 w') := (holds_any A1 A2 A3 A4 n1 c1 n2 c2 n3 c3 n4 c4 B1 B2 B3 k1 e1 i e2 k3 e3 F M W1 hFW hMW HL.out.1).mono fun e w' h => ⟨by rw [h.1, HKM.out.holds_ok (HK.out.zero (by omega))], h.2⟩
      have hnm : ∀ x ∈ M.things, 0 ≤ nameG P x ∧ nameG P x ≤ 1000 := fun x hx => by
        have := HTH.out x hx
        rw [nameG_emod (by omega)]; omega
      have hlaw : formH F (nameM M (nameG P)) = formH F M := names_law (fun x hx y hy h => by
        have h1 := HTH.out x hx
        have h2 := HTH.out y hy
        rw [nameG_emod (by omega), nameG_emod (by omega)] at h
        exact seven_inj h1 h2 h) (fits_ok (HKM.out.fits (HK.out.zero (by omega))))
      have HNM := Lib.hid (And.intro (HKM.out.name hnm) hlaw)
      have H3 := Lib.hid (And.intro (H1.out.1.trans (hbXW.mono H1.out.1.size)) (And.intro hFW (And.intro hMN (And.intro kf kn))))
      have g0 : W1.cell? ⟨w1.heap.size, 0, none⟩ = some (.slice A1 n1 c1) := kf.cell 0
      have g1 : W1.cell? ⟨w1.heap.size, 1, none⟩ = some (.slice A2 n2 c2) := kf.cell 1
      have g2 : W1.cell? ⟨w1.heap.size, 2, none⟩ = some (.slice A3 n3 c3) := kf.cell 2
      have g3 : W1.cell? ⟨w1.heap.size, 3, none⟩ = some (.slice A4 n4 c4) := kf.cell 3
      have gz : w1.heap.size < W1.heap.size := kf.lt
      have m0 : W1.cell? ⟨w2.heap.size, 0, none⟩ = some (.slice B1 k1 e1) := km.cell 0
      have m1 : W1.cell? ⟨w2.heap.size, 1, none⟩ = some (.slice B2 i e2) := km.cell 1
      have m2 : W1.cell? ⟨w2.heap.size, 2, none⟩ = some (.slice B3 k3 e3) := km.cell 2
      have mz : w2.heap.size < W1.heap.size := km.lt
      have hiI : ¬ (i : Int) < (i : Int) := by omega
      clear o1 hb1W hbXW hFW hMW hMN kf km kn hnm hlaw hd2 hd2m hT2 HR HB HM8 hthl hlt hi HTH H2 H1 HKM HY hyy
      go_wp2_with fail
      refine HT1.out.mono ?_
      rintro e w8 ⟨rfl, hb8⟩
      clear HT1 g0 g1 g2 g3 gz m0 m1 m2 mz
      obtain ⟨E1, hXe⟩ : ∃ X, w8.alloc (.cells #[.int .i64 0, .int .i64 0] 29) = X := ⟨_, rfl⟩
      have hse := lay_size [(29, #[.int .i64 0, .int .i64 0])] w8
      have hbe := lay_below [(29, #[.int .i64 0, .int .i64 0])] w8
      have hke := fun i t c h => lay_blk [(29, #[.int .i64 0, .int .i64 0])] w8 i t c h
      rw [show lay w8 [(29, #[.int .i64 0, .int .i64 0])] = E1 from hXe] at hse hbe hke
      simp only [List.length_cons, List.length_nil] at hse
      have HXe := Lib.hid hXe
      clear hXe
      have hbE : Below W1.heap.size W1 E1 := hb8.trans (hbe.mono hb8.size)
      have kf : Blk w8 (w1.heap.size) 27 #[.slice A1 n1 c1, .slice A2 n2 c2, .slice A3 n3 c3, .slice A4 n4 c4] := H3.out.2.2.2.1.below hb8 (by omega)
      have kn : Blk w8 (w2.heap.size + 1) 40 #[.slice B1 k1 e1, .slice D2 i d2, .slice B3 k3 e3] := H3.out.2.2.2.2.below hb8 (by omega)
      have HT2 : Hid (Calls Try.prog 12 #[.agg #[.slice A1 n1 c1, .slice A2 n2 c2, .slice A3 n3 c3, .slice A4 n4 c4], .agg #[.slice B1 k1 e1, .slice D2 i d2, .slice B3 k3 e3]] E1 fun e w' => e = .returned (.tuple #[.bool (formH F M), .agg #[.int .i64 0, .int .i64 0]]) ∧ Below E1.heap.size E1 w') := (holds_any A1 A2 A3 A4 n1 c1 n2 c2 n3 c3 n4 c4 B1 D2 B3 k1 e1 i d2 k3 e3 F (nameM M (nameG P)) E1 (H3.out.2.1.below hbE hbE.size) (H3.out.2.2.1.below hbE hbE.size) HL.out.1).mono fun e w' h => ⟨by rw [h.1, HNM.out.1.holds_ok (HK.out.zero (by omega)), HNM.out.2], h.2⟩
      have HBE := Lib.hid (And.intro (H3.out.1.trans (hbE.mono H3.out.1.size)) (hke 0 _ _ rfl : Blk E1 w8.heap.size 29 #[.int .i64 0, .int .i64 0]))
      have hszE : w8.heap.size + 1 = E1.heap.size := hse.symm
      have g0 : w8.cell? ⟨w1.heap.size, 0, none⟩ = some (.slice A1 n1 c1) := kf.cell 0
      have g1 : w8.cell? ⟨w1.heap.size, 1, none⟩ = some (.slice A2 n2 c2) := kf.cell 1
      have g2 : w8.cell? ⟨w1.heap.size, 2, none⟩ = some (.slice A3 n3 c3) := kf.cell 2
      have g3 : w8.cell? ⟨w1.heap.size, 3, none⟩ = some (.slice A4 n4 c4) := kf.cell 3
      have gz : w1.heap.size < w8.heap.size := kf.lt
      have m0 : w8.cell? ⟨w2.heap.size + 1, 0, none⟩ = some (.slice B1 k1 e1) := kn.cell 0
      have m1 : w8.cell? ⟨w2.heap.size + 1, 1, none⟩ = some (.slice D2 i d2) := kn.cell 1
      have m2 : w8.cell? ⟨w2.heap.size + 1, 2, none⟩ = some (.slice B3 k3 e3) := kn.cell 2
      have mz : w2.heap.size + 1 < w8.heap.size := kn.lt
      clear hse hbe hke hbE kf kn hb8 H3
      go_wp2_with fail
      rw [HXe.out]
      clear HXe g0 g1 g2 g3 gz m0 m1 m2 mz
      refine HT2.out.mono ?_
      rintro e w10 ⟨rfl, hb10⟩
      clear HT2
      have ka : Blk w10 w8.heap.size 29 #[.int .i64 0, .int .i64 0] := HBE.out.2.below hb10 (by omega)
      have d0 : w10.cell? ⟨w8.heap.size, 0, none⟩ = some (.int .i64 0) := ka.cell 0
      have z0 : w8.heap.size < w10.heap.size := ka.lt
      have HW := Lib.hid (HBE.out.1.trans (hb10.mono HBE.out.1.size))
      generalize formH F M = x
      clear ka hb10 HBE HNM
      cases x
      all_goals
        go_wp2_with fail
        refine (formSure_any _).mono ?_
        rintro e w5 ⟨rfl, hb5⟩
        have HB5 := Lib.hid hb5
        clear hb5
        go_wp2_with fail
        go_ret
        exact ⟨rfl, (HW.out.alloc HW.out.size _).trans (HB5.out.mono (by have := HW.out.size; simp; omega))⟩
end Go.Proofs.Ytfkciiiopbanaaa
