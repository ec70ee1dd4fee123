/- Walk: a model that is made of raw numbers. -/
import Derived.Test.YtfkciiiopbanaaaKfCP
import Derived.Test.YtfkciiiopbanaaaLhTW
namespace Go.Proofs.Ytfkciiiopbanaaa
open Go.RowKit

def VFracM : Val FracD := fun _ _ cs x => cs = [.int .i64 x.num, .int .i64 x.den] ∧ I64 x.num ∧ I64 x.den
theorem tells_fracM : Tells VFracM 2 := ⟨fun _ _ _ _ _ _ _ _ h => h, fun _ _ _ _ h => by rw [h.1]; rfl, fun _ _ _ _ h u hu => by rw [h.1] at hu; simp only [List.mem_cons, List.not_mem_nil, or_false] at hu; rcases hu with rfl | rfl <;> rfl⟩
theorem atV_fracM {w : World} {S : Nat → Prop} {b o : Nat} {x : FracD} (h : AtV VFracM w S b o x) : AtFrac w S b o x := by
  obtain ⟨cs, ⟨rfl, h1, h2⟩, hc⟩ := h
  exact ⟨⟨hc 0 _ rfl, h1⟩, hc 1 _ rfl, h2⟩
theorem vfrac_mk {w : World} {S : Nat → Prop} {a d : Int} (h : I64 a) (hd : I64 d) : VFracM w S [.int .i64 a, .int .i64 d] ⟨a, d⟩ := ⟨rfl, h, hd⟩
theorem infoFracM : (Try.prog.info? 60).map (fun i => (i.zero, i.size, i.bytes)) = some (some (.agg #[.int .i64 0, .int .i64 0]), 2, 16) := by kernel_rfl
theorem rowFracsM : RowT Try.prog 38 60 2 16 := rowT_of Try.underlying38 infoFracM rfl (by omega)
/-- a block of three cells that is written whole -/
def trio (w : World) (g : Nat) (a b c : Value) : World := ((w.setCell ⟨g, 0, none⟩ a).setCell ⟨g, 1, none⟩ b).setCell ⟨g, 2, none⟩ c
theorem trio_blk {w : World} {g : Nat} {t : TypeId} {a0 b0 c0 : Value} (h : Blk w g t #[a0, b0, c0]) (a b c : Value) : Blk (trio w g a b c) g t #[a, b, c] := by
  have h1 : Blk (w.setCell ⟨g, 0, none⟩ a) g t #[a, b0, c0] := h.set_ 0 a
  have h2 : Blk ((w.setCell ⟨g, 0, none⟩ a).setCell ⟨g, 1, none⟩ b) g t #[a, b, c0] := h1.set_ 1 b
  exact h2.set_ 2 c
theorem trio_only (w : World) (g : Nat) (a b c : Value) : w.grownBy (trio w g a b c) (some g) := one_only (one_only (one_only (only_refl _ _) 0 a) 1 b) 2 c
theorem bools_getM {w : World} {B : Nat} {A : Option Addr} {n : Nat} {xs : List Bool} (h : ArrB AtBool 1 w B A n xs) {i : Nat} (hi : i < n) :
    ∃ (b off : Nat) (u : Bool), A = some ⟨b, off, none⟩ ∧ b < B ∧ w.cell? ⟨b, off + i, none⟩ = some (.bool u) := by
  obtain ⟨b, off, hx, h1, h2, h3⟩ := h.get hi
  exact ⟨b, off, xs[i], h1, h2, by have h4 : w.cell? ⟨b, off + i * 1, none⟩ = some (.bool xs[i]) := h3; rwa [Nat.mul_one] at h4⟩
def KModelP (F : FormD) (w : World) (e : Ending) (w' : World) : Prop := ∃ (B1 B2 B3 : Option Addr) (k1 e1 k2 e2 k3 e3 : Nat) (M : ModelD), e = .returned (.agg #[.slice B1 k1 e1, .slice B2 k2 e2, .slice B3 k3 e3]) ∧
  ModelB w' w'.heap.size B1 B2 B3 k1 k2 k3 M ∧ KModel F M ∧ (∀ x ∈ M.things, 0 ≤ x ∧ x < 3) ∧ (k1 ≤ e1 ∧ e1 ≤ maxLen) ∧ (k2 ≤ e2 ∧ e2 ≤ maxLen) ∧ (k3 ≤ e3 ∧ e3 ≤ maxLen) ∧ Below w.heap.size w w'

set_option maxRecDepth 100000 in
set_option maxHeartbeats 8000000 in
theorem modelOf_any (A1 A2 A3 A4 : Option Addr) (n1 c1 n2 c2 n3 c3 n4 c4 : Nat) (F : FormD) (A : Option Addr) (n c : Nat) (xs : List Int) (w : World) (hF : FormB w w.heap.size A1 A2 A3 A4 n1 n2 n3 n4 F) (hxs : ArrB AtInt 1 w w.heap.size A n xs) (hn : n ≤ 9223372036854775807) (hn1 : n1 ≤ 100) (hn2 : n2 ≤ 100) (hn3 : n3 ≤ 100) :
    Calls Try.prog 10 #[.agg #[.slice A1 n1 c1, .slice A2 n2 c2, .slice A3 n3 c3, .slice A4 n4 c4], .slice A n c] w (KModelP F w) := by
  have HAT := Lib.hid (fun (W : World) (i : Int) (hb : Below w.heap.size w W) (hi : 0 ≤ i) => at_int A n c xs i W (hxs.below stays_int hb hb.size) hn hi)
  have HF := Lib.hid hF
  have HLF := Lib.hid (And.intro hF.terms.len (And.intro hF.ints.len hF.atoms.len))
  clear hxs hF
  obtain ⟨hb0, hkf, hkr, hkm, hs0⟩ := three_boxes w 27 40 40 #[.slice A1 n1 c1, .slice A2 n2 c2, .slice A3 n3 c3, .slice A4 n4 c4] #[.slice none 0 0, .slice none 0 0, .slice none 0 0] #[.slice none 0 0, .slice none 0 0, .slice none 0 0]
  obtain ⟨X0, hX0⟩ : ∃ X, ((w.alloc (.cells #[.slice A1 n1 c1, .slice A2 n2 c2, .slice A3 n3 c3, .slice A4 n4 c4] 27)).alloc (.cells #[.slice none 0 0, .slice none 0 0, .slice none 0 0] 40)).alloc (.cells #[.slice none 0 0, .slice none 0 0, .slice none 0 0] 40) = X := ⟨_, rfl⟩
  rw [hX0] at hb0 hkf hkr hkm hs0
  have HX0 := Lib.hid hX0
  have H0 := Lib.hid (And.intro hb0 (And.intro hkf (And.intro hkr hkm)))
  have hs0' : w.heap.size + 3 = X0.heap.size := hs0.symm
  clear hX0 hb0 hkf hkr hkm hs0
  go_enter Try.func10, Try.ntmps10
  go_upto_region 2 with fail
  rw [HX0.out]
  clear HX0
  go_wp2_with fail
  go_loopw [6] (fun s6 wr => ∃ (i : Nat) (v1 : Value) (ts : List Int), s6 = .int .i64 (i : Int) ∧ i ≤ n1 ∧ Hid (ts.length = i ∧ (∀ x ∈ ts, 0 ≤ x ∧ x < 3) ∧ Blk wr (w.heap.size + 1 + 1) 40 #[.slice none 0 0, v1, .slice none 0 0] ∧ Out VInt 3 1 X0 wr (w.heap.size + 1 + 1) v1 ts)) (fun s6 _ => n1 - (intOf s6).toNat)
  case atStart => exact ⟨0, .slice none 0 0, [], rfl, Nat.zero_le _, rfl, fun x h => by simp at h, H0.out.2.2.2, Out.start VInt 3 1 X0 H0.out.2.2.2.lt⟩
  case round =>
    obtain ⟨i, v1, ts, rfl, hi, HR⟩ := hrel
    have hGw : (w.heap.size + 1 + 1) < wr.heap.size := HR.out.2.2.1.lt
    have HB : Hid (Below w.heap.size w wr) := below_then H0.out.1 HR.out.2.2.2.only (by omega) (fun x hx => by injection hx; omega)
    have f0 : wr.cell? ⟨w.heap.size, 0, none⟩ = some (.slice A1 n1 c1) := (H0.out.2.1.grown HR.out.2.2.2.only (by simp; omega)).cell 0
    by_cases hlt : i < n1
    · have hiI : (i : Int) < (n1 : Int) := by omega
      have q1 : wr.cell? ⟨(w.heap.size + 1 + 1), 1, none⟩ = some v1 := HR.out.2.2.1.cell 1
      have HL := Lib.hid HR.out.1
      go_wp2_with fail
      go_region_law (first
        | (refine step_append_item (by rfl) _ _ _ (by rfl) rowInts tells_int (v := v1) (xs := ts) (base := X0.heap.size) (S := SO X0.heap.size (w3.alloc (.cells #[.int .i64 p] 3)) v1) (by rfl) (.inl HOY.out.own) (g := w3.heap.size) (cs := #[.int .i64 p]) (by rfl) HBN.out (y := p) (show _ = _ ∧ I64 p from ⟨rfl, by have := HP.out; unfold I64; omega⟩) (fun b h => ⟨h.2.1, h.2.2⟩) (by unfold maxLen; omega) (by omega) hW0 ?_
           intro g' cap w6 hown6 hgrow6 hat6 hlt6
           have hgb6 : Blk w6 (w.heap.size + 1 + 1) 40 #[.slice none 0 0, v1, .slice none 0 0] := HGY.out.grown hgrow6 (fun e => by have := (HLT.out (w.heap.size + 1 + 1) e.symm).1; have := HGW.out; omega)
           have q6 : w6.cell? ⟨(w.heap.size + 1 + 1), 1, none⟩ = some v1 := hgb6.cell 1
           have z6 : w6.frozen? ⟨(w.heap.size + 1 + 1), 1, none⟩ = false := hgb6.frozen 1
           have HB6 := Lib.hid (And.intro hgb6 (And.intro hown6 (And.intro hgrow6 hat6)))
           clear hgb6 hown6 hgrow6 hat6)
        | (go_simp
           go_at_call 22
           refine (HAT.out _ (i : Int) HB.out.drew (by omega)).mono ?_
           rintro e w9 ⟨y, rfl, hw9, hy⟩
           subst hw9)
        | (go_simp
           go_at_call 14
           refine (picked_in y 3 _ hy (by omega) (by omega)).mono ?_
           rintro e w3 ⟨p, rfl, hw3, p0, p1⟩
           have hbX : Below wr.heap.size wr w3 := hw3 ▸ (Below.refl wr.heap.size wr).drew
           have HPX : Hid (Out VInt 3 1 X0 w3 (w.heap.size + 1 + 1) v1 ts ∧ Blk w3 (w.heap.size + 1 + 1) 40 #[.slice none 0 0, v1, .slice none 0 0]) := ⟨HR.out.2.2.2.step tells_int hbX, HR.out.2.2.1.below hbX hGw⟩
           have HP := Lib.hid (And.intro p0 p1)
           clear hbX hw3
           have hbY : Below w3.heap.size w3 (w3.alloc (.cells #[.int .i64 p] 3)) := (Below.refl _ _).alloc (Nat.le_refl _) _
           have HOY := Lib.hid (HPX.out.1.step tells_int hbY)
           have hlt := HPX.out.1.own.lt
           have HBN := Lib.hid (Blk.new w3 3 #[.int .i64 p])
           have HGY : Hid (Blk (w3.alloc (.cells #[.int .i64 p] 3)) (w.heap.size + 1 + 1) 40 #[.slice none 0 0, v1, .slice none 0 0]) := HPX.out.2.below hbY HPX.out.2.lt
           have qx : w3.cell? ⟨(w.heap.size + 1 + 1), 1, none⟩ = some v1 := HPX.out.2.cell 1
           have zX : (w.heap.size + 1 + 1) < w3.heap.size := HPX.out.2.lt
           have HLT := Lib.hid hlt
           have hlx : ts.length ≤ 100 := by have := HL.out; omega
           have hW0 : X0.heap.size ≤ (w3.alloc (.cells #[.int .i64 p] 3)).heap.size := Nat.le_trans HPX.out.1.only.size hbY.size
           have HGW : Hid ((w.heap.size + 1 + 1) < X0.heap.size) := HPX.out.1.lt
           clear hbY hlt)
        | fail)
      all_goals
        go_wp2_with fail
        go_roundw
        case rel =>
          obtain ⟨hgb6, hown6, hgrow6, hat6⟩ := HB6.out
          exact ⟨i + 1, _, ts ++ [p], by go_num, by omega, by simp [HR.out.1], fun x hx => by
            rcases List.mem_append.1 hx with hx | hx
            · exact HR.out.2.1 x hx
            · rw [List.mem_singleton.1 hx]; exact HP.out, hgb6.set_ 1 _, Out.push tells_int HOY.out hown6 hgrow6 (hat6.elim (fun h => .inl h.symm) (fun h => .inr (congrArg some h))) 1 _⟩
        case measure => simp [intOf]; omega
    · obtain rfl : i = n1 := by omega
      obtain ⟨D2, d2, rfl, hd2, hd2m, hT2⟩ := HR.out.2.2.2.done tells_int (E := AtInt) (fun _ _ _ _ _ h => atV_int.1 h)
      obtain ⟨W1, rfl⟩ : ∃ W1 : World, W1 = wr := ⟨_, rfl⟩
      have HW : Hid ((∀ x ∈ ts, 0 ≤ x ∧ x < 3) ∧ Blk W1 (w.heap.size + 1 + 1) 40 #[.slice none 0 0, .slice D2 i d2, .slice none 0 0] ∧ X0.grownBy W1 (some (w.heap.size + 1 + 1)) ∧ Arr AtInt 1 W1 (fun b => X0.heap.size ≤ b ∧ b < W1.heap.size) D2 i ts ∧ i ≤ d2 ∧ d2 ≤ maxLen ∧ X0.heap.size ≤ W1.heap.size) := by
        have e := HR.out.1
        have h3 := HR.out.2.2.1
        rw [e] at hT2 h3 hd2
        exact ⟨HR.out.2.1, h3, HR.out.2.2.2.only, hT2, hd2, hd2m, HR.out.2.2.2.only.size⟩
      have hiI : ¬ (i : Int) < (i : Int) := by omega
      have HL1 := Lib.hid HR.out.1
      clear HR hd2 hd2m hT2 hi hlt
      go_wp2_with fail
      obtain ⟨N1, rfl⟩ : ∃ N1 : Nat, N1 = i := ⟨_, rfl⟩
      clear hiI f0
      go_loopw [7] (fun s7 wr => ∃ (i : Nat) (v3 : Value) (ys : List FracD), s7 = .int .i64 (i : Int) ∧ i ≤ n2 ∧ Hid (ys.length = i ∧ (∀ y ∈ ys, fracGood y.num y.den = true) ∧ Blk wr (w.heap.size + 1 + 1) 40 #[.slice none 0 0, .slice D2 N1 d2, v3] ∧ Out VFracM 60 2 W1 wr (w.heap.size + 1 + 1) v3 ys)) (fun s7 _ => n2 - (intOf s7).toNat)
      case atStart => exact ⟨0, .slice none 0 0, [], rfl, Nat.zero_le _, rfl, fun x h => by simp at h, HW.out.2.1, Out.start VFracM 60 2 W1 HW.out.2.1.lt⟩
      case round =>
        obtain ⟨B0, hB0⟩ : ∃ B0 : Hid (Below w.heap.size w W1), B0 = HB := ⟨_, rfl⟩
        clear hB0 HB hGw
        obtain ⟨i, v3, ys, rfl, hi, HR⟩ := hrel
        have hGw : (w.heap.size + 1 + 1) < wr.heap.size := HR.out.2.2.1.lt
        have HB : Hid (Below w.heap.size w wr) := below_then B0.out HR.out.2.2.2.only B0.out.size (fun x hx => by injection hx; omega)
        have HKF : Hid (Blk wr w.heap.size 27 #[.slice A1 N1 c1, .slice A2 n2 c2, .slice A3 n3 c3, .slice A4 n4 c4]) := (H0.out.2.1.grown HW.out.2.2.1 (by simp; omega)).grown HR.out.2.2.2.only (by simp; omega)
        have f1 : wr.cell? ⟨w.heap.size, 1, none⟩ = some (.slice A2 n2 c2) := HKF.out.cell 1
        by_cases hlt : i < n2
        · have hiI : (i : Int) < (n2 : Int) := by omega
          have hi0 : (0 : Int) ≤ (i : Int) := by omega
          obtain ⟨bx, ox, u, hA2, hbx, hcx⟩ := bools_getM (HF.out.ints.below stays_bool HB.out HB.out.size) hlt
          subst hA2
          have HL := Lib.hid HR.out.1
          go_wp2_with fail
          refine (HAT.out _ (20 + (i : Int)) HB.out (by omega)).mono ?_
          rintro e w9 ⟨y, rfl, hw9, hy⟩
          subst hw9
          go_wp2_with fail
          refine (picked_in y 9 _ hy (by omega) (by omega)).mono ?_
          rintro e w9 ⟨p, rfl, hw9, p0, p1⟩
          subst hw9
          have hb1 : Below wr.heap.size wr (wr.alloc (.cells #[.int .i64 (p - 4), .int .i64 1] 60)) := (Below.refl _ _).alloc (Nat.le_refl _) _
          have hk1 := Blk.new wr 60 #[.int .i64 (p - 4), .int .i64 1]
          obtain ⟨X1, hX1⟩ : ∃ X, wr.alloc (.cells #[.int .i64 (p - 4), .int .i64 1] 60) = X := ⟨_, rfl⟩
          rw [hX1] at hb1 hk1
          have HX1 := Lib.hid hX1
          have H1 := Lib.hid (And.intro hb1 hk1)
          have f2 : X1.cell? ⟨w.heap.size, 1, none⟩ = some (.slice (some ⟨bx, ox, none⟩) n2 c2) := (hb1.cell (p := ⟨w.heap.size, 1, none⟩) HKF.out.lt).trans f1
          have hcx2 : X1.cell? ⟨bx, ox + i, none⟩ = some (.bool u) := (hb1.cell (p := ⟨bx, ox + i, none⟩) hbx).trans hcx
          have HV : Hid (fracGood (p - 4) 1 = true ∧ I64 (p - 4)) := ⟨whole_good (by omega), by unfold I64; omega⟩
          clear hX1 hb1 hk1
          go_upto_region 11 with fail
          rw [HX1.out]
          clear HX1 f1 hcx
          cases u
          · go_wp2_with fail
            refine (picked_in (wrap64 (y.tdiv 9)) 3 _ (wrap_i64 _) (by omega) (by omega)).mono ?_
            rintro e w9 ⟨z, rfl, hw9, z0, z1⟩
            subst hw9
            by_cases hz : z = 0
            · have hzb : (z == 0) = true := by rw [hz]; rfl
              go_wp2_with fail
              refine (picked_in (wrap64 (y.tdiv 27)) 6 _ (wrap_i64 _) (by omega) (by omega)).mono ?_
              rintro e w9 ⟨r, rfl, hw9, r0, r1⟩
              subst hw9
              have HV2 : Hid (fracGood (2 * r - 5) 2 = true ∧ I64 (2 * r - 5)) := ⟨half_good (by omega), by unfold I64; omega⟩
              clear HV
              have HV := HV2
              clear HV2
              obtain ⟨X2, hX2⟩ : ∃ X, (X1.setCell ⟨wr.heap.size, 0, none⟩ (.int .i64 (2 * r - 5))).setCell ⟨wr.heap.size, 1, none⟩ (.int .i64 2) = X := ⟨_, rfl⟩
              have HX2 := Lib.hid hX2
              have m0 : X1.cell? ⟨wr.heap.size, 0, none⟩ = some (.int .i64 (p - 4)) := H1.out.2.cell 0
              have m1 : X1.cell? ⟨wr.heap.size, 1, none⟩ = some (.int .i64 1) := H1.out.2.cell 1
              have y0 : X1.frozen? ⟨wr.heap.size, 0, none⟩ = false := H1.out.2.frozen 0
              have y1 : X1.frozen? ⟨wr.heap.size, 1, none⟩ = false := H1.out.2.frozen 1
              have zk := H1.out.2.lt
              clear hX2
              go_upto_region 13 with fail
              rw [HX2.out]
              have hb2 : Below wr.heap.size wr X2 := by
                rw [← HX2.out]
                exact (H1.out.1.setCell (p := ⟨wr.heap.size, 0, none⟩) (Nat.le_refl _) _).setCell (p := ⟨wr.heap.size, 1, none⟩) (Nat.le_refl _) _
              have hk2 : Blk X2 wr.heap.size 60 #[.int .i64 (2 * r - 5), .int .i64 2] := by
                rw [← HX2.out]
                exact (H1.out.2.set_ 0 _).set_ 1 _
              have HPX : Hid (Out VFracM 60 2 W1 X2 (w.heap.size + 1 + 1) v3 ys ∧ Blk X2 (w.heap.size + 1 + 1) 40 #[.slice none 0 0, .slice D2 N1 d2, v3]) := ⟨HR.out.2.2.2.step tells_fracM hb2, HR.out.2.2.1.below hb2 hGw⟩
              have HK2 := Lib.hid hk2
              clear HX2 hb2 hk2 m0 m1 y0 y1 zk f2 hcx2
              have m0 : X2.cell? ⟨wr.heap.size, 0, none⟩ = some (.int .i64 (2 * r - 5)) := HK2.out.cell 0
              have m1 : X2.cell? ⟨wr.heap.size, 1, none⟩ = some (.int .i64 2) := HK2.out.cell 1
              have zk : wr.heap.size < X2.heap.size := HK2.out.lt
              have hbY : Below X2.heap.size X2 (X2.alloc (.cells #[.int .i64 (2 * r - 5), .int .i64 2] 60)) := (Below.refl _ _).alloc (Nat.le_refl _) _
              have HOY := Lib.hid (HPX.out.1.step tells_fracM hbY)
              have hlt := HPX.out.1.own.lt
              have HBN := Lib.hid (Blk.new X2 60 #[.int .i64 (2 * r - 5), .int .i64 2])
              have HGY : Hid (Blk (X2.alloc (.cells #[.int .i64 (2 * r - 5), .int .i64 2] 60)) (w.heap.size + 1 + 1) 40 #[.slice none 0 0, .slice D2 N1 d2, v3]) := HPX.out.2.below hbY HPX.out.2.lt
              have qx : X2.cell? ⟨(w.heap.size + 1 + 1), 2, none⟩ = some v3 := HPX.out.2.cell 2
              have zX : (w.heap.size + 1 + 1) < X2.heap.size := HPX.out.2.lt
              have HLT := Lib.hid hlt
              have hlx : ys.length ≤ 100 := by have := HL.out; omega
              have hW0 : W1.heap.size ≤ (X2.alloc (.cells #[.int .i64 (2 * r - 5), .int .i64 2] 60)).heap.size := Nat.le_trans HPX.out.1.only.size hbY.size
              have HGW : Hid ((w.heap.size + 1 + 1) < W1.heap.size) := HPX.out.1.lt
              clear hbY hlt
              go_wp2_with (at_builtin; refine wpList_append_item rfl _ _ _ rfl rowFracsM tells_fracM (v := v3) (xs := ys) (base := W1.heap.size) (S := SO W1.heap.size (X2.alloc (.cells #[.int .i64 (2 * r - 5), .int .i64 2] 60)) v3) rfl HOY.out.own (g := X2.heap.size) (cs := #[.int .i64 (2 * r - 5), .int .i64 2]) rfl HBN.out (y := ⟨2 * r - 5, 2⟩) (vfrac_mk (a := 2 * r - 5) (d := 2) HV.out.2 (by unfold I64; omega)) (fun b h => ⟨h.2.1, h.2.2⟩) (by unfold maxLen; omega) (by omega) hW0 ?_; intro v' w6 hown6 hgrow6 hat6; obtain ⟨A6, c6, rfl, hc6, hc6m⟩ := hown6.len; (have hl6 : (ys ++ [(⟨2 * r - 5, 2⟩ : FracD)]).length = i + 1 := by rw [List.length_append, HL.out]; rfl); rw [hl6] at hown6 hat6 hc6 ⊢; (have hgb6 : Blk w6 (w.heap.size + 1 + 1) 40 #[.slice none 0 0, .slice D2 N1 d2, v3] := HGY.out.grown hgrow6 (fun e => by have := (HLT.out (w.heap.size + 1 + 1) e.symm).1; have := HGW.out; omega)); (have q6 : w6.cell? ⟨(w.heap.size + 1 + 1), 2, none⟩ = some v3 := hgb6.cell 2); (have z6 : w6.frozen? ⟨(w.heap.size + 1 + 1), 2, none⟩ = false := hgb6.frozen 2); (have zG6 : (w.heap.size + 1 + 1) < w6.heap.size := hgb6.lt); have HB6 := Lib.hid (And.intro hgb6 (And.intro hown6 (And.intro hgrow6 hat6))); clear hgb6 hown6 hgrow6 hat6 hl6)
              go_roundw
              case rel =>
                obtain ⟨hgb6, hown6, hgrow6, hat6⟩ := HB6.out
                exact ⟨i + 1, _, ys ++ [⟨2 * r - 5, 2⟩], by go_num, by omega, by simp [HR.out.1], fun x hx => by
                  rcases List.mem_append.1 hx with hx | hx
                  · exact HR.out.2.1 x hx
                  · rw [List.mem_singleton.1 hx]; exact HV.out.1, hgb6.set_ 2 _, Out.push tells_fracM HOY.out hown6 hgrow6 hat6 2 _⟩
              case measure => simp [intOf]; omega
            · have hzb : (z == 0) = false := beq_eq_false_iff_ne.2 hz
              go_upto_region 13 with fail
              have HPX : Hid (Out VFracM 60 2 W1 X1 (w.heap.size + 1 + 1) v3 ys ∧ Blk X1 (w.heap.size + 1 + 1) 40 #[.slice none 0 0, .slice D2 N1 d2, v3]) := ⟨HR.out.2.2.2.step tells_fracM H1.out.1, HR.out.2.2.1.below H1.out.1 hGw⟩
              clear f2 hcx2
              have m0 : X1.cell? ⟨wr.heap.size, 0, none⟩ = some (.int .i64 (p - 4)) := H1.out.2.cell 0
              have m1 : X1.cell? ⟨wr.heap.size, 1, none⟩ = some (.int .i64 1) := H1.out.2.cell 1
              have zk : wr.heap.size < X1.heap.size := H1.out.2.lt
              have hbY : Below X1.heap.size X1 (X1.alloc (.cells #[.int .i64 (p - 4), .int .i64 1] 60)) := (Below.refl _ _).alloc (Nat.le_refl _) _
              have HOY := Lib.hid (HPX.out.1.step tells_fracM hbY)
              have hlt := HPX.out.1.own.lt
              have HBN := Lib.hid (Blk.new X1 60 #[.int .i64 (p - 4), .int .i64 1])
              have HGY : Hid (Blk (X1.alloc (.cells #[.int .i64 (p - 4), .int .i64 1] 60)) (w.heap.size + 1 + 1) 40 #[.slice none 0 0, .slice D2 N1 d2, v3]) := HPX.out.2.below hbY HPX.out.2.lt
              have qx : X1.cell? ⟨(w.heap.size + 1 + 1), 2, none⟩ = some v3 := HPX.out.2.cell 2
              have zX : (w.heap.size + 1 + 1) < X1.heap.size := HPX.out.2.lt
              have HLT := Lib.hid hlt
              have hlx : ys.length ≤ 100 := by have := HL.out; omega
              have hW0 : W1.heap.size ≤ (X1.alloc (.cells #[.int .i64 (p - 4), .int .i64 1] 60)).heap.size := Nat.le_trans HPX.out.1.only.size hbY.size
              have HGW : Hid ((w.heap.size + 1 + 1) < W1.heap.size) := HPX.out.1.lt
              clear hbY hlt
              go_wp2_with (at_builtin; refine wpList_append_item rfl _ _ _ rfl rowFracsM tells_fracM (v := v3) (xs := ys) (base := W1.heap.size) (S := SO W1.heap.size (X1.alloc (.cells #[.int .i64 (p - 4), .int .i64 1] 60)) v3) rfl HOY.out.own (g := X1.heap.size) (cs := #[.int .i64 (p - 4), .int .i64 1]) rfl HBN.out (y := ⟨p - 4, 1⟩) (vfrac_mk (a := p - 4) (d := 1) HV.out.2 (by unfold I64; omega)) (fun b h => ⟨h.2.1, h.2.2⟩) (by unfold maxLen; omega) (by omega) hW0 ?_; intro v' w6 hown6 hgrow6 hat6; obtain ⟨A6, c6, rfl, hc6, hc6m⟩ := hown6.len; (have hl6 : (ys ++ [(⟨p - 4, 1⟩ : FracD)]).length = i + 1 := by rw [List.length_append, HL.out]; rfl); rw [hl6] at hown6 hat6 hc6 ⊢; (have hgb6 : Blk w6 (w.heap.size + 1 + 1) 40 #[.slice none 0 0, .slice D2 N1 d2, v3] := HGY.out.grown hgrow6 (fun e => by have := (HLT.out (w.heap.size + 1 + 1) e.symm).1; have := HGW.out; omega)); (have q6 : w6.cell? ⟨(w.heap.size + 1 + 1), 2, none⟩ = some v3 := hgb6.cell 2); (have z6 : w6.frozen? ⟨(w.heap.size + 1 + 1), 2, none⟩ = false := hgb6.frozen 2); (have zG6 : (w.heap.size + 1 + 1) < w6.heap.size := hgb6.lt); have HB6 := Lib.hid (And.intro hgb6 (And.intro hown6 (And.intro hgrow6 hat6))); clear hgb6 hown6 hgrow6 hat6 hl6)
              go_roundw
              case rel =>
                obtain ⟨hgb6, hown6, hgrow6, hat6⟩ := HB6.out
                exact ⟨i + 1, _, ys ++ [⟨p - 4, 1⟩], by go_num, by omega, by simp [HR.out.1], fun x hx => by
                  rcases List.mem_append.1 hx with hx | hx
                  · exact HR.out.2.1 x hx
                  · rw [List.mem_singleton.1 hx]; exact HV.out.1, hgb6.set_ 2 _, Out.push tells_fracM HOY.out hown6 hgrow6 hat6 2 _⟩
              case measure => simp [intOf]; omega
          · go_upto_region 13 with fail
            have HPX : Hid (Out VFracM 60 2 W1 X1 (w.heap.size + 1 + 1) v3 ys ∧ Blk X1 (w.heap.size + 1 + 1) 40 #[.slice none 0 0, .slice D2 N1 d2, v3]) := ⟨HR.out.2.2.2.step tells_fracM H1.out.1, HR.out.2.2.1.below H1.out.1 hGw⟩
            clear f2 hcx2
            have m0 : X1.cell? ⟨wr.heap.size, 0, none⟩ = some (.int .i64 (p - 4)) := H1.out.2.cell 0
            have m1 : X1.cell? ⟨wr.heap.size, 1, none⟩ = some (.int .i64 1) := H1.out.2.cell 1
            have zk : wr.heap.size < X1.heap.size := H1.out.2.lt
            have hbY : Below X1.heap.size X1 (X1.alloc (.cells #[.int .i64 (p - 4), .int .i64 1] 60)) := (Below.refl _ _).alloc (Nat.le_refl _) _
            have HOY := Lib.hid (HPX.out.1.step tells_fracM hbY)
            have hlt := HPX.out.1.own.lt
            have HBN := Lib.hid (Blk.new X1 60 #[.int .i64 (p - 4), .int .i64 1])
            have HGY : Hid (Blk (X1.alloc (.cells #[.int .i64 (p - 4), .int .i64 1] 60)) (w.heap.size + 1 + 1) 40 #[.slice none 0 0, .slice D2 N1 d2, v3]) := HPX.out.2.below hbY HPX.out.2.lt
            have qx : X1.cell? ⟨(w.heap.size + 1 + 1), 2, none⟩ = some v3 := HPX.out.2.cell 2
            have zX : (w.heap.size + 1 + 1) < X1.heap.size := HPX.out.2.lt
            have HLT := Lib.hid hlt
            have hlx : ys.length ≤ 100 := by have := HL.out; omega
            have hW0 : W1.heap.size ≤ (X1.alloc (.cells #[.int .i64 (p - 4), .int .i64 1] 60)).heap.size := Nat.le_trans HPX.out.1.only.size hbY.size
            have HGW : Hid ((w.heap.size + 1 + 1) < W1.heap.size) := HPX.out.1.lt
            clear hbY hlt
            go_wp2_with (at_builtin; refine wpList_append_item rfl _ _ _ rfl rowFracsM tells_fracM (v := v3) (xs := ys) (base := W1.heap.size) (S := SO W1.heap.size (X1.alloc (.cells #[.int .i64 (p - 4), .int .i64 1] 60)) v3) rfl HOY.out.own (g := X1.heap.size) (cs := #[.int .i64 (p - 4), .int .i64 1]) rfl HBN.out (y := ⟨p - 4, 1⟩) (vfrac_mk (a := p - 4) (d := 1) HV.out.2 (by unfold I64; omega)) (fun b h => ⟨h.2.1, h.2.2⟩) (by unfold maxLen; omega) (by omega) hW0 ?_; intro v' w6 hown6 hgrow6 hat6; obtain ⟨A6, c6, rfl, hc6, hc6m⟩ := hown6.len; (have hl6 : (ys ++ [(⟨p - 4, 1⟩ : FracD)]).length = i + 1 := by rw [List.length_append, HL.out]; rfl); rw [hl6] at hown6 hat6 hc6 ⊢; (have hgb6 : Blk w6 (w.heap.size + 1 + 1) 40 #[.slice none 0 0, .slice D2 N1 d2, v3] := HGY.out.grown hgrow6 (fun e => by have := (HLT.out (w.heap.size + 1 + 1) e.symm).1; have := HGW.out; omega)); (have q6 : w6.cell? ⟨(w.heap.size + 1 + 1), 2, none⟩ = some v3 := hgb6.cell 2); (have z6 : w6.frozen? ⟨(w.heap.size + 1 + 1), 2, none⟩ = false := hgb6.frozen 2); (have zG6 : (w.heap.size + 1 + 1) < w6.heap.size := hgb6.lt); have HB6 := Lib.hid (And.intro hgb6 (And.intro hown6 (And.intro hgrow6 hat6))); clear hgb6 hown6 hgrow6 hat6 hl6)
            go_roundw
            case rel =>
              obtain ⟨hgb6, hown6, hgrow6, hat6⟩ := HB6.out
              exact ⟨i + 1, _, ys ++ [⟨p - 4, 1⟩], by go_num, by omega, by simp [HR.out.1], fun x hx => by
                rcases List.mem_append.1 hx with hx | hx
                · exact HR.out.2.1 x hx
                · rw [List.mem_singleton.1 hx]; exact HV.out.1, hgb6.set_ 2 _, Out.push tells_fracM HOY.out hown6 hgrow6 hat6 2 _⟩
            case measure => simp [intOf]; omega
        · obtain rfl : i = n2 := by omega
          obtain ⟨D3, d3, rfl, hd3, hd3m, hT3⟩ := HR.out.2.2.2.done tells_fracM (E := AtFrac) (fun _ _ _ _ _ h => atV_fracM h)
          obtain ⟨W2, rfl⟩ : ∃ W2 : World, W2 = wr := ⟨_, rfl⟩
          have HW2 : Hid ((∀ y ∈ ys, fracGood y.num y.den = true) ∧ Blk W2 (w.heap.size + 1 + 1) 40 #[.slice none 0 0, .slice D2 N1 d2, .slice D3 i d3] ∧ W1.grownBy W2 (some (w.heap.size + 1 + 1)) ∧ Arr AtFrac 2 W2 (fun b => W1.heap.size ≤ b ∧ b < W2.heap.size) D3 i ys ∧ i ≤ d3 ∧ d3 ≤ maxLen ∧ W1.heap.size ≤ W2.heap.size) := by
            have e := HR.out.1
            have h3 := HR.out.2.2.1
            rw [e] at hT3 h3 hd3
            exact ⟨HR.out.2.1, h3, HR.out.2.2.2.only, hT3, hd3, hd3m, HR.out.2.2.2.only.size⟩
          have hiI : ¬ (i : Int) < (i : Int) := by omega
          have HL2 := Lib.hid HR.out.1
          clear HR hd3 hd3m hT3 hi hlt
          go_wp2_with fail
          obtain ⟨N2, rfl⟩ : ∃ N2 : Nat, N2 = i := ⟨_, rfl⟩
          clear hiI f1
          go_loopw [10] (fun s10 wr => ∃ (i : Nat) (v2 : Value) (hs : List Bool), s10 = .int .i64 (i : Int) ∧ i ≤ n3 ∧ Hid (hs.length = i ∧ Blk wr (w.heap.size + 1 + 1) 40 #[v2, .slice D2 N1 d2, .slice D3 N2 d3] ∧ Out VBool 4 1 W2 wr (w.heap.size + 1 + 1) v2 hs)) (fun s10 _ => n3 - (intOf s10).toNat)
          case atStart => exact ⟨0, .slice none 0 0, [], rfl, Nat.zero_le _, rfl, HW2.out.2.1, Out.start VBool 4 1 W2 HW2.out.2.1.lt⟩
          case round =>
            obtain ⟨B2, hB2⟩ : ∃ B2 : Hid (Below w.heap.size w W2), B2 = HB := ⟨_, rfl⟩
            clear hB2 HB hGw
            obtain ⟨i, v2, hs, rfl, hi, HR⟩ := hrel
            have hGw : (w.heap.size + 1 + 1) < wr.heap.size := HR.out.2.1.lt
            have HB : Hid (Below w.heap.size w wr) := below_then B2.out HR.out.2.2.only B2.out.size (fun x hx => by injection hx; omega)
            have f2 : wr.cell? ⟨w.heap.size, 2, none⟩ = some (.slice A3 n3 c3) := (HKF.out.grown HR.out.2.2.only (by simp; omega)).cell 2
            by_cases hlt : i < n3
            · have hiI : (i : Int) < (n3 : Int) := by omega
              have hw30 : IntKind.i64.wrap (30 + (i : Int)) = 30 + (i : Int) := by rw [IntKind.wrap_i64]; omega
              have q0 : wr.cell? ⟨(w.heap.size + 1 + 1), 0, none⟩ = some v2 := HR.out.2.1.cell 0
              have HL := Lib.hid HR.out.1
              go_wp2_with fail
              go_region_law (first
                | (refine step_append_item (by rfl) _ _ _ (by rfl) rowBools tells_bool (v := v2) (xs := hs) (base := W2.heap.size) (S := SO W2.heap.size (w3.alloc (.cells #[.bool (p == 0)] 4)) v2) (by rfl) (.inl HOY.out.own) (g := w3.heap.size) (cs := #[.bool (p == 0)]) (by rfl) HBN.out (y := (p == 0)) rfl (fun b h => ⟨h.2.1, h.2.2⟩) (by unfold maxLen; omega) (by omega) hW0 ?_
                   intro g' cap w6 hown6 hgrow6 hat6 hlt6
                   have hgb6 : Blk w6 (w.heap.size + 1 + 1) 40 #[v2, .slice D2 N1 d2, .slice D3 N2 d3] := HGY.out.grown hgrow6 (fun e => by have := (HLT.out (w.heap.size + 1 + 1) e.symm).1; have := HGW.out; omega)
                   have q6 : w6.cell? ⟨(w.heap.size + 1 + 1), 0, none⟩ = some v2 := hgb6.cell 0
                   have z6 : w6.frozen? ⟨(w.heap.size + 1 + 1), 0, none⟩ = false := hgb6.frozen 0
                   have HB6 := Lib.hid (And.intro hgb6 (And.intro hown6 (And.intro hgrow6 hat6)))
                   clear hgb6 hown6 hgrow6 hat6)
                | (go_simp
                   go_at_call 22
                   refine (HAT.out _ (30 + (i : Int)) HB.out.drew (by omega)).mono ?_
                   rintro e w9 ⟨y, rfl, hw9, hy⟩
                   subst hw9)
                | (go_simp
                   go_at_call 14
                   refine (picked_in y 2 _ hy (by omega) (by omega)).mono ?_
                   rintro e w3 ⟨p, rfl, hw3, p0, p1⟩
                   have hbX : Below wr.heap.size wr w3 := hw3 ▸ (Below.refl wr.heap.size wr).drew
                   have HPX : Hid (Out VBool 4 1 W2 w3 (w.heap.size + 1 + 1) v2 hs ∧ Blk w3 (w.heap.size + 1 + 1) 40 #[v2, .slice D2 N1 d2, .slice D3 N2 d3]) := ⟨HR.out.2.2.step tells_bool hbX, HR.out.2.1.below hbX hGw⟩
                   clear hbX hw3
                   have hbY : Below w3.heap.size w3 (w3.alloc (.cells #[.bool (p == 0)] 4)) := (Below.refl _ _).alloc (Nat.le_refl _) _
                   have HOY := Lib.hid (HPX.out.1.step tells_bool hbY)
                   have hlt := HPX.out.1.own.lt
                   have HBN := Lib.hid (Blk.new w3 4 #[.bool (p == 0)])
                   have HGY : Hid (Blk (w3.alloc (.cells #[.bool (p == 0)] 4)) (w.heap.size + 1 + 1) 40 #[v2, .slice D2 N1 d2, .slice D3 N2 d3]) := HPX.out.2.below hbY HPX.out.2.lt
                   have qx : w3.cell? ⟨(w.heap.size + 1 + 1), 0, none⟩ = some v2 := HPX.out.2.cell 0
                   have zX : (w.heap.size + 1 + 1) < w3.heap.size := HPX.out.2.lt
                   have HLT := Lib.hid hlt
                   have hlx : hs.length ≤ 100 := by have := HL.out; omega
                   have hW0 : W2.heap.size ≤ (w3.alloc (.cells #[.bool (p == 0)] 4)).heap.size := Nat.le_trans HPX.out.1.only.size hbY.size
                   have HGW : Hid ((w.heap.size + 1 + 1) < W2.heap.size) := HPX.out.1.lt
                   clear hbY hlt)
                | fail)
              all_goals
                go_wp2_with fail
                go_roundw
                case rel =>
                  obtain ⟨hgb6, hown6, hgrow6, hat6⟩ := HB6.out
                  exact ⟨i + 1, _, hs ++ [(p == 0)], by go_num, by omega, by simp [HR.out.1], hgb6.set_ 0 _, Out.push tells_bool HOY.out hown6 hgrow6 (hat6.elim (fun h => .inl h.symm) (fun h => .inr (congrArg some h))) 0 _⟩
                case measure => simp [intOf]; omega
            · obtain rfl : i = n3 := by omega
              obtain ⟨D1, d1, rfl, hd1, hd1m, hT1⟩ := HR.out.2.2.done tells_bool (E := AtBool) (fun _ _ _ _ _ h => atV_bool.1 h)
              obtain ⟨W3, rfl⟩ : ∃ W3 : World, W3 = wr := ⟨_, rfl⟩
              have hiI : ¬ (i : Int) < (i : Int) := by omega
              have HF3 : Hid (KModelP F w (.returned (.agg #[.slice D1 i d1, .slice D2 N1 d2, .slice D3 N2 d3])) (trio W3 (w.heap.size + 1) (.slice D1 i d1) (.slice D2 N1 d2) (.slice D3 N2 d3)) ∧ Blk (trio W3 (w.heap.size + 1) (.slice D1 i d1) (.slice D2 N1 d2) (.slice D3 N2 d3)) (w.heap.size + 1) 40 #[.slice D1 i d1, .slice D2 N1 d2, .slice D3 N2 d3]) := by
                have e := HR.out.1
                rw [e] at hT1 hd1
                have o1 := HW.out.2.2.1
                have o2 := HW2.out.2.2.1
                have o3 := HR.out.2.2.only
                have o4 := trio_only W3 (w.heap.size + 1) (.slice D1 i d1) (.slice D2 N1 d2) (.slice D3 N2 d3)
                have z1 := o1.size
                have z2 := o2.size
                have z3 := o3.size
                have z4 := o4.size
                have hk4 := trio_blk (((H0.out.2.2.1.grown o1 (by simp)).grown o2 (by simp)).grown o3 (by simp)) (.slice D1 i d1) (.slice D2 N1 d2) (.slice D3 N2 d3)
                have t1 := hT1.keep stays_bool (S' := fun b => b < (trio W3 (w.heap.size + 1) (.slice D1 i d1) (.slice D2 N1 d2) (.slice D3 N2 d3)).heap.size) (w' := trio W3 (w.heap.size + 1) (.slice D1 i d1) (.slice D2 N1 d2) (.slice D3 N2 d3)) (fun b hb => by omega) (fun b o hb => only_cell o4 hb.2 (fun e => by injection e; omega))
                have t3 := HW2.out.2.2.2.1.keep stays_frac (S' := fun b => b < (trio W3 (w.heap.size + 1) (.slice D1 i d1) (.slice D2 N1 d2) (.slice D3 N2 d3)).heap.size) (w' := trio W3 (w.heap.size + 1) (.slice D1 i d1) (.slice D2 N1 d2) (.slice D3 N2 d3)) (fun b hb => by omega) (fun b o hb => (only_cell o4 (by omega) (fun e => by injection e; omega)).trans (only_cell o3 hb.2 (fun e => by injection e; omega)))
                have t2 := HW.out.2.2.2.1.keep stays_int (S' := fun b => b < (trio W3 (w.heap.size + 1) (.slice D1 i d1) (.slice D2 N1 d2) (.slice D3 N2 d3)).heap.size) (w' := trio W3 (w.heap.size + 1) (.slice D1 i d1) (.slice D2 N1 d2) (.slice D3 N2 d3)) (fun b hb => by omega) (fun b o hb => ((only_cell o4 (by omega) (fun e => by injection e; omega)).trans (only_cell o3 (by omega) (fun e => by injection e; omega))).trans (only_cell o2 hb.2 (fun e => by injection e; omega)))
                exact ⟨⟨_, _, _, _, _, _, _, _, _, ⟨hs, ts, ys⟩, rfl, ⟨t1, t2, t3, by omega, by omega, by omega⟩, ⟨by show hs.length = _; rw [e]; exact HLF.out.2.2.symm, by show ts.length = _; rw [HL1.out]; exact HLF.out.1.symm, by show ys.length = _; rw [HL2.out]; exact HLF.out.2.1.symm, fun x hx => by have := HW.out.1 x hx; omega, HW2.out.1⟩, HW.out.1, ⟨hd1, hd1m⟩, ⟨HW.out.2.2.2.2.1, HW.out.2.2.2.2.2.1⟩, ⟨HW2.out.2.2.2.2.1, HW2.out.2.2.2.2.2.1⟩, below_then HB.out o4 HB.out.size (fun x hx => by injection hx; omega)⟩, hk4⟩
              have e := HR.out.1
              have hgb := HR.out.2.1
              have hrb := ((H0.out.2.2.1.grown HW.out.2.2.1 (by simp)).grown HW2.out.2.2.1 (by simp)).grown HR.out.2.2.only (by simp)
              rw [e] at hgb
              have HC := Lib.hid HF3.out.2
              have m0 := hgb.cell 0
              have m1 := hgb.cell 1
              have m2 := hgb.cell 2
              have r0 := hrb.cell 0
              have r1 := hrb.cell 1
              have r2 := hrb.cell 2
              simp only [List.getElem?_toArray, List.getElem?_cons_zero, List.getElem?_cons_succ] at m0 m1 m2 r0 r1 r2
              have u0 := hrb.frozen 0
              have u1 := hrb.frozen 1
              have u2 := hrb.frozen 2
              have zr := hrb.lt
              have HFO := Lib.hid HF3.out.1
              clear e hgb hrb hd1 hd1m hT1 HR HF3 HW HW2 HB hlt H0 HL1 HL2
              go_wp2_with fail
              have e0 := HC.out.cell 0
              have e1 := HC.out.cell 1
              have e2 := HC.out.cell 2
              simp only [List.getElem?_toArray, List.getElem?_cons_zero, List.getElem?_cons_succ, trio] at e0 e1 e2
              exact bodyPost_ret (v := .agg #[.slice D1 i d1, .slice D2 N1 d2, .slice D3 N2 d3]) (by simp [results, Try.results10, go_sem, e0, e1, e2]) rfl HFO.out
end Go.Proofs.Ytfkciiiopbanaaa
