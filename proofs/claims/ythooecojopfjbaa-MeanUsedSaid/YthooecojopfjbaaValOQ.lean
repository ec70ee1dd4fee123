/- Walk: the value of a node, operator by operator: the program: comparisons, arrays. · Walk: the value of a node, operator by operator: the program: comparisons, arrays. · Walk: the value of a node, operator by operator: the program: comparisons, arrays. -/
import Derived.Test.YthooecojopfjbaaValM
import Derived.Deep.RegionHeld3
import Derived.StillTailTactics
namespace Go.Proofs.Ythooecojopfjbaa
open Go.RowKit

set_option maxRecDepth 100000 in
set_option maxHeartbeats 4000000 in
theorem val_8a (A1 A2 A3 : Option Addr) (n1 c1 n2 c2 n3 c3 : Nat) (AM : Option Addr) (nm cm : Nat) (s : Int) (K : Option Addr) (kn kc : Nat) (N D : Int) (nme : ByteArray) (AK : Option Addr) (ck : Nat) (b : Int) (u v : ValueD) (S0 : Nat → Prop) (w : World) (hvs : ArrB AtValue 4 w w.heap.size AK 2 [u, v]) (hq1 : (u.num == v.num) = false) :
    Calls Try.prog 75 #[.agg #[.slice A1 n1 c1, .slice A2 n2 c2, .slice A3 n3 c3], .agg #[.slice AM nm cm], .int .i64 s, .agg #[.int .i64 8, .slice K kn kc, .int .i64 N, .int .i64 D, .string nme], .slice AK 2 ck, .int .i64 b] w (ValueP S0 w (some (bitV false))) := by
  obtain ⟨X, hX, hI, hsX⟩ := ValI.start w #[.slice A1 n1 c1, .slice A2 n2 c2, .slice A3 n3 c3] #[.slice AM nm cm] #[.int .i64 8, .slice K kn kc, .int .i64 N, .int .i64 D, .string nme] (.slice AK 2 ck)
  have x0 : X.cell? ⟨w.heap.size + 2, 0, none⟩ = some (.int .i64 8) := hI.node.cell 0
  have x2 : X.cell? ⟨w.heap.size + 2, 2, none⟩ = some (.int .i64 N) := hI.node.cell 2
  have x3 : X.cell? ⟨w.heap.size + 2, 3, none⟩ = some (.int .i64 D) := hI.node.cell 3
  have x1 : X.cell? ⟨w.heap.size + 2, 1, none⟩ = some (.slice K kn kc) := hI.node.cell 1
  have x4 : X.cell? ⟨w.heap.size + 2, 4, none⟩ = some (.string nme) := hI.node.cell 4
  have xk : X.cell? ⟨w.heap.size + 3, 0, none⟩ = some (.slice AK 2 ck) := hI.kids.cell 0
  have hzx : w.heap.size + 4 < X.heap.size := hI.val.lt
  have HX := Lib.hid hX
  have HI := Lib.hid hI
  have hvX := hvs.below stays_value hI.below (Nat.le_refl _)
  obtain ⟨b0, off, hx, A2, n2, c2, rfl, hb0, hc0, hc1, hc2, hc3, hcc, hcn, hcm, i0, i1, i2⟩ := values_get hvX (i := 0) (by omega)
  obtain ⟨b1, off1, hx1, A3', n3', c3', hA1, -, hd0, hd1, hd2, hd3, hdc, hdn, hdm, j0, j1, j2⟩ := values_get hvX (i := 1) (by omega)
  injection hA1 with hA1
  injection hA1 with e1 e2
  subst e1 e2
  simp only [List.getElem_cons_succ, List.getElem_cons_zero, Nat.zero_mul, Nat.add_zero, Nat.one_mul] at hc0 hc1 hc2 hc3 hcc i0 i1 i2 hd0 hd1 hd2 hd3 hdc j0 j1 j2
  have hz3 : w.heap.size + 3 < X.heap.size := by omega
  have hb0x : b0 < X.heap.size := Nat.lt_of_lt_of_le hb0 hI.below.size
  have hlc := hcc.len
  clear hb0
  have HCC := Lib.hid (And.intro hcc hlc)
  obtain ⟨un, ud, uc, ur⟩ := u
  obtain ⟨vn, vd, vc, vr⟩ := v
  dsimp only at hc0 hc1 hc3 hd0 hd1 hd3 hq1
  clear hX hI hsX hvs hvX hx hx1 hcc hcn hcm i0 i1 i2 hdc hdn hdm j0 j1 j2 hlc
  go_enter Try.func75, Try.ntmps75
  go_upto_region 21 with fail
  rw [HX.out]
  clear x0 x1 x2 x3 x4
  go_still_tail 9, (by kernel_rfl)
  change wpList _ _ _ _ _ X.drew
  have HID : Hid (ValI w X.drew #[.slice A1 n1 c1, .slice _ _ _, .slice A3 n3 c3] #[.slice AM nm cm] #[.int .i64 8, .slice K kn kc, .int .i64 N, .int .i64 D, .string nme] (.slice (some ⟨b0, off, none⟩) 2 ck)) := HI.out.keep (below_drewN (Below.refl _ _) 1)
  clear hc0 hc1 hc2 hc3 hd0 hd1 hd2 hd3 xk hzx hz3 hb0x
  go_wp2_with fail
  refine (truth_any _ _).mono ?_
  rintro e w6 ⟨rfl, hb6⟩
  have HI6 := Lib.hid (HID.out.keep hb6)
  clear hb6
  obtain ⟨m0, m1, m2, m3, u0, u1, u2, u3, zm⟩ := HI6.out.val.four
  go_wp2_with fail
  have hF := HI6.out.fin (.int .i64 (bitN false)) (.int .i64 1) (.slice none 0 0) (.int .i64 0)
  exact val_ret HI6.out.val rfl rfl rfl rfl (valueP_plain (bitN false) 1 hF.1)

set_option maxRecDepth 100000 in
set_option maxHeartbeats 4000000 in
theorem val_8b (A1 A2 A3 : Option Addr) (n1 c1 n2 c2 n3 c3 : Nat) (AM : Option Addr) (nm cm : Nat) (s : Int) (K : Option Addr) (kn kc : Nat) (N D : Int) (nme : ByteArray) (AK : Option Addr) (ck : Nat) (b : Int) (u v : ValueD) (S0 : Nat → Prop) (w : World) (hvs : ArrB AtValue 4 w w.heap.size AK 2 [u, v]) (hq1 : (u.num == v.num) = true) (hq2 : (u.den == v.den) = false) :
    Calls Try.prog 75 #[.agg #[.slice A1 n1 c1, .slice A2 n2 c2, .slice A3 n3 c3], .agg #[.slice AM nm cm], .int .i64 s, .agg #[.int .i64 8, .slice K kn kc, .int .i64 N, .int .i64 D, .string nme], .slice AK 2 ck, .int .i64 b] w (ValueP S0 w (some (bitV false))) := by
  obtain ⟨X, hX, hI, hsX⟩ := ValI.start w #[.slice A1 n1 c1, .slice A2 n2 c2, .slice A3 n3 c3] #[.slice AM nm cm] #[.int .i64 8, .slice K kn kc, .int .i64 N, .int .i64 D, .string nme] (.slice AK 2 ck)
  have x0 : X.cell? ⟨w.heap.size + 2, 0, none⟩ = some (.int .i64 8) := hI.node.cell 0
  have x2 : X.cell? ⟨w.heap.size + 2, 2, none⟩ = some (.int .i64 N) := hI.node.cell 2
  have x3 : X.cell? ⟨w.heap.size + 2, 3, none⟩ = some (.int .i64 D) := hI.node.cell 3
  have x1 : X.cell? ⟨w.heap.size + 2, 1, none⟩ = some (.slice K kn kc) := hI.node.cell 1
  have x4 : X.cell? ⟨w.heap.size + 2, 4, none⟩ = some (.string nme) := hI.node.cell 4
  have xk : X.cell? ⟨w.heap.size + 3, 0, none⟩ = some (.slice AK 2 ck) := hI.kids.cell 0
  have hzx : w.heap.size + 4 < X.heap.size := hI.val.lt
  have HX := Lib.hid hX
  have HI := Lib.hid hI
  have hvX := hvs.below stays_value hI.below (Nat.le_refl _)
  obtain ⟨b0, off, hx, A2, n2, c2, rfl, hb0, hc0, hc1, hc2, hc3, hcc, hcn, hcm, i0, i1, i2⟩ := values_get hvX (i := 0) (by omega)
  obtain ⟨b1, off1, hx1, A3', n3', c3', hA1, -, hd0, hd1, hd2, hd3, hdc, hdn, hdm, j0, j1, j2⟩ := values_get hvX (i := 1) (by omega)
  injection hA1 with hA1
  injection hA1 with e1 e2
  subst e1 e2
  simp only [List.getElem_cons_succ, List.getElem_cons_zero, Nat.zero_mul, Nat.add_zero, Nat.one_mul] at hc0 hc1 hc2 hc3 hcc i0 i1 i2 hd0 hd1 hd2 hd3 hdc j0 j1 j2
  have hz3 : w.heap.size + 3 < X.heap.size := by omega
  have hb0x : b0 < X.heap.size := Nat.lt_of_lt_of_le hb0 hI.below.size
  have hlc := hcc.len
  clear hb0
  have HCC := Lib.hid (And.intro hcc hlc)
  obtain ⟨un, ud, uc, ur⟩ := u
  obtain ⟨vn, vd, vc, vr⟩ := v
  dsimp only at hc0 hc1 hc3 hd0 hd1 hd3 hq1 hq2
  clear hX hI hsX hvs hvX hx hx1 hcc hcn hcm i0 i1 i2 hdc hdn hdm j0 j1 j2 hlc
  go_enter Try.func75, Try.ntmps75
  go_upto_region 21 with fail
  rw [HX.out]
  clear x0 x1 x2 x3 x4
  go_still_tail 9, (by kernel_rfl)
  change wpList _ _ _ _ _ X.drew
  have HID : Hid (ValI w X.drew #[.slice A1 n1 c1, .slice _ _ _, .slice A3 n3 c3] #[.slice AM nm cm] #[.int .i64 8, .slice K kn kc, .int .i64 N, .int .i64 D, .string nme] (.slice (some ⟨b0, off, none⟩) 2 ck)) := HI.out.keep (below_drewN (Below.refl _ _) 1)
  clear hc0 hc1 hc2 hc3 hd0 hd1 hd2 hd3 xk hzx hz3 hb0x
  go_wp2_with fail
  refine (truth_any _ _).mono ?_
  rintro e w6 ⟨rfl, hb6⟩
  have HI6 := Lib.hid (HID.out.keep hb6)
  clear hb6
  obtain ⟨m0, m1, m2, m3, u0, u1, u2, u3, zm⟩ := HI6.out.val.four
  go_wp2_with fail
  have hF := HI6.out.fin (.int .i64 (bitN false)) (.int .i64 1) (.slice none 0 0) (.int .i64 0)
  exact val_ret HI6.out.val rfl rfl rfl rfl (valueP_plain (bitN false) 1 hF.1)

set_option maxRecDepth 100000 in
set_option maxHeartbeats 4000000 in
theorem val_8c (A1 A2 A3 : Option Addr) (n1 c1 n2 c2 n3 c3 : Nat) (AM : Option Addr) (nm cm : Nat) (s : Int) (K : Option Addr) (kn kc : Nat) (N D : Int) (nme : ByteArray) (AK : Option Addr) (ck : Nat) (b : Int) (u v : ValueD) (S0 : Nat → Prop) (w : World) (hvs : ArrB AtValue 4 w w.heap.size AK 2 [u, v]) (hq1 : (u.num == v.num) = true) (hq2 : (u.den == v.den) = true) :
    Calls Try.prog 75 #[.agg #[.slice A1 n1 c1, .slice A2 n2 c2, .slice A3 n3 c3], .agg #[.slice AM nm cm], .int .i64 s, .agg #[.int .i64 8, .slice K kn kc, .int .i64 N, .int .i64 D, .string nme], .slice AK 2 ck, .int .i64 b] w (ValueP S0 w (some (bitV true))) := by
  obtain ⟨X, hX, hI, hsX⟩ := ValI.start w #[.slice A1 n1 c1, .slice A2 n2 c2, .slice A3 n3 c3] #[.slice AM nm cm] #[.int .i64 8, .slice K kn kc, .int .i64 N, .int .i64 D, .string nme] (.slice AK 2 ck)
  have x0 : X.cell? ⟨w.heap.size + 2, 0, none⟩ = some (.int .i64 8) := hI.node.cell 0
  have x2 : X.cell? ⟨w.heap.size + 2, 2, none⟩ = some (.int .i64 N) := hI.node.cell 2
  have x3 : X.cell? ⟨w.heap.size + 2, 3, none⟩ = some (.int .i64 D) := hI.node.cell 3
  have x1 : X.cell? ⟨w.heap.size + 2, 1, none⟩ = some (.slice K kn kc) := hI.node.cell 1
  have x4 : X.cell? ⟨w.heap.size + 2, 4, none⟩ = some (.string nme) := hI.node.cell 4
  have xk : X.cell? ⟨w.heap.size + 3, 0, none⟩ = some (.slice AK 2 ck) := hI.kids.cell 0
  have hzx : w.heap.size + 4 < X.heap.size := hI.val.lt
  have HX := Lib.hid hX
  have HI := Lib.hid hI
  have hvX := hvs.below stays_value hI.below (Nat.le_refl _)
  obtain ⟨b0, off, hx, A2, n2, c2, rfl, hb0, hc0, hc1, hc2, hc3, hcc, hcn, hcm, i0, i1, i2⟩ := values_get hvX (i := 0) (by omega)
  obtain ⟨b1, off1, hx1, A3', n3', c3', hA1, -, hd0, hd1, hd2, hd3, hdc, hdn, hdm, j0, j1, j2⟩ := values_get hvX (i := 1) (by omega)
  injection hA1 with hA1
  injection hA1 with e1 e2
  subst e1 e2
  simp only [List.getElem_cons_succ, List.getElem_cons_zero, Nat.zero_mul, Nat.add_zero, Nat.one_mul] at hc0 hc1 hc2 hc3 hcc i0 i1 i2 hd0 hd1 hd2 hd3 hdc j0 j1 j2
  have hz3 : w.heap.size + 3 < X.heap.size := by omega
  have hb0x : b0 < X.heap.size := Nat.lt_of_lt_of_le hb0 hI.below.size
  have hlc := hcc.len
  clear hb0
  have HCC := Lib.hid (And.intro hcc hlc)
  obtain ⟨un, ud, uc, ur⟩ := u
  obtain ⟨vn, vd, vc, vr⟩ := v
  dsimp only at hc0 hc1 hc3 hd0 hd1 hd3 hq1 hq2
  clear hX hI hsX hvs hvX hx hx1 hcc hcn hcm i0 i1 i2 hdc hdn hdm j0 j1 j2 hlc
  go_enter Try.func75, Try.ntmps75
  go_upto_region 21 with fail
  rw [HX.out]
  clear x0 x1 x2 x3 x4
  go_still_tail 9, (by kernel_rfl)
  change wpList _ _ _ _ _ X.drew
  have HID : Hid (ValI w X.drew #[.slice A1 n1 c1, .slice _ _ _, .slice A3 n3 c3] #[.slice AM nm cm] #[.int .i64 8, .slice K kn kc, .int .i64 N, .int .i64 D, .string nme] (.slice (some ⟨b0, off, none⟩) 2 ck)) := HI.out.keep (below_drewN (Below.refl _ _) 1)
  clear hc0 hc1 hc2 hc3 hd0 hd1 hd2 hd3 xk hzx hz3 hb0x
  go_wp2_with fail
  refine (truth_any _ _).mono ?_
  rintro e w6 ⟨rfl, hb6⟩
  have HI6 := Lib.hid (HID.out.keep hb6)
  clear hb6
  obtain ⟨m0, m1, m2, m3, u0, u1, u2, u3, zm⟩ := HI6.out.val.four
  go_wp2_with fail
  have hF := HI6.out.fin (.int .i64 (bitN true)) (.int .i64 1) (.slice none 0 0) (.int .i64 0)
  exact val_ret HI6.out.val rfl rfl rfl rfl (valueP_plain (bitN true) 1 hF.1)

end Go.Proofs.Ythooecojopfjbaa
namespace Go.Proofs.Ythooecojopfjbaa
open Go.RowKit

set_option maxRecDepth 100000 in
set_option maxHeartbeats 4000000 in
theorem val_13 (A1 A2 A3 : Option Addr) (n1 c1 n2 c2 n3 c3 : Nat) (AM : Option Addr) (nm cm : Nat) (s : Int) (K : Option Addr) (kn kc : Nat) (N D : Int) (nme : ByteArray) (AK : Option Addr) (ck : Nat) (b : Int) (u v : ValueD) (S0 : Nat → Prop) (w : World) (hvs : ArrB AtValue 4 w w.heap.size AK 2 [u, v]) (hu : fracGood u.num u.den = true) (hv : fracGood v.num v.den = true) :
    Calls Try.prog 75 #[.agg #[.slice A1 n1 c1, .slice A2 n2 c2, .slice A3 n3 c3], .agg #[.slice AM nm cm], .int .i64 s, .agg #[.int .i64 13, .slice K kn kc, .int .i64 N, .int .i64 D, .string nme], .slice AK 2 ck, .int .i64 b] w (ValueP S0 w (some (bitV (lessQ (qOf u) (qOf v))))) := by
  obtain ⟨X, hX, hI, hsX⟩ := ValI.start w #[.slice A1 n1 c1, .slice A2 n2 c2, .slice A3 n3 c3] #[.slice AM nm cm] #[.int .i64 13, .slice K kn kc, .int .i64 N, .int .i64 D, .string nme] (.slice AK 2 ck)
  have x0 : X.cell? ⟨w.heap.size + 2, 0, none⟩ = some (.int .i64 13) := hI.node.cell 0
  have x2 : X.cell? ⟨w.heap.size + 2, 2, none⟩ = some (.int .i64 N) := hI.node.cell 2
  have x3 : X.cell? ⟨w.heap.size + 2, 3, none⟩ = some (.int .i64 D) := hI.node.cell 3
  have x1 : X.cell? ⟨w.heap.size + 2, 1, none⟩ = some (.slice K kn kc) := hI.node.cell 1
  have x4 : X.cell? ⟨w.heap.size + 2, 4, none⟩ = some (.string nme) := hI.node.cell 4
  have xk : X.cell? ⟨w.heap.size + 3, 0, none⟩ = some (.slice AK 2 ck) := hI.kids.cell 0
  have hzx : w.heap.size + 4 < X.heap.size := hI.val.lt
  have HX := Lib.hid hX
  have HI := Lib.hid hI
  have hvX := hvs.below stays_value hI.below (Nat.le_refl _)
  obtain ⟨b0, off, hx, A2, n2, c2, rfl, hb0, hc0, hc1, hc2, hc3, hcc, hcn, hcm, i0, i1, i2⟩ := values_get hvX (i := 0) (by omega)
  obtain ⟨b1, off1, hx1, A3', n3', c3', hA1, -, hd0, hd1, hd2, hd3, hdc, hdn, hdm, j0, j1, j2⟩ := values_get hvX (i := 1) (by omega)
  injection hA1 with hA1
  injection hA1 with e1 e2
  subst e1 e2
  simp only [List.getElem_cons_succ, List.getElem_cons_zero, Nat.zero_mul, Nat.add_zero, Nat.one_mul] at hc0 hc1 hc2 hc3 hcc i0 i1 i2 hd0 hd1 hd2 hd3 hdc j0 j1 j2
  have hz3 : w.heap.size + 3 < X.heap.size := by omega
  have hb0x : b0 < X.heap.size := Nat.lt_of_lt_of_le hb0 hI.below.size
  have hlc := hcc.len
  clear hb0
  have HCC := Lib.hid (And.intro hcc hlc)
  obtain ⟨un, ud, uc, ur⟩ := u
  obtain ⟨vn, vd, vc, vr⟩ := v
  dsimp only at hc0 hc1 hc3 hd0 hd1 hd3 hu hv
  unfold qOf
  dsimp only
  obtain ⟨q, hq⟩ : ∃ q, lessQ ⟨un, ud⟩ ⟨vn, vd⟩ = q := ⟨_, rfl⟩
  have HL := Lib.hid (fun W => less_any ⟨un, ud⟩ ⟨vn, vd⟩ q W hu hv hq)
  rw [hq]
  clear hX hI hsX hvs hvX hx hx1 hcc hcn hcm i0 i1 i2 hdc hdn hdm j0 j1 j2 hlc hu hv hq
  go_enter Try.func75, Try.ntmps75
  go_upto_region 30 with fail
  rw [HX.out]
  clear x0 x1 x2 x3 x4
  have ne0 : X.heap.size ≠ w.heap.size + 3 := by omega
  have ne1 : X.heap.size ≠ b0 := by omega
  go_region_held3 (fun w' => w'.cell? ⟨w.heap.size + 3, 0, none⟩ = some (.slice (some ⟨b0, off, none⟩) 2 ck) ∧ w'.cell? ⟨b0, off, none⟩ = some (.int .i64 un) ∧ w'.cell? ⟨b0, off + 1, none⟩ = some (.int .i64 ud) ∧ w'.cell? ⟨b0, off + 4, none⟩ = some (.int .i64 vn) ∧ w'.cell? ⟨b0, off + 4 + 1, none⟩ = some (.int .i64 vd))
    (go_keep)
    (first
      | (go_simp
         go_at_call 105
         refine (HL.out _).mono ?_
         rintro e w5 ⟨rfl, hb5⟩
         have HB5 : Hid (Below X.heap.size X w5) := below_join (by first | exact below_drewN (Below.refl _ _) 1 | exact below_drewN ((Below.refl _ _).alloc (Nat.le_refl _) _) 1) hb5
         have r0 : w5.cell? ⟨w.heap.size + 3, 0, none⟩ = some (.slice (some ⟨b0, off, none⟩) 2 ck) := by rw [HB5.out.cell (p := ⟨w.heap.size + 3, 0, none⟩) hz3]; exact xk
         have r1 : w5.cell? ⟨b0, off, none⟩ = some (.int .i64 un) := by rw [HB5.out.cell (p := ⟨b0, off, none⟩) hb0x]; exact hc0
         have r2 : w5.cell? ⟨b0, off + 1, none⟩ = some (.int .i64 ud) := by rw [HB5.out.cell (p := ⟨b0, off + 1, none⟩) hb0x]; exact hc1
         have r3 : w5.cell? ⟨b0, off + 4, none⟩ = some (.int .i64 vn) := by rw [HB5.out.cell (p := ⟨b0, off + 4, none⟩) hb0x]; exact hd0
         have r4 : w5.cell? ⟨b0, off + 4 + 1, none⟩ = some (.int .i64 vd) := by rw [HB5.out.cell (p := ⟨b0, off + 4 + 1, none⟩) hb0x]; exact hd1
         try
           have k9 : Blk w5 X.heap.size 29 #[.int .i64 0, .int .i64 0] := (Blk.new X 29 #[.int .i64 0, .int .i64 0]).below (below_of_drew hb5) (by simp)
           have g0 : w5.cell? ⟨X.heap.size, 0, none⟩ = some (.int .i64 0) := k9.cell 0
           have g1 : w5.cell? ⟨X.heap.size, 1, none⟩ = some (.int .i64 0) := k9.cell 1
           have g2 : w5.frozen? ⟨X.heap.size, 0, none⟩ = false := k9.frozen 0
           have g3 : w5.frozen? ⟨X.heap.size, 1, none⟩ = false := k9.frozen 1
           have g4 : X.heap.size < w5.heap.size := k9.lt
           clear k9
         clear hb5)
      | fail)
  all_goals
    clear hc0 hc1 hc2 hc3 hd0 hd1 hd2 hd3 xk hzx
    go_wp2_with fail
    refine (truth_any _ _).mono ?_
    rintro e w6 ⟨rfl, hb6⟩
    have HI6 := Lib.hid (HI.out.keep (below_join (by first | exact HB5.out.alloc HB5.out.size _ | exact (HB5.out.setCell (p := ⟨X.heap.size, 0, none⟩) (Nat.le_refl _) _).setCell (p := ⟨X.heap.size, 1, none⟩) (Nat.le_refl _) _) hb6))
    clear hb6
    obtain ⟨m0, m1, m2, m3, u0, u1, u2, u3, zm⟩ := HI6.out.val.four
    go_wp2_with fail
    have hF := HI6.out.fin (.int .i64 (bitN q)) (.int .i64 1) (.slice none 0 0) (.int .i64 0)
    exact val_ret HI6.out.val rfl rfl rfl rfl (valueP_plain (bitN q) 1 hF.1)

set_option maxRecDepth 100000 in
set_option maxHeartbeats 4000000 in
theorem val_14 (A1 A2 A3 : Option Addr) (n1 c1 n2 c2 n3 c3 : Nat) (AM : Option Addr) (nm cm : Nat) (s : Int) (K : Option Addr) (kn kc : Nat) (N D : Int) (nme : ByteArray) (AK : Option Addr) (ck : Nat) (b : Int) (u v : ValueD) (S0 : Nat → Prop) (w : World) (hvs : ArrB AtValue 4 w w.heap.size AK 2 [u, v]) (hu : fracGood u.num u.den = true) (hv : fracGood v.num v.den = true) :
    Calls Try.prog 75 #[.agg #[.slice A1 n1 c1, .slice A2 n2 c2, .slice A3 n3 c3], .agg #[.slice AM nm cm], .int .i64 s, .agg #[.int .i64 14, .slice K kn kc, .int .i64 N, .int .i64 D, .string nme], .slice AK 2 ck, .int .i64 b] w (ValueP S0 w (some (bitV (!lessQ (qOf v) (qOf u))))) := by
  obtain ⟨X, hX, hI, hsX⟩ := ValI.start w #[.slice A1 n1 c1, .slice A2 n2 c2, .slice A3 n3 c3] #[.slice AM nm cm] #[.int .i64 14, .slice K kn kc, .int .i64 N, .int .i64 D, .string nme] (.slice AK 2 ck)
  have x0 : X.cell? ⟨w.heap.size + 2, 0, none⟩ = some (.int .i64 14) := hI.node.cell 0
  have x2 : X.cell? ⟨w.heap.size + 2, 2, none⟩ = some (.int .i64 N) := hI.node.cell 2
  have x3 : X.cell? ⟨w.heap.size + 2, 3, none⟩ = some (.int .i64 D) := hI.node.cell 3
  have x1 : X.cell? ⟨w.heap.size + 2, 1, none⟩ = some (.slice K kn kc) := hI.node.cell 1
  have x4 : X.cell? ⟨w.heap.size + 2, 4, none⟩ = some (.string nme) := hI.node.cell 4
  have xk : X.cell? ⟨w.heap.size + 3, 0, none⟩ = some (.slice AK 2 ck) := hI.kids.cell 0
  have hzx : w.heap.size + 4 < X.heap.size := hI.val.lt
  have HX := Lib.hid hX
  have HI := Lib.hid hI
  have hvX := hvs.below stays_value hI.below (Nat.le_refl _)
  obtain ⟨b0, off, hx, A2, n2, c2, rfl, hb0, hc0, hc1, hc2, hc3, hcc, hcn, hcm, i0, i1, i2⟩ := values_get hvX (i := 0) (by omega)
  obtain ⟨b1, off1, hx1, A3', n3', c3', hA1, -, hd0, hd1, hd2, hd3, hdc, hdn, hdm, j0, j1, j2⟩ := values_get hvX (i := 1) (by omega)
  injection hA1 with hA1
  injection hA1 with e1 e2
  subst e1 e2
  simp only [List.getElem_cons_succ, List.getElem_cons_zero, Nat.zero_mul, Nat.add_zero, Nat.one_mul] at hc0 hc1 hc2 hc3 hcc i0 i1 i2 hd0 hd1 hd2 hd3 hdc j0 j1 j2
  have hz3 : w.heap.size + 3 < X.heap.size := by omega
  have hb0x : b0 < X.heap.size := Nat.lt_of_lt_of_le hb0 hI.below.size
  have hlc := hcc.len
  clear hb0
  have HCC := Lib.hid (And.intro hcc hlc)
  obtain ⟨un, ud, uc, ur⟩ := u
  obtain ⟨vn, vd, vc, vr⟩ := v
  dsimp only at hc0 hc1 hc3 hd0 hd1 hd3 hu hv
  unfold qOf
  dsimp only
  obtain ⟨q, hq⟩ : ∃ q, lessQ ⟨vn, vd⟩ ⟨un, ud⟩ = q := ⟨_, rfl⟩
  have HL := Lib.hid (fun W => less_any ⟨vn, vd⟩ ⟨un, ud⟩ q W hv hu hq)
  rw [hq]
  clear hX hI hsX hvs hvX hx hx1 hcc hcn hcm i0 i1 i2 hdc hdn hdm j0 j1 j2 hlc hu hv hq
  go_enter Try.func75, Try.ntmps75
  go_upto_region 33 with fail
  rw [HX.out]
  clear x0 x1 x2 x3 x4
  have ne0 : X.heap.size ≠ w.heap.size + 3 := by omega
  have ne1 : X.heap.size ≠ b0 := by omega
  go_region_held3 (fun w' => w'.cell? ⟨w.heap.size + 3, 0, none⟩ = some (.slice (some ⟨b0, off, none⟩) 2 ck) ∧ w'.cell? ⟨b0, off, none⟩ = some (.int .i64 un) ∧ w'.cell? ⟨b0, off + 1, none⟩ = some (.int .i64 ud) ∧ w'.cell? ⟨b0, off + 4, none⟩ = some (.int .i64 vn) ∧ w'.cell? ⟨b0, off + 4 + 1, none⟩ = some (.int .i64 vd))
    (go_keep)
    (first
      | (go_simp
         go_at_call 105
         refine (HL.out _).mono ?_
         rintro e w5 ⟨rfl, hb5⟩
         have HB5 : Hid (Below X.heap.size X w5) := below_join (by first | exact below_drewN (Below.refl _ _) 1 | exact below_drewN ((Below.refl _ _).alloc (Nat.le_refl _) _) 1) hb5
         have r0 : w5.cell? ⟨w.heap.size + 3, 0, none⟩ = some (.slice (some ⟨b0, off, none⟩) 2 ck) := by rw [HB5.out.cell (p := ⟨w.heap.size + 3, 0, none⟩) hz3]; exact xk
         have r1 : w5.cell? ⟨b0, off, none⟩ = some (.int .i64 un) := by rw [HB5.out.cell (p := ⟨b0, off, none⟩) hb0x]; exact hc0
         have r2 : w5.cell? ⟨b0, off + 1, none⟩ = some (.int .i64 ud) := by rw [HB5.out.cell (p := ⟨b0, off + 1, none⟩) hb0x]; exact hc1
         have r3 : w5.cell? ⟨b0, off + 4, none⟩ = some (.int .i64 vn) := by rw [HB5.out.cell (p := ⟨b0, off + 4, none⟩) hb0x]; exact hd0
         have r4 : w5.cell? ⟨b0, off + 4 + 1, none⟩ = some (.int .i64 vd) := by rw [HB5.out.cell (p := ⟨b0, off + 4 + 1, none⟩) hb0x]; exact hd1
         try
           have k9 : Blk w5 X.heap.size 29 #[.int .i64 0, .int .i64 0] := (Blk.new X 29 #[.int .i64 0, .int .i64 0]).below (below_of_drew hb5) (by simp)
           have g0 : w5.cell? ⟨X.heap.size, 0, none⟩ = some (.int .i64 0) := k9.cell 0
           have g1 : w5.cell? ⟨X.heap.size, 1, none⟩ = some (.int .i64 0) := k9.cell 1
           have g2 : w5.frozen? ⟨X.heap.size, 0, none⟩ = false := k9.frozen 0
           have g3 : w5.frozen? ⟨X.heap.size, 1, none⟩ = false := k9.frozen 1
           have g4 : X.heap.size < w5.heap.size := k9.lt
           clear k9
         clear hb5)
      | fail)
  all_goals
    clear hc0 hc1 hc2 hc3 hd0 hd1 hd2 hd3 xk hzx
    go_wp2_with fail
    refine (truth_any _ _).mono ?_
    rintro e w6 ⟨rfl, hb6⟩
    have HI6 := Lib.hid (HI.out.keep (below_join (by first | exact HB5.out.alloc HB5.out.size _ | exact (HB5.out.setCell (p := ⟨X.heap.size, 0, none⟩) (Nat.le_refl _) _).setCell (p := ⟨X.heap.size, 1, none⟩) (Nat.le_refl _) _) hb6))
    clear hb6
    obtain ⟨m0, m1, m2, m3, u0, u1, u2, u3, zm⟩ := HI6.out.val.four
    go_wp2_with fail
    have hF := HI6.out.fin (.int .i64 (bitN (!q))) (.int .i64 1) (.slice none 0 0) (.int .i64 0)
    exact val_ret HI6.out.val rfl rfl rfl rfl (valueP_plain (bitN (!q)) 1 hF.1)

end Go.Proofs.Ythooecojopfjbaa
namespace Go.Proofs.Ythooecojopfjbaa
open Go.RowKit

set_option maxRecDepth 100000 in
set_option maxHeartbeats 4000000 in
theorem val_24 (A1 A2 A3 : Option Addr) (n1 c1 n2 c2 n3 c3 : Nat) (AM : Option Addr) (nm cm : Nat) (s : Int) (K : Option Addr) (kn kc : Nat) (N D : Int) (nme : ByteArray) (AK : Option Addr) (ck : Nat) (b : Int) (u v : ValueD) (S0 : Nat → Prop) (w : World) (hvs : ArrB AtValue 4 w w.heap.size AK 2 [u, v]) (hu1 : u.cells.length ≤ 1000000) :
    Calls Try.prog 75 #[.agg #[.slice A1 n1 c1, .slice A2 n2 c2, .slice A3 n3 c3], .agg #[.slice AM nm cm], .int .i64 s, .agg #[.int .i64 24, .slice K kn kc, .int .i64 N, .int .i64 D, .string nme], .slice AK 2 ck, .int .i64 b] w (ValueP S0 w (some (numV (getF v.num u.rest u.cells)))) := by
  obtain ⟨X, hX, hI, hsX⟩ := ValI.start w #[.slice A1 n1 c1, .slice A2 n2 c2, .slice A3 n3 c3] #[.slice AM nm cm] #[.int .i64 24, .slice K kn kc, .int .i64 N, .int .i64 D, .string nme] (.slice AK 2 ck)
  have x0 : X.cell? ⟨w.heap.size + 2, 0, none⟩ = some (.int .i64 24) := hI.node.cell 0
  have x2 : X.cell? ⟨w.heap.size + 2, 2, none⟩ = some (.int .i64 N) := hI.node.cell 2
  have x3 : X.cell? ⟨w.heap.size + 2, 3, none⟩ = some (.int .i64 D) := hI.node.cell 3
  have x1 : X.cell? ⟨w.heap.size + 2, 1, none⟩ = some (.slice K kn kc) := hI.node.cell 1
  have x4 : X.cell? ⟨w.heap.size + 2, 4, none⟩ = some (.string nme) := hI.node.cell 4
  have xk : X.cell? ⟨w.heap.size + 3, 0, none⟩ = some (.slice AK 2 ck) := hI.kids.cell 0
  have hzx : w.heap.size + 4 < X.heap.size := hI.val.lt
  have HX := Lib.hid hX
  have HI := Lib.hid hI
  have hvX := hvs.below stays_value hI.below (Nat.le_refl _)
  obtain ⟨b0, off, hx, A2, n2, c2, rfl, hb0, hc0, hc1, hc2, hc3, hcc, hcn, hcm, i0, i1, i2⟩ := values_get hvX (i := 0) (by omega)
  obtain ⟨b1, off1, hx1, A3', n3', c3', hA1, -, hd0, hd1, hd2, hd3, hdc, hdn, hdm, j0, j1, j2⟩ := values_get hvX (i := 1) (by omega)
  injection hA1 with hA1
  injection hA1 with e1 e2
  subst e1 e2
  simp only [List.getElem_cons_succ, List.getElem_cons_zero, Nat.zero_mul, Nat.add_zero, Nat.one_mul] at hc0 hc1 hc2 hc3 hcc i0 i1 i2 hd0 hd1 hd2 hd3 hdc j0 j1 j2
  have hz3 : w.heap.size + 3 < X.heap.size := by omega
  have hb0x : b0 < X.heap.size := Nat.lt_of_lt_of_le hb0 hI.below.size
  have hlc := hcc.len
  clear hb0
  have HCC := Lib.hid (And.intro hcc hlc)
  obtain ⟨un, ud, uc, ur⟩ := u
  obtain ⟨vn, vd, vc, vr⟩ := v
  dsimp only at hc0 hc1 hc3 hd0 hd1 hd3 hcc hlc hu1 ⊢
  obtain ⟨q, hq⟩ : ∃ q, getF vn ur uc = q := ⟨_, rfl⟩
  have HL : Hid (∀ W : World, Below X.heap.size X W → Calls Try.prog 107 #[.agg #[.int .i64 un, .int .i64 ud, .slice A2 n2 c2, .int .i64 ur], .int .i64 vn] W fun e w' => e = .returned (.int .i64 q) ∧ Below W.heap.size W w') := fun W hW =>
    get_any un ud ur vn A2 n2 c2 uc q W ((ArrB.below (B := w.heap.size) hcc stays_cell (hW.mono hI.below.size) hI.below.size).keep stays_cell (fun b hb => Nat.lt_of_lt_of_le hb hW.size) (fun _ _ _ => rfl)) (by omega) hq
  rw [hq]
  clear hX hI hsX hvs hvX hx hx1 hcc hcn hcm i0 i1 i2 hdc hdn hdm j0 j1 j2 hlc hu1 hq
  go_enter Try.func75, Try.ntmps75
  go_upto_region 36 with fail
  rw [HX.out]
  clear x0 x1 x2 x3 x4
  go_still_tail 8, (by kernel_rfl)
  change wpList _ _ _ _ _ X.drew
  have HID : Hid (ValI w X.drew #[.slice A1 n1 c1, .slice _ _ _, .slice A3 n3 c3] #[.slice AM nm cm] #[.int .i64 24, .slice K kn kc, .int .i64 N, .int .i64 D, .string nme] (.slice (some ⟨b0, off, none⟩) 2 ck)) := HI.out.keep (below_drewN (Below.refl _ _) 1)
  have HL2 := Lib.hid (HL.out X.drew (below_drewN (Below.refl _ _) 1))
  clear hc0 hc1 hc2 hc3 hd0 hd1 hd2 hd3 xk hzx hz3 hb0x
  go_wp2_with fail
  refine HL2.out.mono ?_
  rintro e w5 ⟨rfl, hb5⟩
  have HI5 := Lib.hid (HID.out.keep hb5)
  clear hb5
  go_wp2_with fail
  refine (num_any _ _).mono ?_
  rintro e w6 ⟨rfl, hb6⟩
  have HI6 := Lib.hid (HI5.out.keep hb6)
  clear hb6
  obtain ⟨m0, m1, m2, m3, u0, u1, u2, u3, zm⟩ := HI6.out.val.four
  go_wp2_with fail
  have hF := HI6.out.fin (.int .i64 q) (.int .i64 1) (.slice none 0 0) (.int .i64 0)
  exact val_ret HI6.out.val rfl rfl rfl rfl (valueP_plain q 1 hF.1)

set_option maxRecDepth 100000 in
set_option maxHeartbeats 4000000 in
theorem val_25 (A1 A2 A3 : Option Addr) (n1 c1 n2 c2 n3 c3 : Nat) (AM : Option Addr) (nm cm : Nat) (s : Int) (K : Option Addr) (kn kc : Nat) (N D : Int) (nme : ByteArray) (AK : Option Addr) (ck : Nat) (b : Int) (u v x : ValueD) (S0 : Nat → Prop) (w : World) (hvs : ArrB AtValue 4 w w.heap.size AK 3 [u, v, x]) (hu1 : u.cells.length ≤ 1000000) :
    Calls Try.prog 75 #[.agg #[.slice A1 n1 c1, .slice A2 n2 c2, .slice A3 n3 c3], .agg #[.slice AM nm cm], .int .i64 s, .agg #[.int .i64 25, .slice K kn kc, .int .i64 N, .int .i64 D, .string nme], .slice AK 3 ck, .int .i64 b] w (ValueP S0 w (some ⟨0, 0, putP v.num x.num (x.num == u.rest) u.cells, u.rest⟩)) := by
  obtain ⟨X, hX, hI, hsX⟩ := ValI.start w #[.slice A1 n1 c1, .slice A2 n2 c2, .slice A3 n3 c3] #[.slice AM nm cm] #[.int .i64 25, .slice K kn kc, .int .i64 N, .int .i64 D, .string nme] (.slice AK 3 ck)
  have x0 : X.cell? ⟨w.heap.size + 2, 0, none⟩ = some (.int .i64 25) := hI.node.cell 0
  have x2 : X.cell? ⟨w.heap.size + 2, 2, none⟩ = some (.int .i64 N) := hI.node.cell 2
  have x3 : X.cell? ⟨w.heap.size + 2, 3, none⟩ = some (.int .i64 D) := hI.node.cell 3
  have x1 : X.cell? ⟨w.heap.size + 2, 1, none⟩ = some (.slice K kn kc) := hI.node.cell 1
  have x4 : X.cell? ⟨w.heap.size + 2, 4, none⟩ = some (.string nme) := hI.node.cell 4
  have xk : X.cell? ⟨w.heap.size + 3, 0, none⟩ = some (.slice AK 3 ck) := hI.kids.cell 0
  have hzx : w.heap.size + 4 < X.heap.size := hI.val.lt
  have HX := Lib.hid hX
  have HI := Lib.hid hI
  have hvX := hvs.below stays_value hI.below (Nat.le_refl _)
  obtain ⟨b0, off, hx, A2, n2, c2, rfl, hb0, hc0, hc1, hc2, hc3, hcc, hcn, hcm, i0, i1, i2⟩ := values_get hvX (i := 0) (by omega)
  obtain ⟨b1, off1, hx1, A3', n3', c3', hA1, -, hd0, hd1, hd2, hd3, hdc, hdn, hdm, j0, j1, j2⟩ := values_get hvX (i := 1) (by omega)
  injection hA1 with hA1
  injection hA1 with e1 e2
  subst e1 e2
  simp only [List.getElem_cons_succ, List.getElem_cons_zero, Nat.zero_mul, Nat.add_zero, Nat.one_mul] at hc0 hc1 hc2 hc3 hcc i0 i1 i2 hd0 hd1 hd2 hd3 hdc j0 j1 j2
  have hz3 : w.heap.size + 3 < X.heap.size := by omega
  have hb0x : b0 < X.heap.size := Nat.lt_of_lt_of_le hb0 hI.below.size
  have hlc := hcc.len
  clear hb0
  have HCC := Lib.hid (And.intro hcc hlc)
  obtain ⟨b2, off2, hx2, A4, n4, c4, hA2, -, he0, -, -, -, -, -, -, k0, -, -⟩ := values_get hvX (i := 2) (by omega)
  injection hA2 with hA2
  injection hA2 with e1 e2
  subst e1 e2
  simp only [List.getElem_cons_succ, List.getElem_cons_zero] at he0 k0
  obtain ⟨un, ud, uc, ur⟩ := u
  obtain ⟨vn, vd, vc, vr⟩ := v
  obtain ⟨yn, yd, yc, yr⟩ := x
  dsimp only at hc0 hc1 hc3 hd0 hd1 hd3 hcc hlc hu1 he0 k0 j0 ⊢
  obtain ⟨q, hq⟩ : ∃ q, putP vn yn (yn == ur) uc = q := ⟨_, rfl⟩
  have HL : Hid (∀ W : World, Below X.heap.size X W → Calls Try.prog 108 #[.agg #[.int .i64 un, .int .i64 ud, .slice A2 n2 c2, .int .i64 ur], .int .i64 vn, .int .i64 yn] W (NewV ⟨0, 0, q, ur⟩ W)) := fun W hW => by
    rw [← hq]
    exact put_any un ud ur vn yn A2 n2 c2 uc W ((ArrB.below (B := w.heap.size) hcc stays_cell (hW.mono hI.below.size) hI.below.size).keep stays_cell (fun b hb => Nat.lt_of_lt_of_le hb hW.size) (fun _ _ _ => rfl)) (by omega) j0 k0
  rw [hq]
  clear hX hI hsX hvs hvX hx hx1 hx2 hcc hcn hcm i0 i1 i2 hdc hdn hdm j0 j1 j2 hlc hu1 hq k0
  go_enter Try.func75, Try.ntmps75
  go_upto_region 38 with fail
  rw [HX.out]
  clear x0 x1 x2 x3 x4
  go_still_tail 13, (by kernel_rfl)
  change wpList _ _ _ _ _ X.drew
  have HID : Hid (ValI w X.drew #[.slice A1 n1 c1, .slice _ _ _, .slice A3 n3 c3] #[.slice AM nm cm] #[.int .i64 25, .slice K kn kc, .int .i64 N, .int .i64 D, .string nme] (.slice (some ⟨b0, off, none⟩) 3 ck)) := HI.out.keep (below_drewN (Below.refl _ _) 1)
  have HL2 := Lib.hid (HL.out X.drew (below_drewN (Below.refl _ _) 1))
  have HZX := Lib.hid hzx
  clear hc0 hc1 hc2 hc3 hd0 hd1 hd2 hd3 he0 xk hzx hz3 hb0x
  go_wp2_with fail
  refine HL2.out.mono ?_
  rintro e w6 ⟨A5, c5, rfl, h51, h52, h53, hb6⟩
  have HI6 := Lib.hid (HID.out.keep hb6)
  have HA5 := Lib.hid (And.intro h51 (And.intro h52 h53))
  clear hb6 h51 h52 h53
  obtain ⟨m0, m1, m2, m3, u0, u1, u2, u3, zm⟩ := HI6.out.val.four
  go_wp2_with fail
  have hF := HI6.out.fin (.int .i64 0) (.int .i64 0) (.slice A5 q.length c5) (.int .i64 ur)
  have hAZ : Arr AtCell 2 (put4 w6 (w.heap.size + 4) (.int .i64 0) (.int .i64 0) (.slice A5 q.length c5) (.int .i64 ur)) (fun b => S0 b ∨ (w.heap.size ≤ b ∧ b < (put4 w6 (w.heap.size + 4) (.int .i64 0) (.int .i64 0) (.slice A5 q.length c5) (.int .i64 ur)).heap.size)) A5 q.length q := HA5.out.2.2.keep stays_cell (fun b hb => .inr (by have h9 : X.heap.size ≤ b ∧ b < w6.heap.size := hb; have := HZX.out; unfold put4; simp; omega)) (fun b o hb => only_cell (row := some (w.heap.size + 4)) (put4_only (only_refl w6 _) _ _ _ _) hb.2 (fun e => by injection e with e; have h9 : X.heap.size ≤ b ∧ b < w6.heap.size := hb; have := HZX.out; omega))
  exact val_ret HI6.out.val rfl rfl rfl rfl (⟨hF.1, A5, c5, rfl, HA5.out.1, HA5.out.2.1, hAZ⟩)

end Go.Proofs.Ythooecojopfjbaa
