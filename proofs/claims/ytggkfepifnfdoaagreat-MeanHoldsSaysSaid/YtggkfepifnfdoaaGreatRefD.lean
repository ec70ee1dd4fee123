/- Walk: the value of a node, operator by operator: the reference. -/
import Derived.Test.YtggkfepifnfdoaaGreatRefAB
import Derived.Test.YtggkfepifnfdoaaGreatRefC
import Derived.Test.YtggkfepifnfdoaaGreatValM
import Derived.Test.YtggkfepifnfdoaaGreatPlainV
import Derived.Deep.RegionHeld3
import Derived.StillTailTactics
namespace Go.Proofs.YtggkfepifnfdoaaGreat
open Go.RowKit

/-- a value is stored as the result, and told with a truth -/
theorem ref_ret {R : Ending → World → Prop} {ac : Act} {W : World} {g g' : Nat} {t : TypeId} {a0 b0 c0 d0 n d sl r : Value} {bo : Bool} (h : Blk W g t #[a0, b0, c0, d0]) (hg : g' = g) (h1 : ac.tmps[10]?.getD undef = .pointer (some ⟨g', 0, none⟩)) (h2 : ac.tmps[11]?.getD undef = .bool bo) (hd : ac.defers = [])
    (hR : R (.returned (.tuple #[.agg #[n, d, sl, r], .bool bo])) (put4 W g n d sl r)) : bodyPost Tryz.prog Tryz.f17 R .ret ac ((((W.setCell ⟨g', 0, none⟩ n).setCell ⟨g', 1, none⟩ d).setCell ⟨g', 2, none⟩ sl).setCell ⟨g', 3, none⟩ r) := by
  subst hg
  have hz1 := put4_blk h n d sl r
  change bodyPost _ _ R .ret ac (put4 W g' n d sl r)
  generalize put4 W g' n d sl r = Z at hz1 hR ⊢
  have d0 := hz1.cell 0
  have d1 := hz1.cell 1
  have d2 := hz1.cell 2
  have d3 := hz1.cell 3
  simp only [List.getElem?_toArray, List.getElem?_cons_zero, List.getElem?_cons_succ] at d0 d1 d2 d3
  exact bodyPost_ret (v := .tuple #[.agg #[n, d, sl, r], .bool bo]) (by simp [results, Tryz.results17, go_sem, h1, h2, d0, d1, d2, d3]) hd hR

/-- what lies in memory while the reference values a node -/
structure RefI (w W : World) (ca cw cn : Array Value) : Prop where
  below : Below w.heap.size w W
  ask : Blk W w.heap.size 26 ca
  wld : Blk W (w.heap.size + 1) 29 cw
  node : Blk W (w.heap.size + 2) 43 cn
  val : Blk W (w.heap.size + 3) 48 #[.int .i64 0, .int .i64 0, .slice none 0 0, .int .i64 0]
theorem RefI.keep {w W W' : World} {ca cw cn : Array Value} (h : RefI w W ca cw cn) (hb : Below W.heap.size W W') : RefI w W' ca cw cn :=
  ⟨h.below.trans (hb.mono h.below.size), h.ask.below hb h.ask.lt, h.wld.below hb h.wld.lt, h.node.below hb h.node.lt, h.val.below hb h.val.lt⟩
theorem RefI.start (w : World) (ca cw cn : Array Value) : ∃ X, (((w.alloc (.cells ca 26)).alloc (.cells cw 29)).alloc (.cells cn 43)).alloc (.cells #[.int .i64 0, .int .i64 0, .slice none 0 0, .int .i64 0] 48) = X ∧ RefI w X ca cw cn ∧ X.heap.size = w.heap.size + 4 := by
  obtain ⟨Y, hY, hb, k1, k2, k3, k4, hs⟩ := boxes4 w 26 29 43 48 ca cw cn #[.int .i64 0, .int .i64 0, .slice none 0 0, .int .i64 0]
  exact ⟨Y, hY, ⟨hb, k1, k2, k3, k4⟩, hs⟩
theorem RefI.fin {w W : World} {ca cw cn : Array Value} (h : RefI w W ca cw cn) (a b c d : Value) : Below w.heap.size w (put4 W (w.heap.size + 3) a b c d) ∧ Blk (put4 W (w.heap.size + 3) a b c d) (w.heap.size + 3) 48 #[a, b, c, d] :=
  ⟨put4_below h.below (by omega) a b c d, put4_blk h.val a b c d⟩

theorem all_ones : ∀ {vs : List ValueD}, (∀ v ∈ vs, BoolV v) → (vs.countP isOne = vs.length ↔ vs.any isZero = false)
  | [], _ => by simp
  | v :: r, h => by
    have ih := all_ones (vs := r) (fun x hx => h x (by simp [hx]))
    have hle : r.countP isOne ≤ r.length := List.countP_le_length
    rcases h v (by simp) with e | e <;> subst e
    · simp [isOne, isZero, numV]
      omega
    · simpa [isOne, isZero, numV, List.countP_cons] using ih

set_option maxRecDepth 100000 in
set_option maxHeartbeats 4000000 in
theorem ref_1 (A1 A2 A3 : Option Addr) (n1 c1 n2 c2 n3 c3 : Nat) (AM : Option Addr) (nm cm : Nat) (s : Int) (K : Option Addr) (kn kc : Nat) (N D : Int) (nme : ByteArray) (AK : Option Addr) (ck : Nat) (S0 : Nat → Prop) (w : World) (hvs : Arr AtValue 4 w S0 AK 0 []) (hS0 : ∀ b, S0 b → b < w.heap.size) :
    Calls Tryz.prog 17 #[.agg #[.slice A1 n1 c1, .slice A2 n2 c2, .slice A3 n3 c3], .agg #[.slice AM nm cm], .agg #[.int .i64 1, .slice K kn kc, .int .i64 N, .int .i64 D, .string nme], .int .i64 s, .slice AK 0 ck] w (ValueP S0 w (some (bitV true))) := by
  obtain ⟨X, hX, hI, hsX⟩ := RefI.start w #[.slice A1 n1 c1, .slice A2 n2 c2, .slice A3 n3 c3] #[.slice AM nm cm] #[.int .i64 1, .slice K kn kc, .int .i64 N, .int .i64 D, .string nme]
  have x0 : X.cell? ⟨w.heap.size + 2, 0, none⟩ = some (.int .i64 1) := hI.node.cell 0
  have x2 : X.cell? ⟨w.heap.size + 2, 2, none⟩ = some (.int .i64 N) := hI.node.cell 2
  have x3 : X.cell? ⟨w.heap.size + 2, 3, none⟩ = some (.int .i64 D) := hI.node.cell 3
  have hzx : w.heap.size + 3 < X.heap.size := hI.val.lt
  have hvX : Arr AtValue 4 X S0 AK 0 [] := hvs.keep stays_value (fun _ h => h) (fun b o h => hI.below.cell (p := ⟨b, o, none⟩) (hS0 b h))
  have HX := Lib.hid hX
  have HI := Lib.hid hI
  have HVX := Lib.hid hvX
  have HS0 := Lib.hid hS0
  have HSX := Lib.hid hsX
  have hl := hvX.len
  have HLV := Lib.hid hl
  obtain ⟨C, hC⟩ : ∃ C, ([] : List ValueD).countP isOne = C := ⟨_, rfl⟩
  have HC0 : Hid (0 + (([] : List ValueD).drop 0).countP isOne = C) := by show _ = _; rw [Nat.zero_add]; exact hC
  have HCC := Lib.hid hC
  clear hX hI hsX hvs hvX hS0 hl hC
  go_enter Tryz.func17, Tryz.ntmps17
  go_wp2_with fail
  rw [HX.out]
  clear x0 x2 x3
  go_loop [16, 17] (fun s16 s17 => ∃ (k y : Nat), k ≤ 0 ∧ s17 = .int .i64 k ∧ s16 = .int .i64 y ∧ y ≤ k ∧ Hid (y + (([] : List ValueD).drop k).countP isOne = C)) (fun _ s17 => 0 - (intOf s17).toNat)
  case atStart => exact ⟨0, 0, Nat.zero_le _, rfl, rfl, Nat.le_refl _, HC0⟩
  case round =>
    clear HC0
    obtain ⟨k, y, hk, rfl, rfl, hy, HY⟩ := hrel
    by_cases hlt : k < 0
    · omega
    · have hkk : k = 0 := by omega
      subst hkk
      have e1 := HY.out
      rw [List.drop_of_length_le (by rw [HLV.out]; exact Nat.le_refl _), List.countP_nil, Nat.add_zero] at e1
      subst e1
      have x0 : X.cell? ⟨w.heap.size + 2, 0, none⟩ = some (.int .i64 1) := HI.out.node.cell 0
      have x2 : X.cell? ⟨w.heap.size + 2, 2, none⟩ = some (.int .i64 N) := HI.out.node.cell 2
      have x3 : X.cell? ⟨w.heap.size + 2, 3, none⟩ = some (.int .i64 D) := HI.out.node.cell 3
      clear HY hk hlt
      clear HVX
      go_wp2_with fail
      clear x0 x2 x3
      refine (rbit_any _ _).mono ?_
      rintro e w6 ⟨rfl, hb6⟩
      have HI6 := Lib.hid (HI.out.keep hb6)
      clear hb6
      obtain ⟨m0, m1, m2, m3, u0, u1, u2, u3, zm⟩ := HI6.out.val.four
      go_wp2_with fail
      have hF := HI6.out.fin (.int .i64 (bitN true)) (.int .i64 1) (.slice none 0 0) (.int .i64 0)
      exact ref_ret HI6.out.val rfl rfl rfl rfl (valueP_plain (bitN true) 1 hF.1)

set_option maxRecDepth 100000 in
set_option maxHeartbeats 4000000 in
theorem ref_2 (A1 A2 A3 : Option Addr) (n1 c1 n2 c2 n3 c3 : Nat) (AM : Option Addr) (nm cm : Nat) (s : Int) (K : Option Addr) (kn kc : Nat) (N D : Int) (nme : ByteArray) (AK : Option Addr) (ck : Nat) (S0 : Nat → Prop) (w : World) (hvs : Arr AtValue 4 w S0 AK 0 []) (hS0 : ∀ b, S0 b → b < w.heap.size) :
    Calls Tryz.prog 17 #[.agg #[.slice A1 n1 c1, .slice A2 n2 c2, .slice A3 n3 c3], .agg #[.slice AM nm cm], .agg #[.int .i64 2, .slice K kn kc, .int .i64 N, .int .i64 D, .string nme], .int .i64 s, .slice AK 0 ck] w (ValueP S0 w (some (bitV false))) := by
  obtain ⟨X, hX, hI, hsX⟩ := RefI.start w #[.slice A1 n1 c1, .slice A2 n2 c2, .slice A3 n3 c3] #[.slice AM nm cm] #[.int .i64 2, .slice K kn kc, .int .i64 N, .int .i64 D, .string nme]
  have x0 : X.cell? ⟨w.heap.size + 2, 0, none⟩ = some (.int .i64 2) := hI.node.cell 0
  have x2 : X.cell? ⟨w.heap.size + 2, 2, none⟩ = some (.int .i64 N) := hI.node.cell 2
  have x3 : X.cell? ⟨w.heap.size + 2, 3, none⟩ = some (.int .i64 D) := hI.node.cell 3
  have hzx : w.heap.size + 3 < X.heap.size := hI.val.lt
  have hvX : Arr AtValue 4 X S0 AK 0 [] := hvs.keep stays_value (fun _ h => h) (fun b o h => hI.below.cell (p := ⟨b, o, none⟩) (hS0 b h))
  have HX := Lib.hid hX
  have HI := Lib.hid hI
  have HVX := Lib.hid hvX
  have HS0 := Lib.hid hS0
  have HSX := Lib.hid hsX
  have hl := hvX.len
  have HLV := Lib.hid hl
  obtain ⟨C, hC⟩ : ∃ C, ([] : List ValueD).countP isOne = C := ⟨_, rfl⟩
  have HC0 : Hid (0 + (([] : List ValueD).drop 0).countP isOne = C) := by show _ = _; rw [Nat.zero_add]; exact hC
  have HCC := Lib.hid hC
  clear hX hI hsX hvs hvX hS0 hl hC
  go_enter Tryz.func17, Tryz.ntmps17
  go_wp2_with fail
  rw [HX.out]
  clear x0 x2 x3
  go_loop [16, 17] (fun s16 s17 => ∃ (k y : Nat), k ≤ 0 ∧ s17 = .int .i64 k ∧ s16 = .int .i64 y ∧ y ≤ k ∧ Hid (y + (([] : List ValueD).drop k).countP isOne = C)) (fun _ s17 => 0 - (intOf s17).toNat)
  case atStart => exact ⟨0, 0, Nat.zero_le _, rfl, rfl, Nat.le_refl _, HC0⟩
  case round =>
    clear HC0
    obtain ⟨k, y, hk, rfl, rfl, hy, HY⟩ := hrel
    by_cases hlt : k < 0
    · omega
    · have hkk : k = 0 := by omega
      subst hkk
      have e1 := HY.out
      rw [List.drop_of_length_le (by rw [HLV.out]; exact Nat.le_refl _), List.countP_nil, Nat.add_zero] at e1
      subst e1
      have x0 : X.cell? ⟨w.heap.size + 2, 0, none⟩ = some (.int .i64 2) := HI.out.node.cell 0
      have x2 : X.cell? ⟨w.heap.size + 2, 2, none⟩ = some (.int .i64 N) := HI.out.node.cell 2
      have x3 : X.cell? ⟨w.heap.size + 2, 3, none⟩ = some (.int .i64 D) := HI.out.node.cell 3
      clear HY hk hlt
      clear HVX
      go_wp2_with fail
      clear x0 x2 x3
      refine (rbit_any _ _).mono ?_
      rintro e w6 ⟨rfl, hb6⟩
      have HI6 := Lib.hid (HI.out.keep hb6)
      clear hb6
      obtain ⟨m0, m1, m2, m3, u0, u1, u2, u3, zm⟩ := HI6.out.val.four
      go_wp2_with fail
      have hF := HI6.out.fin (.int .i64 (bitN false)) (.int .i64 1) (.slice none 0 0) (.int .i64 0)
      exact ref_ret HI6.out.val rfl rfl rfl rfl (valueP_plain (bitN false) 1 hF.1)

set_option maxRecDepth 100000 in
set_option maxHeartbeats 4000000 in
theorem ref_3 (A1 A2 A3 : Option Addr) (n1 c1 n2 c2 n3 c3 : Nat) (AM : Option Addr) (nm cm : Nat) (s : Int) (K : Option Addr) (kn kc : Nat) (N D : Int) (nme : ByteArray) (AK : Option Addr) (ck : Nat) (u : ValueD) (S0 : Nat → Prop) (w : World) (hvs : Arr AtValue 4 w S0 AK 1 [u]) (hS0 : ∀ b, S0 b → b < w.heap.size) :
    Calls Tryz.prog 17 #[.agg #[.slice A1 n1 c1, .slice A2 n2 c2, .slice A3 n3 c3], .agg #[.slice AM nm cm], .agg #[.int .i64 3, .slice K kn kc, .int .i64 N, .int .i64 D, .string nme], .int .i64 s, .slice AK 1 ck] w (ValueP S0 w (some (bitV (!isOne u)))) := by
  obtain ⟨X, hX, hI, hsX⟩ := RefI.start w #[.slice A1 n1 c1, .slice A2 n2 c2, .slice A3 n3 c3] #[.slice AM nm cm] #[.int .i64 3, .slice K kn kc, .int .i64 N, .int .i64 D, .string nme]
  have x0 : X.cell? ⟨w.heap.size + 2, 0, none⟩ = some (.int .i64 3) := hI.node.cell 0
  have x2 : X.cell? ⟨w.heap.size + 2, 2, none⟩ = some (.int .i64 N) := hI.node.cell 2
  have x3 : X.cell? ⟨w.heap.size + 2, 3, none⟩ = some (.int .i64 D) := hI.node.cell 3
  have hzx : w.heap.size + 3 < X.heap.size := hI.val.lt
  have hvX : Arr AtValue 4 X S0 AK 1 [u] := hvs.keep stays_value (fun _ h => h) (fun b o h => hI.below.cell (p := ⟨b, o, none⟩) (hS0 b h))
  have HX := Lib.hid hX
  have HI := Lib.hid hI
  have HVX := Lib.hid hvX
  have HS0 := Lib.hid hS0
  have HSX := Lib.hid hsX
  have hl := hvX.len
  have HLV := Lib.hid hl
  obtain ⟨C, hC⟩ : ∃ C, ([u] : List ValueD).countP isOne = C := ⟨_, rfl⟩
  have HC0 : Hid (0 + (([u] : List ValueD).drop 0).countP isOne = C) := by show _ = _; rw [Nat.zero_add]; exact hC
  obtain ⟨t, ht⟩ : ∃ t, (!isOne u) = t := ⟨_, rfl⟩
  have hq : ((C : Int) == 0) = t ∧ (C == 0) = t := by
    rw [← hC, ← ht]
    cases h : isOne u <;> simp [h]
  obtain ⟨hq1, hq2⟩ := hq
  rw [ht]
  clear ht
  have HCC := Lib.hid hC
  clear hX hI hsX hvs hvX hS0 hl hC
  go_enter Tryz.func17, Tryz.ntmps17
  go_wp2_with fail
  rw [HX.out]
  clear x0 x2 x3
  go_loop [16, 17] (fun s16 s17 => ∃ (k y : Nat), k ≤ 1 ∧ s17 = .int .i64 k ∧ s16 = .int .i64 y ∧ y ≤ k ∧ Hid (y + (([u] : List ValueD).drop k).countP isOne = C)) (fun _ s17 => 1 - (intOf s17).toNat)
  case atStart => exact ⟨0, 0, Nat.zero_le _, rfl, rfl, Nat.le_refl _, HC0⟩
  case round =>
    clear HC0
    obtain ⟨k, y, hk, rfl, rfl, hy, HY⟩ := hrel
    by_cases hlt : k < 1
    · obtain ⟨b0, off, hx, A5, n5, c5, rfl, -, v0, -, -, -, -, -, -, -, -, -⟩ := values_get HVX.out hlt
      have e1 := HY.out
      rw [drop_cons hx, List.countP_cons] at e1
      generalize ([u] : List ValueD)[k] = u9 at e1 v0
      obtain ⟨un9, ud9, uc9, ur9⟩ := u9
      dsimp only at v0
      clear hx HY
      cases hq : isOne ⟨un9, ud9, uc9, ur9⟩ with
      | true =>
        have q1 : (un9 == 1) = true := hq
        rw [hq, if_pos rfl] at e1
        have H1 : Hid (y + 1 + (([u] : List ValueD).drop (k + 1)).countP isOne = C) := by show _ = _; omega
        clear hq e1
        go_wp2_with fail
        go_round
        case rel => exact ⟨k + 1, y + 1, by omega, by go_num, by go_num, by omega, H1⟩
        case measure => simp [intOf]; omega
      | false =>
        have q1 : (un9 == 1) = false := hq
        rw [hq, if_neg (by simp)] at e1
        have H1 : Hid (y + (([u] : List ValueD).drop (k + 1)).countP isOne = C) := by show _ = _; omega
        clear hq e1
        go_wp2_with fail
        go_round
        case rel => exact ⟨k + 1, y, by omega, by go_num, rfl, by omega, H1⟩
        case measure => simp [intOf]; omega
    · have hkk : k = 1 := by omega
      subst hkk
      have e1 := HY.out
      rw [List.drop_of_length_le (by rw [HLV.out]; exact Nat.le_refl _), List.countP_nil, Nat.add_zero] at e1
      subst e1
      have x0 : X.cell? ⟨w.heap.size + 2, 0, none⟩ = some (.int .i64 3) := HI.out.node.cell 0
      have x2 : X.cell? ⟨w.heap.size + 2, 2, none⟩ = some (.int .i64 N) := HI.out.node.cell 2
      have x3 : X.cell? ⟨w.heap.size + 2, 3, none⟩ = some (.int .i64 D) := HI.out.node.cell 3
      clear HY hk hlt
      go_wp2_with fail
      clear x0 x2 x3
      refine (rbit_any _ _).mono ?_
      rintro e w6 ⟨rfl, hb6⟩
      have HI6 := Lib.hid (HI.out.keep hb6)
      clear hb6
      obtain ⟨m0, m1, m2, m3, u0, u1, u2, u3, zm⟩ := HI6.out.val.four
      go_wp2_with fail
      have hF := HI6.out.fin (.int .i64 (bitN t)) (.int .i64 1) (.slice none 0 0) (.int .i64 0)
      exact ref_ret HI6.out.val rfl rfl rfl rfl (valueP_plain (bitN t) 1 hF.1)

set_option maxRecDepth 100000 in
set_option maxHeartbeats 4000000 in
theorem ref_4 (A1 A2 A3 : Option Addr) (n1 c1 n2 c2 n3 c3 : Nat) (AM : Option Addr) (nm cm : Nat) (s : Int) (K : Option Addr) (kn kc : Nat) (N D : Int) (nme : ByteArray) (AK : Option Addr) (ck : Nat) (nk : Nat) (vs : List ValueD) (S0 : Nat → Prop) (w : World) (hvs : Arr AtValue 4 w S0 AK nk vs) (hS0 : ∀ b, S0 b → b < w.heap.size) (hnk : nk ≤ 1000) (hv : ∀ v ∈ vs, BoolV v) :
    Calls Tryz.prog 17 #[.agg #[.slice A1 n1 c1, .slice A2 n2 c2, .slice A3 n3 c3], .agg #[.slice AM nm cm], .agg #[.int .i64 4, .slice K kn kc, .int .i64 N, .int .i64 D, .string nme], .int .i64 s, .slice AK nk ck] w (ValueP S0 w (some (bitV (!vs.any isZero)))) := by
  obtain ⟨X, hX, hI, hsX⟩ := RefI.start w #[.slice A1 n1 c1, .slice A2 n2 c2, .slice A3 n3 c3] #[.slice AM nm cm] #[.int .i64 4, .slice K kn kc, .int .i64 N, .int .i64 D, .string nme]
  have x0 : X.cell? ⟨w.heap.size + 2, 0, none⟩ = some (.int .i64 4) := hI.node.cell 0
  have x2 : X.cell? ⟨w.heap.size + 2, 2, none⟩ = some (.int .i64 N) := hI.node.cell 2
  have x3 : X.cell? ⟨w.heap.size + 2, 3, none⟩ = some (.int .i64 D) := hI.node.cell 3
  have hzx : w.heap.size + 3 < X.heap.size := hI.val.lt
  have hvX : Arr AtValue 4 X S0 AK nk vs := hvs.keep stays_value (fun _ h => h) (fun b o h => hI.below.cell (p := ⟨b, o, none⟩) (hS0 b h))
  have HX := Lib.hid hX
  have HI := Lib.hid hI
  have HVX := Lib.hid hvX
  have HS0 := Lib.hid hS0
  have HSX := Lib.hid hsX
  have hl := hvX.len
  have HLV := Lib.hid hl
  obtain ⟨C, hC⟩ : ∃ C, (vs : List ValueD).countP isOne = C := ⟨_, rfl⟩
  have HC0 : Hid (0 + ((vs : List ValueD).drop 0).countP isOne = C) := by show _ = _; rw [Nat.zero_add]; exact hC
  obtain ⟨t, ht⟩ : ∃ t, (!vs.any isZero) = t := ⟨_, rfl⟩
  have hcount : C = nk ↔ vs.any isZero = false := by
    rw [← hC, ← hl]
    exact all_ones hv
  have hq : ((C : Int) == (nk : Int)) = t ∧ (C == nk) = t := by
    rw [← ht]
    cases h : vs.any isZero with
    | true =>
      have : ¬ C = nk := fun e => by have := hcount.1 e; rw [h] at this; cases this
      simp [this]; omega
    | false => simp [hcount.2 h]
  obtain ⟨hq1, hq2⟩ := hq
  clear hcount
  rw [ht]
  clear ht hv
  have HCC := Lib.hid hC
  clear hX hI hsX hvs hvX hS0 hl hC
  go_enter Tryz.func17, Tryz.ntmps17
  go_wp2_with fail
  rw [HX.out]
  clear x0 x2 x3
  go_loop [16, 17] (fun s16 s17 => ∃ (k y : Nat), k ≤ nk ∧ s17 = .int .i64 k ∧ s16 = .int .i64 y ∧ y ≤ k ∧ Hid (y + ((vs : List ValueD).drop k).countP isOne = C)) (fun _ s17 => nk - (intOf s17).toNat)
  case atStart => exact ⟨0, 0, Nat.zero_le _, rfl, rfl, Nat.le_refl _, HC0⟩
  case round =>
    clear HC0
    obtain ⟨k, y, hk, rfl, rfl, hy, HY⟩ := hrel
    by_cases hlt : k < nk
    · obtain ⟨b0, off, hx, A5, n5, c5, rfl, -, v0, -, -, -, -, -, -, -, -, -⟩ := values_get HVX.out hlt
      have e1 := HY.out
      rw [drop_cons hx, List.countP_cons] at e1
      generalize (vs : List ValueD)[k] = u9 at e1 v0
      obtain ⟨un9, ud9, uc9, ur9⟩ := u9
      dsimp only at v0
      have hkI : (k : Int) < nk := by omega
      clear hx HY
      cases hq : isOne ⟨un9, ud9, uc9, ur9⟩ with
      | true =>
        have q1 : (un9 == 1) = true := hq
        rw [hq, if_pos rfl] at e1
        have H1 : Hid (y + 1 + ((vs : List ValueD).drop (k + 1)).countP isOne = C) := by show _ = _; omega
        clear hq e1
        go_wp2_with fail
        go_round
        case rel => exact ⟨k + 1, y + 1, by omega, by go_num, by go_num, by omega, H1⟩
        case measure => simp [intOf]; omega
      | false =>
        have q1 : (un9 == 1) = false := hq
        rw [hq, if_neg (by simp)] at e1
        have H1 : Hid (y + ((vs : List ValueD).drop (k + 1)).countP isOne = C) := by show _ = _; omega
        clear hq e1
        go_wp2_with fail
        go_round
        case rel => exact ⟨k + 1, y, by omega, by go_num, rfl, by omega, H1⟩
        case measure => simp [intOf]; omega
    · obtain rfl : nk = k := by omega
      have e1 := HY.out
      rw [List.drop_of_length_le (by rw [HLV.out]; exact Nat.le_refl _), List.countP_nil, Nat.add_zero] at e1
      subst e1
      have hkI : ¬ ((nk : Nat) : Int) < (nk : Int) := by omega
      have x0 : X.cell? ⟨w.heap.size + 2, 0, none⟩ = some (.int .i64 4) := HI.out.node.cell 0
      have x2 : X.cell? ⟨w.heap.size + 2, 2, none⟩ = some (.int .i64 N) := HI.out.node.cell 2
      have x3 : X.cell? ⟨w.heap.size + 2, 3, none⟩ = some (.int .i64 D) := HI.out.node.cell 3
      clear HY hk hlt
      go_wp2_with fail
      clear x0 x2 x3
      refine (rbit_any _ _).mono ?_
      rintro e w6 ⟨rfl, hb6⟩
      have HI6 := Lib.hid (HI.out.keep hb6)
      clear hb6
      obtain ⟨m0, m1, m2, m3, u0, u1, u2, u3, zm⟩ := HI6.out.val.four
      go_wp2_with fail
      have hF := HI6.out.fin (.int .i64 (bitN t)) (.int .i64 1) (.slice none 0 0) (.int .i64 0)
      exact ref_ret HI6.out.val rfl rfl rfl rfl (valueP_plain (bitN t) 1 hF.1)

set_option maxRecDepth 100000 in
set_option maxHeartbeats 4000000 in
theorem ref_5 (A1 A2 A3 : Option Addr) (n1 c1 n2 c2 n3 c3 : Nat) (AM : Option Addr) (nm cm : Nat) (s : Int) (K : Option Addr) (kn kc : Nat) (N D : Int) (nme : ByteArray) (AK : Option Addr) (ck : Nat) (nk : Nat) (vs : List ValueD) (S0 : Nat → Prop) (w : World) (hvs : Arr AtValue 4 w S0 AK nk vs) (hS0 : ∀ b, S0 b → b < w.heap.size) (hnk : nk ≤ 1000) :
    Calls Tryz.prog 17 #[.agg #[.slice A1 n1 c1, .slice A2 n2 c2, .slice A3 n3 c3], .agg #[.slice AM nm cm], .agg #[.int .i64 5, .slice K kn kc, .int .i64 N, .int .i64 D, .string nme], .int .i64 s, .slice AK nk ck] w (ValueP S0 w (some (bitV (vs.any isOne)))) := by
  obtain ⟨X, hX, hI, hsX⟩ := RefI.start w #[.slice A1 n1 c1, .slice A2 n2 c2, .slice A3 n3 c3] #[.slice AM nm cm] #[.int .i64 5, .slice K kn kc, .int .i64 N, .int .i64 D, .string nme]
  have x0 : X.cell? ⟨w.heap.size + 2, 0, none⟩ = some (.int .i64 5) := hI.node.cell 0
  have x2 : X.cell? ⟨w.heap.size + 2, 2, none⟩ = some (.int .i64 N) := hI.node.cell 2
  have x3 : X.cell? ⟨w.heap.size + 2, 3, none⟩ = some (.int .i64 D) := hI.node.cell 3
  have hzx : w.heap.size + 3 < X.heap.size := hI.val.lt
  have hvX : Arr AtValue 4 X S0 AK nk vs := hvs.keep stays_value (fun _ h => h) (fun b o h => hI.below.cell (p := ⟨b, o, none⟩) (hS0 b h))
  have HX := Lib.hid hX
  have HI := Lib.hid hI
  have HVX := Lib.hid hvX
  have HS0 := Lib.hid hS0
  have HSX := Lib.hid hsX
  have hl := hvX.len
  have HLV := Lib.hid hl
  obtain ⟨C, hC⟩ : ∃ C, (vs : List ValueD).countP isOne = C := ⟨_, rfl⟩
  have HC0 : Hid (0 + ((vs : List ValueD).drop 0).countP isOne = C) := by show _ = _; rw [Nat.zero_add]; exact hC
  obtain ⟨t, ht⟩ : ∃ t, (vs.any isOne) = t := ⟨_, rfl⟩
  have hcount : 0 < C ↔ vs.any isOne = true := by rw [← hC, List.countP_pos_iff, List.any_eq_true]
  have hq : decide ((C : Int) > 0) = t ∧ decide (0 < C) = t := by
    rw [← ht]
    cases h : vs.any isOne with
    | true => have := hcount.2 h; simp; omega
    | false =>
      have : ¬ 0 < C := fun e => by have := hcount.1 e; rw [h] at this; cases this
      simp; omega
  obtain ⟨hq1, hq2⟩ := hq
  clear hcount
  rw [ht]
  clear ht
  have HCC := Lib.hid hC
  clear hX hI hsX hvs hvX hS0 hl hC
  go_enter Tryz.func17, Tryz.ntmps17
  go_wp2_with fail
  rw [HX.out]
  clear x0 x2 x3
  go_loop [16, 17] (fun s16 s17 => ∃ (k y : Nat), k ≤ nk ∧ s17 = .int .i64 k ∧ s16 = .int .i64 y ∧ y ≤ k ∧ Hid (y + ((vs : List ValueD).drop k).countP isOne = C)) (fun _ s17 => nk - (intOf s17).toNat)
  case atStart => exact ⟨0, 0, Nat.zero_le _, rfl, rfl, Nat.le_refl _, HC0⟩
  case round =>
    clear HC0
    obtain ⟨k, y, hk, rfl, rfl, hy, HY⟩ := hrel
    by_cases hlt : k < nk
    · obtain ⟨b0, off, hx, A5, n5, c5, rfl, -, v0, -, -, -, -, -, -, -, -, -⟩ := values_get HVX.out hlt
      have e1 := HY.out
      rw [drop_cons hx, List.countP_cons] at e1
      generalize (vs : List ValueD)[k] = u9 at e1 v0
      obtain ⟨un9, ud9, uc9, ur9⟩ := u9
      dsimp only at v0
      have hkI : (k : Int) < nk := by omega
      clear hx HY
      cases hq : isOne ⟨un9, ud9, uc9, ur9⟩ with
      | true =>
        have q1 : (un9 == 1) = true := hq
        rw [hq, if_pos rfl] at e1
        have H1 : Hid (y + 1 + ((vs : List ValueD).drop (k + 1)).countP isOne = C) := by show _ = _; omega
        clear hq e1
        go_wp2_with fail
        go_round
        case rel => exact ⟨k + 1, y + 1, by omega, by go_num, by go_num, by omega, H1⟩
        case measure => simp [intOf]; omega
      | false =>
        have q1 : (un9 == 1) = false := hq
        rw [hq, if_neg (by simp)] at e1
        have H1 : Hid (y + ((vs : List ValueD).drop (k + 1)).countP isOne = C) := by show _ = _; omega
        clear hq e1
        go_wp2_with fail
        go_round
        case rel => exact ⟨k + 1, y, by omega, by go_num, rfl, by omega, H1⟩
        case measure => simp [intOf]; omega
    · obtain rfl : nk = k := by omega
      have e1 := HY.out
      rw [List.drop_of_length_le (by rw [HLV.out]; exact Nat.le_refl _), List.countP_nil, Nat.add_zero] at e1
      subst e1
      have hkI : ¬ ((nk : Nat) : Int) < (nk : Int) := by omega
      have x0 : X.cell? ⟨w.heap.size + 2, 0, none⟩ = some (.int .i64 5) := HI.out.node.cell 0
      have x2 : X.cell? ⟨w.heap.size + 2, 2, none⟩ = some (.int .i64 N) := HI.out.node.cell 2
      have x3 : X.cell? ⟨w.heap.size + 2, 3, none⟩ = some (.int .i64 D) := HI.out.node.cell 3
      clear HY hk hlt
      go_wp2_with fail
      clear x0 x2 x3
      refine (rbit_any _ _).mono ?_
      rintro e w6 ⟨rfl, hb6⟩
      have HI6 := Lib.hid (HI.out.keep hb6)
      clear hb6
      obtain ⟨m0, m1, m2, m3, u0, u1, u2, u3, zm⟩ := HI6.out.val.four
      go_wp2_with fail
      have hF := HI6.out.fin (.int .i64 (bitN t)) (.int .i64 1) (.slice none 0 0) (.int .i64 0)
      exact ref_ret HI6.out.val rfl rfl rfl rfl (valueP_plain (bitN t) 1 hF.1)

set_option maxRecDepth 100000 in
set_option maxHeartbeats 4000000 in
theorem ref_6a (A1 A2 A3 : Option Addr) (n1 c1 n2 c2 n3 c3 : Nat) (AM : Option Addr) (nm cm : Nat) (s : Int) (K : Option Addr) (kn kc : Nat) (N D : Int) (nme : ByteArray) (AK : Option Addr) (ck : Nat) (u v : ValueD) (S0 : Nat → Prop) (w : World) (hvs : Arr AtValue 4 w S0 AK 2 [u, v]) (hS0 : ∀ b, S0 b → b < w.heap.size) (hq1 : (u.num == v.num) = false) :
    Calls Tryz.prog 17 #[.agg #[.slice A1 n1 c1, .slice A2 n2 c2, .slice A3 n3 c3], .agg #[.slice AM nm cm], .agg #[.int .i64 6, .slice K kn kc, .int .i64 N, .int .i64 D, .string nme], .int .i64 s, .slice AK 2 ck] w (ValueP S0 w (some (bitV false))) := by
  obtain ⟨X, hX, hI, hsX⟩ := RefI.start w #[.slice A1 n1 c1, .slice A2 n2 c2, .slice A3 n3 c3] #[.slice AM nm cm] #[.int .i64 6, .slice K kn kc, .int .i64 N, .int .i64 D, .string nme]
  have x0 : X.cell? ⟨w.heap.size + 2, 0, none⟩ = some (.int .i64 6) := hI.node.cell 0
  have x2 : X.cell? ⟨w.heap.size + 2, 2, none⟩ = some (.int .i64 N) := hI.node.cell 2
  have x3 : X.cell? ⟨w.heap.size + 2, 3, none⟩ = some (.int .i64 D) := hI.node.cell 3
  have hzx : w.heap.size + 3 < X.heap.size := hI.val.lt
  have hvX : Arr AtValue 4 X S0 AK 2 [u, v] := hvs.keep stays_value (fun _ h => h) (fun b o h => hI.below.cell (p := ⟨b, o, none⟩) (hS0 b h))
  have HX := Lib.hid hX
  have HI := Lib.hid hI
  have HVX := Lib.hid hvX
  have HS0 := Lib.hid hS0
  have HSX := Lib.hid hsX
  have hl := hvX.len
  have HLV := Lib.hid hl
  obtain ⟨C, hC⟩ : ∃ C, ([u, v] : List ValueD).countP isOne = C := ⟨_, rfl⟩
  have HC0 : Hid (0 + (([u, v] : List ValueD).drop 0).countP isOne = C) := by show _ = _; rw [Nat.zero_add]; exact hC
  have HCC := Lib.hid hC
  clear hX hI hsX hvs hvX hS0 hl hC
  go_enter Tryz.func17, Tryz.ntmps17
  go_wp2_with fail
  rw [HX.out]
  clear x0 x2 x3
  go_loop [16, 17] (fun s16 s17 => ∃ (k y : Nat), k ≤ 2 ∧ s17 = .int .i64 k ∧ s16 = .int .i64 y ∧ y ≤ k ∧ Hid (y + (([u, v] : List ValueD).drop k).countP isOne = C)) (fun _ s17 => 2 - (intOf s17).toNat)
  case atStart => exact ⟨0, 0, Nat.zero_le _, rfl, rfl, Nat.le_refl _, HC0⟩
  case round =>
    clear HC0
    obtain ⟨k, y, hk, rfl, rfl, hy, HY⟩ := hrel
    by_cases hlt : k < 2
    · obtain ⟨b0, off, hx, A5, n5, c5, rfl, -, v0, -, -, -, -, -, -, -, -, -⟩ := values_get HVX.out hlt
      have e1 := HY.out
      rw [drop_cons hx, List.countP_cons] at e1
      generalize ([u, v] : List ValueD)[k] = u9 at e1 v0
      obtain ⟨un9, ud9, uc9, ur9⟩ := u9
      dsimp only at v0
      clear hx HY
      cases hq : isOne ⟨un9, ud9, uc9, ur9⟩ with
      | true =>
        have q1 : (un9 == 1) = true := hq
        rw [hq, if_pos rfl] at e1
        have H1 : Hid (y + 1 + (([u, v] : List ValueD).drop (k + 1)).countP isOne = C) := by show _ = _; omega
        clear hq e1
        go_wp2_with fail
        go_round
        case rel => exact ⟨k + 1, y + 1, by omega, by go_num, by go_num, by omega, H1⟩
        case measure => simp [intOf]; omega
      | false =>
        have q1 : (un9 == 1) = false := hq
        rw [hq, if_neg (by simp)] at e1
        have H1 : Hid (y + (([u, v] : List ValueD).drop (k + 1)).countP isOne = C) := by show _ = _; omega
        clear hq e1
        go_wp2_with fail
        go_round
        case rel => exact ⟨k + 1, y, by omega, by go_num, rfl, by omega, H1⟩
        case measure => simp [intOf]; omega
    · have hkk : k = 2 := by omega
      subst hkk
      have e1 := HY.out
      rw [List.drop_of_length_le (by rw [HLV.out]; exact Nat.le_refl _), List.countP_nil, Nat.add_zero] at e1
      subst e1
      have x0 : X.cell? ⟨w.heap.size + 2, 0, none⟩ = some (.int .i64 6) := HI.out.node.cell 0
      have x2 : X.cell? ⟨w.heap.size + 2, 2, none⟩ = some (.int .i64 N) := HI.out.node.cell 2
      have x3 : X.cell? ⟨w.heap.size + 2, 3, none⟩ = some (.int .i64 D) := HI.out.node.cell 3
      clear HY hk hlt
      obtain ⟨b0, off, hx, A4, n4, c4, rfl, hb0, v0, v1, v2, v3, hcc, hcn, hcm, i0, i1, i2⟩ := values_get HVX.out (i := 0) (by omega)
      obtain ⟨b1, off1, hx1, A5, n5, c5, hA1, -, w0, w1, w2, w3, -, -, -, j0, -, -⟩ := values_get HVX.out (i := 1) (by omega)
      injection hA1 with hA1
      injection hA1 with e1 e2
      subst e1 e2
      simp only [List.getElem_cons_succ, List.getElem_cons_zero, Nat.zero_mul, Nat.add_zero, Nat.one_mul] at v0 v1 v3 v2 hcc i0 i1 i2 w0 w1 w2 w3 j0
      have hbX : b0 < X.heap.size := Nat.lt_of_lt_of_le (HS0.out b0 hb0) HI.out.below.size
      obtain ⟨un, ud, uc, ur⟩ := u
      obtain ⟨vn, vd, vc, vr⟩ := v
      dsimp only at v0 v1 v3 w0 w1 w3 hq1
      clear hx hx1 hcc hcn hcm i0 i1 i2 j0 HVX HCC
      go_upto_region 32 with fail
      go_still_tail 9, (by kernel_rfl)
      change wpList _ _ _ _ _ X.drew
      have HID : Hid (RefI w X.drew #[.slice A1 n1 c1, .slice A2 n2 c2, .slice A3 n3 c3] #[.slice AM nm cm] #[.int .i64 6, .slice K kn kc, .int .i64 N, .int .i64 D, .string nme]) := HI.out.keep (below_drewN (Below.refl _ _) 1)
      clear v0 v1 v2 v3 w0 w1 w2 w3 x0 x2 x3 hzx hbX hb0
      go_wp2_with fail
      refine (rbit_any _ _).mono ?_
      rintro e w6 ⟨rfl, hb6⟩
      have HI6 := Lib.hid (HID.out.keep hb6)
      clear hb6
      obtain ⟨m0, m1, m2, m3, u0, u1, u2, u3, zm⟩ := HI6.out.val.four
      go_wp2_with fail
      have hF := HI6.out.fin (.int .i64 (bitN false)) (.int .i64 1) (.slice none 0 0) (.int .i64 0)
      exact ref_ret HI6.out.val rfl rfl rfl rfl (valueP_plain (bitN false) 1 hF.1)

set_option maxRecDepth 100000 in
set_option maxHeartbeats 4000000 in
theorem ref_6c (A1 A2 A3 : Option Addr) (n1 c1 n2 c2 n3 c3 : Nat) (AM : Option Addr) (nm cm : Nat) (s : Int) (K : Option Addr) (kn kc : Nat) (N D : Int) (nme : ByteArray) (AK : Option Addr) (ck : Nat) (u v : ValueD) (S0 : Nat → Prop) (w : World) (hvs : Arr AtValue 4 w S0 AK 2 [u, v]) (hS0 : ∀ b, S0 b → b < w.heap.size) (hq1 : (u.num == v.num) = true) (hq2 : (u.den == v.den) = true) :
    Calls Tryz.prog 17 #[.agg #[.slice A1 n1 c1, .slice A2 n2 c2, .slice A3 n3 c3], .agg #[.slice AM nm cm], .agg #[.int .i64 6, .slice K kn kc, .int .i64 N, .int .i64 D, .string nme], .int .i64 s, .slice AK 2 ck] w (ValueP S0 w (some (bitV true))) := by
  obtain ⟨X, hX, hI, hsX⟩ := RefI.start w #[.slice A1 n1 c1, .slice A2 n2 c2, .slice A3 n3 c3] #[.slice AM nm cm] #[.int .i64 6, .slice K kn kc, .int .i64 N, .int .i64 D, .string nme]
  have x0 : X.cell? ⟨w.heap.size + 2, 0, none⟩ = some (.int .i64 6) := hI.node.cell 0
  have x2 : X.cell? ⟨w.heap.size + 2, 2, none⟩ = some (.int .i64 N) := hI.node.cell 2
  have x3 : X.cell? ⟨w.heap.size + 2, 3, none⟩ = some (.int .i64 D) := hI.node.cell 3
  have hzx : w.heap.size + 3 < X.heap.size := hI.val.lt
  have hvX : Arr AtValue 4 X S0 AK 2 [u, v] := hvs.keep stays_value (fun _ h => h) (fun b o h => hI.below.cell (p := ⟨b, o, none⟩) (hS0 b h))
  have HX := Lib.hid hX
  have HI := Lib.hid hI
  have HVX := Lib.hid hvX
  have HS0 := Lib.hid hS0
  have HSX := Lib.hid hsX
  have hl := hvX.len
  have HLV := Lib.hid hl
  obtain ⟨C, hC⟩ : ∃ C, ([u, v] : List ValueD).countP isOne = C := ⟨_, rfl⟩
  have HC0 : Hid (0 + (([u, v] : List ValueD).drop 0).countP isOne = C) := by show _ = _; rw [Nat.zero_add]; exact hC
  have HCC := Lib.hid hC
  clear hX hI hsX hvs hvX hS0 hl hC
  go_enter Tryz.func17, Tryz.ntmps17
  go_wp2_with fail
  rw [HX.out]
  clear x0 x2 x3
  go_loop [16, 17] (fun s16 s17 => ∃ (k y : Nat), k ≤ 2 ∧ s17 = .int .i64 k ∧ s16 = .int .i64 y ∧ y ≤ k ∧ Hid (y + (([u, v] : List ValueD).drop k).countP isOne = C)) (fun _ s17 => 2 - (intOf s17).toNat)
  case atStart => exact ⟨0, 0, Nat.zero_le _, rfl, rfl, Nat.le_refl _, HC0⟩
  case round =>
    clear HC0
    obtain ⟨k, y, hk, rfl, rfl, hy, HY⟩ := hrel
    by_cases hlt : k < 2
    · obtain ⟨b0, off, hx, A5, n5, c5, rfl, -, v0, -, -, -, -, -, -, -, -, -⟩ := values_get HVX.out hlt
      have e1 := HY.out
      rw [drop_cons hx, List.countP_cons] at e1
      generalize ([u, v] : List ValueD)[k] = u9 at e1 v0
      obtain ⟨un9, ud9, uc9, ur9⟩ := u9
      dsimp only at v0
      clear hx HY
      cases hq : isOne ⟨un9, ud9, uc9, ur9⟩ with
      | true =>
        have q1 : (un9 == 1) = true := hq
        rw [hq, if_pos rfl] at e1
        have H1 : Hid (y + 1 + (([u, v] : List ValueD).drop (k + 1)).countP isOne = C) := by show _ = _; omega
        clear hq e1
        go_wp2_with fail
        go_round
        case rel => exact ⟨k + 1, y + 1, by omega, by go_num, by go_num, by omega, H1⟩
        case measure => simp [intOf]; omega
      | false =>
        have q1 : (un9 == 1) = false := hq
        rw [hq, if_neg (by simp)] at e1
        have H1 : Hid (y + (([u, v] : List ValueD).drop (k + 1)).countP isOne = C) := by show _ = _; omega
        clear hq e1
        go_wp2_with fail
        go_round
        case rel => exact ⟨k + 1, y, by omega, by go_num, rfl, by omega, H1⟩
        case measure => simp [intOf]; omega
    · have hkk : k = 2 := by omega
      subst hkk
      have e1 := HY.out
      rw [List.drop_of_length_le (by rw [HLV.out]; exact Nat.le_refl _), List.countP_nil, Nat.add_zero] at e1
      subst e1
      have x0 : X.cell? ⟨w.heap.size + 2, 0, none⟩ = some (.int .i64 6) := HI.out.node.cell 0
      have x2 : X.cell? ⟨w.heap.size + 2, 2, none⟩ = some (.int .i64 N) := HI.out.node.cell 2
      have x3 : X.cell? ⟨w.heap.size + 2, 3, none⟩ = some (.int .i64 D) := HI.out.node.cell 3
      clear HY hk hlt
      obtain ⟨b0, off, hx, A4, n4, c4, rfl, hb0, v0, v1, v2, v3, hcc, hcn, hcm, i0, i1, i2⟩ := values_get HVX.out (i := 0) (by omega)
      obtain ⟨b1, off1, hx1, A5, n5, c5, hA1, -, w0, w1, w2, w3, -, -, -, j0, -, -⟩ := values_get HVX.out (i := 1) (by omega)
      injection hA1 with hA1
      injection hA1 with e1 e2
      subst e1 e2
      simp only [List.getElem_cons_succ, List.getElem_cons_zero, Nat.zero_mul, Nat.add_zero, Nat.one_mul] at v0 v1 v3 v2 hcc i0 i1 i2 w0 w1 w2 w3 j0
      have hbX : b0 < X.heap.size := Nat.lt_of_lt_of_le (HS0.out b0 hb0) HI.out.below.size
      obtain ⟨un, ud, uc, ur⟩ := u
      obtain ⟨vn, vd, vc, vr⟩ := v
      dsimp only at v0 v1 v3 w0 w1 w3 hq1 hq2
      clear hx hx1 hcc hcn hcm i0 i1 i2 j0 HVX HCC
      go_upto_region 32 with fail
      go_still_tail 9, (by kernel_rfl)
      change wpList _ _ _ _ _ X.drew
      have HID : Hid (RefI w X.drew #[.slice A1 n1 c1, .slice A2 n2 c2, .slice A3 n3 c3] #[.slice AM nm cm] #[.int .i64 6, .slice K kn kc, .int .i64 N, .int .i64 D, .string nme]) := HI.out.keep (below_drewN (Below.refl _ _) 1)
      clear v0 v1 v2 v3 w0 w1 w2 w3 x0 x2 x3 hzx hbX hb0
      go_wp2_with fail
      refine (rbit_any _ _).mono ?_
      rintro e w6 ⟨rfl, hb6⟩
      have HI6 := Lib.hid (HID.out.keep hb6)
      clear hb6
      obtain ⟨m0, m1, m2, m3, u0, u1, u2, u3, zm⟩ := HI6.out.val.four
      go_wp2_with fail
      have hF := HI6.out.fin (.int .i64 (bitN true)) (.int .i64 1) (.slice none 0 0) (.int .i64 0)
      exact ref_ret HI6.out.val rfl rfl rfl rfl (valueP_plain (bitN true) 1 hF.1)

set_option maxRecDepth 100000 in
set_option maxHeartbeats 4000000 in
theorem ref_7a (A1 A2 A3 : Option Addr) (n1 c1 n2 c2 n3 c3 : Nat) (AM : Option Addr) (nm cm : Nat) (s : Int) (K : Option Addr) (kn kc : Nat) (N D : Int) (nme : ByteArray) (AK : Option Addr) (ck : Nat) (u v x : ValueD) (S0 : Nat → Prop) (w : World) (hvs : Arr AtValue 4 w S0 AK 3 [u, v, x]) (hS0 : ∀ b, S0 b → b < w.heap.size) (hu : isOne u = true) :
    Calls Tryz.prog 17 #[.agg #[.slice A1 n1 c1, .slice A2 n2 c2, .slice A3 n3 c3], .agg #[.slice AM nm cm], .agg #[.int .i64 7, .slice K kn kc, .int .i64 N, .int .i64 D, .string nme], .int .i64 s, .slice AK 3 ck] w (ValueP S0 w (some v)) := by
  obtain ⟨X, hX, hI, hsX⟩ := RefI.start w #[.slice A1 n1 c1, .slice A2 n2 c2, .slice A3 n3 c3] #[.slice AM nm cm] #[.int .i64 7, .slice K kn kc, .int .i64 N, .int .i64 D, .string nme]
  have x0 : X.cell? ⟨w.heap.size + 2, 0, none⟩ = some (.int .i64 7) := hI.node.cell 0
  have x2 : X.cell? ⟨w.heap.size + 2, 2, none⟩ = some (.int .i64 N) := hI.node.cell 2
  have x3 : X.cell? ⟨w.heap.size + 2, 3, none⟩ = some (.int .i64 D) := hI.node.cell 3
  have hzx : w.heap.size + 3 < X.heap.size := hI.val.lt
  have hvX : Arr AtValue 4 X S0 AK 3 [u, v, x] := hvs.keep stays_value (fun _ h => h) (fun b o h => hI.below.cell (p := ⟨b, o, none⟩) (hS0 b h))
  have HX := Lib.hid hX
  have HI := Lib.hid hI
  have HVX := Lib.hid hvX
  have HS0 := Lib.hid hS0
  have HSX := Lib.hid hsX
  have hl := hvX.len
  have HLV := Lib.hid hl
  obtain ⟨C, hC⟩ : ∃ C, ([u, v, x] : List ValueD).countP isOne = C := ⟨_, rfl⟩
  have HC0 : Hid (0 + (([u, v, x] : List ValueD).drop 0).countP isOne = C) := by show _ = _; rw [Nat.zero_add]; exact hC
  have HCC := Lib.hid hC
  clear hX hI hsX hvs hvX hS0 hl hC
  go_enter Tryz.func17, Tryz.ntmps17
  go_wp2_with fail
  rw [HX.out]
  clear x0 x2 x3
  go_loop [16, 17] (fun s16 s17 => ∃ (k y : Nat), k ≤ 3 ∧ s17 = .int .i64 k ∧ s16 = .int .i64 y ∧ y ≤ k ∧ Hid (y + (([u, v, x] : List ValueD).drop k).countP isOne = C)) (fun _ s17 => 3 - (intOf s17).toNat)
  case atStart => exact ⟨0, 0, Nat.zero_le _, rfl, rfl, Nat.le_refl _, HC0⟩
  case round =>
    clear HC0
    obtain ⟨k, y, hk, rfl, rfl, hy, HY⟩ := hrel
    by_cases hlt : k < 3
    · obtain ⟨b0, off, hx, A5, n5, c5, rfl, -, v0, -, -, -, -, -, -, -, -, -⟩ := values_get HVX.out hlt
      have e1 := HY.out
      rw [drop_cons hx, List.countP_cons] at e1
      generalize ([u, v, x] : List ValueD)[k] = u9 at e1 v0
      obtain ⟨un9, ud9, uc9, ur9⟩ := u9
      dsimp only at v0
      clear hx HY
      cases hq : isOne ⟨un9, ud9, uc9, ur9⟩ with
      | true =>
        have q1 : (un9 == 1) = true := hq
        rw [hq, if_pos rfl] at e1
        have H1 : Hid (y + 1 + (([u, v, x] : List ValueD).drop (k + 1)).countP isOne = C) := by show _ = _; omega
        clear hq e1
        go_wp2_with fail
        go_round
        case rel => exact ⟨k + 1, y + 1, by omega, by go_num, by go_num, by omega, H1⟩
        case measure => simp [intOf]; omega
      | false =>
        have q1 : (un9 == 1) = false := hq
        rw [hq, if_neg (by simp)] at e1
        have H1 : Hid (y + (([u, v, x] : List ValueD).drop (k + 1)).countP isOne = C) := by show _ = _; omega
        clear hq e1
        go_wp2_with fail
        go_round
        case rel => exact ⟨k + 1, y, by omega, by go_num, rfl, by omega, H1⟩
        case measure => simp [intOf]; omega
    · have hkk : k = 3 := by omega
      subst hkk
      have e1 := HY.out
      rw [List.drop_of_length_le (by rw [HLV.out]; exact Nat.le_refl _), List.countP_nil, Nat.add_zero] at e1
      subst e1
      have x0 : X.cell? ⟨w.heap.size + 2, 0, none⟩ = some (.int .i64 7) := HI.out.node.cell 0
      have x2 : X.cell? ⟨w.heap.size + 2, 2, none⟩ = some (.int .i64 N) := HI.out.node.cell 2
      have x3 : X.cell? ⟨w.heap.size + 2, 3, none⟩ = some (.int .i64 D) := HI.out.node.cell 3
      clear HY hk hlt
      obtain ⟨b0, off, hx, A4, n4, c4, rfl, hb0, v0, v1, v2, v3, -, -, -, -, -, -⟩ := values_get HVX.out (i := 0) (by omega)
      obtain ⟨b1, off1, hx1, A5, n5, c5, hA1, -, w0, w1, w2, w3, hcc, hcn, hcm, -, -, -⟩ := values_get HVX.out (i := 1) (by omega)
      injection hA1 with hA1
      injection hA1 with e1 e2
      subst e1 e2
      simp only [List.getElem_cons_succ, List.getElem_cons_zero, Nat.zero_mul, Nat.add_zero, Nat.one_mul] at v0 w0 w1 w2 w3 hcc
      have hbX : b0 < X.heap.size := Nat.lt_of_lt_of_le (HS0.out b0 hb0) HI.out.below.size
      have hlen := hcc.len
      have HA := Lib.hid (And.intro hcc (And.intro hcn hcm))
      have q1 : (u.num == 1) = true := hu
      obtain ⟨un, ud, uc, ur⟩ := u
      obtain ⟨vn, vd, vc, vr⟩ := v
      dsimp only at v0 w0 w1 w3 hlen HA q1
      clear hx hx1 hcc hcn hcm HVX HCC hu v1 v2 v3
      obtain ⟨m0, m1, m2, m3, u0, u1, u2, u3, zm⟩ := HI.out.val.four
      go_wp2_with fail
      have hF := HI.out.fin (.int .i64 vn) (.int .i64 vd) (.slice A5 n5 c5) (.int .i64 vr)
      have hAZ : Arr AtCell 2 (put4 X (w.heap.size + 3) (.int .i64 vn) (.int .i64 vd) (.slice A5 n5 c5) (.int .i64 vr)) (fun b => S0 b ∨ (w.heap.size ≤ b ∧ b < (put4 X (w.heap.size + 3) (.int .i64 vn) (.int .i64 vd) (.slice A5 n5 c5) (.int .i64 vr)).heap.size)) A5 n5 vc := HA.out.1.keep stays_cell (fun b hb => .inl hb) (fun b o hb => only_cell (row := some (w.heap.size + 3)) (put4_only (only_refl X _) _ _ _ _) (by have h1 := HS0.out b hb; have := HSX.out; omega) (fun e => by injection e with e; have h1 := HS0.out b hb; omega))
      exact ref_ret HI.out.val rfl rfl rfl rfl (⟨hF.1, A5, c5, by rw [hlen], by dsimp only; rw [hlen]; exact HA.out.2.1, HA.out.2.2, by dsimp only; rw [hlen]; exact hAZ⟩)

set_option maxRecDepth 100000 in
set_option maxHeartbeats 4000000 in
theorem ref_7b (A1 A2 A3 : Option Addr) (n1 c1 n2 c2 n3 c3 : Nat) (AM : Option Addr) (nm cm : Nat) (s : Int) (K : Option Addr) (kn kc : Nat) (N D : Int) (nme : ByteArray) (AK : Option Addr) (ck : Nat) (u v x : ValueD) (S0 : Nat → Prop) (w : World) (hvs : Arr AtValue 4 w S0 AK 3 [u, v, x]) (hS0 : ∀ b, S0 b → b < w.heap.size) (hu : isOne u = false) :
    Calls Tryz.prog 17 #[.agg #[.slice A1 n1 c1, .slice A2 n2 c2, .slice A3 n3 c3], .agg #[.slice AM nm cm], .agg #[.int .i64 7, .slice K kn kc, .int .i64 N, .int .i64 D, .string nme], .int .i64 s, .slice AK 3 ck] w (ValueP S0 w (some x)) := by
  obtain ⟨X, hX, hI, hsX⟩ := RefI.start w #[.slice A1 n1 c1, .slice A2 n2 c2, .slice A3 n3 c3] #[.slice AM nm cm] #[.int .i64 7, .slice K kn kc, .int .i64 N, .int .i64 D, .string nme]
  have x0 : X.cell? ⟨w.heap.size + 2, 0, none⟩ = some (.int .i64 7) := hI.node.cell 0
  have x2 : X.cell? ⟨w.heap.size + 2, 2, none⟩ = some (.int .i64 N) := hI.node.cell 2
  have x3 : X.cell? ⟨w.heap.size + 2, 3, none⟩ = some (.int .i64 D) := hI.node.cell 3
  have hzx : w.heap.size + 3 < X.heap.size := hI.val.lt
  have hvX : Arr AtValue 4 X S0 AK 3 [u, v, x] := hvs.keep stays_value (fun _ h => h) (fun b o h => hI.below.cell (p := ⟨b, o, none⟩) (hS0 b h))
  have HX := Lib.hid hX
  have HI := Lib.hid hI
  have HVX := Lib.hid hvX
  have HS0 := Lib.hid hS0
  have HSX := Lib.hid hsX
  have hl := hvX.len
  have HLV := Lib.hid hl
  obtain ⟨C, hC⟩ : ∃ C, ([u, v, x] : List ValueD).countP isOne = C := ⟨_, rfl⟩
  have HC0 : Hid (0 + (([u, v, x] : List ValueD).drop 0).countP isOne = C) := by show _ = _; rw [Nat.zero_add]; exact hC
  have HCC := Lib.hid hC
  clear hX hI hsX hvs hvX hS0 hl hC
  go_enter Tryz.func17, Tryz.ntmps17
  go_wp2_with fail
  rw [HX.out]
  clear x0 x2 x3
  go_loop [16, 17] (fun s16 s17 => ∃ (k y : Nat), k ≤ 3 ∧ s17 = .int .i64 k ∧ s16 = .int .i64 y ∧ y ≤ k ∧ Hid (y + (([u, v, x] : List ValueD).drop k).countP isOne = C)) (fun _ s17 => 3 - (intOf s17).toNat)
  case atStart => exact ⟨0, 0, Nat.zero_le _, rfl, rfl, Nat.le_refl _, HC0⟩
  case round =>
    clear HC0
    obtain ⟨k, y, hk, rfl, rfl, hy, HY⟩ := hrel
    by_cases hlt : k < 3
    · obtain ⟨b0, off, hx, A5, n5, c5, rfl, -, v0, -, -, -, -, -, -, -, -, -⟩ := values_get HVX.out hlt
      have e1 := HY.out
      rw [drop_cons hx, List.countP_cons] at e1
      generalize ([u, v, x] : List ValueD)[k] = u9 at e1 v0
      obtain ⟨un9, ud9, uc9, ur9⟩ := u9
      dsimp only at v0
      clear hx HY
      cases hq : isOne ⟨un9, ud9, uc9, ur9⟩ with
      | true =>
        have q1 : (un9 == 1) = true := hq
        rw [hq, if_pos rfl] at e1
        have H1 : Hid (y + 1 + (([u, v, x] : List ValueD).drop (k + 1)).countP isOne = C) := by show _ = _; omega
        clear hq e1
        go_wp2_with fail
        go_round
        case rel => exact ⟨k + 1, y + 1, by omega, by go_num, by go_num, by omega, H1⟩
        case measure => simp [intOf]; omega
      | false =>
        have q1 : (un9 == 1) = false := hq
        rw [hq, if_neg (by simp)] at e1
        have H1 : Hid (y + (([u, v, x] : List ValueD).drop (k + 1)).countP isOne = C) := by show _ = _; omega
        clear hq e1
        go_wp2_with fail
        go_round
        case rel => exact ⟨k + 1, y, by omega, by go_num, rfl, by omega, H1⟩
        case measure => simp [intOf]; omega
    · have hkk : k = 3 := by omega
      subst hkk
      have e1 := HY.out
      rw [List.drop_of_length_le (by rw [HLV.out]; exact Nat.le_refl _), List.countP_nil, Nat.add_zero] at e1
      subst e1
      have x0 : X.cell? ⟨w.heap.size + 2, 0, none⟩ = some (.int .i64 7) := HI.out.node.cell 0
      have x2 : X.cell? ⟨w.heap.size + 2, 2, none⟩ = some (.int .i64 N) := HI.out.node.cell 2
      have x3 : X.cell? ⟨w.heap.size + 2, 3, none⟩ = some (.int .i64 D) := HI.out.node.cell 3
      clear HY hk hlt
      obtain ⟨b0, off, hx, A4, n4, c4, rfl, hb0, v0, v1, v2, v3, -, -, -, -, -, -⟩ := values_get HVX.out (i := 0) (by omega)
      obtain ⟨b1, off1, hx1, A5, n5, c5, hA1, -, w0, w1, w2, w3, hcc, hcn, hcm, -, -, -⟩ := values_get HVX.out (i := 2) (by omega)
      injection hA1 with hA1
      injection hA1 with e1 e2
      subst e1 e2
      simp only [List.getElem_cons_succ, List.getElem_cons_zero, Nat.zero_mul, Nat.add_zero] at v0 w0 w1 w2 w3 hcc
      have hbX : b0 < X.heap.size := Nat.lt_of_lt_of_le (HS0.out b0 hb0) HI.out.below.size
      have hlen := hcc.len
      have HA := Lib.hid (And.intro hcc (And.intro hcn hcm))
      have q1 : (u.num == 1) = false := hu
      obtain ⟨un, ud, uc, ur⟩ := u
      obtain ⟨vn, vd, vc, vr⟩ := x
      dsimp only at v0 w0 w1 w3 hlen HA q1
      clear hx hx1 hcc hcn hcm HVX HCC hu v1 v2 v3
      obtain ⟨m0, m1, m2, m3, u0, u1, u2, u3, zm⟩ := HI.out.val.four
      go_wp2_with fail
      have hF := HI.out.fin (.int .i64 vn) (.int .i64 vd) (.slice A5 n5 c5) (.int .i64 vr)
      have hAZ : Arr AtCell 2 (put4 X (w.heap.size + 3) (.int .i64 vn) (.int .i64 vd) (.slice A5 n5 c5) (.int .i64 vr)) (fun b => S0 b ∨ (w.heap.size ≤ b ∧ b < (put4 X (w.heap.size + 3) (.int .i64 vn) (.int .i64 vd) (.slice A5 n5 c5) (.int .i64 vr)).heap.size)) A5 n5 vc := HA.out.1.keep stays_cell (fun b hb => .inl hb) (fun b o hb => only_cell (row := some (w.heap.size + 3)) (put4_only (only_refl X _) _ _ _ _) (by have h1 := HS0.out b hb; have := HSX.out; omega) (fun e => by injection e with e; have h1 := HS0.out b hb; omega))
      exact ref_ret HI.out.val rfl rfl rfl rfl (⟨hF.1, A5, c5, by rw [hlen], by dsimp only; rw [hlen]; exact HA.out.2.1, HA.out.2.2, by dsimp only; rw [hlen]; exact hAZ⟩)

set_option maxRecDepth 100000 in
set_option maxHeartbeats 4000000 in
theorem ref_8a (A1 A2 A3 : Option Addr) (n1 c1 n2 c2 n3 c3 : Nat) (AM : Option Addr) (nm cm : Nat) (s : Int) (K : Option Addr) (kn kc : Nat) (N D : Int) (nme : ByteArray) (AK : Option Addr) (ck : Nat) (u v : ValueD) (S0 : Nat → Prop) (w : World) (hvs : Arr AtValue 4 w S0 AK 2 [u, v]) (hS0 : ∀ b, S0 b → b < w.heap.size) (hq1 : (u.num == v.num) = false) :
    Calls Tryz.prog 17 #[.agg #[.slice A1 n1 c1, .slice A2 n2 c2, .slice A3 n3 c3], .agg #[.slice AM nm cm], .agg #[.int .i64 8, .slice K kn kc, .int .i64 N, .int .i64 D, .string nme], .int .i64 s, .slice AK 2 ck] w (ValueP S0 w (some (bitV false))) := by
  obtain ⟨X, hX, hI, hsX⟩ := RefI.start w #[.slice A1 n1 c1, .slice A2 n2 c2, .slice A3 n3 c3] #[.slice AM nm cm] #[.int .i64 8, .slice K kn kc, .int .i64 N, .int .i64 D, .string nme]
  have x0 : X.cell? ⟨w.heap.size + 2, 0, none⟩ = some (.int .i64 8) := hI.node.cell 0
  have x2 : X.cell? ⟨w.heap.size + 2, 2, none⟩ = some (.int .i64 N) := hI.node.cell 2
  have x3 : X.cell? ⟨w.heap.size + 2, 3, none⟩ = some (.int .i64 D) := hI.node.cell 3
  have hzx : w.heap.size + 3 < X.heap.size := hI.val.lt
  have hvX : Arr AtValue 4 X S0 AK 2 [u, v] := hvs.keep stays_value (fun _ h => h) (fun b o h => hI.below.cell (p := ⟨b, o, none⟩) (hS0 b h))
  have HX := Lib.hid hX
  have HI := Lib.hid hI
  have HVX := Lib.hid hvX
  have HS0 := Lib.hid hS0
  have HSX := Lib.hid hsX
  have hl := hvX.len
  have HLV := Lib.hid hl
  obtain ⟨C, hC⟩ : ∃ C, ([u, v] : List ValueD).countP isOne = C := ⟨_, rfl⟩
  have HC0 : Hid (0 + (([u, v] : List ValueD).drop 0).countP isOne = C) := by show _ = _; rw [Nat.zero_add]; exact hC
  have HCC := Lib.hid hC
  clear hX hI hsX hvs hvX hS0 hl hC
  go_enter Tryz.func17, Tryz.ntmps17
  go_wp2_with fail
  rw [HX.out]
  clear x0 x2 x3
  go_loop [16, 17] (fun s16 s17 => ∃ (k y : Nat), k ≤ 2 ∧ s17 = .int .i64 k ∧ s16 = .int .i64 y ∧ y ≤ k ∧ Hid (y + (([u, v] : List ValueD).drop k).countP isOne = C)) (fun _ s17 => 2 - (intOf s17).toNat)
  case atStart => exact ⟨0, 0, Nat.zero_le _, rfl, rfl, Nat.le_refl _, HC0⟩
  case round =>
    clear HC0
    obtain ⟨k, y, hk, rfl, rfl, hy, HY⟩ := hrel
    by_cases hlt : k < 2
    · obtain ⟨b0, off, hx, A5, n5, c5, rfl, -, v0, -, -, -, -, -, -, -, -, -⟩ := values_get HVX.out hlt
      have e1 := HY.out
      rw [drop_cons hx, List.countP_cons] at e1
      generalize ([u, v] : List ValueD)[k] = u9 at e1 v0
      obtain ⟨un9, ud9, uc9, ur9⟩ := u9
      dsimp only at v0
      clear hx HY
      cases hq : isOne ⟨un9, ud9, uc9, ur9⟩ with
      | true =>
        have q1 : (un9 == 1) = true := hq
        rw [hq, if_pos rfl] at e1
        have H1 : Hid (y + 1 + (([u, v] : List ValueD).drop (k + 1)).countP isOne = C) := by show _ = _; omega
        clear hq e1
        go_wp2_with fail
        go_round
        case rel => exact ⟨k + 1, y + 1, by omega, by go_num, by go_num, by omega, H1⟩
        case measure => simp [intOf]; omega
      | false =>
        have q1 : (un9 == 1) = false := hq
        rw [hq, if_neg (by simp)] at e1
        have H1 : Hid (y + (([u, v] : List ValueD).drop (k + 1)).countP isOne = C) := by show _ = _; omega
        clear hq e1
        go_wp2_with fail
        go_round
        case rel => exact ⟨k + 1, y, by omega, by go_num, rfl, by omega, H1⟩
        case measure => simp [intOf]; omega
    · have hkk : k = 2 := by omega
      subst hkk
      have e1 := HY.out
      rw [List.drop_of_length_le (by rw [HLV.out]; exact Nat.le_refl _), List.countP_nil, Nat.add_zero] at e1
      subst e1
      have x0 : X.cell? ⟨w.heap.size + 2, 0, none⟩ = some (.int .i64 8) := HI.out.node.cell 0
      have x2 : X.cell? ⟨w.heap.size + 2, 2, none⟩ = some (.int .i64 N) := HI.out.node.cell 2
      have x3 : X.cell? ⟨w.heap.size + 2, 3, none⟩ = some (.int .i64 D) := HI.out.node.cell 3
      clear HY hk hlt
      obtain ⟨b0, off, hx, A4, n4, c4, rfl, hb0, v0, v1, v2, v3, hcc, hcn, hcm, i0, i1, i2⟩ := values_get HVX.out (i := 0) (by omega)
      obtain ⟨b1, off1, hx1, A5, n5, c5, hA1, -, w0, w1, w2, w3, -, -, -, j0, -, -⟩ := values_get HVX.out (i := 1) (by omega)
      injection hA1 with hA1
      injection hA1 with e1 e2
      subst e1 e2
      simp only [List.getElem_cons_succ, List.getElem_cons_zero, Nat.zero_mul, Nat.add_zero, Nat.one_mul] at v0 v1 v3 v2 hcc i0 i1 i2 w0 w1 w2 w3 j0
      have hbX : b0 < X.heap.size := Nat.lt_of_lt_of_le (HS0.out b0 hb0) HI.out.below.size
      obtain ⟨un, ud, uc, ur⟩ := u
      obtain ⟨vn, vd, vc, vr⟩ := v
      dsimp only at v0 v1 v3 w0 w1 w3 hq1
      clear hx hx1 hcc hcn hcm i0 i1 i2 j0 HVX HCC
      go_upto_region 32 with fail
      go_still_tail 9, (by kernel_rfl)
      change wpList _ _ _ _ _ X.drew
      have HID : Hid (RefI w X.drew #[.slice A1 n1 c1, .slice A2 n2 c2, .slice A3 n3 c3] #[.slice AM nm cm] #[.int .i64 8, .slice K kn kc, .int .i64 N, .int .i64 D, .string nme]) := HI.out.keep (below_drewN (Below.refl _ _) 1)
      clear v0 v1 v2 v3 w0 w1 w2 w3 x0 x2 x3 hzx hbX hb0
      go_wp2_with fail
      refine (rbit_any _ _).mono ?_
      rintro e w6 ⟨rfl, hb6⟩
      have HI6 := Lib.hid (HID.out.keep hb6)
      clear hb6
      obtain ⟨m0, m1, m2, m3, u0, u1, u2, u3, zm⟩ := HI6.out.val.four
      go_wp2_with fail
      have hF := HI6.out.fin (.int .i64 (bitN false)) (.int .i64 1) (.slice none 0 0) (.int .i64 0)
      exact ref_ret HI6.out.val rfl rfl rfl rfl (valueP_plain (bitN false) 1 hF.1)

set_option maxRecDepth 100000 in
set_option maxHeartbeats 4000000 in
theorem ref_8b (A1 A2 A3 : Option Addr) (n1 c1 n2 c2 n3 c3 : Nat) (AM : Option Addr) (nm cm : Nat) (s : Int) (K : Option Addr) (kn kc : Nat) (N D : Int) (nme : ByteArray) (AK : Option Addr) (ck : Nat) (u v : ValueD) (S0 : Nat → Prop) (w : World) (hvs : Arr AtValue 4 w S0 AK 2 [u, v]) (hS0 : ∀ b, S0 b → b < w.heap.size) (hq1 : (u.num == v.num) = true) (hq2 : (u.den == v.den) = false) :
    Calls Tryz.prog 17 #[.agg #[.slice A1 n1 c1, .slice A2 n2 c2, .slice A3 n3 c3], .agg #[.slice AM nm cm], .agg #[.int .i64 8, .slice K kn kc, .int .i64 N, .int .i64 D, .string nme], .int .i64 s, .slice AK 2 ck] w (ValueP S0 w (some (bitV false))) := by
  obtain ⟨X, hX, hI, hsX⟩ := RefI.start w #[.slice A1 n1 c1, .slice A2 n2 c2, .slice A3 n3 c3] #[.slice AM nm cm] #[.int .i64 8, .slice K kn kc, .int .i64 N, .int .i64 D, .string nme]
  have x0 : X.cell? ⟨w.heap.size + 2, 0, none⟩ = some (.int .i64 8) := hI.node.cell 0
  have x2 : X.cell? ⟨w.heap.size + 2, 2, none⟩ = some (.int .i64 N) := hI.node.cell 2
  have x3 : X.cell? ⟨w.heap.size + 2, 3, none⟩ = some (.int .i64 D) := hI.node.cell 3
  have hzx : w.heap.size + 3 < X.heap.size := hI.val.lt
  have hvX : Arr AtValue 4 X S0 AK 2 [u, v] := hvs.keep stays_value (fun _ h => h) (fun b o h => hI.below.cell (p := ⟨b, o, none⟩) (hS0 b h))
  have HX := Lib.hid hX
  have HI := Lib.hid hI
  have HVX := Lib.hid hvX
  have HS0 := Lib.hid hS0
  have HSX := Lib.hid hsX
  have hl := hvX.len
  have HLV := Lib.hid hl
  obtain ⟨C, hC⟩ : ∃ C, ([u, v] : List ValueD).countP isOne = C := ⟨_, rfl⟩
  have HC0 : Hid (0 + (([u, v] : List ValueD).drop 0).countP isOne = C) := by show _ = _; rw [Nat.zero_add]; exact hC
  have HCC := Lib.hid hC
  clear hX hI hsX hvs hvX hS0 hl hC
  go_enter Tryz.func17, Tryz.ntmps17
  go_wp2_with fail
  rw [HX.out]
  clear x0 x2 x3
  go_loop [16, 17] (fun s16 s17 => ∃ (k y : Nat), k ≤ 2 ∧ s17 = .int .i64 k ∧ s16 = .int .i64 y ∧ y ≤ k ∧ Hid (y + (([u, v] : List ValueD).drop k).countP isOne = C)) (fun _ s17 => 2 - (intOf s17).toNat)
  case atStart => exact ⟨0, 0, Nat.zero_le _, rfl, rfl, Nat.le_refl _, HC0⟩
  case round =>
    clear HC0
    obtain ⟨k, y, hk, rfl, rfl, hy, HY⟩ := hrel
    by_cases hlt : k < 2
    · obtain ⟨b0, off, hx, A5, n5, c5, rfl, -, v0, -, -, -, -, -, -, -, -, -⟩ := values_get HVX.out hlt
      have e1 := HY.out
      rw [drop_cons hx, List.countP_cons] at e1
      generalize ([u, v] : List ValueD)[k] = u9 at e1 v0
      obtain ⟨un9, ud9, uc9, ur9⟩ := u9
      dsimp only at v0
      clear hx HY
      cases hq : isOne ⟨un9, ud9, uc9, ur9⟩ with
      | true =>
        have q1 : (un9 == 1) = true := hq
        rw [hq, if_pos rfl] at e1
        have H1 : Hid (y + 1 + (([u, v] : List ValueD).drop (k + 1)).countP isOne = C) := by show _ = _; omega
        clear hq e1
        go_wp2_with fail
        go_round
        case rel => exact ⟨k + 1, y + 1, by omega, by go_num, by go_num, by omega, H1⟩
        case measure => simp [intOf]; omega
      | false =>
        have q1 : (un9 == 1) = false := hq
        rw [hq, if_neg (by simp)] at e1
        have H1 : Hid (y + (([u, v] : List ValueD).drop (k + 1)).countP isOne = C) := by show _ = _; omega
        clear hq e1
        go_wp2_with fail
        go_round
        case rel => exact ⟨k + 1, y, by omega, by go_num, rfl, by omega, H1⟩
        case measure => simp [intOf]; omega
    · have hkk : k = 2 := by omega
      subst hkk
      have e1 := HY.out
      rw [List.drop_of_length_le (by rw [HLV.out]; exact Nat.le_refl _), List.countP_nil, Nat.add_zero] at e1
      subst e1
      have x0 : X.cell? ⟨w.heap.size + 2, 0, none⟩ = some (.int .i64 8) := HI.out.node.cell 0
      have x2 : X.cell? ⟨w.heap.size + 2, 2, none⟩ = some (.int .i64 N) := HI.out.node.cell 2
      have x3 : X.cell? ⟨w.heap.size + 2, 3, none⟩ = some (.int .i64 D) := HI.out.node.cell 3
      clear HY hk hlt
      obtain ⟨b0, off, hx, A4, n4, c4, rfl, hb0, v0, v1, v2, v3, hcc, hcn, hcm, i0, i1, i2⟩ := values_get HVX.out (i := 0) (by omega)
      obtain ⟨b1, off1, hx1, A5, n5, c5, hA1, -, w0, w1, w2, w3, -, -, -, j0, -, -⟩ := values_get HVX.out (i := 1) (by omega)
      injection hA1 with hA1
      injection hA1 with e1 e2
      subst e1 e2
      simp only [List.getElem_cons_succ, List.getElem_cons_zero, Nat.zero_mul, Nat.add_zero, Nat.one_mul] at v0 v1 v3 v2 hcc i0 i1 i2 w0 w1 w2 w3 j0
      have hbX : b0 < X.heap.size := Nat.lt_of_lt_of_le (HS0.out b0 hb0) HI.out.below.size
      obtain ⟨un, ud, uc, ur⟩ := u
      obtain ⟨vn, vd, vc, vr⟩ := v
      dsimp only at v0 v1 v3 w0 w1 w3 hq1 hq2
      clear hx hx1 hcc hcn hcm i0 i1 i2 j0 HVX HCC
      go_upto_region 32 with fail
      go_still_tail 9, (by kernel_rfl)
      change wpList _ _ _ _ _ X.drew
      have HID : Hid (RefI w X.drew #[.slice A1 n1 c1, .slice A2 n2 c2, .slice A3 n3 c3] #[.slice AM nm cm] #[.int .i64 8, .slice K kn kc, .int .i64 N, .int .i64 D, .string nme]) := HI.out.keep (below_drewN (Below.refl _ _) 1)
      clear v0 v1 v2 v3 w0 w1 w2 w3 x0 x2 x3 hzx hbX hb0
      go_wp2_with fail
      refine (rbit_any _ _).mono ?_
      rintro e w6 ⟨rfl, hb6⟩
      have HI6 := Lib.hid (HID.out.keep hb6)
      clear hb6
      obtain ⟨m0, m1, m2, m3, u0, u1, u2, u3, zm⟩ := HI6.out.val.four
      go_wp2_with fail
      have hF := HI6.out.fin (.int .i64 (bitN false)) (.int .i64 1) (.slice none 0 0) (.int .i64 0)
      exact ref_ret HI6.out.val rfl rfl rfl rfl (valueP_plain (bitN false) 1 hF.1)

set_option maxRecDepth 100000 in
set_option maxHeartbeats 4000000 in
theorem ref_8c (A1 A2 A3 : Option Addr) (n1 c1 n2 c2 n3 c3 : Nat) (AM : Option Addr) (nm cm : Nat) (s : Int) (K : Option Addr) (kn kc : Nat) (N D : Int) (nme : ByteArray) (AK : Option Addr) (ck : Nat) (u v : ValueD) (S0 : Nat → Prop) (w : World) (hvs : Arr AtValue 4 w S0 AK 2 [u, v]) (hS0 : ∀ b, S0 b → b < w.heap.size) (hq1 : (u.num == v.num) = true) (hq2 : (u.den == v.den) = true) :
    Calls Tryz.prog 17 #[.agg #[.slice A1 n1 c1, .slice A2 n2 c2, .slice A3 n3 c3], .agg #[.slice AM nm cm], .agg #[.int .i64 8, .slice K kn kc, .int .i64 N, .int .i64 D, .string nme], .int .i64 s, .slice AK 2 ck] w (ValueP S0 w (some (bitV true))) := by
  obtain ⟨X, hX, hI, hsX⟩ := RefI.start w #[.slice A1 n1 c1, .slice A2 n2 c2, .slice A3 n3 c3] #[.slice AM nm cm] #[.int .i64 8, .slice K kn kc, .int .i64 N, .int .i64 D, .string nme]
  have x0 : X.cell? ⟨w.heap.size + 2, 0, none⟩ = some (.int .i64 8) := hI.node.cell 0
  have x2 : X.cell? ⟨w.heap.size + 2, 2, none⟩ = some (.int .i64 N) := hI.node.cell 2
  have x3 : X.cell? ⟨w.heap.size + 2, 3, none⟩ = some (.int .i64 D) := hI.node.cell 3
  have hzx : w.heap.size + 3 < X.heap.size := hI.val.lt
  have hvX : Arr AtValue 4 X S0 AK 2 [u, v] := hvs.keep stays_value (fun _ h => h) (fun b o h => hI.below.cell (p := ⟨b, o, none⟩) (hS0 b h))
  have HX := Lib.hid hX
  have HI := Lib.hid hI
  have HVX := Lib.hid hvX
  have HS0 := Lib.hid hS0
  have HSX := Lib.hid hsX
  have hl := hvX.len
  have HLV := Lib.hid hl
  obtain ⟨C, hC⟩ : ∃ C, ([u, v] : List ValueD).countP isOne = C := ⟨_, rfl⟩
  have HC0 : Hid (0 + (([u, v] : List ValueD).drop 0).countP isOne = C) := by show _ = _; rw [Nat.zero_add]; exact hC
  have HCC := Lib.hid hC
  clear hX hI hsX hvs hvX hS0 hl hC
  go_enter Tryz.func17, Tryz.ntmps17
  go_wp2_with fail
  rw [HX.out]
  clear x0 x2 x3
  go_loop [16, 17] (fun s16 s17 => ∃ (k y : Nat), k ≤ 2 ∧ s17 = .int .i64 k ∧ s16 = .int .i64 y ∧ y ≤ k ∧ Hid (y + (([u, v] : List ValueD).drop k).countP isOne = C)) (fun _ s17 => 2 - (intOf s17).toNat)
  case atStart => exact ⟨0, 0, Nat.zero_le _, rfl, rfl, Nat.le_refl _, HC0⟩
  case round =>
    clear HC0
    obtain ⟨k, y, hk, rfl, rfl, hy, HY⟩ := hrel
    by_cases hlt : k < 2
    · obtain ⟨b0, off, hx, A5, n5, c5, rfl, -, v0, -, -, -, -, -, -, -, -, -⟩ := values_get HVX.out hlt
      have e1 := HY.out
      rw [drop_cons hx, List.countP_cons] at e1
      generalize ([u, v] : List ValueD)[k] = u9 at e1 v0
      obtain ⟨un9, ud9, uc9, ur9⟩ := u9
      dsimp only at v0
      clear hx HY
      cases hq : isOne ⟨un9, ud9, uc9, ur9⟩ with
      | true =>
        have q1 : (un9 == 1) = true := hq
        rw [hq, if_pos rfl] at e1
        have H1 : Hid (y + 1 + (([u, v] : List ValueD).drop (k + 1)).countP isOne = C) := by show _ = _; omega
        clear hq e1
        go_wp2_with fail
        go_round
        case rel => exact ⟨k + 1, y + 1, by omega, by go_num, by go_num, by omega, H1⟩
        case measure => simp [intOf]; omega
      | false =>
        have q1 : (un9 == 1) = false := hq
        rw [hq, if_neg (by simp)] at e1
        have H1 : Hid (y + (([u, v] : List ValueD).drop (k + 1)).countP isOne = C) := by show _ = _; omega
        clear hq e1
        go_wp2_with fail
        go_round
        case rel => exact ⟨k + 1, y, by omega, by go_num, rfl, by omega, H1⟩
        case measure => simp [intOf]; omega
    · have hkk : k = 2 := by omega
      subst hkk
      have e1 := HY.out
      rw [List.drop_of_length_le (by rw [HLV.out]; exact Nat.le_refl _), List.countP_nil, Nat.add_zero] at e1
      subst e1
      have x0 : X.cell? ⟨w.heap.size + 2, 0, none⟩ = some (.int .i64 8) := HI.out.node.cell 0
      have x2 : X.cell? ⟨w.heap.size + 2, 2, none⟩ = some (.int .i64 N) := HI.out.node.cell 2
      have x3 : X.cell? ⟨w.heap.size + 2, 3, none⟩ = some (.int .i64 D) := HI.out.node.cell 3
      clear HY hk hlt
      obtain ⟨b0, off, hx, A4, n4, c4, rfl, hb0, v0, v1, v2, v3, hcc, hcn, hcm, i0, i1, i2⟩ := values_get HVX.out (i := 0) (by omega)
      obtain ⟨b1, off1, hx1, A5, n5, c5, hA1, -, w0, w1, w2, w3, -, -, -, j0, -, -⟩ := values_get HVX.out (i := 1) (by omega)
      injection hA1 with hA1
      injection hA1 with e1 e2
      subst e1 e2
      simp only [List.getElem_cons_succ, List.getElem_cons_zero, Nat.zero_mul, Nat.add_zero, Nat.one_mul] at v0 v1 v3 v2 hcc i0 i1 i2 w0 w1 w2 w3 j0
      have hbX : b0 < X.heap.size := Nat.lt_of_lt_of_le (HS0.out b0 hb0) HI.out.below.size
      obtain ⟨un, ud, uc, ur⟩ := u
      obtain ⟨vn, vd, vc, vr⟩ := v
      dsimp only at v0 v1 v3 w0 w1 w3 hq1 hq2
      clear hx hx1 hcc hcn hcm i0 i1 i2 j0 HVX HCC
      go_upto_region 32 with fail
      go_still_tail 9, (by kernel_rfl)
      change wpList _ _ _ _ _ X.drew
      have HID : Hid (RefI w X.drew #[.slice A1 n1 c1, .slice A2 n2 c2, .slice A3 n3 c3] #[.slice AM nm cm] #[.int .i64 8, .slice K kn kc, .int .i64 N, .int .i64 D, .string nme]) := HI.out.keep (below_drewN (Below.refl _ _) 1)
      clear v0 v1 v2 v3 w0 w1 w2 w3 x0 x2 x3 hzx hbX hb0
      go_wp2_with fail
      refine (rbit_any _ _).mono ?_
      rintro e w6 ⟨rfl, hb6⟩
      have HI6 := Lib.hid (HID.out.keep hb6)
      clear hb6
      obtain ⟨m0, m1, m2, m3, u0, u1, u2, u3, zm⟩ := HI6.out.val.four
      go_wp2_with fail
      have hF := HI6.out.fin (.int .i64 (bitN true)) (.int .i64 1) (.slice none 0 0) (.int .i64 0)
      exact ref_ret HI6.out.val rfl rfl rfl rfl (valueP_plain (bitN true) 1 hF.1)

set_option maxRecDepth 100000 in
set_option maxHeartbeats 4000000 in
theorem ref_10 (A1 A2 A3 : Option Addr) (n1 c1 n2 c2 n3 c3 : Nat) (AM : Option Addr) (nm cm : Nat) (s : Int) (K : Option Addr) (kn kc : Nat) (N D : Int) (nme : ByteArray) (AK : Option Addr) (ck : Nat) (S0 : Nat → Prop) (w : World) (hvs : Arr AtValue 4 w S0 AK 0 []) (hS0 : ∀ b, S0 b → b < w.heap.size) :
    Calls Tryz.prog 17 #[.agg #[.slice A1 n1 c1, .slice A2 n2 c2, .slice A3 n3 c3], .agg #[.slice AM nm cm], .agg #[.int .i64 10, .slice K kn kc, .int .i64 N, .int .i64 D, .string nme], .int .i64 s, .slice AK 0 ck] w (ValueP S0 w (some ⟨N, D, [], 0⟩)) := by
  obtain ⟨X, hX, hI, hsX⟩ := RefI.start w #[.slice A1 n1 c1, .slice A2 n2 c2, .slice A3 n3 c3] #[.slice AM nm cm] #[.int .i64 10, .slice K kn kc, .int .i64 N, .int .i64 D, .string nme]
  have x0 : X.cell? ⟨w.heap.size + 2, 0, none⟩ = some (.int .i64 10) := hI.node.cell 0
  have x2 : X.cell? ⟨w.heap.size + 2, 2, none⟩ = some (.int .i64 N) := hI.node.cell 2
  have x3 : X.cell? ⟨w.heap.size + 2, 3, none⟩ = some (.int .i64 D) := hI.node.cell 3
  have hzx : w.heap.size + 3 < X.heap.size := hI.val.lt
  have hvX : Arr AtValue 4 X S0 AK 0 [] := hvs.keep stays_value (fun _ h => h) (fun b o h => hI.below.cell (p := ⟨b, o, none⟩) (hS0 b h))
  have HX := Lib.hid hX
  have HI := Lib.hid hI
  have HVX := Lib.hid hvX
  have HS0 := Lib.hid hS0
  have HSX := Lib.hid hsX
  have hl := hvX.len
  have HLV := Lib.hid hl
  obtain ⟨C, hC⟩ : ∃ C, ([] : List ValueD).countP isOne = C := ⟨_, rfl⟩
  have HC0 : Hid (0 + (([] : List ValueD).drop 0).countP isOne = C) := by show _ = _; rw [Nat.zero_add]; exact hC
  have HCC := Lib.hid hC
  clear hX hI hsX hvs hvX hS0 hl hC
  go_enter Tryz.func17, Tryz.ntmps17
  go_wp2_with fail
  rw [HX.out]
  clear x0 x2 x3
  go_loop [16, 17] (fun s16 s17 => ∃ (k y : Nat), k ≤ 0 ∧ s17 = .int .i64 k ∧ s16 = .int .i64 y ∧ y ≤ k ∧ Hid (y + (([] : List ValueD).drop k).countP isOne = C)) (fun _ s17 => 0 - (intOf s17).toNat)
  case atStart => exact ⟨0, 0, Nat.zero_le _, rfl, rfl, Nat.le_refl _, HC0⟩
  case round =>
    clear HC0
    obtain ⟨k, y, hk, rfl, rfl, hy, HY⟩ := hrel
    by_cases hlt : k < 0
    · omega
    · have hkk : k = 0 := by omega
      subst hkk
      have e1 := HY.out
      rw [List.drop_of_length_le (by rw [HLV.out]; exact Nat.le_refl _), List.countP_nil, Nat.add_zero] at e1
      subst e1
      have x0 : X.cell? ⟨w.heap.size + 2, 0, none⟩ = some (.int .i64 10) := HI.out.node.cell 0
      have x2 : X.cell? ⟨w.heap.size + 2, 2, none⟩ = some (.int .i64 N) := HI.out.node.cell 2
      have x3 : X.cell? ⟨w.heap.size + 2, 3, none⟩ = some (.int .i64 D) := HI.out.node.cell 3
      clear HY hk hlt
      clear HVX
      obtain ⟨m0, m1, m2, m3, u0, u1, u2, u3, zm⟩ := HI.out.val.four
      go_wp2_with fail
      clear x0 x2 x3
      have hF := HI.out.fin (.int .i64 N) (.int .i64 D) (.slice none 0 0) (.int .i64 0)
      exact ref_ret HI.out.val rfl rfl rfl rfl (valueP_plain N D hF.1)

set_option maxRecDepth 100000 in
set_option maxHeartbeats 4000000 in
theorem ref_15 (A1 A2 A3 : Option Addr) (n1 c1 n2 c2 n3 c3 : Nat) (AM : Option Addr) (nm cm : Nat) (s : Int) (K : Option Addr) (kn kc : Nat) (N D : Int) (nme : ByteArray) (AK : Option Addr) (ck : Nat) (S0 : Nat → Prop) (w : World) (hvs : Arr AtValue 4 w S0 AK 0 []) (hS0 : ∀ b, S0 b → b < w.heap.size) :
    Calls Tryz.prog 17 #[.agg #[.slice A1 n1 c1, .slice A2 n2 c2, .slice A3 n3 c3], .agg #[.slice AM nm cm], .agg #[.int .i64 15, .slice K kn kc, .int .i64 N, .int .i64 D, .string nme], .int .i64 s, .slice AK 0 ck] w (ValueP S0 w (some (numV N))) := by
  obtain ⟨X, hX, hI, hsX⟩ := RefI.start w #[.slice A1 n1 c1, .slice A2 n2 c2, .slice A3 n3 c3] #[.slice AM nm cm] #[.int .i64 15, .slice K kn kc, .int .i64 N, .int .i64 D, .string nme]
  have x0 : X.cell? ⟨w.heap.size + 2, 0, none⟩ = some (.int .i64 15) := hI.node.cell 0
  have x2 : X.cell? ⟨w.heap.size + 2, 2, none⟩ = some (.int .i64 N) := hI.node.cell 2
  have x3 : X.cell? ⟨w.heap.size + 2, 3, none⟩ = some (.int .i64 D) := hI.node.cell 3
  have hzx : w.heap.size + 3 < X.heap.size := hI.val.lt
  have hvX : Arr AtValue 4 X S0 AK 0 [] := hvs.keep stays_value (fun _ h => h) (fun b o h => hI.below.cell (p := ⟨b, o, none⟩) (hS0 b h))
  have HX := Lib.hid hX
  have HI := Lib.hid hI
  have HVX := Lib.hid hvX
  have HS0 := Lib.hid hS0
  have HSX := Lib.hid hsX
  have hl := hvX.len
  have HLV := Lib.hid hl
  obtain ⟨C, hC⟩ : ∃ C, ([] : List ValueD).countP isOne = C := ⟨_, rfl⟩
  have HC0 : Hid (0 + (([] : List ValueD).drop 0).countP isOne = C) := by show _ = _; rw [Nat.zero_add]; exact hC
  have HCC := Lib.hid hC
  clear hX hI hsX hvs hvX hS0 hl hC
  go_enter Tryz.func17, Tryz.ntmps17
  go_wp2_with fail
  rw [HX.out]
  clear x0 x2 x3
  go_loop [16, 17] (fun s16 s17 => ∃ (k y : Nat), k ≤ 0 ∧ s17 = .int .i64 k ∧ s16 = .int .i64 y ∧ y ≤ k ∧ Hid (y + (([] : List ValueD).drop k).countP isOne = C)) (fun _ s17 => 0 - (intOf s17).toNat)
  case atStart => exact ⟨0, 0, Nat.zero_le _, rfl, rfl, Nat.le_refl _, HC0⟩
  case round =>
    clear HC0
    obtain ⟨k, y, hk, rfl, rfl, hy, HY⟩ := hrel
    by_cases hlt : k < 0
    · omega
    · have hkk : k = 0 := by omega
      subst hkk
      have e1 := HY.out
      rw [List.drop_of_length_le (by rw [HLV.out]; exact Nat.le_refl _), List.countP_nil, Nat.add_zero] at e1
      subst e1
      have x0 : X.cell? ⟨w.heap.size + 2, 0, none⟩ = some (.int .i64 15) := HI.out.node.cell 0
      have x2 : X.cell? ⟨w.heap.size + 2, 2, none⟩ = some (.int .i64 N) := HI.out.node.cell 2
      have x3 : X.cell? ⟨w.heap.size + 2, 3, none⟩ = some (.int .i64 D) := HI.out.node.cell 3
      clear HY hk hlt
      clear HVX
      go_wp2_with fail
      clear x0 x2 x3
      refine (rwhole_any _ _).mono ?_
      rintro e w6 ⟨rfl, hb6⟩
      have HI6 := Lib.hid (HI.out.keep hb6)
      clear hb6
      obtain ⟨m0, m1, m2, m3, u0, u1, u2, u3, zm⟩ := HI6.out.val.four
      go_wp2_with fail
      have hF := HI6.out.fin (.int .i64 (N)) (.int .i64 1) (.slice none 0 0) (.int .i64 0)
      exact ref_ret HI6.out.val rfl rfl rfl rfl (valueP_plain (N) 1 hF.1)

end Go.Proofs.YtggkfepifnfdoaaGreat
