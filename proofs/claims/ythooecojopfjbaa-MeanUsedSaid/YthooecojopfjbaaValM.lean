/- Walk: the value of a node, operator by operator: the program. -/
import Derived.Test.YthooecojopfjbaaValIL
namespace Go.Proofs.Ythooecojopfjbaa
open Go.RowKit

theorem below_join {X W0 W : World} (h : Below X.heap.size X W0) (hb : Below W0.heap.size W0 W) : Below X.heap.size X W := h.trans (hb.mono h.size)

/-- what the value of a node comes to: its cells lie in blocks that S0 holds of, or are new -/
def ValueP (S0 : Nat → Prop) (w : World) (r : Option ValueD) (e : Ending) (w' : World) : Prop :=
  Below w.heap.size w w' ∧ match r with
    | some v => ∃ (A : Option Addr) (c : Nat), e = .returned (.tuple #[.agg #[.int .i64 v.num, .int .i64 v.den, .slice A v.cells.length c, .int .i64 v.rest], .bool true]) ∧ v.cells.length ≤ c ∧ c ≤ maxLen ∧ Arr AtCell 2 w' (fun b => S0 b ∨ (w.heap.size ≤ b ∧ b < w'.heap.size)) A v.cells.length v.cells
    | none => e = .returned (.tuple #[.agg #[.int .i64 0, .int .i64 0, .slice none 0 0, .int .i64 0], .bool false])
theorem valueP_plain {S0 : Nat → Prop} {w w' : World} (n d : Int) (h : Below w.heap.size w w') : ValueP S0 w (some ⟨n, d, [], 0⟩) (.returned (.tuple #[.agg #[.int .i64 n, .int .i64 d, .slice none 0 0, .int .i64 0], .bool true])) w' :=
  ⟨h, none, 0, rfl, Nat.le_refl _, Nat.zero_le _, Arr.nil_⟩
theorem Blk.four {w : World} {g : Nat} {t : TypeId} {a b c d : Value} (h : Blk w g t #[a, b, c, d]) : w.cell? ⟨g, 0, none⟩ = some a ∧ w.cell? ⟨g, 1, none⟩ = some b ∧ w.cell? ⟨g, 2, none⟩ = some c ∧ w.cell? ⟨g, 3, none⟩ = some d ∧ w.frozen? ⟨g, 0, none⟩ = false ∧ w.frozen? ⟨g, 1, none⟩ = false ∧ w.frozen? ⟨g, 2, none⟩ = false ∧ w.frozen? ⟨g, 3, none⟩ = false ∧ g < w.heap.size :=
  ⟨h.cell 0, h.cell 1, h.cell 2, h.cell 3, h.frozen 0, h.frozen 1, h.frozen 2, h.frozen 3, h.lt⟩
/-- a value is stored as the result, and told with a truth -/
theorem val_ret {R : Ending → World → Prop} {ac : Act} {W : World} {g g' : Nat} {t : TypeId} {a0 b0 c0 d0 n d sl r : Value} {bo : Bool} (h : Blk W g t #[a0, b0, c0, d0]) (hg : g' = g) (h1 : ac.tmps[12]?.getD undef = .pointer (some ⟨g', 0, none⟩)) (h2 : ac.tmps[13]?.getD undef = .bool bo) (hd : ac.defers = [])
    (hR : R (.returned (.tuple #[.agg #[n, d, sl, r], .bool bo])) (put4 W g n d sl r)) : bodyPost Try.prog Try.f75 R .ret ac ((((W.setCell ⟨g', 0, none⟩ n).setCell ⟨g', 1, none⟩ d).setCell ⟨g', 2, none⟩ sl).setCell ⟨g', 3, none⟩ r) := by
  subst hg
  have hz1 := put4_blk h n d sl r
  change bodyPost _ _ R .ret ac (put4 W g' n d sl r)
  generalize put4 W g' n d sl r = Z at hz1 hR ⊢
  have d0 := hz1.cell 0
  have d1 := hz1.cell 1
  have d2 := hz1.cell 2
  have d3 := hz1.cell 3
  simp only [List.getElem?_toArray, List.getElem?_cons_zero, List.getElem?_cons_succ] at d0 d1 d2 d3
  exact bodyPost_ret (v := .tuple #[.agg #[n, d, sl, r], .bool bo]) (by simp [results, Try.results75, go_sem, h1, h2, d0, d1, d2, d3]) hd hR

/-- what lies in memory while a node is valued: its own blocks, and what came in -/
structure ValI (w W : World) (ca cw cn : Array Value) (ks : Value) : Prop where
  below : Below w.heap.size w W
  ask : Blk W w.heap.size 26 ca
  wld : Blk W (w.heap.size + 1) 47 cw
  node : Blk W (w.heap.size + 2) 59 cn
  kids : Blk W (w.heap.size + 3) 42 #[ks]
  val : Blk W (w.heap.size + 4) 54 #[.int .i64 0, .int .i64 0, .slice none 0 0, .int .i64 0]
theorem ValI.keep {w W W' : World} {ca cw cn : Array Value} {ks : Value} (h : ValI w W ca cw cn ks) (hb : Below W.heap.size W W') : ValI w W' ca cw cn ks :=
  ⟨h.below.trans (hb.mono h.below.size), h.ask.below hb h.ask.lt, h.wld.below hb h.wld.lt, h.node.below hb h.node.lt, h.kids.below hb h.kids.lt, h.val.below hb h.val.lt⟩
theorem ValI.start (w : World) (ca cw cn : Array Value) (ks : Value) : ∃ X, ((((w.alloc (.cells ca 26)).alloc (.cells cw 47)).alloc (.cells cn 59)).alloc (.cells #[ks] 42)).alloc (.cells #[.int .i64 0, .int .i64 0, .slice none 0 0, .int .i64 0] 54) = X ∧ ValI w X ca cw cn ks ∧ X.heap.size = w.heap.size + 5 := by
  obtain ⟨Y, hY, hb, k1, k2, k3, k4, hs⟩ := boxes4 w 26 47 59 42 ca cw cn #[ks]
  refine ⟨_, rfl, ?_, by rw [hY]; simp [hs]⟩
  rw [hY]
  have k5 := Blk.new Y 54 #[.int .i64 0, .int .i64 0, .slice none 0 0, .int .i64 0]
  rw [hs] at k5
  exact ⟨hb.alloc (by omega) _, k1.alloc _, k2.alloc _, k3.alloc _, k4.alloc _, k5⟩
theorem ValI.fin {w W : World} {ca cw cn : Array Value} {ks : Value} (h : ValI w W ca cw cn ks) (a b c d : Value) : Below w.heap.size w (put4 W (w.heap.size + 4) a b c d) ∧ Blk (put4 W (w.heap.size + 4) a b c d) (w.heap.size + 4) 54 #[a, b, c, d] :=
  ⟨put4_below h.below (by omega) a b c d, put4_blk h.val a b c d⟩

set_option maxRecDepth 100000 in
set_option maxHeartbeats 4000000 in
theorem val_1 (A1 A2 A3 : Option Addr) (n1 c1 n2 c2 n3 c3 : Nat) (AM : Option Addr) (nm cm : Nat) (s : Int) (K : Option Addr) (kn kc : Nat) (N D : Int) (nme : ByteArray) (AK : Option Addr) (ck : Nat) (b : Int) (S0 : Nat → Prop) (w : World) :
    Calls Try.prog 75 #[.agg #[.slice A1 n1 c1, .slice A2 n2 c2, .slice A3 n3 c3], .agg #[.slice AM nm cm], .int .i64 s, .agg #[.int .i64 1, .slice K kn kc, .int .i64 N, .int .i64 D, .string nme], .slice AK 0 ck, .int .i64 b] w (ValueP S0 w (some (bitV true))) := by
  obtain ⟨X, hX, hI, hsX⟩ := ValI.start w #[.slice A1 n1 c1, .slice A2 n2 c2, .slice A3 n3 c3] #[.slice AM nm cm] #[.int .i64 1, .slice K kn kc, .int .i64 N, .int .i64 D, .string nme] (.slice AK 0 ck)
  have x0 : X.cell? ⟨w.heap.size + 2, 0, none⟩ = some (.int .i64 1) := hI.node.cell 0
  have x2 : X.cell? ⟨w.heap.size + 2, 2, none⟩ = some (.int .i64 N) := hI.node.cell 2
  have x3 : X.cell? ⟨w.heap.size + 2, 3, none⟩ = some (.int .i64 D) := hI.node.cell 3
  have x1 : X.cell? ⟨w.heap.size + 2, 1, none⟩ = some (.slice K kn kc) := hI.node.cell 1
  have x4 : X.cell? ⟨w.heap.size + 2, 4, none⟩ = some (.string nme) := hI.node.cell 4
  have xk : X.cell? ⟨w.heap.size + 3, 0, none⟩ = some (.slice AK 0 ck) := hI.kids.cell 0
  have hzx : w.heap.size + 4 < X.heap.size := hI.val.lt
  have HX := Lib.hid hX
  have HI := Lib.hid hI
  clear hX hI hsX
  go_enter Try.func75, Try.ntmps75
  go_wp2_with fail
  rw [HX.out]
  clear x0 x1 x2 x3 x4 xk hzx
  refine (truth_any _ _).mono ?_
  rintro e w6 ⟨rfl, hb6⟩
  have HI6 := Lib.hid (HI.out.keep hb6)
  clear hb6
  obtain ⟨m0, m1, m2, m3, u0, u1, u2, u3, zm⟩ := HI6.out.val.four
  go_wp2_with fail
  have hF := HI6.out.fin (.int .i64 (bitN true)) (.int .i64 1) (.slice none 0 0) (.int .i64 0)
  exact val_ret HI6.out.val rfl rfl rfl rfl (valueP_plain (bitN true) 1 hF.1)

set_option maxRecDepth 100000 in
set_option maxHeartbeats 4000000 in
theorem val_2 (A1 A2 A3 : Option Addr) (n1 c1 n2 c2 n3 c3 : Nat) (AM : Option Addr) (nm cm : Nat) (s : Int) (K : Option Addr) (kn kc : Nat) (N D : Int) (nme : ByteArray) (AK : Option Addr) (ck : Nat) (b : Int) (S0 : Nat → Prop) (w : World) :
    Calls Try.prog 75 #[.agg #[.slice A1 n1 c1, .slice A2 n2 c2, .slice A3 n3 c3], .agg #[.slice AM nm cm], .int .i64 s, .agg #[.int .i64 2, .slice K kn kc, .int .i64 N, .int .i64 D, .string nme], .slice AK 0 ck, .int .i64 b] w (ValueP S0 w (some (bitV false))) := by
  obtain ⟨X, hX, hI, hsX⟩ := ValI.start w #[.slice A1 n1 c1, .slice A2 n2 c2, .slice A3 n3 c3] #[.slice AM nm cm] #[.int .i64 2, .slice K kn kc, .int .i64 N, .int .i64 D, .string nme] (.slice AK 0 ck)
  have x0 : X.cell? ⟨w.heap.size + 2, 0, none⟩ = some (.int .i64 2) := hI.node.cell 0
  have x2 : X.cell? ⟨w.heap.size + 2, 2, none⟩ = some (.int .i64 N) := hI.node.cell 2
  have x3 : X.cell? ⟨w.heap.size + 2, 3, none⟩ = some (.int .i64 D) := hI.node.cell 3
  have x1 : X.cell? ⟨w.heap.size + 2, 1, none⟩ = some (.slice K kn kc) := hI.node.cell 1
  have x4 : X.cell? ⟨w.heap.size + 2, 4, none⟩ = some (.string nme) := hI.node.cell 4
  have xk : X.cell? ⟨w.heap.size + 3, 0, none⟩ = some (.slice AK 0 ck) := hI.kids.cell 0
  have hzx : w.heap.size + 4 < X.heap.size := hI.val.lt
  have HX := Lib.hid hX
  have HI := Lib.hid hI
  clear hX hI hsX
  go_enter Try.func75, Try.ntmps75
  go_wp2_with fail
  rw [HX.out]
  clear x0 x1 x2 x3 x4 xk hzx
  refine (truth_any _ _).mono ?_
  rintro e w6 ⟨rfl, hb6⟩
  have HI6 := Lib.hid (HI.out.keep hb6)
  clear hb6
  obtain ⟨m0, m1, m2, m3, u0, u1, u2, u3, zm⟩ := HI6.out.val.four
  go_wp2_with fail
  have hF := HI6.out.fin (.int .i64 (bitN false)) (.int .i64 1) (.slice none 0 0) (.int .i64 0)
  exact val_ret HI6.out.val rfl rfl rfl rfl (valueP_plain (bitN false) 1 hF.1)

set_option maxRecDepth 100000 in
set_option maxHeartbeats 4000000 in
theorem val_3 (A1 A2 A3 : Option Addr) (n1 c1 n2 c2 n3 c3 : Nat) (AM : Option Addr) (nm cm : Nat) (s : Int) (K : Option Addr) (kn kc : Nat) (N D : Int) (nme : ByteArray) (AK : Option Addr) (ck : Nat) (b : Int) (u : ValueD) (S0 : Nat → Prop) (w : World) (hvs : ArrB AtValue 4 w w.heap.size AK 1 [u]) :
    Calls Try.prog 75 #[.agg #[.slice A1 n1 c1, .slice A2 n2 c2, .slice A3 n3 c3], .agg #[.slice AM nm cm], .int .i64 s, .agg #[.int .i64 3, .slice K kn kc, .int .i64 N, .int .i64 D, .string nme], .slice AK 1 ck, .int .i64 b] w (ValueP S0 w (some (bitV (!isOne u)))) := by
  obtain ⟨X, hX, hI, hsX⟩ := ValI.start w #[.slice A1 n1 c1, .slice A2 n2 c2, .slice A3 n3 c3] #[.slice AM nm cm] #[.int .i64 3, .slice K kn kc, .int .i64 N, .int .i64 D, .string nme] (.slice AK 1 ck)
  have x0 : X.cell? ⟨w.heap.size + 2, 0, none⟩ = some (.int .i64 3) := hI.node.cell 0
  have x2 : X.cell? ⟨w.heap.size + 2, 2, none⟩ = some (.int .i64 N) := hI.node.cell 2
  have x3 : X.cell? ⟨w.heap.size + 2, 3, none⟩ = some (.int .i64 D) := hI.node.cell 3
  have x1 : X.cell? ⟨w.heap.size + 2, 1, none⟩ = some (.slice K kn kc) := hI.node.cell 1
  have x4 : X.cell? ⟨w.heap.size + 2, 4, none⟩ = some (.string nme) := hI.node.cell 4
  have xk : X.cell? ⟨w.heap.size + 3, 0, none⟩ = some (.slice AK 1 ck) := hI.kids.cell 0
  have hzx : w.heap.size + 4 < X.heap.size := hI.val.lt
  have HX := Lib.hid hX
  have HI := Lib.hid hI
  have HC := Lib.hid (kidIs_any 0 0 rfl (isOne u) AK 1 ck [u] (w.heap.size + 3) _ X (hvs.below stays_value hI.below (Nat.le_refl _)) (by omega) (by omega) xk (by omega) rfl)
  clear hX hI hsX hvs
  generalize isOne u = q at HC ⊢
  go_enter Try.func75, Try.ntmps75
  go_wp2_with fail
  rw [HX.out]
  clear x0 x1 x2 x3 x4
  refine HC.out.mono ?_
  rintro e w5 ⟨rfl, rfl⟩
  clear xk hzx
  go_wp2_with fail
  refine (truth_any _ _).mono ?_
  rintro e w6 ⟨rfl, hb6⟩
  have HI6 := Lib.hid (HI.out.keep hb6)
  clear hb6
  obtain ⟨m0, m1, m2, m3, u0, u1, u2, u3, zm⟩ := HI6.out.val.four
  go_wp2_with fail
  have hF := HI6.out.fin (.int .i64 (bitN (!q))) (.int .i64 1) (.slice none 0 0) (.int .i64 0)
  exact val_ret HI6.out.val rfl rfl rfl rfl (valueP_plain (bitN (!q)) 1 hF.1)

set_option maxRecDepth 100000 in
set_option maxHeartbeats 4000000 in
theorem val_4 (A1 A2 A3 : Option Addr) (n1 c1 n2 c2 n3 c3 : Nat) (AM : Option Addr) (nm cm : Nat) (s : Int) (K : Option Addr) (kn kc : Nat) (N D : Int) (nme : ByteArray) (AK : Option Addr) (ck : Nat) (b : Int) (nk : Nat) (vs : List ValueD) (S0 : Nat → Prop) (w : World) (hvs : ArrB AtValue 4 w w.heap.size AK nk vs) (hnk : nk ≤ 9223372036854775807) :
    Calls Try.prog 75 #[.agg #[.slice A1 n1 c1, .slice A2 n2 c2, .slice A3 n3 c3], .agg #[.slice AM nm cm], .int .i64 s, .agg #[.int .i64 4, .slice K kn kc, .int .i64 N, .int .i64 D, .string nme], .slice AK nk ck, .int .i64 b] w (ValueP S0 w (some (bitV (!(vs.any isZero))))) := by
  obtain ⟨X, hX, hI, hsX⟩ := ValI.start w #[.slice A1 n1 c1, .slice A2 n2 c2, .slice A3 n3 c3] #[.slice AM nm cm] #[.int .i64 4, .slice K kn kc, .int .i64 N, .int .i64 D, .string nme] (.slice AK nk ck)
  have x0 : X.cell? ⟨w.heap.size + 2, 0, none⟩ = some (.int .i64 4) := hI.node.cell 0
  have x2 : X.cell? ⟨w.heap.size + 2, 2, none⟩ = some (.int .i64 N) := hI.node.cell 2
  have x3 : X.cell? ⟨w.heap.size + 2, 3, none⟩ = some (.int .i64 D) := hI.node.cell 3
  have x1 : X.cell? ⟨w.heap.size + 2, 1, none⟩ = some (.slice K kn kc) := hI.node.cell 1
  have x4 : X.cell? ⟨w.heap.size + 2, 4, none⟩ = some (.string nme) := hI.node.cell 4
  have xk : X.cell? ⟨w.heap.size + 3, 0, none⟩ = some (.slice AK nk ck) := hI.kids.cell 0
  have hzx : w.heap.size + 4 < X.heap.size := hI.val.lt
  have HX := Lib.hid hX
  have HI := Lib.hid hI
  have eg : ∀ args w, (callFunc 100 args).run Try.prog w = .ok (.enter 100 args) w := enters_of Try.func100 (by kernel_rfl) rfl
  have HC := Lib.hid (containsValues_any 100 eg isZero AK nk ck vs _ X (hvs.below stays_value hI.below hI.below.size) hnk (fails_pred vs X) rfl)
  clear hX hI hsX hvs eg
  generalize vs.any isZero = q at HC ⊢
  go_enter Try.func75, Try.ntmps75
  go_wp2_with fail
  rw [HX.out]
  clear x0 x1 x2 x3 x4
  refine HC.out.mono ?_
  rintro e w5 ⟨rfl, hb5⟩
  have HI5 := Lib.hid (HI.out.keep hb5)
  clear xk hzx hb5
  go_wp2_with fail
  refine (truth_any _ _).mono ?_
  rintro e w6 ⟨rfl, hb6⟩
  have HI6 := Lib.hid (HI5.out.keep hb6)
  clear hb6
  obtain ⟨m0, m1, m2, m3, u0, u1, u2, u3, zm⟩ := HI6.out.val.four
  go_wp2_with fail
  have hF := HI6.out.fin (.int .i64 (bitN (!q))) (.int .i64 1) (.slice none 0 0) (.int .i64 0)
  exact val_ret HI6.out.val rfl rfl rfl rfl (valueP_plain (bitN (!q)) 1 hF.1)

set_option maxRecDepth 100000 in
set_option maxHeartbeats 4000000 in
theorem val_5 (A1 A2 A3 : Option Addr) (n1 c1 n2 c2 n3 c3 : Nat) (AM : Option Addr) (nm cm : Nat) (s : Int) (K : Option Addr) (kn kc : Nat) (N D : Int) (nme : ByteArray) (AK : Option Addr) (ck : Nat) (b : Int) (nk : Nat) (vs : List ValueD) (S0 : Nat → Prop) (w : World) (hvs : ArrB AtValue 4 w w.heap.size AK nk vs) (hnk : nk ≤ 9223372036854775807) :
    Calls Try.prog 75 #[.agg #[.slice A1 n1 c1, .slice A2 n2 c2, .slice A3 n3 c3], .agg #[.slice AM nm cm], .int .i64 s, .agg #[.int .i64 5, .slice K kn kc, .int .i64 N, .int .i64 D, .string nme], .slice AK nk ck, .int .i64 b] w (ValueP S0 w (some (bitV (vs.any isOne)))) := by
  obtain ⟨X, hX, hI, hsX⟩ := ValI.start w #[.slice A1 n1 c1, .slice A2 n2 c2, .slice A3 n3 c3] #[.slice AM nm cm] #[.int .i64 5, .slice K kn kc, .int .i64 N, .int .i64 D, .string nme] (.slice AK nk ck)
  have x0 : X.cell? ⟨w.heap.size + 2, 0, none⟩ = some (.int .i64 5) := hI.node.cell 0
  have x2 : X.cell? ⟨w.heap.size + 2, 2, none⟩ = some (.int .i64 N) := hI.node.cell 2
  have x3 : X.cell? ⟨w.heap.size + 2, 3, none⟩ = some (.int .i64 D) := hI.node.cell 3
  have x1 : X.cell? ⟨w.heap.size + 2, 1, none⟩ = some (.slice K kn kc) := hI.node.cell 1
  have x4 : X.cell? ⟨w.heap.size + 2, 4, none⟩ = some (.string nme) := hI.node.cell 4
  have xk : X.cell? ⟨w.heap.size + 3, 0, none⟩ = some (.slice AK nk ck) := hI.kids.cell 0
  have hzx : w.heap.size + 4 < X.heap.size := hI.val.lt
  have HX := Lib.hid hX
  have HI := Lib.hid hI
  have eg : ∀ args w, (callFunc 99 args).run Try.prog w = .ok (.enter 99 args) w := enters_of Try.func99 (by kernel_rfl) rfl
  have HC := Lib.hid (containsValues_any 99 eg isOne AK nk ck vs _ X (hvs.below stays_value hI.below hI.below.size) hnk (holds_pred vs X) rfl)
  clear hX hI hsX hvs eg
  generalize vs.any isOne = q at HC ⊢
  go_enter Try.func75, Try.ntmps75
  go_wp2_with fail
  rw [HX.out]
  clear x0 x1 x2 x3 x4
  refine HC.out.mono ?_
  rintro e w5 ⟨rfl, hb5⟩
  have HI5 := Lib.hid (HI.out.keep hb5)
  clear xk hzx hb5
  go_wp2_with fail
  refine (truth_any _ _).mono ?_
  rintro e w6 ⟨rfl, hb6⟩
  have HI6 := Lib.hid (HI5.out.keep hb6)
  clear hb6
  obtain ⟨m0, m1, m2, m3, u0, u1, u2, u3, zm⟩ := HI6.out.val.four
  go_wp2_with fail
  have hF := HI6.out.fin (.int .i64 (bitN q)) (.int .i64 1) (.slice none 0 0) (.int .i64 0)
  exact val_ret HI6.out.val rfl rfl rfl rfl (valueP_plain (bitN q) 1 hF.1)

set_option maxRecDepth 100000 in
set_option maxHeartbeats 4000000 in
theorem val_6 (A1 A2 A3 : Option Addr) (n1 c1 n2 c2 n3 c3 : Nat) (AM : Option Addr) (nm cm : Nat) (s : Int) (K : Option Addr) (kn kc : Nat) (N D : Int) (nme : ByteArray) (AK : Option Addr) (ck : Nat) (b : Int) (u v : ValueD) (S0 : Nat → Prop) (w : World) (hvs : ArrB AtValue 4 w w.heap.size AK 2 [u, v]) :
    Calls Try.prog 75 #[.agg #[.slice A1 n1 c1, .slice A2 n2 c2, .slice A3 n3 c3], .agg #[.slice AM nm cm], .int .i64 s, .agg #[.int .i64 6, .slice K kn kc, .int .i64 N, .int .i64 D, .string nme], .slice AK 2 ck, .int .i64 b] w (ValueP S0 w (some (bitV (isOne u == isOne v)))) := by
  obtain ⟨X, hX, hI, hsX⟩ := ValI.start w #[.slice A1 n1 c1, .slice A2 n2 c2, .slice A3 n3 c3] #[.slice AM nm cm] #[.int .i64 6, .slice K kn kc, .int .i64 N, .int .i64 D, .string nme] (.slice AK 2 ck)
  have x0 : X.cell? ⟨w.heap.size + 2, 0, none⟩ = some (.int .i64 6) := hI.node.cell 0
  have x2 : X.cell? ⟨w.heap.size + 2, 2, none⟩ = some (.int .i64 N) := hI.node.cell 2
  have x3 : X.cell? ⟨w.heap.size + 2, 3, none⟩ = some (.int .i64 D) := hI.node.cell 3
  have x1 : X.cell? ⟨w.heap.size + 2, 1, none⟩ = some (.slice K kn kc) := hI.node.cell 1
  have x4 : X.cell? ⟨w.heap.size + 2, 4, none⟩ = some (.string nme) := hI.node.cell 4
  have xk : X.cell? ⟨w.heap.size + 3, 0, none⟩ = some (.slice AK 2 ck) := hI.kids.cell 0
  have hzx : w.heap.size + 4 < X.heap.size := hI.val.lt
  have HX := Lib.hid hX
  have HI := Lib.hid hI
  have HC := Lib.hid (kidIs_any 0 0 rfl (isOne u) AK 2 ck [u, v] (w.heap.size + 3) _ X (hvs.below stays_value hI.below (Nat.le_refl _)) (by omega) (by omega) xk (by omega) rfl)
  have HD := Lib.hid (kidIs_any 1 1 rfl (isOne v) AK 2 ck [u, v] (w.heap.size + 3) _ X (hvs.below stays_value hI.below (Nat.le_refl _)) (by omega) (by omega) xk (by omega) rfl)
  clear hX hI hsX hvs
  generalize isOne u = q at HC ⊢
  generalize isOne v = q2 at HD ⊢
  go_enter Try.func75, Try.ntmps75
  go_wp2_with fail
  rw [HX.out]
  clear x0 x1 x2 x3 x4
  refine HC.out.mono ?_
  rintro e w5 ⟨rfl, rfl⟩
  go_wp2_with fail
  refine HD.out.mono ?_
  rintro e w5 ⟨rfl, rfl⟩
  clear xk hzx
  go_wp2_with fail
  refine (truth_any _ _).mono ?_
  rintro e w6 ⟨rfl, hb6⟩
  have HI6 := Lib.hid (HI.out.keep hb6)
  clear hb6
  obtain ⟨m0, m1, m2, m3, u0, u1, u2, u3, zm⟩ := HI6.out.val.four
  go_wp2_with fail
  have hF := HI6.out.fin (.int .i64 (bitN (q == q2))) (.int .i64 1) (.slice none 0 0) (.int .i64 0)
  exact val_ret HI6.out.val rfl rfl rfl rfl (valueP_plain (bitN (q == q2)) 1 hF.1)

set_option maxRecDepth 100000 in
set_option maxHeartbeats 4000000 in
theorem val_7a (A1 A2 A3 : Option Addr) (n1 c1 n2 c2 n3 c3 : Nat) (AM : Option Addr) (nm cm : Nat) (s : Int) (K : Option Addr) (kn kc : Nat) (N D : Int) (nme : ByteArray) (AK : Option Addr) (ck : Nat) (b : Int) (u v x : ValueD) (S0 : Nat → Prop) (w : World) (hvs : Arr AtValue 4 w S0 AK 3 [u, v, x]) (hS0 : ∀ b, S0 b → b < w.heap.size) (hu : isOne u = true) :
    Calls Try.prog 75 #[.agg #[.slice A1 n1 c1, .slice A2 n2 c2, .slice A3 n3 c3], .agg #[.slice AM nm cm], .int .i64 s, .agg #[.int .i64 7, .slice K kn kc, .int .i64 N, .int .i64 D, .string nme], .slice AK 3 ck, .int .i64 b] w (ValueP S0 w (some v)) := by
  obtain ⟨X, hX, hI, hsX⟩ := ValI.start w #[.slice A1 n1 c1, .slice A2 n2 c2, .slice A3 n3 c3] #[.slice AM nm cm] #[.int .i64 7, .slice K kn kc, .int .i64 N, .int .i64 D, .string nme] (.slice AK 3 ck)
  have x0 : X.cell? ⟨w.heap.size + 2, 0, none⟩ = some (.int .i64 7) := hI.node.cell 0
  have x2 : X.cell? ⟨w.heap.size + 2, 2, none⟩ = some (.int .i64 N) := hI.node.cell 2
  have x3 : X.cell? ⟨w.heap.size + 2, 3, none⟩ = some (.int .i64 D) := hI.node.cell 3
  have x1 : X.cell? ⟨w.heap.size + 2, 1, none⟩ = some (.slice K kn kc) := hI.node.cell 1
  have x4 : X.cell? ⟨w.heap.size + 2, 4, none⟩ = some (.string nme) := hI.node.cell 4
  have xk : X.cell? ⟨w.heap.size + 3, 0, none⟩ = some (.slice AK 3 ck) := hI.kids.cell 0
  have hzx : w.heap.size + 4 < X.heap.size := hI.val.lt
  have HX := Lib.hid hX
  have HI := Lib.hid hI
  have hvX : Arr AtValue 4 X S0 AK 3 [u, v, x] := hvs.keep stays_value (fun _ h => h) (fun b o h => hI.below.cell (p := ⟨b, o, none⟩) (hS0 b h))
  have HS0 := Lib.hid hS0
  have HC := Lib.hid (kidIs_any 0 0 rfl true AK 3 ck [u, v, x] (w.heap.size + 3) _ X hvX (by omega) (by omega) xk (by omega) hu)
  obtain ⟨b0, off, hx, A2, n2, c2, rfl, -, hc0, hc1, hc2, hc3, hcc, hcn, hcm, -, -, -⟩ := values_get hvX (i := 1) (by omega)
  simp only [List.getElem_cons_succ, List.getElem_cons_zero] at hc0 hc1 hc3 hcc
  have hlen := hcc.len
  have HA := Lib.hid (And.intro hcc (And.intro hcn hcm))
  clear hX hI hsX hvs hvX hu hx hcc hcn hcm hS0
  go_enter Try.func75, Try.ntmps75
  go_wp2_with fail
  rw [HX.out]
  clear x0 x1 x2 x3 x4
  refine HC.out.mono ?_
  rintro e w5 ⟨rfl, rfl⟩
  obtain ⟨m0, m1, m2, m3, u0, u1, u2, u3, zm⟩ := HI.out.val.four
  obtain ⟨vn, vd, vc, vr⟩ := v
  dsimp only at hc0 hc1 hc3 hlen HA
  go_wp2_with fail
  have hF := HI.out.fin (.int .i64 vn) (.int .i64 vd) (.slice A2 n2 c2) (.int .i64 vr)
  have hAZ : Arr AtCell 2 (put4 X (w.heap.size + 4) (.int .i64 vn) (.int .i64 vd) (.slice A2 n2 c2) (.int .i64 vr)) (fun b => S0 b ∨ (w.heap.size ≤ b ∧ b < (put4 X (w.heap.size + 4) (.int .i64 vn) (.int .i64 vd) (.slice A2 n2 c2) (.int .i64 vr)).heap.size)) A2 n2 vc := HA.out.1.keep stays_cell (fun b hb => .inl hb) (fun b o hb => only_cell (row := some (w.heap.size + 4)) (put4_only (only_refl X _) _ _ _ _) (by have h1 := HS0.out b hb; omega) (fun e => by injection e with e; have h1 := HS0.out b hb; omega))
  exact val_ret HI.out.val rfl rfl rfl rfl (⟨hF.1, A2, c2, by rw [hlen], by dsimp only; rw [hlen]; exact HA.out.2.1, HA.out.2.2, by dsimp only; rw [hlen]; exact hAZ⟩)

set_option maxRecDepth 100000 in
set_option maxHeartbeats 4000000 in
theorem val_7b (A1 A2 A3 : Option Addr) (n1 c1 n2 c2 n3 c3 : Nat) (AM : Option Addr) (nm cm : Nat) (s : Int) (K : Option Addr) (kn kc : Nat) (N D : Int) (nme : ByteArray) (AK : Option Addr) (ck : Nat) (b : Int) (u v x : ValueD) (S0 : Nat → Prop) (w : World) (hvs : Arr AtValue 4 w S0 AK 3 [u, v, x]) (hS0 : ∀ b, S0 b → b < w.heap.size) (hu : isOne u = false) :
    Calls Try.prog 75 #[.agg #[.slice A1 n1 c1, .slice A2 n2 c2, .slice A3 n3 c3], .agg #[.slice AM nm cm], .int .i64 s, .agg #[.int .i64 7, .slice K kn kc, .int .i64 N, .int .i64 D, .string nme], .slice AK 3 ck, .int .i64 b] w (ValueP S0 w (some x)) := by
  obtain ⟨X, hX, hI, hsX⟩ := ValI.start w #[.slice A1 n1 c1, .slice A2 n2 c2, .slice A3 n3 c3] #[.slice AM nm cm] #[.int .i64 7, .slice K kn kc, .int .i64 N, .int .i64 D, .string nme] (.slice AK 3 ck)
  have x0 : X.cell? ⟨w.heap.size + 2, 0, none⟩ = some (.int .i64 7) := hI.node.cell 0
  have x2 : X.cell? ⟨w.heap.size + 2, 2, none⟩ = some (.int .i64 N) := hI.node.cell 2
  have x3 : X.cell? ⟨w.heap.size + 2, 3, none⟩ = some (.int .i64 D) := hI.node.cell 3
  have x1 : X.cell? ⟨w.heap.size + 2, 1, none⟩ = some (.slice K kn kc) := hI.node.cell 1
  have x4 : X.cell? ⟨w.heap.size + 2, 4, none⟩ = some (.string nme) := hI.node.cell 4
  have xk : X.cell? ⟨w.heap.size + 3, 0, none⟩ = some (.slice AK 3 ck) := hI.kids.cell 0
  have hzx : w.heap.size + 4 < X.heap.size := hI.val.lt
  have HX := Lib.hid hX
  have HI := Lib.hid hI
  have hvX : Arr AtValue 4 X S0 AK 3 [u, v, x] := hvs.keep stays_value (fun _ h => h) (fun b o h => hI.below.cell (p := ⟨b, o, none⟩) (hS0 b h))
  have HS0 := Lib.hid hS0
  have HC := Lib.hid (kidIs_any 0 0 rfl false AK 3 ck [u, v, x] (w.heap.size + 3) _ X hvX (by omega) (by omega) xk (by omega) hu)
  obtain ⟨b0, off, hx, A2, n2, c2, rfl, -, hc0, hc1, hc2, hc3, hcc, hcn, hcm, -, -, -⟩ := values_get hvX (i := 2) (by omega)
  simp only [List.getElem_cons_succ, List.getElem_cons_zero] at hc0 hc1 hc3 hcc
  have hlen := hcc.len
  have HA := Lib.hid (And.intro hcc (And.intro hcn hcm))
  clear hX hI hsX hvs hvX hu hx hcc hcn hcm hS0
  go_enter Try.func75, Try.ntmps75
  go_wp2_with fail
  rw [HX.out]
  clear x0 x1 x2 x3 x4
  refine HC.out.mono ?_
  rintro e w5 ⟨rfl, rfl⟩
  obtain ⟨m0, m1, m2, m3, u0, u1, u2, u3, zm⟩ := HI.out.val.four
  obtain ⟨vn, vd, vc, vr⟩ := x
  dsimp only at hc0 hc1 hc3 hlen HA
  go_wp2_with fail
  have hF := HI.out.fin (.int .i64 vn) (.int .i64 vd) (.slice A2 n2 c2) (.int .i64 vr)
  have hAZ : Arr AtCell 2 (put4 X (w.heap.size + 4) (.int .i64 vn) (.int .i64 vd) (.slice A2 n2 c2) (.int .i64 vr)) (fun b => S0 b ∨ (w.heap.size ≤ b ∧ b < (put4 X (w.heap.size + 4) (.int .i64 vn) (.int .i64 vd) (.slice A2 n2 c2) (.int .i64 vr)).heap.size)) A2 n2 vc := HA.out.1.keep stays_cell (fun b hb => .inl hb) (fun b o hb => only_cell (row := some (w.heap.size + 4)) (put4_only (only_refl X _) _ _ _ _) (by have h1 := HS0.out b hb; omega) (fun e => by injection e with e; have h1 := HS0.out b hb; omega))
  exact val_ret HI.out.val rfl rfl rfl rfl (⟨hF.1, A2, c2, by rw [hlen], by dsimp only; rw [hlen]; exact HA.out.2.1, HA.out.2.2, by dsimp only; rw [hlen]; exact hAZ⟩)

set_option maxRecDepth 100000 in
set_option maxHeartbeats 4000000 in
theorem val_10 (A1 A2 A3 : Option Addr) (n1 c1 n2 c2 n3 c3 : Nat) (AM : Option Addr) (nm cm : Nat) (s : Int) (K : Option Addr) (kn kc : Nat) (N D : Int) (nme : ByteArray) (AK : Option Addr) (ck : Nat) (b : Int) (S0 : Nat → Prop) (w : World) :
    Calls Try.prog 75 #[.agg #[.slice A1 n1 c1, .slice A2 n2 c2, .slice A3 n3 c3], .agg #[.slice AM nm cm], .int .i64 s, .agg #[.int .i64 10, .slice K kn kc, .int .i64 N, .int .i64 D, .string nme], .slice AK 0 ck, .int .i64 b] w (ValueP S0 w (some ⟨N, D, [], 0⟩)) := by
  obtain ⟨X, hX, hI, hsX⟩ := ValI.start w #[.slice A1 n1 c1, .slice A2 n2 c2, .slice A3 n3 c3] #[.slice AM nm cm] #[.int .i64 10, .slice K kn kc, .int .i64 N, .int .i64 D, .string nme] (.slice AK 0 ck)
  have x0 : X.cell? ⟨w.heap.size + 2, 0, none⟩ = some (.int .i64 10) := hI.node.cell 0
  have x2 : X.cell? ⟨w.heap.size + 2, 2, none⟩ = some (.int .i64 N) := hI.node.cell 2
  have x3 : X.cell? ⟨w.heap.size + 2, 3, none⟩ = some (.int .i64 D) := hI.node.cell 3
  have x1 : X.cell? ⟨w.heap.size + 2, 1, none⟩ = some (.slice K kn kc) := hI.node.cell 1
  have x4 : X.cell? ⟨w.heap.size + 2, 4, none⟩ = some (.string nme) := hI.node.cell 4
  have xk : X.cell? ⟨w.heap.size + 3, 0, none⟩ = some (.slice AK 0 ck) := hI.kids.cell 0
  have hzx : w.heap.size + 4 < X.heap.size := hI.val.lt
  have HX := Lib.hid hX
  have HI := Lib.hid hI
  clear hX hI hsX
  go_enter Try.func75, Try.ntmps75
  go_wp2_with fail
  refine bodyPost_ret (v := .tuple #[.agg #[.int .i64 N, .int .i64 D, .slice none 0 0, .int .i64 0], .bool true]) (by simp [results, Try.results75, go_sem]) rfl (valueP_plain N D ?_)
  exact (((((Below.refl _ _).alloc (Nat.le_refl _) _).alloc (by simp) _).alloc (by simp; omega) _).alloc (by simp; omega) _).alloc (by simp; omega) _

set_option maxRecDepth 100000 in
set_option maxHeartbeats 4000000 in
theorem val_11 (A1 A2 A3 : Option Addr) (n1 c1 n2 c2 n3 c3 : Nat) (AM : Option Addr) (nm cm : Nat) (s : Int) (K : Option Addr) (kn kc : Nat) (N D : Int) (nme : ByteArray) (AK : Option Addr) (ck : Nat) (b : Int) (nk : Nat) (vs : List ValueD) (r : Option FracD) (S0 : Nat → Prop) (w : World) (hvs : ArrB AtValue 4 w w.heap.size AK nk vs) (hnk : nk ≤ 9223372036854775807) (hg : ∀ v ∈ vs, fracGood v.num v.den = true) (hr : addF ⟨0, 1⟩ vs = r) :
    Calls Try.prog 75 #[.agg #[.slice A1 n1 c1, .slice A2 n2 c2, .slice A3 n3 c3], .agg #[.slice AM nm cm], .int .i64 s, .agg #[.int .i64 11, .slice K kn kc, .int .i64 N, .int .i64 D, .string nme], .slice AK nk ck, .int .i64 b] w (ValueP S0 w (r.map fracV)) := by
  obtain ⟨X, hX, hI, hsX⟩ := ValI.start w #[.slice A1 n1 c1, .slice A2 n2 c2, .slice A3 n3 c3] #[.slice AM nm cm] #[.int .i64 11, .slice K kn kc, .int .i64 N, .int .i64 D, .string nme] (.slice AK nk ck)
  have x0 : X.cell? ⟨w.heap.size + 2, 0, none⟩ = some (.int .i64 11) := hI.node.cell 0
  have x2 : X.cell? ⟨w.heap.size + 2, 2, none⟩ = some (.int .i64 N) := hI.node.cell 2
  have x3 : X.cell? ⟨w.heap.size + 2, 3, none⟩ = some (.int .i64 D) := hI.node.cell 3
  have x1 : X.cell? ⟨w.heap.size + 2, 1, none⟩ = some (.slice K kn kc) := hI.node.cell 1
  have x4 : X.cell? ⟨w.heap.size + 2, 4, none⟩ = some (.string nme) := hI.node.cell 4
  have xk : X.cell? ⟨w.heap.size + 3, 0, none⟩ = some (.slice AK nk ck) := hI.kids.cell 0
  have hzx : w.heap.size + 4 < X.heap.size := hI.val.lt
  have HX := Lib.hid hX
  have HI := Lib.hid hI
  have HC := Lib.hid (number11_any K kn kc N D nme AK nk ck vs r X (hvs.below stays_value hI.below hI.below.size) hnk hg hr)
  clear hX hI hsX hvs hg hr
  go_enter Try.func75, Try.ntmps75
  go_wp2_with fail
  rw [HX.out]
  clear x0 x1 x2 x3 x4
  refine HC.out.mono ?_
  rintro e w6 ⟨rfl, hb6⟩
  have HI6 := Lib.hid (HI.out.keep hb6)
  clear xk hzx hb6
  obtain ⟨m0, m1, m2, m3, u0, u1, u2, u3, zm⟩ := HI6.out.val.four
  cases r with
  | some q =>
    unfold numberV
    go_wp2_with fail
    have hF := HI6.out.fin (.int .i64 q.num) (.int .i64 q.den) (.slice none 0 0) (.int .i64 0)
    exact val_ret HI6.out.val rfl rfl rfl rfl (valueP_plain q.num q.den hF.1)
  | none =>
    unfold numberV
    go_wp2_with fail
    have hF := HI6.out.fin (.int .i64 0) (.int .i64 0) (.slice none 0 0) (.int .i64 0)
    exact val_ret HI6.out.val rfl rfl rfl rfl (⟨hF.1, rfl⟩)

set_option maxRecDepth 100000 in
set_option maxHeartbeats 4000000 in
theorem val_12 (A1 A2 A3 : Option Addr) (n1 c1 n2 c2 n3 c3 : Nat) (AM : Option Addr) (nm cm : Nat) (s : Int) (K : Option Addr) (kn kc : Nat) (N D : Int) (nme : ByteArray) (AK : Option Addr) (ck : Nat) (b : Int) (u : ValueD) (r : Option FracD) (S0 : Nat → Prop) (w : World) (hvs : ArrB AtValue 4 w w.heap.size AK 1 [u]) (hu : fracGood u.num u.den = true) (hn : fracGood N D = true) (hr : timesQ (qOf u) ⟨N, D⟩ = r) :
    Calls Try.prog 75 #[.agg #[.slice A1 n1 c1, .slice A2 n2 c2, .slice A3 n3 c3], .agg #[.slice AM nm cm], .int .i64 s, .agg #[.int .i64 12, .slice K kn kc, .int .i64 N, .int .i64 D, .string nme], .slice AK 1 ck, .int .i64 b] w (ValueP S0 w (r.map fracV)) := by
  obtain ⟨X, hX, hI, hsX⟩ := ValI.start w #[.slice A1 n1 c1, .slice A2 n2 c2, .slice A3 n3 c3] #[.slice AM nm cm] #[.int .i64 12, .slice K kn kc, .int .i64 N, .int .i64 D, .string nme] (.slice AK 1 ck)
  have x0 : X.cell? ⟨w.heap.size + 2, 0, none⟩ = some (.int .i64 12) := hI.node.cell 0
  have x2 : X.cell? ⟨w.heap.size + 2, 2, none⟩ = some (.int .i64 N) := hI.node.cell 2
  have x3 : X.cell? ⟨w.heap.size + 2, 3, none⟩ = some (.int .i64 D) := hI.node.cell 3
  have x1 : X.cell? ⟨w.heap.size + 2, 1, none⟩ = some (.slice K kn kc) := hI.node.cell 1
  have x4 : X.cell? ⟨w.heap.size + 2, 4, none⟩ = some (.string nme) := hI.node.cell 4
  have xk : X.cell? ⟨w.heap.size + 3, 0, none⟩ = some (.slice AK 1 ck) := hI.kids.cell 0
  have hzx : w.heap.size + 4 < X.heap.size := hI.val.lt
  have HX := Lib.hid hX
  have HI := Lib.hid hI
  have HC := Lib.hid (number12_any K kn kc N D nme AK ck u r X (hvs.below stays_value hI.below hI.below.size) hu hn hr)
  clear hX hI hsX hvs hu hn hr
  go_enter Try.func75, Try.ntmps75
  go_wp2_with fail
  rw [HX.out]
  clear x0 x1 x2 x3 x4
  refine HC.out.mono ?_
  rintro e w6 ⟨rfl, hb6⟩
  have HI6 := Lib.hid (HI.out.keep hb6)
  clear xk hzx hb6
  obtain ⟨m0, m1, m2, m3, u0, u1, u2, u3, zm⟩ := HI6.out.val.four
  cases r with
  | some q =>
    unfold numberV
    go_wp2_with fail
    have hF := HI6.out.fin (.int .i64 q.num) (.int .i64 q.den) (.slice none 0 0) (.int .i64 0)
    exact val_ret HI6.out.val rfl rfl rfl rfl (valueP_plain q.num q.den hF.1)
  | none =>
    unfold numberV
    go_wp2_with fail
    have hF := HI6.out.fin (.int .i64 0) (.int .i64 0) (.slice none 0 0) (.int .i64 0)
    exact val_ret HI6.out.val rfl rfl rfl rfl (⟨hF.1, rfl⟩)

end Go.Proofs.Ythooecojopfjbaa
