/- Walk: the value of a node, operator by operator: the reference: sums, products, words. -/
import Derived.Test.YtggkfepifnfdoaaGreatRefD
import Derived.Test.YtggkfepifnfdoaaGreatValN
namespace Go.Proofs.YtggkfepifnfdoaaGreat
open Go.RowKit

theorem RefI.two {w W : World} {ca cw cn : Array Value} (h : RefI w W ca cw cn) {g : Nat} (hg : w.heap.size + 4 ≤ g) (a b : Value) : RefI w (two W g a b) ca cw cn := by
  have hk : ∀ {x : Nat} {t : TypeId} {cs : Array Value}, Blk W x t cs → x ≠ g → Blk (Go.Proofs.YtggkfepifnfdoaaGreat.two W g a b) x t cs := fun hb hne => (hb.far (p := ⟨g, 0, none⟩) hne a).far (p := ⟨g, 1, none⟩) hne b
  exact ⟨two_below h.below (by omega) a b, hk h.ask (by omega), hk h.wld (by omega), hk h.node (by omega), hk h.val (by omega)⟩

set_option maxRecDepth 100000 in
set_option maxHeartbeats 4000000 in
theorem ref_12 (A1 A2 A3 : Option Addr) (n1 c1 n2 c2 n3 c3 : Nat) (AM : Option Addr) (nm cm : Nat) (s : Int) (K : Option Addr) (kn kc : Nat) (N D : Int) (nme : ByteArray) (AK : Option Addr) (ck : Nat) (u : ValueD) (r : Option FracD) (S0 : Nat → Prop) (w : World) (hvs : Arr AtValue 4 w S0 AK 1 [u]) (hS0 : ∀ b, S0 b → b < w.heap.size) (hu : fracGood u.num u.den = true) (hn : fracGood N D = true) (hr : timesQ (qOf u) ⟨N, D⟩ = r) :
    Calls Tryz.prog 17 #[.agg #[.slice A1 n1 c1, .slice A2 n2 c2, .slice A3 n3 c3], .agg #[.slice AM nm cm], .agg #[.int .i64 12, .slice K kn kc, .int .i64 N, .int .i64 D, .string nme], .int .i64 s, .slice AK 1 ck] w (ValueP S0 w (r.map fracV)) := by
  obtain ⟨X, hX, hI, hsX⟩ := RefI.start w #[.slice A1 n1 c1, .slice A2 n2 c2, .slice A3 n3 c3] #[.slice AM nm cm] #[.int .i64 12, .slice K kn kc, .int .i64 N, .int .i64 D, .string nme]
  have x0 : X.cell? ⟨w.heap.size + 2, 0, none⟩ = some (.int .i64 12) := hI.node.cell 0
  have x2 : X.cell? ⟨w.heap.size + 2, 2, none⟩ = some (.int .i64 N) := hI.node.cell 2
  have x3 : X.cell? ⟨w.heap.size + 2, 3, none⟩ = some (.int .i64 D) := hI.node.cell 3
  have hzx : w.heap.size + 3 < X.heap.size := hI.val.lt
  have hvX : Arr AtValue 4 X S0 AK 1 [u] := hvs.keep stays_value (fun _ h => h) (fun b o h => hI.below.cell (p := ⟨b, o, none⟩) (hS0 b h))
  have HX := Lib.hid hX
  have HI := Lib.hid hI
  have HVX := Lib.hid hvX
  have HS0 := Lib.hid hS0
  have HSX := Lib.hid hsX
  have hl := hvX.len
  have HLV := Lib.hid hl
  obtain ⟨C, hC⟩ : ∃ C, ([u] : List ValueD).countP isOne = C := ⟨_, rfl⟩
  have HC0 : Hid (0 + (([u] : List ValueD).drop 0).countP isOne = C) := by show _ = _; rw [Nat.zero_add]; exact hC
  have HCC := Lib.hid hC
  clear hX hI hsX hvs hvX hS0 hl hC
  go_enter Tryz.func17, Tryz.ntmps17
  go_wp2_with fail
  rw [HX.out]
  clear x0 x2 x3
  go_loop [16, 17] (fun s16 s17 => ∃ (k y : Nat), k ≤ 1 ∧ s17 = .int .i64 k ∧ s16 = .int .i64 y ∧ y ≤ k ∧ Hid (y + (([u] : List ValueD).drop k).countP isOne = C)) (fun _ s17 => 1 - (intOf s17).toNat)
  case atStart => exact ⟨0, 0, Nat.zero_le _, rfl, rfl, Nat.le_refl _, HC0⟩
  case round =>
    clear HC0
    obtain ⟨k, y, hk, rfl, rfl, hy, HY⟩ := hrel
    by_cases hlt : k < 1
    · obtain ⟨b0, off, hx, A5, n5, c5, rfl, -, v0, -, -, -, -, -, -, -, -, -⟩ := values_get HVX.out hlt
      have e1 := HY.out
      rw [drop_cons hx, List.countP_cons] at e1
      generalize ([u] : List ValueD)[k] = u9 at e1 v0
      obtain ⟨un9, ud9, uc9, ur9⟩ := u9
      dsimp only at v0
      clear hx HY
      cases hq : isOne ⟨un9, ud9, uc9, ur9⟩ with
      | true =>
        have q1 : (un9 == 1) = true := hq
        rw [hq, if_pos rfl] at e1
        have H1 : Hid (y + 1 + (([u] : List ValueD).drop (k + 1)).countP isOne = C) := by show _ = _; omega
        clear hq e1
        go_wp2_with fail
        go_round
        case rel => exact ⟨k + 1, y + 1, by omega, by go_num, by go_num, by omega, H1⟩
        case measure => simp [intOf]; omega
      | false =>
        have q1 : (un9 == 1) = false := hq
        rw [hq, if_neg (by simp)] at e1
        have H1 : Hid (y + (([u] : List ValueD).drop (k + 1)).countP isOne = C) := by show _ = _; omega
        clear hq e1
        go_wp2_with fail
        go_round
        case rel => exact ⟨k + 1, y, by omega, by go_num, rfl, by omega, H1⟩
        case measure => simp [intOf]; omega
    · have hkk : k = 1 := by omega
      subst hkk
      have e1 := HY.out
      rw [List.drop_of_length_le (by rw [HLV.out]; exact Nat.le_refl _), List.countP_nil, Nat.add_zero] at e1
      subst e1
      have x0 : X.cell? ⟨w.heap.size + 2, 0, none⟩ = some (.int .i64 12) := HI.out.node.cell 0
      have x2 : X.cell? ⟨w.heap.size + 2, 2, none⟩ = some (.int .i64 N) := HI.out.node.cell 2
      have x3 : X.cell? ⟨w.heap.size + 2, 3, none⟩ = some (.int .i64 D) := HI.out.node.cell 3
      clear HY hk hlt
      obtain ⟨b0, off, hx, A4, n4, c4, rfl, hb0, v0, v1, v2, v3, -, -, -, -, -, -⟩ := values_get HVX.out (i := 0) (by omega)
      simp only [List.getElem_cons_zero, Nat.zero_mul, Nat.add_zero] at v0 v1 v3 v2
      have hbX : b0 < X.heap.size := Nat.lt_of_lt_of_le (HS0.out b0 hb0) HI.out.below.size
      have HT := Lib.hid (fun W => refTimes_any (qOf u) ⟨N, D⟩ r W hu hn hr)
      unfold qOf at HT
      obtain ⟨un, ud, uc, ur⟩ := u
      dsimp only at v0 v1 v3 HT
      have zw2 : w.heap.size + 2 < X.heap.size := by omega
      have ne0 : X.heap.size ≠ b0 := by omega
      have ne1 : X.heap.size ≠ w.heap.size + 2 := by omega
      clear hx HVX HCC hu hn hr v2 v3
      cases r with
      | some q =>
        unfold lowV at HT
        go_upto_region 50 with fail
        go_region_held3 (fun w' => w'.cell? ⟨b0, off, none⟩ = some (.int .i64 un) ∧ w'.cell? ⟨b0, off + 1, none⟩ = some (.int .i64 ud) ∧ w'.cell? ⟨w.heap.size + 2, 2, none⟩ = some (.int .i64 N) ∧ w'.cell? ⟨w.heap.size + 2, 3, none⟩ = some (.int .i64 D))
          ((try dsimp only) <;> (repeat' apply And.intro) <;> go_keep)
          (first
            | (go_simp
               go_at_call 47
               refine (HT.out _).mono ?_
               rintro e w5 ⟨rfl, hb5⟩
               have HB5 : Hid (Below X.heap.size X w5) := below_join (by first | exact below_drewN (Below.refl _ _) 1 | exact below_drewN ((Below.refl _ _).alloc (Nat.le_refl _) _) 1) hb5
               have r0 : w5.cell? ⟨b0, off, none⟩ = some (.int .i64 un) := by rw [HB5.out.cell (p := ⟨b0, off, none⟩) hbX]; exact v0
               have r1 : w5.cell? ⟨b0, off + 1, none⟩ = some (.int .i64 ud) := by rw [HB5.out.cell (p := ⟨b0, off + 1, none⟩) hbX]; exact v1
               have r2 : w5.cell? ⟨w.heap.size + 2, 2, none⟩ = some (.int .i64 N) := by rw [HB5.out.cell (p := ⟨w.heap.size + 2, 2, none⟩) zw2]; exact x2
               have r3 : w5.cell? ⟨w.heap.size + 2, 3, none⟩ = some (.int .i64 D) := by rw [HB5.out.cell (p := ⟨w.heap.size + 2, 3, none⟩) zw2]; exact x3
               try
                 have k9 : Blk w5 X.heap.size 45 #[.int .i64 0, .int .i64 0] := (Blk.new X 45 #[.int .i64 0, .int .i64 0]).below (below_of_drew hb5) (by simp)
                 have K9 := Lib.hid k9
                 have g0 : w5.cell? ⟨X.heap.size, 0, none⟩ = some (.int .i64 0) := k9.cell 0
                 have f0 : w5.frozen? ⟨X.heap.size, 0, none⟩ = false := k9.frozen 0
                 have g1 : w5.cell? ⟨X.heap.size, 1, none⟩ = some (.int .i64 0) := k9.cell 1
                 have f1 : w5.frozen? ⟨X.heap.size, 1, none⟩ = false := k9.frozen 1
                 have g9 : X.heap.size < w5.heap.size := k9.lt
                 clear k9
               clear hb5)
            | fail)
        all_goals clear r0 r1 r2 r3
        all_goals clear v0 v1 x0 x2 x3 ne0 ne1 zw2 hbX hb0 hzx
        · have hbZ : Below X.heap.size X (w5.alloc (.cells #[.int .i64 q.num, .int .i64 q.den] 45)) := HB5.out.alloc HB5.out.size _
          have hkZ := Blk.new w5 45 #[.int .i64 q.num, .int .i64 q.den]
          generalize w5.alloc (.cells #[.int .i64 q.num, .int .i64 q.den] 45) = Z at hbZ hkZ ⊢
          have HIZ := Lib.hid (HI.out.keep hbZ)
          have q0 : Z.cell? ⟨w5.heap.size, 0, none⟩ = some (.int .i64 q.num) := hkZ.cell 0
          have q1 : Z.cell? ⟨w5.heap.size, 1, none⟩ = some (.int .i64 q.den) := hkZ.cell 1
          have qz : w5.heap.size < Z.heap.size := hkZ.lt
          clear hbZ hkZ
          obtain ⟨m0, m1, m2, m3, u0, u1, u2, u3, zm⟩ := HIZ.out.val.four
          go_wp2_with fail
          have hF := HIZ.out.fin (.int .i64 q.num) (.int .i64 q.den) (.slice none 0 0) (.int .i64 0)
          exact ref_ret HIZ.out.val rfl rfl rfl rfl (valueP_plain q.num q.den hF.1)
        · clear g0 g1 f0 f1 g9
          have hbZ : Below X.heap.size X (two w5 X.heap.size (.int .i64 q.num) (.int .i64 q.den)) := two_below HB5.out (Nat.le_refl _) _ _
          have hkZ := two_blk K9.out (.int .i64 q.num) (.int .i64 q.den)
          have e5 : (w5.setCell ⟨X.heap.size, 0, none⟩ (.int .i64 q.num)).setCell ⟨X.heap.size, 1, none⟩ (.int .i64 q.den) = two w5 X.heap.size (.int .i64 q.num) (.int .i64 q.den) := rfl
          rw [e5]
          clear e5
          generalize two w5 X.heap.size (.int .i64 q.num) (.int .i64 q.den) = Z at hbZ hkZ ⊢
          have HIZ := Lib.hid (HI.out.keep hbZ)
          have q0 : Z.cell? ⟨X.heap.size, 0, none⟩ = some (.int .i64 q.num) := hkZ.cell 0
          have q1 : Z.cell? ⟨X.heap.size, 1, none⟩ = some (.int .i64 q.den) := hkZ.cell 1
          have qz : X.heap.size < Z.heap.size := hkZ.lt
          clear hbZ hkZ
          obtain ⟨m0, m1, m2, m3, u0, u1, u2, u3, zm⟩ := HIZ.out.val.four
          go_wp2_with fail
          have hF := HIZ.out.fin (.int .i64 q.num) (.int .i64 q.den) (.slice none 0 0) (.int .i64 0)
          exact ref_ret HIZ.out.val rfl rfl rfl rfl (valueP_plain q.num q.den hF.1)
      | none =>
        unfold lowV at HT
        go_upto_region 50 with fail
        go_region_held3 (fun w' => w'.cell? ⟨b0, off, none⟩ = some (.int .i64 un) ∧ w'.cell? ⟨b0, off + 1, none⟩ = some (.int .i64 ud) ∧ w'.cell? ⟨w.heap.size + 2, 2, none⟩ = some (.int .i64 N) ∧ w'.cell? ⟨w.heap.size + 2, 3, none⟩ = some (.int .i64 D))
          ((try dsimp only) <;> (repeat' apply And.intro) <;> go_keep)
          (first
            | (go_simp
               go_at_call 47
               refine (HT.out _).mono ?_
               rintro e w5 ⟨rfl, hb5⟩
               have HB5 : Hid (Below X.heap.size X w5) := below_join (by first | exact below_drewN (Below.refl _ _) 1 | exact below_drewN ((Below.refl _ _).alloc (Nat.le_refl _) _) 1) hb5
               have r0 : w5.cell? ⟨b0, off, none⟩ = some (.int .i64 un) := by rw [HB5.out.cell (p := ⟨b0, off, none⟩) hbX]; exact v0
               have r1 : w5.cell? ⟨b0, off + 1, none⟩ = some (.int .i64 ud) := by rw [HB5.out.cell (p := ⟨b0, off + 1, none⟩) hbX]; exact v1
               have r2 : w5.cell? ⟨w.heap.size + 2, 2, none⟩ = some (.int .i64 N) := by rw [HB5.out.cell (p := ⟨w.heap.size + 2, 2, none⟩) zw2]; exact x2
               have r3 : w5.cell? ⟨w.heap.size + 2, 3, none⟩ = some (.int .i64 D) := by rw [HB5.out.cell (p := ⟨w.heap.size + 2, 3, none⟩) zw2]; exact x3
               try
                 have k9 : Blk w5 X.heap.size 45 #[.int .i64 0, .int .i64 0] := (Blk.new X 45 #[.int .i64 0, .int .i64 0]).below (below_of_drew hb5) (by simp)
                 have K9 := Lib.hid k9
                 have g0 : w5.cell? ⟨X.heap.size, 0, none⟩ = some (.int .i64 0) := k9.cell 0
                 have f0 : w5.frozen? ⟨X.heap.size, 0, none⟩ = false := k9.frozen 0
                 have g1 : w5.cell? ⟨X.heap.size, 1, none⟩ = some (.int .i64 0) := k9.cell 1
                 have f1 : w5.frozen? ⟨X.heap.size, 1, none⟩ = false := k9.frozen 1
                 have g9 : X.heap.size < w5.heap.size := k9.lt
                 clear k9
               clear hb5)
            | fail)
        all_goals clear r0 r1 r2 r3
        all_goals clear v0 v1 x0 x2 x3 ne0 ne1 zw2 hbX hb0 hzx
        · have hbZ : Below X.heap.size X (w5.alloc (.cells #[.int .i64 0, .int .i64 0] 45)) := HB5.out.alloc HB5.out.size _
          have hkZ := Blk.new w5 45 #[.int .i64 0, .int .i64 0]
          generalize w5.alloc (.cells #[.int .i64 0, .int .i64 0] 45) = Z at hbZ hkZ ⊢
          have HIZ := Lib.hid (HI.out.keep hbZ)
          have q0 : Z.cell? ⟨w5.heap.size, 0, none⟩ = some (.int .i64 0) := hkZ.cell 0
          have q1 : Z.cell? ⟨w5.heap.size, 1, none⟩ = some (.int .i64 0) := hkZ.cell 1
          have qz : w5.heap.size < Z.heap.size := hkZ.lt
          clear hbZ hkZ
          obtain ⟨m0, m1, m2, m3, u0, u1, u2, u3, zm⟩ := HIZ.out.val.four
          go_wp2_with fail
          have hF := HIZ.out.fin (.int .i64 0) (.int .i64 0) (.slice none 0 0) (.int .i64 0)
          exact ref_ret HIZ.out.val rfl rfl rfl rfl (⟨hF.1, rfl⟩)
        · clear g0 g1 f0 f1 g9
          have hbZ : Below X.heap.size X (two w5 X.heap.size (.int .i64 0) (.int .i64 0)) := two_below HB5.out (Nat.le_refl _) _ _
          have hkZ := two_blk K9.out (.int .i64 0) (.int .i64 0)
          have e5 : (w5.setCell ⟨X.heap.size, 0, none⟩ (.int .i64 0)).setCell ⟨X.heap.size, 1, none⟩ (.int .i64 0) = two w5 X.heap.size (.int .i64 0) (.int .i64 0) := rfl
          rw [e5]
          clear e5
          generalize two w5 X.heap.size (.int .i64 0) (.int .i64 0) = Z at hbZ hkZ ⊢
          have HIZ := Lib.hid (HI.out.keep hbZ)
          have q0 : Z.cell? ⟨X.heap.size, 0, none⟩ = some (.int .i64 0) := hkZ.cell 0
          have q1 : Z.cell? ⟨X.heap.size, 1, none⟩ = some (.int .i64 0) := hkZ.cell 1
          have qz : X.heap.size < Z.heap.size := hkZ.lt
          clear hbZ hkZ
          obtain ⟨m0, m1, m2, m3, u0, u1, u2, u3, zm⟩ := HIZ.out.val.four
          go_wp2_with fail
          have hF := HIZ.out.fin (.int .i64 0) (.int .i64 0) (.slice none 0 0) (.int .i64 0)
          exact ref_ret HIZ.out.val rfl rfl rfl rfl (⟨hF.1, rfl⟩)

set_option maxRecDepth 100000 in
set_option maxHeartbeats 4000000 in
theorem ref_11 (A1 A2 A3 : Option Addr) (n1 c1 n2 c2 n3 c3 : Nat) (AM : Option Addr) (nm cm : Nat) (s : Int) (K : Option Addr) (kn kc : Nat) (N D : Int) (nme : ByteArray) (AK : Option Addr) (ck : Nat) (nk : Nat) (vs : List ValueD) (r : Option FracD) (S0 : Nat → Prop) (w : World) (hvs : Arr AtValue 4 w S0 AK nk vs) (hS0 : ∀ b, S0 b → b < w.heap.size) (hnk : nk ≤ 1000) (hg : ∀ v ∈ vs, fracGood v.num v.den = true) (hr : addF ⟨0, 1⟩ vs = r) :
    Calls Tryz.prog 17 #[.agg #[.slice A1 n1 c1, .slice A2 n2 c2, .slice A3 n3 c3], .agg #[.slice AM nm cm], .agg #[.int .i64 11, .slice K kn kc, .int .i64 N, .int .i64 D, .string nme], .int .i64 s, .slice AK nk ck] w (ValueP S0 w (r.map fracV)) := by
  obtain ⟨X, hX, hI, hsX⟩ := RefI.start w #[.slice A1 n1 c1, .slice A2 n2 c2, .slice A3 n3 c3] #[.slice AM nm cm] #[.int .i64 11, .slice K kn kc, .int .i64 N, .int .i64 D, .string nme]
  have x0 : X.cell? ⟨w.heap.size + 2, 0, none⟩ = some (.int .i64 11) := hI.node.cell 0
  have x2 : X.cell? ⟨w.heap.size + 2, 2, none⟩ = some (.int .i64 N) := hI.node.cell 2
  have x3 : X.cell? ⟨w.heap.size + 2, 3, none⟩ = some (.int .i64 D) := hI.node.cell 3
  have hzx : w.heap.size + 3 < X.heap.size := hI.val.lt
  have hvX : Arr AtValue 4 X S0 AK nk vs := hvs.keep stays_value (fun _ h => h) (fun b o h => hI.below.cell (p := ⟨b, o, none⟩) (hS0 b h))
  have HX := Lib.hid hX
  have HI := Lib.hid hI
  have HVX := Lib.hid hvX
  have HS0 := Lib.hid hS0
  have HSX := Lib.hid hsX
  have hl := hvX.len
  have HLV := Lib.hid hl
  obtain ⟨C, hC⟩ : ∃ C, (vs : List ValueD).countP isOne = C := ⟨_, rfl⟩
  have HC0 : Hid (0 + ((vs : List ValueD).drop 0).countP isOne = C) := by show _ = _; rw [Nat.zero_add]; exact hC
  have HCC := Lib.hid hC
  clear hX hI hsX hvX hS0 hl hC
  go_enter Tryz.func17, Tryz.ntmps17
  go_wp2_with fail
  rw [HX.out]
  clear x0 x2 x3
  go_loop [16, 17] (fun s16 s17 => ∃ (k y : Nat), k ≤ nk ∧ s17 = .int .i64 k ∧ s16 = .int .i64 y ∧ y ≤ k ∧ Hid (y + ((vs : List ValueD).drop k).countP isOne = C)) (fun _ s17 => nk - (intOf s17).toNat)
  case atStart => exact ⟨0, 0, Nat.zero_le _, rfl, rfl, Nat.le_refl _, HC0⟩
  case round =>
    clear HC0
    obtain ⟨k, y, hk, rfl, rfl, hy, HY⟩ := hrel
    by_cases hlt : k < nk
    · obtain ⟨b0, off, hx, A5, n5, c5, rfl, -, v0, -, -, -, -, -, -, -, -, -⟩ := values_get HVX.out hlt
      have e1 := HY.out
      rw [drop_cons hx, List.countP_cons] at e1
      generalize (vs : List ValueD)[k] = u9 at e1 v0
      obtain ⟨un9, ud9, uc9, ur9⟩ := u9
      dsimp only at v0
      have hkI : (k : Int) < nk := by omega
      clear hx HY
      cases hq : isOne ⟨un9, ud9, uc9, ur9⟩ with
      | true =>
        have q1 : (un9 == 1) = true := hq
        rw [hq, if_pos rfl] at e1
        have H1 : Hid (y + 1 + ((vs : List ValueD).drop (k + 1)).countP isOne = C) := by show _ = _; omega
        clear hq e1
        go_wp2_with fail
        go_round
        case rel => exact ⟨k + 1, y + 1, by omega, by go_num, by go_num, by omega, H1⟩
        case measure => simp [intOf]; omega
      | false =>
        have q1 : (un9 == 1) = false := hq
        rw [hq, if_neg (by simp)] at e1
        have H1 : Hid (y + ((vs : List ValueD).drop (k + 1)).countP isOne = C) := by show _ = _; omega
        clear hq e1
        go_wp2_with fail
        go_round
        case rel => exact ⟨k + 1, y, by omega, by go_num, rfl, by omega, H1⟩
        case measure => simp [intOf]; omega
    · obtain rfl : nk = k := by omega
      have e1 := HY.out
      rw [List.drop_of_length_le (by rw [HLV.out]; exact Nat.le_refl _), List.countP_nil, Nat.add_zero] at e1
      subst e1
      have hkI : ¬ ((nk : Nat) : Int) < (nk : Int) := by omega
      have x0 : X.cell? ⟨w.heap.size + 2, 0, none⟩ = some (.int .i64 11) := HI.out.node.cell 0
      have x2 : X.cell? ⟨w.heap.size + 2, 2, none⟩ = some (.int .i64 N) := HI.out.node.cell 2
      have x3 : X.cell? ⟨w.heap.size + 2, 3, none⟩ = some (.int .i64 D) := HI.out.node.cell 3
      clear HY hk hlt
      have hI1 := HI.out.keep ((Below.refl X.heap.size X).alloc (Nat.le_refl _) (.cells #[.int .i64 0, .int .i64 1] 45))
      have hk1 := Blk.new X 45 #[.int .i64 0, .int .i64 1]
      have H0 := Lib.hid (And.intro hI1 hk1)
      have HR := Lib.hid hr
      have HG := Lib.hid hg
      have HVW := Lib.hid hvs
      clear hI1 hk1 hr hg HCC hvs
      go_wp2_with fail
      clear x0 x2 x3
      go_loopw [19] (fun s19 wr => ∃ (j : Nat) (q : FracD), j ≤ nk ∧ s19 = .int .i64 j ∧ RefI w wr #[.slice A1 n1 c1, .slice A2 n2 c2, .slice A3 n3 c3] #[.slice AM nm cm] #[.int .i64 11, .slice K kn kc, .int .i64 N, .int .i64 D, .string nme] ∧ Blk wr X.heap.size 45 #[.int .i64 q.num, .int .i64 q.den] ∧ fracGood q.num q.den = true ∧ Hid (addF q (vs.drop j) = r)) (fun s19 _ => nk - (intOf s19).toNat)
      case atStart => exact ⟨0, ⟨0, 1⟩, Nat.zero_le _, rfl, H0.out.1, H0.out.2, by decide, HR⟩
      case round =>
        clear H0 HR
        obtain ⟨j, q, hj, rfl, hI, hks, hgq, HK⟩ := hrel
        by_cases hjlt : j < nk
        · obtain ⟨b0, off, hx, A4, n4, c4, rfl, hb0, v0, v1, v2, v3, -, -, -, -, -, -⟩ := values_get (HVW.out.keep stays_value (fun _ h => h) (fun b o h => hI.below.cell (p := ⟨b, o, none⟩) (HS0.out b h))) hjlt
          have hgu := HG.out _ (List.getElem_mem hx)
          have e1 := HK.out
          rw [drop_cons hx, addF] at e1
          generalize vs[j] = u at e1 v0 v1 v3 hgu
          obtain ⟨un, ud, uc, ur⟩ := u
          unfold qOf at e1
          dsimp only at e1 v0 v1 v3 hgu
          obtain ⟨ar, har⟩ : ∃ ar, addQ q ⟨un, ud⟩ = ar := ⟨_, rfl⟩
          have HA := Lib.hid (fun W => refAdd_any q ⟨un, ud⟩ ar W hgq hgu har)
          have hgood : ∀ q', ar = some q' → fracGood q'.num q'.den = true := fun q' e => (addQ_good hgq (b := ⟨un, ud⟩) hgu (har.trans e)).1
          rw [har] at e1
          have s0 : wr.cell? ⟨X.heap.size, 0, none⟩ = some (.int .i64 q.num) := hks.cell 0
          have s1 : wr.cell? ⟨X.heap.size, 1, none⟩ = some (.int .i64 q.den) := hks.cell 1
          have zs : X.heap.size < wr.heap.size := hks.lt
          have hbX : b0 < wr.heap.size := Nat.lt_of_lt_of_le (HS0.out b0 hb0) hI.below.size
          have ne0 : wr.heap.size ≠ X.heap.size := by omega
          have ne1 : wr.heap.size ≠ b0 := by omega
          have hjI : (j : Int) < (nk : Int) := by omega
          have HIR := Lib.hid (And.intro hI hks)
          clear HK hx hI hks har hgq hgu v2 v3
          cases ar with
          | some q' =>
            have H1 : Hid (addF q' (vs.drop (j + 1)) = r) := e1
            have HGQ := Lib.hid (hgood q' rfl)
            unfold lowV at HA
            clear e1 hgood
            go_upto_region 44 with fail
            go_region_held3 (fun w' => w'.cell? ⟨X.heap.size, 0, none⟩ = some (.int .i64 q.num) ∧ w'.cell? ⟨X.heap.size, 1, none⟩ = some (.int .i64 q.den) ∧ w'.cell? ⟨b0, off + j * 4, none⟩ = some (.int .i64 un) ∧ w'.cell? ⟨b0, off + j * 4 + 1, none⟩ = some (.int .i64 ud))
              ((try dsimp only) <;> (repeat' apply And.intro) <;> go_keep)
              (first
                | (go_simp
                   go_at_call 46
                   refine (HA.out _).mono ?_
                   rintro e w5 ⟨rfl, hb5⟩
                   have HB5 : Hid (Below wr.heap.size wr w5) := below_join (by first | exact below_drewN (Below.refl _ _) 1 | exact below_drewN ((Below.refl _ _).alloc (Nat.le_refl _) _) 1) hb5
                   have r0 : w5.cell? ⟨X.heap.size, 0, none⟩ = some (.int .i64 q.num) := by rw [HB5.out.cell (p := ⟨X.heap.size, 0, none⟩) zs]; exact s0
                   have r1 : w5.cell? ⟨X.heap.size, 1, none⟩ = some (.int .i64 q.den) := by rw [HB5.out.cell (p := ⟨X.heap.size, 1, none⟩) zs]; exact s1
                   have r2 : w5.cell? ⟨b0, off + j * 4, none⟩ = some (.int .i64 un) := by rw [HB5.out.cell (p := ⟨b0, off + j * 4, none⟩) hbX]; exact v0
                   have r3 : w5.cell? ⟨b0, off + j * 4 + 1, none⟩ = some (.int .i64 ud) := by rw [HB5.out.cell (p := ⟨b0, off + j * 4 + 1, none⟩) hbX]; exact v1
                   try
                     have k9 : Blk w5 wr.heap.size 45 #[.int .i64 0, .int .i64 0] := (Blk.new wr 45 #[.int .i64 0, .int .i64 0]).below (below_of_drew hb5) (by simp)
                     have K9 := Lib.hid k9
                     have g0 : w5.cell? ⟨wr.heap.size, 0, none⟩ = some (.int .i64 0) := k9.cell 0
                     have f0 : w5.frozen? ⟨wr.heap.size, 0, none⟩ = false := k9.frozen 0
                     have g1 : w5.cell? ⟨wr.heap.size, 1, none⟩ = some (.int .i64 0) := k9.cell 1
                     have f1 : w5.frozen? ⟨wr.heap.size, 1, none⟩ = false := k9.frozen 1
                     have g9 : wr.heap.size < w5.heap.size := k9.lt
                     clear k9
                   clear hb5)
                | fail)
            all_goals clear r0 r1 r2 r3
            all_goals clear v0 v1 s0 s1 zs ne0 ne1 hbX hb0
            · have hbZ : Below wr.heap.size wr (w5.alloc (.cells #[.int .i64 q'.num, .int .i64 q'.den] 45)) := HB5.out.alloc HB5.out.size _
              have hkZ := Blk.new w5 45 #[.int .i64 q'.num, .int .i64 q'.den]
              generalize w5.alloc (.cells #[.int .i64 q'.num, .int .i64 q'.den] 45) = Z at hbZ hkZ ⊢
              have hIZ := HIR.out.1.keep hbZ
              have hsZ := HIR.out.2.below hbZ HIR.out.2.lt
              have q0 : Z.cell? ⟨w5.heap.size, 0, none⟩ = some (.int .i64 q'.num) := hkZ.cell 0
              have q1 : Z.cell? ⟨w5.heap.size, 1, none⟩ = some (.int .i64 q'.den) := hkZ.cell 1
              have qz : w5.heap.size < Z.heap.size := hkZ.lt
              have p0 : Z.cell? ⟨X.heap.size, 0, none⟩ = some (.int .i64 q.num) := hsZ.cell 0
              have p1 : Z.cell? ⟨X.heap.size, 1, none⟩ = some (.int .i64 q.den) := hsZ.cell 1
              have p2 : Z.frozen? ⟨X.heap.size, 0, none⟩ = false := hsZ.frozen 0
              have p3 : Z.frozen? ⟨X.heap.size, 1, none⟩ = false := hsZ.frozen 1
              have pz : X.heap.size < Z.heap.size := hsZ.lt
              have HN : Hid (RefI w (two Z X.heap.size (.int .i64 q'.num) (.int .i64 q'.den)) #[.slice A1 n1 c1, .slice A2 n2 c2, .slice A3 n3 c3] #[.slice AM nm cm] #[.int .i64 11, .slice K kn kc, .int .i64 N, .int .i64 D, .string nme] ∧ Blk (two Z X.heap.size (.int .i64 q'.num) (.int .i64 q'.den)) X.heap.size 45 #[.int .i64 q'.num, .int .i64 q'.den]) := ⟨hIZ.two (by have := HSX.out; omega) _ _, two_blk hsZ _ _⟩
              clear hIZ hsZ hbZ hkZ
              go_wp2_with fail
              clear q0 q1 p0 p1 p2 p3
              go_roundw
              case rel => exact ⟨j + 1, q', by omega, by go_num, HN.out.1, HN.out.2, HGQ.out, H1⟩
              case measure => simp [intOf]; omega
            · clear g0 g1 f0 f1 g9
              have hbZ : Below wr.heap.size wr (two w5 wr.heap.size (.int .i64 q'.num) (.int .i64 q'.den)) := two_below HB5.out (Nat.le_refl _) _ _
              have hkZ := two_blk K9.out (.int .i64 q'.num) (.int .i64 q'.den)
              have e5 : (w5.setCell ⟨wr.heap.size, 0, none⟩ (.int .i64 q'.num)).setCell ⟨wr.heap.size, 1, none⟩ (.int .i64 q'.den) = two w5 wr.heap.size (.int .i64 q'.num) (.int .i64 q'.den) := rfl
              rw [e5]
              clear e5
              generalize two w5 wr.heap.size (.int .i64 q'.num) (.int .i64 q'.den) = Z at hbZ hkZ ⊢
              have hIZ := HIR.out.1.keep hbZ
              have hsZ := HIR.out.2.below hbZ HIR.out.2.lt
              have q0 : Z.cell? ⟨wr.heap.size, 0, none⟩ = some (.int .i64 q'.num) := hkZ.cell 0
              have q1 : Z.cell? ⟨wr.heap.size, 1, none⟩ = some (.int .i64 q'.den) := hkZ.cell 1
              have qz : wr.heap.size < Z.heap.size := hkZ.lt
              have p0 : Z.cell? ⟨X.heap.size, 0, none⟩ = some (.int .i64 q.num) := hsZ.cell 0
              have p1 : Z.cell? ⟨X.heap.size, 1, none⟩ = some (.int .i64 q.den) := hsZ.cell 1
              have p2 : Z.frozen? ⟨X.heap.size, 0, none⟩ = false := hsZ.frozen 0
              have p3 : Z.frozen? ⟨X.heap.size, 1, none⟩ = false := hsZ.frozen 1
              have pz : X.heap.size < Z.heap.size := hsZ.lt
              have HN : Hid (RefI w (two Z X.heap.size (.int .i64 q'.num) (.int .i64 q'.den)) #[.slice A1 n1 c1, .slice A2 n2 c2, .slice A3 n3 c3] #[.slice AM nm cm] #[.int .i64 11, .slice K kn kc, .int .i64 N, .int .i64 D, .string nme] ∧ Blk (two Z X.heap.size (.int .i64 q'.num) (.int .i64 q'.den)) X.heap.size 45 #[.int .i64 q'.num, .int .i64 q'.den]) := ⟨hIZ.two (by have := HSX.out; omega) _ _, two_blk hsZ _ _⟩
              clear hIZ hsZ hbZ hkZ
              go_wp2_with fail
              clear q0 q1 p0 p1 p2 p3
              go_roundw
              case rel => exact ⟨j + 1, q', by omega, by go_num, HN.out.1, HN.out.2, HGQ.out, H1⟩
              case measure => simp [intOf]; omega
          | none =>
            have H1 : Hid (none = r) := e1
            unfold lowV at HA
            clear e1 hgood
            go_upto_region 44 with fail
            go_region_held3 (fun w' => w'.cell? ⟨X.heap.size, 0, none⟩ = some (.int .i64 q.num) ∧ w'.cell? ⟨X.heap.size, 1, none⟩ = some (.int .i64 q.den) ∧ w'.cell? ⟨b0, off + j * 4, none⟩ = some (.int .i64 un) ∧ w'.cell? ⟨b0, off + j * 4 + 1, none⟩ = some (.int .i64 ud))
              ((try dsimp only) <;> (repeat' apply And.intro) <;> go_keep)
              (first
                | (go_simp
                   go_at_call 46
                   refine (HA.out _).mono ?_
                   rintro e w5 ⟨rfl, hb5⟩
                   have HB5 : Hid (Below wr.heap.size wr w5) := below_join (by first | exact below_drewN (Below.refl _ _) 1 | exact below_drewN ((Below.refl _ _).alloc (Nat.le_refl _) _) 1) hb5
                   have r0 : w5.cell? ⟨X.heap.size, 0, none⟩ = some (.int .i64 q.num) := by rw [HB5.out.cell (p := ⟨X.heap.size, 0, none⟩) zs]; exact s0
                   have r1 : w5.cell? ⟨X.heap.size, 1, none⟩ = some (.int .i64 q.den) := by rw [HB5.out.cell (p := ⟨X.heap.size, 1, none⟩) zs]; exact s1
                   have r2 : w5.cell? ⟨b0, off + j * 4, none⟩ = some (.int .i64 un) := by rw [HB5.out.cell (p := ⟨b0, off + j * 4, none⟩) hbX]; exact v0
                   have r3 : w5.cell? ⟨b0, off + j * 4 + 1, none⟩ = some (.int .i64 ud) := by rw [HB5.out.cell (p := ⟨b0, off + j * 4 + 1, none⟩) hbX]; exact v1
                   try
                     have k9 : Blk w5 wr.heap.size 45 #[.int .i64 0, .int .i64 0] := (Blk.new wr 45 #[.int .i64 0, .int .i64 0]).below (below_of_drew hb5) (by simp)
                     have K9 := Lib.hid k9
                     have g0 : w5.cell? ⟨wr.heap.size, 0, none⟩ = some (.int .i64 0) := k9.cell 0
                     have f0 : w5.frozen? ⟨wr.heap.size, 0, none⟩ = false := k9.frozen 0
                     have g1 : w5.cell? ⟨wr.heap.size, 1, none⟩ = some (.int .i64 0) := k9.cell 1
                     have f1 : w5.frozen? ⟨wr.heap.size, 1, none⟩ = false := k9.frozen 1
                     have g9 : wr.heap.size < w5.heap.size := k9.lt
                     clear k9
                   clear hb5)
                | fail)
            all_goals clear r0 r1 r2 r3
            all_goals clear v0 v1 s0 s1 zs ne0 ne1 hbX hb0
            · have hbZ : Below wr.heap.size wr (w5.alloc (.cells #[.int .i64 0, .int .i64 0] 45)) := HB5.out.alloc HB5.out.size _
              have hkZ := Blk.new w5 45 #[.int .i64 0, .int .i64 0]
              generalize w5.alloc (.cells #[.int .i64 0, .int .i64 0] 45) = Z at hbZ hkZ ⊢
              have HIZ := Lib.hid (HIR.out.1.keep hbZ)
              clear hbZ hkZ
              obtain ⟨m0, m1, m2, m3, u0, u1, u2, u3, zm⟩ := HIZ.out.val.four
              go_wp2_with fail
              have hF := HIZ.out.fin (.int .i64 0) (.int .i64 0) (.slice none 0 0) (.int .i64 0)
              exact ref_ret HIZ.out.val rfl rfl rfl rfl (by have hr := H1.out; subst hr; exact ⟨hF.1, rfl⟩)
            · clear g0 g1 f0 f1 g9
              have hbZ : Below wr.heap.size wr (two w5 wr.heap.size (.int .i64 0) (.int .i64 0)) := two_below HB5.out (Nat.le_refl _) _ _
              have hkZ := two_blk K9.out (.int .i64 0) (.int .i64 0)
              have e5 : (w5.setCell ⟨wr.heap.size, 0, none⟩ (.int .i64 0)).setCell ⟨wr.heap.size, 1, none⟩ (.int .i64 0) = two w5 wr.heap.size (.int .i64 0) (.int .i64 0) := rfl
              rw [e5]
              clear e5
              generalize two w5 wr.heap.size (.int .i64 0) (.int .i64 0) = Z at hbZ hkZ ⊢
              have HIZ := Lib.hid (HIR.out.1.keep hbZ)
              clear hbZ hkZ
              obtain ⟨m0, m1, m2, m3, u0, u1, u2, u3, zm⟩ := HIZ.out.val.four
              go_wp2_with fail
              have hF := HIZ.out.fin (.int .i64 0) (.int .i64 0) (.slice none 0 0) (.int .i64 0)
              exact ref_ret HIZ.out.val rfl rfl rfl rfl (by have hr := H1.out; subst hr; exact ⟨hF.1, rfl⟩)
        · obtain rfl : nk = j := by omega
          have e1 := HK.out
          rw [List.drop_of_length_le (by have := HLV.out; omega), addF] at e1
          have H1 : Hid (some q = r) := e1
          have s0 : wr.cell? ⟨X.heap.size, 0, none⟩ = some (.int .i64 q.num) := hks.cell 0
          have s1 : wr.cell? ⟨X.heap.size, 1, none⟩ = some (.int .i64 q.den) := hks.cell 1
          have zs : X.heap.size < wr.heap.size := hks.lt
          have HIZ := Lib.hid hI
          clear HK e1 hI hgq hks
          obtain ⟨m0, m1, m2, m3, u0, u1, u2, u3, zm⟩ := HIZ.out.val.four
          go_wp2_with fail
          have hF := HIZ.out.fin (.int .i64 q.num) (.int .i64 q.den) (.slice none 0 0) (.int .i64 0)
          exact ref_ret HIZ.out.val rfl rfl rfl rfl (by have hr := H1.out; subst hr; exact valueP_plain q.num q.den hF.1)

end Go.Proofs.YtggkfepifnfdoaaGreat
