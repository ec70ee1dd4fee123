/- Walk: do all assertions hold: the program. · Walk: do all assertions hold: the reference; the law MeanHoldsSays. -/
import Derived.Test.YtggkfepifnfdoaaGreatValV
import Derived.Test.YtggkfepifnfdoaaGreatRefJ
namespace Go.Proofs.YtggkfepifnfdoaaGreat
open Go.RowKit

theorem below_two {w Y : World} {a b : Value} (h : Below w.heap.size w Y) : Below w.heap.size w ((Y.setCell ⟨w.heap.size + 2, 0, none⟩ a).setCell ⟨w.heap.size + 2, 1, none⟩ b).drew := ((h.setCell (p := ⟨w.heap.size + 2, 0, none⟩) (Nat.le_add_right _ _) _).setCell (p := ⟨w.heap.size + 2, 1, none⟩) (Nat.le_add_right _ _) _).drew
/-- what a truth and a fault come to -/
def HoldsP (w : World) (r : Bool × Int × Int) (e : Ending) (w' : World) : Prop := e = .returned (.tuple #[.bool r.1, .agg #[.int .i64 r.2.1, .int .i64 r.2.2]]) ∧ Below w.heap.size w w'
/-- what is asked to hold is a Bool -/
theorem hold_bool {a : AskD} (h : (sortsF a).2.1 = 0) : ∀ k ∈ a.hold, (sortsF a).1.getD k.toNat 0 = 1 := fun k hk => by
  obtain ⟨e1, e2⟩ := sortsF_is h
  obtain ⟨-, -, -, hb, -⟩ := sortsF_ok h
  have hk2 := hb k hk
  obtain ⟨-, hlen, -⟩ := sortsF_ok h
  unfold sortsF at h
  by_cases h1 : (declsF a.decls).1 = 0
  · rw [if_neg (by simpa using h1)] at h
    by_cases h2 : 200 < a.nodes.length
    · rw [if_pos h2] at h; simp at h
    rw [if_neg h2, if_neg (by simpa using e2)] at h
    by_cases h4 : (holdF (nodesF a.decls a.nodes 0 []).1 a.hold).1 = 0
    · unfold holdF at h4
      split at h4
      · simp at h4
      · obtain ⟨-, hr⟩ := firstBad_zero (f := holdCode (nodesF a.decls a.nodes 0 []).1) (l := a.hold) (i := 0) (a := (firstBad (holdCode (nodesF a.decls a.nodes 0 []).1) a.hold 0).2) (Prod.ext h4 rfl)
        obtain ⟨j, hj, hjx⟩ := List.getElem_of_mem hk
        have hc := hr j k (by rw [List.getElem?_eq_getElem hj, hjx])
        unfold holdCode at hc
        rw [e1]
        split at hc
        · simp at hc
        · split at hc
          · assumption
          · simp at hc
    · rw [if_pos (by simpa using h4)] at h
      exact absurd h h4
  · rw [if_pos (by simpa using h1)] at h
    exact absurd h h1
/-- the values of what is asked to hold -/
theorem hold_vals {a : AskD} {ms : List MeaningD} {vs : List ValueD} {qa : Int} (h : meanValF a ms = (vs, 0, qa)) : vs.length = a.nodes.length ∧ a.hold.length ≤ 200 ∧ (∀ k ∈ a.hold, 0 ≤ k ∧ k < (vs.length : Int)) ∧ ∀ k ∈ a.hold, BoolV (kidV vs k.toNat) := by
  obtain ⟨h1, h2, h3⟩ := meanValF_good (a := a) (ms := ms) (by rw [h])
  rw [h] at h1 h2
  obtain ⟨-, -, -, hb, -, hh, -⟩ := sortsF_ok h3
  dsimp only at h1 h2
  refine ⟨h2, hh, fun k hk => by rw [h2]; exact hb k hk, fun k hk => ?_⟩
  have hk2 := hb k hk
  have hlt : k.toNat < vs.length := by omega
  have := h1 _ _ (List.getElem?_eq_getElem hlt)
  rw [hold_bool h3 k hk] at this
  rw [kidV, List.getD_eq_getElem?_getD, List.getElem?_eq_getElem hlt]
  exact goodV_bool this

set_option maxRecDepth 100000 in
set_option maxHeartbeats 1000000 in
theorem hold1_any (x : Int) (B1 : Option Addr) (n d : Nat) (vs : List ValueD) (G : Nat) (S : Nat → Prop) (b : Bool) (w : World) (hv : Arr AtValue 4 w S B1 n vs) (hx0 : 0 ≤ x) (hx : x < (n : Int)) (hG : w.cell? ⟨G, 0, none⟩ = some (.slice B1 n d)) (hb : isZero (kidV vs x.toNat) = b) :
    Calls Tryz.prog 20 #[.int .i64 x, .pointer (some ⟨G, 0, none⟩)] w fun e w' => e = .returned (.bool b) ∧ Below w.heap.size w w' := by
  obtain ⟨b0, off, hxl, A2, n2, c2, rfl, -, v0, -, -, -, -, -, -, -, -, -⟩ := values_get hv (i := x.toNat) (by omega)
  have e : kidV vs x.toNat = vs[x.toNat] := by rw [kidV, List.getD_eq_getElem?_getD, List.getElem?_eq_getElem hxl]; rfl
  rw [e] at hb
  generalize vs[x.toNat] = u at v0 hb
  obtain ⟨un, ud, uc, ur⟩ := u
  have hq : (un == 0) = b := hb
  dsimp only at v0
  have HQ := Lib.hid hq
  clear hv hb e hxl hq
  go_enter Tryz.func20, Tryz.ntmps20
  go_wp2_with fail
  go_ret
  exact ⟨ret_bool HQ.out, Below.refl _ _⟩

set_option maxRecDepth 100000 in
set_option maxHeartbeats 4000000 in
theorem holds_any (A1 A2 A3 : Option Addr) (n1 c1 n2 c2 n3 c3 : Nat) (a : AskD) (AM : Option Addr) (nm cm : Nat) (ms : List MeaningD) (w : World) (ha : AskIn w w.heap.size A1 A2 A3 n1 n2 n3 a) (hc1 : n1 ≤ c1) (hms : ArrB AtMeaning 5 w w.heap.size AM nm ms) :
    Calls Tryz.prog 8 #[.agg #[.slice A1 n1 c1, .slice A2 n2 c2, .slice A3 n3 c3], .agg #[.slice AM nm cm]] w (HoldsP w (meanHoldsF a ms)) := by
  obtain ⟨hb0, hk0, hm0, hf0, hs0⟩ := boxes3 w 26 29 32 #[.slice A1 n1 c1, .slice A2 n2 c2, .slice A3 n3 c3] #[.slice AM nm cm] #[.int .i64 0, .int .i64 0]
  obtain ⟨X, hX⟩ : ∃ X, ((w.alloc (.cells #[.slice A1 n1 c1, .slice A2 n2 c2, .slice A3 n3 c3] 26)).alloc (.cells #[.slice AM nm cm] 29)).alloc (.cells #[.int .i64 0, .int .i64 0] 32) = X := ⟨_, rfl⟩
  rw [hX] at hb0 hk0 hm0 hf0 hs0
  have hI : ValsI w X #[.slice A1 n1 c1, .slice A2 n2 c2, .slice A3 n3 c3] #[.slice AM nm cm] none 0 [] := ⟨hb0, hk0, hm0, hf0, Arr.nil_⟩
  obtain ⟨vs, qc, qa, hr⟩ : ∃ vs qc qa, meanValF a ms = (vs, qc, qa) := ⟨_, _, _, rfl⟩
  have HV : Hid (Calls Tryz.prog 5 #[.agg #[.slice A1 n1 c1, .slice A2 n2 c2, .slice A3 n3 c3], .agg #[.slice AM nm cm]] X (ValuesP X (vs, qc, qa))) := by
    have := values_any A1 A2 A3 n1 c1 n2 c2 n3 c3 a AM nm cm ms X (ha.below hb0 hb0.size) hc1 (ArrB.below hms stays_meaning hb0 hb0.size)
    rw [hr] at this
    exact this
  have HX := Lib.hid hX
  have HI := Lib.hid hI
  have HQ := Lib.hid hr
  have HA := Lib.hid ha
  have x0 : X.cell? ⟨w.heap.size, 0, none⟩ = some (.slice A1 n1 c1) := hk0.cell 0
  have x1 : X.cell? ⟨w.heap.size, 1, none⟩ = some (.slice A2 n2 c2) := hk0.cell 1
  have x2 : X.cell? ⟨w.heap.size, 2, none⟩ = some (.slice A3 n3 c3) := hk0.cell 2
  have x3 : X.cell? ⟨w.heap.size + 1, 0, none⟩ = some (.slice AM nm cm) := hm0.cell 0
  have hzx : w.heap.size + 2 < X.heap.size := hf0.lt
  clear hb0 hk0 hm0 hf0 hs0 hX hI hr ha hms hc1
  go_enter Tryz.func8, Tryz.ntmps8
  go_wp2_with fail
  rw [HX.out]
  refine HV.out.mono ?_
  rintro e w3 ⟨B1, d1, rfl, hb3, h31, h32, h33⟩
  dsimp only at h31 h33 ⊢
  have hI3 := HI.out.keep hb3
  have hb4 : Below X.heap.size X ((w3.alloc (.cells #[.slice B1 vs.length d1] 30)).alloc (.cells #[.int .i64 qc, .int .i64 qa] 32)) := (hb3.alloc hb3.size _).alloc (Nat.le_trans hb3.size (by simp)) _
  have hl4 : Blk ((w3.alloc (.cells #[.slice B1 vs.length d1] 30)).alloc (.cells #[.int .i64 qc, .int .i64 qa] 32)) w3.heap.size 30 #[.slice B1 vs.length d1] := (Blk.new _ _ _).alloc _
  have hf4 : Blk ((w3.alloc (.cells #[.slice B1 vs.length d1] 30)).alloc (.cells #[.int .i64 qc, .int .i64 qa] 32)) (w3.heap.size + 1) 32 #[.int .i64 qc, .int .i64 qa] := by
    have := Blk.new (w3.alloc (.cells #[.slice B1 vs.length d1] 30)) 32 #[.int .i64 qc, .int .i64 qa]
    rwa [World.size_alloc] at this
  have hv4 : ArrB AtValue 4 ((w3.alloc (.cells #[.slice B1 vs.length d1] 30)).alloc (.cells #[.int .i64 qc, .int .i64 qa] 32)) w3.heap.size B1 vs.length vs := ArrB.alloc (ArrB.alloc h33 stays_value (Nat.le_refl _) _) stays_value (by simp) _
  clear hb3 h33 hI3 x0 x1 x2 x3 hzx
  go_upto_region 2 with fail
  generalize (w3.alloc (.cells #[.slice B1 vs.length d1] 30)).alloc (.cells #[.int .i64 qc, .int .i64 qa] 32) = Y at hb4 hl4 hf4 hv4 ⊢
  generalize w3.heap.size = g at hl4 hf4 hv4 ⊢
  have HIY := Lib.hid (HI.out.keep hb4)
  have f0 : Y.cell? ⟨g + 1, 0, none⟩ = some (.int .i64 qc) := hf4.cell 0
  have f1 : Y.cell? ⟨g + 1, 1, none⟩ = some (.int .i64 qa) := hf4.cell 1
  have hzg : g + 1 < Y.heap.size := hf4.lt
  have hgY : g < Y.heap.size := hl4.lt
  by_cases hqc : qc = 0
  · subst hqc
    obtain ⟨hvl, h200, hkr, hkb⟩ := hold_vals HQ.out
    have hl3 := HA.out.hold.len
    obtain ⟨T, hT⟩ : ∃ T, (a.hold.any fun k => isZero (kidV vs k.toNat)) = T := ⟨_, rfl⟩
    have hR : meanHoldsF a ms = (!T, 0, 0) := by rw [meanHoldsF, HQ.out, if_neg (by simp), ← hT]
    have HR := Lib.hid hR
    have eg : ∀ args w, (callFunc 20 args).run Tryz.prog w = .ok (.enter 20 args) w := enters_of Tryz.func20 (by kernel_rfl) rfl
    have hc0 : Y.cell? ⟨g, 0, none⟩ = some (.slice B1 vs.length d1) := hl4.cell 0
    have HC := Lib.hid (containsInts_any 20 #[.pointer (some ⟨g, 0, none⟩)] eg (fun k => isZero (kidV vs k.toNat)) A3 n3 c3 a.hold T Y ((HA.out.hold.below stays_int HIY.out.below HIY.out.below.size)) (by omega) (fun W x hx hW => by
      have h1 := hold1_any x B1 vs.length d1 vs g (fun b => b < g) _ W (hv4.keep stays_value (fun _ h => h) (fun b o h => hW.cell (p := ⟨b, o, none⟩) (Nat.lt_trans h hgY))) (hkr x hx).1 (hkr x hx).2 ((hW.cell (p := ⟨g, 0, none⟩) hgY).trans hc0) rfl
      exact h1.mono fun e w' ⟨h2, h3⟩ => ⟨h2, hW.trans (h3.mono hW.size)⟩) hT)
    have q0 : ((0 : Int) != 0) = false := by simp
    have x2 : Y.cell? ⟨w.heap.size, 2, none⟩ = some (.slice A3 n3 c3) := HIY.out.ask.cell 2
    have hzx : w.heap.size < Y.heap.size := HIY.out.ask.lt
    clear hvl h200 hkr hkb hl3 hT hR eg hc0 hb4 hl4 hf4 hv4
    go_wp2_with fail
    refine HC.out.mono ?_
    rintro e w6 ⟨rfl, hb6⟩
    have hI6 := HIY.out.keep hb6
    have HB := Lib.hid (And.intro hI6.below hI6.flt)
    have m0 : w6.cell? ⟨w.heap.size + 2, 0, none⟩ = some (.int .i64 0) := hI6.flt.cell 0
    have m1 : w6.cell? ⟨w.heap.size + 2, 1, none⟩ = some (.int .i64 0) := hI6.flt.cell 1
    have u0 : w6.frozen? ⟨w.heap.size + 2, 0, none⟩ = false := hI6.flt.frozen 0
    have u1 : w6.frozen? ⟨w.heap.size + 2, 1, none⟩ = false := hI6.flt.frozen 1
    have zm : w.heap.size + 2 < w6.heap.size := hI6.flt.lt
    clear hI6 hb6 x2 hzx f0 f1 hzg hgY
    go_wp2_with fail
    have hz1 := two_blk HB.out.2 (.int .i64 0) (.int .i64 0)
    have hz2 : Below w.heap.size w (two w6 (w.heap.size + 2) (.int .i64 0) (.int .i64 0)) := two_below (g := w.heap.size + 2) HB.out.1 (Nat.le_add_right _ _) (.int .i64 0) (.int .i64 0)
    have e4 : (w6.setCell ⟨w.heap.size + 1 + 1, 0, none⟩ (.int .i64 0)).setCell ⟨w.heap.size + 1 + 1, 1, none⟩ (.int .i64 0) = two w6 (w.heap.size + 2) (.int .i64 0) (.int .i64 0) := rfl
    rw [e4]
    clear e4
    generalize two w6 (w.heap.size + 2) (.int .i64 0) (.int .i64 0) = Z at hz1 hz2 ⊢
    have d0 := hz1.cell 0
    have d1 := hz1.cell 1
    simp only [List.getElem?_toArray, List.getElem?_cons_zero, List.getElem?_cons_succ] at d0 d1
    refine bodyPost_ret (v := .tuple #[.bool (!T), .agg #[.int .i64 0, .int .i64 0]]) (by simp [results, Tryz.results8, go_sem, d0, d1]) rfl ?_
    rw [HR.out]
    exact ⟨rfl, hz2⟩
  · clear hb4 hl4 hf4 hv4
    have hqb : (qc != 0) = true := by rw [bne_iff_ne]; exact hqc
    have hR : meanHoldsF a ms = (false, qc, qa) := by rw [meanHoldsF, HQ.out, if_pos (by simpa using hqc)]
    have HR := Lib.hid hR
    have c0 : Y.cell? ⟨w.heap.size + 2, 0, none⟩ = some (.int .i64 0) := HIY.out.flt.cell 0
    have c1' : Y.cell? ⟨w.heap.size + 2, 1, none⟩ = some (.int .i64 0) := HIY.out.flt.cell 1
    have z0 : Y.frozen? ⟨w.heap.size + 2, 0, none⟩ = false := HIY.out.flt.frozen 0
    have z1 : Y.frozen? ⟨w.heap.size + 2, 1, none⟩ = false := HIY.out.flt.frozen 1
    have hz : w.heap.size + 2 < Y.heap.size := HIY.out.flt.lt
    clear hqc hR
    go_wp2_with fail
    go_region
    go_wp2_with fail
    refine bodyPost_ret (v := .tuple #[.bool false, .agg #[.int .i64 qc, .int .i64 qa]]) (by simp [results, Tryz.results8, go_sem, c0, c1']) rfl ?_
    rw [HR.out]
    exact ⟨rfl, below_two HIY.out.below⟩
end Go.Proofs.YtggkfepifnfdoaaGreat
namespace Go.Proofs.YtggkfepifnfdoaaGreat
open Go.RowKit

/-- no fault is told as (0, 0) -/
theorem valuesF_at {ds : List DeclD} {ms : List MeaningD} {ss : List Int} : ∀ {l : List NodeD} {i : Nat} {out vs : List ValueD} {qa : Int}, valuesF ds ms ss l i out = (vs, 0, qa) → qa = 0
  | [], _, _, _, _, h => by rw [valuesF] at h; simp at h; exact h.2.symm
  | x :: r, i, out, vs, qa, h => by
    rw [valuesF] at h
    split at h
    · simp at h
    · exact valuesF_at h

set_option maxRecDepth 100000 in
set_option maxHeartbeats 4000000 in
theorem refHolds_any (A1 A2 A3 : Option Addr) (n1 c1 n2 c2 n3 c3 : Nat) (a : AskD) (AM : Option Addr) (nm cm : Nat) (ms : List MeaningD) (w : World) (ha : AskIn w w.heap.size A1 A2 A3 n1 n2 n3 a) (hc1 : n1 ≤ c1) (hms : ArrB AtMeaning 5 w w.heap.size AM nm ms) :
    Calls Tryz.prog 9 #[.agg #[.slice A1 n1 c1, .slice A2 n2 c2, .slice A3 n3 c3], .agg #[.slice AM nm cm]] w (HoldsP w (meanHoldsF a ms)) := by
  obtain ⟨hb0, hk0, hm0, hf0, hs0⟩ := boxes3 w 26 29 32 #[.slice A1 n1 c1, .slice A2 n2 c2, .slice A3 n3 c3] #[.slice AM nm cm] #[.int .i64 0, .int .i64 0]
  obtain ⟨X, hX⟩ : ∃ X, ((w.alloc (.cells #[.slice A1 n1 c1, .slice A2 n2 c2, .slice A3 n3 c3] 26)).alloc (.cells #[.slice AM nm cm] 29)).alloc (.cells #[.int .i64 0, .int .i64 0] 32) = X := ⟨_, rfl⟩
  rw [hX] at hb0 hk0 hm0 hf0 hs0
  have hI : ValsI w X #[.slice A1 n1 c1, .slice A2 n2 c2, .slice A3 n3 c3] #[.slice AM nm cm] none 0 [] := ⟨hb0, hk0, hm0, hf0, Arr.nil_⟩
  obtain ⟨vs, qc, qa, hr⟩ : ∃ vs qc qa, meanValF a ms = (vs, qc, qa) := ⟨_, _, _, rfl⟩
  have HV : Hid (Calls Tryz.prog 6 #[.agg #[.slice A1 n1 c1, .slice A2 n2 c2, .slice A3 n3 c3], .agg #[.slice AM nm cm]] X (ValuesP X (vs, qc, qa))) := by
    have := refValues_any A1 A2 A3 n1 c1 n2 c2 n3 c3 a AM nm cm ms X (ha.below hb0 hb0.size) hc1 (ArrB.below hms stays_meaning hb0 hb0.size)
    rw [hr] at this
    exact this
  have HX := Lib.hid hX
  have HI := Lib.hid hI
  have HQ := Lib.hid hr
  have HA := Lib.hid ha
  have x0 : X.cell? ⟨w.heap.size, 0, none⟩ = some (.slice A1 n1 c1) := hk0.cell 0
  have x1 : X.cell? ⟨w.heap.size, 1, none⟩ = some (.slice A2 n2 c2) := hk0.cell 1
  have x2 : X.cell? ⟨w.heap.size, 2, none⟩ = some (.slice A3 n3 c3) := hk0.cell 2
  have x3 : X.cell? ⟨w.heap.size + 1, 0, none⟩ = some (.slice AM nm cm) := hm0.cell 0
  have hzx : w.heap.size + 2 < X.heap.size := hf0.lt
  clear hb0 hk0 hm0 hf0 hs0 hX hI hr ha hms hc1
  go_enter Tryz.func9, Tryz.ntmps9
  go_wp2_with fail
  rw [HX.out]
  refine HV.out.mono ?_
  rintro e w3 ⟨B1, d1, rfl, hb3, h31, h32, h33⟩
  dsimp only at h31 h33 ⊢
  have hI3 := HI.out.keep hb3
  have hb4 : Below X.heap.size X (w3.alloc (.cells #[.int .i64 qc, .int .i64 qa] 32)) := hb3.alloc hb3.size _
  have hf4 := Blk.new w3 32 #[.int .i64 qc, .int .i64 qa]
  have hv4 : ArrB AtValue 4 (w3.alloc (.cells #[.int .i64 qc, .int .i64 qa] 32)) w3.heap.size B1 vs.length vs := ArrB.alloc h33 stays_value (Nat.le_refl _) _
  clear hb3 h33 hI3 x0 x1 x2 x3 hzx
  go_upto_region 2 with fail
  generalize w3.alloc (.cells #[.int .i64 qc, .int .i64 qa] 32) = Y at hb4 hf4 hv4 ⊢
  generalize w3.heap.size = g at hf4 hv4 ⊢
  have HIY := Lib.hid (HI.out.keep hb4)
  have f0 : Y.cell? ⟨g, 0, none⟩ = some (.int .i64 qc) := hf4.cell 0
  have f1 : Y.cell? ⟨g, 1, none⟩ = some (.int .i64 qa) := hf4.cell 1
  have hzg : g < Y.heap.size := hf4.lt
  by_cases hqc : qc = 0
  · subst hqc
    obtain ⟨hvl, h200, hkr, hkb⟩ := hold_vals HQ.out
    obtain ⟨hg1, hg2, hg3⟩ := meanValF_good (a := a) (ms := ms) (by rw [HQ.out])
    have hqa : qa = 0 := by
      have h1 := HQ.out
      rw [meanValF] at h1
      split at h1
      · rename_i hne
        rw [Prod.mk.injEq] at h1
        exact absurd (by rw [h1.2]) hne
      · exact valuesF_at h1
    subst hqa
    have hl3 := HA.out.hold.len
    have hm3 := HA.out.m3
    obtain ⟨T, hT⟩ : ∃ T, (a.hold.any fun k => isZero (kidV vs k.toNat)) = T := ⟨_, rfl⟩
    have hR : meanHoldsF a ms = (!T, 0, 0) := by rw [meanHoldsF, HQ.out, if_neg (by simp), ← hT]
    have HR := Lib.hid hR
    have HT : Hid (((a.hold.drop 0).any fun k => isZero (kidV vs k.toNat)) = T) := hT
    have HH := Lib.hid (And.intro hkr hkb)
    have HHD := Lib.hid (HA.out.hold.below stays_int HIY.out.below (Nat.le_refl _))
    have HVS := Lib.hid hv4
    have HL3 := Lib.hid hl3
    have hn3 : n3 ≤ 200 := by omega
    have q0 : ((0 : Int) != 0) = false := by simp
    have x2 : Y.cell? ⟨w.heap.size, 2, none⟩ = some (.slice A3 n3 c3) := HIY.out.ask.cell 2
    have hzx : w.heap.size < Y.heap.size := HIY.out.ask.lt
    have m0 : Y.cell? ⟨w.heap.size + 2, 0, none⟩ = some (.int .i64 0) := HIY.out.flt.cell 0
    have m1 : Y.cell? ⟨w.heap.size + 2, 1, none⟩ = some (.int .i64 0) := HIY.out.flt.cell 1
    have u0 : Y.frozen? ⟨w.heap.size + 2, 0, none⟩ = false := HIY.out.flt.frozen 0
    have u1 : Y.frozen? ⟨w.heap.size + 2, 1, none⟩ = false := HIY.out.flt.frozen 1
    have hz : w.heap.size + 2 < Y.heap.size := HIY.out.flt.lt
    clear hvl h200 hkr hkb hl3 hT hR hb4 hf4 hv4 hg1 hg2 hg3 hm3
    go_wp2_with fail
    go_loop [8] (fun s8 => ∃ k : Nat, k ≤ n3 ∧ s8 = .int .i64 k ∧ Hid (((a.hold.drop k).any fun k => isZero (kidV vs k.toNat)) = T)) (fun s8 => n3 - (intOf s8).toNat)
    case atStart => exact ⟨0, Nat.zero_le _, rfl, HT⟩
    case round =>
      clear HT
      obtain ⟨k, hk, rfl, HK⟩ := hrel
      by_cases hlt : k < n3
      · obtain ⟨b3, off3, hx3, rfl, hb3, hc3, -, -⟩ := ints_get HHD.out hlt
        obtain ⟨hx0, hxl⟩ := HH.out.1 _ (List.getElem_mem hx3)
        have hbv := HH.out.2 _ (List.getElem_mem hx3)
        have e1 := HK.out
        rw [drop_cons hx3, List.any_cons] at e1
        generalize a.hold[k] = x at e1 hx0 hxl hbv hc3
        obtain ⟨b0, off, hxv, A4, n4, c4, rfl, -, v0, -, -, -, -, -, -, -, -, -⟩ := values_get HVS.out (i := x.toNat) (by omega)
        have e : kidV vs x.toNat = vs[x.toNat] := by rw [kidV, List.getD_eq_getElem?_getD, List.getElem?_eq_getElem hxv]; rfl
        rw [e] at e1 hbv
        generalize vs[x.toNat] = u at e1 hbv v0
        have hkI : (k : Int) < (n3 : Int) := by omega
        clear HK hx3 hb3 hxv e
        rcases hbv with hu | hu
        · subst hu
          rw [show isZero (numV 0) = true from rfl, Bool.true_or] at e1
          have v0' : Y.cell? ⟨b0, off + x.toNat * 4, none⟩ = some (.int .i64 0) := v0
          have HT2 := Lib.hid e1
          clear e1 v0
          go_wp2_with fail
          go_region
          go_wp2_with fail
          refine bodyPost_ret (v := .tuple #[.bool false, .agg #[.int .i64 0, .int .i64 0]]) (by simp [results, Tryz.results9, go_sem, m0, m1]) rfl ?_
          rw [HR.out, ← HT2.out]
          exact ⟨rfl, below_two HIY.out.below⟩
        · subst hu
          rw [show isZero (numV 1) = false from rfl, Bool.false_or] at e1
          have v0' : Y.cell? ⟨b0, off + x.toNat * 4, none⟩ = some (.int .i64 1) := v0
          have H1 := Lib.hid e1
          clear e1 v0
          go_wp2_with fail
          go_round
          case rel => exact ⟨k + 1, by omega, by go_num, H1⟩
          case measure => simp [intOf]; omega
      · obtain rfl : n3 = k := by omega
        have e1 := HK.out
        rw [List.drop_of_length_le (by have := HL3.out; omega), List.any_nil] at e1
        have HT2 := Lib.hid e1
        clear e1 HK
        go_wp2_with fail
        go_region
        go_wp2_with fail
        refine bodyPost_ret (v := .tuple #[.bool true, .agg #[.int .i64 0, .int .i64 0]]) (by simp [results, Tryz.results9, go_sem, m0, m1]) rfl ?_
        rw [HR.out, ← HT2.out]
        exact ⟨rfl, below_two HIY.out.below⟩
  · clear hb4 hf4 hv4
    have hqb : (qc != 0) = true := by rw [bne_iff_ne]; exact hqc
    have hR : meanHoldsF a ms = (false, qc, qa) := by rw [meanHoldsF, HQ.out, if_pos (by simpa using hqc)]
    have HR := Lib.hid hR
    have c0 : Y.cell? ⟨w.heap.size + 2, 0, none⟩ = some (.int .i64 0) := HIY.out.flt.cell 0
    have c1' : Y.cell? ⟨w.heap.size + 2, 1, none⟩ = some (.int .i64 0) := HIY.out.flt.cell 1
    have z0 : Y.frozen? ⟨w.heap.size + 2, 0, none⟩ = false := HIY.out.flt.frozen 0
    have z1 : Y.frozen? ⟨w.heap.size + 2, 1, none⟩ = false := HIY.out.flt.frozen 1
    have hz : w.heap.size + 2 < Y.heap.size := HIY.out.flt.lt
    clear hqc hR
    go_wp2_with fail
    go_region
    go_wp2_with fail
    refine bodyPost_ret (v := .tuple #[.bool false, .agg #[.int .i64 qc, .int .i64 qa]]) (by simp [results, Tryz.results9, go_sem, c0, c1']) rfl ?_
    rw [HR.out]
    exact ⟨rfl, below_two HIY.out.below⟩

set_option maxRecDepth 100000 in
set_option maxHeartbeats 4000000 in
theorem meanHoldsSays_any (A1 A2 A3 : Option Addr) (n1 c1 n2 c2 n3 c3 : Nat) (a : AskD) (AM : Option Addr) (nm cm : Nat) (ms : List MeaningD) (w : World) (ha : AskIn w w.heap.size A1 A2 A3 n1 n2 n3 a) (hc1 : n1 ≤ c1) (hms : ArrB AtMeaning 5 w w.heap.size AM nm ms) :
    Calls Tryz.prog 4 #[.agg #[.slice A1 n1 c1, .slice A2 n2 c2, .slice A3 n3 c3], .agg #[.slice AM nm cm]] w fun e w' => e = .returned (.bool true) ∧ Below w.heap.size w w' := by
  obtain ⟨hb0, hk0, hm0, hs0⟩ := two_boxes w 26 29 #[.slice A1 n1 c1, .slice A2 n2 c2, .slice A3 n3 c3] #[.slice AM nm cm]
  obtain ⟨X, hX⟩ : ∃ X, (w.alloc (.cells #[.slice A1 n1 c1, .slice A2 n2 c2, .slice A3 n3 c3] 26)).alloc (.cells #[.slice AM nm cm] 29) = X := ⟨_, rfl⟩
  rw [hX] at hb0 hk0 hm0 hs0
  obtain ⟨t, qc, qa, hr⟩ : ∃ t qc qa, meanHoldsF a ms = (t, qc, qa) := ⟨_, _, _, rfl⟩
  have HV : Hid (∀ W, Below w.heap.size w W → Calls Tryz.prog 8 #[.agg #[.slice A1 n1 c1, .slice A2 n2 c2, .slice A3 n3 c3], .agg #[.slice AM nm cm]] W (HoldsP W (t, qc, qa))) := fun W hW => by
    have := holds_any A1 A2 A3 n1 c1 n2 c2 n3 c3 a AM nm cm ms W (ha.below hW hW.size) hc1 (ArrB.below hms stays_meaning hW hW.size)
    rwa [hr] at this
  have HR : Hid (∀ W, Below w.heap.size w W → Calls Tryz.prog 9 #[.agg #[.slice A1 n1 c1, .slice A2 n2 c2, .slice A3 n3 c3], .agg #[.slice AM nm cm]] W (HoldsP W (t, qc, qa))) := fun W hW => by
    have := refHolds_any A1 A2 A3 n1 c1 n2 c2 n3 c3 a AM nm cm ms W (ha.below hW hW.size) hc1 (ArrB.below hms stays_meaning hW hW.size)
    rwa [hr] at this
  have hE : meanHoldsF ⟨[], [], []⟩ [] = (true, 0, 0) := by decide
  have HE : Hid (∀ W, Calls Tryz.prog 8 #[.agg #[.slice none 0 0, .slice none 0 0, .slice none 0 0], .agg #[.slice none 0 0]] W (HoldsP W (true, 0, 0))) := fun W => by
    have := holds_any none none none 0 0 0 0 0 0 ⟨[], [], []⟩ none 0 0 [] W ⟨Arr.nil_, Arr.nil_, Arr.nil_, by omega, by omega, by omega⟩ (Nat.le_refl _) Arr.nil_
    rwa [hE] at this
  have HX := Lib.hid hX
  have HK := Lib.hid (And.intro hb0 (And.intro hk0 hm0))
  have x0 : X.cell? ⟨w.heap.size, 0, none⟩ = some (.slice A1 n1 c1) := hk0.cell 0
  have x1 : X.cell? ⟨w.heap.size, 1, none⟩ = some (.slice A2 n2 c2) := hk0.cell 1
  have x2 : X.cell? ⟨w.heap.size, 2, none⟩ = some (.slice A3 n3 c3) := hk0.cell 2
  have x3 : X.cell? ⟨w.heap.size + 1, 0, none⟩ = some (.slice AM nm cm) := hm0.cell 0
  have hz : w.heap.size + 1 < X.heap.size := hm0.lt
  clear hX hb0 hk0 hm0 hs0 ha hc1 hms hr hE
  go_enter Tryz.func4, Tryz.ntmps4
  go_wp2_with fail
  rw [HX.out]
  refine (HV.out X HK.out.1).mono ?_
  rintro e w3 ⟨rfl, hb3⟩
  dsimp only
  have hb4 : Below X.heap.size X (w3.alloc (.cells #[.int .i64 qc, .int .i64 qa] 32)) := hb3.alloc hb3.size _
  have hf4 := Blk.new w3 32 #[.int .i64 qc, .int .i64 qa]
  clear hb3 x0 x1 x2 x3 hz
  go_upto_region 2 with fail
  generalize w3.alloc (.cells #[.int .i64 qc, .int .i64 qa] 32) = Y at hb4 hf4 ⊢
  generalize w3.heap.size = g at hf4 ⊢
  have hk4 := HK.out.2.1.below hb4 HK.out.2.1.lt
  have hm4 := HK.out.2.2.below hb4 HK.out.2.2.lt
  have x0 : Y.cell? ⟨w.heap.size, 0, none⟩ = some (.slice A1 n1 c1) := hk4.cell 0
  have x1 : Y.cell? ⟨w.heap.size, 1, none⟩ = some (.slice A2 n2 c2) := hk4.cell 1
  have x2 : Y.cell? ⟨w.heap.size, 2, none⟩ = some (.slice A3 n3 c3) := hk4.cell 2
  have x3 : Y.cell? ⟨w.heap.size + 1, 0, none⟩ = some (.slice AM nm cm) := hm4.cell 0
  have hz : w.heap.size + 1 < Y.heap.size := hm4.lt
  have HY := Lib.hid (And.intro (HK.out.1.trans (hb4.mono HK.out.1.size)) hf4)
  clear hk4 hm4 hf4 hb4
  go_wp2_with fail
  refine (HR.out Y HY.out.1).mono ?_
  rintro e w5 ⟨rfl, hb5⟩
  dsimp only
  have hb6 : Below Y.heap.size Y (w5.alloc (.cells #[.int .i64 qc, .int .i64 qa] 32)) := hb5.alloc hb5.size _
  have hf6 := Blk.new w5 32 #[.int .i64 qc, .int .i64 qa]
  clear hb5 x0 x1 x2 x3 hz
  go_upto_region 3 with fail
  generalize w5.alloc (.cells #[.int .i64 qc, .int .i64 qa] 32) = Z at hb6 hf6 ⊢
  generalize w5.heap.size = g2 at hf6 ⊢
  have HZ := Lib.hid (And.intro (HY.out.1.trans (hb6.mono HY.out.1.size)) (And.intro (HY.out.2.below hb6 HY.out.2.lt) hf6))
  clear hb6 hf6
  go_wp2_with fail
  refine (HE.out Z).mono ?_
  rintro e w7 ⟨rfl, hb7⟩
  dsimp only
  have hb8 : Below Z.heap.size Z (w7.alloc (.cells #[.int .i64 0, .int .i64 0] 32)) := hb7.alloc hb7.size _
  have hf7 := Blk.new w7 32 #[.int .i64 0, .int .i64 0]
  have hf8 := HZ.out.2.1.below hb8 HZ.out.2.1.lt
  have hf9 := HZ.out.2.2.below hb8 HZ.out.2.2.lt
  clear hb7
  go_upto_region 4 with fail
  generalize w7.alloc (.cells #[.int .i64 0, .int .i64 0] 32) = U at hb8 hf7 hf8 hf9 ⊢
  generalize w7.heap.size = g3 at hf7 ⊢
  have e0 : U.cell? ⟨g, 0, none⟩ = some (.int .i64 qc) := hf8.cell 0
  have e1 : U.cell? ⟨g, 1, none⟩ = some (.int .i64 qa) := hf8.cell 1
  have e2 : U.cell? ⟨g2, 0, none⟩ = some (.int .i64 qc) := hf9.cell 0
  have e3 : U.cell? ⟨g2, 1, none⟩ = some (.int .i64 qa) := hf9.cell 1
  have e4 : U.cell? ⟨g3, 0, none⟩ = some (.int .i64 0) := hf7.cell 0
  have hg7 : g3 < U.heap.size := hf7.lt
  have hg8 : g < U.heap.size := hf8.lt
  have hg9 : g2 < U.heap.size := hf9.lt
  have HU := Lib.hid (HZ.out.1.trans (hb8.mono HZ.out.1.size))
  clear hf7 hf8 hf9 hb8
  go_wp2_with fail
  go_ret
  exact ⟨ret_bool (by simp), HU.out⟩
end Go.Proofs.YtggkfepifnfdoaaGreat
