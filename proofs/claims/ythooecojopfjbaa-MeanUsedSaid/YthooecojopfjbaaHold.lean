/- Walk: do all assertions hold: the program. -/
import Derived.Test.YthooecojopfjbaaValV
namespace Go.Proofs.Ythooecojopfjbaa
open Go.RowKit

theorem below_two {w Y : World} {a b : Value} (h : Below w.heap.size w Y) : Below w.heap.size w ((Y.setCell ⟨w.heap.size + 2, 0, none⟩ a).setCell ⟨w.heap.size + 2, 1, none⟩ b).drew := ((h.setCell (p := ⟨w.heap.size + 2, 0, none⟩) (Nat.le_add_right _ _) _).setCell (p := ⟨w.heap.size + 2, 1, none⟩) (Nat.le_add_right _ _) _).drew
/-- what a truth and a fault come to -/
def HoldsP (w : World) (r : Bool × Int × Int) (e : Ending) (w' : World) : Prop := e = .returned (.tuple #[.bool r.1, .agg #[.int .i64 r.2.1, .int .i64 r.2.2]]) ∧ Below w.heap.size w w'
/-- what is asked to hold is a Bool -/
theorem hold_bool {a : AskD} (h : (sortsF a).2.1 = 0) : ∀ k ∈ a.hold, (sortsF a).1.getD k.toNat 0 = 1 := fun k hk => by
  obtain ⟨e1, e2⟩ := sortsF_is h
  obtain ⟨-, -, -, hb, -⟩ := sortsF_ok h
  have hk2 := hb k hk
  obtain ⟨-, hlen, -⟩ := sortsF_ok h
  unfold sortsF at h
  by_cases h1 : (declsF a.decls).1 = 0
  · rw [if_neg (by simpa using h1)] at h
    by_cases h2 : 200 < a.nodes.length
    · rw [if_pos h2] at h; simp at h
    rw [if_neg h2, if_neg (by simpa using e2)] at h
    by_cases h4 : (holdF (nodesF a.decls a.nodes 0 []).1 a.hold).1 = 0
    · unfold holdF at h4
      split at h4
      · simp at h4
      · obtain ⟨-, hr⟩ := firstBad_zero (f := holdCode (nodesF a.decls a.nodes 0 []).1) (l := a.hold) (i := 0) (a := (firstBad (holdCode (nodesF a.decls a.nodes 0 []).1) a.hold 0).2) (Prod.ext h4 rfl)
        obtain ⟨j, hj, hjx⟩ := List.getElem_of_mem hk
        have hc := hr j k (by rw [List.getElem?_eq_getElem hj, hjx])
        unfold holdCode at hc
        rw [e1]
        split at hc
        · simp at hc
        · split at hc
          · assumption
          · simp at hc
    · rw [if_pos (by simpa using h4)] at h
      exact absurd h h4
  · rw [if_pos (by simpa using h1)] at h
    exact absurd h h1
/-- the values of what is asked to hold -/
theorem hold_vals {a : AskD} {ms : List MeaningD} {vs : List ValueD} {qa : Int} (h : meanValF a ms = (vs, 0, qa)) : vs.length = a.nodes.length ∧ a.hold.length ≤ 200 ∧ (∀ k ∈ a.hold, 0 ≤ k ∧ k < (vs.length : Int)) ∧ ∀ k ∈ a.hold, BoolV (kidV vs k.toNat) := by
  obtain ⟨h1, h2, h3⟩ := meanValF_good (a := a) (ms := ms) (by rw [h])
  rw [h] at h1 h2
  obtain ⟨-, -, -, hb, -, hh, -⟩ := sortsF_ok h3
  dsimp only at h1 h2
  refine ⟨h2, hh, fun k hk => by rw [h2]; exact hb k hk, fun k hk => ?_⟩
  have hk2 := hb k hk
  have hlt : k.toNat < vs.length := by omega
  have := h1 _ _ (List.getElem?_eq_getElem hlt)
  rw [hold_bool h3 k hk] at this
  rw [kidV, List.getD_eq_getElem?_getD, List.getElem?_eq_getElem hlt]
  exact goodV_bool this

set_option maxRecDepth 100000 in
set_option maxHeartbeats 1000000 in
theorem hold1_any (x : Int) (B1 : Option Addr) (n d : Nat) (vs : List ValueD) (G : Nat) (S : Nat → Prop) (b : Bool) (w : World) (hv : Arr AtValue 4 w S B1 n vs) (hx0 : 0 ≤ x) (hx : x < (n : Int)) (hG : w.cell? ⟨G, 0, none⟩ = some (.slice B1 n d)) (hb : isZero (kidV vs x.toNat) = b) :
    Calls Try.prog 46 #[.int .i64 x, .pointer (some ⟨G, 0, none⟩)] w fun e w' => e = .returned (.bool b) ∧ Below w.heap.size w w' := by
  obtain ⟨b0, off, hxl, A2, n2, c2, rfl, -, v0, -, -, -, -, -, -, -, -, -⟩ := values_get hv (i := x.toNat) (by omega)
  have e : kidV vs x.toNat = vs[x.toNat] := by rw [kidV, List.getD_eq_getElem?_getD, List.getElem?_eq_getElem hxl]; rfl
  rw [e] at hb
  generalize vs[x.toNat] = u at v0 hb
  obtain ⟨un, ud, uc, ur⟩ := u
  have hq : (un == 0) = b := hb
  dsimp only at v0
  have HQ := Lib.hid hq
  clear hv hb e hxl hq
  go_enter Try.func46, Try.ntmps46
  go_wp2_with fail
  go_ret
  exact ⟨ret_bool HQ.out, Below.refl _ _⟩

set_option maxRecDepth 100000 in
set_option maxHeartbeats 4000000 in
theorem holds_any (A1 A2 A3 : Option Addr) (n1 c1 n2 c2 n3 c3 : Nat) (a : AskD) (AM : Option Addr) (nm cm : Nat) (ms : List MeaningD) (w : World) (ha : AskIn w w.heap.size A1 A2 A3 n1 n2 n3 a) (hc1 : n1 ≤ c1) (hms : ArrB AtMeaning 5 w w.heap.size AM nm ms) :
    Calls Try.prog 25 #[.agg #[.slice A1 n1 c1, .slice A2 n2 c2, .slice A3 n3 c3], .agg #[.slice AM nm cm]] w (HoldsP w (meanHoldsF a ms)) := by
  obtain ⟨hb0, hk0, hm0, hf0, hs0⟩ := boxes3 w 26 47 29 #[.slice A1 n1 c1, .slice A2 n2 c2, .slice A3 n3 c3] #[.slice AM nm cm] #[.int .i64 0, .int .i64 0]
  obtain ⟨X, hX⟩ : ∃ X, ((w.alloc (.cells #[.slice A1 n1 c1, .slice A2 n2 c2, .slice A3 n3 c3] 26)).alloc (.cells #[.slice AM nm cm] 47)).alloc (.cells #[.int .i64 0, .int .i64 0] 29) = X := ⟨_, rfl⟩
  rw [hX] at hb0 hk0 hm0 hf0 hs0
  have hI : ValsI w X #[.slice A1 n1 c1, .slice A2 n2 c2, .slice A3 n3 c3] #[.slice AM nm cm] none 0 [] := ⟨hb0, hk0, hm0, hf0, Arr.nil_⟩
  obtain ⟨vs, qc, qa, hr⟩ : ∃ vs qc qa, meanValF a ms = (vs, qc, qa) := ⟨_, _, _, rfl⟩
  have HV : Hid (Calls Try.prog 40 #[.agg #[.slice A1 n1 c1, .slice A2 n2 c2, .slice A3 n3 c3], .agg #[.slice AM nm cm]] X (ValuesP X (vs, qc, qa))) := by
    have := values_any A1 A2 A3 n1 c1 n2 c2 n3 c3 a AM nm cm ms X (ha.below hb0 hb0.size) hc1 (ArrB.below hms stays_meaning hb0 hb0.size)
    rw [hr] at this
    exact this
  have HX := Lib.hid hX
  have HI := Lib.hid hI
  have HQ := Lib.hid hr
  have HA := Lib.hid ha
  have x0 : X.cell? ⟨w.heap.size, 0, none⟩ = some (.slice A1 n1 c1) := hk0.cell 0
  have x1 : X.cell? ⟨w.heap.size, 1, none⟩ = some (.slice A2 n2 c2) := hk0.cell 1
  have x2 : X.cell? ⟨w.heap.size, 2, none⟩ = some (.slice A3 n3 c3) := hk0.cell 2
  have x3 : X.cell? ⟨w.heap.size + 1, 0, none⟩ = some (.slice AM nm cm) := hm0.cell 0
  have hzx : w.heap.size + 2 < X.heap.size := hf0.lt
  clear hb0 hk0 hm0 hf0 hs0 hX hI hr ha hms hc1
  go_enter Try.func25, Try.ntmps25
  go_wp2_with fail
  rw [HX.out]
  refine HV.out.mono ?_
  rintro e w3 ⟨B1, d1, rfl, hb3, h31, h32, h33⟩
  dsimp only at h31 h33 ⊢
  have hI3 := HI.out.keep hb3
  have hb4 : Below X.heap.size X ((w3.alloc (.cells #[.slice B1 vs.length d1] 42)).alloc (.cells #[.int .i64 qc, .int .i64 qa] 29)) := (hb3.alloc hb3.size _).alloc (Nat.le_trans hb3.size (by simp)) _
  have hl4 : Blk ((w3.alloc (.cells #[.slice B1 vs.length d1] 42)).alloc (.cells #[.int .i64 qc, .int .i64 qa] 29)) w3.heap.size 42 #[.slice B1 vs.length d1] := (Blk.new _ _ _).alloc _
  have hf4 : Blk ((w3.alloc (.cells #[.slice B1 vs.length d1] 42)).alloc (.cells #[.int .i64 qc, .int .i64 qa] 29)) (w3.heap.size + 1) 29 #[.int .i64 qc, .int .i64 qa] := by
    have := Blk.new (w3.alloc (.cells #[.slice B1 vs.length d1] 42)) 29 #[.int .i64 qc, .int .i64 qa]
    rwa [World.size_alloc] at this
  have hv4 : ArrB AtValue 4 ((w3.alloc (.cells #[.slice B1 vs.length d1] 42)).alloc (.cells #[.int .i64 qc, .int .i64 qa] 29)) w3.heap.size B1 vs.length vs := ArrB.alloc (ArrB.alloc h33 stays_value (Nat.le_refl _) _) stays_value (by simp) _
  clear hb3 h33 hI3 x0 x1 x2 x3 hzx
  go_upto_region 2 with fail
  generalize (w3.alloc (.cells #[.slice B1 vs.length d1] 42)).alloc (.cells #[.int .i64 qc, .int .i64 qa] 29) = Y at hb4 hl4 hf4 hv4 ⊢
  generalize w3.heap.size = g at hl4 hf4 hv4 ⊢
  have HIY := Lib.hid (HI.out.keep hb4)
  have f0 : Y.cell? ⟨g + 1, 0, none⟩ = some (.int .i64 qc) := hf4.cell 0
  have f1 : Y.cell? ⟨g + 1, 1, none⟩ = some (.int .i64 qa) := hf4.cell 1
  have hzg : g + 1 < Y.heap.size := hf4.lt
  have hgY : g < Y.heap.size := hl4.lt
  by_cases hqc : qc = 0
  · subst hqc
    obtain ⟨hvl, h200, hkr, hkb⟩ := hold_vals HQ.out
    have hl3 := HA.out.hold.len
    obtain ⟨T, hT⟩ : ∃ T, (a.hold.any fun k => isZero (kidV vs k.toNat)) = T := ⟨_, rfl⟩
    have hR : meanHoldsF a ms = (!T, 0, 0) := by rw [meanHoldsF, HQ.out, if_neg (by simp), ← hT]
    have HR := Lib.hid hR
    have eg : ∀ args w, (callFunc 46 args).run Try.prog w = .ok (.enter 46 args) w := enters_of Try.func46 (by kernel_rfl) rfl
    have hc0 : Y.cell? ⟨g, 0, none⟩ = some (.slice B1 vs.length d1) := hl4.cell 0
    have HC := Lib.hid (containsInts_any 46 #[.pointer (some ⟨g, 0, none⟩)] eg (fun k => isZero (kidV vs k.toNat)) A3 n3 c3 a.hold T Y ((HA.out.hold.below stays_int HIY.out.below HIY.out.below.size)) (by omega) (fun W x hx hW => by
      have h1 := hold1_any x B1 vs.length d1 vs g (fun b => b < g) _ W (hv4.keep stays_value (fun _ h => h) (fun b o h => hW.cell (p := ⟨b, o, none⟩) (Nat.lt_trans h hgY))) (hkr x hx).1 (hkr x hx).2 ((hW.cell (p := ⟨g, 0, none⟩) hgY).trans hc0) rfl
      exact h1.mono fun e w' ⟨h2, h3⟩ => ⟨h2, hW.trans (h3.mono hW.size)⟩) hT)
    have q0 : ((0 : Int) != 0) = false := by simp
    have x2 : Y.cell? ⟨w.heap.size, 2, none⟩ = some (.slice A3 n3 c3) := HIY.out.ask.cell 2
    have hzx : w.heap.size < Y.heap.size := HIY.out.ask.lt
    clear hvl h200 hkr hkb hl3 hT hR eg hc0 hb4 hl4 hf4 hv4
    go_wp2_with fail
    refine HC.out.mono ?_
    rintro e w6 ⟨rfl, hb6⟩
    have hI6 := HIY.out.keep hb6
    have HB := Lib.hid (And.intro hI6.below hI6.flt)
    have m0 : w6.cell? ⟨w.heap.size + 2, 0, none⟩ = some (.int .i64 0) := hI6.flt.cell 0
    have m1 : w6.cell? ⟨w.heap.size + 2, 1, none⟩ = some (.int .i64 0) := hI6.flt.cell 1
    have u0 : w6.frozen? ⟨w.heap.size + 2, 0, none⟩ = false := hI6.flt.frozen 0
    have u1 : w6.frozen? ⟨w.heap.size + 2, 1, none⟩ = false := hI6.flt.frozen 1
    have zm : w.heap.size + 2 < w6.heap.size := hI6.flt.lt
    clear hI6 hb6 x2 hzx f0 f1 hzg hgY
    go_wp2_with fail
    have hz1 := two_blk HB.out.2 (.int .i64 0) (.int .i64 0)
    have hz2 : Below w.heap.size w (two w6 (w.heap.size + 2) (.int .i64 0) (.int .i64 0)) := two_below (g := w.heap.size + 2) HB.out.1 (Nat.le_add_right _ _) (.int .i64 0) (.int .i64 0)
    have e4 : (w6.setCell ⟨w.heap.size + 1 + 1, 0, none⟩ (.int .i64 0)).setCell ⟨w.heap.size + 1 + 1, 1, none⟩ (.int .i64 0) = two w6 (w.heap.size + 2) (.int .i64 0) (.int .i64 0) := rfl
    rw [e4]
    clear e4
    generalize two w6 (w.heap.size + 2) (.int .i64 0) (.int .i64 0) = Z at hz1 hz2 ⊢
    have d0 := hz1.cell 0
    have d1 := hz1.cell 1
    simp only [List.getElem?_toArray, List.getElem?_cons_zero, List.getElem?_cons_succ] at d0 d1
    refine bodyPost_ret (v := .tuple #[.bool (!T), .agg #[.int .i64 0, .int .i64 0]]) (by simp [results, Try.results25, go_sem, d0, d1]) rfl ?_
    rw [HR.out]
    exact ⟨rfl, hz2⟩
  · clear hb4 hl4 hf4 hv4
    have hqb : (qc != 0) = true := by rw [bne_iff_ne]; exact hqc
    have hR : meanHoldsF a ms = (false, qc, qa) := by rw [meanHoldsF, HQ.out, if_pos (by simpa using hqc)]
    have HR := Lib.hid hR
    have c0 : Y.cell? ⟨w.heap.size + 2, 0, none⟩ = some (.int .i64 0) := HIY.out.flt.cell 0
    have c1' : Y.cell? ⟨w.heap.size + 2, 1, none⟩ = some (.int .i64 0) := HIY.out.flt.cell 1
    have z0 : Y.frozen? ⟨w.heap.size + 2, 0, none⟩ = false := HIY.out.flt.frozen 0
    have z1 : Y.frozen? ⟨w.heap.size + 2, 1, none⟩ = false := HIY.out.flt.frozen 1
    have hz : w.heap.size + 2 < Y.heap.size := HIY.out.flt.lt
    clear hqc hR
    go_wp2_with fail
    go_region
    go_wp2_with fail
    refine bodyPost_ret (v := .tuple #[.bool false, .agg #[.int .i64 qc, .int .i64 qa]]) (by simp [results, Try.results25, go_sem, c0, c1']) rfl ?_
    rw [HR.out]
    exact ⟨rfl, below_two HIY.out.below⟩
end Go.Proofs.Ythooecojopfjbaa
