/- For every query and world: the law MeanCheckSays returns true, and its arguments read as before. No condition. -/
import Derived.Test.YtggkfepifnfdoaaMeanI
import Derived.Deep.RegionHeld3
import Derived.Test.YtggkfepifnfdoaaMeanO
import Derived.Test.YtggkfepifnfdoaaLaw
namespace Go.Proofs.Ytggkfepifnfdoaa
open Go.RowKit

theorem bad_means : meansF ⟨[], [], []⟩ [⟨[], ⟨0, 0, [], 0⟩⟩] = (9, 0) := by decide
theorem none_ask (w : World) : AskIn w w.heap.size none none none 0 0 0 ⟨[], [], []⟩ := ⟨Arr.nil_, Arr.nil_, Arr.nil_, by omega, by omega, by omega⟩
theorem one_mean {w : World} {g : Nat} (h : Blk w g 54 #[.slice none 0 0, .int .i64 0, .int .i64 0, .slice none 0 0, .int .i64 0]) : ArrB AtMeaning 5 w w.heap.size (some ⟨g, 0, none⟩) 1 [⟨[], ⟨0, 0, [], 0⟩⟩] :=
  ⟨rfl, fun i x hx => by
    rcases i with _ | i
    · simp only [List.getElem?_cons_zero, Option.some.injEq] at hx
      subst hx
      have hI : I64 0 := by unfold I64; omega
      exact ⟨g, 0, rfl, h.lt, ⟨none, 0, 0, h.cell 0, Nat.le_refl _, by unfold maxLen; omega, Arr.nil_⟩, ⟨h.cell 1, hI⟩, ⟨h.cell 2, hI⟩, ⟨none, 0, 0, h.cell 3, Nat.le_refl _, by unfold maxLen; omega, Arr.nil_⟩, h.cell 4, hI⟩
    · simp at hx⟩

set_option maxRecDepth 100000 in
set_option maxHeartbeats 8000000 in
theorem meanCheckSays_any (A1 A2 A3 : Option Addr) (n1 c1 n2 c2 n3 c3 : Nat) (a : AskD) (AM : Option Addr) (nm cm : Nat) (ms : List MeaningD) (w : World) (ha : AskIn w w.heap.size A1 A2 A3 n1 n2 n3 a) (hc1 : n1 ≤ c1) (hms : ArrB AtMeaning 5 w w.heap.size AM nm ms) :
    Calls Try.prog 7 #[.agg #[.slice A1 n1 c1, .slice A2 n2 c2, .slice A3 n3 c3], .agg #[.slice AM nm cm]] w fun e w' => e = .returned (.bool true) ∧ Below w.heap.size w w' := by
  obtain ⟨hb0, hk0, hm0, hs0⟩ := two_boxes w 26 45 #[.slice A1 n1 c1, .slice A2 n2 c2, .slice A3 n3 c3] #[.slice AM nm cm]
  have hq : ∃ qc qa, meansF a ms = (qc, qa) := ⟨_, _, rfl⟩
  obtain ⟨qc, qa, hq⟩ := hq
  have HC : Hid (∀ (W : World), Below w.heap.size w W → Calls Try.prog 23 #[.agg #[.slice A1 n1 c1, .slice A2 n2 c2, .slice A3 n3 c3], .agg #[.slice AM nm cm]] W fun e w' => e = .returned (.agg #[.int .i64 qc, .int .i64 qa]) ∧ Below W.heap.size W w') := fun W hW =>
    meanCheck_any A1 A2 A3 n1 c1 n2 c2 n3 c3 a AM nm cm ms qc qa W (ha.below hW hW.size) hc1 (hms.below stays_meaning hW hW.size) hq
  have HR : Hid (∀ (W : World), Below w.heap.size w W → Calls Try.prog 24 #[.agg #[.slice A1 n1 c1, .slice A2 n2 c2, .slice A3 n3 c3], .agg #[.slice AM nm cm]] W fun e w' => e = .returned (.agg #[.int .i64 qc, .int .i64 qa]) ∧ Below W.heap.size W w') := fun W hW =>
    meanCheckR_any A1 A2 A3 n1 c1 n2 c2 n3 c3 a AM nm cm ms qc qa W (ha.below hW hW.size) hc1 (hms.below stays_meaning hW hW.size) hq
  generalize hXd : (w.alloc (.cells #[.slice A1 n1 c1, .slice A2 n2 c2, .slice A3 n3 c3] 26)).alloc (.cells #[.slice AM nm cm] 45) = X at hb0 hk0 hm0 hs0
  have hb1 : Below w.heap.size w (X.alloc (.cells #[.slice none 0 0, .int .i64 0, .int .i64 0, .slice none 0 0, .int .i64 0] 54)) := hb0.alloc hb0.size _
  have hx1 : Below X.heap.size X (X.alloc (.cells #[.slice none 0 0, .int .i64 0, .int .i64 0, .slice none 0 0, .int .i64 0] 54)) := (Below.refl _ _).alloc (Nat.le_refl _) _
  have hn1 := Blk.new X 54 #[.slice none 0 0, .int .i64 0, .int .i64 0, .slice none 0 0, .int .i64 0]
  rw [hs0] at hn1
  have HE := Lib.hid (meanCheck_any none none none 0 0 0 0 0 0 ⟨[], [], []⟩ (some ⟨w.heap.size + 2, 0, none⟩) 1 1 [⟨[], ⟨0, 0, [], 0⟩⟩] 9 0 _ (none_ask (X.alloc (.cells #[.slice none 0 0, .int .i64 0, .int .i64 0, .slice none 0 0, .int .i64 0] 54))) (Nat.le_refl _) (one_mean hn1) bad_means)
  have HXD := Lib.hid hXd
  have HX := Lib.hid (And.intro hb0 (And.intro hk0 (And.intro hm0 (And.intro hs0 hx1))))
  clear ha hms hq hb0 hk0 hm0 hs0 hXd hb1 hx1 hn1
  go_enter Try.func7, Try.ntmps7
  go_wp2_with fail
  rw [HXD.out]
  refine HE.out.mono ?_
  rintro e w5 ⟨rfl, hb5⟩
  obtain ⟨hb0, hk0, hm0, hs0, hx1⟩ := HX.out
  have hx5 : Below X.heap.size X w5 := hx1.trans (hb5.mono hx1.size)
  have hx6 : Below X.heap.size X (w5.alloc (.cells #[.int .i64 9, .int .i64 0] 29)) := hx5.alloc hx5.size _
  have hb6 := hb0.trans (hx6.mono hb0.size)
  have hk6 := hk0.below hx6 hk0.lt
  have hm6 := hm0.below hx6 hm0.lt
  have hg6 := Blk.new w5 29 #[.int .i64 9, .int .i64 0]
  have hz5 : w5.heap.size < (w5.alloc (.cells #[.int .i64 9, .int .i64 0] 29)).heap.size := by simp
  clear hb0 hk0 hm0 hs0 hx1 hx5 hx6 hb5 HE HX HXD
  go_upto_region 2 with fail
  generalize w5.alloc (.cells #[.int .i64 9, .int .i64 0] 29) = Y at hb6 hk6 hm6 hg6 hz5 ⊢
  generalize w5.heap.size = G2 at hg6 hz5 ⊢
  have k0 : Y.cell? ⟨w.heap.size, 0, none⟩ = some (.slice A1 n1 c1) := hk6.cell 0
  have k1 : Y.cell? ⟨w.heap.size, 1, none⟩ = some (.slice A2 n2 c2) := hk6.cell 1
  have k2 : Y.cell? ⟨w.heap.size, 2, none⟩ = some (.slice A3 n3 c3) := hk6.cell 2
  have f0 : Y.cell? ⟨w.heap.size + 1, 0, none⟩ = some (.slice AM nm cm) := hm6.cell 0
  have e0 : Y.cell? ⟨G2, 0, none⟩ = some (.int .i64 9) := hg6.cell 0
  have hzw : w.heap.size + 1 < Y.heap.size := hm6.lt
  have hzw0 : w.heap.size < Y.heap.size := hk6.lt
  have HB0 : Hid (Below w.heap.size w Y.drew) := below_drewN hb6 1
  clear hb6 hk6 hm6 hg6
  go_region_held3 (fun w' => w'.cell? ⟨w.heap.size, 0, none⟩ = some (.slice A1 n1 c1) ∧ w'.cell? ⟨w.heap.size, 1, none⟩ = some (.slice A2 n2 c2) ∧ w'.cell? ⟨w.heap.size, 2, none⟩ = some (.slice A3 n3 c3) ∧ w'.cell? ⟨w.heap.size + 1, 0, none⟩ = some (.slice AM nm cm) ∧ w'.cell? ⟨G2, 0, none⟩ = some (.int .i64 9))
    (go_keep)
    (first
      | (go_simp
         go_at_call 23
         refine (HC.out _ HB0.out).mono ?_
         rintro e w1 ⟨rfl, hb1⟩
         have zz1 : Y.heap.size ≤ w1.heap.size := hb1.size
         have B1 : Below w.heap.size w w1 := HB0.out.trans (hb1.mono HB0.out.size)
         have pk0 : w1.cell? ⟨w.heap.size, 0, none⟩ = some (.slice A1 n1 c1) := by rw [hb1.cell (p := ⟨w.heap.size, 0, none⟩) hzw0]; exact k0
         have pk1 : w1.cell? ⟨w.heap.size, 1, none⟩ = some (.slice A2 n2 c2) := by rw [hb1.cell (p := ⟨w.heap.size, 1, none⟩) hzw0]; exact k1
         have pk2 : w1.cell? ⟨w.heap.size, 2, none⟩ = some (.slice A3 n3 c3) := by rw [hb1.cell (p := ⟨w.heap.size, 2, none⟩) hzw0]; exact k2
         have pf0 : w1.cell? ⟨w.heap.size + 1, 0, none⟩ = some (.slice AM nm cm) := by rw [hb1.cell (p := ⟨w.heap.size + 1, 0, none⟩) hzw]; exact f0
         have pe0 : w1.cell? ⟨G2, 0, none⟩ = some (.int .i64 9) := by rw [hb1.cell (p := ⟨G2, 0, none⟩) hz5]; exact e0)
      | (go_simp
         go_at_call 24
         refine (HR.out _ B1).mono ?_
         rintro e w2 ⟨rfl, hb2⟩
         have B2 : Below w.heap.size w w2 := B1.trans (hb2.mono B1.size)
         have rk0 : w2.cell? ⟨w.heap.size, 0, none⟩ = some (.slice A1 n1 c1) := by rw [hb2.cell (p := ⟨w.heap.size, 0, none⟩) (Nat.lt_of_lt_of_le hzw0 zz1)]; exact pk0
         have rk1 : w2.cell? ⟨w.heap.size, 1, none⟩ = some (.slice A2 n2 c2) := by rw [hb2.cell (p := ⟨w.heap.size, 1, none⟩) (Nat.lt_of_lt_of_le hzw0 zz1)]; exact pk1
         have rk2 : w2.cell? ⟨w.heap.size, 2, none⟩ = some (.slice A3 n3 c3) := by rw [hb2.cell (p := ⟨w.heap.size, 2, none⟩) (Nat.lt_of_lt_of_le hzw0 zz1)]; exact pk2
         have rf0 : w2.cell? ⟨w.heap.size + 1, 0, none⟩ = some (.slice AM nm cm) := by rw [hb2.cell (p := ⟨w.heap.size + 1, 0, none⟩) (Nat.lt_of_lt_of_le hzw zz1)]; exact pf0
         have re0 : w2.cell? ⟨G2, 0, none⟩ = some (.int .i64 9) := by rw [hb2.cell (p := ⟨G2, 0, none⟩) (Nat.lt_of_lt_of_le hz5 zz1)]; exact pe0)
      | fail)
  all_goals
    go_wp2_with fail
    go_ret
    exact ⟨ret_bool (by simp), B2⟩
end Go.Proofs.Ytggkfepifnfdoaa
namespace Go.Proofs.Ytggkfepifnfdoaa.meanCheckSays
open Go.ChangeShapes Go.WideShapes Go.ChangeAt Go.RowKit Go.Deep
open Go.ChangeMaps (open_string shut_string)

set_option maxRecDepth 100000 in
theorem contract (H : Type) (enc : TypeId × Value → H) (W : World) (base : Nat) (args : Array Value) (ds gs : List (DataW H)) (before : List MemPlace)
    (hval : ∀ (j : Nat) t v, Try.f7.params[j]? = some t → args[j]? = some v → Value.okWide Try.prog W .any base t v)
    (hW : DataW.Whole enc Try.prog Try.f7.params.toList Rows.meanCheckSaysSpec.vars false W args.toList ds gs before) :
    Calls Try.prog 7 args W fun e W' => ∃ v, e = .returned v ∧ Rows.meanCheckSaysSpec.post enc Try.prog Try.f7 false true false false W args v W' := by
  have hW' := hW
  obtain ⟨p, q, hA0, hV, rfl, hfz, hnd⟩ := hW
  have hA : DataW.TrodAll enc Try.prog W 0 (fun _ => true) true Try.f7.params.toList args.toList ds p := hA0
  rw [Try.params7] at hA hval
  obtain ⟨v0, vs0, d0, ds0, p0, q0, hargs, rfl, rfl, h0, r0⟩ := trodAll_cons hA
  obtain ⟨v1, vs1, d1, ds1, p1, q1, rfl, rfl, rfl, h1, r1⟩ := trodAll_cons r0
  obtain ⟨rfl, rfl, rfl⟩ := trodAll_nil r1
  obtain rfl : args = #[v0, v1] := by cases args; simp_all
  obtain ⟨rfl, rfl⟩ := trodVars_none hV
  have hpost : ∀ W' : World, Below W.heap.size W W' → Rows.meanCheckSaysSpec.post enc Try.prog Try.f7 false true false false W #[v0, v1] (.bool true) W' := fun W' hb =>
    law_post hW' laidOut (by rw [Try.params7]; intro t ht; simp only [List.mem_cons, List.not_mem_nil, or_false] at ht; rcases ht with rfl | rfl <;> exact ⟨by kernel_rfl, of_decide_eq_true (by kernel_rfl)⟩) rfl rfl Try.underlying4 rfl hb
  clear hW' hA0 hA hfz hnd hV
  suffices hs : Calls Try.prog 7 #[v0, v1] W fun e W' => e = .returned (.bool true) ∧ Below W.heap.size W W' from hs.mono fun e W' ⟨he, hb⟩ => ⟨_, he, hpost W' hb⟩
  obtain ⟨A1, A2, A3, n1, c1, n2, c2, n3, c3, a, rfl, ha, hc1, hc2, hc3⟩ := open_ask (hval 0 26 v0 rfl rfl) h0
  obtain ⟨AM, nm, cm, ms, rfl, hms, hmc⟩ := open_world (hval 1 45 v1 rfl rfl) h1
  exact meanCheckSays_any A1 A2 A3 n1 c1 n2 c2 n3 c3 a AM nm cm ms W ha hc1 hms

set_option maxRecDepth 100000 in
theorem lifted (os : Os) (started : os.Started) (H : Type) (enc : TypeId × Value → H) :
    ReturnsInHanded {} Try.checked os 7 .any (Rows.meanCheckSaysSpec.pre6 enc Try.prog Try.f7 Rows.meanCheckSaysRow.domain false) (Rows.meanCheckSaysSpec.post enc Try.prog Try.f7 false true false false) := by
  refine returnsInHanded_of_change (C := Try.checked) (s := Rows.meanCheckSaysSpec) own started (by kernel_rfl) Try.func7
    (ChangeSpec.witness6 (enc := enc) (C := Try.checked) (s := Rows.meanCheckSaysSpec) false ⟨#[], #[.agg #[.slice none 0 0, .slice none 0 0, .slice none 0 0], .agg #[.slice none 0 0]], []⟩ 8 (by kernel_rfl) (by kernel_rfl) (by kernel_rfl) (by kernel_rfl)) ?_
  intro W base args ds gs before hval hW _ _
  exact contract H enc W base args ds gs before hval hW

theorem proved : Rows.MeanCheckSaysSaid :=
  OpenClaim.holds_of_wide 7 Try.f7 rfl rfl rfl rfl rfl rfl rfl ⟨rfl, rfl, rfl, rfl, rfl⟩ rfl rfl rfl rfl rfl (by kernel_rfl) Try.func7 (by kernel_rfl)
    (of_decide_eq_true (by kernel_rfl)) (by unfold Func.isWrapper; first | (rw [if_pos (by decide +kernel)]; kernel_rfl) | (rw [if_neg (by decide +kernel)]; exact ⟨rfl, rfl⟩))
    (fun os started H enc _ => lifted os started H enc)
end Go.Proofs.Ytggkfepifnfdoaa.meanCheckSays
namespace Go.Proofs.Ytggkfepifnfdoaa
theorem meanCheckSays_holds : Rows.MeanCheckSaysSaid := meanCheckSays.proved
end Go.Proofs.Ytggkfepifnfdoaa
#print axioms Go.Proofs.Ytggkfepifnfdoaa.meanCheckSays_holds
