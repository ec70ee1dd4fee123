/- For any form, any model and any steps: the law JudgeSound returns true, and its arguments read as before. No condition. -/
import Derived.Test.YtfogiljgecmakaaGreatJgC
import Derived.Test.YtfogiljgecmakaaGreatLFO
namespace Go.Proofs.YtfogiljgecmakaaGreat.judgeSound
open Go.ChangeShapes Go.WideShapes Go.ChangeAt Go.RowKit Go.Deep
open Go.ChangeMaps (open_string shut_string)

set_option maxRecDepth 100000 in
theorem contract (H : Type) (enc : TypeId × Value → H) (W : World) (base : Nat) (args : Array Value) (ds gs : List (DataW H)) (before : List MemPlace)
    (hval : ∀ (j : Nat) t v, Tryz.f4.params[j]? = some t → args[j]? = some v → Value.okWide Tryz.prog W .any base t v)
    (hW : DataW.Whole enc Tryz.prog Tryz.f4.params.toList Rows.judgeSoundSpec.vars false W args.toList ds gs before) :
    Calls Tryz.prog 4 args W fun e W' => ∃ v, e = .returned v ∧ Rows.judgeSoundSpec.post enc Tryz.prog Tryz.f4 false true false false W args v W' := by
  have hW' := hW
  obtain ⟨p, q, hA0, hV, rfl, hfz, hnd⟩ := hW
  have hA : DataW.TrodAll enc Tryz.prog W 0 (fun _ => true) true Tryz.f4.params.toList args.toList ds p := hA0
  rw [Tryz.params4] at hA hval
  obtain ⟨v0, vs0, d0, ds0, p0, q0, hargs, rfl, rfl, h0, r0⟩ := trodAll_cons hA
  obtain ⟨v1, vs1, d1, ds1, p1, q1, rfl, rfl, rfl, h1, r1⟩ := trodAll_cons r0
  obtain ⟨v2, vs2, d2, ds2, p2, q2, rfl, rfl, rfl, h2, r2⟩ := trodAll_cons r1
  obtain ⟨rfl, rfl, rfl⟩ := trodAll_nil r2
  obtain rfl : args = #[v0, v1, v2] := by cases args; simp_all
  obtain ⟨rfl, rfl⟩ := trodVars_none hV
  have hpost : ∀ W' : World, Below W.heap.size W W' → Rows.judgeSoundSpec.post enc Tryz.prog Tryz.f4 false true false false W #[v0, v1, v2] (.bool true) W' := fun W' hb =>
    law_post hW' laidOut (by rw [Tryz.params4]; intro t ht; simp only [List.mem_cons, List.not_mem_nil, or_false] at ht; rcases ht with rfl | rfl | rfl <;> exact ⟨by kernel_rfl, of_decide_eq_true (by kernel_rfl)⟩) rfl rfl Tryz.underlying4 rfl hb
  clear hW' hA0 hA hfz hnd hV
  suffices hs : Calls Tryz.prog 4 #[v0, v1, v2] W fun e W' => e = .returned (.bool true) ∧ Below W.heap.size W W' from hs.mono fun e W' ⟨he, hb⟩ => ⟨_, he, hpost W' hb⟩
  obtain ⟨A1, A2, A3, A4, n1, c1, n2, c2, n3, c3, n4, c4, F, rfl, hF, p1, p3, m3, p4, m4⟩ := open_formC (hval 0 27 v0 rfl rfl) h0
  obtain ⟨B1, B2, B3, k1, e1, k2, e2, k3, e3, M, rfl, hM⟩ := open_model (hval 1 31 v1 rfl rfl) h1
  obtain ⟨a0, len, cap, rfl⟩ := okWide_slice Tryz.underlying39 (hval 2 39 v2 rfl rfl)
  obtain ⟨fuel, hf⟩ := h2
  obtain ⟨A, n, c, l, hv1, hnc, hcm, hl⟩ := open_arr (v := .slice a0 len cap) Tryz.underlying39 cellsStepJ (by omega) opens_step hf
  injection hv1 with i1 i2 i3
  subst i1 i2 i3
  exact judgeSound_any A1 A2 A3 A4 n1 c1 n2 c2 n3 c3 n4 c4 F B1 B2 B3 k1 e1 k2 e2 k3 e3 M a0 len cap l W hF p1 p3 m3 hM hl

set_option maxRecDepth 100000 in
theorem lifted (os : Os) (started : os.Started) (H : Type) (enc : TypeId × Value → H) :
    ReturnsInHanded {} Tryz.checked os 4 .any (Rows.judgeSoundSpec.pre6 enc Tryz.prog Tryz.f4 Rows.judgeSoundRow.domain false) (Rows.judgeSoundSpec.post enc Tryz.prog Tryz.f4 false true false false) := by
  refine returnsInHanded_of_change (C := Tryz.checked) (s := Rows.judgeSoundSpec) own started (by kernel_rfl) Tryz.func4
    (ChangeSpec.witness6 (enc := enc) (C := Tryz.checked) (s := Rows.judgeSoundSpec) false ⟨#[], #[.agg #[.slice none 0 0, .slice none 0 0, .slice none 0 0, .slice none 0 0], .agg #[.slice none 0 0, .slice none 0 0, .slice none 0 0], .slice none 0 0], []⟩ 8 (by kernel_rfl) (by kernel_rfl) (by kernel_rfl) (by kernel_rfl)) ?_
  intro W base args ds gs before hval hW _ _
  exact contract H enc W base args ds gs before hval hW

theorem proved : Rows.JudgeSoundSaid :=
  OpenClaim.holds_of_wide 4 Tryz.f4 rfl rfl rfl rfl rfl rfl rfl ⟨rfl, rfl, rfl, rfl, rfl⟩ rfl rfl rfl rfl rfl (by kernel_rfl) Tryz.func4 (by kernel_rfl)
    (of_decide_eq_true (by kernel_rfl)) (by unfold Func.isWrapper; first | (rw [if_pos (by decide +kernel)]; kernel_rfl) | (rw [if_neg (by decide +kernel)]; exact ⟨rfl, rfl⟩))
    (fun os started H enc _ => lifted os started H enc)
end Go.Proofs.YtfogiljgecmakaaGreat.judgeSound
namespace Go.Proofs.YtfogiljgecmakaaGreat
theorem judgeSound_holds : Rows.JudgeSoundSaid := judgeSound.proved
end Go.Proofs.YtfogiljgecmakaaGreat
#print axioms Go.Proofs.YtfogiljgecmakaaGreat.judgeSound_holds
