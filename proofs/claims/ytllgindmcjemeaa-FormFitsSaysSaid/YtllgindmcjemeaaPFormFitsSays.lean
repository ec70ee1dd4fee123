/- For every form and every model: the law FormFitsSays returns true, and its arguments read as before. No condition. -/
import Derived.Test.YtllgindmcjemeaaFitsD
import Derived.Test.YtllgindmcjemeaaFitsO
import Derived.Test.YtllgindmcjemeaaLaw
namespace Go.Proofs.Ytllgindmcjemeaa.formFitsSays
open Go.ChangeShapes Go.WideShapes Go.ChangeAt Go.RowKit Go.Deep
open Go.ChangeMaps (open_string shut_string)

set_option maxRecDepth 100000 in
theorem contract (H : Type) (enc : TypeId × Value → H) (W : World) (base : Nat) (args : Array Value) (ds gs : List (DataW H)) (before : List MemPlace)
    (hval : ∀ (j : Nat) t v, Try.f7.params[j]? = some t → args[j]? = some v → Value.okWide Try.prog W .any base t v)
    (hW : DataW.Whole enc Try.prog Try.f7.params.toList Rows.formFitsSaysSpec.vars false W args.toList ds gs before) :
    Calls Try.prog 7 args W fun e W' => ∃ v, e = .returned v ∧ Rows.formFitsSaysSpec.post enc Try.prog Try.f7 false true false false W args v W' := by
  have hW' := hW
  obtain ⟨p, q, hA0, hV, rfl, hfz, hnd⟩ := hW
  have hA : DataW.TrodAll enc Try.prog W 0 (fun _ => true) true Try.f7.params.toList args.toList ds p := hA0
  rw [Try.params7] at hA hval
  obtain ⟨v0, vs0, d0, ds0, p0, q0, hargs, rfl, rfl, h0, r0⟩ := trodAll_cons hA
  obtain ⟨v1, vs1, d1, ds1, p1, q1, rfl, rfl, rfl, h1, r1⟩ := trodAll_cons r0
  obtain ⟨rfl, rfl, rfl⟩ := trodAll_nil r1
  obtain rfl : args = #[v0, v1] := by cases args; simp_all
  obtain ⟨rfl, rfl⟩ := trodVars_none hV
  have hpost : ∀ W' : World, Below W.heap.size W W' → Rows.formFitsSaysSpec.post enc Try.prog Try.f7 false true false false W #[v0, v1] (.bool true) W' := fun W' hb =>
    law_post hW' laidOut (by rw [Try.params7]; intro t ht; simp only [List.mem_cons, List.not_mem_nil, or_false] at ht; rcases ht with rfl | rfl <;> exact ⟨by kernel_rfl, of_decide_eq_true (by kernel_rfl)⟩) rfl rfl Try.underlying4 rfl hb
  clear hW' hA0 hA hfz hnd hV
  suffices hs : Calls Try.prog 7 #[v0, v1] W fun e W' => e = .returned (.bool true) ∧ Below W.heap.size W W' from hs.mono fun e W' ⟨he, hb⟩ => ⟨_, he, hpost W' hb⟩
  obtain ⟨A1, A2, A3, A4, n1, c1, n2, c2, n3, c3, n4, c4, F, rfl, hF⟩ := open_form (hval 0 38 v0 rfl rfl) h0
  obtain ⟨B1, B2, B3, k1, e1, k2, e2, k3, e3, M, rfl, hM⟩ := open_model (hval 1 48 v1 rfl rfl) h1
  exact formFitsSays_any A1 A2 A3 A4 n1 c1 n2 c2 n3 c3 n4 c4 B1 B2 B3 k1 e1 k2 e2 k3 e3 F M W hF hM

set_option maxRecDepth 100000 in
theorem lifted (os : Os) (started : os.Started) (H : Type) (enc : TypeId × Value → H) :
    ReturnsInHanded {} Try.checked os 7 .any (Rows.formFitsSaysSpec.pre6 enc Try.prog Try.f7 Rows.formFitsSaysRow.domain false) (Rows.formFitsSaysSpec.post enc Try.prog Try.f7 false true false false) := by
  refine returnsInHanded_of_change (C := Try.checked) (s := Rows.formFitsSaysSpec) own started (by kernel_rfl) Try.func7
    (ChangeSpec.witness6 (enc := enc) (C := Try.checked) (s := Rows.formFitsSaysSpec) false ⟨#[], #[.agg #[.slice none 0 0, .slice none 0 0, .slice none 0 0, .slice none 0 0], .agg #[.slice none 0 0, .slice none 0 0, .slice none 0 0]], []⟩ 8 (by kernel_rfl) (by kernel_rfl) (by kernel_rfl) (by kernel_rfl)) ?_
  intro W base args ds gs before hval hW _ _
  exact contract H enc W base args ds gs before hval hW

theorem proved : Rows.FormFitsSaysSaid :=
  OpenClaim.holds_of_wide 7 Try.f7 rfl rfl rfl rfl rfl rfl rfl ⟨rfl, rfl, rfl, rfl, rfl⟩ rfl rfl rfl rfl rfl (by kernel_rfl) Try.func7 (by kernel_rfl)
    (of_decide_eq_true (by kernel_rfl)) (by unfold Func.isWrapper; first | (rw [if_pos (by decide +kernel)]; kernel_rfl) | (rw [if_neg (by decide +kernel)]; exact ⟨rfl, rfl⟩))
    (fun os started H enc _ => lifted os started H enc)
end Go.Proofs.Ytllgindmcjemeaa.formFitsSays
namespace Go.Proofs.Ytllgindmcjemeaa
theorem formFitsSays_holds : Rows.FormFitsSaysSaid := formFitsSays.proved
end Go.Proofs.Ytllgindmcjemeaa
#print axioms Go.Proofs.Ytllgindmcjemeaa.formFitsSays_holds
