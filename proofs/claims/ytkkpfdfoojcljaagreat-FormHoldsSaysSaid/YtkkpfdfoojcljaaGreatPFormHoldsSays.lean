/- For every form and every model: the law FormHoldsSays returns true, and its arguments read as before. No condition. -/
import Derived.Test.YtkkpfdfoojcljaaGreatFhZL
import Derived.Test.YtkkpfdfoojcljaaGreatLFO
namespace Go.Proofs.YtkkpfdfoojcljaaGreat.formHoldsSays
open Go.ChangeShapes Go.WideShapes Go.ChangeAt Go.RowKit Go.Deep
open Go.ChangeMaps (open_string shut_string)

set_option maxRecDepth 100000 in
theorem contract (H : Type) (enc : TypeId × Value → H) (W : World) (base : Nat) (args : Array Value) (ds gs : List (DataW H)) (before : List MemPlace)
    (hval : ∀ (j : Nat) t v, Tryz.f3.params[j]? = some t → args[j]? = some v → Value.okWide Tryz.prog W .any base t v)
    (hW : DataW.Whole enc Tryz.prog Tryz.f3.params.toList Rows.formHoldsSaysSpec.vars false W args.toList ds gs before) :
    Calls Tryz.prog 3 args W fun e W' => ∃ v, e = .returned v ∧ Rows.formHoldsSaysSpec.post enc Tryz.prog Tryz.f3 false true false false W args v W' := by
  have hW' := hW
  obtain ⟨p, q, hA0, hV, rfl, hfz, hnd⟩ := hW
  have hA : DataW.TrodAll enc Tryz.prog W 0 (fun _ => true) true Tryz.f3.params.toList args.toList ds p := hA0
  rw [Tryz.params3] at hA hval
  obtain ⟨v0, vs0, d0, ds0, p0, q0, hargs, rfl, rfl, h0, r0⟩ := trodAll_cons hA
  obtain ⟨v1, vs1, d1, ds1, p1, q1, rfl, rfl, rfl, h1, r1⟩ := trodAll_cons r0
  obtain ⟨rfl, rfl, rfl⟩ := trodAll_nil r1
  obtain rfl : args = #[v0, v1] := by cases args; simp_all
  obtain ⟨rfl, rfl⟩ := trodVars_none hV
  have hpost : ∀ W' : World, Below W.heap.size W W' → Rows.formHoldsSaysSpec.post enc Tryz.prog Tryz.f3 false true false false W #[v0, v1] (.bool true) W' := fun W' hb =>
    law_post hW' laidOut (by rw [Tryz.params3]; intro t ht; simp only [List.mem_cons, List.not_mem_nil, or_false] at ht; rcases ht with rfl | rfl <;> exact ⟨by kernel_rfl, of_decide_eq_true (by kernel_rfl)⟩) rfl rfl Tryz.underlying4 rfl hb
  clear hW' hA0 hA hfz hnd hV
  suffices hs : Calls Tryz.prog 3 #[v0, v1] W fun e W' => e = .returned (.bool true) ∧ Below W.heap.size W W' from hs.mono fun e W' ⟨he, hb⟩ => ⟨_, he, hpost W' hb⟩
  obtain ⟨A1, A2, A3, A4, n1, c1, n2, c2, n3, c3, n4, c4, F, rfl, hF, p1, -⟩ := open_formC (hval 0 27 v0 rfl rfl) h0
  obtain ⟨B1, B2, B3, k1, e1, k2, e2, k3, e3, M, rfl, hM⟩ := open_model (hval 1 31 v1 rfl rfl) h1
  exact formHoldsSays_any A1 A2 A3 A4 n1 c1 n2 c2 n3 c3 n4 c4 B1 B2 B3 k1 e1 k2 e2 k3 e3 F M W hF hM p1

set_option maxRecDepth 100000 in
theorem lifted (os : Os) (started : os.Started) (H : Type) (enc : TypeId × Value → H) :
    ReturnsInHanded {} Tryz.checked os 3 .any (Rows.formHoldsSaysSpec.pre6 enc Tryz.prog Tryz.f3 Rows.formHoldsSaysRow.domain false) (Rows.formHoldsSaysSpec.post enc Tryz.prog Tryz.f3 false true false false) := by
  refine returnsInHanded_of_change (C := Tryz.checked) (s := Rows.formHoldsSaysSpec) own started (by kernel_rfl) Tryz.func3
    (ChangeSpec.witness6 (enc := enc) (C := Tryz.checked) (s := Rows.formHoldsSaysSpec) false ⟨#[], #[.agg #[.slice none 0 0, .slice none 0 0, .slice none 0 0, .slice none 0 0], .agg #[.slice none 0 0, .slice none 0 0, .slice none 0 0]], []⟩ 8 (by kernel_rfl) (by kernel_rfl) (by kernel_rfl) (by kernel_rfl)) ?_
  intro W base args ds gs before hval hW _ _
  exact contract H enc W base args ds gs before hval hW

theorem proved : Rows.FormHoldsSaysSaid :=
  OpenClaim.holds_of_wide 3 Tryz.f3 rfl rfl rfl rfl rfl rfl rfl ⟨rfl, rfl, rfl, rfl, rfl⟩ rfl rfl rfl rfl rfl (by kernel_rfl) Tryz.func3 (by kernel_rfl)
    (of_decide_eq_true (by kernel_rfl)) (by unfold Func.isWrapper; first | (rw [if_pos (by decide +kernel)]; kernel_rfl) | (rw [if_neg (by decide +kernel)]; exact ⟨rfl, rfl⟩))
    (fun os started H enc _ => lifted os started H enc)
end Go.Proofs.YtkkpfdfoojcljaaGreat.formHoldsSays
namespace Go.Proofs.YtkkpfdfoojcljaaGreat
theorem formHoldsSays_holds : Rows.FormHoldsSaysSaid := formHoldsSays.proved
end Go.Proofs.YtkkpfdfoojcljaaGreat
#print axioms Go.Proofs.YtkkpfdfoojcljaaGreat.formHoldsSays_holds
