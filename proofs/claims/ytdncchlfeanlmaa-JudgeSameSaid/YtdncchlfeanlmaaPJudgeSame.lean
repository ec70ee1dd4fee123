/- For both numbers: the law JudgeSame returns true, and its arguments read as before. No condition. -/
import Derived.Test.YtdncchlfeanlmaaJuB4
import Derived.Test.YtdncchlfeanlmaaJuO1
import Derived.Test.YtdncchlfeanlmaaLawA
namespace Go.Proofs.Ytdncchlfeanlmaa.judgeSame
open Go.ChangeShapes Go.WideShapes Go.ChangeAt Go.RowKit Go.Deep
open Go.ChangeMaps (open_string shut_string)

set_option maxRecDepth 100000 in
theorem contract (H : Type) (enc : TypeId × Value → H) (W : World) (base : Nat) (args : Array Value) (ds gs : List (DataW H)) (before : List MemPlace)
    (hval : ∀ (j : Nat) t v, Try.f4.params[j]? = some t → args[j]? = some v → Value.okWide Try.prog W .any base t v)
    (hW : DataW.Whole enc Try.prog Try.f4.params.toList Rows.judgeSameSpec.vars false W args.toList ds gs before) :
    Calls Try.prog 4 args W fun e W' => ∃ v, e = .returned v ∧ Rows.judgeSameSpec.post enc Try.prog Try.f4 false true false false W args v W' := by
  have hW' := hW
  obtain ⟨p, q, hA0, hV, rfl, hfz, hnd⟩ := hW
  have hA : DataW.TrodAll enc Try.prog W 0 (fun _ => true) true Try.f4.params.toList args.toList ds p := hA0
  rw [Try.params4] at hA hval
  obtain ⟨v0, vs0, d0, ds0, p0, q0, hargs, rfl, rfl, h0, r0⟩ := trodAll_cons hA
  obtain ⟨v1, vs1, d1, ds1, p1, q1, rfl, rfl, rfl, h1, r1⟩ := trodAll_cons r0
  obtain ⟨rfl, rfl, rfl⟩ := trodAll_nil r1
  obtain rfl : args = #[v0, v1] := by cases args; simp_all
  obtain ⟨rfl, rfl⟩ := trodVars_none hV
  have hpost : ∀ W' : World, Below W.heap.size W W' → Rows.judgeSameSpec.post enc Try.prog Try.f4 false true false false W #[v0, v1] (.bool true) W' := fun W' hb =>
    law_post hW' laidOut (by rw [Try.params4]; intro t ht; simp only [List.mem_cons, List.not_mem_nil, or_false] at ht; rcases ht with rfl | rfl <;> exact ⟨by kernel_rfl, of_decide_eq_true (by kernel_rfl)⟩) rfl rfl Try.underlying4 rfl hb
  clear hW' hA0 hA hfz hnd hV
  suffices hs : Calls Try.prog 4 #[v0, v1] W fun e W' => e = .returned (.bool true) ∧ Below W.heap.size W W' from hs.mono fun e W' ⟨he, hb⟩ => ⟨_, he, hpost W' hb⟩
  obtain ⟨a, rfl, rfl, rfl, wa⟩ := open_int Try.underlying3 (hval 0 3 v0 rfl rfl) h0
  obtain ⟨b, rfl, rfl, rfl, wb⟩ := open_int Try.underlying3 (hval 1 3 v1 rfl rfl) h1
  have ga := bounds_i64 wa
  have gb := bounds_i64 wb
  exact judgeSame_any a b W (by unfold I64; omega) (by unfold I64; omega)

set_option maxRecDepth 100000 in
theorem lifted (os : Os) (started : os.Started) (H : Type) (enc : TypeId × Value → H) :
    ReturnsInHanded {} Try.checked os 4 .any (Rows.judgeSameSpec.pre6 enc Try.prog Try.f4 Rows.judgeSameRow.domain false) (Rows.judgeSameSpec.post enc Try.prog Try.f4 false true false false) := by
  refine returnsInHanded_of_change (C := Try.checked) (s := Rows.judgeSameSpec) own started (by kernel_rfl) Try.func4
    (ChangeSpec.witness6 (enc := enc) (C := Try.checked) (s := Rows.judgeSameSpec) false ⟨#[], #[.int .i64 0, .int .i64 0], []⟩ 8 (by kernel_rfl) (by kernel_rfl) (by kernel_rfl) (by kernel_rfl)) ?_
  intro W base args ds gs before hval hW _ _
  exact contract H enc W base args ds gs before hval hW

theorem proved : Rows.JudgeSameSaid :=
  OpenClaim.holds_of_wide 4 Try.f4 rfl rfl rfl rfl rfl rfl rfl ⟨rfl, rfl, rfl, rfl, rfl⟩ rfl rfl rfl rfl rfl (by kernel_rfl) Try.func4 (by kernel_rfl)
    (of_decide_eq_true (by kernel_rfl)) (by unfold Func.isWrapper; first | (rw [if_pos (by decide +kernel)]; kernel_rfl) | (rw [if_neg (by decide +kernel)]; exact ⟨rfl, rfl⟩))
    (fun os started H enc _ => lifted os started H enc)
end Go.Proofs.Ytdncchlfeanlmaa.judgeSame
namespace Go.Proofs.Ytdncchlfeanlmaa
theorem judgeSame_holds : Rows.JudgeSameSaid := judgeSame.proved
end Go.Proofs.Ytdncchlfeanlmaa
#print axioms Go.Proofs.Ytdncchlfeanlmaa.judgeSame_holds
