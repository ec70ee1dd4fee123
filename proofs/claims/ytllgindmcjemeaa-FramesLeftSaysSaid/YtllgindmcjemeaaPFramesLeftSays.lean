/- For every form and every list of commands: the law FramesLeftSays returns true, and its arguments read as before. No condition. -/
import Derived.Test.YtllgindmcjemeaaFrN
import Derived.Test.YtllgindmcjemeaaFrO
import Derived.Test.YtllgindmcjemeaaLaw
namespace Go.Proofs.Ytllgindmcjemeaa.framesLeftSays
open Go.ChangeShapes Go.WideShapes Go.ChangeAt Go.RowKit Go.Deep
open Go.ChangeMaps (open_string shut_string)

set_option maxRecDepth 100000 in
theorem contract (H : Type) (enc : TypeId × Value → H) (W : World) (base : Nat) (args : Array Value) (ds gs : List (DataW H)) (before : List MemPlace)
    (hval : ∀ (j : Nat) t v, Try.f12.params[j]? = some t → args[j]? = some v → Value.okWide Try.prog W .any base t v)
    (hW : DataW.Whole enc Try.prog Try.f12.params.toList Rows.framesLeftSaysSpec.vars false W args.toList ds gs before) (hsz : (DataW.weightsEach Try.prog (Try.f12.params.toList ++ Rows.framesLeftSaysSpec.plain.varTypes Try.prog) (ds ++ gs)).all (· ≤ reachBytes) = true) :
    Calls Try.prog 12 args W fun e W' => ∃ v, e = .returned v ∧ Rows.framesLeftSaysSpec.post enc Try.prog Try.f12 false true false false W args v W' := by
  have hW' := hW
  obtain ⟨p, q, hA0, hV, rfl, hfz, hnd⟩ := hW
  have hA : DataW.TrodAll enc Try.prog W 0 (fun _ => true) true Try.f12.params.toList args.toList ds p := hA0
  rw [Try.params12] at hA hval
  obtain ⟨v0, vs0, d0, ds0, p0, q0, hargs, rfl, rfl, h0, r0⟩ := trodAll_cons hA
  obtain ⟨v1, vs1, d1, ds1, p1, q1, rfl, rfl, rfl, h1, r1⟩ := trodAll_cons r0
  obtain ⟨rfl, rfl, rfl⟩ := trodAll_nil r1
  obtain rfl : args = #[v0, v1] := by cases args; simp_all
  obtain ⟨rfl, rfl⟩ := trodVars_none hV
  have hpost : ∀ W' : World, Below W.heap.size W W' → Rows.framesLeftSaysSpec.post enc Try.prog Try.f12 false true false false W #[v0, v1] (.bool true) W' := fun W' hb =>
    law_post hW' laidOut (by rw [Try.params12]; intro t ht; simp only [List.mem_cons, List.not_mem_nil, or_false] at ht; rcases ht with rfl | rfl <;> exact ⟨by kernel_rfl, of_decide_eq_true (by kernel_rfl)⟩) rfl rfl Try.underlying4 rfl hb
  clear hW' hA0 hA hfz hnd hV
  suffices hs : Calls Try.prog 12 #[v0, v1] W fun e W' => e = .returned (.bool true) ∧ Below W.heap.size W W' from hs.mono fun e W' ⟨he, hb⟩ => ⟨_, he, hpost W' hb⟩
  rw [Try.params12] at hsz
  obtain ⟨A1, A2, A3, A4, n1, c1, n2, c2, n3, c3, n4, c4, F, rfl, hF, hx4, hx5⟩ := open_form4 (hval 0 38 v0 rfl rfl) h0
  obtain ⟨a0, len, cap, rfl⟩ := okWide_slice Try.underlying60 (hval 1 60 v1 rfl rfl)
  obtain ⟨fuel, hf⟩ := h1
  have hr : ∀ m ∈ d1.weights Try.prog 60, m ≤ reachBytes := fun m hm => by
    have := List.all_eq_true.1 hsz m (DataW.weights_mem_each (j := 1) (t := 60) (d := d1) rfl rfl m hm)
    simpa using this
  obtain ⟨L, n, c, l, he, hl, hn, hlen⟩ := open_deeds hf hr
  rw [he]
  exact framesLeftSays_any A1 A2 A3 A4 n1 c1 n2 c2 n3 c3 n4 c4 F L n c l W hF hl hn hx4 hx5 (fun d hd => by have := hlen d hd; unfold reachBytes at this; omega)

set_option maxRecDepth 100000 in
theorem lifted (os : Os) (started : os.Started) (H : Type) (enc : TypeId × Value → H) :
    ReturnsInHanded {} Try.checked os 12 .any (Rows.framesLeftSaysSpec.pre6 enc Try.prog Try.f12 Rows.framesLeftSaysRow.domain false) (Rows.framesLeftSaysSpec.post enc Try.prog Try.f12 false true false false) := by
  refine returnsInHanded_of_change_sized (C := Try.checked) (s := Rows.framesLeftSaysSpec) own started (by kernel_rfl) Try.func12
    (ChangeSpec.witness6 (enc := enc) (C := Try.checked) (s := Rows.framesLeftSaysSpec) false ⟨#[], #[.agg #[.slice none 0 0, .slice none 0 0, .slice none 0 0, .slice none 0 0], .slice none 0 0], []⟩ 8 (by kernel_rfl) (by kernel_rfl) (by kernel_rfl) (by kernel_rfl)) ?_
  intro W base args ds gs before hval hW _ hsz _
  exact contract H enc W base args ds gs before hval hW hsz

theorem proved : Rows.FramesLeftSaysSaid :=
  OpenClaim.holds_of_wide 12 Try.f12 rfl rfl rfl rfl rfl rfl rfl ⟨rfl, rfl, rfl, rfl, rfl⟩ rfl rfl rfl rfl rfl (by kernel_rfl) Try.func12 (by kernel_rfl)
    (of_decide_eq_true (by kernel_rfl)) (by unfold Func.isWrapper; first | (rw [if_pos (by decide +kernel)]; kernel_rfl) | (rw [if_neg (by decide +kernel)]; exact ⟨rfl, rfl⟩))
    (fun os started H enc _ => lifted os started H enc)
end Go.Proofs.Ytllgindmcjemeaa.framesLeftSays
namespace Go.Proofs.Ytllgindmcjemeaa
theorem framesLeftSays_holds : Rows.FramesLeftSaysSaid := framesLeftSays.proved
end Go.Proofs.Ytllgindmcjemeaa
#print axioms Go.Proofs.Ytllgindmcjemeaa.framesLeftSays_holds
