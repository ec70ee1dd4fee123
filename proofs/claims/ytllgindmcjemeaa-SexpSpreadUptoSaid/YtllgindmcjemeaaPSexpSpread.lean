/- For every list of numbers and every number whose bulk is at most 1048576: the law SexpSpread returns true, and its arguments read as before. -/
import Derived.Test.YtllgindmcjemeaaSexpV
import Derived.Test.YtllgindmcjemeaaIntsO
import Derived.Test.YtllgindmcjemeaaLaw
namespace Go.Proofs.Ytllgindmcjemeaa.sexpSpread
open Go.ChangeShapes Go.WideShapes Go.ChangeAt Go.RowKit Go.Deep
open Go.ChangeMaps (open_string shut_string)

set_option maxRecDepth 100000 in
theorem contract (H : Type) (enc : TypeId × Value → H) (W : World) (base : Nat) (args : Array Value) (ds gs : List (DataW H)) (before : List MemPlace)
    (hval : ∀ (j : Nat) t v, Try.f9.params[j]? = some t → args[j]? = some v → Value.okWide Try.prog W .any base t v)
    (hW : DataW.Whole enc Try.prog Try.f9.params.toList Rows.sexpSpreadSpec.vars false W args.toList ds gs before) (hk : Rows.uptoSmall H (ds ++ gs) = true) :
    Calls Try.prog 9 args W fun e W' => ∃ v, e = .returned v ∧ Rows.sexpSpreadSpec.post enc Try.prog Try.f9 false true false false W args v W' := by
  have hW' := hW
  obtain ⟨p, q, hA0, hV, rfl, hfz, hnd⟩ := hW
  have hA : DataW.TrodAll enc Try.prog W 0 (fun _ => true) true Try.f9.params.toList args.toList ds p := hA0
  rw [Try.params9] at hA hval
  obtain ⟨v0, vs0, d0, ds0, p0, q0, hargs, rfl, rfl, h0, r0⟩ := trodAll_cons hA
  obtain ⟨v1, vs1, d1, ds1, p1, q1, rfl, rfl, rfl, h1, r1⟩ := trodAll_cons r0
  obtain ⟨rfl, rfl, rfl⟩ := trodAll_nil r1
  obtain rfl : args = #[v0, v1] := by cases args; simp_all
  obtain ⟨rfl, rfl⟩ := trodVars_none hV
  have hpost : ∀ W' : World, Below W.heap.size W W' → Rows.sexpSpreadSpec.post enc Try.prog Try.f9 false true false false W #[v0, v1] (.bool true) W' := fun W' hb =>
    law_post hW' laidOut (by rw [Try.params9]; intro t ht; simp only [List.mem_cons, List.not_mem_nil, or_false] at ht; rcases ht with rfl | rfl <;> exact ⟨by kernel_rfl, of_decide_eq_true (by kernel_rfl)⟩) rfl rfl Try.underlying4 rfl hb
  clear hW' hA0 hA hfz hnd hV
  simp only [List.append_nil] at hk
  suffices hs : Calls Try.prog 9 #[v0, v1] W fun e W' => e = .returned (.bool true) ∧ Below W.heap.size W W' from hs.mono fun e W' ⟨he, hb⟩ => ⟨_, he, hpost W' hb⟩
  obtain ⟨a0, len, cap, rfl⟩ := okWide_slice Try.underlying40 (hval 0 40 v0 rfl rfl)
  obtain ⟨gap, rfl, rfl, rfl, wg⟩ := open_int Try.underlying3 (hval 1 3 v1 rfl rfl) h1
  have hbk := bulk_of hk
  simp only [Rows.uptoBulkAll, Nat.add_zero] at hbk
  obtain ⟨hin, hnc, hcm, hb⟩ := open_ints_at h0
  have hg := bounds_i64 wg
  exact sexpSpread_any a0 len cap gap W hin hnc hcm (by omega) hg.1 hg.2

set_option maxRecDepth 100000 in
theorem lifted (os : Os) (started : os.Started) (H : Type) (enc : TypeId × Value → H) (F : Stop.Interp) :
    ReturnsInHanded {} Try.checked os 9 .any ((Rows.OpenSpec.upto Rows.sexpSpreadSpec).pre6 enc Try.prog Try.f9 Rows.sexpSpreadUptoRow.domain false) (((Rows.OpenSpec.upto Rows.sexpSpreadSpec).at F).post enc Try.prog Try.f9 false true false false) := by
  refine returnsInHanded_of_cond (C := Try.checked) (s := Rows.OpenSpec.upto Rows.sexpSpreadSpec) (k := Rows.uptoSmall) rfl own started (by kernel_rfl) Try.func9
    (OpenSpec.witness (enc := enc) (C := Try.checked) (s := Rows.OpenSpec.upto Rows.sexpSpreadSpec) (k := Rows.uptoSmall) rfl false ⟨#[], #[.slice none 0 0, .int .i64 0], []⟩ 8 (by kernel_rfl) (by kernel_rfl) (by kernel_rfl)
      (x := ([.nil, .lit (.int .i64 0)], [], [])) (by kernel_rfl) rfl (by kernel_rfl)) ?_
  intro W base args ds gs before hval hW _ hk _
  exact contract H enc W base args ds gs before hval hW hk

theorem proved : Rows.SexpSpreadUptoSaid :=
  OpenClaim.holds_of_cond 9 Try.f9 rfl rfl rfl rfl rfl rfl rfl ⟨rfl, rfl, rfl, rfl, rfl⟩ rfl rfl rfl rfl rfl (by kernel_rfl) Try.func9 (by kernel_rfl)
    (of_decide_eq_true (by kernel_rfl)) (by unfold Func.isWrapper; first | (rw [if_pos (by decide +kernel)]; kernel_rfl) | (rw [if_neg (by decide +kernel)]; exact ⟨rfl, rfl⟩))
    (fun os started H enc _ F => lifted os started H enc F)
end Go.Proofs.Ytllgindmcjemeaa.sexpSpread
namespace Go.Proofs.Ytllgindmcjemeaa
theorem sexpSpreadUpto_holds : Rows.SexpSpreadUptoSaid := sexpSpread.proved
end Go.Proofs.Ytllgindmcjemeaa
#print axioms Go.Proofs.Ytllgindmcjemeaa.sexpSpreadUpto_holds
