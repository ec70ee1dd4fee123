/- An argument of type []int, opened. -/
import Derived.Test.YtllgindmcjemeaaLaw
import Derived.Test.YtllgindmcjemeaaSexpS
namespace Go.Proofs.Ytllgindmcjemeaa
open Go.ChangeShapes Go.WideShapes Go.ChangeAt Go.RowKit Go.Deep

set_option maxRecDepth 100000 in
theorem open_ints_at {H : Type} {enc : TypeId × Value → H} {w : World} {base : Nat} {spare : Nat → Bool} {held : Bool} {A : Option Addr} {n c : Nat} {d : DataW H} {p : List MemPlace}
    (h : DataW.Trod enc Try.prog w base spare held 40 (.slice A n c) d p) : IntsAt w w.heap.size A n ∧ n ≤ c ∧ c ≤ 9223372036854775807 ∧ n ≤ Rows.uptoBulk d := by
  obtain ⟨fuel, hf⟩ := h
  rcases open_slice Try.underlying40 hf with ⟨hcs, hx⟩ | ⟨a, len, cap, m, fl, D, Pl, hcs, hb, hl, hm, hmm, hx, hi⟩
  · have hcs' : [Value.slice A n c] = [.slice none 0 0] := hcs
    simp only [List.cons.injEq, and_true, Value.slice.injEq] at hcs'
    obtain ⟨rfl, rfl, rfl⟩ := hcs'
    exact ⟨fun i hi => by omega, by omega, by omega, by omega⟩
  · have hcs' : [Value.slice A n c] = [.slice (some a) len cap] := hcs
    simp only [List.cons.injEq, and_true, Value.slice.injEq] at hcs'
    obtain ⟨rfl, rfl, rfl⟩ := hcs'
    have hlm : n ≤ m := by rw [hmm]; split <;> omega
    simp only [Prod.mk.injEq] at hx
    have hlen : ∀ l : List (DataW H), l.length ≤ Rows.uptoBulkAll l := by
      intro l
      induction l with
      | nil => simp [Rows.uptoBulkAll]
      | cons x r ih => have := bulk_one_le x; simp only [Rows.uptoBulkAll, List.length_cons]; omega
    refine ⟨fun i hi' => ?_, hl, by unfold maxLen at hm; omega, ?_⟩
    · obtain ⟨cs', hc, ht'⟩ := hi i (by omega)
      rw [show Try.prog.cellsOf 3 = 1 from by kernel_rfl] at hc
      obtain ⟨x, e0, _, _⟩ := DataW.trod_int Try.underlying3 ht'
      subst e0
      obtain ⟨_, _, hat⟩ := World.cells?_some hc
      have h0 := hat 0 (by omega)
      rw [Go.Deep.add_add] at h0
      simp at h0
      obtain ⟨b, off, spot⟩ := a
      have hspot : spot = none := by
        obtain ⟨cs2, hc2, ht2⟩ := hi 0 (by omega)
        rw [show Try.prog.cellsOf 3 = 1 from by kernel_rfl] at hc2
        obtain ⟨x2, e2, _, _⟩ := DataW.trod_int Try.underlying3 ht2
        subst e2
        obtain ⟨_, _, hat2⟩ := World.cells?_some hc2
        have h2 := hat2 0 (by omega)
        rw [Go.Deep.add_add] at h2
        simpa [Addr.add] using World.cell?_spot h2
      subst hspot
      rw [Go.WideShapes.add_plain] at h0
      exact ⟨b, off, x, rfl, cell_lt h0, h0⟩
    · rw [hx.1]
      have := hlen ((List.range n).map D)
      simp at this
      simp only [Rows.uptoBulk]
      omega
end Go.Proofs.Ytllgindmcjemeaa
