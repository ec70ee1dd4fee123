/- A block of two cells that is written whole. No program is named here. -/
import Derived.Test.YtggkfepifnfdoaaBaseB
namespace Go.Proofs.Ytggkfepifnfdoaa
open Go.RowKit

theorem one_only {w' w : World} {g : Nat} (h : w.grownBy w' (some g)) (o : Nat) (u : Value) : w.grownBy (w'.setCell ⟨g, o, none⟩ u) (some g) := only_setCell (p := ⟨g, o, none⟩) h (.inl rfl) u
def two (w : World) (g : Nat) (a b : Value) : World := (w.setCell ⟨g, 0, none⟩ a).setCell ⟨g, 1, none⟩ b
theorem two_blk {w : World} {g : Nat} {t : TypeId} {a0 b0 : Value} (h : Blk w g t #[a0, b0]) (a b : Value) : Blk (two w g a b) g t #[a, b] := by
  have h1 : Blk (w.setCell ⟨g, 0, none⟩ a) g t #[a, b0] := h.set_ 0 a
  exact h1.set_ 1 b
theorem two_only (w : World) (g : Nat) (a b : Value) : w.grownBy (two w g a b) (some g) := one_only (one_only (only_refl _ _) 0 a) 1 b
theorem two_below {w0 w : World} {B g : Nat} (h : Below B w0 w) (hg : B ≤ g) (a b : Value) : Below B w0 (two w g a b) := (h.setCell (p := ⟨g, 0, none⟩) hg a).setCell (p := ⟨g, 1, none⟩) hg b
theorem grown_of (w : World) (row : Option Nat) (o : Obj) : w.grownBy (w.alloc o) row := only_alloc (only_refl _ _) o
end Go.Proofs.Ytggkfepifnfdoaa
