/-
  No cell of these rows narrows 'for every input' (looked for: loops, veiled, ifaces, maps, wideKeys, modest, calm, conditions, laid).
  DERIVED. THE GIVEN ROWS OF THIS SEAT. 4 by the template 'for every input the law returns true; each argument reads behind the call as it read before'; 0 by the template 'total and deterministic' (their statements: YtfkciiiopbanaaaTotals.lean).
  GIVEN WITH THE SEED: the statements are not yours to turn. If you find one false, say at which input.
  Laid BY PROGRAM, IN A SANDBOX (cutbox-rows.mjs): the forced cells as the released guide's own fill.sh prints them over the translation 82fae5453f048053… (all of the seat's roots in one cut). By AI agents, Wed Nov 11 2026. No macro, syntax, notation, axiom, sorry.
-/
import Derived.Test.YtfkciiiopbanaaaChecked
import GoSem.Claim
import GoSem.ClaimJoined
import GoSem.ClaimMapViews
import Derived.JoinedTies
import Derived.KernelRfl
namespace Go.Proofs.Ytfkciiiopbanaaa
/- THE CELL 'sum', in the pinned program and in every row, IS THE sha256 OF THE DUMP (.gsa) THAT YtfkciiiopbanaaaProg.lean LOADS. Nothing in Lean hashes anything: it is a label: what it is worth is what the hold of that sum in a sandbox is worth. -/
noncomputable def Try.pinned : Pinned := { name := "ytfkciiiopbanaaa", sum := "82fae5453f0480531ac5eae5aaa8c5ac36064c72f3a38911ce5423271d4e57a0", checked := Try.checked }
namespace Rows
def none {H : Type} : Left H := { results := [], args := [] }

/-- 'umpiragelaw1.FormCheckSays': WHATEVER THE INPUT: true; the input reads as it did. -/
def formCheckSaysSpec : ChangeSpec := { name := "formCheckSays", fn := fun _ => fun
  | [d] => { results := [.lit (.bool true)], args := [d] }
  | _ => none }
def formCheckSaysRow : OpenClaim := { program := "ytfkciiiopbanaaa", sum := "82fae5453f0480531ac5eae5aaa8c5ac36064c72f3a38911ce5423271d4e57a0", func := "umpirage/umpiragelaw1.FormCheckSays", spec := "formCheckSays", unfollowed := true, recurses := true, apart := false }
def FormCheckSaysSaid : Prop := formCheckSaysRow.holds Try.pinned (OpenSpec.ofChange formCheckSaysSpec)

/-- ITS FALSE NEIGHBOUR: 'it returns false'. Refute it at one input. -/
def formCheckSaysWrong : ChangeSpec := { name := "formCheckSays", fn := fun _ => fun
  | [d] => { results := [.lit (.bool false)], args := [d] }
  | _ => none }
def FormCheckSaysWrongFalsely : Prop := formCheckSaysRow.holds Try.pinned (OpenSpec.ofChange formCheckSaysWrong)

/-- 'umpiragelaw1.FormMore': WHATEVER THE INPUT: true; the input reads as it did. -/
def formMoreSpec : ChangeSpec := { name := "formMore", fn := fun _ => fun
  | [d1, d2, d3] => { results := [.lit (.bool true)], args := [d1, d2, d3] }
  | _ => none }
def formMoreRow : OpenClaim := { program := "ytfkciiiopbanaaa", sum := "82fae5453f0480531ac5eae5aaa8c5ac36064c72f3a38911ce5423271d4e57a0", func := "umpirage/umpiragelaw1.FormMore", spec := "formMore", unfollowed := true, recurses := true, apart := false }
def FormMoreSaid : Prop := formMoreRow.holds Try.pinned (OpenSpec.ofChange formMoreSpec)

/-- ITS FALSE NEIGHBOUR: 'it returns false'. Refute it at one input. -/
def formMoreWrong : ChangeSpec := { name := "formMore", fn := fun _ => fun
  | [d1, d2, d3] => { results := [.lit (.bool false)], args := [d1, d2, d3] }
  | _ => none }
def FormMoreWrongFalsely : Prop := formMoreRow.holds Try.pinned (OpenSpec.ofChange formMoreWrong)

/-- 'umpiragelaw1.FormAtoms': WHATEVER THE INPUT: true; the input reads as it did. -/
def formAtomsSpec : ChangeSpec := { name := "formAtoms", fn := fun _ => fun
  | [d1, d2, d3] => { results := [.lit (.bool true)], args := [d1, d2, d3] }
  | _ => none }
def formAtomsRow : OpenClaim := { program := "ytfkciiiopbanaaa", sum := "82fae5453f0480531ac5eae5aaa8c5ac36064c72f3a38911ce5423271d4e57a0", func := "umpirage/umpiragelaw1.FormAtoms", spec := "formAtoms", unfollowed := true, recurses := true, apart := false }
def FormAtomsSaid : Prop := formAtomsRow.holds Try.pinned (OpenSpec.ofChange formAtomsSpec)

/-- ITS FALSE NEIGHBOUR: 'it returns false'. Refute it at one input. -/
def formAtomsWrong : ChangeSpec := { name := "formAtoms", fn := fun _ => fun
  | [d1, d2, d3] => { results := [.lit (.bool false)], args := [d1, d2, d3] }
  | _ => none }
def FormAtomsWrongFalsely : Prop := formAtomsRow.holds Try.pinned (OpenSpec.ofChange formAtomsWrong)

/-- 'umpiragelaw1.FormNames': WHATEVER THE INPUT: true; the input reads as it did. -/
def formNamesSpec : ChangeSpec := { name := "formNames", fn := fun _ => fun
  | [d1, d2, d3] => { results := [.lit (.bool true)], args := [d1, d2, d3] }
  | _ => none }
def formNamesRow : OpenClaim := { program := "ytfkciiiopbanaaa", sum := "82fae5453f0480531ac5eae5aaa8c5ac36064c72f3a38911ce5423271d4e57a0", func := "umpirage/umpiragelaw1.FormNames", spec := "formNames", unfollowed := true, recurses := true, apart := false }
def FormNamesSaid : Prop := formNamesRow.holds Try.pinned (OpenSpec.ofChange formNamesSpec)

/-- ITS FALSE NEIGHBOUR: 'it returns false'. Refute it at one input. -/
def formNamesWrong : ChangeSpec := { name := "formNames", fn := fun _ => fun
  | [d1, d2, d3] => { results := [.lit (.bool false)], args := [d1, d2, d3] }
  | _ => none }
def FormNamesWrongFalsely : Prop := formNamesRow.holds Try.pinned (OpenSpec.ofChange formNamesWrong)

/- THE SECOND FORM. 'bulk': how many values and letters a reading holds, each counted each time it is reached (what is shared counts as often as it is met; a slice's spare places count too). A statement '..UptoSaid' is the law's where the arguments, and the package variables that the reading takes, are together of bulk at most 1048576: NARROWER than '..Said'. Prove '..Said' where nothing that the law and all that it calls make is longer than what came in: it says more and counts as full. Else prove '..UptoSaid'. A law counts once. -/
mutual
def uptoBulk {H : Type} : DataW H → Nat
  | .lit (.string bytes) => bytes.length + 1
  | .lit _ => 1
  | .nil => 1
  | .ptr d => uptoBulk d + 1
  | .slice elems spare => uptoBulkAll elems + uptoBulkAll spare + 1
  | .agg parts => uptoBulkAll parts + 1
  | .iface _ d => uptoBulk d + 1
  | .map entries => uptoBulkEntries entries + 1
  | .held _ => 1
def uptoBulkAll {H : Type} : List (DataW H) → Nat
  | [] => 0
  | d :: r => uptoBulk d + uptoBulkAll r
def uptoBulkEntries {H : Type} : List (Lit × DataW H) → Nat
  | [] => 0
  | x :: r => uptoBulkEntry x + uptoBulkEntries r
def uptoBulkEntry {H : Type} : Lit × DataW H → Nat
  | (.string bytes, d) => bytes.length + uptoBulk d + 1
  | (_, d) => uptoBulk d + 1
 end
def uptoSmall : (H : Type) → List (DataW H) → Bool := fun _ ds => decide (uptoBulkAll ds ≤ 1048576)
def OpenSpec.upto (s : _root_.Go.ChangeSpec) : _root_.Go.OpenSpec := { _root_.Go.OpenSpec.ofChange s with cond := some uptoSmall }

/-- 'umpiragelaw1.FormCheckSays', WHERE WHAT IT READS IS OF BULK AT MOST 1048576: true; the input reads as it did. -/
def formCheckSaysUptoRow : OpenClaim := { program := "ytfkciiiopbanaaa", sum := "82fae5453f0480531ac5eae5aaa8c5ac36064c72f3a38911ce5423271d4e57a0", func := "umpirage/umpiragelaw1.FormCheckSays", spec := "formCheckSays", unfollowed := true, recurses := true, apart := false, narrowed := true }
def FormCheckSaysUptoSaid : Prop := formCheckSaysUptoRow.holds Try.pinned (OpenSpec.upto formCheckSaysSpec)

/-- 'umpiragelaw1.FormMore', WHERE WHAT IT READS IS OF BULK AT MOST 1048576: true; the input reads as it did. -/
def formMoreUptoRow : OpenClaim := { program := "ytfkciiiopbanaaa", sum := "82fae5453f0480531ac5eae5aaa8c5ac36064c72f3a38911ce5423271d4e57a0", func := "umpirage/umpiragelaw1.FormMore", spec := "formMore", unfollowed := true, recurses := true, apart := false, narrowed := true }
def FormMoreUptoSaid : Prop := formMoreUptoRow.holds Try.pinned (OpenSpec.upto formMoreSpec)

/-- 'umpiragelaw1.FormAtoms', WHERE WHAT IT READS IS OF BULK AT MOST 1048576: true; the input reads as it did. -/
def formAtomsUptoRow : OpenClaim := { program := "ytfkciiiopbanaaa", sum := "82fae5453f0480531ac5eae5aaa8c5ac36064c72f3a38911ce5423271d4e57a0", func := "umpirage/umpiragelaw1.FormAtoms", spec := "formAtoms", unfollowed := true, recurses := true, apart := false, narrowed := true }
def FormAtomsUptoSaid : Prop := formAtomsUptoRow.holds Try.pinned (OpenSpec.upto formAtomsSpec)

/-- 'umpiragelaw1.FormNames', WHERE WHAT IT READS IS OF BULK AT MOST 1048576: true; the input reads as it did. -/
def formNamesUptoRow : OpenClaim := { program := "ytfkciiiopbanaaa", sum := "82fae5453f0480531ac5eae5aaa8c5ac36064c72f3a38911ce5423271d4e57a0", func := "umpirage/umpiragelaw1.FormNames", spec := "formNames", unfollowed := true, recurses := true, apart := false, narrowed := true }
def FormNamesUptoSaid : Prop := formNamesUptoRow.holds Try.pinned (OpenSpec.upto formNamesSpec)

end Rows
end Go.Proofs.Ytfkciiiopbanaaa
