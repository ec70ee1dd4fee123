/-
  No cell of these rows narrows 'for every input' (looked for: loops, veiled, ifaces, maps, wideKeys, modest, calm, conditions, laid).
  DERIVED. THE GIVEN ROWS OF THIS SEAT. 8 by the template 'for every input the law returns true; each argument reads behind the call as it read before'; 0 by the template 'total and deterministic' (their statements: YthooecojopfjbaaTotals.lean).
  GIVEN WITH THE SEED: the statements are not yours to turn. If you find one false, say at which input.
  Laid BY PROGRAM, IN A SANDBOX (cutbox-rows.mjs): the forced cells as the released guide's own fill.sh prints them over the translation 2421742def621c5b… (all of the seat's roots in one cut). By AI agents, Wed Nov 11 2026. No macro, syntax, notation, axiom, sorry.
-/
import Derived.Test.YthooecojopfjbaaChecked
import GoSem.Claim
import GoSem.ClaimJoined
import GoSem.ClaimMapViews
import Derived.JoinedTies
import Derived.KernelRfl
namespace Go.Proofs.Ythooecojopfjbaa
/- THE CELL 'sum', in the pinned program and in every row, IS THE sha256 OF THE DUMP (.gsa) THAT YthooecojopfjbaaProg.lean LOADS. Nothing in Lean hashes anything: it is a label: what it is worth is what the hold of that sum in a sandbox is worth. -/
noncomputable def Try.pinned : Pinned := { name := "ythooecojopfjbaa", sum := "2421742def621c5b2ea02de7ed8f3bb194d7551d189cabe4566ea37fa8244bf8", checked := Try.checked }
namespace Rows
def none {H : Type} : Left H := { results := [], args := [] }

/-- 'umpiragelaw1.AskBeginning': WHATEVER THE INPUT: true; the input reads as it did. -/
def askBeginningSpec : ChangeSpec := { name := "askBeginning", fn := fun _ => fun
  | [d1, d2] => { results := [.lit (.bool true)], args := [d1, d2] }
  | _ => none }
def askBeginningRow : OpenClaim := { program := "ythooecojopfjbaa", sum := "2421742def621c5b2ea02de7ed8f3bb194d7551d189cabe4566ea37fa8244bf8", func := "umpirage/umpiragelaw1.AskBeginning", spec := "askBeginning", unfollowed := true, recurses := true, apart := false }
def AskBeginningSaid : Prop := askBeginningRow.holds Try.pinned (OpenSpec.ofChange askBeginningSpec)

/-- ITS FALSE NEIGHBOUR: 'it returns false'. Refute it at one input. -/
def askBeginningWrong : ChangeSpec := { name := "askBeginning", fn := fun _ => fun
  | [d1, d2] => { results := [.lit (.bool false)], args := [d1, d2] }
  | _ => none }
def AskBeginningWrongFalsely : Prop := askBeginningRow.holds Try.pinned (OpenSpec.ofChange askBeginningWrong)

/-- 'umpiragelaw1.AskSortsSays': WHATEVER THE INPUT: true; the input reads as it did. -/
def askSortsSaysSpec : ChangeSpec := { name := "askSortsSays", fn := fun _ => fun
  | [d] => { results := [.lit (.bool true)], args := [d] }
  | _ => none }
def askSortsSaysRow : OpenClaim := { program := "ythooecojopfjbaa", sum := "2421742def621c5b2ea02de7ed8f3bb194d7551d189cabe4566ea37fa8244bf8", func := "umpirage/umpiragelaw1.AskSortsSays", spec := "askSortsSays", unfollowed := true, recurses := true, apart := false }
def AskSortsSaysSaid : Prop := askSortsSaysRow.holds Try.pinned (OpenSpec.ofChange askSortsSaysSpec)

/-- ITS FALSE NEIGHBOUR: 'it returns false'. Refute it at one input. -/
def askSortsSaysWrong : ChangeSpec := { name := "askSortsSays", fn := fun _ => fun
  | [d] => { results := [.lit (.bool false)], args := [d] }
  | _ => none }
def AskSortsSaysWrongFalsely : Prop := askSortsSaysRow.holds Try.pinned (OpenSpec.ofChange askSortsSaysWrong)

/-- 'umpiragelaw1.AskUsedSays': WHATEVER THE INPUT: true; the input reads as it did. -/
def askUsedSaysSpec : ChangeSpec := { name := "askUsedSays", fn := fun _ => fun
  | [d] => { results := [.lit (.bool true)], args := [d] }
  | _ => none }
def askUsedSaysRow : OpenClaim := { program := "ythooecojopfjbaa", sum := "2421742def621c5b2ea02de7ed8f3bb194d7551d189cabe4566ea37fa8244bf8", func := "umpirage/umpiragelaw1.AskUsedSays", spec := "askUsedSays", unfollowed := true, recurses := true, apart := false }
def AskUsedSaysSaid : Prop := askUsedSaysRow.holds Try.pinned (OpenSpec.ofChange askUsedSaysSpec)

/-- ITS FALSE NEIGHBOUR: 'it returns false'. Refute it at one input. -/
def askUsedSaysWrong : ChangeSpec := { name := "askUsedSays", fn := fun _ => fun
  | [d] => { results := [.lit (.bool false)], args := [d] }
  | _ => none }
def AskUsedSaysWrongFalsely : Prop := askUsedSaysRow.holds Try.pinned (OpenSpec.ofChange askUsedSaysWrong)

/-- 'umpiragelaw1.MeanSorts': WHATEVER THE INPUT: true; the input reads as it did. -/
def meanSortsSpec : ChangeSpec := { name := "meanSorts", fn := fun _ => fun
  | [d1, d2] => { results := [.lit (.bool true)], args := [d1, d2] }
  | _ => none }
def meanSortsRow : OpenClaim := { program := "ythooecojopfjbaa", sum := "2421742def621c5b2ea02de7ed8f3bb194d7551d189cabe4566ea37fa8244bf8", func := "umpirage/umpiragelaw1.MeanSorts", spec := "meanSorts", unfollowed := true, recurses := true, apart := false }
def MeanSortsSaid : Prop := meanSortsRow.holds Try.pinned (OpenSpec.ofChange meanSortsSpec)

/-- ITS FALSE NEIGHBOUR: 'it returns false'. Refute it at one input. -/
def meanSortsWrong : ChangeSpec := { name := "meanSorts", fn := fun _ => fun
  | [d1, d2] => { results := [.lit (.bool false)], args := [d1, d2] }
  | _ => none }
def MeanSortsWrongFalsely : Prop := meanSortsRow.holds Try.pinned (OpenSpec.ofChange meanSortsWrong)

/-- 'umpiragelaw1.MeanMorgan': WHATEVER THE INPUT: true; the input reads as it did. -/
def meanMorganSpec : ChangeSpec := { name := "meanMorgan", fn := fun _ => fun
  | [d1, d2] => { results := [.lit (.bool true)], args := [d1, d2] }
  | _ => none }
def meanMorganRow : OpenClaim := { program := "ythooecojopfjbaa", sum := "2421742def621c5b2ea02de7ed8f3bb194d7551d189cabe4566ea37fa8244bf8", func := "umpirage/umpiragelaw1.MeanMorgan", spec := "meanMorgan", unfollowed := true, recurses := true, apart := false }
def MeanMorganSaid : Prop := meanMorganRow.holds Try.pinned (OpenSpec.ofChange meanMorganSpec)

/-- ITS FALSE NEIGHBOUR: 'it returns false'. Refute it at one input. -/
def meanMorganWrong : ChangeSpec := { name := "meanMorgan", fn := fun _ => fun
  | [d1, d2] => { results := [.lit (.bool false)], args := [d1, d2] }
  | _ => none }
def MeanMorganWrongFalsely : Prop := meanMorganRow.holds Try.pinned (OpenSpec.ofChange meanMorganWrong)

/-- 'umpiragelaw1.MeanPick': WHATEVER THE INPUT: true; the input reads as it did. -/
def meanPickSpec : ChangeSpec := { name := "meanPick", fn := fun _ => fun
  | [d1, d2] => { results := [.lit (.bool true)], args := [d1, d2] }
  | _ => none }
def meanPickRow : OpenClaim := { program := "ythooecojopfjbaa", sum := "2421742def621c5b2ea02de7ed8f3bb194d7551d189cabe4566ea37fa8244bf8", func := "umpirage/umpiragelaw1.MeanPick", spec := "meanPick", unfollowed := true, recurses := true, apart := false }
def MeanPickSaid : Prop := meanPickRow.holds Try.pinned (OpenSpec.ofChange meanPickSpec)

/-- ITS FALSE NEIGHBOUR: 'it returns false'. Refute it at one input. -/
def meanPickWrong : ChangeSpec := { name := "meanPick", fn := fun _ => fun
  | [d1, d2] => { results := [.lit (.bool false)], args := [d1, d2] }
  | _ => none }
def MeanPickWrongFalsely : Prop := meanPickRow.holds Try.pinned (OpenSpec.ofChange meanPickWrong)

/-- 'umpiragelaw1.MeanUsed': WHATEVER THE INPUT: true; the input reads as it did. -/
def meanUsedSpec : ChangeSpec := { name := "meanUsed", fn := fun _ => fun
  | [d1, d2, d3] => { results := [.lit (.bool true)], args := [d1, d2, d3] }
  | _ => none }
def meanUsedRow : OpenClaim := { program := "ythooecojopfjbaa", sum := "2421742def621c5b2ea02de7ed8f3bb194d7551d189cabe4566ea37fa8244bf8", func := "umpirage/umpiragelaw1.MeanUsed", spec := "meanUsed", unfollowed := true, recurses := true, apart := false }
def MeanUsedSaid : Prop := meanUsedRow.holds Try.pinned (OpenSpec.ofChange meanUsedSpec)

/-- ITS FALSE NEIGHBOUR: 'it returns false'. Refute it at one input. -/
def meanUsedWrong : ChangeSpec := { name := "meanUsed", fn := fun _ => fun
  | [d1, d2, d3] => { results := [.lit (.bool false)], args := [d1, d2, d3] }
  | _ => none }
def MeanUsedWrongFalsely : Prop := meanUsedRow.holds Try.pinned (OpenSpec.ofChange meanUsedWrong)

/-- 'umpiragelaw1.SimpleDecided': WHATEVER THE INPUT: true; the input reads as it did. -/
def simpleDecidedSpec : ChangeSpec := { name := "simpleDecided", fn := fun _ => fun
  | [d] => { results := [.lit (.bool true)], args := [d] }
  | _ => none }
def simpleDecidedRow : OpenClaim := { program := "ythooecojopfjbaa", sum := "2421742def621c5b2ea02de7ed8f3bb194d7551d189cabe4566ea37fa8244bf8", func := "umpirage/umpiragelaw1.SimpleDecided", spec := "simpleDecided", unfollowed := true, recurses := true, apart := false }
def SimpleDecidedSaid : Prop := simpleDecidedRow.holds Try.pinned (OpenSpec.ofChange simpleDecidedSpec)

/-- ITS FALSE NEIGHBOUR: 'it returns false'. Refute it at one input. -/
def simpleDecidedWrong : ChangeSpec := { name := "simpleDecided", fn := fun _ => fun
  | [d] => { results := [.lit (.bool false)], args := [d] }
  | _ => none }
def SimpleDecidedWrongFalsely : Prop := simpleDecidedRow.holds Try.pinned (OpenSpec.ofChange simpleDecidedWrong)

/- THE SECOND FORM. 'bulk': how many values and letters a reading holds, each counted each time it is reached (what is shared counts as often as it is met; a slice's spare places count too). A statement '..UptoSaid' is the law's where the arguments, and the package variables that the reading takes, are together of bulk at most 1048576: NARROWER than '..Said'. Prove '..Said' where nothing that the law and all that it calls make is longer than what came in: it says more and counts as full. Else prove '..UptoSaid'. A law counts once. -/
mutual
def uptoBulk {H : Type} : DataW H → Nat
  | .lit (.string bytes) => bytes.length + 1
  | .lit _ => 1
  | .nil => 1
  | .ptr d => uptoBulk d + 1
  | .slice elems spare => uptoBulkAll elems + uptoBulkAll spare + 1
  | .agg parts => uptoBulkAll parts + 1
  | .iface _ d => uptoBulk d + 1
  | .map entries => uptoBulkEntries entries + 1
  | .held _ => 1
def uptoBulkAll {H : Type} : List (DataW H) → Nat
  | [] => 0
  | d :: r => uptoBulk d + uptoBulkAll r
def uptoBulkEntries {H : Type} : List (Lit × DataW H) → Nat
  | [] => 0
  | x :: r => uptoBulkEntry x + uptoBulkEntries r
def uptoBulkEntry {H : Type} : Lit × DataW H → Nat
  | (.string bytes, d) => bytes.length + uptoBulk d + 1
  | (_, d) => uptoBulk d + 1
 end
def uptoSmall : (H : Type) → List (DataW H) → Bool := fun _ ds => decide (uptoBulkAll ds ≤ 1048576)
def OpenSpec.upto (s : _root_.Go.ChangeSpec) : _root_.Go.OpenSpec := { _root_.Go.OpenSpec.ofChange s with cond := some uptoSmall }

/-- 'umpiragelaw1.AskBeginning', WHERE WHAT IT READS IS OF BULK AT MOST 1048576: true; the input reads as it did. -/
def askBeginningUptoRow : OpenClaim := { program := "ythooecojopfjbaa", sum := "2421742def621c5b2ea02de7ed8f3bb194d7551d189cabe4566ea37fa8244bf8", func := "umpirage/umpiragelaw1.AskBeginning", spec := "askBeginning", unfollowed := true, recurses := true, apart := false, narrowed := true }
def AskBeginningUptoSaid : Prop := askBeginningUptoRow.holds Try.pinned (OpenSpec.upto askBeginningSpec)

/-- 'umpiragelaw1.AskSortsSays', WHERE WHAT IT READS IS OF BULK AT MOST 1048576: true; the input reads as it did. -/
def askSortsSaysUptoRow : OpenClaim := { program := "ythooecojopfjbaa", sum := "2421742def621c5b2ea02de7ed8f3bb194d7551d189cabe4566ea37fa8244bf8", func := "umpirage/umpiragelaw1.AskSortsSays", spec := "askSortsSays", unfollowed := true, recurses := true, apart := false, narrowed := true }
def AskSortsSaysUptoSaid : Prop := askSortsSaysUptoRow.holds Try.pinned (OpenSpec.upto askSortsSaysSpec)

/-- 'umpiragelaw1.AskUsedSays', WHERE WHAT IT READS IS OF BULK AT MOST 1048576: true; the input reads as it did. -/
def askUsedSaysUptoRow : OpenClaim := { program := "ythooecojopfjbaa", sum := "2421742def621c5b2ea02de7ed8f3bb194d7551d189cabe4566ea37fa8244bf8", func := "umpirage/umpiragelaw1.AskUsedSays", spec := "askUsedSays", unfollowed := true, recurses := true, apart := false, narrowed := true }
def AskUsedSaysUptoSaid : Prop := askUsedSaysUptoRow.holds Try.pinned (OpenSpec.upto askUsedSaysSpec)

/-- 'umpiragelaw1.MeanSorts', WHERE WHAT IT READS IS OF BULK AT MOST 1048576: true; the input reads as it did. -/
def meanSortsUptoRow : OpenClaim := { program := "ythooecojopfjbaa", sum := "2421742def621c5b2ea02de7ed8f3bb194d7551d189cabe4566ea37fa8244bf8", func := "umpirage/umpiragelaw1.MeanSorts", spec := "meanSorts", unfollowed := true, recurses := true, apart := false, narrowed := true }
def MeanSortsUptoSaid : Prop := meanSortsUptoRow.holds Try.pinned (OpenSpec.upto meanSortsSpec)

/-- 'umpiragelaw1.MeanMorgan', WHERE WHAT IT READS IS OF BULK AT MOST 1048576: true; the input reads as it did. -/
def meanMorganUptoRow : OpenClaim := { program := "ythooecojopfjbaa", sum := "2421742def621c5b2ea02de7ed8f3bb194d7551d189cabe4566ea37fa8244bf8", func := "umpirage/umpiragelaw1.MeanMorgan", spec := "meanMorgan", unfollowed := true, recurses := true, apart := false, narrowed := true }
def MeanMorganUptoSaid : Prop := meanMorganUptoRow.holds Try.pinned (OpenSpec.upto meanMorganSpec)

/-- 'umpiragelaw1.MeanPick', WHERE WHAT IT READS IS OF BULK AT MOST 1048576: true; the input reads as it did. -/
def meanPickUptoRow : OpenClaim := { program := "ythooecojopfjbaa", sum := "2421742def621c5b2ea02de7ed8f3bb194d7551d189cabe4566ea37fa8244bf8", func := "umpirage/umpiragelaw1.MeanPick", spec := "meanPick", unfollowed := true, recurses := true, apart := false, narrowed := true }
def MeanPickUptoSaid : Prop := meanPickUptoRow.holds Try.pinned (OpenSpec.upto meanPickSpec)

/-- 'umpiragelaw1.MeanUsed', WHERE WHAT IT READS IS OF BULK AT MOST 1048576: true; the input reads as it did. -/
def meanUsedUptoRow : OpenClaim := { program := "ythooecojopfjbaa", sum := "2421742def621c5b2ea02de7ed8f3bb194d7551d189cabe4566ea37fa8244bf8", func := "umpirage/umpiragelaw1.MeanUsed", spec := "meanUsed", unfollowed := true, recurses := true, apart := false, narrowed := true }
def MeanUsedUptoSaid : Prop := meanUsedUptoRow.holds Try.pinned (OpenSpec.upto meanUsedSpec)

/-- 'umpiragelaw1.SimpleDecided', WHERE WHAT IT READS IS OF BULK AT MOST 1048576: true; the input reads as it did. -/
def simpleDecidedUptoRow : OpenClaim := { program := "ythooecojopfjbaa", sum := "2421742def621c5b2ea02de7ed8f3bb194d7551d189cabe4566ea37fa8244bf8", func := "umpirage/umpiragelaw1.SimpleDecided", spec := "simpleDecided", unfollowed := true, recurses := true, apart := false, narrowed := true }
def SimpleDecidedUptoSaid : Prop := simpleDecidedUptoRow.holds Try.pinned (OpenSpec.upto simpleDecidedSpec)

end Rows
end Go.Proofs.Ythooecojopfjbaa
