/-
  NARROWER THAN 'FOR EVERY INPUT', by the rows' own cells (each row's printed sentence says how): SexpCheckSays: loops · SexpTextSays: loops.
  DERIVED. THE GIVEN ROWS OF THIS SEAT. 10 by the template 'for every input the law returns true; each argument reads behind the call as it read before'; 0 by the template 'total and deterministic' (their statements: YtllgindmcjemeaaTotals.lean).
  GIVEN WITH THE SEED: the statements are not yours to turn. If you find one false, say at which input.
  Laid BY PROGRAM, IN A SANDBOX (cutbox-rows.mjs): the forced cells as the released guide's own fill.sh prints them over the translation be6ad40fb4042131… (all of the seat's roots in one cut). By AI agents, Wed Nov 11 2026. No macro, syntax, notation, axiom, sorry.
-/
import Derived.Test.YtllgindmcjemeaaChecked
import GoSem.Claim
import GoSem.ClaimJoined
import GoSem.ClaimMapViews
import Derived.JoinedTies
import Derived.KernelRfl
namespace Go.Proofs.Ytllgindmcjemeaa
/- THE CELL 'sum', in the pinned program and in every row, IS THE sha256 OF THE DUMP (.gsa) THAT YtllgindmcjemeaaProg.lean LOADS. Nothing in Lean hashes anything: it is a label: what it is worth is what the hold of that sum in a sandbox is worth. -/
noncomputable def Try.pinned : Pinned := { name := "ytllgindmcjemeaa", sum := "be6ad40fb4042131c90a95682d800eca9a4fc49508fc430a7f4a6545f234b113", checked := Try.checked }
namespace Rows
def none {H : Type} : Left H := { results := [], args := [] }

/-- 'umpiragelaw1.SexpCheckSays': WHATEVER THE INPUT: true; the input reads as it did. -/
def sexpCheckSaysSpec : ChangeSpec := { name := "sexpCheckSays", fn := fun _ => fun
  | [d] => { results := [.lit (.bool true)], args := [d] }
  | _ => none }
def sexpCheckSaysRow : OpenClaim := { program := "ytllgindmcjemeaa", sum := "be6ad40fb4042131c90a95682d800eca9a4fc49508fc430a7f4a6545f234b113", func := "umpirage/umpiragelaw1.SexpCheckSays", spec := "sexpCheckSays", recurses := true, loops := true, apart := false }
def SexpCheckSaysSaid : Prop := sexpCheckSaysRow.holds Try.pinned (OpenSpec.ofChange sexpCheckSaysSpec)

/-- ITS FALSE NEIGHBOUR: 'it returns false'. Refute it at one input. -/
def sexpCheckSaysWrong : ChangeSpec := { name := "sexpCheckSays", fn := fun _ => fun
  | [d] => { results := [.lit (.bool false)], args := [d] }
  | _ => none }
def SexpCheckSaysWrongFalsely : Prop := sexpCheckSaysRow.holds Try.pinned (OpenSpec.ofChange sexpCheckSaysWrong)

/-- 'umpiragelaw1.SexpParseSays': WHATEVER THE INPUT: true; the input reads as it did. -/
def sexpParseSaysSpec : ChangeSpec := { name := "sexpParseSays", fn := fun _ => fun
  | [d] => { results := [.lit (.bool true)], args := [d] }
  | _ => none }
def sexpParseSaysRow : OpenClaim := { program := "ytllgindmcjemeaa", sum := "be6ad40fb4042131c90a95682d800eca9a4fc49508fc430a7f4a6545f234b113", func := "umpirage/umpiragelaw1.SexpParseSays", spec := "sexpParseSays", recurses := true, apart := false }
def SexpParseSaysSaid : Prop := sexpParseSaysRow.holds Try.pinned (OpenSpec.ofChange sexpParseSaysSpec)

/-- ITS FALSE NEIGHBOUR: 'it returns false'. Refute it at one input. -/
def sexpParseSaysWrong : ChangeSpec := { name := "sexpParseSays", fn := fun _ => fun
  | [d] => { results := [.lit (.bool false)], args := [d] }
  | _ => none }
def SexpParseSaysWrongFalsely : Prop := sexpParseSaysRow.holds Try.pinned (OpenSpec.ofChange sexpParseSaysWrong)

/-- 'umpiragelaw1.SexpTextSays': WHATEVER THE INPUT: true; the input reads as it did. -/
def sexpTextSaysSpec : ChangeSpec := { name := "sexpTextSays", fn := fun _ => fun
  | [d] => { results := [.lit (.bool true)], args := [d] }
  | _ => none }
def sexpTextSaysRow : OpenClaim := { program := "ytllgindmcjemeaa", sum := "be6ad40fb4042131c90a95682d800eca9a4fc49508fc430a7f4a6545f234b113", func := "umpirage/umpiragelaw1.SexpTextSays", spec := "sexpTextSays", inPlace := ["internal/abi.NoEscape"], recurses := true, loops := true, apart := false }
def SexpTextSaysSaid : Prop := sexpTextSaysRow.holds Try.pinned (OpenSpec.ofChange sexpTextSaysSpec)

/-- ITS FALSE NEIGHBOUR: 'it returns false'. Refute it at one input. -/
def sexpTextSaysWrong : ChangeSpec := { name := "sexpTextSays", fn := fun _ => fun
  | [d] => { results := [.lit (.bool false)], args := [d] }
  | _ => none }
def SexpTextSaysWrongFalsely : Prop := sexpTextSaysRow.holds Try.pinned (OpenSpec.ofChange sexpTextSaysWrong)

/-- 'umpiragelaw1.FormCheckSays': WHATEVER THE INPUT: true; the input reads as it did. -/
def formCheckSaysSpec : ChangeSpec := { name := "formCheckSays", fn := fun _ => fun
  | [d] => { results := [.lit (.bool true)], args := [d] }
  | _ => none }
def formCheckSaysRow : OpenClaim := { program := "ytllgindmcjemeaa", sum := "be6ad40fb4042131c90a95682d800eca9a4fc49508fc430a7f4a6545f234b113", func := "umpirage/umpiragelaw1.FormCheckSays", spec := "formCheckSays", unfollowed := true, recurses := true, apart := false }
def FormCheckSaysSaid : Prop := formCheckSaysRow.holds Try.pinned (OpenSpec.ofChange formCheckSaysSpec)

/-- ITS FALSE NEIGHBOUR: 'it returns false'. Refute it at one input. -/
def formCheckSaysWrong : ChangeSpec := { name := "formCheckSays", fn := fun _ => fun
  | [d] => { results := [.lit (.bool false)], args := [d] }
  | _ => none }
def FormCheckSaysWrongFalsely : Prop := formCheckSaysRow.holds Try.pinned (OpenSpec.ofChange formCheckSaysWrong)

/-- 'umpiragelaw1.FormFitsSays': WHATEVER THE INPUT: true; the input reads as it did. -/
def formFitsSaysSpec : ChangeSpec := { name := "formFitsSays", fn := fun _ => fun
  | [d1, d2] => { results := [.lit (.bool true)], args := [d1, d2] }
  | _ => none }
def formFitsSaysRow : OpenClaim := { program := "ytllgindmcjemeaa", sum := "be6ad40fb4042131c90a95682d800eca9a4fc49508fc430a7f4a6545f234b113", func := "umpirage/umpiragelaw1.FormFitsSays", spec := "formFitsSays", unfollowed := true, recurses := true, apart := false }
def FormFitsSaysSaid : Prop := formFitsSaysRow.holds Try.pinned (OpenSpec.ofChange formFitsSaysSpec)

/-- ITS FALSE NEIGHBOUR: 'it returns false'. Refute it at one input. -/
def formFitsSaysWrong : ChangeSpec := { name := "formFitsSays", fn := fun _ => fun
  | [d1, d2] => { results := [.lit (.bool false)], args := [d1, d2] }
  | _ => none }
def FormFitsSaysWrongFalsely : Prop := formFitsSaysRow.holds Try.pinned (OpenSpec.ofChange formFitsSaysWrong)

/-- 'umpiragelaw1.SexpBack': WHATEVER THE INPUT: true; the input reads as it did. -/
def sexpBackSpec : ChangeSpec := { name := "sexpBack", fn := fun _ => fun
  | [d] => { results := [.lit (.bool true)], args := [d] }
  | _ => none }
def sexpBackRow : OpenClaim := { program := "ytllgindmcjemeaa", sum := "be6ad40fb4042131c90a95682d800eca9a4fc49508fc430a7f4a6545f234b113", func := "umpirage/umpiragelaw1.SexpBack", spec := "sexpBack", inPlace := ["internal/abi.NoEscape"], recurses := true, apart := false }
def SexpBackSaid : Prop := sexpBackRow.holds Try.pinned (OpenSpec.ofChange sexpBackSpec)

/-- ITS FALSE NEIGHBOUR: 'it returns false'. Refute it at one input. -/
def sexpBackWrong : ChangeSpec := { name := "sexpBack", fn := fun _ => fun
  | [d] => { results := [.lit (.bool false)], args := [d] }
  | _ => none }
def SexpBackWrongFalsely : Prop := sexpBackRow.holds Try.pinned (OpenSpec.ofChange sexpBackWrong)

/-- 'umpiragelaw1.SexpSpread': WHATEVER THE INPUT: true; the input reads as it did. -/
def sexpSpreadSpec : ChangeSpec := { name := "sexpSpread", fn := fun _ => fun
  | [d1, d2] => { results := [.lit (.bool true)], args := [d1, d2] }
  | _ => none }
def sexpSpreadRow : OpenClaim := { program := "ytllgindmcjemeaa", sum := "be6ad40fb4042131c90a95682d800eca9a4fc49508fc430a7f4a6545f234b113", func := "umpirage/umpiragelaw1.SexpSpread", spec := "sexpSpread", inPlace := ["internal/abi.NoEscape"], recurses := true, apart := false }
def SexpSpreadSaid : Prop := sexpSpreadRow.holds Try.pinned (OpenSpec.ofChange sexpSpreadSpec)

/-- ITS FALSE NEIGHBOUR: 'it returns false'. Refute it at one input. -/
def sexpSpreadWrong : ChangeSpec := { name := "sexpSpread", fn := fun _ => fun
  | [d1, d2] => { results := [.lit (.bool false)], args := [d1, d2] }
  | _ => none }
def SexpSpreadWrongFalsely : Prop := sexpSpreadRow.holds Try.pinned (OpenSpec.ofChange sexpSpreadWrong)

/-- 'umpiragelaw1.SexpFixed': WHATEVER THE INPUT: true; the input reads as it did. -/
def sexpFixedSpec : ChangeSpec := { name := "sexpFixed", fn := fun _ => fun
  | [d] => { results := [.lit (.bool true)], args := [d] }
  | _ => none }
def sexpFixedRow : OpenClaim := { program := "ytllgindmcjemeaa", sum := "be6ad40fb4042131c90a95682d800eca9a4fc49508fc430a7f4a6545f234b113", func := "umpirage/umpiragelaw1.SexpFixed", spec := "sexpFixed", inPlace := ["internal/abi.NoEscape"], recurses := true, apart := false }
def SexpFixedSaid : Prop := sexpFixedRow.holds Try.pinned (OpenSpec.ofChange sexpFixedSpec)

/-- ITS FALSE NEIGHBOUR: 'it returns false'. Refute it at one input. -/
def sexpFixedWrong : ChangeSpec := { name := "sexpFixed", fn := fun _ => fun
  | [d] => { results := [.lit (.bool false)], args := [d] }
  | _ => none }
def SexpFixedWrongFalsely : Prop := sexpFixedRow.holds Try.pinned (OpenSpec.ofChange sexpFixedWrong)

/-- 'umpiragelaw2.FramesPop': WHATEVER THE INPUT: true; the input reads as it did. -/
def framesPopSpec : ChangeSpec := { name := "framesPop", fn := fun _ => fun
  | [d1, d2, d3] => { results := [.lit (.bool true)], args := [d1, d2, d3] }
  | _ => none }
def framesPopRow : OpenClaim := { program := "ytllgindmcjemeaa", sum := "be6ad40fb4042131c90a95682d800eca9a4fc49508fc430a7f4a6545f234b113", func := "umpirage/umpiragelaw2.FramesPop", spec := "framesPop", unfollowed := true, recurses := true, apart := false }
def FramesPopSaid : Prop := framesPopRow.holds Try.pinned (OpenSpec.ofChange framesPopSpec)

/-- ITS FALSE NEIGHBOUR: 'it returns false'. Refute it at one input. -/
def framesPopWrong : ChangeSpec := { name := "framesPop", fn := fun _ => fun
  | [d1, d2, d3] => { results := [.lit (.bool false)], args := [d1, d2, d3] }
  | _ => none }
def FramesPopWrongFalsely : Prop := framesPopRow.holds Try.pinned (OpenSpec.ofChange framesPopWrong)

/-- 'umpiragelaw2.FramesLeftSays': WHATEVER THE INPUT: true; the input reads as it did. -/
def framesLeftSaysSpec : ChangeSpec := { name := "framesLeftSays", fn := fun _ => fun
  | [d1, d2] => { results := [.lit (.bool true)], args := [d1, d2] }
  | _ => none }
def framesLeftSaysRow : OpenClaim := { program := "ytllgindmcjemeaa", sum := "be6ad40fb4042131c90a95682d800eca9a4fc49508fc430a7f4a6545f234b113", func := "umpirage/umpiragelaw2.FramesLeftSays", spec := "framesLeftSays", unfollowed := true, recurses := true, apart := false }
def FramesLeftSaysSaid : Prop := framesLeftSaysRow.holds Try.pinned (OpenSpec.ofChange framesLeftSaysSpec)

/-- ITS FALSE NEIGHBOUR: 'it returns false'. Refute it at one input. -/
def framesLeftSaysWrong : ChangeSpec := { name := "framesLeftSays", fn := fun _ => fun
  | [d1, d2] => { results := [.lit (.bool false)], args := [d1, d2] }
  | _ => none }
def FramesLeftSaysWrongFalsely : Prop := framesLeftSaysRow.holds Try.pinned (OpenSpec.ofChange framesLeftSaysWrong)

/- THE SECOND FORM. 'bulk': how many values and letters a reading holds, each counted each time it is reached (what is shared counts as often as it is met; a slice's spare places count too). A statement '..UptoSaid' is the law's where the arguments, and the package variables that the reading takes, are together of bulk at most 1048576: NARROWER than '..Said'. Prove '..Said' where nothing that the law and all that it calls make is longer than what came in: it says more and counts as full. Else prove '..UptoSaid'. A law counts once. -/
mutual
def uptoBulk {H : Type} : DataW H → Nat
  | .lit (.string bytes) => bytes.length + 1
  | .lit _ => 1
  | .nil => 1
  | .ptr d => uptoBulk d + 1
  | .slice elems spare => uptoBulkAll elems + uptoBulkAll spare + 1
  | .agg parts => uptoBulkAll parts + 1
  | .iface _ d => uptoBulk d + 1
  | .map entries => uptoBulkEntries entries + 1
  | .held _ => 1
def uptoBulkAll {H : Type} : List (DataW H) → Nat
  | [] => 0
  | d :: r => uptoBulk d + uptoBulkAll r
def uptoBulkEntries {H : Type} : List (Lit × DataW H) → Nat
  | [] => 0
  | x :: r => uptoBulkEntry x + uptoBulkEntries r
def uptoBulkEntry {H : Type} : Lit × DataW H → Nat
  | (.string bytes, d) => bytes.length + uptoBulk d + 1
  | (_, d) => uptoBulk d + 1
 end
def uptoSmall : (H : Type) → List (DataW H) → Bool := fun _ ds => decide (uptoBulkAll ds ≤ 1048576)
def OpenSpec.upto (s : _root_.Go.ChangeSpec) : _root_.Go.OpenSpec := { _root_.Go.OpenSpec.ofChange s with cond := some uptoSmall }

/-- 'umpiragelaw1.SexpCheckSays', WHERE WHAT IT READS IS OF BULK AT MOST 1048576: true; the input reads as it did. -/
def sexpCheckSaysUptoRow : OpenClaim := { program := "ytllgindmcjemeaa", sum := "be6ad40fb4042131c90a95682d800eca9a4fc49508fc430a7f4a6545f234b113", func := "umpirage/umpiragelaw1.SexpCheckSays", spec := "sexpCheckSays", recurses := true, loops := true, apart := false, narrowed := true }
def SexpCheckSaysUptoSaid : Prop := sexpCheckSaysUptoRow.holds Try.pinned (OpenSpec.upto sexpCheckSaysSpec)

/-- 'umpiragelaw1.SexpParseSays', WHERE WHAT IT READS IS OF BULK AT MOST 1048576: true; the input reads as it did. -/
def sexpParseSaysUptoRow : OpenClaim := { program := "ytllgindmcjemeaa", sum := "be6ad40fb4042131c90a95682d800eca9a4fc49508fc430a7f4a6545f234b113", func := "umpirage/umpiragelaw1.SexpParseSays", spec := "sexpParseSays", recurses := true, apart := false, narrowed := true }
def SexpParseSaysUptoSaid : Prop := sexpParseSaysUptoRow.holds Try.pinned (OpenSpec.upto sexpParseSaysSpec)

/-- 'umpiragelaw1.SexpTextSays', WHERE WHAT IT READS IS OF BULK AT MOST 1048576: true; the input reads as it did. -/
def sexpTextSaysUptoRow : OpenClaim := { program := "ytllgindmcjemeaa", sum := "be6ad40fb4042131c90a95682d800eca9a4fc49508fc430a7f4a6545f234b113", func := "umpirage/umpiragelaw1.SexpTextSays", spec := "sexpTextSays", inPlace := ["internal/abi.NoEscape"], recurses := true, loops := true, apart := false, narrowed := true }
def SexpTextSaysUptoSaid : Prop := sexpTextSaysUptoRow.holds Try.pinned (OpenSpec.upto sexpTextSaysSpec)

/-- 'umpiragelaw1.FormCheckSays', WHERE WHAT IT READS IS OF BULK AT MOST 1048576: true; the input reads as it did. -/
def formCheckSaysUptoRow : OpenClaim := { program := "ytllgindmcjemeaa", sum := "be6ad40fb4042131c90a95682d800eca9a4fc49508fc430a7f4a6545f234b113", func := "umpirage/umpiragelaw1.FormCheckSays", spec := "formCheckSays", unfollowed := true, recurses := true, apart := false, narrowed := true }
def FormCheckSaysUptoSaid : Prop := formCheckSaysUptoRow.holds Try.pinned (OpenSpec.upto formCheckSaysSpec)

/-- 'umpiragelaw1.FormFitsSays', WHERE WHAT IT READS IS OF BULK AT MOST 1048576: true; the input reads as it did. -/
def formFitsSaysUptoRow : OpenClaim := { program := "ytllgindmcjemeaa", sum := "be6ad40fb4042131c90a95682d800eca9a4fc49508fc430a7f4a6545f234b113", func := "umpirage/umpiragelaw1.FormFitsSays", spec := "formFitsSays", unfollowed := true, recurses := true, apart := false, narrowed := true }
def FormFitsSaysUptoSaid : Prop := formFitsSaysUptoRow.holds Try.pinned (OpenSpec.upto formFitsSaysSpec)

/-- 'umpiragelaw1.SexpBack', WHERE WHAT IT READS IS OF BULK AT MOST 1048576: true; the input reads as it did. -/
def sexpBackUptoRow : OpenClaim := { program := "ytllgindmcjemeaa", sum := "be6ad40fb4042131c90a95682d800eca9a4fc49508fc430a7f4a6545f234b113", func := "umpirage/umpiragelaw1.SexpBack", spec := "sexpBack", inPlace := ["internal/abi.NoEscape"], recurses := true, apart := false, narrowed := true }
def SexpBackUptoSaid : Prop := sexpBackUptoRow.holds Try.pinned (OpenSpec.upto sexpBackSpec)

/-- 'umpiragelaw1.SexpSpread', WHERE WHAT IT READS IS OF BULK AT MOST 1048576: true; the input reads as it did. -/
def sexpSpreadUptoRow : OpenClaim := { program := "ytllgindmcjemeaa", sum := "be6ad40fb4042131c90a95682d800eca9a4fc49508fc430a7f4a6545f234b113", func := "umpirage/umpiragelaw1.SexpSpread", spec := "sexpSpread", inPlace := ["internal/abi.NoEscape"], recurses := true, apart := false, narrowed := true }
def SexpSpreadUptoSaid : Prop := sexpSpreadUptoRow.holds Try.pinned (OpenSpec.upto sexpSpreadSpec)

/-- 'umpiragelaw1.SexpFixed', WHERE WHAT IT READS IS OF BULK AT MOST 1048576: true; the input reads as it did. -/
def sexpFixedUptoRow : OpenClaim := { program := "ytllgindmcjemeaa", sum := "be6ad40fb4042131c90a95682d800eca9a4fc49508fc430a7f4a6545f234b113", func := "umpirage/umpiragelaw1.SexpFixed", spec := "sexpFixed", inPlace := ["internal/abi.NoEscape"], recurses := true, apart := false, narrowed := true }
def SexpFixedUptoSaid : Prop := sexpFixedUptoRow.holds Try.pinned (OpenSpec.upto sexpFixedSpec)

/-- 'umpiragelaw2.FramesPop', WHERE WHAT IT READS IS OF BULK AT MOST 1048576: true; the input reads as it did. -/
def framesPopUptoRow : OpenClaim := { program := "ytllgindmcjemeaa", sum := "be6ad40fb4042131c90a95682d800eca9a4fc49508fc430a7f4a6545f234b113", func := "umpirage/umpiragelaw2.FramesPop", spec := "framesPop", unfollowed := true, recurses := true, apart := false, narrowed := true }
def FramesPopUptoSaid : Prop := framesPopUptoRow.holds Try.pinned (OpenSpec.upto framesPopSpec)

/-- 'umpiragelaw2.FramesLeftSays', WHERE WHAT IT READS IS OF BULK AT MOST 1048576: true; the input reads as it did. -/
def framesLeftSaysUptoRow : OpenClaim := { program := "ytllgindmcjemeaa", sum := "be6ad40fb4042131c90a95682d800eca9a4fc49508fc430a7f4a6545f234b113", func := "umpirage/umpiragelaw2.FramesLeftSays", spec := "framesLeftSays", unfollowed := true, recurses := true, apart := false, narrowed := true }
def FramesLeftSaysUptoSaid : Prop := framesLeftSaysUptoRow.holds Try.pinned (OpenSpec.upto framesLeftSaysSpec)

end Rows
end Go.Proofs.Ytllgindmcjemeaa
