/-
  No cell of these rows narrows 'for every input' (looked for: loops, veiled, ifaces, maps, wideKeys, modest, calm, conditions, laid).
  DERIVED. THE GIVEN ROWS OF THIS SEAT. 6 by the template 'for every input the law returns true; each argument reads behind the call as it read before'; 0 by the template 'total and deterministic' (their statements: YtflgngjocgiojaaGreatTotals.lean).
  GIVEN WITH THE SEED: the statements are not yours to turn. If you find one false, say at which input.
  Laid BY PROGRAM, IN A SANDBOX (cutbox-rows.mjs): the forced cells as the released guide's own fill.sh prints them over the translation 9d517fff37802c29… (all of the seat's roots in one cut). By AI agents, Wed Nov 11 2026. No macro, syntax, notation, axiom, sorry.
-/
import Derived.Test.YtflgngjocgiojaaGreatChecked
import GoSem.Claim
import GoSem.ClaimJoined
import GoSem.ClaimMapViews
import Derived.JoinedTies
import Derived.KernelRfl
namespace Go.Proofs.YtflgngjocgiojaaGreat
/- THE CELL 'sum', in the pinned program and in every row, IS THE sha256 OF THE DUMP (.gsa) THAT YtflgngjocgiojaaGreatProg.lean LOADS. Nothing in Lean hashes anything: it is a label: what it is worth is what the hold of that sum in a sandbox is worth. -/
noncomputable def Tryz.pinned : Pinned := { name := "ytflgngjocgiojaagreat", sum := "9d517fff37802c292d58d651b1975854d0d362cb386c6d56597c1568415a6146", checked := Tryz.checked }
namespace Rows
def none {H : Type} : Left H := { results := [], args := [] }

/-- 'colletlaw05.MatrixForms': WHATEVER THE INPUT: true; the input reads as it did. -/
def matrixFormsSpec : ChangeSpec := { name := "matrixForms", fn := fun _ => fun
  | [d1, d2, d3, d4, d5, d6] => { results := [.lit (.bool true)], args := [d1, d2, d3, d4, d5, d6] }
  | _ => none }
def matrixFormsRow : OpenClaim := { program := "ytflgngjocgiojaagreat", sum := "9d517fff37802c292d58d651b1975854d0d362cb386c6d56597c1568415a6146", func := "collet/colletlaw05.MatrixForms", spec := "matrixForms", unfollowed := true, recurses := true, named := ["math/bits.overflowError"], apart := false }
def MatrixFormsSaid : Prop := matrixFormsRow.holds Tryz.pinned (OpenSpec.ofChange matrixFormsSpec)

/-- ITS FALSE NEIGHBOUR: 'it returns false'. Refute it at one input. -/
def matrixFormsWrong : ChangeSpec := { name := "matrixForms", fn := fun _ => fun
  | [d1, d2, d3, d4, d5, d6] => { results := [.lit (.bool false)], args := [d1, d2, d3, d4, d5, d6] }
  | _ => none }
def MatrixFormsWrongFalsely : Prop := matrixFormsRow.holds Tryz.pinned (OpenSpec.ofChange matrixFormsWrong)

/-- 'colletlaw05.MatrixTimes': WHATEVER THE INPUT: true; the input reads as it did. -/
def matrixTimesSpec : ChangeSpec := { name := "matrixTimes", fn := fun _ => fun
  | [d1, d2, d3, d4, d5] => { results := [.lit (.bool true)], args := [d1, d2, d3, d4, d5] }
  | _ => none }
def matrixTimesRow : OpenClaim := { program := "ytflgngjocgiojaagreat", sum := "9d517fff37802c292d58d651b1975854d0d362cb386c6d56597c1568415a6146", func := "collet/colletlaw05.MatrixTimes", spec := "matrixTimes", unfollowed := true, recurses := true, named := ["math/bits.overflowError"], apart := false }
def MatrixTimesSaid : Prop := matrixTimesRow.holds Tryz.pinned (OpenSpec.ofChange matrixTimesSpec)

/-- ITS FALSE NEIGHBOUR: 'it returns false'. Refute it at one input. -/
def matrixTimesWrong : ChangeSpec := { name := "matrixTimes", fn := fun _ => fun
  | [d1, d2, d3, d4, d5] => { results := [.lit (.bool false)], args := [d1, d2, d3, d4, d5] }
  | _ => none }
def MatrixTimesWrongFalsely : Prop := matrixTimesRow.holds Tryz.pinned (OpenSpec.ofChange matrixTimesWrong)

/-- 'colletlaw05.MatrixKernels': WHATEVER THE INPUT: true; the input reads as it did. -/
def matrixKernelsSpec : ChangeSpec := { name := "matrixKernels", fn := fun _ => fun
  | [d] => { results := [.lit (.bool true)], args := [d] }
  | _ => none }
def matrixKernelsRow : OpenClaim := { program := "ytflgngjocgiojaagreat", sum := "9d517fff37802c292d58d651b1975854d0d362cb386c6d56597c1568415a6146", func := "collet/colletlaw05.MatrixKernels", spec := "matrixKernels", unfollowed := true, recurses := true, named := ["math/bits.overflowError"], apart := false }
def MatrixKernelsSaid : Prop := matrixKernelsRow.holds Tryz.pinned (OpenSpec.ofChange matrixKernelsSpec)

/-- ITS FALSE NEIGHBOUR: 'it returns false'. Refute it at one input. -/
def matrixKernelsWrong : ChangeSpec := { name := "matrixKernels", fn := fun _ => fun
  | [d] => { results := [.lit (.bool false)], args := [d] }
  | _ => none }
def MatrixKernelsWrongFalsely : Prop := matrixKernelsRow.holds Tryz.pinned (OpenSpec.ofChange matrixKernelsWrong)

/-- 'colletlaw05.MatrixSolves': WHATEVER THE INPUT: true; the input reads as it did. -/
def matrixSolvesSpec : ChangeSpec := { name := "matrixSolves", fn := fun _ => fun
  | [d1, d2] => { results := [.lit (.bool true)], args := [d1, d2] }
  | _ => none }
def matrixSolvesRow : OpenClaim := { program := "ytflgngjocgiojaagreat", sum := "9d517fff37802c292d58d651b1975854d0d362cb386c6d56597c1568415a6146", func := "collet/colletlaw05.MatrixSolves", spec := "matrixSolves", unfollowed := true, recurses := true, named := ["math/bits.overflowError"], apart := false }
def MatrixSolvesSaid : Prop := matrixSolvesRow.holds Tryz.pinned (OpenSpec.ofChange matrixSolvesSpec)

/-- ITS FALSE NEIGHBOUR: 'it returns false'. Refute it at one input. -/
def matrixSolvesWrong : ChangeSpec := { name := "matrixSolves", fn := fun _ => fun
  | [d1, d2] => { results := [.lit (.bool false)], args := [d1, d2] }
  | _ => none }
def MatrixSolvesWrongFalsely : Prop := matrixSolvesRow.holds Tryz.pinned (OpenSpec.ofChange matrixSolvesWrong)

/-- 'colletlaw05.MatrixRanks': WHATEVER THE INPUT: true; the input reads as it did. -/
def matrixRanksSpec : ChangeSpec := { name := "matrixRanks", fn := fun _ => fun
  | [d1, d2, d3, d4] => { results := [.lit (.bool true)], args := [d1, d2, d3, d4] }
  | _ => none }
def matrixRanksRow : OpenClaim := { program := "ytflgngjocgiojaagreat", sum := "9d517fff37802c292d58d651b1975854d0d362cb386c6d56597c1568415a6146", func := "collet/colletlaw05.MatrixRanks", spec := "matrixRanks", unfollowed := true, recurses := true, named := ["math/bits.overflowError"], apart := false }
def MatrixRanksSaid : Prop := matrixRanksRow.holds Tryz.pinned (OpenSpec.ofChange matrixRanksSpec)

/-- ITS FALSE NEIGHBOUR: 'it returns false'. Refute it at one input. -/
def matrixRanksWrong : ChangeSpec := { name := "matrixRanks", fn := fun _ => fun
  | [d1, d2, d3, d4] => { results := [.lit (.bool false)], args := [d1, d2, d3, d4] }
  | _ => none }
def MatrixRanksWrongFalsely : Prop := matrixRanksRow.holds Tryz.pinned (OpenSpec.ofChange matrixRanksWrong)

/-- 'colletlaw05.MatrixCompletes': WHATEVER THE INPUT: true; the input reads as it did. -/
def matrixCompletesSpec : ChangeSpec := { name := "matrixCompletes", fn := fun _ => fun
  | [d] => { results := [.lit (.bool true)], args := [d] }
  | _ => none }
def matrixCompletesRow : OpenClaim := { program := "ytflgngjocgiojaagreat", sum := "9d517fff37802c292d58d651b1975854d0d362cb386c6d56597c1568415a6146", func := "collet/colletlaw05.MatrixCompletes", spec := "matrixCompletes", unfollowed := true, recurses := true, named := ["math/bits.overflowError"], apart := false }
def MatrixCompletesSaid : Prop := matrixCompletesRow.holds Tryz.pinned (OpenSpec.ofChange matrixCompletesSpec)

/-- ITS FALSE NEIGHBOUR: 'it returns false'. Refute it at one input. -/
def matrixCompletesWrong : ChangeSpec := { name := "matrixCompletes", fn := fun _ => fun
  | [d] => { results := [.lit (.bool false)], args := [d] }
  | _ => none }
def MatrixCompletesWrongFalsely : Prop := matrixCompletesRow.holds Tryz.pinned (OpenSpec.ofChange matrixCompletesWrong)

/- THE SECOND FORM. 'bulk': how many values and letters a reading holds, each counted each time it is reached (what is shared counts as often as it is met; a slice's spare places count too). A statement '..UptoSaid' is the law's where the arguments, and the package variables that the reading takes, are together of bulk at most 1048576: NARROWER than '..Said'. Prove '..Said' where nothing that the law and all that it calls make is longer than what came in: it says more and counts as full. Else prove '..UptoSaid'. A law counts once. -/
mutual
def uptoBulk {H : Type} : DataW H → Nat
  | .lit (.string bytes) => bytes.length + 1
  | .lit _ => 1
  | .nil => 1
  | .ptr d => uptoBulk d + 1
  | .slice elems spare => uptoBulkAll elems + uptoBulkAll spare + 1
  | .agg parts => uptoBulkAll parts + 1
  | .iface _ d => uptoBulk d + 1
  | .map entries => uptoBulkEntries entries + 1
  | .held _ => 1
def uptoBulkAll {H : Type} : List (DataW H) → Nat
  | [] => 0
  | d :: r => uptoBulk d + uptoBulkAll r
def uptoBulkEntries {H : Type} : List (Lit × DataW H) → Nat
  | [] => 0
  | x :: r => uptoBulkEntry x + uptoBulkEntries r
def uptoBulkEntry {H : Type} : Lit × DataW H → Nat
  | (.string bytes, d) => bytes.length + uptoBulk d + 1
  | (_, d) => uptoBulk d + 1
 end
def uptoSmall : (H : Type) → List (DataW H) → Bool := fun _ ds => decide (uptoBulkAll ds ≤ 1048576)
def OpenSpec.upto (s : _root_.Go.ChangeSpec) : _root_.Go.OpenSpec := { _root_.Go.OpenSpec.ofChange s with cond := some uptoSmall }

/-- 'colletlaw05.MatrixForms', WHERE WHAT IT READS IS OF BULK AT MOST 1048576: true; the input reads as it did. -/
def matrixFormsUptoRow : OpenClaim := { program := "ytflgngjocgiojaagreat", sum := "9d517fff37802c292d58d651b1975854d0d362cb386c6d56597c1568415a6146", func := "collet/colletlaw05.MatrixForms", spec := "matrixForms", unfollowed := true, recurses := true, named := ["math/bits.overflowError"], apart := false, narrowed := true }
def MatrixFormsUptoSaid : Prop := matrixFormsUptoRow.holds Tryz.pinned (OpenSpec.upto matrixFormsSpec)

/-- 'colletlaw05.MatrixTimes', WHERE WHAT IT READS IS OF BULK AT MOST 1048576: true; the input reads as it did. -/
def matrixTimesUptoRow : OpenClaim := { program := "ytflgngjocgiojaagreat", sum := "9d517fff37802c292d58d651b1975854d0d362cb386c6d56597c1568415a6146", func := "collet/colletlaw05.MatrixTimes", spec := "matrixTimes", unfollowed := true, recurses := true, named := ["math/bits.overflowError"], apart := false, narrowed := true }
def MatrixTimesUptoSaid : Prop := matrixTimesUptoRow.holds Tryz.pinned (OpenSpec.upto matrixTimesSpec)

/-- 'colletlaw05.MatrixKernels', WHERE WHAT IT READS IS OF BULK AT MOST 1048576: true; the input reads as it did. -/
def matrixKernelsUptoRow : OpenClaim := { program := "ytflgngjocgiojaagreat", sum := "9d517fff37802c292d58d651b1975854d0d362cb386c6d56597c1568415a6146", func := "collet/colletlaw05.MatrixKernels", spec := "matrixKernels", unfollowed := true, recurses := true, named := ["math/bits.overflowError"], apart := false, narrowed := true }
def MatrixKernelsUptoSaid : Prop := matrixKernelsUptoRow.holds Tryz.pinned (OpenSpec.upto matrixKernelsSpec)

/-- 'colletlaw05.MatrixSolves', WHERE WHAT IT READS IS OF BULK AT MOST 1048576: true; the input reads as it did. -/
def matrixSolvesUptoRow : OpenClaim := { program := "ytflgngjocgiojaagreat", sum := "9d517fff37802c292d58d651b1975854d0d362cb386c6d56597c1568415a6146", func := "collet/colletlaw05.MatrixSolves", spec := "matrixSolves", unfollowed := true, recurses := true, named := ["math/bits.overflowError"], apart := false, narrowed := true }
def MatrixSolvesUptoSaid : Prop := matrixSolvesUptoRow.holds Tryz.pinned (OpenSpec.upto matrixSolvesSpec)

/-- 'colletlaw05.MatrixRanks', WHERE WHAT IT READS IS OF BULK AT MOST 1048576: true; the input reads as it did. -/
def matrixRanksUptoRow : OpenClaim := { program := "ytflgngjocgiojaagreat", sum := "9d517fff37802c292d58d651b1975854d0d362cb386c6d56597c1568415a6146", func := "collet/colletlaw05.MatrixRanks", spec := "matrixRanks", unfollowed := true, recurses := true, named := ["math/bits.overflowError"], apart := false, narrowed := true }
def MatrixRanksUptoSaid : Prop := matrixRanksUptoRow.holds Tryz.pinned (OpenSpec.upto matrixRanksSpec)

/-- 'colletlaw05.MatrixCompletes', WHERE WHAT IT READS IS OF BULK AT MOST 1048576: true; the input reads as it did. -/
def matrixCompletesUptoRow : OpenClaim := { program := "ytflgngjocgiojaagreat", sum := "9d517fff37802c292d58d651b1975854d0d362cb386c6d56597c1568415a6146", func := "collet/colletlaw05.MatrixCompletes", spec := "matrixCompletes", unfollowed := true, recurses := true, named := ["math/bits.overflowError"], apart := false, narrowed := true }
def MatrixCompletesUptoSaid : Prop := matrixCompletesUptoRow.holds Tryz.pinned (OpenSpec.upto matrixCompletesSpec)

end Rows
end Go.Proofs.YtflgngjocgiojaaGreat
