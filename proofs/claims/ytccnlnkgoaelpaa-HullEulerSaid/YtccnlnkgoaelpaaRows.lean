/-
  No cell of these rows narrows 'for every input' (looked for: loops, veiled, ifaces, maps, wideKeys, modest, calm, conditions, laid).
  DERIVED. THE GIVEN ROWS OF THIS SEAT. 3 by the template 'for every input the law returns true; each argument reads behind the call as it read before'; 0 by the template 'total and deterministic' (their statements: YtccnlnkgoaelpaaTotals.lean).
  GIVEN WITH THE SEED: the statements are not yours to turn. If you find one false, say at which input.
  Laid BY PROGRAM, IN A SANDBOX (cutbox-rows.mjs): the forced cells as the released guide's own fill.sh prints them over the translation 7bd5ce38426f70c0… (all of the seat's roots in one cut). By AI agents, Wed Nov 11 2026. No macro, syntax, notation, axiom, sorry.
-/
import Derived.Test.YtccnlnkgoaelpaaChecked
import GoSem.Claim
import GoSem.ClaimJoined
import GoSem.ClaimMapViews
import Derived.JoinedTies
import Derived.KernelRfl
namespace Go.Proofs.Ytccnlnkgoaelpaa
/- THE CELL 'sum', in the pinned program and in every row, IS THE sha256 OF THE DUMP (.gsa) THAT YtccnlnkgoaelpaaProg.lean LOADS. Nothing in Lean hashes anything: it is a label: what it is worth is what the hold of that sum in a sandbox is worth. -/
noncomputable def Try.pinned : Pinned := { name := "ytccnlnkgoaelpaa", sum := "7bd5ce38426f70c02017ae0c5b5246cb8d4b81bd8b03de947e8b6c026195bcdb", checked := Try.checked }
namespace Rows
def none {H : Type} : Left H := { results := [], args := [] }

/-- 'colletlaw08.HullSupports': WHATEVER THE INPUT: true; the input reads as it did. -/
def hullSupportsSpec : ChangeSpec := { name := "hullSupports", fn := fun _ => fun
  | [d] => { results := [.lit (.bool true)], args := [d] }
  | _ => none }
def hullSupportsRow : OpenClaim := { program := "ytccnlnkgoaelpaa", sum := "7bd5ce38426f70c02017ae0c5b5246cb8d4b81bd8b03de947e8b6c026195bcdb", func := "collet/colletlaw08.HullSupports", spec := "hullSupports", unfollowed := true, recurses := true, plainKeys := false, apart := false }
def HullSupportsSaid : Prop := hullSupportsRow.holds Try.pinned (OpenSpec.ofChange hullSupportsSpec)

/-- ITS FALSE NEIGHBOUR: 'it returns false'. Refute it at one input. -/
def hullSupportsWrong : ChangeSpec := { name := "hullSupports", fn := fun _ => fun
  | [d] => { results := [.lit (.bool false)], args := [d] }
  | _ => none }
def HullSupportsWrongFalsely : Prop := hullSupportsRow.holds Try.pinned (OpenSpec.ofChange hullSupportsWrong)

/-- 'colletlaw08.HullVertices': WHATEVER THE INPUT: true; the input reads as it did. -/
def hullVerticesSpec : ChangeSpec := { name := "hullVertices", fn := fun _ => fun
  | [d] => { results := [.lit (.bool true)], args := [d] }
  | _ => none }
def hullVerticesRow : OpenClaim := { program := "ytccnlnkgoaelpaa", sum := "7bd5ce38426f70c02017ae0c5b5246cb8d4b81bd8b03de947e8b6c026195bcdb", func := "collet/colletlaw08.HullVertices", spec := "hullVertices", unfollowed := true, recurses := true, plainKeys := false, apart := false }
def HullVerticesSaid : Prop := hullVerticesRow.holds Try.pinned (OpenSpec.ofChange hullVerticesSpec)

/-- ITS FALSE NEIGHBOUR: 'it returns false'. Refute it at one input. -/
def hullVerticesWrong : ChangeSpec := { name := "hullVertices", fn := fun _ => fun
  | [d] => { results := [.lit (.bool false)], args := [d] }
  | _ => none }
def HullVerticesWrongFalsely : Prop := hullVerticesRow.holds Try.pinned (OpenSpec.ofChange hullVerticesWrong)

/-- 'colletlaw08.HullEuler': WHATEVER THE INPUT: true; the input reads as it did. -/
def hullEulerSpec : ChangeSpec := { name := "hullEuler", fn := fun _ => fun
  | [d1, d2, d3] => { results := [.lit (.bool true)], args := [d1, d2, d3] }
  | _ => none }
def hullEulerRow : OpenClaim := { program := "ytccnlnkgoaelpaa", sum := "7bd5ce38426f70c02017ae0c5b5246cb8d4b81bd8b03de947e8b6c026195bcdb", func := "collet/colletlaw08.HullEuler", spec := "hullEuler", unfollowed := true, recurses := true, plainKeys := false, apart := false }
def HullEulerSaid : Prop := hullEulerRow.holds Try.pinned (OpenSpec.ofChange hullEulerSpec)

/-- ITS FALSE NEIGHBOUR: 'it returns false'. Refute it at one input. -/
def hullEulerWrong : ChangeSpec := { name := "hullEuler", fn := fun _ => fun
  | [d1, d2, d3] => { results := [.lit (.bool false)], args := [d1, d2, d3] }
  | _ => none }
def HullEulerWrongFalsely : Prop := hullEulerRow.holds Try.pinned (OpenSpec.ofChange hullEulerWrong)

/- THE SECOND FORM. 'bulk': how many values and letters a reading holds, each counted each time it is reached (what is shared counts as often as it is met; a slice's spare places count too). A statement '..UptoSaid' is the law's where the arguments, and the package variables that the reading takes, are together of bulk at most 1048576: NARROWER than '..Said'. Prove '..Said' where nothing that the law and all that it calls make is longer than what came in: it says more and counts as full. Else prove '..UptoSaid'. A law counts once. -/
mutual
def uptoBulk {H : Type} : DataW H → Nat
  | .lit (.string bytes) => bytes.length + 1
  | .lit _ => 1
  | .nil => 1
  | .ptr d => uptoBulk d + 1
  | .slice elems spare => uptoBulkAll elems + uptoBulkAll spare + 1
  | .agg parts => uptoBulkAll parts + 1
  | .iface _ d => uptoBulk d + 1
  | .map entries => uptoBulkEntries entries + 1
  | .held _ => 1
def uptoBulkAll {H : Type} : List (DataW H) → Nat
  | [] => 0
  | d :: r => uptoBulk d + uptoBulkAll r
def uptoBulkEntries {H : Type} : List (Lit × DataW H) → Nat
  | [] => 0
  | x :: r => uptoBulkEntry x + uptoBulkEntries r
def uptoBulkEntry {H : Type} : Lit × DataW H → Nat
  | (.string bytes, d) => bytes.length + uptoBulk d + 1
  | (_, d) => uptoBulk d + 1
 end
def uptoSmall : (H : Type) → List (DataW H) → Bool := fun _ ds => decide (uptoBulkAll ds ≤ 1048576)
def OpenSpec.upto (s : _root_.Go.ChangeSpec) : _root_.Go.OpenSpec := { _root_.Go.OpenSpec.ofChange s with cond := some uptoSmall }

/-- 'colletlaw08.HullSupports', WHERE WHAT IT READS IS OF BULK AT MOST 1048576: true; the input reads as it did. -/
def hullSupportsUptoRow : OpenClaim := { program := "ytccnlnkgoaelpaa", sum := "7bd5ce38426f70c02017ae0c5b5246cb8d4b81bd8b03de947e8b6c026195bcdb", func := "collet/colletlaw08.HullSupports", spec := "hullSupports", unfollowed := true, recurses := true, plainKeys := false, apart := false, narrowed := true }
def HullSupportsUptoSaid : Prop := hullSupportsUptoRow.holds Try.pinned (OpenSpec.upto hullSupportsSpec)

/-- 'colletlaw08.HullVertices', WHERE WHAT IT READS IS OF BULK AT MOST 1048576: true; the input reads as it did. -/
def hullVerticesUptoRow : OpenClaim := { program := "ytccnlnkgoaelpaa", sum := "7bd5ce38426f70c02017ae0c5b5246cb8d4b81bd8b03de947e8b6c026195bcdb", func := "collet/colletlaw08.HullVertices", spec := "hullVertices", unfollowed := true, recurses := true, plainKeys := false, apart := false, narrowed := true }
def HullVerticesUptoSaid : Prop := hullVerticesUptoRow.holds Try.pinned (OpenSpec.upto hullVerticesSpec)

/-- 'colletlaw08.HullEuler', WHERE WHAT IT READS IS OF BULK AT MOST 1048576: true; the input reads as it did. -/
def hullEulerUptoRow : OpenClaim := { program := "ytccnlnkgoaelpaa", sum := "7bd5ce38426f70c02017ae0c5b5246cb8d4b81bd8b03de947e8b6c026195bcdb", func := "collet/colletlaw08.HullEuler", spec := "hullEuler", unfollowed := true, recurses := true, plainKeys := false, apart := false, narrowed := true }
def HullEulerUptoSaid : Prop := hullEulerUptoRow.holds Try.pinned (OpenSpec.upto hullEulerSpec)

end Rows
end Go.Proofs.Ytccnlnkgoaelpaa
