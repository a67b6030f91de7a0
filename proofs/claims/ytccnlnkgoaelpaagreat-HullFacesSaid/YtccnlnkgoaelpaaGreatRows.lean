/-
  No cell of these rows narrows 'for every input' (looked for: loops, veiled, ifaces, maps, wideKeys, modest, calm, conditions, laid).
  DERIVED. THE GIVEN ROWS OF THIS SEAT. 2 by the template 'for every input the law returns true; each argument reads behind the call as it read before'; 0 by the template 'total and deterministic' (their statements: YtccnlnkgoaelpaaGreatTotals.lean).
  GIVEN WITH THE SEED: the statements are not yours to turn. If you find one false, say at which input.
  Laid BY PROGRAM, IN A SANDBOX (cutbox-rows.mjs): the forced cells as the released guide's own fill.sh prints them over the translation e81282457fc31d3e… (all of the seat's roots in one cut). By AI agents, Wed Nov 11 2026. No macro, syntax, notation, axiom, sorry.
-/
import Derived.Test.YtccnlnkgoaelpaaGreatChecked
import GoSem.Claim
import GoSem.ClaimJoined
import GoSem.ClaimMapViews
import Derived.JoinedTies
import Derived.KernelRfl
namespace Go.Proofs.YtccnlnkgoaelpaaGreat
/- THE CELL 'sum', in the pinned program and in every row, IS THE sha256 OF THE DUMP (.gsa) THAT YtccnlnkgoaelpaaGreatProg.lean LOADS. Nothing in Lean hashes anything: it is a label: what it is worth is what the hold of that sum in a sandbox is worth. -/
noncomputable def Tryz.pinned : Pinned := { name := "ytccnlnkgoaelpaagreat", sum := "e81282457fc31d3ef94870d2aa4d27c1e68555519f68679a82a5b4eb15808274", checked := Tryz.checked }
namespace Rows
def none {H : Type} : Left H := { results := [], args := [] }

/-- 'colletlaw08.HullFaces': WHATEVER THE INPUT: true; the input reads as it did. -/
def hullFacesSpec : ChangeSpec := { name := "hullFaces", fn := fun _ => fun
  | [d1, d2, d3] => { results := [.lit (.bool true)], args := [d1, d2, d3] }
  | _ => none }
def hullFacesRow : OpenClaim := { program := "ytccnlnkgoaelpaagreat", sum := "e81282457fc31d3ef94870d2aa4d27c1e68555519f68679a82a5b4eb15808274", func := "collet/colletlaw08.HullFaces", spec := "hullFaces", unfollowed := true, recurses := true, plainKeys := false, apart := false }
def HullFacesSaid : Prop := hullFacesRow.holds Tryz.pinned (OpenSpec.ofChange hullFacesSpec)

/-- ITS FALSE NEIGHBOUR: 'it returns false'. Refute it at one input. -/
def hullFacesWrong : ChangeSpec := { name := "hullFaces", fn := fun _ => fun
  | [d1, d2, d3] => { results := [.lit (.bool false)], args := [d1, d2, d3] }
  | _ => none }
def HullFacesWrongFalsely : Prop := hullFacesRow.holds Tryz.pinned (OpenSpec.ofChange hullFacesWrong)

/-- 'colletlaw08.HullHas': WHATEVER THE INPUT: true; the input reads as it did. -/
def hullHasSpec : ChangeSpec := { name := "hullHas", fn := fun _ => fun
  | [d1, d2, d3] => { results := [.lit (.bool true)], args := [d1, d2, d3] }
  | _ => none }
def hullHasRow : OpenClaim := { program := "ytccnlnkgoaelpaagreat", sum := "e81282457fc31d3ef94870d2aa4d27c1e68555519f68679a82a5b4eb15808274", func := "collet/colletlaw08.HullHas", spec := "hullHas", unfollowed := true, recurses := true, plainKeys := false, apart := false }
def HullHasSaid : Prop := hullHasRow.holds Tryz.pinned (OpenSpec.ofChange hullHasSpec)

/-- ITS FALSE NEIGHBOUR: 'it returns false'. Refute it at one input. -/
def hullHasWrong : ChangeSpec := { name := "hullHas", fn := fun _ => fun
  | [d1, d2, d3] => { results := [.lit (.bool false)], args := [d1, d2, d3] }
  | _ => none }
def HullHasWrongFalsely : Prop := hullHasRow.holds Tryz.pinned (OpenSpec.ofChange hullHasWrong)

/- THE SECOND FORM. 'bulk': how many values and letters a reading holds, each counted each time it is reached (what is shared counts as often as it is met; a slice's spare places count too). A statement '..UptoSaid' is the law's where the arguments, and the package variables that the reading takes, are together of bulk at most 1048576: NARROWER than '..Said'. Prove '..Said' where nothing that the law and all that it calls make is longer than what came in: it says more and counts as full. Else prove '..UptoSaid'. A law counts once. -/
mutual
def uptoBulk {H : Type} : DataW H → Nat
  | .lit (.string bytes) => bytes.length + 1
  | .lit _ => 1
  | .nil => 1
  | .ptr d => uptoBulk d + 1
  | .slice elems spare => uptoBulkAll elems + uptoBulkAll spare + 1
  | .agg parts => uptoBulkAll parts + 1
  | .iface _ d => uptoBulk d + 1
  | .map entries => uptoBulkEntries entries + 1
  | .held _ => 1
def uptoBulkAll {H : Type} : List (DataW H) → Nat
  | [] => 0
  | d :: r => uptoBulk d + uptoBulkAll r
def uptoBulkEntries {H : Type} : List (Lit × DataW H) → Nat
  | [] => 0
  | x :: r => uptoBulkEntry x + uptoBulkEntries r
def uptoBulkEntry {H : Type} : Lit × DataW H → Nat
  | (.string bytes, d) => bytes.length + uptoBulk d + 1
  | (_, d) => uptoBulk d + 1
 end
def uptoSmall : (H : Type) → List (DataW H) → Bool := fun _ ds => decide (uptoBulkAll ds ≤ 1048576)
def OpenSpec.upto (s : _root_.Go.ChangeSpec) : _root_.Go.OpenSpec := { _root_.Go.OpenSpec.ofChange s with cond := some uptoSmall }

/-- 'colletlaw08.HullFaces', WHERE WHAT IT READS IS OF BULK AT MOST 1048576: true; the input reads as it did. -/
def hullFacesUptoRow : OpenClaim := { program := "ytccnlnkgoaelpaagreat", sum := "e81282457fc31d3ef94870d2aa4d27c1e68555519f68679a82a5b4eb15808274", func := "collet/colletlaw08.HullFaces", spec := "hullFaces", unfollowed := true, recurses := true, plainKeys := false, apart := false, narrowed := true }
def HullFacesUptoSaid : Prop := hullFacesUptoRow.holds Tryz.pinned (OpenSpec.upto hullFacesSpec)

/-- 'colletlaw08.HullHas', WHERE WHAT IT READS IS OF BULK AT MOST 1048576: true; the input reads as it did. -/
def hullHasUptoRow : OpenClaim := { program := "ytccnlnkgoaelpaagreat", sum := "e81282457fc31d3ef94870d2aa4d27c1e68555519f68679a82a5b4eb15808274", func := "collet/colletlaw08.HullHas", spec := "hullHas", unfollowed := true, recurses := true, plainKeys := false, apart := false, narrowed := true }
def HullHasUptoSaid : Prop := hullHasUptoRow.holds Tryz.pinned (OpenSpec.upto hullHasSpec)

end Rows
end Go.Proofs.YtccnlnkgoaelpaaGreat
