/-
  No cell of these rows narrows 'for every input' (looked for: loops, veiled, ifaces, maps, wideKeys, modest, calm, conditions, laid).
  DERIVED. THE GIVEN ROWS OF THIS SEAT. 13 by the template 'for every input the law returns true; each argument reads behind the call as it read before'; 0 by the template 'total and deterministic' (their statements: YtflolbnnkbdmfaaGreatTotals.lean).
  GIVEN WITH THE SEED: the statements are not yours to turn. If you find one false, say at which input.
  Laid BY PROGRAM, IN A SANDBOX (cutbox-rows.mjs): the forced cells as the released guide's own fill.sh prints them over the translation c8fed38323de8cdb… (all of the seat's roots in one cut). By AI agents, Wed Nov 11 2026. No macro, syntax, notation, axiom, sorry.
-/
import Derived.Test.YtflolbnnkbdmfaaGreatChecked
import GoSem.Claim
import GoSem.ClaimJoined
import GoSem.ClaimMapViews
import Derived.JoinedTies
import Derived.KernelRfl
namespace Go.Proofs.YtflolbnnkbdmfaaGreat
/- THE CELL 'sum', in the pinned program and in every row, IS THE sha256 OF THE DUMP (.gsa) THAT YtflolbnnkbdmfaaGreatProg.lean LOADS. Nothing in Lean hashes anything: it is a label: what it is worth is what the hold of that sum in a sandbox is worth. -/
noncomputable def Tryz.pinned : Pinned := { name := "ytflolbnnkbdmfaagreat", sum := "c8fed38323de8cdb52670e6253232996aa3144b9e7eb63e9e2dcd9d6f7e5fab8", checked := Tryz.checked }
namespace Rows
def none {H : Type} : Left H := { results := [], args := [] }

/-- 'colletlaw20.PlaceChecks': WHATEVER THE INPUT: true; the input reads as it did. -/
def placeChecksSpec : ChangeSpec := { name := "placeChecks", fn := fun _ => fun
  | [d1, d2] => { results := [.lit (.bool true)], args := [d1, d2] }
  | _ => none }
def placeChecksRow : OpenClaim := { program := "ytflolbnnkbdmfaagreat", sum := "c8fed38323de8cdb52670e6253232996aa3144b9e7eb63e9e2dcd9d6f7e5fab8", func := "collet/colletlaw20.PlaceChecks", spec := "placeChecks", unfollowed := true, recurses := true, named := ["math/bits.overflowError"], plainKeys := false, apart := false }
def PlaceChecksSaid : Prop := placeChecksRow.holds Tryz.pinned (OpenSpec.ofChange placeChecksSpec)

/-- ITS FALSE NEIGHBOUR: 'it returns false'. Refute it at one input. -/
def placeChecksWrong : ChangeSpec := { name := "placeChecks", fn := fun _ => fun
  | [d1, d2] => { results := [.lit (.bool false)], args := [d1, d2] }
  | _ => none }
def PlaceChecksWrongFalsely : Prop := placeChecksRow.holds Tryz.pinned (OpenSpec.ofChange placeChecksWrong)

/-- 'colletlaw20.PlaceMotions': WHATEVER THE INPUT: true; the input reads as it did. -/
def placeMotionsSpec : ChangeSpec := { name := "placeMotions", fn := fun _ => fun
  | [d1, d2, d3, d4, d5, d6] => { results := [.lit (.bool true)], args := [d1, d2, d3, d4, d5, d6] }
  | _ => none }
def placeMotionsRow : OpenClaim := { program := "ytflolbnnkbdmfaagreat", sum := "c8fed38323de8cdb52670e6253232996aa3144b9e7eb63e9e2dcd9d6f7e5fab8", func := "collet/colletlaw20.PlaceMotions", spec := "placeMotions", unfollowed := true, recurses := true, named := ["math/bits.overflowError"], plainKeys := false, apart := false }
def PlaceMotionsSaid : Prop := placeMotionsRow.holds Tryz.pinned (OpenSpec.ofChange placeMotionsSpec)

/-- ITS FALSE NEIGHBOUR: 'it returns false'. Refute it at one input. -/
def placeMotionsWrong : ChangeSpec := { name := "placeMotions", fn := fun _ => fun
  | [d1, d2, d3, d4, d5, d6] => { results := [.lit (.bool false)], args := [d1, d2, d3, d4, d5, d6] }
  | _ => none }
def PlaceMotionsWrongFalsely : Prop := placeMotionsRow.holds Tryz.pinned (OpenSpec.ofChange placeMotionsWrong)

/-- 'colletlaw20.PlaceBounds': WHATEVER THE INPUT: true; the input reads as it did. -/
def placeBoundsSpec : ChangeSpec := { name := "placeBounds", fn := fun _ => fun
  | [d1, d2, d3] => { results := [.lit (.bool true)], args := [d1, d2, d3] }
  | _ => none }
def placeBoundsRow : OpenClaim := { program := "ytflolbnnkbdmfaagreat", sum := "c8fed38323de8cdb52670e6253232996aa3144b9e7eb63e9e2dcd9d6f7e5fab8", func := "collet/colletlaw20.PlaceBounds", spec := "placeBounds", unfollowed := true, recurses := true, named := ["math/bits.overflowError"], plainKeys := false, apart := false }
def PlaceBoundsSaid : Prop := placeBoundsRow.holds Tryz.pinned (OpenSpec.ofChange placeBoundsSpec)

/-- ITS FALSE NEIGHBOUR: 'it returns false'. Refute it at one input. -/
def placeBoundsWrong : ChangeSpec := { name := "placeBounds", fn := fun _ => fun
  | [d1, d2, d3] => { results := [.lit (.bool false)], args := [d1, d2, d3] }
  | _ => none }
def PlaceBoundsWrongFalsely : Prop := placeBoundsRow.holds Tryz.pinned (OpenSpec.ofChange placeBoundsWrong)

/-- 'colletlaw20.PlaceBounded': WHATEVER THE INPUT: true; the input reads as it did. -/
def placeBoundedSpec : ChangeSpec := { name := "placeBounded", fn := fun _ => fun
  | [d1, d2, d3, d4, d5] => { results := [.lit (.bool true)], args := [d1, d2, d3, d4, d5] }
  | _ => none }
def placeBoundedRow : OpenClaim := { program := "ytflolbnnkbdmfaagreat", sum := "c8fed38323de8cdb52670e6253232996aa3144b9e7eb63e9e2dcd9d6f7e5fab8", func := "collet/colletlaw20.PlaceBounded", spec := "placeBounded", unfollowed := true, recurses := true, named := ["math/bits.overflowError"], plainKeys := false, apart := false }
def PlaceBoundedSaid : Prop := placeBoundedRow.holds Tryz.pinned (OpenSpec.ofChange placeBoundedSpec)

/-- ITS FALSE NEIGHBOUR: 'it returns false'. Refute it at one input. -/
def placeBoundedWrong : ChangeSpec := { name := "placeBounded", fn := fun _ => fun
  | [d1, d2, d3, d4, d5] => { results := [.lit (.bool false)], args := [d1, d2, d3, d4, d5] }
  | _ => none }
def PlaceBoundedWrongFalsely : Prop := placeBoundedRow.holds Tryz.pinned (OpenSpec.ofChange placeBoundedWrong)

/-- 'colletlaw20.PlaceNarrows': WHATEVER THE INPUT: true; the input reads as it did. -/
def placeNarrowsSpec : ChangeSpec := { name := "placeNarrows", fn := fun _ => fun
  | [d1, d2, d3, d4, d5] => { results := [.lit (.bool true)], args := [d1, d2, d3, d4, d5] }
  | _ => none }
def placeNarrowsRow : OpenClaim := { program := "ytflolbnnkbdmfaagreat", sum := "c8fed38323de8cdb52670e6253232996aa3144b9e7eb63e9e2dcd9d6f7e5fab8", func := "collet/colletlaw20.PlaceNarrows", spec := "placeNarrows", unfollowed := true, recurses := true, named := ["math/bits.overflowError"], plainKeys := false, apart := false }
def PlaceNarrowsSaid : Prop := placeNarrowsRow.holds Tryz.pinned (OpenSpec.ofChange placeNarrowsSpec)

/-- ITS FALSE NEIGHBOUR: 'it returns false'. Refute it at one input. -/
def placeNarrowsWrong : ChangeSpec := { name := "placeNarrows", fn := fun _ => fun
  | [d1, d2, d3, d4, d5] => { results := [.lit (.bool false)], args := [d1, d2, d3, d4, d5] }
  | _ => none }
def PlaceNarrowsWrongFalsely : Prop := placeNarrowsRow.holds Tryz.pinned (OpenSpec.ofChange placeNarrowsWrong)

/-- 'colletlaw20.PlaceValues': WHATEVER THE INPUT: true; the input reads as it did. -/
def placeValuesSpec : ChangeSpec := { name := "placeValues", fn := fun _ => fun
  | [d1, d2, d3] => { results := [.lit (.bool true)], args := [d1, d2, d3] }
  | _ => none }
def placeValuesRow : OpenClaim := { program := "ytflolbnnkbdmfaagreat", sum := "c8fed38323de8cdb52670e6253232996aa3144b9e7eb63e9e2dcd9d6f7e5fab8", func := "collet/colletlaw20.PlaceValues", spec := "placeValues", unfollowed := true, recurses := true, named := ["math/bits.overflowError"], plainKeys := false, apart := false }
def PlaceValuesSaid : Prop := placeValuesRow.holds Tryz.pinned (OpenSpec.ofChange placeValuesSpec)

/-- ITS FALSE NEIGHBOUR: 'it returns false'. Refute it at one input. -/
def placeValuesWrong : ChangeSpec := { name := "placeValues", fn := fun _ => fun
  | [d1, d2, d3] => { results := [.lit (.bool false)], args := [d1, d2, d3] }
  | _ => none }
def PlaceValuesWrongFalsely : Prop := placeValuesRow.holds Tryz.pinned (OpenSpec.ofChange placeValuesWrong)

/-- 'colletlaw20.PlaceUnique': WHATEVER THE INPUT: true; the input reads as it did. -/
def placeUniqueSpec : ChangeSpec := { name := "placeUnique", fn := fun _ => fun
  | [d] => { results := [.lit (.bool true)], args := [d] }
  | _ => none }
def placeUniqueRow : OpenClaim := { program := "ytflolbnnkbdmfaagreat", sum := "c8fed38323de8cdb52670e6253232996aa3144b9e7eb63e9e2dcd9d6f7e5fab8", func := "collet/colletlaw20.PlaceUnique", spec := "placeUnique", unfollowed := true, recurses := true, named := ["math/bits.overflowError"], plainKeys := false, apart := false }
def PlaceUniqueSaid : Prop := placeUniqueRow.holds Tryz.pinned (OpenSpec.ofChange placeUniqueSpec)

/-- ITS FALSE NEIGHBOUR: 'it returns false'. Refute it at one input. -/
def placeUniqueWrong : ChangeSpec := { name := "placeUnique", fn := fun _ => fun
  | [d] => { results := [.lit (.bool false)], args := [d] }
  | _ => none }
def PlaceUniqueWrongFalsely : Prop := placeUniqueRow.holds Tryz.pinned (OpenSpec.ofChange placeUniqueWrong)

/-- 'colletlaw26.FixtureChecks': WHATEVER THE INPUT: true; the input reads as it did. -/
def fixtureChecksSpec : ChangeSpec := { name := "fixtureChecks", fn := fun _ => fun
  | [d1, d2] => { results := [.lit (.bool true)], args := [d1, d2] }
  | _ => none }
def fixtureChecksRow : OpenClaim := { program := "ytflolbnnkbdmfaagreat", sum := "c8fed38323de8cdb52670e6253232996aa3144b9e7eb63e9e2dcd9d6f7e5fab8", func := "collet/colletlaw26.FixtureChecks", spec := "fixtureChecks", unfollowed := true, recurses := true, named := ["math/bits.overflowError"], plainKeys := false, apart := false }
def FixtureChecksSaid : Prop := fixtureChecksRow.holds Tryz.pinned (OpenSpec.ofChange fixtureChecksSpec)

/-- ITS FALSE NEIGHBOUR: 'it returns false'. Refute it at one input. -/
def fixtureChecksWrong : ChangeSpec := { name := "fixtureChecks", fn := fun _ => fun
  | [d1, d2] => { results := [.lit (.bool false)], args := [d1, d2] }
  | _ => none }
def FixtureChecksWrongFalsely : Prop := fixtureChecksRow.holds Tryz.pinned (OpenSpec.ofChange fixtureChecksWrong)

/-- 'colletlaw26.FixtureWrenches': WHATEVER THE INPUT: true; the input reads as it did. -/
def fixtureWrenchesSpec : ChangeSpec := { name := "fixtureWrenches", fn := fun _ => fun
  | [d1, d2] => { results := [.lit (.bool true)], args := [d1, d2] }
  | _ => none }
def fixtureWrenchesRow : OpenClaim := { program := "ytflolbnnkbdmfaagreat", sum := "c8fed38323de8cdb52670e6253232996aa3144b9e7eb63e9e2dcd9d6f7e5fab8", func := "collet/colletlaw26.FixtureWrenches", spec := "fixtureWrenches", unfollowed := true, recurses := true, named := ["math/bits.overflowError"], plainKeys := false, apart := false }
def FixtureWrenchesSaid : Prop := fixtureWrenchesRow.holds Tryz.pinned (OpenSpec.ofChange fixtureWrenchesSpec)

/-- ITS FALSE NEIGHBOUR: 'it returns false'. Refute it at one input. -/
def fixtureWrenchesWrong : ChangeSpec := { name := "fixtureWrenches", fn := fun _ => fun
  | [d1, d2] => { results := [.lit (.bool false)], args := [d1, d2] }
  | _ => none }
def FixtureWrenchesWrongFalsely : Prop := fixtureWrenchesRow.holds Tryz.pinned (OpenSpec.ofChange fixtureWrenchesWrong)

/-- 'colletlaw26.FixturePushes': WHATEVER THE INPUT: true; the input reads as it did. -/
def fixturePushesSpec : ChangeSpec := { name := "fixturePushes", fn := fun _ => fun
  | [d1, d2, d3, d4] => { results := [.lit (.bool true)], args := [d1, d2, d3, d4] }
  | _ => none }
def fixturePushesRow : OpenClaim := { program := "ytflolbnnkbdmfaagreat", sum := "c8fed38323de8cdb52670e6253232996aa3144b9e7eb63e9e2dcd9d6f7e5fab8", func := "collet/colletlaw26.FixturePushes", spec := "fixturePushes", unfollowed := true, recurses := true, named := ["math/bits.overflowError"], plainKeys := false, apart := false }
def FixturePushesSaid : Prop := fixturePushesRow.holds Tryz.pinned (OpenSpec.ofChange fixturePushesSpec)

/-- ITS FALSE NEIGHBOUR: 'it returns false'. Refute it at one input. -/
def fixturePushesWrong : ChangeSpec := { name := "fixturePushes", fn := fun _ => fun
  | [d1, d2, d3, d4] => { results := [.lit (.bool false)], args := [d1, d2, d3, d4] }
  | _ => none }
def FixturePushesWrongFalsely : Prop := fixturePushesRow.holds Tryz.pinned (OpenSpec.ofChange fixturePushesWrong)

/-- 'colletlaw26.FixtureMoves': WHATEVER THE INPUT: true; the input reads as it did. -/
def fixtureMovesSpec : ChangeSpec := { name := "fixtureMoves", fn := fun _ => fun
  | [d1, d2] => { results := [.lit (.bool true)], args := [d1, d2] }
  | _ => none }
def fixtureMovesRow : OpenClaim := { program := "ytflolbnnkbdmfaagreat", sum := "c8fed38323de8cdb52670e6253232996aa3144b9e7eb63e9e2dcd9d6f7e5fab8", func := "collet/colletlaw26.FixtureMoves", spec := "fixtureMoves", unfollowed := true, recurses := true, named := ["math/bits.overflowError"], plainKeys := false, apart := false }
def FixtureMovesSaid : Prop := fixtureMovesRow.holds Tryz.pinned (OpenSpec.ofChange fixtureMovesSpec)

/-- ITS FALSE NEIGHBOUR: 'it returns false'. Refute it at one input. -/
def fixtureMovesWrong : ChangeSpec := { name := "fixtureMoves", fn := fun _ => fun
  | [d1, d2] => { results := [.lit (.bool false)], args := [d1, d2] }
  | _ => none }
def FixtureMovesWrongFalsely : Prop := fixtureMovesRow.holds Tryz.pinned (OpenSpec.ofChange fixtureMovesWrong)

/-- 'colletlaw26.FixtureForces': WHATEVER THE INPUT: true; the input reads as it did. -/
def fixtureForcesSpec : ChangeSpec := { name := "fixtureForces", fn := fun _ => fun
  | [d1, d2, d3] => { results := [.lit (.bool true)], args := [d1, d2, d3] }
  | _ => none }
def fixtureForcesRow : OpenClaim := { program := "ytflolbnnkbdmfaagreat", sum := "c8fed38323de8cdb52670e6253232996aa3144b9e7eb63e9e2dcd9d6f7e5fab8", func := "collet/colletlaw26.FixtureForces", spec := "fixtureForces", unfollowed := true, recurses := true, named := ["math/bits.overflowError"], plainKeys := false, apart := false }
def FixtureForcesSaid : Prop := fixtureForcesRow.holds Tryz.pinned (OpenSpec.ofChange fixtureForcesSpec)

/-- ITS FALSE NEIGHBOUR: 'it returns false'. Refute it at one input. -/
def fixtureForcesWrong : ChangeSpec := { name := "fixtureForces", fn := fun _ => fun
  | [d1, d2, d3] => { results := [.lit (.bool false)], args := [d1, d2, d3] }
  | _ => none }
def FixtureForcesWrongFalsely : Prop := fixtureForcesRow.holds Tryz.pinned (OpenSpec.ofChange fixtureForcesWrong)

/-- 'colletlaw26.FixtureUnique': WHATEVER THE INPUT: true; the input reads as it did. -/
def fixtureUniqueSpec : ChangeSpec := { name := "fixtureUnique", fn := fun _ => fun
  | [d1, d2, d3, d4] => { results := [.lit (.bool true)], args := [d1, d2, d3, d4] }
  | _ => none }
def fixtureUniqueRow : OpenClaim := { program := "ytflolbnnkbdmfaagreat", sum := "c8fed38323de8cdb52670e6253232996aa3144b9e7eb63e9e2dcd9d6f7e5fab8", func := "collet/colletlaw26.FixtureUnique", spec := "fixtureUnique", unfollowed := true, recurses := true, named := ["math/bits.overflowError"], plainKeys := false, apart := false }
def FixtureUniqueSaid : Prop := fixtureUniqueRow.holds Tryz.pinned (OpenSpec.ofChange fixtureUniqueSpec)

/-- ITS FALSE NEIGHBOUR: 'it returns false'. Refute it at one input. -/
def fixtureUniqueWrong : ChangeSpec := { name := "fixtureUnique", fn := fun _ => fun
  | [d1, d2, d3, d4] => { results := [.lit (.bool false)], args := [d1, d2, d3, d4] }
  | _ => none }
def FixtureUniqueWrongFalsely : Prop := fixtureUniqueRow.holds Tryz.pinned (OpenSpec.ofChange fixtureUniqueWrong)

/- THE SECOND FORM. 'bulk': how many values and letters a reading holds, each counted each time it is reached (what is shared counts as often as it is met; a slice's spare places count too). A statement '..UptoSaid' is the law's where the arguments, and the package variables that the reading takes, are together of bulk at most 1048576: NARROWER than '..Said'. Prove '..Said' where nothing that the law and all that it calls make is longer than what came in: it says more and counts as full. Else prove '..UptoSaid'. A law counts once. -/
mutual
def uptoBulk {H : Type} : DataW H → Nat
  | .lit (.string bytes) => bytes.length + 1
  | .lit _ => 1
  | .nil => 1
  | .ptr d => uptoBulk d + 1
  | .slice elems spare => uptoBulkAll elems + uptoBulkAll spare + 1
  | .agg parts => uptoBulkAll parts + 1
  | .iface _ d => uptoBulk d + 1
  | .map entries => uptoBulkEntries entries + 1
  | .held _ => 1
def uptoBulkAll {H : Type} : List (DataW H) → Nat
  | [] => 0
  | d :: r => uptoBulk d + uptoBulkAll r
def uptoBulkEntries {H : Type} : List (Lit × DataW H) → Nat
  | [] => 0
  | x :: r => uptoBulkEntry x + uptoBulkEntries r
def uptoBulkEntry {H : Type} : Lit × DataW H → Nat
  | (.string bytes, d) => bytes.length + uptoBulk d + 1
  | (_, d) => uptoBulk d + 1
 end
def uptoSmall : (H : Type) → List (DataW H) → Bool := fun _ ds => decide (uptoBulkAll ds ≤ 1048576)
def OpenSpec.upto (s : _root_.Go.ChangeSpec) : _root_.Go.OpenSpec := { _root_.Go.OpenSpec.ofChange s with cond := some uptoSmall }

/-- 'colletlaw20.PlaceChecks', WHERE WHAT IT READS IS OF BULK AT MOST 1048576: true; the input reads as it did. -/
def placeChecksUptoRow : OpenClaim := { program := "ytflolbnnkbdmfaagreat", sum := "c8fed38323de8cdb52670e6253232996aa3144b9e7eb63e9e2dcd9d6f7e5fab8", func := "collet/colletlaw20.PlaceChecks", spec := "placeChecks", unfollowed := true, recurses := true, named := ["math/bits.overflowError"], plainKeys := false, apart := false, narrowed := true }
def PlaceChecksUptoSaid : Prop := placeChecksUptoRow.holds Tryz.pinned (OpenSpec.upto placeChecksSpec)

/-- 'colletlaw20.PlaceMotions', WHERE WHAT IT READS IS OF BULK AT MOST 1048576: true; the input reads as it did. -/
def placeMotionsUptoRow : OpenClaim := { program := "ytflolbnnkbdmfaagreat", sum := "c8fed38323de8cdb52670e6253232996aa3144b9e7eb63e9e2dcd9d6f7e5fab8", func := "collet/colletlaw20.PlaceMotions", spec := "placeMotions", unfollowed := true, recurses := true, named := ["math/bits.overflowError"], plainKeys := false, apart := false, narrowed := true }
def PlaceMotionsUptoSaid : Prop := placeMotionsUptoRow.holds Tryz.pinned (OpenSpec.upto placeMotionsSpec)

/-- 'colletlaw20.PlaceBounds', WHERE WHAT IT READS IS OF BULK AT MOST 1048576: true; the input reads as it did. -/
def placeBoundsUptoRow : OpenClaim := { program := "ytflolbnnkbdmfaagreat", sum := "c8fed38323de8cdb52670e6253232996aa3144b9e7eb63e9e2dcd9d6f7e5fab8", func := "collet/colletlaw20.PlaceBounds", spec := "placeBounds", unfollowed := true, recurses := true, named := ["math/bits.overflowError"], plainKeys := false, apart := false, narrowed := true }
def PlaceBoundsUptoSaid : Prop := placeBoundsUptoRow.holds Tryz.pinned (OpenSpec.upto placeBoundsSpec)

/-- 'colletlaw20.PlaceBounded', WHERE WHAT IT READS IS OF BULK AT MOST 1048576: true; the input reads as it did. -/
def placeBoundedUptoRow : OpenClaim := { program := "ytflolbnnkbdmfaagreat", sum := "c8fed38323de8cdb52670e6253232996aa3144b9e7eb63e9e2dcd9d6f7e5fab8", func := "collet/colletlaw20.PlaceBounded", spec := "placeBounded", unfollowed := true, recurses := true, named := ["math/bits.overflowError"], plainKeys := false, apart := false, narrowed := true }
def PlaceBoundedUptoSaid : Prop := placeBoundedUptoRow.holds Tryz.pinned (OpenSpec.upto placeBoundedSpec)

/-- 'colletlaw20.PlaceNarrows', WHERE WHAT IT READS IS OF BULK AT MOST 1048576: true; the input reads as it did. -/
def placeNarrowsUptoRow : OpenClaim := { program := "ytflolbnnkbdmfaagreat", sum := "c8fed38323de8cdb52670e6253232996aa3144b9e7eb63e9e2dcd9d6f7e5fab8", func := "collet/colletlaw20.PlaceNarrows", spec := "placeNarrows", unfollowed := true, recurses := true, named := ["math/bits.overflowError"], plainKeys := false, apart := false, narrowed := true }
def PlaceNarrowsUptoSaid : Prop := placeNarrowsUptoRow.holds Tryz.pinned (OpenSpec.upto placeNarrowsSpec)

/-- 'colletlaw20.PlaceValues', WHERE WHAT IT READS IS OF BULK AT MOST 1048576: true; the input reads as it did. -/
def placeValuesUptoRow : OpenClaim := { program := "ytflolbnnkbdmfaagreat", sum := "c8fed38323de8cdb52670e6253232996aa3144b9e7eb63e9e2dcd9d6f7e5fab8", func := "collet/colletlaw20.PlaceValues", spec := "placeValues", unfollowed := true, recurses := true, named := ["math/bits.overflowError"], plainKeys := false, apart := false, narrowed := true }
def PlaceValuesUptoSaid : Prop := placeValuesUptoRow.holds Tryz.pinned (OpenSpec.upto placeValuesSpec)

/-- 'colletlaw20.PlaceUnique', WHERE WHAT IT READS IS OF BULK AT MOST 1048576: true; the input reads as it did. -/
def placeUniqueUptoRow : OpenClaim := { program := "ytflolbnnkbdmfaagreat", sum := "c8fed38323de8cdb52670e6253232996aa3144b9e7eb63e9e2dcd9d6f7e5fab8", func := "collet/colletlaw20.PlaceUnique", spec := "placeUnique", unfollowed := true, recurses := true, named := ["math/bits.overflowError"], plainKeys := false, apart := false, narrowed := true }
def PlaceUniqueUptoSaid : Prop := placeUniqueUptoRow.holds Tryz.pinned (OpenSpec.upto placeUniqueSpec)

/-- 'colletlaw26.FixtureChecks', WHERE WHAT IT READS IS OF BULK AT MOST 1048576: true; the input reads as it did. -/
def fixtureChecksUptoRow : OpenClaim := { program := "ytflolbnnkbdmfaagreat", sum := "c8fed38323de8cdb52670e6253232996aa3144b9e7eb63e9e2dcd9d6f7e5fab8", func := "collet/colletlaw26.FixtureChecks", spec := "fixtureChecks", unfollowed := true, recurses := true, named := ["math/bits.overflowError"], plainKeys := false, apart := false, narrowed := true }
def FixtureChecksUptoSaid : Prop := fixtureChecksUptoRow.holds Tryz.pinned (OpenSpec.upto fixtureChecksSpec)

/-- 'colletlaw26.FixtureWrenches', WHERE WHAT IT READS IS OF BULK AT MOST 1048576: true; the input reads as it did. -/
def fixtureWrenchesUptoRow : OpenClaim := { program := "ytflolbnnkbdmfaagreat", sum := "c8fed38323de8cdb52670e6253232996aa3144b9e7eb63e9e2dcd9d6f7e5fab8", func := "collet/colletlaw26.FixtureWrenches", spec := "fixtureWrenches", unfollowed := true, recurses := true, named := ["math/bits.overflowError"], plainKeys := false, apart := false, narrowed := true }
def FixtureWrenchesUptoSaid : Prop := fixtureWrenchesUptoRow.holds Tryz.pinned (OpenSpec.upto fixtureWrenchesSpec)

/-- 'colletlaw26.FixturePushes', WHERE WHAT IT READS IS OF BULK AT MOST 1048576: true; the input reads as it did. -/
def fixturePushesUptoRow : OpenClaim := { program := "ytflolbnnkbdmfaagreat", sum := "c8fed38323de8cdb52670e6253232996aa3144b9e7eb63e9e2dcd9d6f7e5fab8", func := "collet/colletlaw26.FixturePushes", spec := "fixturePushes", unfollowed := true, recurses := true, named := ["math/bits.overflowError"], plainKeys := false, apart := false, narrowed := true }
def FixturePushesUptoSaid : Prop := fixturePushesUptoRow.holds Tryz.pinned (OpenSpec.upto fixturePushesSpec)

/-- 'colletlaw26.FixtureMoves', WHERE WHAT IT READS IS OF BULK AT MOST 1048576: true; the input reads as it did. -/
def fixtureMovesUptoRow : OpenClaim := { program := "ytflolbnnkbdmfaagreat", sum := "c8fed38323de8cdb52670e6253232996aa3144b9e7eb63e9e2dcd9d6f7e5fab8", func := "collet/colletlaw26.FixtureMoves", spec := "fixtureMoves", unfollowed := true, recurses := true, named := ["math/bits.overflowError"], plainKeys := false, apart := false, narrowed := true }
def FixtureMovesUptoSaid : Prop := fixtureMovesUptoRow.holds Tryz.pinned (OpenSpec.upto fixtureMovesSpec)

/-- 'colletlaw26.FixtureForces', WHERE WHAT IT READS IS OF BULK AT MOST 1048576: true; the input reads as it did. -/
def fixtureForcesUptoRow : OpenClaim := { program := "ytflolbnnkbdmfaagreat", sum := "c8fed38323de8cdb52670e6253232996aa3144b9e7eb63e9e2dcd9d6f7e5fab8", func := "collet/colletlaw26.FixtureForces", spec := "fixtureForces", unfollowed := true, recurses := true, named := ["math/bits.overflowError"], plainKeys := false, apart := false, narrowed := true }
def FixtureForcesUptoSaid : Prop := fixtureForcesUptoRow.holds Tryz.pinned (OpenSpec.upto fixtureForcesSpec)

/-- 'colletlaw26.FixtureUnique', WHERE WHAT IT READS IS OF BULK AT MOST 1048576: true; the input reads as it did. -/
def fixtureUniqueUptoRow : OpenClaim := { program := "ytflolbnnkbdmfaagreat", sum := "c8fed38323de8cdb52670e6253232996aa3144b9e7eb63e9e2dcd9d6f7e5fab8", func := "collet/colletlaw26.FixtureUnique", spec := "fixtureUnique", unfollowed := true, recurses := true, named := ["math/bits.overflowError"], plainKeys := false, apart := false, narrowed := true }
def FixtureUniqueUptoSaid : Prop := fixtureUniqueUptoRow.holds Tryz.pinned (OpenSpec.upto fixtureUniqueSpec)

end Rows
end Go.Proofs.YtflolbnnkbdmfaaGreat
