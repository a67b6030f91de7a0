/-
  No cell of these rows narrows 'for every input' (looked for: loops, veiled, ifaces, maps, wideKeys, modest, calm, conditions, laid).
  DERIVED. THE GIVEN ROWS OF THIS SEAT. 13 by the template 'for every input the law returns true; each argument reads behind the call as it read before'; 0 by the template 'total and deterministic' (their statements: YthijnggeoinlfaaTotals.lean).
  GIVEN WITH THE SEED: the statements are not yours to turn. If you find one false, say at which input.
  Laid BY PROGRAM, IN A SANDBOX (cutbox-rows.mjs): the forced cells as the released guide's own fill.sh prints them over the translation af99940da4a9a741… (all of the seat's roots in one cut). By AI agents, Wed Nov 11 2026. No macro, syntax, notation, axiom, sorry.
-/
import Derived.Test.YthijnggeoinlfaaChecked
import GoSem.Claim
import GoSem.ClaimJoined
import GoSem.ClaimMapViews
import Derived.JoinedTies
import Derived.KernelRfl
namespace Go.Proofs.Ythijnggeoinlfaa
/- THE CELL 'sum', in the pinned program and in every row, IS THE sha256 OF THE DUMP (.gsa) THAT YthijnggeoinlfaaProg.lean LOADS. Nothing in Lean hashes anything: it is a label: what it is worth is what the hold of that sum in a sandbox is worth. -/
noncomputable def Try.pinned : Pinned := { name := "ythijnggeoinlfaa", sum := "af99940da4a9a7419b5e20f89fd46dee420f2026846359f095e9565c3ea4ed44", checked := Try.checked }
namespace Rows
def none {H : Type} : Left H := { results := [], args := [] }

/-- 'colletlaw07.PlaneThrough': WHATEVER THE INPUT: true; the input reads as it did. -/
def planeThroughSpec : ChangeSpec := { name := "planeThrough", fn := fun _ => fun
  | [d1, d2] => { results := [.lit (.bool true)], args := [d1, d2] }
  | _ => none }
def planeThroughRow : OpenClaim := { program := "ythijnggeoinlfaa", sum := "af99940da4a9a7419b5e20f89fd46dee420f2026846359f095e9565c3ea4ed44", func := "collet/colletlaw07.PlaneThrough", spec := "planeThrough", apart := false }
def PlaneThroughSaid : Prop := planeThroughRow.holds Try.pinned (OpenSpec.ofChange planeThroughSpec)

/-- ITS FALSE NEIGHBOUR: 'it returns false'. Refute it at one input. -/
def planeThroughWrong : ChangeSpec := { name := "planeThrough", fn := fun _ => fun
  | [d1, d2] => { results := [.lit (.bool false)], args := [d1, d2] }
  | _ => none }
def PlaneThroughWrongFalsely : Prop := planeThroughRow.holds Try.pinned (OpenSpec.ofChange planeThroughWrong)

/-- 'colletlaw07.PlanePrims': WHATEVER THE INPUT: true; the input reads as it did. -/
def planePrimsSpec : ChangeSpec := { name := "planePrims", fn := fun _ => fun
  | [d1, d2] => { results := [.lit (.bool true)], args := [d1, d2] }
  | _ => none }
def planePrimsRow : OpenClaim := { program := "ythijnggeoinlfaa", sum := "af99940da4a9a7419b5e20f89fd46dee420f2026846359f095e9565c3ea4ed44", func := "collet/colletlaw07.PlanePrims", spec := "planePrims", apart := false }
def PlanePrimsSaid : Prop := planePrimsRow.holds Try.pinned (OpenSpec.ofChange planePrimsSpec)

/-- ITS FALSE NEIGHBOUR: 'it returns false'. Refute it at one input. -/
def planePrimsWrong : ChangeSpec := { name := "planePrims", fn := fun _ => fun
  | [d1, d2] => { results := [.lit (.bool false)], args := [d1, d2] }
  | _ => none }
def PlanePrimsWrongFalsely : Prop := planePrimsRow.holds Try.pinned (OpenSpec.ofChange planePrimsWrong)

/-- 'colletlaw07.PlaneVectors': WHATEVER THE INPUT: true; the input reads as it did. -/
def planeVectorsSpec : ChangeSpec := { name := "planeVectors", fn := fun _ => fun
  | [d1, d2, d3] => { results := [.lit (.bool true)], args := [d1, d2, d3] }
  | _ => none }
def planeVectorsRow : OpenClaim := { program := "ythijnggeoinlfaa", sum := "af99940da4a9a7419b5e20f89fd46dee420f2026846359f095e9565c3ea4ed44", func := "collet/colletlaw07.PlaneVectors", spec := "planeVectors", apart := false }
def PlaneVectorsSaid : Prop := planeVectorsRow.holds Try.pinned (OpenSpec.ofChange planeVectorsSpec)

/-- ITS FALSE NEIGHBOUR: 'it returns false'. Refute it at one input. -/
def planeVectorsWrong : ChangeSpec := { name := "planeVectors", fn := fun _ => fun
  | [d1, d2, d3] => { results := [.lit (.bool false)], args := [d1, d2, d3] }
  | _ => none }
def PlaneVectorsWrongFalsely : Prop := planeVectorsRow.holds Try.pinned (OpenSpec.ofChange planeVectorsWrong)

/-- 'colletlaw07.PlaneForms': WHATEVER THE INPUT: true; the input reads as it did. -/
def planeFormsSpec : ChangeSpec := { name := "planeForms", fn := fun _ => fun
  | [d1, d2, d3, d4, d5] => { results := [.lit (.bool true)], args := [d1, d2, d3, d4, d5] }
  | _ => none }
def planeFormsRow : OpenClaim := { program := "ythijnggeoinlfaa", sum := "af99940da4a9a7419b5e20f89fd46dee420f2026846359f095e9565c3ea4ed44", func := "collet/colletlaw07.PlaneForms", spec := "planeForms", apart := false }
def PlaneFormsSaid : Prop := planeFormsRow.holds Try.pinned (OpenSpec.ofChange planeFormsSpec)

/-- ITS FALSE NEIGHBOUR: 'it returns false'. Refute it at one input. -/
def planeFormsWrong : ChangeSpec := { name := "planeForms", fn := fun _ => fun
  | [d1, d2, d3, d4, d5] => { results := [.lit (.bool false)], args := [d1, d2, d3, d4, d5] }
  | _ => none }
def PlaneFormsWrongFalsely : Prop := planeFormsRow.holds Try.pinned (OpenSpec.ofChange planeFormsWrong)

/-- 'colletlaw07.PlaneTriples': WHATEVER THE INPUT: true; the input reads as it did. -/
def planeTriplesSpec : ChangeSpec := { name := "planeTriples", fn := fun _ => fun
  | [d1, d2, d3] => { results := [.lit (.bool true)], args := [d1, d2, d3] }
  | _ => none }
def planeTriplesRow : OpenClaim := { program := "ythijnggeoinlfaa", sum := "af99940da4a9a7419b5e20f89fd46dee420f2026846359f095e9565c3ea4ed44", func := "collet/colletlaw07.PlaneTriples", spec := "planeTriples", apart := false }
def PlaneTriplesSaid : Prop := planeTriplesRow.holds Try.pinned (OpenSpec.ofChange planeTriplesSpec)

/-- ITS FALSE NEIGHBOUR: 'it returns false'. Refute it at one input. -/
def planeTriplesWrong : ChangeSpec := { name := "planeTriples", fn := fun _ => fun
  | [d1, d2, d3] => { results := [.lit (.bool false)], args := [d1, d2, d3] }
  | _ => none }
def PlaneTriplesWrongFalsely : Prop := planeTriplesRow.holds Try.pinned (OpenSpec.ofChange planeTriplesWrong)

/-- 'colletlaw07.PlaneReaches': WHATEVER THE INPUT: true; the input reads as it did. -/
def planeReachesSpec : ChangeSpec := { name := "planeReaches", fn := fun _ => fun
  | [d1, d2, d3, d4] => { results := [.lit (.bool true)], args := [d1, d2, d3, d4] }
  | _ => none }
def planeReachesRow : OpenClaim := { program := "ythijnggeoinlfaa", sum := "af99940da4a9a7419b5e20f89fd46dee420f2026846359f095e9565c3ea4ed44", func := "collet/colletlaw07.PlaneReaches", spec := "planeReaches", apart := false }
def PlaneReachesSaid : Prop := planeReachesRow.holds Try.pinned (OpenSpec.ofChange planeReachesSpec)

/-- ITS FALSE NEIGHBOUR: 'it returns false'. Refute it at one input. -/
def planeReachesWrong : ChangeSpec := { name := "planeReaches", fn := fun _ => fun
  | [d1, d2, d3, d4] => { results := [.lit (.bool false)], args := [d1, d2, d3, d4] }
  | _ => none }
def PlaneReachesWrongFalsely : Prop := planeReachesRow.holds Try.pinned (OpenSpec.ofChange planeReachesWrong)

/-- 'colletlaw07.PlaneSides': WHATEVER THE INPUT: true; the input reads as it did. -/
def planeSidesSpec : ChangeSpec := { name := "planeSides", fn := fun _ => fun
  | [d1, d2] => { results := [.lit (.bool true)], args := [d1, d2] }
  | _ => none }
def planeSidesRow : OpenClaim := { program := "ythijnggeoinlfaa", sum := "af99940da4a9a7419b5e20f89fd46dee420f2026846359f095e9565c3ea4ed44", func := "collet/colletlaw07.PlaneSides", spec := "planeSides", apart := false }
def PlaneSidesSaid : Prop := planeSidesRow.holds Try.pinned (OpenSpec.ofChange planeSidesSpec)

/-- ITS FALSE NEIGHBOUR: 'it returns false'. Refute it at one input. -/
def planeSidesWrong : ChangeSpec := { name := "planeSides", fn := fun _ => fun
  | [d1, d2] => { results := [.lit (.bool false)], args := [d1, d2] }
  | _ => none }
def PlaneSidesWrongFalsely : Prop := planeSidesRow.holds Try.pinned (OpenSpec.ofChange planeSidesWrong)

/-- 'colletlaw25.ContactForms': WHATEVER THE INPUT: true; the input reads as it did. -/
def contactFormsSpec : ChangeSpec := { name := "contactForms", fn := fun _ => fun
  | [d1, d2, d3, d4, d5] => { results := [.lit (.bool true)], args := [d1, d2, d3, d4, d5] }
  | _ => none }
def contactFormsRow : OpenClaim := { program := "ythijnggeoinlfaa", sum := "af99940da4a9a7419b5e20f89fd46dee420f2026846359f095e9565c3ea4ed44", func := "collet/colletlaw25.ContactForms", spec := "contactForms", unfollowed := true, recurses := true, apart := false }
def ContactFormsSaid : Prop := contactFormsRow.holds Try.pinned (OpenSpec.ofChange contactFormsSpec)

/-- ITS FALSE NEIGHBOUR: 'it returns false'. Refute it at one input. -/
def contactFormsWrong : ChangeSpec := { name := "contactForms", fn := fun _ => fun
  | [d1, d2, d3, d4, d5] => { results := [.lit (.bool false)], args := [d1, d2, d3, d4, d5] }
  | _ => none }
def ContactFormsWrongFalsely : Prop := contactFormsRow.holds Try.pinned (OpenSpec.ofChange contactFormsWrong)

/-- 'colletlaw25.ContactCone': WHATEVER THE INPUT: true; the input reads as it did. -/
def contactConeSpec : ChangeSpec := { name := "contactCone", fn := fun _ => fun
  | [d1, d2] => { results := [.lit (.bool true)], args := [d1, d2] }
  | _ => none }
def contactConeRow : OpenClaim := { program := "ythijnggeoinlfaa", sum := "af99940da4a9a7419b5e20f89fd46dee420f2026846359f095e9565c3ea4ed44", func := "collet/colletlaw25.ContactCone", spec := "contactCone", unfollowed := true, recurses := true, apart := false }
def ContactConeSaid : Prop := contactConeRow.holds Try.pinned (OpenSpec.ofChange contactConeSpec)

/-- ITS FALSE NEIGHBOUR: 'it returns false'. Refute it at one input. -/
def contactConeWrong : ChangeSpec := { name := "contactCone", fn := fun _ => fun
  | [d1, d2] => { results := [.lit (.bool false)], args := [d1, d2] }
  | _ => none }
def ContactConeWrongFalsely : Prop := contactConeRow.holds Try.pinned (OpenSpec.ofChange contactConeWrong)

/-- 'colletlaw25.ContactTurns': WHATEVER THE INPUT: true; the input reads as it did. -/
def contactTurnsSpec : ChangeSpec := { name := "contactTurns", fn := fun _ => fun
  | [d1, d2] => { results := [.lit (.bool true)], args := [d1, d2] }
  | _ => none }
def contactTurnsRow : OpenClaim := { program := "ythijnggeoinlfaa", sum := "af99940da4a9a7419b5e20f89fd46dee420f2026846359f095e9565c3ea4ed44", func := "collet/colletlaw25.ContactTurns", spec := "contactTurns", unfollowed := true, recurses := true, apart := false }
def ContactTurnsSaid : Prop := contactTurnsRow.holds Try.pinned (OpenSpec.ofChange contactTurnsSpec)

/-- ITS FALSE NEIGHBOUR: 'it returns false'. Refute it at one input. -/
def contactTurnsWrong : ChangeSpec := { name := "contactTurns", fn := fun _ => fun
  | [d1, d2] => { results := [.lit (.bool false)], args := [d1, d2] }
  | _ => none }
def ContactTurnsWrongFalsely : Prop := contactTurnsRow.holds Try.pinned (OpenSpec.ofChange contactTurnsWrong)

/-- 'colletlaw25.ContactSplits': WHATEVER THE INPUT: true; the input reads as it did. -/
def contactSplitsSpec : ChangeSpec := { name := "contactSplits", fn := fun _ => fun
  | [d1, d2] => { results := [.lit (.bool true)], args := [d1, d2] }
  | _ => none }
def contactSplitsRow : OpenClaim := { program := "ythijnggeoinlfaa", sum := "af99940da4a9a7419b5e20f89fd46dee420f2026846359f095e9565c3ea4ed44", func := "collet/colletlaw25.ContactSplits", spec := "contactSplits", unfollowed := true, recurses := true, apart := false }
def ContactSplitsSaid : Prop := contactSplitsRow.holds Try.pinned (OpenSpec.ofChange contactSplitsSpec)

/-- ITS FALSE NEIGHBOUR: 'it returns false'. Refute it at one input. -/
def contactSplitsWrong : ChangeSpec := { name := "contactSplits", fn := fun _ => fun
  | [d1, d2] => { results := [.lit (.bool false)], args := [d1, d2] }
  | _ => none }
def ContactSplitsWrongFalsely : Prop := contactSplitsRow.holds Try.pinned (OpenSpec.ofChange contactSplitsWrong)

/-- 'colletlaw25.ContactAdds': WHATEVER THE INPUT: true; the input reads as it did. -/
def contactAddsSpec : ChangeSpec := { name := "contactAdds", fn := fun _ => fun
  | [d1, d2, d3, d4, d5] => { results := [.lit (.bool true)], args := [d1, d2, d3, d4, d5] }
  | _ => none }
def contactAddsRow : OpenClaim := { program := "ythijnggeoinlfaa", sum := "af99940da4a9a7419b5e20f89fd46dee420f2026846359f095e9565c3ea4ed44", func := "collet/colletlaw25.ContactAdds", spec := "contactAdds", unfollowed := true, recurses := true, apart := false }
def ContactAddsSaid : Prop := contactAddsRow.holds Try.pinned (OpenSpec.ofChange contactAddsSpec)

/-- ITS FALSE NEIGHBOUR: 'it returns false'. Refute it at one input. -/
def contactAddsWrong : ChangeSpec := { name := "contactAdds", fn := fun _ => fun
  | [d1, d2, d3, d4, d5] => { results := [.lit (.bool false)], args := [d1, d2, d3, d4, d5] }
  | _ => none }
def ContactAddsWrongFalsely : Prop := contactAddsRow.holds Try.pinned (OpenSpec.ofChange contactAddsWrong)

/-- 'colletlaw25.ContactMoments': WHATEVER THE INPUT: true; the input reads as it did. -/
def contactMomentsSpec : ChangeSpec := { name := "contactMoments", fn := fun _ => fun
  | [d1, d2, d3, d4, d5] => { results := [.lit (.bool true)], args := [d1, d2, d3, d4, d5] }
  | _ => none }
def contactMomentsRow : OpenClaim := { program := "ythijnggeoinlfaa", sum := "af99940da4a9a7419b5e20f89fd46dee420f2026846359f095e9565c3ea4ed44", func := "collet/colletlaw25.ContactMoments", spec := "contactMoments", unfollowed := true, recurses := true, apart := false }
def ContactMomentsSaid : Prop := contactMomentsRow.holds Try.pinned (OpenSpec.ofChange contactMomentsSpec)

/-- ITS FALSE NEIGHBOUR: 'it returns false'. Refute it at one input. -/
def contactMomentsWrong : ChangeSpec := { name := "contactMoments", fn := fun _ => fun
  | [d1, d2, d3, d4, d5] => { results := [.lit (.bool false)], args := [d1, d2, d3, d4, d5] }
  | _ => none }
def ContactMomentsWrongFalsely : Prop := contactMomentsRow.holds Try.pinned (OpenSpec.ofChange contactMomentsWrong)

/- THE SECOND FORM. 'bulk': how many values and letters a reading holds, each counted each time it is reached (what is shared counts as often as it is met; a slice's spare places count too). A statement '..UptoSaid' is the law's where the arguments, and the package variables that the reading takes, are together of bulk at most 1048576: NARROWER than '..Said'. Prove '..Said' where nothing that the law and all that it calls make is longer than what came in: it says more and counts as full. Else prove '..UptoSaid'. A law counts once. -/
mutual
def uptoBulk {H : Type} : DataW H → Nat
  | .lit (.string bytes) => bytes.length + 1
  | .lit _ => 1
  | .nil => 1
  | .ptr d => uptoBulk d + 1
  | .slice elems spare => uptoBulkAll elems + uptoBulkAll spare + 1
  | .agg parts => uptoBulkAll parts + 1
  | .iface _ d => uptoBulk d + 1
  | .map entries => uptoBulkEntries entries + 1
  | .held _ => 1
def uptoBulkAll {H : Type} : List (DataW H) → Nat
  | [] => 0
  | d :: r => uptoBulk d + uptoBulkAll r
def uptoBulkEntries {H : Type} : List (Lit × DataW H) → Nat
  | [] => 0
  | x :: r => uptoBulkEntry x + uptoBulkEntries r
def uptoBulkEntry {H : Type} : Lit × DataW H → Nat
  | (.string bytes, d) => bytes.length + uptoBulk d + 1
  | (_, d) => uptoBulk d + 1
 end
def uptoSmall : (H : Type) → List (DataW H) → Bool := fun _ ds => decide (uptoBulkAll ds ≤ 1048576)
def OpenSpec.upto (s : _root_.Go.ChangeSpec) : _root_.Go.OpenSpec := { _root_.Go.OpenSpec.ofChange s with cond := some uptoSmall }

/-- 'colletlaw07.PlaneThrough', WHERE WHAT IT READS IS OF BULK AT MOST 1048576: true; the input reads as it did. -/
def planeThroughUptoRow : OpenClaim := { program := "ythijnggeoinlfaa", sum := "af99940da4a9a7419b5e20f89fd46dee420f2026846359f095e9565c3ea4ed44", func := "collet/colletlaw07.PlaneThrough", spec := "planeThrough", apart := false, narrowed := true }
def PlaneThroughUptoSaid : Prop := planeThroughUptoRow.holds Try.pinned (OpenSpec.upto planeThroughSpec)

/-- 'colletlaw07.PlanePrims', WHERE WHAT IT READS IS OF BULK AT MOST 1048576: true; the input reads as it did. -/
def planePrimsUptoRow : OpenClaim := { program := "ythijnggeoinlfaa", sum := "af99940da4a9a7419b5e20f89fd46dee420f2026846359f095e9565c3ea4ed44", func := "collet/colletlaw07.PlanePrims", spec := "planePrims", apart := false, narrowed := true }
def PlanePrimsUptoSaid : Prop := planePrimsUptoRow.holds Try.pinned (OpenSpec.upto planePrimsSpec)

/-- 'colletlaw07.PlaneVectors', WHERE WHAT IT READS IS OF BULK AT MOST 1048576: true; the input reads as it did. -/
def planeVectorsUptoRow : OpenClaim := { program := "ythijnggeoinlfaa", sum := "af99940da4a9a7419b5e20f89fd46dee420f2026846359f095e9565c3ea4ed44", func := "collet/colletlaw07.PlaneVectors", spec := "planeVectors", apart := false, narrowed := true }
def PlaneVectorsUptoSaid : Prop := planeVectorsUptoRow.holds Try.pinned (OpenSpec.upto planeVectorsSpec)

/-- 'colletlaw07.PlaneForms', WHERE WHAT IT READS IS OF BULK AT MOST 1048576: true; the input reads as it did. -/
def planeFormsUptoRow : OpenClaim := { program := "ythijnggeoinlfaa", sum := "af99940da4a9a7419b5e20f89fd46dee420f2026846359f095e9565c3ea4ed44", func := "collet/colletlaw07.PlaneForms", spec := "planeForms", apart := false, narrowed := true }
def PlaneFormsUptoSaid : Prop := planeFormsUptoRow.holds Try.pinned (OpenSpec.upto planeFormsSpec)

/-- 'colletlaw07.PlaneTriples', WHERE WHAT IT READS IS OF BULK AT MOST 1048576: true; the input reads as it did. -/
def planeTriplesUptoRow : OpenClaim := { program := "ythijnggeoinlfaa", sum := "af99940da4a9a7419b5e20f89fd46dee420f2026846359f095e9565c3ea4ed44", func := "collet/colletlaw07.PlaneTriples", spec := "planeTriples", apart := false, narrowed := true }
def PlaneTriplesUptoSaid : Prop := planeTriplesUptoRow.holds Try.pinned (OpenSpec.upto planeTriplesSpec)

/-- 'colletlaw07.PlaneReaches', WHERE WHAT IT READS IS OF BULK AT MOST 1048576: true; the input reads as it did. -/
def planeReachesUptoRow : OpenClaim := { program := "ythijnggeoinlfaa", sum := "af99940da4a9a7419b5e20f89fd46dee420f2026846359f095e9565c3ea4ed44", func := "collet/colletlaw07.PlaneReaches", spec := "planeReaches", apart := false, narrowed := true }
def PlaneReachesUptoSaid : Prop := planeReachesUptoRow.holds Try.pinned (OpenSpec.upto planeReachesSpec)

/-- 'colletlaw07.PlaneSides', WHERE WHAT IT READS IS OF BULK AT MOST 1048576: true; the input reads as it did. -/
def planeSidesUptoRow : OpenClaim := { program := "ythijnggeoinlfaa", sum := "af99940da4a9a7419b5e20f89fd46dee420f2026846359f095e9565c3ea4ed44", func := "collet/colletlaw07.PlaneSides", spec := "planeSides", apart := false, narrowed := true }
def PlaneSidesUptoSaid : Prop := planeSidesUptoRow.holds Try.pinned (OpenSpec.upto planeSidesSpec)

/-- 'colletlaw25.ContactForms', WHERE WHAT IT READS IS OF BULK AT MOST 1048576: true; the input reads as it did. -/
def contactFormsUptoRow : OpenClaim := { program := "ythijnggeoinlfaa", sum := "af99940da4a9a7419b5e20f89fd46dee420f2026846359f095e9565c3ea4ed44", func := "collet/colletlaw25.ContactForms", spec := "contactForms", unfollowed := true, recurses := true, apart := false, narrowed := true }
def ContactFormsUptoSaid : Prop := contactFormsUptoRow.holds Try.pinned (OpenSpec.upto contactFormsSpec)

/-- 'colletlaw25.ContactCone', WHERE WHAT IT READS IS OF BULK AT MOST 1048576: true; the input reads as it did. -/
def contactConeUptoRow : OpenClaim := { program := "ythijnggeoinlfaa", sum := "af99940da4a9a7419b5e20f89fd46dee420f2026846359f095e9565c3ea4ed44", func := "collet/colletlaw25.ContactCone", spec := "contactCone", unfollowed := true, recurses := true, apart := false, narrowed := true }
def ContactConeUptoSaid : Prop := contactConeUptoRow.holds Try.pinned (OpenSpec.upto contactConeSpec)

/-- 'colletlaw25.ContactTurns', WHERE WHAT IT READS IS OF BULK AT MOST 1048576: true; the input reads as it did. -/
def contactTurnsUptoRow : OpenClaim := { program := "ythijnggeoinlfaa", sum := "af99940da4a9a7419b5e20f89fd46dee420f2026846359f095e9565c3ea4ed44", func := "collet/colletlaw25.ContactTurns", spec := "contactTurns", unfollowed := true, recurses := true, apart := false, narrowed := true }
def ContactTurnsUptoSaid : Prop := contactTurnsUptoRow.holds Try.pinned (OpenSpec.upto contactTurnsSpec)

/-- 'colletlaw25.ContactSplits', WHERE WHAT IT READS IS OF BULK AT MOST 1048576: true; the input reads as it did. -/
def contactSplitsUptoRow : OpenClaim := { program := "ythijnggeoinlfaa", sum := "af99940da4a9a7419b5e20f89fd46dee420f2026846359f095e9565c3ea4ed44", func := "collet/colletlaw25.ContactSplits", spec := "contactSplits", unfollowed := true, recurses := true, apart := false, narrowed := true }
def ContactSplitsUptoSaid : Prop := contactSplitsUptoRow.holds Try.pinned (OpenSpec.upto contactSplitsSpec)

/-- 'colletlaw25.ContactAdds', WHERE WHAT IT READS IS OF BULK AT MOST 1048576: true; the input reads as it did. -/
def contactAddsUptoRow : OpenClaim := { program := "ythijnggeoinlfaa", sum := "af99940da4a9a7419b5e20f89fd46dee420f2026846359f095e9565c3ea4ed44", func := "collet/colletlaw25.ContactAdds", spec := "contactAdds", unfollowed := true, recurses := true, apart := false, narrowed := true }
def ContactAddsUptoSaid : Prop := contactAddsUptoRow.holds Try.pinned (OpenSpec.upto contactAddsSpec)

/-- 'colletlaw25.ContactMoments', WHERE WHAT IT READS IS OF BULK AT MOST 1048576: true; the input reads as it did. -/
def contactMomentsUptoRow : OpenClaim := { program := "ythijnggeoinlfaa", sum := "af99940da4a9a7419b5e20f89fd46dee420f2026846359f095e9565c3ea4ed44", func := "collet/colletlaw25.ContactMoments", spec := "contactMoments", unfollowed := true, recurses := true, apart := false, narrowed := true }
def ContactMomentsUptoSaid : Prop := contactMomentsUptoRow.holds Try.pinned (OpenSpec.upto contactMomentsSpec)

end Rows
end Go.Proofs.Ythijnggeoinlfaa
