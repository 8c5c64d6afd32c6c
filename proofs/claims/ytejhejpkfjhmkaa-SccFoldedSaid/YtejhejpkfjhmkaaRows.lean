/-
  No cell of these rows narrows 'for every input' (looked for: loops, veiled, ifaces, maps, wideKeys, modest, calm, conditions, laid).
  DERIVED. THE GIVEN ROWS OF THIS SEAT. 4 by the template 'for every input the law returns true; each argument reads behind the call as it read before'; 0 by the template 'total and deterministic' (their statements: YtejhejpkfjhmkaaTotals.lean).
  GIVEN WITH THE SEED: the statements are not yours to turn. If you find one false, say at which input.
  Laid BY PROGRAM, IN A SANDBOX (cutbox-rows.mjs): the forced cells as the released guide's own fill.sh prints them over the translation 88d22f7f14edfccb… (all of the seat's roots in one cut). By AI agents, Wed Nov 11 2026. No macro, syntax, notation, axiom, sorry.
-/
import Derived.Test.YtejhejpkfjhmkaaChecked
import GoSem.Claim
import GoSem.ClaimJoined
import GoSem.ClaimMapViews
import Derived.JoinedTies
import Derived.KernelRfl
namespace Go.Proofs.Ytejhejpkfjhmkaa
/- THE CELL 'sum', in the pinned program and in every row, IS THE sha256 OF THE DUMP (.gsa) THAT YtejhejpkfjhmkaaProg.lean LOADS. Nothing in Lean hashes anything: it is a label: what it is worth is what the hold of that sum in a sandbox is worth. -/
noncomputable def Try.pinned : Pinned := { name := "ytejhejpkfjhmkaa", sum := "88d22f7f14edfccb07dcff2d36fa76b47ee3f6225fa37b60c9d004903f08ddcb", checked := Try.checked }
namespace Rows
def none {H : Type} : Left H := { results := [], args := [] }

/-- 'proteanlaw13.SccTells': WHATEVER THE INPUT: true; the input reads as it did. -/
def sccTellsSpec : ChangeSpec := { name := "sccTells", fn := fun _ => fun
  | [d] => { results := [.lit (.bool true)], args := [d] }
  | _ => none }
def sccTellsRow : OpenClaim := { program := "ytejhejpkfjhmkaa", sum := "88d22f7f14edfccb07dcff2d36fa76b47ee3f6225fa37b60c9d004903f08ddcb", func := "protean/proteanlaw13.SccTells", spec := "sccTells", unfollowed := true, recurses := true, apart := false }
def SccTellsSaid : Prop := sccTellsRow.holds Try.pinned (OpenSpec.ofChange sccTellsSpec)

/-- ITS FALSE NEIGHBOUR: 'it returns false'. Refute it at one input. -/
def sccTellsWrong : ChangeSpec := { name := "sccTells", fn := fun _ => fun
  | [d] => { results := [.lit (.bool false)], args := [d] }
  | _ => none }
def SccTellsWrongFalsely : Prop := sccTellsRow.holds Try.pinned (OpenSpec.ofChange sccTellsWrong)

/-- 'proteanlaw13.SccKnots': WHATEVER THE INPUT: true; the input reads as it did. -/
def sccKnotsSpec : ChangeSpec := { name := "sccKnots", fn := fun _ => fun
  | [d1, d2, d3] => { results := [.lit (.bool true)], args := [d1, d2, d3] }
  | _ => none }
def sccKnotsRow : OpenClaim := { program := "ytejhejpkfjhmkaa", sum := "88d22f7f14edfccb07dcff2d36fa76b47ee3f6225fa37b60c9d004903f08ddcb", func := "protean/proteanlaw13.SccKnots", spec := "sccKnots", unfollowed := true, recurses := true, apart := false }
def SccKnotsSaid : Prop := sccKnotsRow.holds Try.pinned (OpenSpec.ofChange sccKnotsSpec)

/-- ITS FALSE NEIGHBOUR: 'it returns false'. Refute it at one input. -/
def sccKnotsWrong : ChangeSpec := { name := "sccKnots", fn := fun _ => fun
  | [d1, d2, d3] => { results := [.lit (.bool false)], args := [d1, d2, d3] }
  | _ => none }
def SccKnotsWrongFalsely : Prop := sccKnotsRow.holds Try.pinned (OpenSpec.ofChange sccKnotsWrong)

/-- 'proteanlaw13.SccFolded': WHATEVER THE INPUT: true; the input reads as it did. -/
def sccFoldedSpec : ChangeSpec := { name := "sccFolded", fn := fun _ => fun
  | [d] => { results := [.lit (.bool true)], args := [d] }
  | _ => none }
def sccFoldedRow : OpenClaim := { program := "ytejhejpkfjhmkaa", sum := "88d22f7f14edfccb07dcff2d36fa76b47ee3f6225fa37b60c9d004903f08ddcb", func := "protean/proteanlaw13.SccFolded", spec := "sccFolded", unfollowed := true, recurses := true, apart := false }
def SccFoldedSaid : Prop := sccFoldedRow.holds Try.pinned (OpenSpec.ofChange sccFoldedSpec)

/-- ITS FALSE NEIGHBOUR: 'it returns false'. Refute it at one input. -/
def sccFoldedWrong : ChangeSpec := { name := "sccFolded", fn := fun _ => fun
  | [d] => { results := [.lit (.bool false)], args := [d] }
  | _ => none }
def SccFoldedWrongFalsely : Prop := sccFoldedRow.holds Try.pinned (OpenSpec.ofChange sccFoldedWrong)

/-- 'proteanlaw13.SccRings': WHATEVER THE INPUT: true; the input reads as it did. -/
def sccRingsSpec : ChangeSpec := { name := "sccRings", fn := fun _ => fun
  | [d] => { results := [.lit (.bool true)], args := [d] }
  | _ => none }
def sccRingsRow : OpenClaim := { program := "ytejhejpkfjhmkaa", sum := "88d22f7f14edfccb07dcff2d36fa76b47ee3f6225fa37b60c9d004903f08ddcb", func := "protean/proteanlaw13.SccRings", spec := "sccRings", unfollowed := true, recurses := true, apart := false }
def SccRingsSaid : Prop := sccRingsRow.holds Try.pinned (OpenSpec.ofChange sccRingsSpec)

/-- ITS FALSE NEIGHBOUR: 'it returns false'. Refute it at one input. -/
def sccRingsWrong : ChangeSpec := { name := "sccRings", fn := fun _ => fun
  | [d] => { results := [.lit (.bool false)], args := [d] }
  | _ => none }
def SccRingsWrongFalsely : Prop := sccRingsRow.holds Try.pinned (OpenSpec.ofChange sccRingsWrong)

/- THE SECOND FORM. 'bulk': how many values and letters a reading holds, each counted each time it is reached (what is shared counts as often as it is met; a slice's spare places count too). A statement '..UptoSaid' is the law's where the arguments, and the package variables that the reading takes, are together of bulk at most 1048576: NARROWER than '..Said'. Prove '..Said' where nothing that the law and all that it calls make is longer than what came in: it says more and counts as full. Else prove '..UptoSaid'. A law counts once. -/
mutual
def uptoBulk {H : Type} : DataW H → Nat
  | .lit (.string bytes) => bytes.length + 1
  | .lit _ => 1
  | .nil => 1
  | .ptr d => uptoBulk d + 1
  | .slice elems spare => uptoBulkAll elems + uptoBulkAll spare + 1
  | .agg parts => uptoBulkAll parts + 1
  | .iface _ d => uptoBulk d + 1
  | .map entries => uptoBulkEntries entries + 1
  | .held _ => 1
def uptoBulkAll {H : Type} : List (DataW H) → Nat
  | [] => 0
  | d :: r => uptoBulk d + uptoBulkAll r
def uptoBulkEntries {H : Type} : List (Lit × DataW H) → Nat
  | [] => 0
  | x :: r => uptoBulkEntry x + uptoBulkEntries r
def uptoBulkEntry {H : Type} : Lit × DataW H → Nat
  | (.string bytes, d) => bytes.length + uptoBulk d + 1
  | (_, d) => uptoBulk d + 1
 end
def uptoSmall : (H : Type) → List (DataW H) → Bool := fun _ ds => decide (uptoBulkAll ds ≤ 1048576)
def OpenSpec.upto (s : _root_.Go.ChangeSpec) : _root_.Go.OpenSpec := { _root_.Go.OpenSpec.ofChange s with cond := some uptoSmall }

/-- 'proteanlaw13.SccTells', WHERE WHAT IT READS IS OF BULK AT MOST 1048576: true; the input reads as it did. -/
def sccTellsUptoRow : OpenClaim := { program := "ytejhejpkfjhmkaa", sum := "88d22f7f14edfccb07dcff2d36fa76b47ee3f6225fa37b60c9d004903f08ddcb", func := "protean/proteanlaw13.SccTells", spec := "sccTells", unfollowed := true, recurses := true, apart := false, narrowed := true }
def SccTellsUptoSaid : Prop := sccTellsUptoRow.holds Try.pinned (OpenSpec.upto sccTellsSpec)

/-- 'proteanlaw13.SccKnots', WHERE WHAT IT READS IS OF BULK AT MOST 1048576: true; the input reads as it did. -/
def sccKnotsUptoRow : OpenClaim := { program := "ytejhejpkfjhmkaa", sum := "88d22f7f14edfccb07dcff2d36fa76b47ee3f6225fa37b60c9d004903f08ddcb", func := "protean/proteanlaw13.SccKnots", spec := "sccKnots", unfollowed := true, recurses := true, apart := false, narrowed := true }
def SccKnotsUptoSaid : Prop := sccKnotsUptoRow.holds Try.pinned (OpenSpec.upto sccKnotsSpec)

/-- 'proteanlaw13.SccFolded', WHERE WHAT IT READS IS OF BULK AT MOST 1048576: true; the input reads as it did. -/
def sccFoldedUptoRow : OpenClaim := { program := "ytejhejpkfjhmkaa", sum := "88d22f7f14edfccb07dcff2d36fa76b47ee3f6225fa37b60c9d004903f08ddcb", func := "protean/proteanlaw13.SccFolded", spec := "sccFolded", unfollowed := true, recurses := true, apart := false, narrowed := true }
def SccFoldedUptoSaid : Prop := sccFoldedUptoRow.holds Try.pinned (OpenSpec.upto sccFoldedSpec)

/-- 'proteanlaw13.SccRings', WHERE WHAT IT READS IS OF BULK AT MOST 1048576: true; the input reads as it did. -/
def sccRingsUptoRow : OpenClaim := { program := "ytejhejpkfjhmkaa", sum := "88d22f7f14edfccb07dcff2d36fa76b47ee3f6225fa37b60c9d004903f08ddcb", func := "protean/proteanlaw13.SccRings", spec := "sccRings", unfollowed := true, recurses := true, apart := false, narrowed := true }
def SccRingsUptoSaid : Prop := sccRingsUptoRow.holds Try.pinned (OpenSpec.upto sccRingsSpec)

end Rows
end Go.Proofs.Ytejhejpkfjhmkaa
