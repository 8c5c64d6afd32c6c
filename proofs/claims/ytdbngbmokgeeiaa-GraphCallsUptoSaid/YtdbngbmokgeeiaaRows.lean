/-
  NARROWER THAN 'FOR EVERY INPUT', by the rows' own cells (each row's printed sentence says how): GraphCalls: loops · GraphApplies: loops.
  DERIVED. THE GIVEN ROWS OF THIS SEAT. 5 by the template 'for every input the law returns true; each argument reads behind the call as it read before'; 0 by the template 'total and deterministic' (their statements: YtdbngbmokgeeiaaTotals.lean).
  GIVEN WITH THE SEED: the statements are not yours to turn. If you find one false, say at which input.
  Laid BY PROGRAM, IN A SANDBOX (cutbox-rows.mjs): the forced cells as the released guide's own fill.sh prints them over the translation 4bfdc523e867d430… (all of the seat's roots in one cut). By AI agents, Wed Nov 11 2026. No macro, syntax, notation, axiom, sorry.
-/
import Derived.Test.YtdbngbmokgeeiaaChecked
import GoSem.Claim
import GoSem.ClaimJoined
import GoSem.ClaimMapViews
import Derived.JoinedTies
import Derived.KernelRfl
namespace Go.Proofs.Ytdbngbmokgeeiaa
/- THE CELL 'sum', in the pinned program and in every row, IS THE sha256 OF THE DUMP (.gsa) THAT YtdbngbmokgeeiaaProg.lean LOADS. Nothing in Lean hashes anything: it is a label: what it is worth is what the hold of that sum in a sandbox is worth. -/
noncomputable def Try.pinned : Pinned := { name := "ytdbngbmokgeeiaa", sum := "4bfdc523e867d43068a57624d609dcd1f5fc2fb4dda287f1955e430d6edd566a", checked := Try.checked }
namespace Rows
def none {H : Type} : Left H := { results := [], args := [] }

/-- 'proteanlaw12.GraphCalls': WHATEVER THE INPUT: true; the input reads as it did. -/
def graphCallsSpec : ChangeSpec := { name := "graphCalls", fn := fun _ => fun
  | [d] => { results := [.lit (.bool true)], args := [d] }
  | _ => none }
def graphCallsRow : OpenClaim := { program := "ytdbngbmokgeeiaa", sum := "4bfdc523e867d43068a57624d609dcd1f5fc2fb4dda287f1955e430d6edd566a", func := "protean/proteanlaw12.GraphCalls", spec := "graphCalls", unfollowed := true, recurses := true, loops := true, apart := false }
def GraphCallsSaid : Prop := graphCallsRow.holds Try.pinned (OpenSpec.ofChange graphCallsSpec)

/-- ITS FALSE NEIGHBOUR: 'it returns false'. Refute it at one input. -/
def graphCallsWrong : ChangeSpec := { name := "graphCalls", fn := fun _ => fun
  | [d] => { results := [.lit (.bool false)], args := [d] }
  | _ => none }
def GraphCallsWrongFalsely : Prop := graphCallsRow.holds Try.pinned (OpenSpec.ofChange graphCallsWrong)

/-- 'proteanlaw12.GraphTells': WHATEVER THE INPUT: true; the input reads as it did. -/
def graphTellsSpec : ChangeSpec := { name := "graphTells", fn := fun _ => fun
  | [d1, d2] => { results := [.lit (.bool true)], args := [d1, d2] }
  | _ => none }
def graphTellsRow : OpenClaim := { program := "ytdbngbmokgeeiaa", sum := "4bfdc523e867d43068a57624d609dcd1f5fc2fb4dda287f1955e430d6edd566a", func := "protean/proteanlaw12.GraphTells", spec := "graphTells", unfollowed := true, recurses := true, apart := false }
def GraphTellsSaid : Prop := graphTellsRow.holds Try.pinned (OpenSpec.ofChange graphTellsSpec)

/-- ITS FALSE NEIGHBOUR: 'it returns false'. Refute it at one input. -/
def graphTellsWrong : ChangeSpec := { name := "graphTells", fn := fun _ => fun
  | [d1, d2] => { results := [.lit (.bool false)], args := [d1, d2] }
  | _ => none }
def GraphTellsWrongFalsely : Prop := graphTellsRow.holds Try.pinned (OpenSpec.ofChange graphTellsWrong)

/-- 'proteanlaw12.GraphTurned': WHATEVER THE INPUT: true; the input reads as it did. -/
def graphTurnedSpec : ChangeSpec := { name := "graphTurned", fn := fun _ => fun
  | [d1, d2, d3] => { results := [.lit (.bool true)], args := [d1, d2, d3] }
  | _ => none }
def graphTurnedRow : OpenClaim := { program := "ytdbngbmokgeeiaa", sum := "4bfdc523e867d43068a57624d609dcd1f5fc2fb4dda287f1955e430d6edd566a", func := "protean/proteanlaw12.GraphTurned", spec := "graphTurned", unfollowed := true, recurses := true, apart := false }
def GraphTurnedSaid : Prop := graphTurnedRow.holds Try.pinned (OpenSpec.ofChange graphTurnedSpec)

/-- ITS FALSE NEIGHBOUR: 'it returns false'. Refute it at one input. -/
def graphTurnedWrong : ChangeSpec := { name := "graphTurned", fn := fun _ => fun
  | [d1, d2, d3] => { results := [.lit (.bool false)], args := [d1, d2, d3] }
  | _ => none }
def GraphTurnedWrongFalsely : Prop := graphTurnedRow.holds Try.pinned (OpenSpec.ofChange graphTurnedWrong)

/-- 'proteanlaw12.GraphReached': WHATEVER THE INPUT: true; the input reads as it did. -/
def graphReachedSpec : ChangeSpec := { name := "graphReached", fn := fun _ => fun
  | [d1, d2] => { results := [.lit (.bool true)], args := [d1, d2] }
  | _ => none }
def graphReachedRow : OpenClaim := { program := "ytdbngbmokgeeiaa", sum := "4bfdc523e867d43068a57624d609dcd1f5fc2fb4dda287f1955e430d6edd566a", func := "protean/proteanlaw12.GraphReached", spec := "graphReached", unfollowed := true, recurses := true, apart := false }
def GraphReachedSaid : Prop := graphReachedRow.holds Try.pinned (OpenSpec.ofChange graphReachedSpec)

/-- ITS FALSE NEIGHBOUR: 'it returns false'. Refute it at one input. -/
def graphReachedWrong : ChangeSpec := { name := "graphReached", fn := fun _ => fun
  | [d1, d2] => { results := [.lit (.bool false)], args := [d1, d2] }
  | _ => none }
def GraphReachedWrongFalsely : Prop := graphReachedRow.holds Try.pinned (OpenSpec.ofChange graphReachedWrong)

/-- 'proteanlaw12.GraphApplies': WHATEVER THE INPUT: true; the input reads as it did. -/
def graphAppliesSpec : ChangeSpec := { name := "graphApplies", fn := fun _ => fun
  | [d] => { results := [.lit (.bool true)], args := [d] }
  | _ => none }
def graphAppliesRow : OpenClaim := { program := "ytdbngbmokgeeiaa", sum := "4bfdc523e867d43068a57624d609dcd1f5fc2fb4dda287f1955e430d6edd566a", func := "protean/proteanlaw12.GraphApplies", spec := "graphApplies", unfollowed := true, recurses := true, loops := true, apart := false }
def GraphAppliesSaid : Prop := graphAppliesRow.holds Try.pinned (OpenSpec.ofChange graphAppliesSpec)

/-- ITS FALSE NEIGHBOUR: 'it returns false'. Refute it at one input. -/
def graphAppliesWrong : ChangeSpec := { name := "graphApplies", fn := fun _ => fun
  | [d] => { results := [.lit (.bool false)], args := [d] }
  | _ => none }
def GraphAppliesWrongFalsely : Prop := graphAppliesRow.holds Try.pinned (OpenSpec.ofChange graphAppliesWrong)

/- THE SECOND FORM. 'bulk': how many values and letters a reading holds, each counted each time it is reached (what is shared counts as often as it is met; a slice's spare places count too). A statement '..UptoSaid' is the law's where the arguments, and the package variables that the reading takes, are together of bulk at most 1048576: NARROWER than '..Said'. Prove '..Said' where nothing that the law and all that it calls make is longer than what came in: it says more and counts as full. Else prove '..UptoSaid'. A law counts once. -/
mutual
def uptoBulk {H : Type} : DataW H → Nat
  | .lit (.string bytes) => bytes.length + 1
  | .lit _ => 1
  | .nil => 1
  | .ptr d => uptoBulk d + 1
  | .slice elems spare => uptoBulkAll elems + uptoBulkAll spare + 1
  | .agg parts => uptoBulkAll parts + 1
  | .iface _ d => uptoBulk d + 1
  | .map entries => uptoBulkEntries entries + 1
  | .held _ => 1
def uptoBulkAll {H : Type} : List (DataW H) → Nat
  | [] => 0
  | d :: r => uptoBulk d + uptoBulkAll r
def uptoBulkEntries {H : Type} : List (Lit × DataW H) → Nat
  | [] => 0
  | x :: r => uptoBulkEntry x + uptoBulkEntries r
def uptoBulkEntry {H : Type} : Lit × DataW H → Nat
  | (.string bytes, d) => bytes.length + uptoBulk d + 1
  | (_, d) => uptoBulk d + 1
 end
def uptoSmall : (H : Type) → List (DataW H) → Bool := fun _ ds => decide (uptoBulkAll ds ≤ 1048576)
def OpenSpec.upto (s : _root_.Go.ChangeSpec) : _root_.Go.OpenSpec := { _root_.Go.OpenSpec.ofChange s with cond := some uptoSmall }

/-- 'proteanlaw12.GraphCalls', WHERE WHAT IT READS IS OF BULK AT MOST 1048576: true; the input reads as it did. -/
def graphCallsUptoRow : OpenClaim := { program := "ytdbngbmokgeeiaa", sum := "4bfdc523e867d43068a57624d609dcd1f5fc2fb4dda287f1955e430d6edd566a", func := "protean/proteanlaw12.GraphCalls", spec := "graphCalls", unfollowed := true, recurses := true, loops := true, apart := false, narrowed := true }
def GraphCallsUptoSaid : Prop := graphCallsUptoRow.holds Try.pinned (OpenSpec.upto graphCallsSpec)

/-- 'proteanlaw12.GraphTells', WHERE WHAT IT READS IS OF BULK AT MOST 1048576: true; the input reads as it did. -/
def graphTellsUptoRow : OpenClaim := { program := "ytdbngbmokgeeiaa", sum := "4bfdc523e867d43068a57624d609dcd1f5fc2fb4dda287f1955e430d6edd566a", func := "protean/proteanlaw12.GraphTells", spec := "graphTells", unfollowed := true, recurses := true, apart := false, narrowed := true }
def GraphTellsUptoSaid : Prop := graphTellsUptoRow.holds Try.pinned (OpenSpec.upto graphTellsSpec)

/-- 'proteanlaw12.GraphTurned', WHERE WHAT IT READS IS OF BULK AT MOST 1048576: true; the input reads as it did. -/
def graphTurnedUptoRow : OpenClaim := { program := "ytdbngbmokgeeiaa", sum := "4bfdc523e867d43068a57624d609dcd1f5fc2fb4dda287f1955e430d6edd566a", func := "protean/proteanlaw12.GraphTurned", spec := "graphTurned", unfollowed := true, recurses := true, apart := false, narrowed := true }
def GraphTurnedUptoSaid : Prop := graphTurnedUptoRow.holds Try.pinned (OpenSpec.upto graphTurnedSpec)

/-- 'proteanlaw12.GraphReached', WHERE WHAT IT READS IS OF BULK AT MOST 1048576: true; the input reads as it did. -/
def graphReachedUptoRow : OpenClaim := { program := "ytdbngbmokgeeiaa", sum := "4bfdc523e867d43068a57624d609dcd1f5fc2fb4dda287f1955e430d6edd566a", func := "protean/proteanlaw12.GraphReached", spec := "graphReached", unfollowed := true, recurses := true, apart := false, narrowed := true }
def GraphReachedUptoSaid : Prop := graphReachedUptoRow.holds Try.pinned (OpenSpec.upto graphReachedSpec)

/-- 'proteanlaw12.GraphApplies', WHERE WHAT IT READS IS OF BULK AT MOST 1048576: true; the input reads as it did. -/
def graphAppliesUptoRow : OpenClaim := { program := "ytdbngbmokgeeiaa", sum := "4bfdc523e867d43068a57624d609dcd1f5fc2fb4dda287f1955e430d6edd566a", func := "protean/proteanlaw12.GraphApplies", spec := "graphApplies", unfollowed := true, recurses := true, loops := true, apart := false, narrowed := true }
def GraphAppliesUptoSaid : Prop := graphAppliesUptoRow.holds Try.pinned (OpenSpec.upto graphAppliesSpec)

end Rows
end Go.Proofs.Ytdbngbmokgeeiaa
