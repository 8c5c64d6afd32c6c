/-
  NARROWER THAN 'FOR EVERY INPUT', by the rows' own cells (each row's printed sentence says how): NumberTells: loops · NumberBlocks: loops · NumberSites: loops · NumberParts: loops · NumberNext: loops.
  DERIVED. THE GIVEN ROWS OF THIS SEAT. 5 by the template 'for every input the law returns true; each argument reads behind the call as it read before'; 0 by the template 'total and deterministic' (their statements: YtdifnochnmiagaaTotals.lean).
  GIVEN WITH THE SEED: the statements are not yours to turn. If you find one false, say at which input.
  Laid BY PROGRAM, IN A SANDBOX (cutbox-rows.mjs): the forced cells as the released guide's own fill.sh prints them over the translation ca26d0df4a28063b… (all of the seat's roots in one cut). By AI agents, Wed Nov 11 2026. No macro, syntax, notation, axiom, sorry.
-/
import Derived.Test.YtdifnochnmiagaaChecked
import GoSem.Claim
import GoSem.ClaimJoined
import GoSem.ClaimMapViews
import Derived.JoinedTies
import Derived.KernelRfl
namespace Go.Proofs.Ytdifnochnmiagaa
/- THE CELL 'sum', in the pinned program and in every row, IS THE sha256 OF THE DUMP (.gsa) THAT YtdifnochnmiagaaProg.lean LOADS. Nothing in Lean hashes anything: it is a label: what it is worth is what the hold of that sum in a sandbox is worth. -/
noncomputable def Try.pinned : Pinned := { name := "ytdifnochnmiagaa", sum := "ca26d0df4a28063bfe25a5b5ec1ee2d1014c409ab55320ce68532f718c9a7908", checked := Try.checked }
namespace Rows
def none {H : Type} : Left H := { results := [], args := [] }

/-- 'proteanlaw04.NumberTells': WHATEVER THE INPUT: true; the input reads as it did. -/
def numberTellsSpec : ChangeSpec := { name := "numberTells", fn := fun _ => fun
  | [d1, d2] => { results := [.lit (.bool true)], args := [d1, d2] }
  | _ => none }
def numberTellsRow : OpenClaim := { program := "ytdifnochnmiagaa", sum := "ca26d0df4a28063bfe25a5b5ec1ee2d1014c409ab55320ce68532f718c9a7908", func := "protean/proteanlaw04.NumberTells", spec := "numberTells", unfollowed := true, recurses := true, loops := true, apart := false }
def NumberTellsSaid : Prop := numberTellsRow.holds Try.pinned (OpenSpec.ofChange numberTellsSpec)

/-- ITS FALSE NEIGHBOUR: 'it returns false'. Refute it at one input. -/
def numberTellsWrong : ChangeSpec := { name := "numberTells", fn := fun _ => fun
  | [d1, d2] => { results := [.lit (.bool false)], args := [d1, d2] }
  | _ => none }
def NumberTellsWrongFalsely : Prop := numberTellsRow.holds Try.pinned (OpenSpec.ofChange numberTellsWrong)

/-- 'proteanlaw04.NumberBlocks': WHATEVER THE INPUT: true; the input reads as it did. -/
def numberBlocksSpec : ChangeSpec := { name := "numberBlocks", fn := fun _ => fun
  | [d1, d2] => { results := [.lit (.bool true)], args := [d1, d2] }
  | _ => none }
def numberBlocksRow : OpenClaim := { program := "ytdifnochnmiagaa", sum := "ca26d0df4a28063bfe25a5b5ec1ee2d1014c409ab55320ce68532f718c9a7908", func := "protean/proteanlaw04.NumberBlocks", spec := "numberBlocks", unfollowed := true, recurses := true, loops := true, apart := false }
def NumberBlocksSaid : Prop := numberBlocksRow.holds Try.pinned (OpenSpec.ofChange numberBlocksSpec)

/-- ITS FALSE NEIGHBOUR: 'it returns false'. Refute it at one input. -/
def numberBlocksWrong : ChangeSpec := { name := "numberBlocks", fn := fun _ => fun
  | [d1, d2] => { results := [.lit (.bool false)], args := [d1, d2] }
  | _ => none }
def NumberBlocksWrongFalsely : Prop := numberBlocksRow.holds Try.pinned (OpenSpec.ofChange numberBlocksWrong)

/-- 'proteanlaw04.NumberSites': WHATEVER THE INPUT: true; the input reads as it did. -/
def numberSitesSpec : ChangeSpec := { name := "numberSites", fn := fun _ => fun
  | [d] => { results := [.lit (.bool true)], args := [d] }
  | _ => none }
def numberSitesRow : OpenClaim := { program := "ytdifnochnmiagaa", sum := "ca26d0df4a28063bfe25a5b5ec1ee2d1014c409ab55320ce68532f718c9a7908", func := "protean/proteanlaw04.NumberSites", spec := "numberSites", unfollowed := true, recurses := true, loops := true, apart := false }
def NumberSitesSaid : Prop := numberSitesRow.holds Try.pinned (OpenSpec.ofChange numberSitesSpec)

/-- ITS FALSE NEIGHBOUR: 'it returns false'. Refute it at one input. -/
def numberSitesWrong : ChangeSpec := { name := "numberSites", fn := fun _ => fun
  | [d] => { results := [.lit (.bool false)], args := [d] }
  | _ => none }
def NumberSitesWrongFalsely : Prop := numberSitesRow.holds Try.pinned (OpenSpec.ofChange numberSitesWrong)

/-- 'proteanlaw04.NumberParts': WHATEVER THE INPUT: true; the input reads as it did. -/
def numberPartsSpec : ChangeSpec := { name := "numberParts", fn := fun _ => fun
  | [d1, d2] => { results := [.lit (.bool true)], args := [d1, d2] }
  | _ => none }
def numberPartsRow : OpenClaim := { program := "ytdifnochnmiagaa", sum := "ca26d0df4a28063bfe25a5b5ec1ee2d1014c409ab55320ce68532f718c9a7908", func := "protean/proteanlaw04.NumberParts", spec := "numberParts", unfollowed := true, recurses := true, loops := true, apart := false }
def NumberPartsSaid : Prop := numberPartsRow.holds Try.pinned (OpenSpec.ofChange numberPartsSpec)

/-- ITS FALSE NEIGHBOUR: 'it returns false'. Refute it at one input. -/
def numberPartsWrong : ChangeSpec := { name := "numberParts", fn := fun _ => fun
  | [d1, d2] => { results := [.lit (.bool false)], args := [d1, d2] }
  | _ => none }
def NumberPartsWrongFalsely : Prop := numberPartsRow.holds Try.pinned (OpenSpec.ofChange numberPartsWrong)

/-- 'proteanlaw04.NumberNext': WHATEVER THE INPUT: true; the input reads as it did. -/
def numberNextSpec : ChangeSpec := { name := "numberNext", fn := fun _ => fun
  | [d1, d2] => { results := [.lit (.bool true)], args := [d1, d2] }
  | _ => none }
def numberNextRow : OpenClaim := { program := "ytdifnochnmiagaa", sum := "ca26d0df4a28063bfe25a5b5ec1ee2d1014c409ab55320ce68532f718c9a7908", func := "protean/proteanlaw04.NumberNext", spec := "numberNext", unfollowed := true, recurses := true, loops := true, apart := false }
def NumberNextSaid : Prop := numberNextRow.holds Try.pinned (OpenSpec.ofChange numberNextSpec)

/-- ITS FALSE NEIGHBOUR: 'it returns false'. Refute it at one input. -/
def numberNextWrong : ChangeSpec := { name := "numberNext", fn := fun _ => fun
  | [d1, d2] => { results := [.lit (.bool false)], args := [d1, d2] }
  | _ => none }
def NumberNextWrongFalsely : Prop := numberNextRow.holds Try.pinned (OpenSpec.ofChange numberNextWrong)

/- THE SECOND FORM. 'bulk': how many values and letters a reading holds, each counted each time it is reached (what is shared counts as often as it is met; a slice's spare places count too). A statement '..UptoSaid' is the law's where the arguments, and the package variables that the reading takes, are together of bulk at most 1048576: NARROWER than '..Said'. Prove '..Said' where nothing that the law and all that it calls make is longer than what came in: it says more and counts as full. Else prove '..UptoSaid'. A law counts once. -/
mutual
def uptoBulk {H : Type} : DataW H → Nat
  | .lit (.string bytes) => bytes.length + 1
  | .lit _ => 1
  | .nil => 1
  | .ptr d => uptoBulk d + 1
  | .slice elems spare => uptoBulkAll elems + uptoBulkAll spare + 1
  | .agg parts => uptoBulkAll parts + 1
  | .iface _ d => uptoBulk d + 1
  | .map entries => uptoBulkEntries entries + 1
  | .held _ => 1
def uptoBulkAll {H : Type} : List (DataW H) → Nat
  | [] => 0
  | d :: r => uptoBulk d + uptoBulkAll r
def uptoBulkEntries {H : Type} : List (Lit × DataW H) → Nat
  | [] => 0
  | x :: r => uptoBulkEntry x + uptoBulkEntries r
def uptoBulkEntry {H : Type} : Lit × DataW H → Nat
  | (.string bytes, d) => bytes.length + uptoBulk d + 1
  | (_, d) => uptoBulk d + 1
 end
def uptoSmall : (H : Type) → List (DataW H) → Bool := fun _ ds => decide (uptoBulkAll ds ≤ 1048576)
def OpenSpec.upto (s : _root_.Go.ChangeSpec) : _root_.Go.OpenSpec := { _root_.Go.OpenSpec.ofChange s with cond := some uptoSmall }

/-- 'proteanlaw04.NumberTells', WHERE WHAT IT READS IS OF BULK AT MOST 1048576: true; the input reads as it did. -/
def numberTellsUptoRow : OpenClaim := { program := "ytdifnochnmiagaa", sum := "ca26d0df4a28063bfe25a5b5ec1ee2d1014c409ab55320ce68532f718c9a7908", func := "protean/proteanlaw04.NumberTells", spec := "numberTells", unfollowed := true, recurses := true, loops := true, apart := false, narrowed := true }
def NumberTellsUptoSaid : Prop := numberTellsUptoRow.holds Try.pinned (OpenSpec.upto numberTellsSpec)

/-- 'proteanlaw04.NumberBlocks', WHERE WHAT IT READS IS OF BULK AT MOST 1048576: true; the input reads as it did. -/
def numberBlocksUptoRow : OpenClaim := { program := "ytdifnochnmiagaa", sum := "ca26d0df4a28063bfe25a5b5ec1ee2d1014c409ab55320ce68532f718c9a7908", func := "protean/proteanlaw04.NumberBlocks", spec := "numberBlocks", unfollowed := true, recurses := true, loops := true, apart := false, narrowed := true }
def NumberBlocksUptoSaid : Prop := numberBlocksUptoRow.holds Try.pinned (OpenSpec.upto numberBlocksSpec)

/-- 'proteanlaw04.NumberSites', WHERE WHAT IT READS IS OF BULK AT MOST 1048576: true; the input reads as it did. -/
def numberSitesUptoRow : OpenClaim := { program := "ytdifnochnmiagaa", sum := "ca26d0df4a28063bfe25a5b5ec1ee2d1014c409ab55320ce68532f718c9a7908", func := "protean/proteanlaw04.NumberSites", spec := "numberSites", unfollowed := true, recurses := true, loops := true, apart := false, narrowed := true }
def NumberSitesUptoSaid : Prop := numberSitesUptoRow.holds Try.pinned (OpenSpec.upto numberSitesSpec)

/-- 'proteanlaw04.NumberParts', WHERE WHAT IT READS IS OF BULK AT MOST 1048576: true; the input reads as it did. -/
def numberPartsUptoRow : OpenClaim := { program := "ytdifnochnmiagaa", sum := "ca26d0df4a28063bfe25a5b5ec1ee2d1014c409ab55320ce68532f718c9a7908", func := "protean/proteanlaw04.NumberParts", spec := "numberParts", unfollowed := true, recurses := true, loops := true, apart := false, narrowed := true }
def NumberPartsUptoSaid : Prop := numberPartsUptoRow.holds Try.pinned (OpenSpec.upto numberPartsSpec)

/-- 'proteanlaw04.NumberNext', WHERE WHAT IT READS IS OF BULK AT MOST 1048576: true; the input reads as it did. -/
def numberNextUptoRow : OpenClaim := { program := "ytdifnochnmiagaa", sum := "ca26d0df4a28063bfe25a5b5ec1ee2d1014c409ab55320ce68532f718c9a7908", func := "protean/proteanlaw04.NumberNext", spec := "numberNext", unfollowed := true, recurses := true, loops := true, apart := false, narrowed := true }
def NumberNextUptoSaid : Prop := numberNextUptoRow.holds Try.pinned (OpenSpec.upto numberNextSpec)

end Rows
end Go.Proofs.Ytdifnochnmiagaa
