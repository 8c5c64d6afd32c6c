/-
  NARROWER THAN 'FOR EVERY INPUT', by the rows' own cells (each row's printed sentence says how): ResolveTells: loops · ResolveRises: loops · ResolveBehind: loops · ResolveNames: loops · ResolveParams: loops.
  DERIVED. THE GIVEN ROWS OF THIS SEAT. 5 by the template 'for every input the law returns true; each argument reads behind the call as it read before'; 0 by the template 'total and deterministic' (their statements: YtjiacafeckokeaaTotals.lean).
  GIVEN WITH THE SEED: the statements are not yours to turn. If you find one false, say at which input.
  Laid BY PROGRAM, IN A SANDBOX (cutbox-rows.mjs): the forced cells as the released guide's own fill.sh prints them over the translation 4f47aa21de87f7d2… (all of the seat's roots in one cut). By AI agents, Wed Nov 11 2026. No macro, syntax, notation, axiom, sorry.
-/
import Derived.Test.YtjiacafeckokeaaChecked
import GoSem.Claim
import GoSem.ClaimJoined
import GoSem.ClaimMapViews
import Derived.JoinedTies
import Derived.KernelRfl
namespace Go.Proofs.Ytjiacafeckokeaa
/- THE CELL 'sum', in the pinned program and in every row, IS THE sha256 OF THE DUMP (.gsa) THAT YtjiacafeckokeaaProg.lean LOADS. Nothing in Lean hashes anything: it is a label: what it is worth is what the hold of that sum in a sandbox is worth. -/
noncomputable def Try.pinned : Pinned := { name := "ytjiacafeckokeaa", sum := "4f47aa21de87f7d257631b9ddf7e52b73deca4871a4b861c691ac18ef59b30f9", checked := Try.checked }
namespace Rows
def none {H : Type} : Left H := { results := [], args := [] }

/-- 'proteanlaw05.ResolveTells': WHATEVER THE INPUT: true; the input reads as it did. -/
def resolveTellsSpec : ChangeSpec := { name := "resolveTells", fn := fun _ => fun
  | [d1, d2] => { results := [.lit (.bool true)], args := [d1, d2] }
  | _ => none }
def resolveTellsRow : OpenClaim := { program := "ytjiacafeckokeaa", sum := "4f47aa21de87f7d257631b9ddf7e52b73deca4871a4b861c691ac18ef59b30f9", func := "protean/proteanlaw05.ResolveTells", spec := "resolveTells", unfollowed := true, recurses := true, loops := true, apart := false }
def ResolveTellsSaid : Prop := resolveTellsRow.holds Try.pinned (OpenSpec.ofChange resolveTellsSpec)

/-- ITS FALSE NEIGHBOUR: 'it returns false'. Refute it at one input. -/
def resolveTellsWrong : ChangeSpec := { name := "resolveTells", fn := fun _ => fun
  | [d1, d2] => { results := [.lit (.bool false)], args := [d1, d2] }
  | _ => none }
def ResolveTellsWrongFalsely : Prop := resolveTellsRow.holds Try.pinned (OpenSpec.ofChange resolveTellsWrong)

/-- 'proteanlaw05.ResolveRises': WHATEVER THE INPUT: true; the input reads as it did. -/
def resolveRisesSpec : ChangeSpec := { name := "resolveRises", fn := fun _ => fun
  | [d] => { results := [.lit (.bool true)], args := [d] }
  | _ => none }
def resolveRisesRow : OpenClaim := { program := "ytjiacafeckokeaa", sum := "4f47aa21de87f7d257631b9ddf7e52b73deca4871a4b861c691ac18ef59b30f9", func := "protean/proteanlaw05.ResolveRises", spec := "resolveRises", unfollowed := true, recurses := true, loops := true, apart := false }
def ResolveRisesSaid : Prop := resolveRisesRow.holds Try.pinned (OpenSpec.ofChange resolveRisesSpec)

/-- ITS FALSE NEIGHBOUR: 'it returns false'. Refute it at one input. -/
def resolveRisesWrong : ChangeSpec := { name := "resolveRises", fn := fun _ => fun
  | [d] => { results := [.lit (.bool false)], args := [d] }
  | _ => none }
def ResolveRisesWrongFalsely : Prop := resolveRisesRow.holds Try.pinned (OpenSpec.ofChange resolveRisesWrong)

/-- 'proteanlaw05.ResolveBehind': WHATEVER THE INPUT: true; the input reads as it did. -/
def resolveBehindSpec : ChangeSpec := { name := "resolveBehind", fn := fun _ => fun
  | [d1, d2] => { results := [.lit (.bool true)], args := [d1, d2] }
  | _ => none }
def resolveBehindRow : OpenClaim := { program := "ytjiacafeckokeaa", sum := "4f47aa21de87f7d257631b9ddf7e52b73deca4871a4b861c691ac18ef59b30f9", func := "protean/proteanlaw05.ResolveBehind", spec := "resolveBehind", unfollowed := true, recurses := true, loops := true, apart := false }
def ResolveBehindSaid : Prop := resolveBehindRow.holds Try.pinned (OpenSpec.ofChange resolveBehindSpec)

/-- ITS FALSE NEIGHBOUR: 'it returns false'. Refute it at one input. -/
def resolveBehindWrong : ChangeSpec := { name := "resolveBehind", fn := fun _ => fun
  | [d1, d2] => { results := [.lit (.bool false)], args := [d1, d2] }
  | _ => none }
def ResolveBehindWrongFalsely : Prop := resolveBehindRow.holds Try.pinned (OpenSpec.ofChange resolveBehindWrong)

/-- 'proteanlaw05.ResolveNames': WHATEVER THE INPUT: true; the input reads as it did. -/
def resolveNamesSpec : ChangeSpec := { name := "resolveNames", fn := fun _ => fun
  | [d] => { results := [.lit (.bool true)], args := [d] }
  | _ => none }
def resolveNamesRow : OpenClaim := { program := "ytjiacafeckokeaa", sum := "4f47aa21de87f7d257631b9ddf7e52b73deca4871a4b861c691ac18ef59b30f9", func := "protean/proteanlaw05.ResolveNames", spec := "resolveNames", unfollowed := true, recurses := true, loops := true, apart := false }
def ResolveNamesSaid : Prop := resolveNamesRow.holds Try.pinned (OpenSpec.ofChange resolveNamesSpec)

/-- ITS FALSE NEIGHBOUR: 'it returns false'. Refute it at one input. -/
def resolveNamesWrong : ChangeSpec := { name := "resolveNames", fn := fun _ => fun
  | [d] => { results := [.lit (.bool false)], args := [d] }
  | _ => none }
def ResolveNamesWrongFalsely : Prop := resolveNamesRow.holds Try.pinned (OpenSpec.ofChange resolveNamesWrong)

/-- 'proteanlaw05.ResolveParams': WHATEVER THE INPUT: true; the input reads as it did. -/
def resolveParamsSpec : ChangeSpec := { name := "resolveParams", fn := fun _ => fun
  | [d] => { results := [.lit (.bool true)], args := [d] }
  | _ => none }
def resolveParamsRow : OpenClaim := { program := "ytjiacafeckokeaa", sum := "4f47aa21de87f7d257631b9ddf7e52b73deca4871a4b861c691ac18ef59b30f9", func := "protean/proteanlaw05.ResolveParams", spec := "resolveParams", unfollowed := true, recurses := true, loops := true, apart := false }
def ResolveParamsSaid : Prop := resolveParamsRow.holds Try.pinned (OpenSpec.ofChange resolveParamsSpec)

/-- ITS FALSE NEIGHBOUR: 'it returns false'. Refute it at one input. -/
def resolveParamsWrong : ChangeSpec := { name := "resolveParams", fn := fun _ => fun
  | [d] => { results := [.lit (.bool false)], args := [d] }
  | _ => none }
def ResolveParamsWrongFalsely : Prop := resolveParamsRow.holds Try.pinned (OpenSpec.ofChange resolveParamsWrong)

/- THE SECOND FORM. 'bulk': how many values and letters a reading holds, each counted each time it is reached (what is shared counts as often as it is met; a slice's spare places count too). A statement '..UptoSaid' is the law's where the arguments, and the package variables that the reading takes, are together of bulk at most 1048576: NARROWER than '..Said'. Prove '..Said' where nothing that the law and all that it calls make is longer than what came in: it says more and counts as full. Else prove '..UptoSaid'. A law counts once. -/
mutual
def uptoBulk {H : Type} : DataW H → Nat
  | .lit (.string bytes) => bytes.length + 1
  | .lit _ => 1
  | .nil => 1
  | .ptr d => uptoBulk d + 1
  | .slice elems spare => uptoBulkAll elems + uptoBulkAll spare + 1
  | .agg parts => uptoBulkAll parts + 1
  | .iface _ d => uptoBulk d + 1
  | .map entries => uptoBulkEntries entries + 1
  | .held _ => 1
def uptoBulkAll {H : Type} : List (DataW H) → Nat
  | [] => 0
  | d :: r => uptoBulk d + uptoBulkAll r
def uptoBulkEntries {H : Type} : List (Lit × DataW H) → Nat
  | [] => 0
  | x :: r => uptoBulkEntry x + uptoBulkEntries r
def uptoBulkEntry {H : Type} : Lit × DataW H → Nat
  | (.string bytes, d) => bytes.length + uptoBulk d + 1
  | (_, d) => uptoBulk d + 1
 end
def uptoSmall : (H : Type) → List (DataW H) → Bool := fun _ ds => decide (uptoBulkAll ds ≤ 1048576)
def OpenSpec.upto (s : _root_.Go.ChangeSpec) : _root_.Go.OpenSpec := { _root_.Go.OpenSpec.ofChange s with cond := some uptoSmall }

/-- 'proteanlaw05.ResolveTells', WHERE WHAT IT READS IS OF BULK AT MOST 1048576: true; the input reads as it did. -/
def resolveTellsUptoRow : OpenClaim := { program := "ytjiacafeckokeaa", sum := "4f47aa21de87f7d257631b9ddf7e52b73deca4871a4b861c691ac18ef59b30f9", func := "protean/proteanlaw05.ResolveTells", spec := "resolveTells", unfollowed := true, recurses := true, loops := true, apart := false, narrowed := true }
def ResolveTellsUptoSaid : Prop := resolveTellsUptoRow.holds Try.pinned (OpenSpec.upto resolveTellsSpec)

/-- 'proteanlaw05.ResolveRises', WHERE WHAT IT READS IS OF BULK AT MOST 1048576: true; the input reads as it did. -/
def resolveRisesUptoRow : OpenClaim := { program := "ytjiacafeckokeaa", sum := "4f47aa21de87f7d257631b9ddf7e52b73deca4871a4b861c691ac18ef59b30f9", func := "protean/proteanlaw05.ResolveRises", spec := "resolveRises", unfollowed := true, recurses := true, loops := true, apart := false, narrowed := true }
def ResolveRisesUptoSaid : Prop := resolveRisesUptoRow.holds Try.pinned (OpenSpec.upto resolveRisesSpec)

/-- 'proteanlaw05.ResolveBehind', WHERE WHAT IT READS IS OF BULK AT MOST 1048576: true; the input reads as it did. -/
def resolveBehindUptoRow : OpenClaim := { program := "ytjiacafeckokeaa", sum := "4f47aa21de87f7d257631b9ddf7e52b73deca4871a4b861c691ac18ef59b30f9", func := "protean/proteanlaw05.ResolveBehind", spec := "resolveBehind", unfollowed := true, recurses := true, loops := true, apart := false, narrowed := true }
def ResolveBehindUptoSaid : Prop := resolveBehindUptoRow.holds Try.pinned (OpenSpec.upto resolveBehindSpec)

/-- 'proteanlaw05.ResolveNames', WHERE WHAT IT READS IS OF BULK AT MOST 1048576: true; the input reads as it did. -/
def resolveNamesUptoRow : OpenClaim := { program := "ytjiacafeckokeaa", sum := "4f47aa21de87f7d257631b9ddf7e52b73deca4871a4b861c691ac18ef59b30f9", func := "protean/proteanlaw05.ResolveNames", spec := "resolveNames", unfollowed := true, recurses := true, loops := true, apart := false, narrowed := true }
def ResolveNamesUptoSaid : Prop := resolveNamesUptoRow.holds Try.pinned (OpenSpec.upto resolveNamesSpec)

/-- 'proteanlaw05.ResolveParams', WHERE WHAT IT READS IS OF BULK AT MOST 1048576: true; the input reads as it did. -/
def resolveParamsUptoRow : OpenClaim := { program := "ytjiacafeckokeaa", sum := "4f47aa21de87f7d257631b9ddf7e52b73deca4871a4b861c691ac18ef59b30f9", func := "protean/proteanlaw05.ResolveParams", spec := "resolveParams", unfollowed := true, recurses := true, loops := true, apart := false, narrowed := true }
def ResolveParamsUptoSaid : Prop := resolveParamsUptoRow.holds Try.pinned (OpenSpec.upto resolveParamsSpec)

end Rows
end Go.Proofs.Ytjiacafeckokeaa
