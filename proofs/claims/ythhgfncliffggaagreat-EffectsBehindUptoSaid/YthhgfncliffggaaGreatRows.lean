/-
  NARROWER THAN 'FOR EVERY INPUT', by the rows' own cells (each row's printed sentence says how): EffectsTells: loops · EffectsLeast: loops · EffectsKnots: loops · EffectsBehind: loops.
  DERIVED. THE GIVEN ROWS OF THIS SEAT. 4 by the template 'for every input the law returns true; each argument reads behind the call as it read before'; 0 by the template 'total and deterministic' (their statements: YthhgfncliffggaaGreatTotals.lean).
  GIVEN WITH THE SEED: the statements are not yours to turn. If you find one false, say at which input.
  Laid BY PROGRAM, IN A SANDBOX (cutbox-rows.mjs): the forced cells as the released guide's own fill.sh prints them over the translation 2ccedb3b0531657f… (all of the seat's roots in one cut). By AI agents, Wed Nov 11 2026. No macro, syntax, notation, axiom, sorry.
-/
import Derived.Test.YthhgfncliffggaaGreatChecked
import GoSem.Claim
import GoSem.ClaimJoined
import GoSem.ClaimMapViews
import Derived.JoinedTies
import Derived.KernelRfl
namespace Go.Proofs.YthhgfncliffggaaGreat
/- THE CELL 'sum', in the pinned program and in every row, IS THE sha256 OF THE DUMP (.gsa) THAT YthhgfncliffggaaGreatProg.lean LOADS. Nothing in Lean hashes anything: it is a label: what it is worth is what the hold of that sum in a sandbox is worth. -/
noncomputable def Tryz.pinned : Pinned := { name := "ythhgfncliffggaagreat", sum := "2ccedb3b0531657f089d433fb244f6e366147ca156f21edab8d6cc552fb53dc8", checked := Tryz.checked }
namespace Rows
def none {H : Type} : Left H := { results := [], args := [] }

/-- 'proteanlaw14.EffectsTells': WHATEVER THE INPUT: true; the input reads as it did. -/
def effectsTellsSpec : ChangeSpec := { name := "effectsTells", fn := fun _ => fun
  | [d1, d2, d3] => { results := [.lit (.bool true)], args := [d1, d2, d3] }
  | _ => none }
def effectsTellsRow : OpenClaim := { program := "ythhgfncliffggaagreat", sum := "2ccedb3b0531657f089d433fb244f6e366147ca156f21edab8d6cc552fb53dc8", func := "protean/proteanlaw14.EffectsTells", spec := "effectsTells", unfollowed := true, recurses := true, loops := true, apart := false }
def EffectsTellsSaid : Prop := effectsTellsRow.holds Tryz.pinned (OpenSpec.ofChange effectsTellsSpec)

/-- ITS FALSE NEIGHBOUR: 'it returns false'. Refute it at one input. -/
def effectsTellsWrong : ChangeSpec := { name := "effectsTells", fn := fun _ => fun
  | [d1, d2, d3] => { results := [.lit (.bool false)], args := [d1, d2, d3] }
  | _ => none }
def EffectsTellsWrongFalsely : Prop := effectsTellsRow.holds Tryz.pinned (OpenSpec.ofChange effectsTellsWrong)

/-- 'proteanlaw14.EffectsLeast': WHATEVER THE INPUT: true; the input reads as it did. -/
def effectsLeastSpec : ChangeSpec := { name := "effectsLeast", fn := fun _ => fun
  | [d] => { results := [.lit (.bool true)], args := [d] }
  | _ => none }
def effectsLeastRow : OpenClaim := { program := "ythhgfncliffggaagreat", sum := "2ccedb3b0531657f089d433fb244f6e366147ca156f21edab8d6cc552fb53dc8", func := "protean/proteanlaw14.EffectsLeast", spec := "effectsLeast", unfollowed := true, recurses := true, loops := true, apart := false }
def EffectsLeastSaid : Prop := effectsLeastRow.holds Tryz.pinned (OpenSpec.ofChange effectsLeastSpec)

/-- ITS FALSE NEIGHBOUR: 'it returns false'. Refute it at one input. -/
def effectsLeastWrong : ChangeSpec := { name := "effectsLeast", fn := fun _ => fun
  | [d] => { results := [.lit (.bool false)], args := [d] }
  | _ => none }
def EffectsLeastWrongFalsely : Prop := effectsLeastRow.holds Tryz.pinned (OpenSpec.ofChange effectsLeastWrong)

/-- 'proteanlaw14.EffectsKnots': WHATEVER THE INPUT: true; the input reads as it did. -/
def effectsKnotsSpec : ChangeSpec := { name := "effectsKnots", fn := fun _ => fun
  | [d] => { results := [.lit (.bool true)], args := [d] }
  | _ => none }
def effectsKnotsRow : OpenClaim := { program := "ythhgfncliffggaagreat", sum := "2ccedb3b0531657f089d433fb244f6e366147ca156f21edab8d6cc552fb53dc8", func := "protean/proteanlaw14.EffectsKnots", spec := "effectsKnots", unfollowed := true, recurses := true, loops := true, apart := false }
def EffectsKnotsSaid : Prop := effectsKnotsRow.holds Tryz.pinned (OpenSpec.ofChange effectsKnotsSpec)

/-- ITS FALSE NEIGHBOUR: 'it returns false'. Refute it at one input. -/
def effectsKnotsWrong : ChangeSpec := { name := "effectsKnots", fn := fun _ => fun
  | [d] => { results := [.lit (.bool false)], args := [d] }
  | _ => none }
def EffectsKnotsWrongFalsely : Prop := effectsKnotsRow.holds Tryz.pinned (OpenSpec.ofChange effectsKnotsWrong)

/-- 'proteanlaw14.EffectsBehind': WHATEVER THE INPUT: true; the input reads as it did. -/
def effectsBehindSpec : ChangeSpec := { name := "effectsBehind", fn := fun _ => fun
  | [d1, d2] => { results := [.lit (.bool true)], args := [d1, d2] }
  | _ => none }
def effectsBehindRow : OpenClaim := { program := "ythhgfncliffggaagreat", sum := "2ccedb3b0531657f089d433fb244f6e366147ca156f21edab8d6cc552fb53dc8", func := "protean/proteanlaw14.EffectsBehind", spec := "effectsBehind", unfollowed := true, recurses := true, loops := true, apart := false }
def EffectsBehindSaid : Prop := effectsBehindRow.holds Tryz.pinned (OpenSpec.ofChange effectsBehindSpec)

/-- ITS FALSE NEIGHBOUR: 'it returns false'. Refute it at one input. -/
def effectsBehindWrong : ChangeSpec := { name := "effectsBehind", fn := fun _ => fun
  | [d1, d2] => { results := [.lit (.bool false)], args := [d1, d2] }
  | _ => none }
def EffectsBehindWrongFalsely : Prop := effectsBehindRow.holds Tryz.pinned (OpenSpec.ofChange effectsBehindWrong)

/- THE SECOND FORM. 'bulk': how many values and letters a reading holds, each counted each time it is reached (what is shared counts as often as it is met; a slice's spare places count too). A statement '..UptoSaid' is the law's where the arguments, and the package variables that the reading takes, are together of bulk at most 1048576: NARROWER than '..Said'. Prove '..Said' where nothing that the law and all that it calls make is longer than what came in: it says more and counts as full. Else prove '..UptoSaid'. A law counts once. -/
mutual
def uptoBulk {H : Type} : DataW H → Nat
  | .lit (.string bytes) => bytes.length + 1
  | .lit _ => 1
  | .nil => 1
  | .ptr d => uptoBulk d + 1
  | .slice elems spare => uptoBulkAll elems + uptoBulkAll spare + 1
  | .agg parts => uptoBulkAll parts + 1
  | .iface _ d => uptoBulk d + 1
  | .map entries => uptoBulkEntries entries + 1
  | .held _ => 1
def uptoBulkAll {H : Type} : List (DataW H) → Nat
  | [] => 0
  | d :: r => uptoBulk d + uptoBulkAll r
def uptoBulkEntries {H : Type} : List (Lit × DataW H) → Nat
  | [] => 0
  | x :: r => uptoBulkEntry x + uptoBulkEntries r
def uptoBulkEntry {H : Type} : Lit × DataW H → Nat
  | (.string bytes, d) => bytes.length + uptoBulk d + 1
  | (_, d) => uptoBulk d + 1
 end
def uptoSmall : (H : Type) → List (DataW H) → Bool := fun _ ds => decide (uptoBulkAll ds ≤ 1048576)
def OpenSpec.upto (s : _root_.Go.ChangeSpec) : _root_.Go.OpenSpec := { _root_.Go.OpenSpec.ofChange s with cond := some uptoSmall }

/-- 'proteanlaw14.EffectsTells', WHERE WHAT IT READS IS OF BULK AT MOST 1048576: true; the input reads as it did. -/
def effectsTellsUptoRow : OpenClaim := { program := "ythhgfncliffggaagreat", sum := "2ccedb3b0531657f089d433fb244f6e366147ca156f21edab8d6cc552fb53dc8", func := "protean/proteanlaw14.EffectsTells", spec := "effectsTells", unfollowed := true, recurses := true, loops := true, apart := false, narrowed := true }
def EffectsTellsUptoSaid : Prop := effectsTellsUptoRow.holds Tryz.pinned (OpenSpec.upto effectsTellsSpec)

/-- 'proteanlaw14.EffectsLeast', WHERE WHAT IT READS IS OF BULK AT MOST 1048576: true; the input reads as it did. -/
def effectsLeastUptoRow : OpenClaim := { program := "ythhgfncliffggaagreat", sum := "2ccedb3b0531657f089d433fb244f6e366147ca156f21edab8d6cc552fb53dc8", func := "protean/proteanlaw14.EffectsLeast", spec := "effectsLeast", unfollowed := true, recurses := true, loops := true, apart := false, narrowed := true }
def EffectsLeastUptoSaid : Prop := effectsLeastUptoRow.holds Tryz.pinned (OpenSpec.upto effectsLeastSpec)

/-- 'proteanlaw14.EffectsKnots', WHERE WHAT IT READS IS OF BULK AT MOST 1048576: true; the input reads as it did. -/
def effectsKnotsUptoRow : OpenClaim := { program := "ythhgfncliffggaagreat", sum := "2ccedb3b0531657f089d433fb244f6e366147ca156f21edab8d6cc552fb53dc8", func := "protean/proteanlaw14.EffectsKnots", spec := "effectsKnots", unfollowed := true, recurses := true, loops := true, apart := false, narrowed := true }
def EffectsKnotsUptoSaid : Prop := effectsKnotsUptoRow.holds Tryz.pinned (OpenSpec.upto effectsKnotsSpec)

/-- 'proteanlaw14.EffectsBehind', WHERE WHAT IT READS IS OF BULK AT MOST 1048576: true; the input reads as it did. -/
def effectsBehindUptoRow : OpenClaim := { program := "ythhgfncliffggaagreat", sum := "2ccedb3b0531657f089d433fb244f6e366147ca156f21edab8d6cc552fb53dc8", func := "protean/proteanlaw14.EffectsBehind", spec := "effectsBehind", unfollowed := true, recurses := true, loops := true, apart := false, narrowed := true }
def EffectsBehindUptoSaid : Prop := effectsBehindUptoRow.holds Tryz.pinned (OpenSpec.upto effectsBehindSpec)

end Rows
end Go.Proofs.YthhgfncliffggaaGreat
