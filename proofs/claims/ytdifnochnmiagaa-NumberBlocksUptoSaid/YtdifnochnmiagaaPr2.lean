-- Written by wip/xprint.py (the kit's print, run over this seat with some contracts of my own). Not trusted: Lean checks it.
import Derived.Test.YtdifnochnmiagaaPr0
import Derived.Test.YtdifnochnmiagaaManR
namespace Go.Proofs.Ytdifnochnmiagaa.Pr
open Go.RowKit Go.Proofs.YtdifnochnmiagaaW.PrintWords Go.Proofs.YtdifnochnmiagaaW.PrintLast Go.Proofs.YtdifnochnmiagaaW.PrintMore
attribute [local go_sem] max2_int min2_int max_two min_two max_three min_three max_four min_four   -- for this text's walks alone
set_option linter.unusedVariables false
set_option linter.unusedSimpArgs false

/-! ### proteanlaw04_fixed: function 9 -/
open Classical in
noncomputable def proteanlaw04_fixed.f  : Option (Bool) := some true
theorem proteanlaw04_fixed.calls  (r : Bool) (w : World) (h : proteanlaw04_fixed.f  = some r) :
    Calls Try.prog 9 #[] w fun e w' => e = .returned (.bool r) ∧ Below w.heap.size w w' :=
  by
  cases h
  exact Man.fixed_any w

end Go.Proofs.Ytdifnochnmiagaa.Pr
