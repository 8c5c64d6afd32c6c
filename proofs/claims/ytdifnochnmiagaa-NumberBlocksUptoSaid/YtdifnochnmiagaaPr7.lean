-- Written by wip/xprint.py (the kit's print, run over this seat with some contracts of my own). Not trusted: Lean checks it.
import Derived.Test.YtdifnochnmiagaaPr0
import Derived.Test.YtdifnochnmiagaaManP
namespace Go.Proofs.Ytdifnochnmiagaa.Pr
open Go.RowKit Go.Proofs.YtdifnochnmiagaaW.PrintWords Go.Proofs.YtdifnochnmiagaaW.PrintLast Go.Proofs.YtdifnochnmiagaaW.PrintMore
attribute [local go_sem] max2_int min2_int max_two min_two max_three min_three max_four min_four   -- for this text's walks alone
set_option linter.unusedVariables false
set_option linter.unusedSimpArgs false

/-! ### proteanref02_Stmts: function 15 -/
open Classical in
noncomputable def proteanref02_Stmts.f (l0 : List (S36)) (l1 : List (S36)) : Option (Bool) := if l0 = l1 ∧ Man.tame l0 then some true else none
theorem proteanref02_Stmts.calls (A0 : Option Addr) (c0 : Nat) (l0 : List (S36)) (A1 : Option Addr) (c1 : Nat) (l1 : List (S36)) (r : Bool) (w : World) (hr0 : Kd.C k36 w A0 l0.length l0) (hc0 : l0.length ≤ c0) (hr1 : Kd.C k36 w A1 l1.length l1) (hc1 : l1.length ≤ c1) (h : proteanref02_Stmts.f l0 l1 = some r) :
    Calls Try.prog 15 #[.slice A0 l0.length c0, .slice A1 l1.length c1] w fun e w' => e = .returned (.bool r) ∧ Below w.heap.size w w' :=
  by
  unfold proteanref02_Stmts.f at h
  split at h
  · next hN =>
    obtain ⟨rfl, hN⟩ := hN
    cases h
    exact Man.same_in _ l0 (Nat.le_refl _) w A0 c0 A1 c1 hc0 hr0 hc1 hr1 hN
  · cases h

end Go.Proofs.Ytdifnochnmiagaa.Pr
