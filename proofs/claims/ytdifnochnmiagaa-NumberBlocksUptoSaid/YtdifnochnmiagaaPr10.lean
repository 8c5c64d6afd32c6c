-- Written by wip/xprint.py (the kit's print, run over this seat with some contracts of my own). Not trusted: Lean checks it.
import Derived.Test.YtdifnochnmiagaaPr0
import Derived.Test.YtdifnochnmiagaaManI
namespace Go.Proofs.Ytdifnochnmiagaa.Pr
open Go.RowKit Go.Proofs.YtdifnochnmiagaaW.PrintWords Go.Proofs.YtdifnochnmiagaaW.PrintLast Go.Proofs.YtdifnochnmiagaaW.PrintMore
attribute [local go_sem] max2_int min2_int max_two min_two max_three min_three max_four min_four   -- for this text's walks alone
set_option linter.unusedVariables false
set_option linter.unusedSimpArgs false

/-! ### number_Sites: function 18 -/
open Classical in
noncomputable def number_Sites.f (l0 : List (S36)) : Option (Int) := if (Man.flat l0).length ≤ 900000000000 then some (Man.news (Man.flat l0) : Int) else none
theorem number_Sites.calls (A0 : Option Addr) (c0 : Nat) (l0 : List (S36)) (r : Int) (w : World) (hr0 : Kd.C k36 w A0 l0.length l0) (hc0 : l0.length ≤ c0) (h : number_Sites.f l0 = some r) :
    Calls Try.prog 18 #[.slice A0 l0.length c0] w fun e w' => e = .returned (.int .i64 r) ∧ Below w.heap.size w w' :=
  by
  unfold number_Sites.f at h
  split at h
  · next hN =>
    cases h
    exact Man.sites_any w l0 A0 c0 hc0 hr0 (by omega)
  · cases h

end Go.Proofs.Ytdifnochnmiagaa.Pr
