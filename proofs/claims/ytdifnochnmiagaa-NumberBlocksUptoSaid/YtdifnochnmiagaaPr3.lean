-- Written by wip/xprint.py (the kit's print, run over this seat with some contracts of my own). Not trusted: Lean checks it.
import Derived.Test.YtdifnochnmiagaaPr0
import Derived.Test.YtdifnochnmiagaaManJ
namespace Go.Proofs.Ytdifnochnmiagaa.Pr
open Go.RowKit Go.Proofs.YtdifnochnmiagaaW.PrintWords Go.Proofs.YtdifnochnmiagaaW.PrintLast Go.Proofs.YtdifnochnmiagaaW.PrintMore
attribute [local go_sem] max2_int min2_int max_two min_two max_three min_three max_four min_four   -- for this text's walks alone
set_option linter.unusedVariables false
set_option linter.unusedSimpArgs false

/-! ### number_Site: function 10 -/
open Classical in
noncomputable def number_Site.f (l0 : List (S36)) (a1 : Int) : Option (Int × Bool) := if (Man.flat l0).length ≤ 900000000000 then some (Man.siteOf (Man.flat l0) a1) else none
theorem number_Site.calls (A0 : Option Addr) (c0 : Nat) (l0 : List (S36)) (a1 : Int) (r1 : Int) (r2 : Bool) (w : World) (hr0 : Kd.C k36 w A0 l0.length l0) (hc0 : l0.length ≤ c0) (h : number_Site.f l0 a1 = some (r1, r2)) :
    Calls Try.prog 10 #[.slice A0 l0.length c0, .int .i64 a1] w fun e w' => e = .returned (.tuple #[.int .i64 r1, .bool r2]) ∧ Below w.heap.size w w' :=
  by
  unfold number_Site.f at h
  split at h
  · next hN =>
    have e := Option.some.inj h
    rw [show r1 = (Man.siteOf (Man.flat l0) a1).1 from by rw [e], show r2 = (Man.siteOf (Man.flat l0) a1).2 from by rw [e]]
    exact Man.site_any w l0 A0 c0 a1 hc0 hr0 (by omega)
  · cases h

end Go.Proofs.Ytdifnochnmiagaa.Pr
