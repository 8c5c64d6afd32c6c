-- Written by wip/xprint.py (the kit's print, run over this seat with some contracts of my own). Not trusted: Lean checks it.
import Derived.Test.YtdifnochnmiagaaPr0
import Derived.Test.YtdifnochnmiagaaManH
namespace Go.Proofs.Ytdifnochnmiagaa.Pr
open Go.RowKit Go.Proofs.YtdifnochnmiagaaW.PrintWords Go.Proofs.YtdifnochnmiagaaW.PrintLast Go.Proofs.YtdifnochnmiagaaW.PrintMore
attribute [local go_sem] max2_int min2_int max_two min_two max_three min_three max_four min_four   -- for this text's walks alone
set_option linter.unusedVariables false
set_option linter.unusedSimpArgs false

/-! ### number_List: function 16 -/
open Classical in
noncomputable def number_List.f (k : Nat) (l0 : List (S36)) : Option ((List (S36))) := if (Man.flat l0).length ≤ 900000000000 then some (Man.flat l0) else none
theorem number_List.mono : ∀ a0 k, LeO (number_List.f k a0) (number_List.f (k + 1) a0) := fun _ _ _ h => h
theorem number_List.calls (k : Nat) (P0_ : Nat → Prop) (A0 : Option Addr) (c0 : Nat) (l0 : List (S36)) (r : List (S36)) (w : World) (hs0 : Kd.V k36 36 w w.heap.size (fun k_ => P0_ k_) (.slice A0 l0.length c0) l0) (h : number_List.f k l0 = some r) :
    Calls Try.prog 16 #[.slice A0 l0.length c0] w fun e w' => ∃ v0_ : Value, e = .returned (v0_) ∧ Kd.N k36 36 w' w.heap.size (fun k_ => (P0_ k_ ∨ w.heap.size ≤ k_)) v0_ r ∧ Below w.heap.size w w' :=
  by
  obtain ⟨A, c, e, hl, hf⟩ := hs0
  cases e
  unfold number_List.f at h
  split at h
  · next hN =>
    cases h
    exact Man.list_any w P0_ l0 A0 c0 hl hf hN
  · cases h

end Go.Proofs.Ytdifnochnmiagaa.Pr
