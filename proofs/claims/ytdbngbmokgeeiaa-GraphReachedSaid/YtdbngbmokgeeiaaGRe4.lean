/- A part of the proof that GraphReached returns true for every argument (the row of GraphReached: theorem graphReached_holds). Parts: Pr6 PuD PuE PuF LawGraphReached. No conditions beyond the given statement's own. -/
import Derived.Test.YtdbngbmokgeeiaaGRe1
import Derived.Test.YtdbngbmokgeeiaaGRe3
import Derived.Test.YtdbngbmokgeeiaaRows
import Derived.WalkKit
import Derived.ProofKit
import Derived.OpenShut
import Derived.ShutString
import Derived.ChangeOld
import Derived.Below
import Derived.SizedLaws

-- Written by wip/xprint.py (the kit's print, run over this seat with some contracts of my own). Not trusted: Lean checks it.
namespace Go.Proofs.Ytdbngbmokgeeiaa.Pr
open Go.RowKit Go.Proofs.YtdbngbmokgeeiaaW.PrintWords Go.Proofs.YtdbngbmokgeeiaaW.PrintLast Go.Proofs.YtdbngbmokgeeiaaW.PrintMore
attribute [local go_sem] max2_int min2_int max_two min_two max_three min_three max_four min_four   -- for this text's walks alone
set_option linter.unusedVariables false
set_option linter.unusedSimpArgs false

/-! ### proteanlaw12_GraphTells: function 4 -/
/-! ### proteanlaw12_GraphTurned: function 5 -/
/-! ### proteanlaw12_GraphReached: function 6 -/
mutual
noncomputable def proteanlaw12_GraphReached.j0 : Nat → List (List Int) → Int → Bool → Option (Bool)
  | 0, _, _, _ => none
  | k + 1, x0, x1, x31 => if x31 = true then ((proteanlaw12_fixed.f).bind fun t329 => (some t329)) else ((graph_Reach.f k x0 x1).bind fun t330 => ((proteanref12_Has.f k t330 x1).bind fun t333 => (if t333 = true then (proteanlaw12_GraphReached.l0 k x0 t330 0) else (some false))))
noncomputable def proteanlaw12_GraphReached.l0 : Nat → List (List Int) → List Int → Int → Option (Bool)
  | 0, _, _, _ => none
  | k + 1, x0, x5, x6 => if x6 < (x5.length : Int) then (if 0 ≤ x6 then (if (rd x5 x6) < 0 then (proteanlaw12_GraphReached.j2 k x0 x5 x6 true) else (if (rd x5 x6) ≥ (x0.length : Int) then (proteanlaw12_GraphReached.j2 k x0 x5 x6 true) else (if x6 > 0 then (if 0 ≤ (wrap64 (x6 - 1)) then (if (wrap64 (x6 - 1)) < (x5.length : Int) then (proteanlaw12_GraphReached.j2 k x0 x5 x6 (decide ((rd x5 (wrap64 (x6 - 1))) ≥ (rd x5 x6)))) else (none)) else (none)) else (proteanlaw12_GraphReached.j2 k x0 x5 x6 false)))) else (none)) else (some true)
noncomputable def proteanlaw12_GraphReached.j2 : Nat → List (List Int) → List Int → Int → Bool → Option (Bool)
  | 0, _, _, _, _ => none
  | k + 1, x0, x5, x6, x75 => if x75 = true then (some false) else (if 0 ≤ x6 then (if x6 < (x5.length : Int) then ((graph_Reach.f k x0 (rd x5 x6)).bind fun t339 => (proteanlaw12_GraphReached.l1 k x0 x5 x6 t339 0)) else (none)) else (none))
noncomputable def proteanlaw12_GraphReached.l1 : Nat → List (List Int) → List Int → Int → List Int → Int → Option (Bool)
  | 0, _, _, _, _, _ => none
  | k + 1, x0, x5, x6, x7, x8 => if x8 < (x7.length : Int) then (if 0 ≤ x8 then ((proteanref12_Has.f k x5 (rd x7 x8)).bind fun t343 => (if t343 = true then (proteanlaw12_GraphReached.l1 k x0 x5 x6 x7 (wrap64 (x8 + 1))) else (some false))) else (none)) else (proteanlaw12_GraphReached.l2 k x0 x5 x6 0)
noncomputable def proteanlaw12_GraphReached.l2 : Nat → List (List Int) → List Int → Int → Int → Option (Bool)
  | 0, _, _, _, _ => none
  | k + 1, x0, x5, x6, x9 => if 0 ≤ x6 then (if x6 < (x5.length : Int) then (if 0 ≤ (rd x5 x6) then (if (rd x5 x6) < (x0.length : Int) then (if x9 < ((rd_L9 x0 (rd x5 x6)).length : Int) then (if 0 ≤ x9 then ((proteanref12_Has.f k x5 (rd (rd_L9 x0 (rd x5 x6)) x9)).bind fun t349 => (if t349 = true then (proteanlaw12_GraphReached.l2 k x0 x5 x6 (wrap64 (x9 + 1))) else (some false))) else (none)) else (proteanlaw12_GraphReached.l0 k x0 x5 (wrap64 (x6 + 1)))) else (none)) else (none)) else (none)) else (none)
end
noncomputable def proteanlaw12_GraphReached.f (k : Nat) (l0 : List (List Int)) (a1 : Int) : Option (Bool) := (proteanlaw12_fixed.f).bind fun t326 => (if t326 = true then ((proteanlaw12_small.f k l0).bind fun t327 => (if t327 = true then ((graph_May.f k l0).bind fun t328 => (if t328 = true then (if a1 < 0 then (proteanlaw12_GraphReached.j0 k l0 a1 true) else (proteanlaw12_GraphReached.j0 k l0 a1 (decide (a1 ≥ (l0.length : Int))))) else (proteanlaw12_GraphReached.j0 k l0 a1 true))) else (proteanlaw12_GraphReached.j0 k l0 a1 true))) else (proteanlaw12_GraphReached.j0 k l0 a1 true))
set_option maxHeartbeats 8000000 in
set_option maxRecDepth 100000 in
theorem proteanlaw12_GraphReached.calls (k : Nat) (A0 : Option Addr) (c0 : Nat) (l0 : List (List Int)) (a1 : Int) (r : Bool) (w : World) (hr0 : Kd.C (Kd.slice 3 (Kd.int .i64)) w A0 l0.length l0) (hc0 : l0.length ≤ c0) (h : proteanlaw12_GraphReached.f k l0 a1 = some r) :
    Calls Try.prog 6 #[.slice A0 l0.length c0, .int .i64 a1] w fun e w' => e = .returned (.bool r) ∧ Below w.heap.size w w' := by
 have HR0 := Aside0.mk hr0
 have HC0 := Aside0.mk hc0
 clear hr0 hc0
 have HB := Aside0.mk (Below.refl w.heap.size w)
 have H : ((proteanlaw12_fixed.f).bind fun t326 => (if t326 = true then ((proteanlaw12_small.f k l0).bind fun t327 => (if t327 = true then ((graph_May.f k l0).bind fun t328 => (if t328 = true then (if a1 < 0 then (proteanlaw12_GraphReached.j0 k l0 a1 true) else (proteanlaw12_GraphReached.j0 k l0 a1 (decide (a1 ≥ (l0.length : Int))))) else (proteanlaw12_GraphReached.j0 k l0 a1 true))) else (proteanlaw12_GraphReached.j0 k l0 a1 true))) else (proteanlaw12_GraphReached.j0 k l0 a1 true))) = some r := h
 clear h
 have HC3 := Aside0.mk H
 clear H
 go_enter Try.func6, Try.ntmps6
 go_upto_region 1 with (fail)
 repeat (go_quiet (fail); go_upto_region 1 with (fail))
 go_cut [31] (fun v31 wc => ∃ (kq : Nat) (x31_2 : Bool), v31 = .bool x31_2 ∧ Aside0 (proteanlaw12_GraphReached.j0 kq l0 a1 x31_2 = some r) ∧ Aside0 (kq ≤ k) ∧ Aside0 (Below w.heap.size w wc))
 case first =>
  have H := HC3.out
  clear HC3
  replace H := Option.bind_eq_some_iff.mp H
  obtain ⟨t326, A40, H⟩ := H
  replace H : (if t326 = true then ((proteanlaw12_small.f k l0).bind fun t327 => (if t327 = true then ((graph_May.f k l0).bind fun t328 => (if t328 = true then (if a1 < 0 then (proteanlaw12_GraphReached.j0 k l0 a1 true) else (proteanlaw12_GraphReached.j0 k l0 a1 (decide (a1 ≥ (l0.length : Int))))) else (proteanlaw12_GraphReached.j0 k l0 a1 true))) else (proteanlaw12_GraphReached.j0 k l0 a1 true))) else (proteanlaw12_GraphReached.j0 k l0 a1 true)) = some r := H
  have A4 := Aside0.mk A40
  clear A40
  by_cases c5 : t326 = true
  ·subst c5
   have H1 : ((proteanlaw12_small.f k l0).bind fun t327 => (if t327 = true then ((graph_May.f k l0).bind fun t328 => (if t328 = true then (if a1 < 0 then (proteanlaw12_GraphReached.j0 k l0 a1 true) else (proteanlaw12_GraphReached.j0 k l0 a1 (decide (a1 ≥ (l0.length : Int))))) else (proteanlaw12_GraphReached.j0 k l0 a1 true))) else (proteanlaw12_GraphReached.j0 k l0 a1 true))) = some r := by rw [if_pos rfl] at H; exact H
   clear H
   have H := H1
   clear H1
   replace H := Option.bind_eq_some_iff.mp H
   obtain ⟨t327, A60, H⟩ := H
   replace H : (if t327 = true then ((graph_May.f k l0).bind fun t328 => (if t328 = true then (if a1 < 0 then (proteanlaw12_GraphReached.j0 k l0 a1 true) else (proteanlaw12_GraphReached.j0 k l0 a1 (decide (a1 ≥ (l0.length : Int))))) else (proteanlaw12_GraphReached.j0 k l0 a1 true))) else (proteanlaw12_GraphReached.j0 k l0 a1 true)) = some r := H
   have A6 := Aside0.mk A60
   clear A60
   by_cases c7 : t327 = true
   ·subst c7
    have H1 : ((graph_May.f k l0).bind fun t328 => (if t328 = true then (if a1 < 0 then (proteanlaw12_GraphReached.j0 k l0 a1 true) else (proteanlaw12_GraphReached.j0 k l0 a1 (decide (a1 ≥ (l0.length : Int))))) else (proteanlaw12_GraphReached.j0 k l0 a1 true))) = some r := by rw [if_pos rfl] at H; exact H
    clear H
    have H := H1
    clear H1
    replace H := Option.bind_eq_some_iff.mp H
    obtain ⟨t328, A80, H⟩ := H
    replace H : (if t328 = true then (if a1 < 0 then (proteanlaw12_GraphReached.j0 k l0 a1 true) else (proteanlaw12_GraphReached.j0 k l0 a1 (decide (a1 ≥ (l0.length : Int))))) else (proteanlaw12_GraphReached.j0 k l0 a1 true)) = some r := H
    have A8 := Aside0.mk A80
    clear A80
    by_cases c9 : t328 = true
    ·subst c9
     have H1 : (if a1 < 0 then (proteanlaw12_GraphReached.j0 k l0 a1 true) else (proteanlaw12_GraphReached.j0 k l0 a1 (decide (a1 ≥ (l0.length : Int))))) = some r := by rw [if_pos rfl] at H; exact H
     clear H
     have H := H1
     clear H1
     by_cases c10 : a1 < 0
     ·rw [if_pos c10] at H
      have c10b0 : decide (a1 < 0) = true := decide_eq_true c10
      clear c10
      (first | rw [c10b0] | (simp only [i64_w, i32_w]; rw [c10b0]) | skip)
      have H' := Aside0.mk H
      clear H
      go_wp2_with (first | (go_at_call 9; (with_reducible refine (proteanlaw12_fixed.calls  true _ A4.out).mono ?_); rintro e w11 ⟨rfl, hb⟩; have n0_ := Aside0.mk (below_step (by repeat (first | (with_reducible first | exact HB.out | apply below_alloc | apply pw_below_drewN | apply below_drew1) | exact HB.out)) hb); clear HB; have HB := n0_; clear n0_; (try clear hb); (try clear hb2); (try clear hk); (try clear hi)) | (go_at_call 14; (with_reducible refine (proteanlaw12_small.calls k _ _ l0 true _ ?side1 ?side2 A6.out).mono ?_); (case side1 => repeat (first | exact (Kd.C_below HR0.out HB.out) | (with_reducible refine Kd.C_alloc ?_ _) | (with_reducible refine Kd.C_drewN ?_ _) | (with_reducible refine Kd.C_drew ?_))); (case side2 => exact HC0.out); rintro e w' ⟨rfl, ⟨nd, rfl⟩⟩; (try first | exact ⟨rfl, _, World.drewN_drewN _ _ _⟩ | exact ⟨rfl, _, Eq.trans (World.drewN_drewN _ _ _) (congrArg (World.drewN _) (Nat.add_assoc _ _ _))⟩)) | (go_at_call 13; (with_reducible refine (graph_May.calls k _ _ l0 true _ ?side1 ?side2 A8.out).mono ?_); (case side1 => repeat (first | exact (Kd.C_below HR0.out (by repeat (first | (with_reducible first | exact HB.out | apply below_alloc | apply pw_below_drewN | apply below_drew1) | exact HB.out))) | (with_reducible refine Kd.C_alloc ?_ _) | (with_reducible refine Kd.C_drewN ?_ _) | (with_reducible refine Kd.C_drew ?_))); (case side2 => exact HC0.out); rintro e w' ⟨rfl, ⟨nd, rfl⟩⟩; (try first | exact ⟨rfl, _, World.drewN_drewN _ _ _⟩ | exact ⟨rfl, _, Eq.trans (World.drewN_drewN _ _ _) (congrArg (World.drewN _) (Nat.add_assoc _ _ _))⟩)))
      repeat (go_quiet (first | (go_at_call 9; (with_reducible refine (proteanlaw12_fixed.calls  true _ A4.out).mono ?_); rintro e w11 ⟨rfl, hb⟩; have n0_ := Aside0.mk (below_step (by repeat (first | (with_reducible first | exact HB.out | apply below_alloc | apply pw_below_drewN | apply below_drew1) | exact HB.out)) hb); clear HB; have HB := n0_; clear n0_; (try clear hb); (try clear hb2); (try clear hk); (try clear hi)) | (go_at_call 14; (with_reducible refine (proteanlaw12_small.calls k _ _ l0 true _ ?side1 ?side2 A6.out).mono ?_); (case side1 => repeat (first | exact (Kd.C_below HR0.out HB.out) | (with_reducible refine Kd.C_alloc ?_ _) | (with_reducible refine Kd.C_drewN ?_ _) | (with_reducible refine Kd.C_drew ?_))); (case side2 => exact HC0.out); rintro e w' ⟨rfl, ⟨nd, rfl⟩⟩; (try first | exact ⟨rfl, _, World.drewN_drewN _ _ _⟩ | exact ⟨rfl, _, Eq.trans (World.drewN_drewN _ _ _) (congrArg (World.drewN _) (Nat.add_assoc _ _ _))⟩)) | (go_at_call 13; (with_reducible refine (graph_May.calls k _ _ l0 true _ ?side1 ?side2 A8.out).mono ?_); (case side1 => repeat (first | exact (Kd.C_below HR0.out (by repeat (first | (with_reducible first | exact HB.out | apply below_alloc | apply pw_below_drewN | apply below_drew1) | exact HB.out))) | (with_reducible refine Kd.C_alloc ?_ _) | (with_reducible refine Kd.C_drewN ?_ _) | (with_reducible refine Kd.C_drew ?_))); (case side2 => exact HC0.out); rintro e w' ⟨rfl, ⟨nd, rfl⟩⟩; (try first | exact ⟨rfl, _, World.drewN_drewN _ _ _⟩ | exact ⟨rfl, _, Eq.trans (World.drewN_drewN _ _ _) (congrArg (World.drewN _) (Nat.add_assoc _ _ _))⟩))); try go_wp2_with (first | (go_at_call 9; (with_reducible refine (proteanlaw12_fixed.calls  true _ A4.out).mono ?_); rintro e w11 ⟨rfl, hb⟩; have n0_ := Aside0.mk (below_step (by repeat (first | (with_reducible first | exact HB.out | apply below_alloc | apply pw_below_drewN | apply below_drew1) | exact HB.out)) hb); clear HB; have HB := n0_; clear n0_; (try clear hb); (try clear hb2); (try clear hk); (try clear hi)) | (go_at_call 14; (with_reducible refine (proteanlaw12_small.calls k _ _ l0 true _ ?side1 ?side2 A6.out).mono ?_); (case side1 => repeat (first | exact (Kd.C_below HR0.out HB.out) | (with_reducible refine Kd.C_alloc ?_ _) | (with_reducible refine Kd.C_drewN ?_ _) | (with_reducible refine Kd.C_drew ?_))); (case side2 => exact HC0.out); rintro e w' ⟨rfl, ⟨nd, rfl⟩⟩; (try first | exact ⟨rfl, _, World.drewN_drewN _ _ _⟩ | exact ⟨rfl, _, Eq.trans (World.drewN_drewN _ _ _) (congrArg (World.drewN _) (Nat.add_assoc _ _ _))⟩)) | (go_at_call 13; (with_reducible refine (graph_May.calls k _ _ l0 true _ ?side1 ?side2 A8.out).mono ?_); (case side1 => repeat (first | exact (Kd.C_below HR0.out (by repeat (first | (with_reducible first | exact HB.out | apply below_alloc | apply pw_below_drewN | apply below_drew1) | exact HB.out))) | (with_reducible refine Kd.C_alloc ?_ _) | (with_reducible refine Kd.C_drewN ?_ _) | (with_reducible refine Kd.C_drew ?_))); (case side2 => exact HC0.out); rintro e w' ⟨rfl, ⟨nd, rfl⟩⟩; (try first | exact ⟨rfl, _, World.drewN_drewN _ _ _⟩ | exact ⟨rfl, _, Eq.trans (World.drewN_drewN _ _ _) (congrArg (World.drewN _) (Nat.add_assoc _ _ _))⟩))))
      go_meet
      case rel => exact ⟨_, (true), (by first | rfl | (simp; done) | (simp [*]; done)), H', ⟨by first | omega | exact Nat.le_refl _⟩, ⟨by repeat (first | (with_reducible first | exact HB.out | apply below_alloc | apply pw_below_drewN | apply below_drew1) | exact HB.out)⟩⟩
     ·rw [if_neg c10] at H
      have c10b0 : decide (a1 < 0) = false := decide_eq_false c10
      clear c10
      (first | rw [c10b0] | (simp only [i64_w, i32_w]; rw [c10b0]) | skip)
      have H' := Aside0.mk H
      clear H
      go_wp2_with (first | (go_at_call 9; (with_reducible refine (proteanlaw12_fixed.calls  true _ A4.out).mono ?_); rintro e w12 ⟨rfl, hb⟩; have n0_ := Aside0.mk (below_step (by repeat (first | (with_reducible first | exact HB.out | apply below_alloc | apply pw_below_drewN | apply below_drew1) | exact HB.out)) hb); clear HB; have HB := n0_; clear n0_; (try clear hb); (try clear hb2); (try clear hk); (try clear hi)) | (go_at_call 14; (with_reducible refine (proteanlaw12_small.calls k _ _ l0 true _ ?side1 ?side2 A6.out).mono ?_); (case side1 => repeat (first | exact (Kd.C_below HR0.out HB.out) | (with_reducible refine Kd.C_alloc ?_ _) | (with_reducible refine Kd.C_drewN ?_ _) | (with_reducible refine Kd.C_drew ?_))); (case side2 => exact HC0.out); rintro e w' ⟨rfl, ⟨nd, rfl⟩⟩; (try first | exact ⟨rfl, _, World.drewN_drewN _ _ _⟩ | exact ⟨rfl, _, Eq.trans (World.drewN_drewN _ _ _) (congrArg (World.drewN _) (Nat.add_assoc _ _ _))⟩)) | (go_at_call 13; (with_reducible refine (graph_May.calls k _ _ l0 true _ ?side1 ?side2 A8.out).mono ?_); (case side1 => repeat (first | exact (Kd.C_below HR0.out (by repeat (first | (with_reducible first | exact HB.out | apply below_alloc | apply pw_below_drewN | apply below_drew1) | exact HB.out))) | (with_reducible refine Kd.C_alloc ?_ _) | (with_reducible refine Kd.C_drewN ?_ _) | (with_reducible refine Kd.C_drew ?_))); (case side2 => exact HC0.out); rintro e w' ⟨rfl, ⟨nd, rfl⟩⟩; (try first | exact ⟨rfl, _, World.drewN_drewN _ _ _⟩ | exact ⟨rfl, _, Eq.trans (World.drewN_drewN _ _ _) (congrArg (World.drewN _) (Nat.add_assoc _ _ _))⟩)))
      repeat (go_quiet (first | (go_at_call 9; (with_reducible refine (proteanlaw12_fixed.calls  true _ A4.out).mono ?_); rintro e w12 ⟨rfl, hb⟩; have n0_ := Aside0.mk (below_step (by repeat (first | (with_reducible first | exact HB.out | apply below_alloc | apply pw_below_drewN | apply below_drew1) | exact HB.out)) hb); clear HB; have HB := n0_; clear n0_; (try clear hb); (try clear hb2); (try clear hk); (try clear hi)) | (go_at_call 14; (with_reducible refine (proteanlaw12_small.calls k _ _ l0 true _ ?side1 ?side2 A6.out).mono ?_); (case side1 => repeat (first | exact (Kd.C_below HR0.out HB.out) | (with_reducible refine Kd.C_alloc ?_ _) | (with_reducible refine Kd.C_drewN ?_ _) | (with_reducible refine Kd.C_drew ?_))); (case side2 => exact HC0.out); rintro e w' ⟨rfl, ⟨nd, rfl⟩⟩; (try first | exact ⟨rfl, _, World.drewN_drewN _ _ _⟩ | exact ⟨rfl, _, Eq.trans (World.drewN_drewN _ _ _) (congrArg (World.drewN _) (Nat.add_assoc _ _ _))⟩)) | (go_at_call 13; (with_reducible refine (graph_May.calls k _ _ l0 true _ ?side1 ?side2 A8.out).mono ?_); (case side1 => repeat (first | exact (Kd.C_below HR0.out (by repeat (first | (with_reducible first | exact HB.out | apply below_alloc | apply pw_below_drewN | apply below_drew1) | exact HB.out))) | (with_reducible refine Kd.C_alloc ?_ _) | (with_reducible refine Kd.C_drewN ?_ _) | (with_reducible refine Kd.C_drew ?_))); (case side2 => exact HC0.out); rintro e w' ⟨rfl, ⟨nd, rfl⟩⟩; (try first | exact ⟨rfl, _, World.drewN_drewN _ _ _⟩ | exact ⟨rfl, _, Eq.trans (World.drewN_drewN _ _ _) (congrArg (World.drewN _) (Nat.add_assoc _ _ _))⟩))); try go_wp2_with (first | (go_at_call 9; (with_reducible refine (proteanlaw12_fixed.calls  true _ A4.out).mono ?_); rintro e w12 ⟨rfl, hb⟩; have n0_ := Aside0.mk (below_step (by repeat (first | (with_reducible first | exact HB.out | apply below_alloc | apply pw_below_drewN | apply below_drew1) | exact HB.out)) hb); clear HB; have HB := n0_; clear n0_; (try clear hb); (try clear hb2); (try clear hk); (try clear hi)) | (go_at_call 14; (with_reducible refine (proteanlaw12_small.calls k _ _ l0 true _ ?side1 ?side2 A6.out).mono ?_); (case side1 => repeat (first | exact (Kd.C_below HR0.out HB.out) | (with_reducible refine Kd.C_alloc ?_ _) | (with_reducible refine Kd.C_drewN ?_ _) | (with_reducible refine Kd.C_drew ?_))); (case side2 => exact HC0.out); rintro e w' ⟨rfl, ⟨nd, rfl⟩⟩; (try first | exact ⟨rfl, _, World.drewN_drewN _ _ _⟩ | exact ⟨rfl, _, Eq.trans (World.drewN_drewN _ _ _) (congrArg (World.drewN _) (Nat.add_assoc _ _ _))⟩)) | (go_at_call 13; (with_reducible refine (graph_May.calls k _ _ l0 true _ ?side1 ?side2 A8.out).mono ?_); (case side1 => repeat (first | exact (Kd.C_below HR0.out (by repeat (first | (with_reducible first | exact HB.out | apply below_alloc | apply pw_below_drewN | apply below_drew1) | exact HB.out))) | (with_reducible refine Kd.C_alloc ?_ _) | (with_reducible refine Kd.C_drewN ?_ _) | (with_reducible refine Kd.C_drew ?_))); (case side2 => exact HC0.out); rintro e w' ⟨rfl, ⟨nd, rfl⟩⟩; (try first | exact ⟨rfl, _, World.drewN_drewN _ _ _⟩ | exact ⟨rfl, _, Eq.trans (World.drewN_drewN _ _ _) (congrArg (World.drewN _) (Nat.add_assoc _ _ _))⟩))))
      go_meet
      case rel => exact ⟨_, (decide (a1 ≥ (l0.length : Int))), (by first | rfl | (simp; done) | (simp [*]; done)), H', ⟨by first | omega | exact Nat.le_refl _⟩, ⟨by repeat (first | (with_reducible first | exact HB.out | apply below_alloc | apply pw_below_drewN | apply below_drew1) | exact HB.out)⟩⟩
    ·replace c9 := Bool.eq_false_iff.mpr c9
     subst c9
     have H1 : (proteanlaw12_GraphReached.j0 k l0 a1 true) = some r := by rw [if_neg (show ¬ (false = true) by decide)] at H; exact H
     clear H
     have H := H1
     clear H1
     have H' := Aside0.mk H
     clear H
     go_wp2_with (first | (go_at_call 9; (with_reducible refine (proteanlaw12_fixed.calls  true _ A4.out).mono ?_); rintro e w13 ⟨rfl, hb⟩; have n0_ := Aside0.mk (below_step (by repeat (first | (with_reducible first | exact HB.out | apply below_alloc | apply pw_below_drewN | apply below_drew1) | exact HB.out)) hb); clear HB; have HB := n0_; clear n0_; (try clear hb); (try clear hb2); (try clear hk); (try clear hi)) | (go_at_call 14; (with_reducible refine (proteanlaw12_small.calls k _ _ l0 true _ ?side1 ?side2 A6.out).mono ?_); (case side1 => repeat (first | exact (Kd.C_below HR0.out HB.out) | (with_reducible refine Kd.C_alloc ?_ _) | (with_reducible refine Kd.C_drewN ?_ _) | (with_reducible refine Kd.C_drew ?_))); (case side2 => exact HC0.out); rintro e w' ⟨rfl, ⟨nd, rfl⟩⟩; (try first | exact ⟨rfl, _, World.drewN_drewN _ _ _⟩ | exact ⟨rfl, _, Eq.trans (World.drewN_drewN _ _ _) (congrArg (World.drewN _) (Nat.add_assoc _ _ _))⟩)) | (go_at_call 13; (with_reducible refine (graph_May.calls k _ _ l0 false _ ?side1 ?side2 A8.out).mono ?_); (case side1 => repeat (first | exact (Kd.C_below HR0.out (by repeat (first | (with_reducible first | exact HB.out | apply below_alloc | apply pw_below_drewN | apply below_drew1) | exact HB.out))) | (with_reducible refine Kd.C_alloc ?_ _) | (with_reducible refine Kd.C_drewN ?_ _) | (with_reducible refine Kd.C_drew ?_))); (case side2 => exact HC0.out); rintro e w' ⟨rfl, ⟨nd, rfl⟩⟩; (try first | exact ⟨rfl, _, World.drewN_drewN _ _ _⟩ | exact ⟨rfl, _, Eq.trans (World.drewN_drewN _ _ _) (congrArg (World.drewN _) (Nat.add_assoc _ _ _))⟩)))
     repeat (go_quiet (first | (go_at_call 9; (with_reducible refine (proteanlaw12_fixed.calls  true _ A4.out).mono ?_); rintro e w13 ⟨rfl, hb⟩; have n0_ := Aside0.mk (below_step (by repeat (first | (with_reducible first | exact HB.out | apply below_alloc | apply pw_below_drewN | apply below_drew1) | exact HB.out)) hb); clear HB; have HB := n0_; clear n0_; (try clear hb); (try clear hb2); (try clear hk); (try clear hi)) | (go_at_call 14; (with_reducible refine (proteanlaw12_small.calls k _ _ l0 true _ ?side1 ?side2 A6.out).mono ?_); (case side1 => repeat (first | exact (Kd.C_below HR0.out HB.out) | (with_reducible refine Kd.C_alloc ?_ _) | (with_reducible refine Kd.C_drewN ?_ _) | (with_reducible refine Kd.C_drew ?_))); (case side2 => exact HC0.out); rintro e w' ⟨rfl, ⟨nd, rfl⟩⟩; (try first | exact ⟨rfl, _, World.drewN_drewN _ _ _⟩ | exact ⟨rfl, _, Eq.trans (World.drewN_drewN _ _ _) (congrArg (World.drewN _) (Nat.add_assoc _ _ _))⟩)) | (go_at_call 13; (with_reducible refine (graph_May.calls k _ _ l0 false _ ?side1 ?side2 A8.out).mono ?_); (case side1 => repeat (first | exact (Kd.C_below HR0.out (by repeat (first | (with_reducible first | exact HB.out | apply below_alloc | apply pw_below_drewN | apply below_drew1) | exact HB.out))) | (with_reducible refine Kd.C_alloc ?_ _) | (with_reducible refine Kd.C_drewN ?_ _) | (with_reducible refine Kd.C_drew ?_))); (case side2 => exact HC0.out); rintro e w' ⟨rfl, ⟨nd, rfl⟩⟩; (try first | exact ⟨rfl, _, World.drewN_drewN _ _ _⟩ | exact ⟨rfl, _, Eq.trans (World.drewN_drewN _ _ _) (congrArg (World.drewN _) (Nat.add_assoc _ _ _))⟩))); try go_wp2_with (first | (go_at_call 9; (with_reducible refine (proteanlaw12_fixed.calls  true _ A4.out).mono ?_); rintro e w13 ⟨rfl, hb⟩; have n0_ := Aside0.mk (below_step (by repeat (first | (with_reducible first | exact HB.out | apply below_alloc | apply pw_below_drewN | apply below_drew1) | exact HB.out)) hb); clear HB; have HB := n0_; clear n0_; (try clear hb); (try clear hb2); (try clear hk); (try clear hi)) | (go_at_call 14; (with_reducible refine (proteanlaw12_small.calls k _ _ l0 true _ ?side1 ?side2 A6.out).mono ?_); (case side1 => repeat (first | exact (Kd.C_below HR0.out HB.out) | (with_reducible refine Kd.C_alloc ?_ _) | (with_reducible refine Kd.C_drewN ?_ _) | (with_reducible refine Kd.C_drew ?_))); (case side2 => exact HC0.out); rintro e w' ⟨rfl, ⟨nd, rfl⟩⟩; (try first | exact ⟨rfl, _, World.drewN_drewN _ _ _⟩ | exact ⟨rfl, _, Eq.trans (World.drewN_drewN _ _ _) (congrArg (World.drewN _) (Nat.add_assoc _ _ _))⟩)) | (go_at_call 13; (with_reducible refine (graph_May.calls k _ _ l0 false _ ?side1 ?side2 A8.out).mono ?_); (case side1 => repeat (first | exact (Kd.C_below HR0.out (by repeat (first | (with_reducible first | exact HB.out | apply below_alloc | apply pw_below_drewN | apply below_drew1) | exact HB.out))) | (with_reducible refine Kd.C_alloc ?_ _) | (with_reducible refine Kd.C_drewN ?_ _) | (with_reducible refine Kd.C_drew ?_))); (case side2 => exact HC0.out); rintro e w' ⟨rfl, ⟨nd, rfl⟩⟩; (try first | exact ⟨rfl, _, World.drewN_drewN _ _ _⟩ | exact ⟨rfl, _, Eq.trans (World.drewN_drewN _ _ _) (congrArg (World.drewN _) (Nat.add_assoc _ _ _))⟩))))
     go_meet
     case rel => exact ⟨_, (true), (by first | rfl | (simp; done) | (simp [*]; done)), H', ⟨by first | omega | exact Nat.le_refl _⟩, ⟨by repeat (first | (with_reducible first | exact HB.out | apply below_alloc | apply pw_below_drewN | apply below_drew1) | exact HB.out)⟩⟩
   ·replace c7 := Bool.eq_false_iff.mpr c7
    subst c7
    have H1 : (proteanlaw12_GraphReached.j0 k l0 a1 true) = some r := by rw [if_neg (show ¬ (false = true) by decide)] at H; exact H
    clear H
    have H := H1
    clear H1
    have H' := Aside0.mk H
    clear H
    go_wp2_with (first | (go_at_call 9; (with_reducible refine (proteanlaw12_fixed.calls  true _ A4.out).mono ?_); rintro e w14 ⟨rfl, hb⟩; have n0_ := Aside0.mk (below_step (by repeat (first | (with_reducible first | exact HB.out | apply below_alloc | apply pw_below_drewN | apply below_drew1) | exact HB.out)) hb); clear HB; have HB := n0_; clear n0_; (try clear hb); (try clear hb2); (try clear hk); (try clear hi)) | (go_at_call 14; (with_reducible refine (proteanlaw12_small.calls k _ _ l0 false _ ?side1 ?side2 A6.out).mono ?_); (case side1 => repeat (first | exact (Kd.C_below HR0.out HB.out) | (with_reducible refine Kd.C_alloc ?_ _) | (with_reducible refine Kd.C_drewN ?_ _) | (with_reducible refine Kd.C_drew ?_))); (case side2 => exact HC0.out); rintro e w' ⟨rfl, ⟨nd, rfl⟩⟩; (try first | exact ⟨rfl, _, World.drewN_drewN _ _ _⟩ | exact ⟨rfl, _, Eq.trans (World.drewN_drewN _ _ _) (congrArg (World.drewN _) (Nat.add_assoc _ _ _))⟩)))
    repeat (go_quiet (first | (go_at_call 9; (with_reducible refine (proteanlaw12_fixed.calls  true _ A4.out).mono ?_); rintro e w14 ⟨rfl, hb⟩; have n0_ := Aside0.mk (below_step (by repeat (first | (with_reducible first | exact HB.out | apply below_alloc | apply pw_below_drewN | apply below_drew1) | exact HB.out)) hb); clear HB; have HB := n0_; clear n0_; (try clear hb); (try clear hb2); (try clear hk); (try clear hi)) | (go_at_call 14; (with_reducible refine (proteanlaw12_small.calls k _ _ l0 false _ ?side1 ?side2 A6.out).mono ?_); (case side1 => repeat (first | exact (Kd.C_below HR0.out HB.out) | (with_reducible refine Kd.C_alloc ?_ _) | (with_reducible refine Kd.C_drewN ?_ _) | (with_reducible refine Kd.C_drew ?_))); (case side2 => exact HC0.out); rintro e w' ⟨rfl, ⟨nd, rfl⟩⟩; (try first | exact ⟨rfl, _, World.drewN_drewN _ _ _⟩ | exact ⟨rfl, _, Eq.trans (World.drewN_drewN _ _ _) (congrArg (World.drewN _) (Nat.add_assoc _ _ _))⟩))); try go_wp2_with (first | (go_at_call 9; (with_reducible refine (proteanlaw12_fixed.calls  true _ A4.out).mono ?_); rintro e w14 ⟨rfl, hb⟩; have n0_ := Aside0.mk (below_step (by repeat (first | (with_reducible first | exact HB.out | apply below_alloc | apply pw_below_drewN | apply below_drew1) | exact HB.out)) hb); clear HB; have HB := n0_; clear n0_; (try clear hb); (try clear hb2); (try clear hk); (try clear hi)) | (go_at_call 14; (with_reducible refine (proteanlaw12_small.calls k _ _ l0 false _ ?side1 ?side2 A6.out).mono ?_); (case side1 => repeat (first | exact (Kd.C_below HR0.out HB.out) | (with_reducible refine Kd.C_alloc ?_ _) | (with_reducible refine Kd.C_drewN ?_ _) | (with_reducible refine Kd.C_drew ?_))); (case side2 => exact HC0.out); rintro e w' ⟨rfl, ⟨nd, rfl⟩⟩; (try first | exact ⟨rfl, _, World.drewN_drewN _ _ _⟩ | exact ⟨rfl, _, Eq.trans (World.drewN_drewN _ _ _) (congrArg (World.drewN _) (Nat.add_assoc _ _ _))⟩))))
    go_meet
    case rel => exact ⟨_, (true), (by first | rfl | (simp; done) | (simp [*]; done)), H', ⟨by first | omega | exact Nat.le_refl _⟩, ⟨by repeat (first | (with_reducible first | exact HB.out | apply below_alloc | apply pw_below_drewN | apply below_drew1) | exact HB.out)⟩⟩
  ·replace c5 := Bool.eq_false_iff.mpr c5
   subst c5
   have H1 : (proteanlaw12_GraphReached.j0 k l0 a1 true) = some r := by rw [if_neg (show ¬ (false = true) by decide)] at H; exact H
   clear H
   have H := H1
   clear H1
   have H' := Aside0.mk H
   clear H
   go_wp2_with (first | (go_at_call 9; (with_reducible refine (proteanlaw12_fixed.calls  false _ A4.out).mono ?_); rintro e w15 ⟨rfl, hb⟩; have n0_ := Aside0.mk (below_step (by repeat (first | (with_reducible first | exact HB.out | apply below_alloc | apply pw_below_drewN | apply below_drew1) | exact HB.out)) hb); clear HB; have HB := n0_; clear n0_; (try clear hb); (try clear hb2); (try clear hk); (try clear hi)))
   repeat (go_quiet (first | (go_at_call 9; (with_reducible refine (proteanlaw12_fixed.calls  false _ A4.out).mono ?_); rintro e w15 ⟨rfl, hb⟩; have n0_ := Aside0.mk (below_step (by repeat (first | (with_reducible first | exact HB.out | apply below_alloc | apply pw_below_drewN | apply below_drew1) | exact HB.out)) hb); clear HB; have HB := n0_; clear n0_; (try clear hb); (try clear hb2); (try clear hk); (try clear hi))); try go_wp2_with (first | (go_at_call 9; (with_reducible refine (proteanlaw12_fixed.calls  false _ A4.out).mono ?_); rintro e w15 ⟨rfl, hb⟩; have n0_ := Aside0.mk (below_step (by repeat (first | (with_reducible first | exact HB.out | apply below_alloc | apply pw_below_drewN | apply below_drew1) | exact HB.out)) hb); clear HB; have HB := n0_; clear n0_; (try clear hb); (try clear hb2); (try clear hk); (try clear hi))))
   go_meet
   case rel => exact ⟨_, (true), (by first | rfl | (simp; done) | (simp [*]; done)), H', ⟨by first | omega | exact Nat.le_refl _⟩, ⟨by repeat (first | (with_reducible first | exact HB.out | apply below_alloc | apply pw_below_drewN | apply below_drew1) | exact HB.out)⟩⟩
 case rest =>
  clear HC3
  try clear c1
  try clear p2
  try clear c5
  try clear c6
  try clear c7
  try clear c9
  try clear c10
  try clear c10b0
  obtain ⟨kq, x31_2, rfl, HA, HJ2, HB⟩ := hcut
  cases kq with
  | zero => exact absurd HA.out (by simp [proteanlaw12_GraphReached.j0])
  | succ kj2 =>
   have H := HA.out
   clear HA
   simp only [proteanlaw12_GraphReached.j0] at H
   by_cases c16 : x31_2 = true
   ·subst c16
    have H1 : ((proteanlaw12_fixed.f).bind fun t329 => (some t329)) = some r := by rw [if_pos rfl] at H; exact H
    clear H
    have H := H1
    clear H1
    replace H := Option.bind_eq_some_iff.mp H
    obtain ⟨t329, A170, H⟩ := H
    replace H : (some t329) = some r := H
    have A17 := Aside0.mk A170
    clear A170
    obtain rfl := Option.some.inj H
    go_wp2_with (first | (go_at_call 9; (with_reducible refine (proteanlaw12_fixed.calls  t329 _ A17.out).mono ?_); rintro e w18 ⟨rfl, hb⟩; have n0_ := Aside0.mk (below_step (by repeat (first | (with_reducible first | exact HB.out | apply below_alloc | apply pw_below_drewN | apply below_drew1) | exact HB.out)) hb); clear HB; have HB := n0_; clear n0_; (try clear hb); (try clear hb2); (try clear hk); (try clear hi)))
    repeat (go_quiet (first | (go_at_call 9; (with_reducible refine (proteanlaw12_fixed.calls  t329 _ A17.out).mono ?_); rintro e w18 ⟨rfl, hb⟩; have n0_ := Aside0.mk (below_step (by repeat (first | (with_reducible first | exact HB.out | apply below_alloc | apply pw_below_drewN | apply below_drew1) | exact HB.out)) hb); clear HB; have HB := n0_; clear n0_; (try clear hb); (try clear hb2); (try clear hk); (try clear hi))); try go_wp2_with (first | (go_at_call 9; (with_reducible refine (proteanlaw12_fixed.calls  t329 _ A17.out).mono ?_); rintro e w18 ⟨rfl, hb⟩; have n0_ := Aside0.mk (below_step (by repeat (first | (with_reducible first | exact HB.out | apply below_alloc | apply pw_below_drewN | apply below_drew1) | exact HB.out)) hb); clear HB; have HB := n0_; clear n0_; (try clear hb); (try clear hb2); (try clear hk); (try clear hi))))
    go_ret
    exact ⟨by first | rfl | (simp [errW_none, errW_some] <;> rfl) | (simp [*, errW_none, errW_some] <;> rfl), by repeat (first | (with_reducible first | exact HB.out | apply below_alloc | apply pw_below_drewN | apply below_drew1) | exact HB.out)⟩
   ·replace c16 := Bool.eq_false_iff.mpr c16
    subst c16
    have H1 : ((graph_Reach.f kj2 l0 a1).bind fun t330 => ((proteanref12_Has.f kj2 t330 a1).bind fun t333 => (if t333 = true then (proteanlaw12_GraphReached.l0 kj2 l0 t330 0) else (some false)))) = some r := by rw [if_neg (show ¬ (false = true) by decide)] at H; exact H
    clear H
    have H := H1
    clear H1
    replace H := Option.bind_eq_some_iff.mp H
    obtain ⟨t330, A190, H⟩ := H
    replace H : ((proteanref12_Has.f kj2 t330 a1).bind fun t333 => (if t333 = true then (proteanlaw12_GraphReached.l0 kj2 l0 t330 0) else (some false))) = some r := H
    have A19 := Aside0.mk A190
    clear A190
    replace H := Option.bind_eq_some_iff.mp H
    obtain ⟨t333, A200, H⟩ := H
    replace H : (if t333 = true then (proteanlaw12_GraphReached.l0 kj2 l0 t330 0) else (some false)) = some r := H
    have A20 := Aside0.mk A200
    clear A200
    by_cases c21 : t333 = true
    ·subst c21
     have H1 : (proteanlaw12_GraphReached.l0 kj2 l0 t330 0) = some r := by rw [if_pos rfl] at H; exact H
     clear H
     have H := H1
     clear H1
     have H' := Aside0.mk H
     clear H
     go_wp2_with (first | (go_at_call 17; (with_reducible refine (graph_Reach.calls kj2 _ _ l0 a1 t330 _ ?side1 ?side2 A19.out).mono ?_); (case side1 => repeat (first | exact (Kd.C_below HR0.out HB.out) | (with_reducible refine Kd.C_alloc ?_ _) | (with_reducible refine Kd.C_drewN ?_ _) | (with_reducible refine Kd.C_drew ?_))); (case side2 => exact HC0.out); rintro e w22 ⟨v331, rfl, ho0, hb⟩; have n0_ := Aside0.mk (Kd.R_lower ho0 (below_size (by repeat (first | (with_reducible first | exact HB.out | apply below_alloc | apply pw_below_drewN | apply below_drew1) | exact HB.out)))); have n1_ := Aside0.mk (below_step (by repeat (first | (with_reducible first | exact HB.out | apply below_alloc | apply pw_below_drewN | apply below_drew1) | exact HB.out)) hb); clear HB; have HO332 := n0_; have HB := n1_; clear n0_ n1_; (try clear hb); (try clear hb2); (try clear hk); (try clear hi); (try clear ho0); obtain ⟨Ao23, co23, eo23⟩ := Kd.R_slice HO332.out; subst eo23) | (go_at_call 21; (with_reducible refine (proteanref12_Has.calls kj2 _ _ t330 a1 true _ ?side1 ?side2 A20.out).mono ?_); (case side1 => repeat (first | exact (Kd.R_reads' HO332.out).2.2 | (with_reducible refine Kd.C_alloc ?_ _) | (with_reducible refine Kd.C_drewN ?_ _) | (with_reducible refine Kd.C_drew ?_))); (case side2 => exact (Kd.R_reads' HO332.out).2.1); rintro e w' ⟨rfl, ⟨nd, rfl⟩⟩; (try first | exact ⟨rfl, _, World.drewN_drewN _ _ _⟩ | exact ⟨rfl, _, Eq.trans (World.drewN_drewN _ _ _) (congrArg (World.drewN _) (Nat.add_assoc _ _ _))⟩)))
     repeat (go_quiet (first | (go_at_call 17; (with_reducible refine (graph_Reach.calls kj2 _ _ l0 a1 t330 _ ?side1 ?side2 A19.out).mono ?_); (case side1 => repeat (first | exact (Kd.C_below HR0.out HB.out) | (with_reducible refine Kd.C_alloc ?_ _) | (with_reducible refine Kd.C_drewN ?_ _) | (with_reducible refine Kd.C_drew ?_))); (case side2 => exact HC0.out); rintro e w22 ⟨v331, rfl, ho0, hb⟩; have n0_ := Aside0.mk (Kd.R_lower ho0 (below_size (by repeat (first | (with_reducible first | exact HB.out | apply below_alloc | apply pw_below_drewN | apply below_drew1) | exact HB.out)))); have n1_ := Aside0.mk (below_step (by repeat (first | (with_reducible first | exact HB.out | apply below_alloc | apply pw_below_drewN | apply below_drew1) | exact HB.out)) hb); clear HB; have HO332 := n0_; have HB := n1_; clear n0_ n1_; (try clear hb); (try clear hb2); (try clear hk); (try clear hi); (try clear ho0); obtain ⟨Ao23, co23, eo23⟩ := Kd.R_slice HO332.out; subst eo23) | (go_at_call 21; (with_reducible refine (proteanref12_Has.calls kj2 _ _ t330 a1 true _ ?side1 ?side2 A20.out).mono ?_); (case side1 => repeat (first | exact (Kd.R_reads' HO332.out).2.2 | (with_reducible refine Kd.C_alloc ?_ _) | (with_reducible refine Kd.C_drewN ?_ _) | (with_reducible refine Kd.C_drew ?_))); (case side2 => exact (Kd.R_reads' HO332.out).2.1); rintro e w' ⟨rfl, ⟨nd, rfl⟩⟩; (try first | exact ⟨rfl, _, World.drewN_drewN _ _ _⟩ | exact ⟨rfl, _, Eq.trans (World.drewN_drewN _ _ _) (congrArg (World.drewN _) (Nat.add_assoc _ _ _))⟩))); try go_wp2_with (first | (go_at_call 17; (with_reducible refine (graph_Reach.calls kj2 _ _ l0 a1 t330 _ ?side1 ?side2 A19.out).mono ?_); (case side1 => repeat (first | exact (Kd.C_below HR0.out HB.out) | (with_reducible refine Kd.C_alloc ?_ _) | (with_reducible refine Kd.C_drewN ?_ _) | (with_reducible refine Kd.C_drew ?_))); (case side2 => exact HC0.out); rintro e w22 ⟨v331, rfl, ho0, hb⟩; have n0_ := Aside0.mk (Kd.R_lower ho0 (below_size (by repeat (first | (with_reducible first | exact HB.out | apply below_alloc | apply pw_below_drewN | apply below_drew1) | exact HB.out)))); have n1_ := Aside0.mk (below_step (by repeat (first | (with_reducible first | exact HB.out | apply below_alloc | apply pw_below_drewN | apply below_drew1) | exact HB.out)) hb); clear HB; have HO332 := n0_; have HB := n1_; clear n0_ n1_; (try clear hb); (try clear hb2); (try clear hk); (try clear hi); (try clear ho0); obtain ⟨Ao23, co23, eo23⟩ := Kd.R_slice HO332.out; subst eo23) | (go_at_call 21; (with_reducible refine (proteanref12_Has.calls kj2 _ _ t330 a1 true _ ?side1 ?side2 A20.out).mono ?_); (case side1 => repeat (first | exact (Kd.R_reads' HO332.out).2.2 | (with_reducible refine Kd.C_alloc ?_ _) | (with_reducible refine Kd.C_drewN ?_ _) | (with_reducible refine Kd.C_drew ?_))); (case side2 => exact (Kd.R_reads' HO332.out).2.1); rintro e w' ⟨rfl, ⟨nd, rfl⟩⟩; (try first | exact ⟨rfl, _, World.drewN_drewN _ _ _⟩ | exact ⟨rfl, _, Eq.trans (World.drewN_drewN _ _ _) (congrArg (World.drewN _) (Nat.add_assoc _ _ _))⟩))))
     go_loopg [6] kj2 (fun kq v6 w' => ∃ (x6_2 : Int), v6 = .int .i64 x6_2 ∧ Aside0 (proteanlaw12_GraphReached.l0 kq l0 t330 x6_2 = some r) ∧ Aside0 (kq ≤ kj2) ∧ Aside0 (Kd.R (Kd.int .i64) 3 w' w.heap.size (fun _ => True) (.slice Ao23 t330.length co23) t330) ∧ Aside0 (Below w.heap.size w w'))
     case atStart => exact ⟨(0), (by first | rfl | (simp; done) | (simp [*]; done)), H', ⟨Nat.le_refl _⟩, ⟨by (with_reducible repeat (first | apply Kd.R_alloc | apply Kd.R_drewN | apply Kd.R_drew)); exact HO332.out⟩, ⟨by repeat (first | (with_reducible first | exact HB.out | apply below_alloc | apply pw_below_drewN | apply below_drew1) | exact HB.out)⟩⟩
     case round =>
      clear H'
      try clear c1
      try clear c2
      try clear p2
      try clear c5
      try clear c6
      try clear c7
      try clear c9
      try clear c10
      try clear c10b0
      try clear c16
      try clear c21
      try clear p2
      obtain ⟨x6_2, rfl, HA, HK2, HO_5, HB⟩ := hrel
      cases gk with
      | zero => exact absurd HA.out (by simp [proteanlaw12_GraphReached.l0])
      | succ k2 =>
       have H := HA.out
       clear HA
       simp only [proteanlaw12_GraphReached.l0] at H
       by_cases c24 : x6_2 < (t330.length : Int)
       ·rw [if_pos c24] at H
        have c24b0 : decide (x6_2 < (t330.length : Int)) = true := decide_eq_true c24
        clear c24
        have HC25 := Aside0.mk H
        clear H
        go_upto_region 9 with (fail)
        repeat (go_quiet (fail); go_upto_region 9 with (fail))
        go_cut [75] (fun v75 wc => ∃ (kq : Nat) (x75_24 : Bool), v75 = .bool x75_24 ∧ Aside0 (proteanlaw12_GraphReached.j2 kq l0 t330 x6_2 x75_24 = some r) ∧ Aside0 (kq ≤ k2) ∧ Aside0 (Kd.R (Kd.int .i64) 3 wc w.heap.size (fun _ => True) (.slice Ao23 t330.length co23) t330) ∧ Aside0 (Below w.heap.size w wc))
        case first =>
         have H := HC25.out
         clear HC25
         by_cases c26 : 0 ≤ x6_2
         ·rw [if_pos c26] at H
          have c26b0 : decide (0 ≤ x6_2) = true := decide_eq_true c26
          clear c26
          (first | rw [c26b0] | (simp only [i64_w, i32_w]; rw [c26b0]) | skip)
          by_cases c27 : (rd t330 x6_2) < 0
          ·rw [if_pos c27] at H
           have c27b0 : decide ((rd t330 x6_2) < 0) = true := decide_eq_true c27
           clear c27
           have H' := Aside0.mk H
           clear H
           have p334 : 0 ≤ (x6_2 : Int) := of_decide_eq_true (by first | (with_reducible assumption) | assumption)
           have q334 : x6_2 < (t330.length : Int) := of_decide_eq_true (by first | (with_reducible assumption) | assumption)
           obtain ⟨ad334, e334, hx334_0⟩ := Kd.at_int (Kd.R_reads' HO_5.out).2.2 x6_2 p334 q334
           cases e334
           replace p334 := eq_true p334
           replace q334 := eq_true q334
           go_wp2
           repeat (go_quiet (fail); try go_wp2)
           go_meet
           case rel => exact ⟨_, (true), (by first | rfl | (simp; done) | (simp [*]; done)), H', ⟨by have := HJ2.out; have := HK2.out; first | omega | exact Nat.le_refl _⟩, ⟨by (with_reducible repeat (first | apply Kd.R_alloc | apply Kd.R_drewN | apply Kd.R_drew)); exact HO_5.out⟩, ⟨by repeat (first | (with_reducible first | exact HB.out | apply below_alloc | apply pw_below_drewN | apply below_drew1) | exact HB.out)⟩⟩
          ·rw [if_neg c27] at H
           have c27b0 : decide ((rd t330 x6_2) < 0) = false := decide_eq_false c27
           clear c27
           by_cases c28 : (rd t330 x6_2) ≥ (l0.length : Int)
           ·rw [if_pos c28] at H
            have c28b0 : decide ((l0.length : Int) ≤ (rd t330 x6_2)) = true := decide_eq_true c28
            clear c28
            have H' := Aside0.mk H
            clear H
            have p334 : 0 ≤ (x6_2 : Int) := of_decide_eq_true (by first | (with_reducible assumption) | assumption)
            have q334 : x6_2 < (t330.length : Int) := of_decide_eq_true (by first | (with_reducible assumption) | assumption)
            obtain ⟨ad334, e334, hx334_0⟩ := Kd.at_int (Kd.R_reads' HO_5.out).2.2 x6_2 p334 q334
            cases e334
            replace p334 := eq_true p334
            replace q334 := eq_true q334
            have p335 : 0 ≤ (x6_2 : Int) := of_decide_eq_true (by first | (with_reducible assumption) | assumption)
            have q335 : x6_2 < (t330.length : Int) := of_decide_eq_true (by first | (with_reducible assumption) | assumption)
            obtain ⟨ad335, e335, hx335_0⟩ := Kd.at_int (Kd.R_reads' HO_5.out).2.2 x6_2 p335 q335
            obtain rfl : ad334 = ad335 := (by injection e335)
            replace p335 := eq_true p335
            replace q335 := eq_true q335
            go_wp2
            repeat (go_quiet (fail); try go_wp2)
            go_meet
            case rel => exact ⟨_, (true), (by first | rfl | (simp; done) | (simp [*]; done)), H', ⟨by have := HJ2.out; have := HK2.out; first | omega | exact Nat.le_refl _⟩, ⟨by (with_reducible repeat (first | apply Kd.R_alloc | apply Kd.R_drewN | apply Kd.R_drew)); exact HO_5.out⟩, ⟨by repeat (first | (with_reducible first | exact HB.out | apply below_alloc | apply pw_below_drewN | apply below_drew1) | exact HB.out)⟩⟩
           ·rw [if_neg c28] at H
            have c28b0 : decide ((l0.length : Int) ≤ (rd t330 x6_2)) = false := decide_eq_false c28
            clear c28
            by_cases c29 : x6_2 > 0
            ·rw [if_pos c29] at H
             have c29b0 : decide (0 < x6_2) = true := decide_eq_true c29
             clear c29
             obtain ⟨ji30, hji30⟩ : ∃ j_ : Int, (wrap64 (x6_2 - 1)) = j_ := ⟨_, rfl⟩
             replace H : (if 0 ≤ (ji30) then (if (ji30) < (t330.length : Int) then (proteanlaw12_GraphReached.j2 k2 l0 t330 x6_2 (decide ((rd t330 (ji30)) ≥ (rd t330 x6_2)))) else (none)) else (none)) = some r := by first | (rw [hji30] at H; exact H) | (simp only [hji30] at H ⊢; exact H)
             have hji30w : (IntKind.i64.wrap (x6_2 - 1)) = ji30 := (i64_w _).trans hji30
             by_cases c31 : 0 ≤ (ji30)
             ·rw [if_pos c31] at H
              have c31b0 : decide (0 ≤ (ji30)) = true := decide_eq_true c31
              clear c31
              by_cases c32 : (ji30) < (t330.length : Int)
              ·rw [if_pos c32] at H
               have c32b0 : decide ((ji30) < (t330.length : Int)) = true := decide_eq_true c32
               clear c32
               have H' := Aside0.mk H
               clear H
               have p334 : 0 ≤ (x6_2 : Int) := of_decide_eq_true (by first | (with_reducible assumption) | assumption)
               have q334 : x6_2 < (t330.length : Int) := of_decide_eq_true (by first | (with_reducible assumption) | assumption)
               obtain ⟨ad334, e334, hx334_0⟩ := Kd.at_int (Kd.R_reads' HO_5.out).2.2 x6_2 p334 q334
               cases e334
               replace p334 := eq_true p334
               replace q334 := eq_true q334
               have p335 : 0 ≤ (x6_2 : Int) := of_decide_eq_true (by first | (with_reducible assumption) | assumption)
               have q335 : x6_2 < (t330.length : Int) := of_decide_eq_true (by first | (with_reducible assumption) | assumption)
               obtain ⟨ad335, e335, hx335_0⟩ := Kd.at_int (Kd.R_reads' HO_5.out).2.2 x6_2 p335 q335
               obtain rfl : ad334 = ad335 := (by injection e335)
               replace p335 := eq_true p335
               replace q335 := eq_true q335
               have p336 : 0 ≤ ((ji30) : Int) := of_decide_eq_true (by first | (with_reducible assumption) | assumption)
               have q336 : (ji30) < (t330.length : Int) := of_decide_eq_true (by first | (with_reducible assumption) | assumption)
               obtain ⟨ad336, e336, hx336_0⟩ := Kd.at_int (Kd.R_reads' HO_5.out).2.2 (ji30) p336 q336
               obtain rfl : ad334 = ad336 := (by injection e336)
               replace p336 := eq_true p336
               replace q336 := eq_true q336
               have p337 : 0 ≤ (x6_2 : Int) := of_decide_eq_true (by first | (with_reducible assumption) | assumption)
               have q337 : x6_2 < (t330.length : Int) := of_decide_eq_true (by first | (with_reducible assumption) | assumption)
               obtain ⟨ad337, e337, hx337_0⟩ := Kd.at_int (Kd.R_reads' HO_5.out).2.2 x6_2 p337 q337
               obtain rfl : ad334 = ad337 := (by injection e337)
               replace p337 := eq_true p337
               replace q337 := eq_true q337
               go_wp2
               repeat (go_quiet (fail); try go_wp2)
               go_meet
               case rel => exact ⟨_, (decide ((rd t330 (ji30)) ≥ (rd t330 x6_2))), (by first | rfl | (simp; done) | (simp only [← hji30] <;> (first | rfl | simp)) | (simp [*]; done)), H', ⟨by have := HJ2.out; have := HK2.out; first | omega | exact Nat.le_refl _⟩, ⟨by (with_reducible repeat (first | apply Kd.R_alloc | apply Kd.R_drewN | apply Kd.R_drew)); exact HO_5.out⟩, ⟨by repeat (first | (with_reducible first | exact HB.out | apply below_alloc | apply pw_below_drewN | apply below_drew1) | exact HB.out)⟩⟩
              ·rw [if_neg c32] at H
               exact absurd H (by simp)
             ·rw [if_neg c31] at H
              exact absurd H (by simp)
            ·rw [if_neg c29] at H
             have c29b0 : decide (0 < x6_2) = false := decide_eq_false c29
             clear c29
             have H' := Aside0.mk H
             clear H
             have p334 : 0 ≤ (x6_2 : Int) := of_decide_eq_true (by first | (with_reducible assumption) | assumption)
             have q334 : x6_2 < (t330.length : Int) := of_decide_eq_true (by first | (with_reducible assumption) | assumption)
             obtain ⟨ad334, e334, hx334_0⟩ := Kd.at_int (Kd.R_reads' HO_5.out).2.2 x6_2 p334 q334
             cases e334
             replace p334 := eq_true p334
             replace q334 := eq_true q334
             have p335 : 0 ≤ (x6_2 : Int) := of_decide_eq_true (by first | (with_reducible assumption) | assumption)
             have q335 : x6_2 < (t330.length : Int) := of_decide_eq_true (by first | (with_reducible assumption) | assumption)
             obtain ⟨ad335, e335, hx335_0⟩ := Kd.at_int (Kd.R_reads' HO_5.out).2.2 x6_2 p335 q335
             obtain rfl : ad334 = ad335 := (by injection e335)
             replace p335 := eq_true p335
             replace q335 := eq_true q335
             go_wp2
             repeat (go_quiet (fail); try go_wp2)
             go_meet
             case rel => exact ⟨_, (false), (by first | rfl | (simp; done) | (simp [*]; done)), H', ⟨by have := HJ2.out; have := HK2.out; first | omega | exact Nat.le_refl _⟩, ⟨by (with_reducible repeat (first | apply Kd.R_alloc | apply Kd.R_drewN | apply Kd.R_drew)); exact HO_5.out⟩, ⟨by repeat (first | (with_reducible first | exact HB.out | apply below_alloc | apply pw_below_drewN | apply below_drew1) | exact HB.out)⟩⟩
         ·rw [if_neg c26] at H
          exact absurd H (by simp)
        case rest =>
         clear HC25
         try clear c1
         try clear c2
         try clear p2
         try clear c3
         try clear p3
         try clear q3
         try clear hx3
         try clear c5
         try clear c6
         try clear p6
         try clear c7
         try clear c9
         try clear c10
         try clear c10b0
         try clear c16
         try clear c21
         try clear c24
         try clear c24b0
         try clear c26
         try clear c26b0
         try clear c27
         try clear c27b0
         try clear c28
         try clear c28b0
         try clear c29
         try clear c29b0
         try clear c31
         try clear c31b0
         try clear c32
         try clear c32b0
         try clear hx334_0
         try clear hx335_0
         try clear hx336_0
         try clear hx337_0
         try clear p2
         try clear p334
         try clear p335
         try clear p336
         try clear p337
         try clear q334
         try clear q335
         try clear q336
         try clear q337
         obtain ⟨kq, x75_24, rfl, HA, HJ24, HO_5, HB⟩ := hcut
         cases kq with
         | zero => exact absurd HA.out (by simp [proteanlaw12_GraphReached.j2])
         | succ kj24 =>
          have H := HA.out
          clear HA
          simp only [proteanlaw12_GraphReached.j2] at H
          by_cases c33 : x75_24 = true
          ·subst c33
           have H1 : (some false) = some r := by rw [if_pos rfl] at H; exact H
           clear H
           have H := H1
           clear H1
           obtain rfl := Option.some.inj H
           go_wp2
           repeat (go_quiet (fail); try go_wp2)
           go_ret
           exact ⟨by first | rfl | (simp [errW_none, errW_some] <;> rfl) | (simp [*, errW_none, errW_some] <;> rfl), by repeat (first | (with_reducible first | exact HB.out | apply below_alloc | apply pw_below_drewN | apply below_drew1) | exact HB.out)⟩
          ·replace c33 := Bool.eq_false_iff.mpr c33
           subst c33
           have H1 : (if 0 ≤ x6_2 then (if x6_2 < (t330.length : Int) then ((graph_Reach.f kj24 l0 (rd t330 x6_2)).bind fun t339 => (proteanlaw12_GraphReached.l1 kj24 l0 t330 x6_2 t339 0)) else (none)) else (none)) = some r := by rw [if_neg (show ¬ (false = true) by decide)] at H; exact H
           clear H
           have H := H1
           clear H1
           by_cases c34 : 0 ≤ x6_2
           ·rw [if_pos c34] at H
            have c34b0 : decide (0 ≤ x6_2) = true := decide_eq_true c34
            clear c34
            by_cases c35 : x6_2 < (t330.length : Int)
            ·rw [if_pos c35] at H
             have c35b0 : decide (x6_2 < (t330.length : Int)) = true := decide_eq_true c35
             clear c35
             replace H := Option.bind_eq_some_iff.mp H
             obtain ⟨t339, A360, H⟩ := H
             replace H : (proteanlaw12_GraphReached.l1 kj24 l0 t330 x6_2 t339 0) = some r := H
             have A36 := Aside0.mk A360
             clear A360
             have H' := Aside0.mk H
             clear H
             have p338 : 0 ≤ (x6_2 : Int) := of_decide_eq_true (by first | (with_reducible assumption) | assumption)
             have q338 : x6_2 < (t330.length : Int) := of_decide_eq_true (by first | (with_reducible assumption) | assumption)
             obtain ⟨ad338, e338, hx338_0⟩ := Kd.at_int (Kd.R_reads' HO_5.out).2.2 x6_2 p338 q338
             cases e338
             replace p338 := eq_true p338
             replace q338 := eq_true q338
             go_wp2_with (first | (go_at_call 17; (with_reducible refine (graph_Reach.calls kj24 _ _ l0 (rd t330 x6_2) t339 _ ?side1 ?side2 A36.out).mono ?_); (case side1 => repeat (first | exact (Kd.C_below HR0.out HB.out) | (with_reducible refine Kd.C_alloc ?_ _) | (with_reducible refine Kd.C_drewN ?_ _) | (with_reducible refine Kd.C_drew ?_))); (case side2 => exact HC0.out); rintro e w37 ⟨v340, rfl, ho0, hb⟩; have n0_ := Aside0.mk (Kd.R_elder' (by (with_reducible repeat (first | apply Kd.R_alloc | apply Kd.R_drewN | apply Kd.R_drew)); exact HO_5.out) (Kd.R_base ho0) hb); have n1_ := Aside0.mk (Kd.R_lower (Kd.R_new' ho0 (Kd.R_lt (by (with_reducible repeat (first | apply Kd.R_alloc | apply Kd.R_drewN | apply Kd.R_drew)); exact HO_5.out))) (below_size (by repeat (first | (with_reducible first | exact HB.out | apply below_alloc | apply pw_below_drewN | apply below_drew1) | exact HB.out)))); have n2_ := Aside0.mk (below_step (by repeat (first | (with_reducible first | exact HB.out | apply below_alloc | apply pw_below_drewN | apply below_drew1) | exact HB.out)) hb); clear HO_5; clear HB; have HO_5 := n0_; have HO341 := n1_; have HB := n2_; clear n0_ n1_ n2_; (try clear hb); (try clear hb2); (try clear hk); (try clear hi); (try clear ho0)))
             repeat (go_quiet (first | (go_at_call 17; (with_reducible refine (graph_Reach.calls kj24 _ _ l0 (rd t330 x6_2) t339 _ ?side1 ?side2 A36.out).mono ?_); (case side1 => repeat (first | exact (Kd.C_below HR0.out HB.out) | (with_reducible refine Kd.C_alloc ?_ _) | (with_reducible refine Kd.C_drewN ?_ _) | (with_reducible refine Kd.C_drew ?_))); (case side2 => exact HC0.out); rintro e w37 ⟨v340, rfl, ho0, hb⟩; have n0_ := Aside0.mk (Kd.R_elder' (by (with_reducible repeat (first | apply Kd.R_alloc | apply Kd.R_drewN | apply Kd.R_drew)); exact HO_5.out) (Kd.R_base ho0) hb); have n1_ := Aside0.mk (Kd.R_lower (Kd.R_new' ho0 (Kd.R_lt (by (with_reducible repeat (first | apply Kd.R_alloc | apply Kd.R_drewN | apply Kd.R_drew)); exact HO_5.out))) (below_size (by repeat (first | (with_reducible first | exact HB.out | apply below_alloc | apply pw_below_drewN | apply below_drew1) | exact HB.out)))); have n2_ := Aside0.mk (below_step (by repeat (first | (with_reducible first | exact HB.out | apply below_alloc | apply pw_below_drewN | apply below_drew1) | exact HB.out)) hb); clear HO_5; clear HB; have HO_5 := n0_; have HO341 := n1_; have HB := n2_; clear n0_ n1_ n2_; (try clear hb); (try clear hb2); (try clear hk); (try clear hi); (try clear ho0))); try go_wp2_with (first | (go_at_call 17; (with_reducible refine (graph_Reach.calls kj24 _ _ l0 (rd t330 x6_2) t339 _ ?side1 ?side2 A36.out).mono ?_); (case side1 => repeat (first | exact (Kd.C_below HR0.out HB.out) | (with_reducible refine Kd.C_alloc ?_ _) | (with_reducible refine Kd.C_drewN ?_ _) | (with_reducible refine Kd.C_drew ?_))); (case side2 => exact HC0.out); rintro e w37 ⟨v340, rfl, ho0, hb⟩; have n0_ := Aside0.mk (Kd.R_elder' (by (with_reducible repeat (first | apply Kd.R_alloc | apply Kd.R_drewN | apply Kd.R_drew)); exact HO_5.out) (Kd.R_base ho0) hb); have n1_ := Aside0.mk (Kd.R_lower (Kd.R_new' ho0 (Kd.R_lt (by (with_reducible repeat (first | apply Kd.R_alloc | apply Kd.R_drewN | apply Kd.R_drew)); exact HO_5.out))) (below_size (by repeat (first | (with_reducible first | exact HB.out | apply below_alloc | apply pw_below_drewN | apply below_drew1) | exact HB.out)))); have n2_ := Aside0.mk (below_step (by repeat (first | (with_reducible first | exact HB.out | apply below_alloc | apply pw_below_drewN | apply below_drew1) | exact HB.out)) hb); clear HO_5; clear HB; have HO_5 := n0_; have HO341 := n1_; have HB := n2_; clear n0_ n1_ n2_; (try clear hb); (try clear hb2); (try clear hk); (try clear hi); (try clear ho0))))
             go_loopg [8] kj24 (fun kq v8 w' => ∃ (x8_4 : Int), v8 = .int .i64 x8_4 ∧ Aside0 (proteanlaw12_GraphReached.l1 kq l0 t330 x6_2 t339 x8_4 = some r) ∧ Aside0 (kq ≤ kj24) ∧ Aside0 (Kd.R (Kd.int .i64) 3 w' w.heap.size (fun k_ => some k_ ≠ (v340 : Value).ownBlock) (.slice (some ad338) t330.length co23) t330) ∧ Aside0 (Kd.R (Kd.int .i64) 3 w' w.heap.size (fun k_ => some k_ ≠ ((.slice (some ad338) t330.length co23) : Value).ownBlock) v340 t339) ∧ Aside0 (Below w.heap.size w w'))
             case atStart => exact ⟨(0), (by first | rfl | (simp; done) | (simp [*]; done)), H', ⟨Nat.le_refl _⟩, ⟨by (with_reducible repeat (first | apply Kd.R_alloc | apply Kd.R_drewN | apply Kd.R_drew)); exact Kd.R_mono HO_5.out (fun _ hk => hk.2)⟩, ⟨by (with_reducible repeat (first | apply Kd.R_alloc | apply Kd.R_drewN | apply Kd.R_drew)); exact Kd.R_mono HO341.out (fun _ hk => hk.2)⟩, ⟨by repeat (first | (with_reducible first | exact HB.out | apply below_alloc | apply pw_below_drewN | apply below_drew1) | exact HB.out)⟩⟩
             case round =>
              clear H'
              try clear c1
              try clear c2
              try clear p2
              try clear c3
              try clear p3
              try clear q3
              try clear hx3
              try clear c5
              try clear c6
              try clear p6
              try clear c7
              try clear c9
              try clear c10
              try clear c10b0
              try clear c16
              try clear c21
              try clear c24
              try clear c24b0
              try clear c26
              try clear c26b0
              try clear c27
              try clear c27b0
              try clear c28
              try clear c28b0
              try clear c29
              try clear c29b0
              try clear c31
              try clear c31b0
              try clear c32
              try clear c32b0
              try clear c33
              try clear p33
              try clear q33
              try clear hx33
              try clear c34
              try clear c34b0
              try clear c35
              try clear c35b0
              try clear hx334_0
              try clear hx335_0
              try clear hx336_0
              try clear hx337_0
              try clear hx338_0
              try clear p2
              try clear p3
              try clear p334
              try clear p335
              try clear p336
              try clear p337
              try clear p338
              try clear p6
              try clear q3
              try clear q334
              try clear q335
              try clear q336
              try clear q337
              try clear q338
              obtain ⟨x8_4, rfl, HA, HK4, HO_5, HO_7, HB⟩ := hrel
              cases gk with
              | zero => exact absurd HA.out (by simp [proteanlaw12_GraphReached.l1])
              | succ k4 =>
               have H := HA.out
               clear HA
               simp only [proteanlaw12_GraphReached.l1] at H
               by_cases c38 : x8_4 < (t339.length : Int)
               ·rw [if_pos c38] at H
                have c38b0 : decide (x8_4 < (t339.length : Int)) = true := decide_eq_true c38
                clear c38
                by_cases c39 : 0 ≤ x8_4
                ·rw [if_pos c39] at H
                 have c39b0 : decide (0 ≤ x8_4) = true := decide_eq_true c39
                 clear c39
                 replace H := Option.bind_eq_some_iff.mp H
                 obtain ⟨t343, A400, H⟩ := H
                 replace H : (if t343 = true then (proteanlaw12_GraphReached.l1 k4 l0 t330 x6_2 t339 (wrap64 (x8_4 + 1))) else (some false)) = some r := H
                 have A40 := Aside0.mk A400
                 clear A400
                 by_cases c41 : t343 = true
                 ·subst c41
                  have H1 : (proteanlaw12_GraphReached.l1 k4 l0 t330 x6_2 t339 (wrap64 (x8_4 + 1))) = some r := by rw [if_pos rfl] at H; exact H
                  clear H
                  have H := H1
                  clear H1
                  have H' := Aside0.mk H
                  clear H
                  obtain ⟨Ao42, co42, eo42⟩ := Kd.R_slice HO_7.out
                  subst eo42
                  have p342 : 0 ≤ (x8_4 : Int) := of_decide_eq_true (by first | (with_reducible assumption) | assumption)
                  have q342 : x8_4 < (t339.length : Int) := of_decide_eq_true (by first | (with_reducible assumption) | assumption)
                  obtain ⟨ad342, e342, hx342_0⟩ := Kd.at_int (Kd.R_reads' HO_7.out).2.2 x8_4 p342 q342
                  cases e342
                  replace p342 := eq_true p342
                  replace q342 := eq_true q342
                  go_wp2_with (first | (go_at_call 21; (with_reducible refine (proteanref12_Has.calls k4 _ _ t330 (rd t339 x8_4) true _ ?side1 ?side2 A40.out).mono ?_); (case side1 => repeat (first | exact (Kd.R_reads' HO_5.out).2.2 | (with_reducible refine Kd.C_alloc ?_ _) | (with_reducible refine Kd.C_drewN ?_ _) | (with_reducible refine Kd.C_drew ?_))); (case side2 => exact (Kd.R_reads' HO_5.out).2.1); rintro e w' ⟨rfl, ⟨nd, rfl⟩⟩; (try first | exact ⟨rfl, _, World.drewN_drewN _ _ _⟩ | exact ⟨rfl, _, Eq.trans (World.drewN_drewN _ _ _) (congrArg (World.drewN _) (Nat.add_assoc _ _ _))⟩)))
                  repeat (go_quiet (first | (go_at_call 21; (with_reducible refine (proteanref12_Has.calls k4 _ _ t330 (rd t339 x8_4) true _ ?side1 ?side2 A40.out).mono ?_); (case side1 => repeat (first | exact (Kd.R_reads' HO_5.out).2.2 | (with_reducible refine Kd.C_alloc ?_ _) | (with_reducible refine Kd.C_drewN ?_ _) | (with_reducible refine Kd.C_drew ?_))); (case side2 => exact (Kd.R_reads' HO_5.out).2.1); rintro e w' ⟨rfl, ⟨nd, rfl⟩⟩; (try first | exact ⟨rfl, _, World.drewN_drewN _ _ _⟩ | exact ⟨rfl, _, Eq.trans (World.drewN_drewN _ _ _) (congrArg (World.drewN _) (Nat.add_assoc _ _ _))⟩))); try go_wp2_with (first | (go_at_call 21; (with_reducible refine (proteanref12_Has.calls k4 _ _ t330 (rd t339 x8_4) true _ ?side1 ?side2 A40.out).mono ?_); (case side1 => repeat (first | exact (Kd.R_reads' HO_5.out).2.2 | (with_reducible refine Kd.C_alloc ?_ _) | (with_reducible refine Kd.C_drewN ?_ _) | (with_reducible refine Kd.C_drew ?_))); (case side2 => exact (Kd.R_reads' HO_5.out).2.1); rintro e w' ⟨rfl, ⟨nd, rfl⟩⟩; (try first | exact ⟨rfl, _, World.drewN_drewN _ _ _⟩ | exact ⟨rfl, _, Eq.trans (World.drewN_drewN _ _ _) (congrArg (World.drewN _) (Nat.add_assoc _ _ _))⟩))))
                  go_roundg k4
                  case measure => have := HJ2.out; have := HK2.out; have := HJ24.out; have := HK4.out; omega
                  case rel => exact ⟨(wrap64 (x8_4 + 1)), (by first | rfl | (simp; done) | (simp [*]; done)), H', ⟨by have := HJ2.out; have := HK2.out; have := HJ24.out; have := HK4.out; omega⟩, ⟨by (with_reducible repeat (first | apply Kd.R_alloc | apply Kd.R_drewN | apply Kd.R_drew)); exact HO_5.out⟩, ⟨by (with_reducible repeat (first | apply Kd.R_alloc | apply Kd.R_drewN | apply Kd.R_drew)); exact HO_7.out⟩, ⟨by repeat (first | (with_reducible first | exact HB.out | apply below_alloc | apply pw_below_drewN | apply below_drew1) | exact HB.out)⟩⟩
                 ·replace c41 := Bool.eq_false_iff.mpr c41
                  subst c41
                  have H1 : (some false) = some r := by rw [if_neg (show ¬ (false = true) by decide)] at H; exact H
                  clear H
                  have H := H1
                  clear H1
                  obtain rfl := Option.some.inj H
                  obtain ⟨Ao43, co43, eo43⟩ := Kd.R_slice HO_7.out
                  subst eo43
                  have p342 : 0 ≤ (x8_4 : Int) := of_decide_eq_true (by first | (with_reducible assumption) | assumption)
                  have q342 : x8_4 < (t339.length : Int) := of_decide_eq_true (by first | (with_reducible assumption) | assumption)
                  obtain ⟨ad342, e342, hx342_0⟩ := Kd.at_int (Kd.R_reads' HO_7.out).2.2 x8_4 p342 q342
                  cases e342
                  replace p342 := eq_true p342
                  replace q342 := eq_true q342
                  go_wp2_with (first | (go_at_call 21; (with_reducible refine (proteanref12_Has.calls k4 _ _ t330 (rd t339 x8_4) false _ ?side1 ?side2 A40.out).mono ?_); (case side1 => repeat (first | exact (Kd.R_reads' HO_5.out).2.2 | (with_reducible refine Kd.C_alloc ?_ _) | (with_reducible refine Kd.C_drewN ?_ _) | (with_reducible refine Kd.C_drew ?_))); (case side2 => exact (Kd.R_reads' HO_5.out).2.1); rintro e w' ⟨rfl, ⟨nd, rfl⟩⟩; (try first | exact ⟨rfl, _, World.drewN_drewN _ _ _⟩ | exact ⟨rfl, _, Eq.trans (World.drewN_drewN _ _ _) (congrArg (World.drewN _) (Nat.add_assoc _ _ _))⟩)))
                  repeat (go_quiet (first | (go_at_call 21; (with_reducible refine (proteanref12_Has.calls k4 _ _ t330 (rd t339 x8_4) false _ ?side1 ?side2 A40.out).mono ?_); (case side1 => repeat (first | exact (Kd.R_reads' HO_5.out).2.2 | (with_reducible refine Kd.C_alloc ?_ _) | (with_reducible refine Kd.C_drewN ?_ _) | (with_reducible refine Kd.C_drew ?_))); (case side2 => exact (Kd.R_reads' HO_5.out).2.1); rintro e w' ⟨rfl, ⟨nd, rfl⟩⟩; (try first | exact ⟨rfl, _, World.drewN_drewN _ _ _⟩ | exact ⟨rfl, _, Eq.trans (World.drewN_drewN _ _ _) (congrArg (World.drewN _) (Nat.add_assoc _ _ _))⟩))); try go_wp2_with (first | (go_at_call 21; (with_reducible refine (proteanref12_Has.calls k4 _ _ t330 (rd t339 x8_4) false _ ?side1 ?side2 A40.out).mono ?_); (case side1 => repeat (first | exact (Kd.R_reads' HO_5.out).2.2 | (with_reducible refine Kd.C_alloc ?_ _) | (with_reducible refine Kd.C_drewN ?_ _) | (with_reducible refine Kd.C_drew ?_))); (case side2 => exact (Kd.R_reads' HO_5.out).2.1); rintro e w' ⟨rfl, ⟨nd, rfl⟩⟩; (try first | exact ⟨rfl, _, World.drewN_drewN _ _ _⟩ | exact ⟨rfl, _, Eq.trans (World.drewN_drewN _ _ _) (congrArg (World.drewN _) (Nat.add_assoc _ _ _))⟩))))
                  go_ret
                  exact ⟨by first | rfl | (simp [errW_none, errW_some] <;> rfl) | (simp [*, errW_none, errW_some] <;> rfl), by repeat (first | (with_reducible first | exact HB.out | apply below_alloc | apply pw_below_drewN | apply below_drew1) | exact HB.out)⟩
                ·rw [if_neg c39] at H
                 exact absurd H (by simp)
               ·rw [if_neg c38] at H
                have c38b0 : decide (x8_4 < (t339.length : Int)) = false := decide_eq_false c38
                clear c38
                have H' := Aside0.mk H
                clear H
                obtain ⟨Ao44, co44, eo44⟩ := Kd.R_slice HO_7.out
                subst eo44
                go_wp2
                repeat (go_quiet (fail); try go_wp2)
                go_loopg [9] k4 (fun kq v9 w' => ∃ (x9_5 : Int), v9 = .int .i64 x9_5 ∧ Aside0 (proteanlaw12_GraphReached.l2 kq l0 t330 x6_2 x9_5 = some r) ∧ Aside0 (kq ≤ k4) ∧ Aside0 (Kd.R (Kd.int .i64) 3 w' w.heap.size (fun _ => True) (.slice (some ad338) t330.length co23) t330) ∧ Aside0 (Below w.heap.size w w'))
                case atStart => exact ⟨(0), (by first | rfl | (simp; done) | (simp [*]; done)), H', ⟨Nat.le_refl _⟩, ⟨by (with_reducible repeat (first | apply Kd.R_alloc | apply Kd.R_drewN | apply Kd.R_drew)); exact Kd.R_mono HO_5.out (fun _ hk => trivial)⟩, ⟨by repeat (first | (with_reducible first | exact HB.out | apply below_alloc | apply pw_below_drewN | apply below_drew1) | exact HB.out)⟩⟩
                case round =>
                 clear H'
                 try clear c1
                 try clear c2
                 try clear p2
                 try clear c3
                 try clear p3
                 try clear q3
                 try clear hx3
                 try clear c4
                 try clear c5
                 try clear c6
                 try clear p6
                 try clear c7
                 try clear c9
                 try clear c10
                 try clear c10b0
                 try clear c16
                 try clear c21
                 try clear c24
                 try clear c24b0
                 try clear c26
                 try clear c26b0
                 try clear c27
                 try clear c27b0
                 try clear c28
                 try clear c28b0
                 try clear c29
                 try clear c29b0
                 try clear c31
                 try clear c31b0
                 try clear c32
                 try clear c32b0
                 try clear c33
                 try clear p33
                 try clear q33
                 try clear hx33
                 try clear c34
                 try clear c34b0
                 try clear p34
                 try clear q34
                 try clear hx34
                 try clear c35
                 try clear c35b0
                 try clear c38
                 try clear c38b0
                 try clear c39
                 try clear c39b0
                 try clear c41
                 try clear hx334_0
                 try clear hx335_0
                 try clear hx336_0
                 try clear hx337_0
                 try clear hx338_0
                 try clear hx342_0
                 try clear p2
                 try clear p3
                 try clear p33
                 try clear p334
                 try clear p335
                 try clear p336
                 try clear p337
                 try clear p338
                 try clear p342
                 try clear p6
                 try clear q3
                 try clear q33
                 try clear q334
                 try clear q335
                 try clear q336
                 try clear q337
                 try clear q338
                 try clear q342
                 obtain ⟨x9_5, rfl, HA, HK5, HO_5, HB⟩ := hrel
                 cases gk with
                 | zero => exact absurd HA.out (by simp [proteanlaw12_GraphReached.l2])
                 | succ k5 =>
                  have H := HA.out
                  clear HA
                  simp only [proteanlaw12_GraphReached.l2] at H
                  by_cases c45 : 0 ≤ x6_2
                  ·rw [if_pos c45] at H
                   have c45b0 : decide (0 ≤ x6_2) = true := decide_eq_true c45
                   clear c45
                   by_cases c46 : x6_2 < (t330.length : Int)
                   ·rw [if_pos c46] at H
                    have c46b0 : decide (x6_2 < (t330.length : Int)) = true := decide_eq_true c46
                    clear c46
                    by_cases c47 : 0 ≤ (rd t330 x6_2)
                    ·rw [if_pos c47] at H
                     have c47b0 : decide (0 ≤ (rd t330 x6_2)) = true := decide_eq_true c47
                     clear c47
                     by_cases c48 : (rd t330 x6_2) < (l0.length : Int)
                     ·rw [if_pos c48] at H
                      have c48b0 : decide ((rd t330 x6_2) < (l0.length : Int)) = true := decide_eq_true c48
                      clear c48
                      by_cases c49 : x9_5 < ((rd_L9 l0 (rd t330 x6_2)).length : Int)
                      ·rw [if_pos c49] at H
                       have c49b0 : decide (x9_5 < ((rd_L9 l0 (rd t330 x6_2)).length : Int)) = true := decide_eq_true c49
                       clear c49
                       by_cases c50 : 0 ≤ x9_5
                       ·rw [if_pos c50] at H
                        have c50b0 : decide (0 ≤ x9_5) = true := decide_eq_true c50
                        clear c50
                        replace H := Option.bind_eq_some_iff.mp H
                        obtain ⟨t349, A510, H⟩ := H
                        replace H : (if t349 = true then (proteanlaw12_GraphReached.l2 k5 l0 t330 x6_2 (wrap64 (x9_5 + 1))) else (some false)) = some r := H
                        have A51 := Aside0.mk A510
                        clear A510
                        by_cases c52 : t349 = true
                        ·subst c52
                         have H1 : (proteanlaw12_GraphReached.l2 k5 l0 t330 x6_2 (wrap64 (x9_5 + 1))) = some r := by rw [if_pos rfl] at H; exact H
                         clear H
                         have H := H1
                         clear H1
                         have H' := Aside0.mk H
                         clear H
                         have p344 : 0 ≤ (x6_2 : Int) := of_decide_eq_true (by first | (with_reducible assumption) | assumption)
                         have q344 : x6_2 < (t330.length : Int) := of_decide_eq_true (by first | (with_reducible assumption) | assumption)
                         obtain ⟨ad344, e344, hx344_0⟩ := Kd.at_int (Kd.R_reads' HO_5.out).2.2 x6_2 p344 q344
                         obtain rfl : ad338 = ad344 := (by injection e344)
                         replace p344 := eq_true p344
                         replace q344 := eq_true q344
                         have p345 : 0 ≤ ((rd t330 x6_2) : Int) := of_decide_eq_true (by first | (with_reducible assumption) | assumption)
                         have q345 : (rd t330 x6_2) < (l0.length : Int) := of_decide_eq_true (by first | (with_reducible assumption) | assumption)
                         obtain ⟨ad345, A345_0, c345_0, e345, hx345_0, hl345_0, hi345_0⟩ := at_L9 HR0.out (rd t330 x6_2) p345 q345
                         cases e345
                         replace hx345_0 := (HB.out.cell (World.block_lt_of_cell? w _ hx345_0)).trans hx345_0
                         have HR345_0 := Aside0.mk hi345_0
                         have HC345_0 := Aside0.mk hl345_0
                         clear hi345_0 hl345_0
                         replace p345 := eq_true p345
                         replace q345 := eq_true q345
                         have p346 : 0 ≤ (x6_2 : Int) := of_decide_eq_true (by first | (with_reducible assumption) | assumption)
                         have q346 : x6_2 < (t330.length : Int) := of_decide_eq_true (by first | (with_reducible assumption) | assumption)
                         obtain ⟨ad346, e346, hx346_0⟩ := Kd.at_int (Kd.R_reads' HO_5.out).2.2 x6_2 p346 q346
                         obtain rfl : ad338 = ad346 := (by injection e346)
                         replace p346 := eq_true p346
                         replace q346 := eq_true q346
                         have p347 : 0 ≤ ((rd t330 x6_2) : Int) := of_decide_eq_true (by first | (with_reducible assumption) | assumption)
                         have q347 : (rd t330 x6_2) < (l0.length : Int) := of_decide_eq_true (by first | (with_reducible assumption) | assumption)
                         obtain ⟨ad347, A347_0, c347_0, e347, hx347_0, hl347_0, hi347_0⟩ := at_L9 HR0.out (rd t330 x6_2) p347 q347
                         obtain rfl : ad345 = ad347 := (by injection e347)
                         replace hx347_0 := (HB.out.cell (World.block_lt_of_cell? w _ hx347_0)).trans hx347_0
                         have HR347_0 := Aside0.mk hi347_0
                         have HC347_0 := Aside0.mk hl347_0
                         clear hi347_0 hl347_0
                         replace p347 := eq_true p347
                         replace q347 := eq_true q347
                         have ea_ := Option.some.inj (hx345_0.symm.trans hx347_0)
                         injection ea_ with ea_ en_ ec_
                         subst ea_
                         subst ec_
                         clear en_
                         have p348 : 0 ≤ (x9_5 : Int) := of_decide_eq_true (by first | (with_reducible assumption) | assumption)
                         have q348 : x9_5 < ((rd_L9 l0 (rd t330 x6_2)).length : Int) := of_decide_eq_true (by first | (with_reducible assumption) | assumption)
                         obtain ⟨ad348, e348, hx348_0⟩ := Kd.at_int HR347_0.out x9_5 p348 q348
                         cases e348
                         replace hx348_0 := (HB.out.cell (World.block_lt_of_cell? w _ hx348_0)).trans hx348_0
                         replace p348 := eq_true p348
                         replace q348 := eq_true q348
                         go_wp2_with (first | (go_at_call 21; (with_reducible refine (proteanref12_Has.calls k5 _ _ t330 (rd (rd_L9 l0 (rd t330 x6_2)) x9_5) true _ ?side1 ?side2 A51.out).mono ?_); (case side1 => repeat (first | exact (Kd.R_reads' HO_5.out).2.2 | (with_reducible refine Kd.C_alloc ?_ _) | (with_reducible refine Kd.C_drewN ?_ _) | (with_reducible refine Kd.C_drew ?_))); (case side2 => exact (Kd.R_reads' HO_5.out).2.1); rintro e w' ⟨rfl, ⟨nd, rfl⟩⟩; (try first | exact ⟨rfl, _, World.drewN_drewN _ _ _⟩ | exact ⟨rfl, _, Eq.trans (World.drewN_drewN _ _ _) (congrArg (World.drewN _) (Nat.add_assoc _ _ _))⟩)))
                         repeat (go_quiet (first | (go_at_call 21; (with_reducible refine (proteanref12_Has.calls k5 _ _ t330 (rd (rd_L9 l0 (rd t330 x6_2)) x9_5) true _ ?side1 ?side2 A51.out).mono ?_); (case side1 => repeat (first | exact (Kd.R_reads' HO_5.out).2.2 | (with_reducible refine Kd.C_alloc ?_ _) | (with_reducible refine Kd.C_drewN ?_ _) | (with_reducible refine Kd.C_drew ?_))); (case side2 => exact (Kd.R_reads' HO_5.out).2.1); rintro e w' ⟨rfl, ⟨nd, rfl⟩⟩; (try first | exact ⟨rfl, _, World.drewN_drewN _ _ _⟩ | exact ⟨rfl, _, Eq.trans (World.drewN_drewN _ _ _) (congrArg (World.drewN _) (Nat.add_assoc _ _ _))⟩))); try go_wp2_with (first | (go_at_call 21; (with_reducible refine (proteanref12_Has.calls k5 _ _ t330 (rd (rd_L9 l0 (rd t330 x6_2)) x9_5) true _ ?side1 ?side2 A51.out).mono ?_); (case side1 => repeat (first | exact (Kd.R_reads' HO_5.out).2.2 | (with_reducible refine Kd.C_alloc ?_ _) | (with_reducible refine Kd.C_drewN ?_ _) | (with_reducible refine Kd.C_drew ?_))); (case side2 => exact (Kd.R_reads' HO_5.out).2.1); rintro e w' ⟨rfl, ⟨nd, rfl⟩⟩; (try first | exact ⟨rfl, _, World.drewN_drewN _ _ _⟩ | exact ⟨rfl, _, Eq.trans (World.drewN_drewN _ _ _) (congrArg (World.drewN _) (Nat.add_assoc _ _ _))⟩))))
                         go_roundg k5
                         case measure => have := HJ2.out; have := HK2.out; have := HJ24.out; have := HK4.out; have := HK5.out; omega
                         case rel => exact ⟨(wrap64 (x9_5 + 1)), (by first | rfl | (simp; done) | (simp [*]; done)), H', ⟨by have := HJ2.out; have := HK2.out; have := HJ24.out; have := HK4.out; have := HK5.out; omega⟩, ⟨by (with_reducible repeat (first | apply Kd.R_alloc | apply Kd.R_drewN | apply Kd.R_drew)); exact HO_5.out⟩, ⟨by repeat (first | (with_reducible first | exact HB.out | apply below_alloc | apply pw_below_drewN | apply below_drew1) | exact HB.out)⟩⟩
                        ·replace c52 := Bool.eq_false_iff.mpr c52
                         subst c52
                         have H1 : (some false) = some r := by rw [if_neg (show ¬ (false = true) by decide)] at H; exact H
                         clear H
                         have H := H1
                         clear H1
                         obtain rfl := Option.some.inj H
                         have p344 : 0 ≤ (x6_2 : Int) := of_decide_eq_true (by first | (with_reducible assumption) | assumption)
                         have q344 : x6_2 < (t330.length : Int) := of_decide_eq_true (by first | (with_reducible assumption) | assumption)
                         obtain ⟨ad344, e344, hx344_0⟩ := Kd.at_int (Kd.R_reads' HO_5.out).2.2 x6_2 p344 q344
                         obtain rfl : ad338 = ad344 := (by injection e344)
                         replace p344 := eq_true p344
                         replace q344 := eq_true q344
                         have p345 : 0 ≤ ((rd t330 x6_2) : Int) := of_decide_eq_true (by first | (with_reducible assumption) | assumption)
                         have q345 : (rd t330 x6_2) < (l0.length : Int) := of_decide_eq_true (by first | (with_reducible assumption) | assumption)
                         obtain ⟨ad345, A345_0, c345_0, e345, hx345_0, hl345_0, hi345_0⟩ := at_L9 HR0.out (rd t330 x6_2) p345 q345
                         cases e345
                         replace hx345_0 := (HB.out.cell (World.block_lt_of_cell? w _ hx345_0)).trans hx345_0
                         have HR345_0 := Aside0.mk hi345_0
                         have HC345_0 := Aside0.mk hl345_0
                         clear hi345_0 hl345_0
                         replace p345 := eq_true p345
                         replace q345 := eq_true q345
                         have p346 : 0 ≤ (x6_2 : Int) := of_decide_eq_true (by first | (with_reducible assumption) | assumption)
                         have q346 : x6_2 < (t330.length : Int) := of_decide_eq_true (by first | (with_reducible assumption) | assumption)
                         obtain ⟨ad346, e346, hx346_0⟩ := Kd.at_int (Kd.R_reads' HO_5.out).2.2 x6_2 p346 q346
                         obtain rfl : ad338 = ad346 := (by injection e346)
                         replace p346 := eq_true p346
                         replace q346 := eq_true q346
                         have p347 : 0 ≤ ((rd t330 x6_2) : Int) := of_decide_eq_true (by first | (with_reducible assumption) | assumption)
                         have q347 : (rd t330 x6_2) < (l0.length : Int) := of_decide_eq_true (by first | (with_reducible assumption) | assumption)
                         obtain ⟨ad347, A347_0, c347_0, e347, hx347_0, hl347_0, hi347_0⟩ := at_L9 HR0.out (rd t330 x6_2) p347 q347
                         obtain rfl : ad345 = ad347 := (by injection e347)
                         replace hx347_0 := (HB.out.cell (World.block_lt_of_cell? w _ hx347_0)).trans hx347_0
                         have HR347_0 := Aside0.mk hi347_0
                         have HC347_0 := Aside0.mk hl347_0
                         clear hi347_0 hl347_0
                         replace p347 := eq_true p347
                         replace q347 := eq_true q347
                         have ea_ := Option.some.inj (hx345_0.symm.trans hx347_0)
                         injection ea_ with ea_ en_ ec_
                         subst ea_
                         subst ec_
                         clear en_
                         have p348 : 0 ≤ (x9_5 : Int) := of_decide_eq_true (by first | (with_reducible assumption) | assumption)
                         have q348 : x9_5 < ((rd_L9 l0 (rd t330 x6_2)).length : Int) := of_decide_eq_true (by first | (with_reducible assumption) | assumption)
                         obtain ⟨ad348, e348, hx348_0⟩ := Kd.at_int HR347_0.out x9_5 p348 q348
                         cases e348
                         replace hx348_0 := (HB.out.cell (World.block_lt_of_cell? w _ hx348_0)).trans hx348_0
                         replace p348 := eq_true p348
                         replace q348 := eq_true q348
                         go_wp2_with (first | (go_at_call 21; (with_reducible refine (proteanref12_Has.calls k5 _ _ t330 (rd (rd_L9 l0 (rd t330 x6_2)) x9_5) false _ ?side1 ?side2 A51.out).mono ?_); (case side1 => repeat (first | exact (Kd.R_reads' HO_5.out).2.2 | (with_reducible refine Kd.C_alloc ?_ _) | (with_reducible refine Kd.C_drewN ?_ _) | (with_reducible refine Kd.C_drew ?_))); (case side2 => exact (Kd.R_reads' HO_5.out).2.1); rintro e w' ⟨rfl, ⟨nd, rfl⟩⟩; (try first | exact ⟨rfl, _, World.drewN_drewN _ _ _⟩ | exact ⟨rfl, _, Eq.trans (World.drewN_drewN _ _ _) (congrArg (World.drewN _) (Nat.add_assoc _ _ _))⟩)))
                         repeat (go_quiet (first | (go_at_call 21; (with_reducible refine (proteanref12_Has.calls k5 _ _ t330 (rd (rd_L9 l0 (rd t330 x6_2)) x9_5) false _ ?side1 ?side2 A51.out).mono ?_); (case side1 => repeat (first | exact (Kd.R_reads' HO_5.out).2.2 | (with_reducible refine Kd.C_alloc ?_ _) | (with_reducible refine Kd.C_drewN ?_ _) | (with_reducible refine Kd.C_drew ?_))); (case side2 => exact (Kd.R_reads' HO_5.out).2.1); rintro e w' ⟨rfl, ⟨nd, rfl⟩⟩; (try first | exact ⟨rfl, _, World.drewN_drewN _ _ _⟩ | exact ⟨rfl, _, Eq.trans (World.drewN_drewN _ _ _) (congrArg (World.drewN _) (Nat.add_assoc _ _ _))⟩))); try go_wp2_with (first | (go_at_call 21; (with_reducible refine (proteanref12_Has.calls k5 _ _ t330 (rd (rd_L9 l0 (rd t330 x6_2)) x9_5) false _ ?side1 ?side2 A51.out).mono ?_); (case side1 => repeat (first | exact (Kd.R_reads' HO_5.out).2.2 | (with_reducible refine Kd.C_alloc ?_ _) | (with_reducible refine Kd.C_drewN ?_ _) | (with_reducible refine Kd.C_drew ?_))); (case side2 => exact (Kd.R_reads' HO_5.out).2.1); rintro e w' ⟨rfl, ⟨nd, rfl⟩⟩; (try first | exact ⟨rfl, _, World.drewN_drewN _ _ _⟩ | exact ⟨rfl, _, Eq.trans (World.drewN_drewN _ _ _) (congrArg (World.drewN _) (Nat.add_assoc _ _ _))⟩))))
                         go_ret
                         exact ⟨by first | rfl | (simp [errW_none, errW_some] <;> rfl) | (simp [*, errW_none, errW_some] <;> rfl), by repeat (first | (with_reducible first | exact HB.out | apply below_alloc | apply pw_below_drewN | apply below_drew1) | exact HB.out)⟩
                       ·rw [if_neg c50] at H
                        exact absurd H (by simp)
                      ·rw [if_neg c49] at H
                       have c49b0 : decide (x9_5 < ((rd_L9 l0 (rd t330 x6_2)).length : Int)) = false := decide_eq_false c49
                       clear c49
                       have H' := Aside0.mk H
                       clear H
                       have p344 : 0 ≤ (x6_2 : Int) := of_decide_eq_true (by first | (with_reducible assumption) | assumption)
                       have q344 : x6_2 < (t330.length : Int) := of_decide_eq_true (by first | (with_reducible assumption) | assumption)
                       obtain ⟨ad344, e344, hx344_0⟩ := Kd.at_int (Kd.R_reads' HO_5.out).2.2 x6_2 p344 q344
                       obtain rfl : ad338 = ad344 := (by injection e344)
                       replace p344 := eq_true p344
                       replace q344 := eq_true q344
                       have p345 : 0 ≤ ((rd t330 x6_2) : Int) := of_decide_eq_true (by first | (with_reducible assumption) | assumption)
                       have q345 : (rd t330 x6_2) < (l0.length : Int) := of_decide_eq_true (by first | (with_reducible assumption) | assumption)
                       obtain ⟨ad345, A345_0, c345_0, e345, hx345_0, hl345_0, hi345_0⟩ := at_L9 HR0.out (rd t330 x6_2) p345 q345
                       cases e345
                       replace hx345_0 := (HB.out.cell (World.block_lt_of_cell? w _ hx345_0)).trans hx345_0
                       have HR345_0 := Aside0.mk hi345_0
                       have HC345_0 := Aside0.mk hl345_0
                       clear hi345_0 hl345_0
                       replace p345 := eq_true p345
                       replace q345 := eq_true q345
                       go_wp2
                       repeat (go_quiet (fail); try go_wp2)
                       go_roundg k5
                       case measure => have := HJ2.out; have := HK2.out; have := HJ24.out; have := HK4.out; have := HK5.out; omega
                       case rel => exact ⟨(wrap64 (x6_2 + 1)), (by first | rfl | (simp; done) | (simp [*]; done)), H', ⟨by have := HJ2.out; have := HK2.out; have := HJ24.out; have := HK4.out; have := HK5.out; omega⟩, ⟨by (with_reducible repeat (first | apply Kd.R_alloc | apply Kd.R_drewN | apply Kd.R_drew)); exact HO_5.out⟩, ⟨by repeat (first | (with_reducible first | exact HB.out | apply below_alloc | apply pw_below_drewN | apply below_drew1) | exact HB.out)⟩⟩
                     ·rw [if_neg c48] at H
                      exact absurd H (by simp)
                    ·rw [if_neg c47] at H
                     exact absurd H (by simp)
                   ·rw [if_neg c46] at H
                    exact absurd H (by simp)
                  ·rw [if_neg c45] at H
                   exact absurd H (by simp)
            ·rw [if_neg c35] at H
             exact absurd H (by simp)
           ·rw [if_neg c34] at H
            exact absurd H (by simp)
       ·rw [if_neg c24] at H
        have c24b0 : decide (x6_2 < (t330.length : Int)) = false := decide_eq_false c24
        clear c24
        obtain rfl := Option.some.inj H
        go_wp2
        repeat (go_quiet (fail); try go_wp2)
        go_ret
        exact ⟨by first | rfl | (simp [errW_none, errW_some] <;> rfl) | (simp [*, errW_none, errW_some] <;> rfl), by repeat (first | (with_reducible first | exact HB.out | apply below_alloc | apply pw_below_drewN | apply below_drew1) | exact HB.out)⟩
    ·replace c21 := Bool.eq_false_iff.mpr c21
     subst c21
     have H1 : (some false) = some r := by rw [if_neg (show ¬ (false = true) by decide)] at H; exact H
     clear H
     have H := H1
     clear H1
     obtain rfl := Option.some.inj H
     go_wp2_with (first | (go_at_call 17; (with_reducible refine (graph_Reach.calls kj2 _ _ l0 a1 t330 _ ?side1 ?side2 A19.out).mono ?_); (case side1 => repeat (first | exact (Kd.C_below HR0.out HB.out) | (with_reducible refine Kd.C_alloc ?_ _) | (with_reducible refine Kd.C_drewN ?_ _) | (with_reducible refine Kd.C_drew ?_))); (case side2 => exact HC0.out); rintro e w53 ⟨v331, rfl, ho0, hb⟩; have n0_ := Aside0.mk (Kd.R_lower ho0 (below_size (by repeat (first | (with_reducible first | exact HB.out | apply below_alloc | apply pw_below_drewN | apply below_drew1) | exact HB.out)))); have n1_ := Aside0.mk (below_step (by repeat (first | (with_reducible first | exact HB.out | apply below_alloc | apply pw_below_drewN | apply below_drew1) | exact HB.out)) hb); clear HB; have HO332 := n0_; have HB := n1_; clear n0_ n1_; (try clear hb); (try clear hb2); (try clear hk); (try clear hi); (try clear ho0); obtain ⟨Ao54, co54, eo54⟩ := Kd.R_slice HO332.out; subst eo54) | (go_at_call 21; (with_reducible refine (proteanref12_Has.calls kj2 _ _ t330 a1 false _ ?side1 ?side2 A20.out).mono ?_); (case side1 => repeat (first | exact (Kd.R_reads' HO332.out).2.2 | (with_reducible refine Kd.C_alloc ?_ _) | (with_reducible refine Kd.C_drewN ?_ _) | (with_reducible refine Kd.C_drew ?_))); (case side2 => exact (Kd.R_reads' HO332.out).2.1); rintro e w' ⟨rfl, ⟨nd, rfl⟩⟩; (try first | exact ⟨rfl, _, World.drewN_drewN _ _ _⟩ | exact ⟨rfl, _, Eq.trans (World.drewN_drewN _ _ _) (congrArg (World.drewN _) (Nat.add_assoc _ _ _))⟩)))
     repeat (go_quiet (first | (go_at_call 17; (with_reducible refine (graph_Reach.calls kj2 _ _ l0 a1 t330 _ ?side1 ?side2 A19.out).mono ?_); (case side1 => repeat (first | exact (Kd.C_below HR0.out HB.out) | (with_reducible refine Kd.C_alloc ?_ _) | (with_reducible refine Kd.C_drewN ?_ _) | (with_reducible refine Kd.C_drew ?_))); (case side2 => exact HC0.out); rintro e w53 ⟨v331, rfl, ho0, hb⟩; have n0_ := Aside0.mk (Kd.R_lower ho0 (below_size (by repeat (first | (with_reducible first | exact HB.out | apply below_alloc | apply pw_below_drewN | apply below_drew1) | exact HB.out)))); have n1_ := Aside0.mk (below_step (by repeat (first | (with_reducible first | exact HB.out | apply below_alloc | apply pw_below_drewN | apply below_drew1) | exact HB.out)) hb); clear HB; have HO332 := n0_; have HB := n1_; clear n0_ n1_; (try clear hb); (try clear hb2); (try clear hk); (try clear hi); (try clear ho0); obtain ⟨Ao54, co54, eo54⟩ := Kd.R_slice HO332.out; subst eo54) | (go_at_call 21; (with_reducible refine (proteanref12_Has.calls kj2 _ _ t330 a1 false _ ?side1 ?side2 A20.out).mono ?_); (case side1 => repeat (first | exact (Kd.R_reads' HO332.out).2.2 | (with_reducible refine Kd.C_alloc ?_ _) | (with_reducible refine Kd.C_drewN ?_ _) | (with_reducible refine Kd.C_drew ?_))); (case side2 => exact (Kd.R_reads' HO332.out).2.1); rintro e w' ⟨rfl, ⟨nd, rfl⟩⟩; (try first | exact ⟨rfl, _, World.drewN_drewN _ _ _⟩ | exact ⟨rfl, _, Eq.trans (World.drewN_drewN _ _ _) (congrArg (World.drewN _) (Nat.add_assoc _ _ _))⟩))); try go_wp2_with (first | (go_at_call 17; (with_reducible refine (graph_Reach.calls kj2 _ _ l0 a1 t330 _ ?side1 ?side2 A19.out).mono ?_); (case side1 => repeat (first | exact (Kd.C_below HR0.out HB.out) | (with_reducible refine Kd.C_alloc ?_ _) | (with_reducible refine Kd.C_drewN ?_ _) | (with_reducible refine Kd.C_drew ?_))); (case side2 => exact HC0.out); rintro e w53 ⟨v331, rfl, ho0, hb⟩; have n0_ := Aside0.mk (Kd.R_lower ho0 (below_size (by repeat (first | (with_reducible first | exact HB.out | apply below_alloc | apply pw_below_drewN | apply below_drew1) | exact HB.out)))); have n1_ := Aside0.mk (below_step (by repeat (first | (with_reducible first | exact HB.out | apply below_alloc | apply pw_below_drewN | apply below_drew1) | exact HB.out)) hb); clear HB; have HO332 := n0_; have HB := n1_; clear n0_ n1_; (try clear hb); (try clear hb2); (try clear hk); (try clear hi); (try clear ho0); obtain ⟨Ao54, co54, eo54⟩ := Kd.R_slice HO332.out; subst eo54) | (go_at_call 21; (with_reducible refine (proteanref12_Has.calls kj2 _ _ t330 a1 false _ ?side1 ?side2 A20.out).mono ?_); (case side1 => repeat (first | exact (Kd.R_reads' HO332.out).2.2 | (with_reducible refine Kd.C_alloc ?_ _) | (with_reducible refine Kd.C_drewN ?_ _) | (with_reducible refine Kd.C_drew ?_))); (case side2 => exact (Kd.R_reads' HO332.out).2.1); rintro e w' ⟨rfl, ⟨nd, rfl⟩⟩; (try first | exact ⟨rfl, _, World.drewN_drewN _ _ _⟩ | exact ⟨rfl, _, Eq.trans (World.drewN_drewN _ _ _) (congrArg (World.drewN _) (Nat.add_assoc _ _ _))⟩))))
     go_ret
     exact ⟨by first | rfl | (simp [errW_none, errW_some] <;> rfl) | (simp [*, errW_none, errW_some] <;> rfl), by repeat (first | (with_reducible first | exact HB.out | apply below_alloc | apply pw_below_drewN | apply below_drew1) | exact HB.out)⟩

end Go.Proofs.Ytdbngbmokgeeiaa.Pr

namespace Go.Proofs.Ytdbngbmokgeeiaa.Man
open Go.RowKit Go.Proofs.Ytdbngbmokgeeiaa.Pr Go.Proofs.YtdbngbmokgeeiaaW.PrintWords
set_option linter.unusedVariables false
set_option linter.unusedSimpArgs false

theorem small_ev (g : List (List Int)) (hl : g.length ≤ 9223372036854775807) : ∃ b, Ev (fun k => proteanlaw12_small.f k g) b ∧ (b = true → g.length ≤ 60 ∧ ∀ i : Nat, (g.getD i []).length ≤ 60) := by
  have main : ∀ m i : Nat, i + m = g.length → ∃ b, Ev (fun k => proteanlaw12_small.l0 k g (i : Int)) b ∧ (b = true → g.length ≤ 60 ∧ ∀ v : Nat, i ≤ v → (g.getD v []).length ≤ 60) := by
    intro m
    induction m with
    | zero =>
      intro i hi
      refine ⟨decide ((g.length : Int) ≤ 60), Ev.step ?_, fun h => ⟨by have := of_decide_eq_true h; omega, fun v hv => ?_⟩⟩
      · have c : ¬ (i : Int) < (g.length : Int) := by omega
        simp only [proteanlaw12_small.l0, if_neg c]
        exact Ev.const _
      · rw [List.getD_eq_getElem?_getD, List.getElem?_eq_none (by omega)]; simp
    | succ m ih =>
      intro i hi
      obtain ⟨b, e, hb⟩ := ih (i + 1) (by omega)
      have c : (i : Int) < (g.length : Int) := by omega
      have c0 : 0 ≤ (i : Int) := Int.natCast_nonneg i
      by_cases hr : ((rd_L9 g (i : Int)).length : Int) > 60
      · refine ⟨false, Ev.step ?_, fun h => by cases h⟩
        simp only [proteanlaw12_small.l0, if_pos c, if_pos c0, if_pos hr]
        exact Ev.const _
      · refine ⟨b, Ev.step ?_, fun h => ⟨(hb h).1, fun v hv => ?_⟩⟩
        · simp only [proteanlaw12_small.l0, if_pos c, if_pos c0, if_neg hr, wz i (Nat.lt_of_lt_of_le (show i < g.length by omega) hl)]
          exact e
        · by_cases ev : v = i
          · subst ev; rw [rd9] at hr; omega
          · exact (hb h).2 v (by omega)
  obtain ⟨b, e, h⟩ := main g.length 0 (by omega)
  exact ⟨b, e, fun hb => ⟨(h hb).1, fun i => (h hb).2 i (Nat.zero_le _)⟩⟩
theorem reach_len {g : List (List Int)} (hs : Sm g) (n : Int) : (reachF g n).length ≤ 1000000 := by
  have hn := hs.1
  unfold reachF reachL
  split
  · rw [List.length_map]; exact Nat.le_trans (List.length_filter_le _ _) (by simp; omega)
  · simp
end Go.Proofs.Ytdbngbmokgeeiaa.Man

namespace Go.Proofs.Ytdbngbmokgeeiaa.Man
open Go.RowKit Go.Proofs.Ytdbngbmokgeeiaa.Pr Go.Proofs.YtdbngbmokgeeiaaW.PrintWords
set_option linter.unusedVariables false
set_option linter.unusedSimpArgs false

/-! ### The turned graph -/
theorem mem_reach {g : List (List Int)} (hm : mayB g = true) {a : Nat} (ha : a < g.length) {x : Int} : x ∈ reachF g (a : Int) ↔ ∃ b : Nat, b < g.length ∧ x = (b : Int) ∧ Rch g a b := by
  unfold reachF
  rw [if_pos ⟨hm, by omega, by omega⟩, Int.toNat_natCast]
  unfold reachL
  simp only [List.mem_map, List.mem_filter, List.mem_range, decide_eq_true_eq]
  constructor
  · rintro ⟨b, ⟨h1, h2⟩, rfl⟩; exact ⟨b, h1, rfl, h2⟩
  · rintro ⟨b, h1, rfl, h2⟩; exact ⟨b, ⟨h1, h2⟩, rfl⟩
end Go.Proofs.Ytdbngbmokgeeiaa.Man

namespace Go.Proofs.Ytdbngbmokgeeiaa.Man
open Go.RowKit Go.Proofs.Ytdbngbmokgeeiaa.Pr Go.Proofs.YtdbngbmokgeeiaaW.PrintWords
set_option linter.unusedVariables false
set_option linter.unusedSimpArgs false

theorem reachL_rises (g : List (List Int)) (n : Nat) : (reachL g n).Pairwise (· < ·) := by
  unfold reachL
  rw [List.pairwise_map]
  refine List.Pairwise.imp (fun {a b} h => ?_) (List.Pairwise.filter _ List.pairwise_lt_range)
  exact Int.ofNat_lt.2 h
section
variable {g : List (List Int)} {n : Nat}
theorem reached_steps (hs : Sm g) (hm : mayB g = true) (hn : n < g.length) (l : List Int) (hl : l = reachF g (n : Int)) (i : Nat) (hi : i < l.length) (y : Nat) (hy : l[i] = (y : Int)) (hyN : y < g.length) (hr : Rch g n y)
    (h : Ev (fun k => proteanlaw12_GraphReached.l0 k g l ((i + 1 : Nat) : Int)) true) : ∀ m j : Nat, j + m = (g.getD y []).length → Ev (fun k => proteanlaw12_GraphReached.l2 k g l (i : Int) (j : Int)) true := by
  have hll : l.length ≤ 1000000 := by rw [hl]; exact reach_len hs _
  have hsy := hs.2 y
  have c1 : 0 ≤ (i : Int) := Int.natCast_nonneg i
  have c2 : (i : Int) < (l.length : Int) := Int.ofNat_lt.2 hi
  have erd : rd l (i : Int) = (y : Int) := by rw [rd_lt hi]; exact hy
  have c3 : 0 ≤ (y : Int) := Int.natCast_nonneg y
  have c4 : (y : Int) < (g.length : Int) := Int.ofNat_lt.2 hyN
  intro m
  induction m with
  | zero =>
    intro j hj
    refine Ev.step ?_
    have c5 : ¬ (j : Int) < ((rd_L9 g (y : Int)).length : Int) := by rw [rd9]; omega
    simp only [proteanlaw12_GraphReached.l2, if_pos c1, if_pos c2, erd, if_pos c3, if_pos c4, if_neg c5, pz i (by omega)]
    exact h
  | succ m ih =>
    intro j hj
    have e := ih (j + 1) (by omega)
    refine Ev.step ?_
    have hjl : j < (g.getD y []).length := by omega
    have c5 : (j : Int) < ((rd_L9 g (y : Int)).length : Int) := by rw [rd9]; omega
    have c6 : 0 ≤ (j : Int) := Int.natCast_nonneg j
    simp only [proteanlaw12_GraphReached.l2, if_pos c1, if_pos c2, erd, if_pos c3, if_pos c4, if_pos c5, if_pos c6]
    refine Ev.bind (has_ev l _ hll) ?_
    have hmem : (g.getD y [])[j] ∈ g.getD y [] := List.getElem_mem hjl
    obtain ⟨q1, q2⟩ := mayB_in hm y hyN _ hmem
    have hin : rd (rd_L9 g (y : Int)) (j : Int) ∈ l := by
      rw [rd9, rd_lt hjl, hl]
      exact (mem_reach hm hn).2 ⟨((g.getD y [])[j]).toNat, by omega, by omega, .step hr hmem⟩
    simp only [decide_eq_true hin, if_true, pz j (by omega)]
    exact e
theorem reached_more (hs : Sm g) (hm : mayB g = true) (hn : n < g.length) (l : List Int) (hl : l = reachF g (n : Int)) (i : Nat) (hi : i < l.length) (y : Nat) (hy : l[i] = (y : Int)) (hyN : y < g.length) (hr : Rch g n y)
    (h : Ev (fun k => proteanlaw12_GraphReached.l0 k g l ((i + 1 : Nat) : Int)) true) (b : List Int) (hb : b = reachF g (y : Int)) : ∀ m j : Nat, j + m = b.length → Ev (fun k => proteanlaw12_GraphReached.l1 k g l (i : Int) b (j : Int)) true := by
  have hll : l.length ≤ 1000000 := by rw [hl]; exact reach_len hs _
  have hbl : b.length ≤ 1000000 := by rw [hb]; exact reach_len hs _
  intro m
  induction m with
  | zero =>
    intro j hj
    refine Ev.step ?_
    have c : ¬ (j : Int) < (b.length : Int) := by omega
    simp only [proteanlaw12_GraphReached.l1, if_neg c]
    exact reached_steps hs hm hn l hl i hi y hy hyN hr h (g.getD y []).length 0 (by omega)
  | succ m ih =>
    intro j hj
    have e := ih (j + 1) (by omega)
    refine Ev.step ?_
    have hjl : j < b.length := by omega
    have c : (j : Int) < (b.length : Int) := by omega
    have c0 : 0 ≤ (j : Int) := Int.natCast_nonneg j
    simp only [proteanlaw12_GraphReached.l1, if_pos c, if_pos c0]
    refine Ev.bind (has_ev l _ hll) ?_
    have hin : rd b (j : Int) ∈ l := by
      rw [rd_lt hjl]
      have h1 : b[j] ∈ reachF g (y : Int) := by rw [← hb]; exact List.getElem_mem hjl
      obtain ⟨z, hz, e1, hz2⟩ := (mem_reach hm hyN).1 h1
      rw [hl, e1]
      exact (mem_reach hm hn).2 ⟨z, hz, rfl, hr.trans hz2⟩
    simp only [decide_eq_true hin, if_true, pz j (by omega)]
    exact e
theorem reached_all (hs : Sm g) (hm : mayB g = true) (hn : n < g.length) (l : List Int) (hl : l = reachF g (n : Int)) : ∀ m i : Nat, i + m = l.length → Ev (fun k => proteanlaw12_GraphReached.l0 k g l (i : Int)) true := by
  have hll : l.length ≤ 1000000 := by rw [hl]; exact reach_len hs _
  have hpw : l.Pairwise (· < ·) := by
    rw [hl]; unfold reachF; rw [if_pos ⟨hm, by omega, by omega⟩]; exact reachL_rises _ _
  intro m
  induction m with
  | zero =>
    intro i hi
    refine Ev.step ?_
    have c : ¬ (i : Int) < (l.length : Int) := by omega
    simp only [proteanlaw12_GraphReached.l0, if_neg c]
    exact Ev.const _
  | succ m ih =>
    intro i hi
    have e := ih (i + 1) (by omega)
    have hil : i < l.length := by omega
    have hmem : l[i] ∈ reachF g (n : Int) := by rw [← hl]; exact List.getElem_mem hil
    obtain ⟨y, hyN, hy, hr⟩ := (mem_reach hm hn).1 hmem
    have erd : rd l (i : Int) = (y : Int) := by rw [rd_lt hil]; exact hy
    have c : (i : Int) < (l.length : Int) := by omega
    have c0 : 0 ≤ (i : Int) := Int.natCast_nonneg i
    have c1 : ¬ (y : Int) < 0 := by omega
    have c2 : ¬ (y : Int) ≥ (g.length : Int) := by omega
    have j2 : Ev (fun k => proteanlaw12_GraphReached.j2 k g l (i : Int) false) true := by
      refine Ev.step ?_
      simp only [proteanlaw12_GraphReached.j2, Bool.false_eq_true, if_false, if_pos c0, if_pos c, erd, graph_Reach.f, if_pos hs, Option.bind_some]
      exact reached_more hs hm hn l hl i hil y hy hyN hr e _ rfl (reachF g (y : Int)).length 0 (by omega)
    refine Ev.step ?_
    cases i with
    | zero =>
      simp only [proteanlaw12_GraphReached.l0, if_pos c, if_pos c0, erd, if_neg c1, if_neg c2, if_neg (show ¬ ((0 : Nat) : Int) > 0 by decide)]
      exact j2
    | succ i' =>
      have d1 : ((i' + 1 : Nat) : Int) > 0 := by omega
      have d2 : 0 ≤ (i' : Int) := Int.natCast_nonneg i'
      have d3 : (i' : Int) < (l.length : Int) := by omega
      have hlt : ¬ rd l (i' : Int) ≥ (y : Int) := by
        have h1 := (List.pairwise_iff_getElem.1 hpw) i' (i' + 1) (by omega) hil (by omega)
        rw [rd_lt (by omega : i' < l.length)]
        rw [hy] at h1; omega
      simp only [proteanlaw12_GraphReached.l0, if_pos c, if_pos c0, erd, if_neg c1, if_neg c2, if_pos d1, pm i' (by omega), if_pos d2, if_pos d3, decide_eq_false hlt]
      exact j2
end
theorem reached_ev (g : List (List Int)) (a : Int) (hl : g.length ≤ 9223372036854775807) : Ev (fun k => proteanlaw12_GraphReached.f k g a) true := by
  have jt : Ev (fun k => proteanlaw12_GraphReached.j0 k g a true) true := by
    refine Ev.step ?_
    simp only [proteanlaw12_GraphReached.j0, if_true, proteanlaw12_fixed.f, Option.bind_some]
    exact Ev.const _
  obtain ⟨sb, es, hb⟩ := small_ev g hl
  simp only [proteanlaw12_GraphReached.f, proteanlaw12_fixed.f, Option.bind_some, if_true]
  refine Ev.bind es ?_
  cases sb with
  | false => simp only [Bool.false_eq_true, if_false]; exact jt
  | true =>
    obtain ⟨h1, h2⟩ := hb rfl
    have hs : Sm g := ⟨by omega, fun i => by have := h2 i; omega⟩
    simp only [if_true]
    refine Ev.bind (gmay_ev g hs) ?_
    cases hm : mayB g with
    | false => simp only [Bool.false_eq_true, if_false]; exact jt
    | true =>
      simp only [if_true]
      by_cases h0 : a < 0
      · simp only [if_pos h0]; exact jt
      · by_cases hh : a ≥ (g.length : Int)
        · simp only [if_neg h0, decide_eq_true hh]; exact jt
        · simp only [if_neg h0, decide_eq_false hh]
          obtain ⟨n, rfl⟩ : ∃ n : Nat, a = (n : Int) := ⟨a.toNat, by omega⟩
          have hn : n < g.length := by omega
          refine Ev.step ?_
          simp only [proteanlaw12_GraphReached.j0, Bool.false_eq_true, if_false, graph_Reach.f, if_pos hs, Option.bind_some]
          refine Ev.bind (has_ev _ (n : Int) (reach_len hs _)) ?_
          have hself : (n : Int) ∈ reachF g (n : Int) := (mem_reach hm hn).2 ⟨n, hn, rfl, .refl⟩
          simp only [decide_eq_true hself, if_true]
          exact reached_all hs hm hn _ rfl (reachF g (n : Int)).length 0 (by omega)
end Go.Proofs.Ytdbngbmokgeeiaa.Man

namespace Go.Proofs.Ytdbngbmokgeeiaa.graphReached
open Go.ChangeShapes Go.WideShapes Go.ChangeAt Go.RowKit Go.Proofs.Ytdbngbmokgeeiaa.Pr Go.Proofs.YtdbngbmokgeeiaaW.PrintWords
open Go.ChangeMaps (open_string shut_string)
set_option linter.unusedVariables false
theorem own : ownKnob Try.prog.godebug = none := by kernel_rfl
theorem laidOut : laidOutB Try.prog = true := by kernel_rfl
/-- The walk, with the law's answer. -/
theorem walk (A0 : Option Addr) (c0 : Nat) (l0 : List (List Int)) (hc0 : l0.length ≤ c0) (a1 : Int) (w : World) (hC0 : Kd.C (Kd.slice 3 (Kd.int .i64)) w A0 l0.length l0) :
    Calls Try.prog 6 #[.slice A0 l0.length c0, .int .i64 a1] w fun e w' => e = .returned (.bool true) ∧ Below w.heap.size w w' := by
  obtain ⟨k, e⟩ := Man.reached_ev l0 a1 (Kd.C_max hC0)
  exact proteanlaw12_GraphReached.calls k A0 c0 l0 a1 true w hC0 hc0 (e k (Nat.le_refl _))
set_option maxRecDepth 100000 in
set_option maxHeartbeats 4000000 in
theorem lifted (os : Os) (started : os.Started) (H : Type) (enc : TypeId × Value → H) :
    ReturnsInHanded {} Try.checked os 6 .any (Rows.graphReachedSpec.pre6 enc Try.prog Try.f6 Rows.graphReachedRow.domain false) (Rows.graphReachedSpec.post enc Try.prog Try.f6 false true false false) := by
  refine returnsInHanded_of_change_sized (C := Try.checked) own started (by kernel_rfl) Try.func6
    (ChangeSpec.witness6 (enc := enc) (C := Try.checked) false ⟨#[], #[.slice none 0 0, .int .i64 0], []⟩ 8 (by kernel_rfl) (by kernel_rfl) (by kernel_rfl) (by kernel_rfl)) ?_
  intro W base args ds gs before hval0 hW hcnd hsz0 _
  have hval : ∀ (j : Nat) t v, Try.f6.params[j]? = some t → args[j]? = some v → Value.okWide Try.prog W .any base t v := hval0
  have hW' := hW
  obtain ⟨p, q, hA0, hV, rfl, hfz, hnd⟩ := hW
  have hA : DataW.TrodAll enc Try.prog W 0 (fun _ => true) true Try.f6.params.toList args.toList ds p := hA0
  rw [Try.params6] at hA hval
  obtain ⟨v0, vs0, d0, ds0, p0, q0, hargs, rfl, rfl, h0, r0⟩ := trodAll_cons hA
  obtain ⟨v1, vs1, d1, ds1, p1, q1, rfl, rfl, rfl, h1, r1⟩ := trodAll_cons r0
  obtain ⟨rfl, rfl, rfl⟩ := trodAll_nil r1
  obtain rfl : args = #[v0, v1] := by cases args; simp_all
  obtain ⟨rfl, rfl⟩ := trodVars_none hV
  obtain ⟨b0, len0, cap0, rfl⟩ := okWide_slice Try.underlying27 (hval 0 27 v0 rfl rfl)
  have k0 := h0
  have lt0 : ∀ x ∈ p0, x.block < W.heap.size := by obtain ⟨m, hm⟩ := k0; exact DataW.trod_lt m _ _ _ hm
  obtain ⟨fuel0, hf0⟩ := h0
  obtain ⟨a1, rfl, rfl, rfl, w1⟩ := open_int Try.underlying3 (hval 1 3 v1 rfl rfl) h1
  obtain ⟨A0, c0, l0, hv0, hc0, hC0⟩ := Man.bridge_graph fuel0 _ _ _ hf0
  have e0 : Value.slice b0 len0 cap0 = Value.slice A0 l0.length c0 := by simpa [Value.cells] using hv0
  cases e0
  clear hA0 hval0 hsz0
  refine (walk _ _ l0 hc0 a1 W hC0).mono fun e W' ⟨he, bel⟩ => ?_
  subst he
  exact ⟨_, rfl, _, _, _, [], _, [], hW', trodAll_mk1 (shut_bool Try.underlying4 _), (trodAll_cons_mk (Below.trod laidOut (by kernel_rfl) (of_decide_eq_true (by kernel_rfl)) k0 bel lt0) (trodAll_cons_mk (shut_int Try.underlying3 w1) trodAll_mk0)), rfl, bel.frame _, fun h => by cases h⟩
theorem proved : Rows.GraphReachedSaid :=
  OpenClaim.holds_of_wide 6 Try.f6 rfl rfl rfl rfl rfl rfl rfl ⟨rfl, rfl, rfl, rfl, rfl⟩ rfl rfl rfl rfl rfl (by kernel_rfl) Try.func6 (by kernel_rfl)
    (of_decide_eq_true (by kernel_rfl)) (by unfold Func.isWrapper; first | (rw [if_pos (by decide +kernel)]; kernel_rfl) | (rw [if_neg (by decide +kernel)]; exact ⟨rfl, rfl⟩))
    (fun os started H enc _ => lifted os started H enc)
end Go.Proofs.Ytdbngbmokgeeiaa.graphReached
namespace Go.Proofs.Ytdbngbmokgeeiaa
/-- The row, under a short name, for the claim. -/
theorem graphReached_holds : Rows.GraphReachedSaid := graphReached.proved
end Go.Proofs.Ytdbngbmokgeeiaa
