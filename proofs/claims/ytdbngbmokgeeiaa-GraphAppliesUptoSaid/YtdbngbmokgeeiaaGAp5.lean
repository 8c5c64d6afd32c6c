/- A part of the proof that GraphApplies returns true for every argument (the row of GraphAppliesUpto: theorem graphApplies_holds). Parts: Pr8 PuG LawGraphApplies. No conditions beyond the given statement's own. -/
import Derived.Test.YtdbngbmokgeeiaaGAp1
import Derived.Test.YtdbngbmokgeeiaaGAp2
import Derived.Test.YtdbngbmokgeeiaaGAp4
import Derived.Test.YtdbngbmokgeeiaaRows
import Derived.WalkKit
import Derived.ProofKit
import Derived.OpenShut
import Derived.ShutString
import Derived.ChangeOld
import Derived.Below
import Derived.SizedLaws
import Derived.JoinedCond

-- Written by wip/xprint.py (the kit's print, run over this seat with some contracts of my own). Not trusted: Lean checks it.
namespace Go.Proofs.Ytdbngbmokgeeiaa.Pr
open Go.RowKit Go.Proofs.YtdbngbmokgeeiaaW.PrintWords Go.Proofs.YtdbngbmokgeeiaaW.PrintLast Go.Proofs.YtdbngbmokgeeiaaW.PrintMore
attribute [local go_sem] max2_int min2_int max_two min_two max_three min_three max_four min_four   -- for this text's walks alone
set_option linter.unusedVariables false
set_option linter.unusedSimpArgs false
mutual
noncomputable def w12_GraphApplies.j0 : Nat → Bool → List (S42) → Option (Bool)
  | 0, _, _ => none
  | k + 1, x14, x366000 => if x14 = true then ((w12_fixed.f).bind fun t367 => (some t367)) else ((graph_Calls.f k x366000).bind fun t368 => ((w12_fixed.f).bind fun t371 => (if t371 = true then (w12_GraphApplies.j1 k t368 ((t368.length : Int) != (x366000.length : Int)) x366000) else (w12_GraphApplies.j1 k t368 true x366000))))
noncomputable def w12_GraphApplies.j1 : Nat → List (List Int) → Bool → List (S42) → Option (Bool)
  | 0, _, _, _ => none
  | k + 1, x3, x27, x366000 => if x27 = true then (some false) else (w12_GraphApplies.l0 k x3 0 x366000)
noncomputable def w12_GraphApplies.l0 : Nat → List (List Int) → Int → List (S42) → Option (Bool)
  | 0, _, _, _ => none
  | k + 1, x3, x4, x366000 => if x4 < (x3.length : Int) then (if 0 ≤ x4 then (if x4 < (x366000.length : Int) then ((w12_does.f k ((rd_T42 x366000 x4).f2) 6).bind fun t373 => ((w12_does.f k ((rd_T42 x366000 x4).f2) 5).bind fun t375 => (if t373 = true then (if ((rd_L9 x3 x4).length : Int) = (x366000.length : Int) then (w12_GraphApplies.l0 k x3 (wrap64 (x4 + 1)) x366000) else (some false)) else (if t375 = true then (w12_GraphApplies.l0 k x3 (wrap64 (x4 + 1)) x366000) else (if ((rd_L9 x3 x4).length : Int) = 0 then (w12_GraphApplies.l0 k x3 (wrap64 (x4 + 1)) x366000) else (some false)))))) else (none)) else (none)) else (some true)
end
noncomputable def w12_GraphApplies.f (k : Nat) (l0_0 : List (S42)) : Option (Bool) := (r03_Big.f k l0_0).bind fun t366 => (if t366 = true then (w12_GraphApplies.j0 k true l0_0) else (w12_GraphApplies.j0 k (decide ((l0_0.length : Int) > 60)) l0_0))
set_option maxHeartbeats 8000000 in
set_option maxRecDepth 100000 in
theorem w12_GraphApplies.calls (k : Nat) (A0_0 : Option Addr) (c0_0 : Nat) (l0_0 : List (S42)) (r : Bool) (w : World) (hr0_0 : Kd.C k42 w A0_0 l0_0.length l0_0) (hc0_0 : l0_0.length ≤ c0_0) (h : w12_GraphApplies.f k l0_0 = some r) :
    Calls Try.prog 7 #[.agg #[.slice A0_0 l0_0.length c0_0]] w fun e w' => e = .returned (.bool r) ∧ Below w.heap.size w w' := by
 have hu24 := Try.underlying24
 have HR0_0 := Aside0.mk hr0_0
 have HC0_0 := Aside0.mk hc0_0
 clear hr0_0 hc0_0
 have HB := Aside0.mk (Below.refl w.heap.size w)
 have H : ((r03_Big.f k l0_0).bind fun t366 => (if t366 = true then (w12_GraphApplies.j0 k true l0_0) else (w12_GraphApplies.j0 k (decide ((l0_0.length : Int) > 60)) l0_0))) = some r := h
 clear h
 have HC2 := Aside0.mk H
 clear H
 go_enter Try.func7, Try.ntmps7
 go_upto_region 1 with (first | ((with_reducible refine gate_dst (N := 1) rfl ?_); (try (refine gate_guard (by rfl) ?_; dsimp only)); refine box_event ?hg (N := 1) ?hd (cs := #[.slice A0_0 l0_0.length c0_0]) (t := 24) ?hr ?_; (case hd => rfl); (case hg => rfl); (case hr => first | (go_simp; done) | (go_simp; rfl)); intro gb365 hg w3 hbox hb; have n0_ := Aside0.mk (below_step (by repeat (first | (with_reducible first | exact HB.out | apply below_alloc | apply pw_below_drewN | apply below_drew1) | exact HB.out)) hb); have n1_ := Aside0.mk (hbox); have n2_ := Aside0.mk ((by rw [hg]; exact (below_size (by repeat (first | (with_reducible first | exact HB.out | apply below_alloc | apply pw_below_drewN | apply below_drew1) | exact HB.out))) : w.heap.size ≤ gb365)); have n3_ := Aside0.mk ((by rw [hg]; exact (below_size (by repeat (first | (with_reducible first | exact HB.out | apply below_alloc | apply pw_below_drewN | apply below_drew1) | exact HB.out))) : w.heap.size ≤ gb365)); clear HB; have HB := n0_; have BK365 := n1_; have GW365 := n2_; have GE365 := n3_; clear n0_ n1_ n2_ n3_; clear hb hbox hg))
 repeat (go_quiet (first | ((with_reducible refine gate_dst (N := 1) rfl ?_); (try (refine gate_guard (by rfl) ?_; dsimp only)); refine box_event ?hg (N := 1) ?hd (cs := #[.slice A0_0 l0_0.length c0_0]) (t := 24) ?hr ?_; (case hd => rfl); (case hg => rfl); (case hr => first | (go_simp; done) | (go_simp; rfl)); intro gb365 hg w3 hbox hb; have n0_ := Aside0.mk (below_step (by repeat (first | (with_reducible first | exact HB.out | apply below_alloc | apply pw_below_drewN | apply below_drew1) | exact HB.out)) hb); have n1_ := Aside0.mk (hbox); have n2_ := Aside0.mk ((by rw [hg]; exact (below_size (by repeat (first | (with_reducible first | exact HB.out | apply below_alloc | apply pw_below_drewN | apply below_drew1) | exact HB.out))) : w.heap.size ≤ gb365)); have n3_ := Aside0.mk ((by rw [hg]; exact (below_size (by repeat (first | (with_reducible first | exact HB.out | apply below_alloc | apply pw_below_drewN | apply below_drew1) | exact HB.out))) : w.heap.size ≤ gb365)); clear HB; have HB := n0_; have BK365 := n1_; have GW365 := n2_; have GE365 := n3_; clear n0_ n1_ n2_ n3_; clear hb hbox hg)); go_upto_region 1 with (first | ((with_reducible refine gate_dst (N := 1) rfl ?_); (try (refine gate_guard (by rfl) ?_; dsimp only)); refine box_event ?hg (N := 1) ?hd (cs := #[.slice A0_0 l0_0.length c0_0]) (t := 24) ?hr ?_; (case hd => rfl); (case hg => rfl); (case hr => first | (go_simp; done) | (go_simp; rfl)); intro gb365 hg w3 hbox hb; have n0_ := Aside0.mk (below_step (by repeat (first | (with_reducible first | exact HB.out | apply below_alloc | apply pw_below_drewN | apply below_drew1) | exact HB.out)) hb); have n1_ := Aside0.mk (hbox); have n2_ := Aside0.mk ((by rw [hg]; exact (below_size (by repeat (first | (with_reducible first | exact HB.out | apply below_alloc | apply pw_below_drewN | apply below_drew1) | exact HB.out))) : w.heap.size ≤ gb365)); have n3_ := Aside0.mk ((by rw [hg]; exact (below_size (by repeat (first | (with_reducible first | exact HB.out | apply below_alloc | apply pw_below_drewN | apply below_drew1) | exact HB.out))) : w.heap.size ≤ gb365)); clear HB; have HB := n0_; have BK365 := n1_; have GW365 := n2_; have GE365 := n3_; clear n0_ n1_ n2_ n3_; clear hb hbox hg)))
 (try simp only [Act.put, List.setIfInBounds_toArray, List.set_cons_zero, List.set_cons_succ])
 go_cut [14] (fun v14 wc => ∃ (kq : Nat) (x14_1 : Bool), v14 = .bool x14_1 ∧ Aside0 (w12_GraphApplies.j0 kq x14_1 l0_0 = some r) ∧ Aside0 (kq ≤ k) ∧ Aside0 (wc.heap[gb365]? = some (.cells #[(.slice A0_0 l0_0.length c0_0)] 24 (0, 0))) ∧ Aside0 (Below w.heap.size w wc))
 case first =>
  have H := HC2.out
  clear HC2
  replace H := Option.bind_eq_some_iff.mp H
  obtain ⟨t366, A40, H⟩ := H
  replace H : (if t366 = true then (w12_GraphApplies.j0 k true l0_0) else (w12_GraphApplies.j0 k (decide ((l0_0.length : Int) > 60)) l0_0)) = some r := H
  have A4 := Aside0.mk A40
  clear A40
  by_cases c5 : t366 = true
  ·subst c5
   have H1 : (w12_GraphApplies.j0 k true l0_0) = some r := by rw [if_pos rfl] at H; exact H
   clear H
   have H := H1
   clear H1
   have H' := Aside0.mk H
   clear H
   have hcz6_0 : w3.cell? ⟨gb365, 0, none⟩ = some (.slice A0_0 l0_0.length c0_0) := (blk_cell BK365.out 0).trans rfl
   have hfz6_0 := blk_frozen BK365.out 0
   go_wp2_with (first | (go_at_call 8; (with_reducible refine (r03_Big.calls k _ _ l0_0 true _ ?side1 ?side2 A4.out).mono ?_); (case side1 => repeat (first | exact (Kd.C_below HR0_0.out HB.out) | (with_reducible refine Kd.C_alloc ?_ _) | (with_reducible refine Kd.C_drewN ?_ _) | (with_reducible refine Kd.C_drew ?_))); (case side2 => exact HC0_0.out); rintro e w7 ⟨rfl, hb⟩; have n0_ := Aside0.mk (blk_below (g := gb365) (o := .cells #[.slice A0_0 l0_0.length c0_0] 24 (0, 0)) (by (with_reducible repeat (first | refine blk_drewN ?_ _ | refine blk_drew ?_ | refine blk_alloc ?_ _)); exact BK365.out) hb); have n1_ := Aside0.mk (below_step (by repeat (first | (with_reducible first | exact HB.out | apply below_alloc | apply pw_below_drewN | apply below_drew1 | refine below_set ?_ GE365.out) | exact HB.out)) hb); clear BK365; clear HB; have BK365 := n0_; have HB := n1_; clear n0_ n1_; (try clear hb); (try clear hb2); (try clear hk); (try clear hi)))
   repeat (go_quiet (first | (go_at_call 8; (with_reducible refine (r03_Big.calls k _ _ l0_0 true _ ?side1 ?side2 A4.out).mono ?_); (case side1 => repeat (first | exact (Kd.C_below HR0_0.out HB.out) | (with_reducible refine Kd.C_alloc ?_ _) | (with_reducible refine Kd.C_drewN ?_ _) | (with_reducible refine Kd.C_drew ?_))); (case side2 => exact HC0_0.out); rintro e w7 ⟨rfl, hb⟩; have n0_ := Aside0.mk (blk_below (g := gb365) (o := .cells #[.slice A0_0 l0_0.length c0_0] 24 (0, 0)) (by (with_reducible repeat (first | refine blk_drewN ?_ _ | refine blk_drew ?_ | refine blk_alloc ?_ _)); exact BK365.out) hb); have n1_ := Aside0.mk (below_step (by repeat (first | (with_reducible first | exact HB.out | apply below_alloc | apply pw_below_drewN | apply below_drew1 | refine below_set ?_ GE365.out) | exact HB.out)) hb); clear BK365; clear HB; have BK365 := n0_; have HB := n1_; clear n0_ n1_; (try clear hb); (try clear hb2); (try clear hk); (try clear hi))); try go_wp2_with (first | (go_at_call 8; (with_reducible refine (r03_Big.calls k _ _ l0_0 true _ ?side1 ?side2 A4.out).mono ?_); (case side1 => repeat (first | exact (Kd.C_below HR0_0.out HB.out) | (with_reducible refine Kd.C_alloc ?_ _) | (with_reducible refine Kd.C_drewN ?_ _) | (with_reducible refine Kd.C_drew ?_))); (case side2 => exact HC0_0.out); rintro e w7 ⟨rfl, hb⟩; have n0_ := Aside0.mk (blk_below (g := gb365) (o := .cells #[.slice A0_0 l0_0.length c0_0] 24 (0, 0)) (by (with_reducible repeat (first | refine blk_drewN ?_ _ | refine blk_drew ?_ | refine blk_alloc ?_ _)); exact BK365.out) hb); have n1_ := Aside0.mk (below_step (by repeat (first | (with_reducible first | exact HB.out | apply below_alloc | apply pw_below_drewN | apply below_drew1 | refine below_set ?_ GE365.out) | exact HB.out)) hb); clear BK365; clear HB; have BK365 := n0_; have HB := n1_; clear n0_ n1_; (try clear hb); (try clear hb2); (try clear hk); (try clear hi))))
   go_meet
   case rel => exact ⟨_, (true), (by first | rfl | (simp; done) | (simp [*]; done)), H', ⟨by first | omega | exact Nat.le_refl _⟩, ⟨by (with_reducible repeat (first | refine blk_drewN ?_ _ | refine blk_drew ?_ | refine blk_alloc ?_ _)); exact BK365.out⟩, ⟨by repeat (first | (with_reducible first | exact HB.out | apply below_alloc | apply pw_below_drewN | apply below_drew1 | refine below_set ?_ GE365.out) | exact HB.out)⟩⟩
  ·replace c5 := Bool.eq_false_iff.mpr c5
   subst c5
   have H1 : (w12_GraphApplies.j0 k (decide ((l0_0.length : Int) > 60)) l0_0) = some r := by rw [if_neg (show ¬ (false = true) by decide)] at H; exact H
   clear H
   have H := H1
   clear H1
   have H' := Aside0.mk H
   clear H
   have hcz8_0 : w3.cell? ⟨gb365, 0, none⟩ = some (.slice A0_0 l0_0.length c0_0) := (blk_cell BK365.out 0).trans rfl
   have hfz8_0 := blk_frozen BK365.out 0
   go_wp2_with (first | (go_at_call 8; (with_reducible refine (r03_Big.calls k _ _ l0_0 false _ ?side1 ?side2 A4.out).mono ?_); (case side1 => repeat (first | exact (Kd.C_below HR0_0.out HB.out) | (with_reducible refine Kd.C_alloc ?_ _) | (with_reducible refine Kd.C_drewN ?_ _) | (with_reducible refine Kd.C_drew ?_))); (case side2 => exact HC0_0.out); rintro e w9 ⟨rfl, hb⟩; have n0_ := Aside0.mk (blk_below (g := gb365) (o := .cells #[.slice A0_0 l0_0.length c0_0] 24 (0, 0)) (by (with_reducible repeat (first | refine blk_drewN ?_ _ | refine blk_drew ?_ | refine blk_alloc ?_ _)); exact BK365.out) hb); have n1_ := Aside0.mk (below_step (by repeat (first | (with_reducible first | exact HB.out | apply below_alloc | apply pw_below_drewN | apply below_drew1 | refine below_set ?_ GE365.out) | exact HB.out)) hb); clear BK365; clear HB; have BK365 := n0_; have HB := n1_; clear n0_ n1_; (try clear hb); (try clear hb2); (try clear hk); (try clear hi); have hcz10_0 : w9.cell? ⟨gb365, 0, none⟩ = some (.slice A0_0 l0_0.length c0_0) := (blk_cell BK365.out 0).trans rfl; have hfz10_0 := blk_frozen BK365.out 0))
   repeat (go_quiet (first | (go_at_call 8; (with_reducible refine (r03_Big.calls k _ _ l0_0 false _ ?side1 ?side2 A4.out).mono ?_); (case side1 => repeat (first | exact (Kd.C_below HR0_0.out HB.out) | (with_reducible refine Kd.C_alloc ?_ _) | (with_reducible refine Kd.C_drewN ?_ _) | (with_reducible refine Kd.C_drew ?_))); (case side2 => exact HC0_0.out); rintro e w9 ⟨rfl, hb⟩; have n0_ := Aside0.mk (blk_below (g := gb365) (o := .cells #[.slice A0_0 l0_0.length c0_0] 24 (0, 0)) (by (with_reducible repeat (first | refine blk_drewN ?_ _ | refine blk_drew ?_ | refine blk_alloc ?_ _)); exact BK365.out) hb); have n1_ := Aside0.mk (below_step (by repeat (first | (with_reducible first | exact HB.out | apply below_alloc | apply pw_below_drewN | apply below_drew1 | refine below_set ?_ GE365.out) | exact HB.out)) hb); clear BK365; clear HB; have BK365 := n0_; have HB := n1_; clear n0_ n1_; (try clear hb); (try clear hb2); (try clear hk); (try clear hi); have hcz10_0 : w9.cell? ⟨gb365, 0, none⟩ = some (.slice A0_0 l0_0.length c0_0) := (blk_cell BK365.out 0).trans rfl; have hfz10_0 := blk_frozen BK365.out 0)); try go_wp2_with (first | (go_at_call 8; (with_reducible refine (r03_Big.calls k _ _ l0_0 false _ ?side1 ?side2 A4.out).mono ?_); (case side1 => repeat (first | exact (Kd.C_below HR0_0.out HB.out) | (with_reducible refine Kd.C_alloc ?_ _) | (with_reducible refine Kd.C_drewN ?_ _) | (with_reducible refine Kd.C_drew ?_))); (case side2 => exact HC0_0.out); rintro e w9 ⟨rfl, hb⟩; have n0_ := Aside0.mk (blk_below (g := gb365) (o := .cells #[.slice A0_0 l0_0.length c0_0] 24 (0, 0)) (by (with_reducible repeat (first | refine blk_drewN ?_ _ | refine blk_drew ?_ | refine blk_alloc ?_ _)); exact BK365.out) hb); have n1_ := Aside0.mk (below_step (by repeat (first | (with_reducible first | exact HB.out | apply below_alloc | apply pw_below_drewN | apply below_drew1 | refine below_set ?_ GE365.out) | exact HB.out)) hb); clear BK365; clear HB; have BK365 := n0_; have HB := n1_; clear n0_ n1_; (try clear hb); (try clear hb2); (try clear hk); (try clear hi); have hcz10_0 : w9.cell? ⟨gb365, 0, none⟩ = some (.slice A0_0 l0_0.length c0_0) := (blk_cell BK365.out 0).trans rfl; have hfz10_0 := blk_frozen BK365.out 0)))
   go_meet
   case rel => exact ⟨_, (decide ((l0_0.length : Int) > 60)), (by first | rfl | (simp; done) | (simp [*]; done)), H', ⟨by first | omega | exact Nat.le_refl _⟩, ⟨by (with_reducible repeat (first | refine blk_drewN ?_ _ | refine blk_drew ?_ | refine blk_alloc ?_ _)); exact BK365.out⟩, ⟨by repeat (first | (with_reducible first | exact HB.out | apply below_alloc | apply pw_below_drewN | apply below_drew1 | refine below_set ?_ GE365.out) | exact HB.out)⟩⟩
 case rest =>
  clear HC2
  try clear p2
  try clear c5
  try clear c7
  try clear hcz10_0
  try clear hcz6_0
  try clear hcz8_0
  try clear hfz10_0
  try clear hfz6_0
  try clear hfz8_0
  obtain ⟨kq, x14_1, rfl, HA, HJ1, BK365, HB⟩ := hcut
  cases kq with
  | zero => exact absurd HA.out (by simp [w12_GraphApplies.j0])
  | succ kj1 =>
   have H := HA.out
   clear HA
   simp only [w12_GraphApplies.j0] at H
   by_cases c11 : x14_1 = true
   ·subst c11
    have H1 : ((w12_fixed.f).bind fun t367 => (some t367)) = some r := by rw [if_pos rfl] at H; exact H
    clear H
    have H := H1
    clear H1
    replace H := Option.bind_eq_some_iff.mp H
    obtain ⟨t367, A120, H⟩ := H
    replace H : (some t367) = some r := H
    have A12 := Aside0.mk A120
    clear A120
    obtain rfl := Option.some.inj H
    go_wp2_with (first | (go_at_call 9; (with_reducible refine (w12_fixed.calls  t367 _ A12.out).mono ?_); rintro e w13 ⟨rfl, hb⟩; have n0_ := Aside0.mk (blk_below (g := gb365) (o := .cells #[.slice A0_0 l0_0.length c0_0] 24 (0, 0)) (by (with_reducible repeat (first | refine blk_drewN ?_ _ | refine blk_drew ?_ | refine blk_alloc ?_ _)); exact BK365.out) hb); have n1_ := Aside0.mk (below_step (by repeat (first | (with_reducible first | exact HB.out | apply below_alloc | apply pw_below_drewN | apply below_drew1 | refine below_set ?_ GE365.out) | exact HB.out)) hb); clear BK365; clear HB; have BK365 := n0_; have HB := n1_; clear n0_ n1_; (try clear hb); (try clear hb2); (try clear hk); (try clear hi)))
    repeat (go_quiet (first | (go_at_call 9; (with_reducible refine (w12_fixed.calls  t367 _ A12.out).mono ?_); rintro e w13 ⟨rfl, hb⟩; have n0_ := Aside0.mk (blk_below (g := gb365) (o := .cells #[.slice A0_0 l0_0.length c0_0] 24 (0, 0)) (by (with_reducible repeat (first | refine blk_drewN ?_ _ | refine blk_drew ?_ | refine blk_alloc ?_ _)); exact BK365.out) hb); have n1_ := Aside0.mk (below_step (by repeat (first | (with_reducible first | exact HB.out | apply below_alloc | apply pw_below_drewN | apply below_drew1 | refine below_set ?_ GE365.out) | exact HB.out)) hb); clear BK365; clear HB; have BK365 := n0_; have HB := n1_; clear n0_ n1_; (try clear hb); (try clear hb2); (try clear hk); (try clear hi))); try go_wp2_with (first | (go_at_call 9; (with_reducible refine (w12_fixed.calls  t367 _ A12.out).mono ?_); rintro e w13 ⟨rfl, hb⟩; have n0_ := Aside0.mk (blk_below (g := gb365) (o := .cells #[.slice A0_0 l0_0.length c0_0] 24 (0, 0)) (by (with_reducible repeat (first | refine blk_drewN ?_ _ | refine blk_drew ?_ | refine blk_alloc ?_ _)); exact BK365.out) hb); have n1_ := Aside0.mk (below_step (by repeat (first | (with_reducible first | exact HB.out | apply below_alloc | apply pw_below_drewN | apply below_drew1 | refine below_set ?_ GE365.out) | exact HB.out)) hb); clear BK365; clear HB; have BK365 := n0_; have HB := n1_; clear n0_ n1_; (try clear hb); (try clear hb2); (try clear hk); (try clear hi))))
    go_ret
    exact ⟨by first | rfl | (simp [errW_none, errW_some] <;> rfl) | (simp [*, errW_none, errW_some] <;> rfl), by repeat (first | (with_reducible first | exact HB.out | apply below_alloc | apply pw_below_drewN | apply below_drew1 | refine below_set ?_ GE365.out) | exact HB.out)⟩
   ·replace c11 := Bool.eq_false_iff.mpr c11
    subst c11
    have H1 : ((graph_Calls.f kj1 l0_0).bind fun t368 => ((w12_fixed.f).bind fun t371 => (if t371 = true then (w12_GraphApplies.j1 kj1 t368 ((t368.length : Int) != (l0_0.length : Int)) l0_0) else (w12_GraphApplies.j1 kj1 t368 true l0_0)))) = some r := by rw [if_neg (show ¬ (false = true) by decide)] at H; exact H
    clear H
    have H := H1
    clear H1
    replace H := Option.bind_eq_some_iff.mp H
    obtain ⟨t368, A140, H⟩ := H
    replace H : ((w12_fixed.f).bind fun t371 => (if t371 = true then (w12_GraphApplies.j1 kj1 t368 ((t368.length : Int) != (l0_0.length : Int)) l0_0) else (w12_GraphApplies.j1 kj1 t368 true l0_0))) = some r := H
    have A14 := Aside0.mk A140
    clear A140
    have HC15 := Aside0.mk H
    clear H
    have hcz16_0 : wc.cell? ⟨gb365, 0, none⟩ = some (.slice A0_0 l0_0.length c0_0) := (blk_cell BK365.out 0).trans rfl
    have hfz16_0 := blk_frozen BK365.out 0
    go_upto_region 4 with (first | (go_at_call 10; (with_reducible refine (graph_Calls.calls kj1 _ _ l0_0 t368 _ ?side1 ?side2 A14.out).mono ?_); (case side1 => repeat (first | exact (Kd.C_below HR0_0.out HB.out) | (with_reducible refine Kd.C_alloc ?_ _) | (with_reducible refine Kd.C_drewN ?_ _) | (with_reducible refine Kd.C_drew ?_))); (case side2 => exact HC0_0.out); rintro e w17 ⟨v369, rfl, ho0, hb⟩; have n0_ := Aside0.mk (Kd.S_lower ho0 (below_size (by repeat (first | (with_reducible first | exact HB.out | apply below_alloc | apply pw_below_drewN | apply below_drew1 | refine below_set ?_ GE365.out) | exact HB.out)))); have n1_ := Aside0.mk (blk_below (g := gb365) (o := .cells #[.slice A0_0 l0_0.length c0_0] 24 (0, 0)) (by (with_reducible repeat (first | refine blk_drewN ?_ _ | refine blk_drew ?_ | refine blk_alloc ?_ _)); exact BK365.out) hb); have n2_ := Aside0.mk (below_step (by repeat (first | (with_reducible first | exact HB.out | apply below_alloc | apply pw_below_drewN | apply below_drew1 | refine below_set ?_ GE365.out) | exact HB.out)) hb); clear BK365; clear HB; have HO370 := n0_; have BK365 := n1_; have HB := n2_; clear n0_ n1_ n2_; (try clear hb); (try clear hb2); (try clear hk); (try clear hi); (try clear ho0)))
    repeat (go_quiet (first | (go_at_call 10; (with_reducible refine (graph_Calls.calls kj1 _ _ l0_0 t368 _ ?side1 ?side2 A14.out).mono ?_); (case side1 => repeat (first | exact (Kd.C_below HR0_0.out HB.out) | (with_reducible refine Kd.C_alloc ?_ _) | (with_reducible refine Kd.C_drewN ?_ _) | (with_reducible refine Kd.C_drew ?_))); (case side2 => exact HC0_0.out); rintro e w17 ⟨v369, rfl, ho0, hb⟩; have n0_ := Aside0.mk (Kd.S_lower ho0 (below_size (by repeat (first | (with_reducible first | exact HB.out | apply below_alloc | apply pw_below_drewN | apply below_drew1 | refine below_set ?_ GE365.out) | exact HB.out)))); have n1_ := Aside0.mk (blk_below (g := gb365) (o := .cells #[.slice A0_0 l0_0.length c0_0] 24 (0, 0)) (by (with_reducible repeat (first | refine blk_drewN ?_ _ | refine blk_drew ?_ | refine blk_alloc ?_ _)); exact BK365.out) hb); have n2_ := Aside0.mk (below_step (by repeat (first | (with_reducible first | exact HB.out | apply below_alloc | apply pw_below_drewN | apply below_drew1 | refine below_set ?_ GE365.out) | exact HB.out)) hb); clear BK365; clear HB; have HO370 := n0_; have BK365 := n1_; have HB := n2_; clear n0_ n1_ n2_; (try clear hb); (try clear hb2); (try clear hk); (try clear hi); (try clear ho0))); go_upto_region 4 with (first | (go_at_call 10; (with_reducible refine (graph_Calls.calls kj1 _ _ l0_0 t368 _ ?side1 ?side2 A14.out).mono ?_); (case side1 => repeat (first | exact (Kd.C_below HR0_0.out HB.out) | (with_reducible refine Kd.C_alloc ?_ _) | (with_reducible refine Kd.C_drewN ?_ _) | (with_reducible refine Kd.C_drew ?_))); (case side2 => exact HC0_0.out); rintro e w17 ⟨v369, rfl, ho0, hb⟩; have n0_ := Aside0.mk (Kd.S_lower ho0 (below_size (by repeat (first | (with_reducible first | exact HB.out | apply below_alloc | apply pw_below_drewN | apply below_drew1 | refine below_set ?_ GE365.out) | exact HB.out)))); have n1_ := Aside0.mk (blk_below (g := gb365) (o := .cells #[.slice A0_0 l0_0.length c0_0] 24 (0, 0)) (by (with_reducible repeat (first | refine blk_drewN ?_ _ | refine blk_drew ?_ | refine blk_alloc ?_ _)); exact BK365.out) hb); have n2_ := Aside0.mk (below_step (by repeat (first | (with_reducible first | exact HB.out | apply below_alloc | apply pw_below_drewN | apply below_drew1 | refine below_set ?_ GE365.out) | exact HB.out)) hb); clear BK365; clear HB; have HO370 := n0_; have BK365 := n1_; have HB := n2_; clear n0_ n1_ n2_; (try clear hb); (try clear hb2); (try clear hk); (try clear hi); (try clear ho0))))
    (try simp only [Act.put, List.setIfInBounds_toArray, List.set_cons_zero, List.set_cons_succ])
    go_cut [27] (fun v27 wc => ∃ (kq : Nat) (x27_14 : Bool), v27 = .bool x27_14 ∧ Aside0 (w12_GraphApplies.j1 kq t368 x27_14 l0_0 = some r) ∧ Aside0 (kq ≤ kj1) ∧ Aside0 (Kd.S (Kd.slice 3 (Kd.int .i64)) 32 wc w.heap.size (fun _ => True) v369 t368) ∧ Aside0 (wc.heap[gb365]? = some (.cells #[(.slice A0_0 l0_0.length c0_0)] 24 (0, 0))) ∧ Aside0 (Below w.heap.size w wc))
    case first =>
     have H := HC15.out
     clear HC15
     replace H := Option.bind_eq_some_iff.mp H
     obtain ⟨t371, A180, H⟩ := H
     replace H : (if t371 = true then (w12_GraphApplies.j1 kj1 t368 ((t368.length : Int) != (l0_0.length : Int)) l0_0) else (w12_GraphApplies.j1 kj1 t368 true l0_0)) = some r := H
     have A18 := Aside0.mk A180
     clear A180
     by_cases c19 : t371 = true
     ·subst c19
      have H1 : (w12_GraphApplies.j1 kj1 t368 ((t368.length : Int) != (l0_0.length : Int)) l0_0) = some r := by rw [if_pos rfl] at H; exact H
      clear H
      have H := H1
      clear H1
      have H' := Aside0.mk H
      clear H
      go_wp2_with (first | (go_at_call 9; (with_reducible refine (w12_fixed.calls  true _ A18.out).mono ?_); rintro e w20 ⟨rfl, hb⟩; have n0_ := Aside0.mk (Kd.S_below (by (with_reducible repeat (first | apply Kd.S_alloc | apply Kd.S_drewN | apply Kd.S_drew)); exact HO370.out) hb); have n1_ := Aside0.mk (blk_below (g := gb365) (o := .cells #[.slice A0_0 l0_0.length c0_0] 24 (0, 0)) (by (with_reducible repeat (first | refine blk_drewN ?_ _ | refine blk_drew ?_ | refine blk_alloc ?_ _)); exact BK365.out) hb); have n2_ := Aside0.mk (below_step (by repeat (first | (with_reducible first | exact HB.out | apply below_alloc | apply pw_below_drewN | apply below_drew1 | refine below_set ?_ GE365.out) | exact HB.out)) hb); clear HO370; clear BK365; clear HB; have HO370 := n0_; have BK365 := n1_; have HB := n2_; clear n0_ n1_ n2_; (try clear hb); (try clear hb2); (try clear hk); (try clear hi); obtain ⟨Ao21, co21, eo21⟩ := Kd.S_slice HO370.out; subst eo21; have hcz22_0 : w20.cell? ⟨gb365, 0, none⟩ = some (.slice A0_0 l0_0.length c0_0) := (blk_cell BK365.out 0).trans rfl; have hfz22_0 := blk_frozen BK365.out 0))
      repeat (go_quiet (first | (go_at_call 9; (with_reducible refine (w12_fixed.calls  true _ A18.out).mono ?_); rintro e w20 ⟨rfl, hb⟩; have n0_ := Aside0.mk (Kd.S_below (by (with_reducible repeat (first | apply Kd.S_alloc | apply Kd.S_drewN | apply Kd.S_drew)); exact HO370.out) hb); have n1_ := Aside0.mk (blk_below (g := gb365) (o := .cells #[.slice A0_0 l0_0.length c0_0] 24 (0, 0)) (by (with_reducible repeat (first | refine blk_drewN ?_ _ | refine blk_drew ?_ | refine blk_alloc ?_ _)); exact BK365.out) hb); have n2_ := Aside0.mk (below_step (by repeat (first | (with_reducible first | exact HB.out | apply below_alloc | apply pw_below_drewN | apply below_drew1 | refine below_set ?_ GE365.out) | exact HB.out)) hb); clear HO370; clear BK365; clear HB; have HO370 := n0_; have BK365 := n1_; have HB := n2_; clear n0_ n1_ n2_; (try clear hb); (try clear hb2); (try clear hk); (try clear hi); obtain ⟨Ao21, co21, eo21⟩ := Kd.S_slice HO370.out; subst eo21; have hcz22_0 : w20.cell? ⟨gb365, 0, none⟩ = some (.slice A0_0 l0_0.length c0_0) := (blk_cell BK365.out 0).trans rfl; have hfz22_0 := blk_frozen BK365.out 0)); try go_wp2_with (first | (go_at_call 9; (with_reducible refine (w12_fixed.calls  true _ A18.out).mono ?_); rintro e w20 ⟨rfl, hb⟩; have n0_ := Aside0.mk (Kd.S_below (by (with_reducible repeat (first | apply Kd.S_alloc | apply Kd.S_drewN | apply Kd.S_drew)); exact HO370.out) hb); have n1_ := Aside0.mk (blk_below (g := gb365) (o := .cells #[.slice A0_0 l0_0.length c0_0] 24 (0, 0)) (by (with_reducible repeat (first | refine blk_drewN ?_ _ | refine blk_drew ?_ | refine blk_alloc ?_ _)); exact BK365.out) hb); have n2_ := Aside0.mk (below_step (by repeat (first | (with_reducible first | exact HB.out | apply below_alloc | apply pw_below_drewN | apply below_drew1 | refine below_set ?_ GE365.out) | exact HB.out)) hb); clear HO370; clear BK365; clear HB; have HO370 := n0_; have BK365 := n1_; have HB := n2_; clear n0_ n1_ n2_; (try clear hb); (try clear hb2); (try clear hk); (try clear hi); obtain ⟨Ao21, co21, eo21⟩ := Kd.S_slice HO370.out; subst eo21; have hcz22_0 : w20.cell? ⟨gb365, 0, none⟩ = some (.slice A0_0 l0_0.length c0_0) := (blk_cell BK365.out 0).trans rfl; have hfz22_0 := blk_frozen BK365.out 0)))
      go_meet
      case rel => exact ⟨_, (((t368.length : Int) != (l0_0.length : Int))), (by first | rfl | (simp; done) | (simp [*]; done)), H', ⟨by have := HJ1.out; first | omega | exact Nat.le_refl _⟩, ⟨by (with_reducible repeat (first | apply Kd.S_alloc | apply Kd.S_drewN | apply Kd.S_drew)); exact HO370.out⟩, ⟨by (with_reducible repeat (first | refine blk_drewN ?_ _ | refine blk_drew ?_ | refine blk_alloc ?_ _)); exact BK365.out⟩, ⟨by repeat (first | (with_reducible first | exact HB.out | apply below_alloc | apply pw_below_drewN | apply below_drew1 | refine below_set ?_ GE365.out) | exact HB.out)⟩⟩
     ·replace c19 := Bool.eq_false_iff.mpr c19
      subst c19
      have H1 : (w12_GraphApplies.j1 kj1 t368 true l0_0) = some r := by rw [if_neg (show ¬ (false = true) by decide)] at H; exact H
      clear H
      have H := H1
      clear H1
      have H' := Aside0.mk H
      clear H
      go_wp2_with (first | (go_at_call 9; (with_reducible refine (w12_fixed.calls  false _ A18.out).mono ?_); rintro e w23 ⟨rfl, hb⟩; have n0_ := Aside0.mk (Kd.S_below (by (with_reducible repeat (first | apply Kd.S_alloc | apply Kd.S_drewN | apply Kd.S_drew)); exact HO370.out) hb); have n1_ := Aside0.mk (blk_below (g := gb365) (o := .cells #[.slice A0_0 l0_0.length c0_0] 24 (0, 0)) (by (with_reducible repeat (first | refine blk_drewN ?_ _ | refine blk_drew ?_ | refine blk_alloc ?_ _)); exact BK365.out) hb); have n2_ := Aside0.mk (below_step (by repeat (first | (with_reducible first | exact HB.out | apply below_alloc | apply pw_below_drewN | apply below_drew1 | refine below_set ?_ GE365.out) | exact HB.out)) hb); clear HO370; clear BK365; clear HB; have HO370 := n0_; have BK365 := n1_; have HB := n2_; clear n0_ n1_ n2_; (try clear hb); (try clear hb2); (try clear hk); (try clear hi)))
      repeat (go_quiet (first | (go_at_call 9; (with_reducible refine (w12_fixed.calls  false _ A18.out).mono ?_); rintro e w23 ⟨rfl, hb⟩; have n0_ := Aside0.mk (Kd.S_below (by (with_reducible repeat (first | apply Kd.S_alloc | apply Kd.S_drewN | apply Kd.S_drew)); exact HO370.out) hb); have n1_ := Aside0.mk (blk_below (g := gb365) (o := .cells #[.slice A0_0 l0_0.length c0_0] 24 (0, 0)) (by (with_reducible repeat (first | refine blk_drewN ?_ _ | refine blk_drew ?_ | refine blk_alloc ?_ _)); exact BK365.out) hb); have n2_ := Aside0.mk (below_step (by repeat (first | (with_reducible first | exact HB.out | apply below_alloc | apply pw_below_drewN | apply below_drew1 | refine below_set ?_ GE365.out) | exact HB.out)) hb); clear HO370; clear BK365; clear HB; have HO370 := n0_; have BK365 := n1_; have HB := n2_; clear n0_ n1_ n2_; (try clear hb); (try clear hb2); (try clear hk); (try clear hi))); try go_wp2_with (first | (go_at_call 9; (with_reducible refine (w12_fixed.calls  false _ A18.out).mono ?_); rintro e w23 ⟨rfl, hb⟩; have n0_ := Aside0.mk (Kd.S_below (by (with_reducible repeat (first | apply Kd.S_alloc | apply Kd.S_drewN | apply Kd.S_drew)); exact HO370.out) hb); have n1_ := Aside0.mk (blk_below (g := gb365) (o := .cells #[.slice A0_0 l0_0.length c0_0] 24 (0, 0)) (by (with_reducible repeat (first | refine blk_drewN ?_ _ | refine blk_drew ?_ | refine blk_alloc ?_ _)); exact BK365.out) hb); have n2_ := Aside0.mk (below_step (by repeat (first | (with_reducible first | exact HB.out | apply below_alloc | apply pw_below_drewN | apply below_drew1 | refine below_set ?_ GE365.out) | exact HB.out)) hb); clear HO370; clear BK365; clear HB; have HO370 := n0_; have BK365 := n1_; have HB := n2_; clear n0_ n1_ n2_; (try clear hb); (try clear hb2); (try clear hk); (try clear hi))))
      go_meet
      case rel => exact ⟨_, (true), (by first | rfl | (simp; done) | (simp [*]; done)), H', ⟨by have := HJ1.out; first | omega | exact Nat.le_refl _⟩, ⟨by (with_reducible repeat (first | apply Kd.S_alloc | apply Kd.S_drewN | apply Kd.S_drew)); exact HO370.out⟩, ⟨by (with_reducible repeat (first | refine blk_drewN ?_ _ | refine blk_drew ?_ | refine blk_alloc ?_ _)); exact BK365.out⟩, ⟨by repeat (first | (with_reducible first | exact HB.out | apply below_alloc | apply pw_below_drewN | apply below_drew1 | refine below_set ?_ GE365.out) | exact HB.out)⟩⟩
    case rest =>
     clear HC15
     try clear c1
     try clear p2
     try clear c5
     try clear c7
     try clear c11
     try clear c19
     try clear hcz10_0
     try clear hcz16_0
     try clear hcz22_0
     try clear hcz6_0
     try clear hcz8_0
     try clear hfz10_0
     try clear hfz16_0
     try clear hfz22_0
     try clear hfz6_0
     try clear hfz8_0
     try clear p2
     obtain ⟨kq, x27_14, rfl, HA, HJ14, HO_3, BK365, HB⟩ := hcut
     cases kq with
     | zero => exact absurd HA.out (by simp [w12_GraphApplies.j1])
     | succ kj14 =>
      have H := HA.out
      clear HA
      simp only [w12_GraphApplies.j1] at H
      by_cases c24 : x27_14 = true
      ·subst c24
       have H1 : (some false) = some r := by rw [if_pos rfl] at H; exact H
       clear H
       have H := H1
       clear H1
       obtain rfl := Option.some.inj H
       go_wp2
       repeat (go_quiet (fail); try go_wp2)
       go_ret
       exact ⟨by first | rfl | (simp [errW_none, errW_some] <;> rfl) | (simp [*, errW_none, errW_some] <;> rfl), by repeat (first | (with_reducible first | exact HB.out | apply below_alloc | apply pw_below_drewN | apply below_drew1 | refine below_set ?_ GE365.out) | exact HB.out)⟩
      ·replace c24 := Bool.eq_false_iff.mpr c24
       subst c24
       have H1 : (w12_GraphApplies.l0 kj14 t368 0 l0_0) = some r := by rw [if_neg (show ¬ (false = true) by decide)] at H; exact H
       clear H
       have H := H1
       clear H1
       have H' := Aside0.mk H
       clear H
       go_wp2
       repeat (go_quiet (fail); try go_wp2)
       go_loopg [4] kj14 (fun kq v4 w' => ∃ (x4_3 : Int), v4 = .int .i64 x4_3 ∧ Aside0 (w12_GraphApplies.l0 kq t368 x4_3 l0_0 = some r) ∧ Aside0 (kq ≤ kj14) ∧ Aside0 (Kd.S (Kd.slice 3 (Kd.int .i64)) 32 w' w.heap.size (fun _ => True) v369 t368) ∧ Aside0 (w'.heap[gb365]? = some (.cells #[(.slice A0_0 l0_0.length c0_0)] 24 (0, 0))) ∧ Aside0 (Below w.heap.size w w'))
       case atStart => exact ⟨(0), (by first | rfl | (simp; done) | (simp [*]; done)), H', ⟨Nat.le_refl _⟩, ⟨by (with_reducible repeat (first | apply Kd.S_alloc | apply Kd.S_drewN | apply Kd.S_drew)); exact HO_3.out⟩, ⟨by (with_reducible repeat (first | refine blk_drewN ?_ _ | refine blk_drew ?_ | refine blk_alloc ?_ _)); exact BK365.out⟩, ⟨by repeat (first | (with_reducible first | exact HB.out | apply below_alloc | apply pw_below_drewN | apply below_drew1 | refine below_set ?_ GE365.out) | exact HB.out)⟩⟩
       case round =>
        clear H'
        try clear c1
        try clear c2
        try clear p2
        try clear c5
        try clear c7
        try clear c11
        try clear c19
        try clear c24
        try clear hcz10_0
        try clear hcz16_0
        try clear hcz22_0
        try clear hcz6_0
        try clear hcz8_0
        try clear hfz10_0
        try clear hfz16_0
        try clear hfz22_0
        try clear hfz6_0
        try clear hfz8_0
        try clear p2
        obtain ⟨x4_3, rfl, HA, HK3, HO_3, BK365, HB⟩ := hrel
        cases gk with
        | zero => exact absurd HA.out (by simp [w12_GraphApplies.l0])
        | succ k3 =>
         have H := HA.out
         clear HA
         simp only [w12_GraphApplies.l0] at H
         by_cases c25 : x4_3 < (t368.length : Int)
         ·rw [if_pos c25] at H
          have c25b0 : decide (x4_3 < (t368.length : Int)) = true := decide_eq_true c25
          clear c25
          by_cases c26 : 0 ≤ x4_3
          ·rw [if_pos c26] at H
           have c26b0 : decide (0 ≤ x4_3) = true := decide_eq_true c26
           clear c26
           by_cases c27 : x4_3 < (l0_0.length : Int)
           ·rw [if_pos c27] at H
            have c27b0 : decide (x4_3 < (l0_0.length : Int)) = true := decide_eq_true c27
            clear c27
            replace H := Option.bind_eq_some_iff.mp H
            obtain ⟨t373, A280, H⟩ := H
            replace H : ((w12_does.f k3 ((rd_T42 l0_0 x4_3).f2) 5).bind fun t375 => (if t373 = true then (if ((rd_L9 t368 x4_3).length : Int) = (l0_0.length : Int) then (w12_GraphApplies.l0 k3 t368 (wrap64 (x4_3 + 1)) l0_0) else (some false)) else (if t375 = true then (w12_GraphApplies.l0 k3 t368 (wrap64 (x4_3 + 1)) l0_0) else (if ((rd_L9 t368 x4_3).length : Int) = 0 then (w12_GraphApplies.l0 k3 t368 (wrap64 (x4_3 + 1)) l0_0) else (some false))))) = some r := H
            have A28 := Aside0.mk A280
            clear A280
            replace H := Option.bind_eq_some_iff.mp H
            obtain ⟨t375, A290, H⟩ := H
            replace H : (if t373 = true then (if ((rd_L9 t368 x4_3).length : Int) = (l0_0.length : Int) then (w12_GraphApplies.l0 k3 t368 (wrap64 (x4_3 + 1)) l0_0) else (some false)) else (if t375 = true then (w12_GraphApplies.l0 k3 t368 (wrap64 (x4_3 + 1)) l0_0) else (if ((rd_L9 t368 x4_3).length : Int) = 0 then (w12_GraphApplies.l0 k3 t368 (wrap64 (x4_3 + 1)) l0_0) else (some false)))) = some r := H
            have A29 := Aside0.mk A290
            clear A290
            by_cases c30 : t373 = true
            ·subst c30
             have H1 : (if ((rd_L9 t368 x4_3).length : Int) = (l0_0.length : Int) then (w12_GraphApplies.l0 k3 t368 (wrap64 (x4_3 + 1)) l0_0) else (some false)) = some r := by rw [if_pos rfl] at H; exact H
             clear H
             have H := H1
             clear H1
             by_cases c31 : ((rd_L9 t368 x4_3).length : Int) = (l0_0.length : Int)
             ·rw [if_pos c31] at H
              have c31b0 : (((rd_L9 t368 x4_3).length : Int) == (l0_0.length : Int)) = true := beq_iff_eq.mpr c31
              have c31b1 : (((rd_L9 t368 x4_3).length : Int) != (l0_0.length : Int)) = false := bne_eq_false_iff_eq.mpr c31
              have c31b2 : ((rd_L9 t368 x4_3).length == l0_0.length) = true := by first | simpa using c31 | (simp at c31 ⊢; omega)
              clear c31
              have H' := Aside0.mk H
              clear H
              obtain ⟨Ao32, co32, eo32⟩ := Kd.S_slice HO_3.out
              subst eo32
              have hcz33_0 : wr.cell? ⟨gb365, 0, none⟩ = some (.slice A0_0 l0_0.length c0_0) := (blk_cell BK365.out 0).trans rfl
              have hfz33_0 := blk_frozen BK365.out 0
              have p372 : 0 ≤ (x4_3 : Int) := of_decide_eq_true (by first | (with_reducible assumption) | assumption)
              have q372 : x4_3 < (l0_0.length : Int) := of_decide_eq_true (by first | (with_reducible assumption) | assumption)
              obtain ⟨ad372, A372_1, c372_1, A372_2, c372_2, e372, hx372_0, hx372_1, hx372_2, hl372_1, hi372_1, hl372_2, hi372_2⟩ := at_T42 HR0_0.out x4_3 p372 q372
              cases e372
              replace hx372_0 := (HB.out.cell (World.block_lt_of_cell? w _ hx372_0)).trans hx372_0
              replace hx372_1 := (HB.out.cell (World.block_lt_of_cell? w _ hx372_1)).trans hx372_1
              replace hx372_2 := (HB.out.cell (World.block_lt_of_cell? w _ hx372_2)).trans hx372_2
              have HR372_1 := Aside0.mk hi372_1
              have HC372_1 := Aside0.mk hl372_1
              clear hi372_1 hl372_1
              have HR372_2 := Aside0.mk hi372_2
              have HC372_2 := Aside0.mk hl372_2
              clear hi372_2 hl372_2
              replace p372 := eq_true p372
              replace q372 := eq_true q372
              go_wp2_with (first | (go_at_call 22; (with_reducible refine (w12_does.calls k3 _ _ ((rd_T42 l0_0 x4_3).f2) 6 true _ ?side1 ?side2 A28.out).mono ?_); (case side1 => repeat (first | exact (Kd.C_below HR372_2.out HB.out) | (with_reducible refine Kd.C_alloc ?_ _) | (with_reducible refine Kd.C_drewN ?_ _) | (with_reducible refine Kd.C_drew ?_))); (case side2 => exact HC372_2.out); rintro e w' ⟨rfl, ⟨nd, rfl⟩⟩; (try first | exact ⟨rfl, _, World.drewN_drewN _ _ _⟩ | exact ⟨rfl, _, Eq.trans (World.drewN_drewN _ _ _) (congrArg (World.drewN _) (Nat.add_assoc _ _ _))⟩); have p374 : 0 ≤ (x4_3 : Int) := of_decide_eq_true (by first | (with_reducible assumption) | assumption); have q374 : x4_3 < (l0_0.length : Int) := of_decide_eq_true (by first | (with_reducible assumption) | assumption); obtain ⟨ad374, A374_1, c374_1, A374_2, c374_2, e374, hx374_0, hx374_1, hx374_2, hl374_1, hi374_1, hl374_2, hi374_2⟩ := at_T42 HR0_0.out x4_3 p374 q374; obtain rfl : ad372 = ad374 := (by injection e374); replace hx374_0 := (HB.out.cell (World.block_lt_of_cell? w _ hx374_0)).trans hx374_0; replace hx374_1 := (HB.out.cell (World.block_lt_of_cell? w _ hx374_1)).trans hx374_1; replace hx374_2 := (HB.out.cell (World.block_lt_of_cell? w _ hx374_2)).trans hx374_2; have HR374_1 := Aside0.mk hi374_1; have HC374_1 := Aside0.mk hl374_1; clear hi374_1 hl374_1; have HR374_2 := Aside0.mk hi374_2; have HC374_2 := Aside0.mk hl374_2; clear hi374_2 hl374_2; replace p374 := eq_true p374; replace q374 := eq_true q374; have ea_ := Option.some.inj (hx372_1.symm.trans hx374_1); injection ea_ with ea_ en_ ec_; subst ea_; subst ec_; clear en_; have ea_ := Option.some.inj (hx372_2.symm.trans hx374_2); injection ea_ with ea_ en_ ec_; subst ea_; subst ec_; clear en_) | (go_at_call 22; (with_reducible refine (w12_does.calls k3 _ _ ((rd_T42 l0_0 x4_3).f2) 5 t375 _ ?side1 ?side2 A29.out).mono ?_); (case side1 => repeat (first | exact (Kd.C_below HR374_2.out (by repeat (first | (with_reducible first | exact HB.out | apply below_alloc | apply pw_below_drewN | apply below_drew1 | refine below_set ?_ GE365.out) | exact HB.out))) | (with_reducible refine Kd.C_alloc ?_ _) | (with_reducible refine Kd.C_drewN ?_ _) | (with_reducible refine Kd.C_drew ?_))); (case side2 => exact HC374_2.out); rintro e w' ⟨rfl, ⟨nd, rfl⟩⟩; (try first | exact ⟨rfl, _, World.drewN_drewN _ _ _⟩ | exact ⟨rfl, _, Eq.trans (World.drewN_drewN _ _ _) (congrArg (World.drewN _) (Nat.add_assoc _ _ _))⟩); have p376 : 0 ≤ (x4_3 : Int) := of_decide_eq_true (by first | (with_reducible assumption) | assumption); have q376 : x4_3 < (t368.length : Int) := of_decide_eq_true (by first | (with_reducible assumption) | assumption); obtain ⟨ad376, A376_0, c376_0, e376, hx376_0, hl376_0, hi376_0⟩ := at_L9 (Kd.S_reads' HO_3.out).2.2 x4_3 p376 q376; cases e376; obtain ⟨ce376, hce376, hMe376, hcc376⟩ := Kd.S_get HO_3.out [] x4_3 p376 (by first | exact q376 | exact of_decide_eq_true (by first | (with_reducible assumption) | assumption) | (have e_ := (Kd.S_reads' HO_3.out).1; omega)); obtain ⟨ve376_0, rfl, ge376_0⟩ := hMe376; have hv376_0 := hcc376 0 _ rfl; rw [Nat.add_zero, show ((Kd.slice 3 (Kd.int .i64))).sz = 1 from rfl, Nat.mul_one] at hv376_0; replace hv376_0 := Option.some.inj (hv376_0.symm.trans hx376_0); rw [hv376_0] at ge376_0; have HL376_0 := Aside0.mk (show Kd.R (Kd.int .i64) 3 _ _ _ _ (rd_L9 t368 x4_3) from ge376_0); clear hv376_0 ge376_0; clear hcc376 hce376; have HR376_0 := Aside0.mk hi376_0; have HC376_0 := Aside0.mk hl376_0; clear hi376_0 hl376_0; replace p376 := eq_true p376; replace q376 := eq_true q376))
              repeat (go_quiet (first | (go_at_call 22; (with_reducible refine (w12_does.calls k3 _ _ ((rd_T42 l0_0 x4_3).f2) 6 true _ ?side1 ?side2 A28.out).mono ?_); (case side1 => repeat (first | exact (Kd.C_below HR372_2.out HB.out) | (with_reducible refine Kd.C_alloc ?_ _) | (with_reducible refine Kd.C_drewN ?_ _) | (with_reducible refine Kd.C_drew ?_))); (case side2 => exact HC372_2.out); rintro e w' ⟨rfl, ⟨nd, rfl⟩⟩; (try first | exact ⟨rfl, _, World.drewN_drewN _ _ _⟩ | exact ⟨rfl, _, Eq.trans (World.drewN_drewN _ _ _) (congrArg (World.drewN _) (Nat.add_assoc _ _ _))⟩); have p374 : 0 ≤ (x4_3 : Int) := of_decide_eq_true (by first | (with_reducible assumption) | assumption); have q374 : x4_3 < (l0_0.length : Int) := of_decide_eq_true (by first | (with_reducible assumption) | assumption); obtain ⟨ad374, A374_1, c374_1, A374_2, c374_2, e374, hx374_0, hx374_1, hx374_2, hl374_1, hi374_1, hl374_2, hi374_2⟩ := at_T42 HR0_0.out x4_3 p374 q374; obtain rfl : ad372 = ad374 := (by injection e374); replace hx374_0 := (HB.out.cell (World.block_lt_of_cell? w _ hx374_0)).trans hx374_0; replace hx374_1 := (HB.out.cell (World.block_lt_of_cell? w _ hx374_1)).trans hx374_1; replace hx374_2 := (HB.out.cell (World.block_lt_of_cell? w _ hx374_2)).trans hx374_2; have HR374_1 := Aside0.mk hi374_1; have HC374_1 := Aside0.mk hl374_1; clear hi374_1 hl374_1; have HR374_2 := Aside0.mk hi374_2; have HC374_2 := Aside0.mk hl374_2; clear hi374_2 hl374_2; replace p374 := eq_true p374; replace q374 := eq_true q374; have ea_ := Option.some.inj (hx372_1.symm.trans hx374_1); injection ea_ with ea_ en_ ec_; subst ea_; subst ec_; clear en_; have ea_ := Option.some.inj (hx372_2.symm.trans hx374_2); injection ea_ with ea_ en_ ec_; subst ea_; subst ec_; clear en_) | (go_at_call 22; (with_reducible refine (w12_does.calls k3 _ _ ((rd_T42 l0_0 x4_3).f2) 5 t375 _ ?side1 ?side2 A29.out).mono ?_); (case side1 => repeat (first | exact (Kd.C_below HR374_2.out (by repeat (first | (with_reducible first | exact HB.out | apply below_alloc | apply pw_below_drewN | apply below_drew1 | refine below_set ?_ GE365.out) | exact HB.out))) | (with_reducible refine Kd.C_alloc ?_ _) | (with_reducible refine Kd.C_drewN ?_ _) | (with_reducible refine Kd.C_drew ?_))); (case side2 => exact HC374_2.out); rintro e w' ⟨rfl, ⟨nd, rfl⟩⟩; (try first | exact ⟨rfl, _, World.drewN_drewN _ _ _⟩ | exact ⟨rfl, _, Eq.trans (World.drewN_drewN _ _ _) (congrArg (World.drewN _) (Nat.add_assoc _ _ _))⟩); have p376 : 0 ≤ (x4_3 : Int) := of_decide_eq_true (by first | (with_reducible assumption) | assumption); have q376 : x4_3 < (t368.length : Int) := of_decide_eq_true (by first | (with_reducible assumption) | assumption); obtain ⟨ad376, A376_0, c376_0, e376, hx376_0, hl376_0, hi376_0⟩ := at_L9 (Kd.S_reads' HO_3.out).2.2 x4_3 p376 q376; cases e376; obtain ⟨ce376, hce376, hMe376, hcc376⟩ := Kd.S_get HO_3.out [] x4_3 p376 (by first | exact q376 | exact of_decide_eq_true (by first | (with_reducible assumption) | assumption) | (have e_ := (Kd.S_reads' HO_3.out).1; omega)); obtain ⟨ve376_0, rfl, ge376_0⟩ := hMe376; have hv376_0 := hcc376 0 _ rfl; rw [Nat.add_zero, show ((Kd.slice 3 (Kd.int .i64))).sz = 1 from rfl, Nat.mul_one] at hv376_0; replace hv376_0 := Option.some.inj (hv376_0.symm.trans hx376_0); rw [hv376_0] at ge376_0; have HL376_0 := Aside0.mk (show Kd.R (Kd.int .i64) 3 _ _ _ _ (rd_L9 t368 x4_3) from ge376_0); clear hv376_0 ge376_0; clear hcc376 hce376; have HR376_0 := Aside0.mk hi376_0; have HC376_0 := Aside0.mk hl376_0; clear hi376_0 hl376_0; replace p376 := eq_true p376; replace q376 := eq_true q376)); try go_wp2_with (first | (go_at_call 22; (with_reducible refine (w12_does.calls k3 _ _ ((rd_T42 l0_0 x4_3).f2) 6 true _ ?side1 ?side2 A28.out).mono ?_); (case side1 => repeat (first | exact (Kd.C_below HR372_2.out HB.out) | (with_reducible refine Kd.C_alloc ?_ _) | (with_reducible refine Kd.C_drewN ?_ _) | (with_reducible refine Kd.C_drew ?_))); (case side2 => exact HC372_2.out); rintro e w' ⟨rfl, ⟨nd, rfl⟩⟩; (try first | exact ⟨rfl, _, World.drewN_drewN _ _ _⟩ | exact ⟨rfl, _, Eq.trans (World.drewN_drewN _ _ _) (congrArg (World.drewN _) (Nat.add_assoc _ _ _))⟩); have p374 : 0 ≤ (x4_3 : Int) := of_decide_eq_true (by first | (with_reducible assumption) | assumption); have q374 : x4_3 < (l0_0.length : Int) := of_decide_eq_true (by first | (with_reducible assumption) | assumption); obtain ⟨ad374, A374_1, c374_1, A374_2, c374_2, e374, hx374_0, hx374_1, hx374_2, hl374_1, hi374_1, hl374_2, hi374_2⟩ := at_T42 HR0_0.out x4_3 p374 q374; obtain rfl : ad372 = ad374 := (by injection e374); replace hx374_0 := (HB.out.cell (World.block_lt_of_cell? w _ hx374_0)).trans hx374_0; replace hx374_1 := (HB.out.cell (World.block_lt_of_cell? w _ hx374_1)).trans hx374_1; replace hx374_2 := (HB.out.cell (World.block_lt_of_cell? w _ hx374_2)).trans hx374_2; have HR374_1 := Aside0.mk hi374_1; have HC374_1 := Aside0.mk hl374_1; clear hi374_1 hl374_1; have HR374_2 := Aside0.mk hi374_2; have HC374_2 := Aside0.mk hl374_2; clear hi374_2 hl374_2; replace p374 := eq_true p374; replace q374 := eq_true q374; have ea_ := Option.some.inj (hx372_1.symm.trans hx374_1); injection ea_ with ea_ en_ ec_; subst ea_; subst ec_; clear en_; have ea_ := Option.some.inj (hx372_2.symm.trans hx374_2); injection ea_ with ea_ en_ ec_; subst ea_; subst ec_; clear en_) | (go_at_call 22; (with_reducible refine (w12_does.calls k3 _ _ ((rd_T42 l0_0 x4_3).f2) 5 t375 _ ?side1 ?side2 A29.out).mono ?_); (case side1 => repeat (first | exact (Kd.C_below HR374_2.out (by repeat (first | (with_reducible first | exact HB.out | apply below_alloc | apply pw_below_drewN | apply below_drew1 | refine below_set ?_ GE365.out) | exact HB.out))) | (with_reducible refine Kd.C_alloc ?_ _) | (with_reducible refine Kd.C_drewN ?_ _) | (with_reducible refine Kd.C_drew ?_))); (case side2 => exact HC374_2.out); rintro e w' ⟨rfl, ⟨nd, rfl⟩⟩; (try first | exact ⟨rfl, _, World.drewN_drewN _ _ _⟩ | exact ⟨rfl, _, Eq.trans (World.drewN_drewN _ _ _) (congrArg (World.drewN _) (Nat.add_assoc _ _ _))⟩); have p376 : 0 ≤ (x4_3 : Int) := of_decide_eq_true (by first | (with_reducible assumption) | assumption); have q376 : x4_3 < (t368.length : Int) := of_decide_eq_true (by first | (with_reducible assumption) | assumption); obtain ⟨ad376, A376_0, c376_0, e376, hx376_0, hl376_0, hi376_0⟩ := at_L9 (Kd.S_reads' HO_3.out).2.2 x4_3 p376 q376; cases e376; obtain ⟨ce376, hce376, hMe376, hcc376⟩ := Kd.S_get HO_3.out [] x4_3 p376 (by first | exact q376 | exact of_decide_eq_true (by first | (with_reducible assumption) | assumption) | (have e_ := (Kd.S_reads' HO_3.out).1; omega)); obtain ⟨ve376_0, rfl, ge376_0⟩ := hMe376; have hv376_0 := hcc376 0 _ rfl; rw [Nat.add_zero, show ((Kd.slice 3 (Kd.int .i64))).sz = 1 from rfl, Nat.mul_one] at hv376_0; replace hv376_0 := Option.some.inj (hv376_0.symm.trans hx376_0); rw [hv376_0] at ge376_0; have HL376_0 := Aside0.mk (show Kd.R (Kd.int .i64) 3 _ _ _ _ (rd_L9 t368 x4_3) from ge376_0); clear hv376_0 ge376_0; clear hcc376 hce376; have HR376_0 := Aside0.mk hi376_0; have HC376_0 := Aside0.mk hl376_0; clear hi376_0 hl376_0; replace p376 := eq_true p376; replace q376 := eq_true q376)))
              go_roundg k3
              case measure => have := HJ1.out; have := HJ14.out; have := HK3.out; omega
              case rel => exact ⟨(wrap64 (x4_3 + 1)), (by first | rfl | (simp; done) | (simp [*]; done)), H', ⟨by have := HJ1.out; have := HJ14.out; have := HK3.out; omega⟩, ⟨by (with_reducible repeat (first | apply Kd.S_alloc | apply Kd.S_drewN | apply Kd.S_drew)); exact HO_3.out⟩, ⟨by (with_reducible repeat (first | refine blk_drewN ?_ _ | refine blk_drew ?_ | refine blk_alloc ?_ _)); exact BK365.out⟩, ⟨by repeat (first | (with_reducible first | exact HB.out | apply below_alloc | apply pw_below_drewN | apply below_drew1 | refine below_set ?_ GE365.out) | exact HB.out)⟩⟩
             ·rw [if_neg c31] at H
              have c31b0 : (((rd_L9 t368 x4_3).length : Int) == (l0_0.length : Int)) = false := beq_eq_false_iff_ne.mpr c31
              have c31b1 : (((rd_L9 t368 x4_3).length : Int) != (l0_0.length : Int)) = true := bne_iff_ne.mpr c31
              have c31b2 : ((rd_L9 t368 x4_3).length == l0_0.length) = false := by first | simpa using c31 | (simp at c31 ⊢; omega)
              obtain rfl := Option.some.inj H
              obtain ⟨Ao34, co34, eo34⟩ := Kd.S_slice HO_3.out
              subst eo34
              have hcz35_0 : wr.cell? ⟨gb365, 0, none⟩ = some (.slice A0_0 l0_0.length c0_0) := (blk_cell BK365.out 0).trans rfl
              have hfz35_0 := blk_frozen BK365.out 0
              have p372 : 0 ≤ (x4_3 : Int) := of_decide_eq_true (by first | (with_reducible assumption) | assumption)
              have q372 : x4_3 < (l0_0.length : Int) := of_decide_eq_true (by first | (with_reducible assumption) | assumption)
              obtain ⟨ad372, A372_1, c372_1, A372_2, c372_2, e372, hx372_0, hx372_1, hx372_2, hl372_1, hi372_1, hl372_2, hi372_2⟩ := at_T42 HR0_0.out x4_3 p372 q372
              cases e372
              replace hx372_0 := (HB.out.cell (World.block_lt_of_cell? w _ hx372_0)).trans hx372_0
              replace hx372_1 := (HB.out.cell (World.block_lt_of_cell? w _ hx372_1)).trans hx372_1
              replace hx372_2 := (HB.out.cell (World.block_lt_of_cell? w _ hx372_2)).trans hx372_2
              have HR372_1 := Aside0.mk hi372_1
              have HC372_1 := Aside0.mk hl372_1
              clear hi372_1 hl372_1
              have HR372_2 := Aside0.mk hi372_2
              have HC372_2 := Aside0.mk hl372_2
              clear hi372_2 hl372_2
              replace p372 := eq_true p372
              replace q372 := eq_true q372
              go_wp2_with (first | (go_at_call 22; (with_reducible refine (w12_does.calls k3 _ _ ((rd_T42 l0_0 x4_3).f2) 6 true _ ?side1 ?side2 A28.out).mono ?_); (case side1 => repeat (first | exact (Kd.C_below HR372_2.out HB.out) | (with_reducible refine Kd.C_alloc ?_ _) | (with_reducible refine Kd.C_drewN ?_ _) | (with_reducible refine Kd.C_drew ?_))); (case side2 => exact HC372_2.out); rintro e w' ⟨rfl, ⟨nd, rfl⟩⟩; (try first | exact ⟨rfl, _, World.drewN_drewN _ _ _⟩ | exact ⟨rfl, _, Eq.trans (World.drewN_drewN _ _ _) (congrArg (World.drewN _) (Nat.add_assoc _ _ _))⟩); have p374 : 0 ≤ (x4_3 : Int) := of_decide_eq_true (by first | (with_reducible assumption) | assumption); have q374 : x4_3 < (l0_0.length : Int) := of_decide_eq_true (by first | (with_reducible assumption) | assumption); obtain ⟨ad374, A374_1, c374_1, A374_2, c374_2, e374, hx374_0, hx374_1, hx374_2, hl374_1, hi374_1, hl374_2, hi374_2⟩ := at_T42 HR0_0.out x4_3 p374 q374; obtain rfl : ad372 = ad374 := (by injection e374); replace hx374_0 := (HB.out.cell (World.block_lt_of_cell? w _ hx374_0)).trans hx374_0; replace hx374_1 := (HB.out.cell (World.block_lt_of_cell? w _ hx374_1)).trans hx374_1; replace hx374_2 := (HB.out.cell (World.block_lt_of_cell? w _ hx374_2)).trans hx374_2; have HR374_1 := Aside0.mk hi374_1; have HC374_1 := Aside0.mk hl374_1; clear hi374_1 hl374_1; have HR374_2 := Aside0.mk hi374_2; have HC374_2 := Aside0.mk hl374_2; clear hi374_2 hl374_2; replace p374 := eq_true p374; replace q374 := eq_true q374; have ea_ := Option.some.inj (hx372_1.symm.trans hx374_1); injection ea_ with ea_ en_ ec_; subst ea_; subst ec_; clear en_; have ea_ := Option.some.inj (hx372_2.symm.trans hx374_2); injection ea_ with ea_ en_ ec_; subst ea_; subst ec_; clear en_) | (go_at_call 22; (with_reducible refine (w12_does.calls k3 _ _ ((rd_T42 l0_0 x4_3).f2) 5 t375 _ ?side1 ?side2 A29.out).mono ?_); (case side1 => repeat (first | exact (Kd.C_below HR374_2.out (by repeat (first | (with_reducible first | exact HB.out | apply below_alloc | apply pw_below_drewN | apply below_drew1 | refine below_set ?_ GE365.out) | exact HB.out))) | (with_reducible refine Kd.C_alloc ?_ _) | (with_reducible refine Kd.C_drewN ?_ _) | (with_reducible refine Kd.C_drew ?_))); (case side2 => exact HC374_2.out); rintro e w' ⟨rfl, ⟨nd, rfl⟩⟩; (try first | exact ⟨rfl, _, World.drewN_drewN _ _ _⟩ | exact ⟨rfl, _, Eq.trans (World.drewN_drewN _ _ _) (congrArg (World.drewN _) (Nat.add_assoc _ _ _))⟩); have p376 : 0 ≤ (x4_3 : Int) := of_decide_eq_true (by first | (with_reducible assumption) | assumption); have q376 : x4_3 < (t368.length : Int) := of_decide_eq_true (by first | (with_reducible assumption) | assumption); obtain ⟨ad376, A376_0, c376_0, e376, hx376_0, hl376_0, hi376_0⟩ := at_L9 (Kd.S_reads' HO_3.out).2.2 x4_3 p376 q376; cases e376; obtain ⟨ce376, hce376, hMe376, hcc376⟩ := Kd.S_get HO_3.out [] x4_3 p376 (by first | exact q376 | exact of_decide_eq_true (by first | (with_reducible assumption) | assumption) | (have e_ := (Kd.S_reads' HO_3.out).1; omega)); obtain ⟨ve376_0, rfl, ge376_0⟩ := hMe376; have hv376_0 := hcc376 0 _ rfl; rw [Nat.add_zero, show ((Kd.slice 3 (Kd.int .i64))).sz = 1 from rfl, Nat.mul_one] at hv376_0; replace hv376_0 := Option.some.inj (hv376_0.symm.trans hx376_0); rw [hv376_0] at ge376_0; have HL376_0 := Aside0.mk (show Kd.R (Kd.int .i64) 3 _ _ _ _ (rd_L9 t368 x4_3) from ge376_0); clear hv376_0 ge376_0; clear hcc376 hce376; have HR376_0 := Aside0.mk hi376_0; have HC376_0 := Aside0.mk hl376_0; clear hi376_0 hl376_0; replace p376 := eq_true p376; replace q376 := eq_true q376))
              repeat (go_quiet (first | (go_at_call 22; (with_reducible refine (w12_does.calls k3 _ _ ((rd_T42 l0_0 x4_3).f2) 6 true _ ?side1 ?side2 A28.out).mono ?_); (case side1 => repeat (first | exact (Kd.C_below HR372_2.out HB.out) | (with_reducible refine Kd.C_alloc ?_ _) | (with_reducible refine Kd.C_drewN ?_ _) | (with_reducible refine Kd.C_drew ?_))); (case side2 => exact HC372_2.out); rintro e w' ⟨rfl, ⟨nd, rfl⟩⟩; (try first | exact ⟨rfl, _, World.drewN_drewN _ _ _⟩ | exact ⟨rfl, _, Eq.trans (World.drewN_drewN _ _ _) (congrArg (World.drewN _) (Nat.add_assoc _ _ _))⟩); have p374 : 0 ≤ (x4_3 : Int) := of_decide_eq_true (by first | (with_reducible assumption) | assumption); have q374 : x4_3 < (l0_0.length : Int) := of_decide_eq_true (by first | (with_reducible assumption) | assumption); obtain ⟨ad374, A374_1, c374_1, A374_2, c374_2, e374, hx374_0, hx374_1, hx374_2, hl374_1, hi374_1, hl374_2, hi374_2⟩ := at_T42 HR0_0.out x4_3 p374 q374; obtain rfl : ad372 = ad374 := (by injection e374); replace hx374_0 := (HB.out.cell (World.block_lt_of_cell? w _ hx374_0)).trans hx374_0; replace hx374_1 := (HB.out.cell (World.block_lt_of_cell? w _ hx374_1)).trans hx374_1; replace hx374_2 := (HB.out.cell (World.block_lt_of_cell? w _ hx374_2)).trans hx374_2; have HR374_1 := Aside0.mk hi374_1; have HC374_1 := Aside0.mk hl374_1; clear hi374_1 hl374_1; have HR374_2 := Aside0.mk hi374_2; have HC374_2 := Aside0.mk hl374_2; clear hi374_2 hl374_2; replace p374 := eq_true p374; replace q374 := eq_true q374; have ea_ := Option.some.inj (hx372_1.symm.trans hx374_1); injection ea_ with ea_ en_ ec_; subst ea_; subst ec_; clear en_; have ea_ := Option.some.inj (hx372_2.symm.trans hx374_2); injection ea_ with ea_ en_ ec_; subst ea_; subst ec_; clear en_) | (go_at_call 22; (with_reducible refine (w12_does.calls k3 _ _ ((rd_T42 l0_0 x4_3).f2) 5 t375 _ ?side1 ?side2 A29.out).mono ?_); (case side1 => repeat (first | exact (Kd.C_below HR374_2.out (by repeat (first | (with_reducible first | exact HB.out | apply below_alloc | apply pw_below_drewN | apply below_drew1 | refine below_set ?_ GE365.out) | exact HB.out))) | (with_reducible refine Kd.C_alloc ?_ _) | (with_reducible refine Kd.C_drewN ?_ _) | (with_reducible refine Kd.C_drew ?_))); (case side2 => exact HC374_2.out); rintro e w' ⟨rfl, ⟨nd, rfl⟩⟩; (try first | exact ⟨rfl, _, World.drewN_drewN _ _ _⟩ | exact ⟨rfl, _, Eq.trans (World.drewN_drewN _ _ _) (congrArg (World.drewN _) (Nat.add_assoc _ _ _))⟩); have p376 : 0 ≤ (x4_3 : Int) := of_decide_eq_true (by first | (with_reducible assumption) | assumption); have q376 : x4_3 < (t368.length : Int) := of_decide_eq_true (by first | (with_reducible assumption) | assumption); obtain ⟨ad376, A376_0, c376_0, e376, hx376_0, hl376_0, hi376_0⟩ := at_L9 (Kd.S_reads' HO_3.out).2.2 x4_3 p376 q376; cases e376; obtain ⟨ce376, hce376, hMe376, hcc376⟩ := Kd.S_get HO_3.out [] x4_3 p376 (by first | exact q376 | exact of_decide_eq_true (by first | (with_reducible assumption) | assumption) | (have e_ := (Kd.S_reads' HO_3.out).1; omega)); obtain ⟨ve376_0, rfl, ge376_0⟩ := hMe376; have hv376_0 := hcc376 0 _ rfl; rw [Nat.add_zero, show ((Kd.slice 3 (Kd.int .i64))).sz = 1 from rfl, Nat.mul_one] at hv376_0; replace hv376_0 := Option.some.inj (hv376_0.symm.trans hx376_0); rw [hv376_0] at ge376_0; have HL376_0 := Aside0.mk (show Kd.R (Kd.int .i64) 3 _ _ _ _ (rd_L9 t368 x4_3) from ge376_0); clear hv376_0 ge376_0; clear hcc376 hce376; have HR376_0 := Aside0.mk hi376_0; have HC376_0 := Aside0.mk hl376_0; clear hi376_0 hl376_0; replace p376 := eq_true p376; replace q376 := eq_true q376)); try go_wp2_with (first | (go_at_call 22; (with_reducible refine (w12_does.calls k3 _ _ ((rd_T42 l0_0 x4_3).f2) 6 true _ ?side1 ?side2 A28.out).mono ?_); (case side1 => repeat (first | exact (Kd.C_below HR372_2.out HB.out) | (with_reducible refine Kd.C_alloc ?_ _) | (with_reducible refine Kd.C_drewN ?_ _) | (with_reducible refine Kd.C_drew ?_))); (case side2 => exact HC372_2.out); rintro e w' ⟨rfl, ⟨nd, rfl⟩⟩; (try first | exact ⟨rfl, _, World.drewN_drewN _ _ _⟩ | exact ⟨rfl, _, Eq.trans (World.drewN_drewN _ _ _) (congrArg (World.drewN _) (Nat.add_assoc _ _ _))⟩); have p374 : 0 ≤ (x4_3 : Int) := of_decide_eq_true (by first | (with_reducible assumption) | assumption); have q374 : x4_3 < (l0_0.length : Int) := of_decide_eq_true (by first | (with_reducible assumption) | assumption); obtain ⟨ad374, A374_1, c374_1, A374_2, c374_2, e374, hx374_0, hx374_1, hx374_2, hl374_1, hi374_1, hl374_2, hi374_2⟩ := at_T42 HR0_0.out x4_3 p374 q374; obtain rfl : ad372 = ad374 := (by injection e374); replace hx374_0 := (HB.out.cell (World.block_lt_of_cell? w _ hx374_0)).trans hx374_0; replace hx374_1 := (HB.out.cell (World.block_lt_of_cell? w _ hx374_1)).trans hx374_1; replace hx374_2 := (HB.out.cell (World.block_lt_of_cell? w _ hx374_2)).trans hx374_2; have HR374_1 := Aside0.mk hi374_1; have HC374_1 := Aside0.mk hl374_1; clear hi374_1 hl374_1; have HR374_2 := Aside0.mk hi374_2; have HC374_2 := Aside0.mk hl374_2; clear hi374_2 hl374_2; replace p374 := eq_true p374; replace q374 := eq_true q374; have ea_ := Option.some.inj (hx372_1.symm.trans hx374_1); injection ea_ with ea_ en_ ec_; subst ea_; subst ec_; clear en_; have ea_ := Option.some.inj (hx372_2.symm.trans hx374_2); injection ea_ with ea_ en_ ec_; subst ea_; subst ec_; clear en_) | (go_at_call 22; (with_reducible refine (w12_does.calls k3 _ _ ((rd_T42 l0_0 x4_3).f2) 5 t375 _ ?side1 ?side2 A29.out).mono ?_); (case side1 => repeat (first | exact (Kd.C_below HR374_2.out (by repeat (first | (with_reducible first | exact HB.out | apply below_alloc | apply pw_below_drewN | apply below_drew1 | refine below_set ?_ GE365.out) | exact HB.out))) | (with_reducible refine Kd.C_alloc ?_ _) | (with_reducible refine Kd.C_drewN ?_ _) | (with_reducible refine Kd.C_drew ?_))); (case side2 => exact HC374_2.out); rintro e w' ⟨rfl, ⟨nd, rfl⟩⟩; (try first | exact ⟨rfl, _, World.drewN_drewN _ _ _⟩ | exact ⟨rfl, _, Eq.trans (World.drewN_drewN _ _ _) (congrArg (World.drewN _) (Nat.add_assoc _ _ _))⟩); have p376 : 0 ≤ (x4_3 : Int) := of_decide_eq_true (by first | (with_reducible assumption) | assumption); have q376 : x4_3 < (t368.length : Int) := of_decide_eq_true (by first | (with_reducible assumption) | assumption); obtain ⟨ad376, A376_0, c376_0, e376, hx376_0, hl376_0, hi376_0⟩ := at_L9 (Kd.S_reads' HO_3.out).2.2 x4_3 p376 q376; cases e376; obtain ⟨ce376, hce376, hMe376, hcc376⟩ := Kd.S_get HO_3.out [] x4_3 p376 (by first | exact q376 | exact of_decide_eq_true (by first | (with_reducible assumption) | assumption) | (have e_ := (Kd.S_reads' HO_3.out).1; omega)); obtain ⟨ve376_0, rfl, ge376_0⟩ := hMe376; have hv376_0 := hcc376 0 _ rfl; rw [Nat.add_zero, show ((Kd.slice 3 (Kd.int .i64))).sz = 1 from rfl, Nat.mul_one] at hv376_0; replace hv376_0 := Option.some.inj (hv376_0.symm.trans hx376_0); rw [hv376_0] at ge376_0; have HL376_0 := Aside0.mk (show Kd.R (Kd.int .i64) 3 _ _ _ _ (rd_L9 t368 x4_3) from ge376_0); clear hv376_0 ge376_0; clear hcc376 hce376; have HR376_0 := Aside0.mk hi376_0; have HC376_0 := Aside0.mk hl376_0; clear hi376_0 hl376_0; replace p376 := eq_true p376; replace q376 := eq_true q376)))
              go_ret
              exact ⟨by first | rfl | (simp [errW_none, errW_some] <;> rfl) | (simp [*, errW_none, errW_some] <;> rfl), by repeat (first | (with_reducible first | exact HB.out | apply below_alloc | apply pw_below_drewN | apply below_drew1 | refine below_set ?_ GE365.out) | exact HB.out)⟩
            ·replace c30 := Bool.eq_false_iff.mpr c30
             subst c30
             have H1 : (if t375 = true then (w12_GraphApplies.l0 k3 t368 (wrap64 (x4_3 + 1)) l0_0) else (if ((rd_L9 t368 x4_3).length : Int) = 0 then (w12_GraphApplies.l0 k3 t368 (wrap64 (x4_3 + 1)) l0_0) else (some false))) = some r := by rw [if_neg (show ¬ (false = true) by decide)] at H; exact H
             clear H
             have H := H1
             clear H1
             by_cases c36 : t375 = true
             ·subst c36
              have H1 : (w12_GraphApplies.l0 k3 t368 (wrap64 (x4_3 + 1)) l0_0) = some r := by rw [if_pos rfl] at H; exact H
              clear H
              have H := H1
              clear H1
              have H' := Aside0.mk H
              clear H
              obtain ⟨Ao37, co37, eo37⟩ := Kd.S_slice HO_3.out
              subst eo37
              have hcz38_0 : wr.cell? ⟨gb365, 0, none⟩ = some (.slice A0_0 l0_0.length c0_0) := (blk_cell BK365.out 0).trans rfl
              have hfz38_0 := blk_frozen BK365.out 0
              have p372 : 0 ≤ (x4_3 : Int) := of_decide_eq_true (by first | (with_reducible assumption) | assumption)
              have q372 : x4_3 < (l0_0.length : Int) := of_decide_eq_true (by first | (with_reducible assumption) | assumption)
              obtain ⟨ad372, A372_1, c372_1, A372_2, c372_2, e372, hx372_0, hx372_1, hx372_2, hl372_1, hi372_1, hl372_2, hi372_2⟩ := at_T42 HR0_0.out x4_3 p372 q372
              cases e372
              replace hx372_0 := (HB.out.cell (World.block_lt_of_cell? w _ hx372_0)).trans hx372_0
              replace hx372_1 := (HB.out.cell (World.block_lt_of_cell? w _ hx372_1)).trans hx372_1
              replace hx372_2 := (HB.out.cell (World.block_lt_of_cell? w _ hx372_2)).trans hx372_2
              have HR372_1 := Aside0.mk hi372_1
              have HC372_1 := Aside0.mk hl372_1
              clear hi372_1 hl372_1
              have HR372_2 := Aside0.mk hi372_2
              have HC372_2 := Aside0.mk hl372_2
              clear hi372_2 hl372_2
              replace p372 := eq_true p372
              replace q372 := eq_true q372
              go_wp2_with (first | (go_at_call 22; (with_reducible refine (w12_does.calls k3 _ _ ((rd_T42 l0_0 x4_3).f2) 6 false _ ?side1 ?side2 A28.out).mono ?_); (case side1 => repeat (first | exact (Kd.C_below HR372_2.out HB.out) | (with_reducible refine Kd.C_alloc ?_ _) | (with_reducible refine Kd.C_drewN ?_ _) | (with_reducible refine Kd.C_drew ?_))); (case side2 => exact HC372_2.out); rintro e w' ⟨rfl, ⟨nd, rfl⟩⟩; (try first | exact ⟨rfl, _, World.drewN_drewN _ _ _⟩ | exact ⟨rfl, _, Eq.trans (World.drewN_drewN _ _ _) (congrArg (World.drewN _) (Nat.add_assoc _ _ _))⟩); have p374 : 0 ≤ (x4_3 : Int) := of_decide_eq_true (by first | (with_reducible assumption) | assumption); have q374 : x4_3 < (l0_0.length : Int) := of_decide_eq_true (by first | (with_reducible assumption) | assumption); obtain ⟨ad374, A374_1, c374_1, A374_2, c374_2, e374, hx374_0, hx374_1, hx374_2, hl374_1, hi374_1, hl374_2, hi374_2⟩ := at_T42 HR0_0.out x4_3 p374 q374; obtain rfl : ad372 = ad374 := (by injection e374); replace hx374_0 := (HB.out.cell (World.block_lt_of_cell? w _ hx374_0)).trans hx374_0; replace hx374_1 := (HB.out.cell (World.block_lt_of_cell? w _ hx374_1)).trans hx374_1; replace hx374_2 := (HB.out.cell (World.block_lt_of_cell? w _ hx374_2)).trans hx374_2; have HR374_1 := Aside0.mk hi374_1; have HC374_1 := Aside0.mk hl374_1; clear hi374_1 hl374_1; have HR374_2 := Aside0.mk hi374_2; have HC374_2 := Aside0.mk hl374_2; clear hi374_2 hl374_2; replace p374 := eq_true p374; replace q374 := eq_true q374; have ea_ := Option.some.inj (hx372_1.symm.trans hx374_1); injection ea_ with ea_ en_ ec_; subst ea_; subst ec_; clear en_; have ea_ := Option.some.inj (hx372_2.symm.trans hx374_2); injection ea_ with ea_ en_ ec_; subst ea_; subst ec_; clear en_) | (go_at_call 22; (with_reducible refine (w12_does.calls k3 _ _ ((rd_T42 l0_0 x4_3).f2) 5 true _ ?side1 ?side2 A29.out).mono ?_); (case side1 => repeat (first | exact (Kd.C_below HR374_2.out (by repeat (first | (with_reducible first | exact HB.out | apply below_alloc | apply pw_below_drewN | apply below_drew1 | refine below_set ?_ GE365.out) | exact HB.out))) | (with_reducible refine Kd.C_alloc ?_ _) | (with_reducible refine Kd.C_drewN ?_ _) | (with_reducible refine Kd.C_drew ?_))); (case side2 => exact HC374_2.out); rintro e w' ⟨rfl, ⟨nd, rfl⟩⟩; (try first | exact ⟨rfl, _, World.drewN_drewN _ _ _⟩ | exact ⟨rfl, _, Eq.trans (World.drewN_drewN _ _ _) (congrArg (World.drewN _) (Nat.add_assoc _ _ _))⟩)))
              repeat (go_quiet (first | (go_at_call 22; (with_reducible refine (w12_does.calls k3 _ _ ((rd_T42 l0_0 x4_3).f2) 6 false _ ?side1 ?side2 A28.out).mono ?_); (case side1 => repeat (first | exact (Kd.C_below HR372_2.out HB.out) | (with_reducible refine Kd.C_alloc ?_ _) | (with_reducible refine Kd.C_drewN ?_ _) | (with_reducible refine Kd.C_drew ?_))); (case side2 => exact HC372_2.out); rintro e w' ⟨rfl, ⟨nd, rfl⟩⟩; (try first | exact ⟨rfl, _, World.drewN_drewN _ _ _⟩ | exact ⟨rfl, _, Eq.trans (World.drewN_drewN _ _ _) (congrArg (World.drewN _) (Nat.add_assoc _ _ _))⟩); have p374 : 0 ≤ (x4_3 : Int) := of_decide_eq_true (by first | (with_reducible assumption) | assumption); have q374 : x4_3 < (l0_0.length : Int) := of_decide_eq_true (by first | (with_reducible assumption) | assumption); obtain ⟨ad374, A374_1, c374_1, A374_2, c374_2, e374, hx374_0, hx374_1, hx374_2, hl374_1, hi374_1, hl374_2, hi374_2⟩ := at_T42 HR0_0.out x4_3 p374 q374; obtain rfl : ad372 = ad374 := (by injection e374); replace hx374_0 := (HB.out.cell (World.block_lt_of_cell? w _ hx374_0)).trans hx374_0; replace hx374_1 := (HB.out.cell (World.block_lt_of_cell? w _ hx374_1)).trans hx374_1; replace hx374_2 := (HB.out.cell (World.block_lt_of_cell? w _ hx374_2)).trans hx374_2; have HR374_1 := Aside0.mk hi374_1; have HC374_1 := Aside0.mk hl374_1; clear hi374_1 hl374_1; have HR374_2 := Aside0.mk hi374_2; have HC374_2 := Aside0.mk hl374_2; clear hi374_2 hl374_2; replace p374 := eq_true p374; replace q374 := eq_true q374; have ea_ := Option.some.inj (hx372_1.symm.trans hx374_1); injection ea_ with ea_ en_ ec_; subst ea_; subst ec_; clear en_; have ea_ := Option.some.inj (hx372_2.symm.trans hx374_2); injection ea_ with ea_ en_ ec_; subst ea_; subst ec_; clear en_) | (go_at_call 22; (with_reducible refine (w12_does.calls k3 _ _ ((rd_T42 l0_0 x4_3).f2) 5 true _ ?side1 ?side2 A29.out).mono ?_); (case side1 => repeat (first | exact (Kd.C_below HR374_2.out (by repeat (first | (with_reducible first | exact HB.out | apply below_alloc | apply pw_below_drewN | apply below_drew1 | refine below_set ?_ GE365.out) | exact HB.out))) | (with_reducible refine Kd.C_alloc ?_ _) | (with_reducible refine Kd.C_drewN ?_ _) | (with_reducible refine Kd.C_drew ?_))); (case side2 => exact HC374_2.out); rintro e w' ⟨rfl, ⟨nd, rfl⟩⟩; (try first | exact ⟨rfl, _, World.drewN_drewN _ _ _⟩ | exact ⟨rfl, _, Eq.trans (World.drewN_drewN _ _ _) (congrArg (World.drewN _) (Nat.add_assoc _ _ _))⟩))); try go_wp2_with (first | (go_at_call 22; (with_reducible refine (w12_does.calls k3 _ _ ((rd_T42 l0_0 x4_3).f2) 6 false _ ?side1 ?side2 A28.out).mono ?_); (case side1 => repeat (first | exact (Kd.C_below HR372_2.out HB.out) | (with_reducible refine Kd.C_alloc ?_ _) | (with_reducible refine Kd.C_drewN ?_ _) | (with_reducible refine Kd.C_drew ?_))); (case side2 => exact HC372_2.out); rintro e w' ⟨rfl, ⟨nd, rfl⟩⟩; (try first | exact ⟨rfl, _, World.drewN_drewN _ _ _⟩ | exact ⟨rfl, _, Eq.trans (World.drewN_drewN _ _ _) (congrArg (World.drewN _) (Nat.add_assoc _ _ _))⟩); have p374 : 0 ≤ (x4_3 : Int) := of_decide_eq_true (by first | (with_reducible assumption) | assumption); have q374 : x4_3 < (l0_0.length : Int) := of_decide_eq_true (by first | (with_reducible assumption) | assumption); obtain ⟨ad374, A374_1, c374_1, A374_2, c374_2, e374, hx374_0, hx374_1, hx374_2, hl374_1, hi374_1, hl374_2, hi374_2⟩ := at_T42 HR0_0.out x4_3 p374 q374; obtain rfl : ad372 = ad374 := (by injection e374); replace hx374_0 := (HB.out.cell (World.block_lt_of_cell? w _ hx374_0)).trans hx374_0; replace hx374_1 := (HB.out.cell (World.block_lt_of_cell? w _ hx374_1)).trans hx374_1; replace hx374_2 := (HB.out.cell (World.block_lt_of_cell? w _ hx374_2)).trans hx374_2; have HR374_1 := Aside0.mk hi374_1; have HC374_1 := Aside0.mk hl374_1; clear hi374_1 hl374_1; have HR374_2 := Aside0.mk hi374_2; have HC374_2 := Aside0.mk hl374_2; clear hi374_2 hl374_2; replace p374 := eq_true p374; replace q374 := eq_true q374; have ea_ := Option.some.inj (hx372_1.symm.trans hx374_1); injection ea_ with ea_ en_ ec_; subst ea_; subst ec_; clear en_; have ea_ := Option.some.inj (hx372_2.symm.trans hx374_2); injection ea_ with ea_ en_ ec_; subst ea_; subst ec_; clear en_) | (go_at_call 22; (with_reducible refine (w12_does.calls k3 _ _ ((rd_T42 l0_0 x4_3).f2) 5 true _ ?side1 ?side2 A29.out).mono ?_); (case side1 => repeat (first | exact (Kd.C_below HR374_2.out (by repeat (first | (with_reducible first | exact HB.out | apply below_alloc | apply pw_below_drewN | apply below_drew1 | refine below_set ?_ GE365.out) | exact HB.out))) | (with_reducible refine Kd.C_alloc ?_ _) | (with_reducible refine Kd.C_drewN ?_ _) | (with_reducible refine Kd.C_drew ?_))); (case side2 => exact HC374_2.out); rintro e w' ⟨rfl, ⟨nd, rfl⟩⟩; (try first | exact ⟨rfl, _, World.drewN_drewN _ _ _⟩ | exact ⟨rfl, _, Eq.trans (World.drewN_drewN _ _ _) (congrArg (World.drewN _) (Nat.add_assoc _ _ _))⟩))))
              go_roundg k3
              case measure => have := HJ1.out; have := HJ14.out; have := HK3.out; omega
              case rel => exact ⟨(wrap64 (x4_3 + 1)), (by first | rfl | (simp; done) | (simp [*]; done)), H', ⟨by have := HJ1.out; have := HJ14.out; have := HK3.out; omega⟩, ⟨by (with_reducible repeat (first | apply Kd.S_alloc | apply Kd.S_drewN | apply Kd.S_drew)); exact HO_3.out⟩, ⟨by (with_reducible repeat (first | refine blk_drewN ?_ _ | refine blk_drew ?_ | refine blk_alloc ?_ _)); exact BK365.out⟩, ⟨by repeat (first | (with_reducible first | exact HB.out | apply below_alloc | apply pw_below_drewN | apply below_drew1 | refine below_set ?_ GE365.out) | exact HB.out)⟩⟩
             ·replace c36 := Bool.eq_false_iff.mpr c36
              subst c36
              have H1 : (if ((rd_L9 t368 x4_3).length : Int) = 0 then (w12_GraphApplies.l0 k3 t368 (wrap64 (x4_3 + 1)) l0_0) else (some false)) = some r := by rw [if_neg (show ¬ (false = true) by decide)] at H; exact H
              clear H
              have H := H1
              clear H1
              by_cases c39 : ((rd_L9 t368 x4_3).length : Int) = 0
              ·rw [if_pos c39] at H
               have c39b0 : (((rd_L9 t368 x4_3).length : Int) == 0) = true := beq_iff_eq.mpr c39
               have c39b1 : (((rd_L9 t368 x4_3).length : Int) != 0) = false := bne_eq_false_iff_eq.mpr c39
               clear c39
               have H' := Aside0.mk H
               clear H
               obtain ⟨Ao40, co40, eo40⟩ := Kd.S_slice HO_3.out
               subst eo40
               have hcz41_0 : wr.cell? ⟨gb365, 0, none⟩ = some (.slice A0_0 l0_0.length c0_0) := (blk_cell BK365.out 0).trans rfl
               have hfz41_0 := blk_frozen BK365.out 0
               have p372 : 0 ≤ (x4_3 : Int) := of_decide_eq_true (by first | (with_reducible assumption) | assumption)
               have q372 : x4_3 < (l0_0.length : Int) := of_decide_eq_true (by first | (with_reducible assumption) | assumption)
               obtain ⟨ad372, A372_1, c372_1, A372_2, c372_2, e372, hx372_0, hx372_1, hx372_2, hl372_1, hi372_1, hl372_2, hi372_2⟩ := at_T42 HR0_0.out x4_3 p372 q372
               cases e372
               replace hx372_0 := (HB.out.cell (World.block_lt_of_cell? w _ hx372_0)).trans hx372_0
               replace hx372_1 := (HB.out.cell (World.block_lt_of_cell? w _ hx372_1)).trans hx372_1
               replace hx372_2 := (HB.out.cell (World.block_lt_of_cell? w _ hx372_2)).trans hx372_2
               have HR372_1 := Aside0.mk hi372_1
               have HC372_1 := Aside0.mk hl372_1
               clear hi372_1 hl372_1
               have HR372_2 := Aside0.mk hi372_2
               have HC372_2 := Aside0.mk hl372_2
               clear hi372_2 hl372_2
               replace p372 := eq_true p372
               replace q372 := eq_true q372
               go_wp2_with (first | (go_at_call 22; (with_reducible refine (w12_does.calls k3 _ _ ((rd_T42 l0_0 x4_3).f2) 6 false _ ?side1 ?side2 A28.out).mono ?_); (case side1 => repeat (first | exact (Kd.C_below HR372_2.out HB.out) | (with_reducible refine Kd.C_alloc ?_ _) | (with_reducible refine Kd.C_drewN ?_ _) | (with_reducible refine Kd.C_drew ?_))); (case side2 => exact HC372_2.out); rintro e w' ⟨rfl, ⟨nd, rfl⟩⟩; (try first | exact ⟨rfl, _, World.drewN_drewN _ _ _⟩ | exact ⟨rfl, _, Eq.trans (World.drewN_drewN _ _ _) (congrArg (World.drewN _) (Nat.add_assoc _ _ _))⟩); have p374 : 0 ≤ (x4_3 : Int) := of_decide_eq_true (by first | (with_reducible assumption) | assumption); have q374 : x4_3 < (l0_0.length : Int) := of_decide_eq_true (by first | (with_reducible assumption) | assumption); obtain ⟨ad374, A374_1, c374_1, A374_2, c374_2, e374, hx374_0, hx374_1, hx374_2, hl374_1, hi374_1, hl374_2, hi374_2⟩ := at_T42 HR0_0.out x4_3 p374 q374; obtain rfl : ad372 = ad374 := (by injection e374); replace hx374_0 := (HB.out.cell (World.block_lt_of_cell? w _ hx374_0)).trans hx374_0; replace hx374_1 := (HB.out.cell (World.block_lt_of_cell? w _ hx374_1)).trans hx374_1; replace hx374_2 := (HB.out.cell (World.block_lt_of_cell? w _ hx374_2)).trans hx374_2; have HR374_1 := Aside0.mk hi374_1; have HC374_1 := Aside0.mk hl374_1; clear hi374_1 hl374_1; have HR374_2 := Aside0.mk hi374_2; have HC374_2 := Aside0.mk hl374_2; clear hi374_2 hl374_2; replace p374 := eq_true p374; replace q374 := eq_true q374; have ea_ := Option.some.inj (hx372_1.symm.trans hx374_1); injection ea_ with ea_ en_ ec_; subst ea_; subst ec_; clear en_; have ea_ := Option.some.inj (hx372_2.symm.trans hx374_2); injection ea_ with ea_ en_ ec_; subst ea_; subst ec_; clear en_) | (go_at_call 22; (with_reducible refine (w12_does.calls k3 _ _ ((rd_T42 l0_0 x4_3).f2) 5 false _ ?side1 ?side2 A29.out).mono ?_); (case side1 => repeat (first | exact (Kd.C_below HR374_2.out (by repeat (first | (with_reducible first | exact HB.out | apply below_alloc | apply pw_below_drewN | apply below_drew1 | refine below_set ?_ GE365.out) | exact HB.out))) | (with_reducible refine Kd.C_alloc ?_ _) | (with_reducible refine Kd.C_drewN ?_ _) | (with_reducible refine Kd.C_drew ?_))); (case side2 => exact HC374_2.out); rintro e w' ⟨rfl, ⟨nd, rfl⟩⟩; (try first | exact ⟨rfl, _, World.drewN_drewN _ _ _⟩ | exact ⟨rfl, _, Eq.trans (World.drewN_drewN _ _ _) (congrArg (World.drewN _) (Nat.add_assoc _ _ _))⟩); have p377 : 0 ≤ (x4_3 : Int) := of_decide_eq_true (by first | (with_reducible assumption) | assumption); have q377 : x4_3 < (t368.length : Int) := of_decide_eq_true (by first | (with_reducible assumption) | assumption); obtain ⟨ad377, A377_0, c377_0, e377, hx377_0, hl377_0, hi377_0⟩ := at_L9 (Kd.S_reads' HO_3.out).2.2 x4_3 p377 q377; cases e377; obtain ⟨ce377, hce377, hMe377, hcc377⟩ := Kd.S_get HO_3.out [] x4_3 p377 (by first | exact q377 | exact of_decide_eq_true (by first | (with_reducible assumption) | assumption) | (have e_ := (Kd.S_reads' HO_3.out).1; omega)); obtain ⟨ve377_0, rfl, ge377_0⟩ := hMe377; have hv377_0 := hcc377 0 _ rfl; rw [Nat.add_zero, show ((Kd.slice 3 (Kd.int .i64))).sz = 1 from rfl, Nat.mul_one] at hv377_0; replace hv377_0 := Option.some.inj (hv377_0.symm.trans hx377_0); rw [hv377_0] at ge377_0; have HL377_0 := Aside0.mk (show Kd.R (Kd.int .i64) 3 _ _ _ _ (rd_L9 t368 x4_3) from ge377_0); clear hv377_0 ge377_0; clear hcc377 hce377; have HR377_0 := Aside0.mk hi377_0; have HC377_0 := Aside0.mk hl377_0; clear hi377_0 hl377_0; replace p377 := eq_true p377; replace q377 := eq_true q377))
               repeat (go_quiet (first | (go_at_call 22; (with_reducible refine (w12_does.calls k3 _ _ ((rd_T42 l0_0 x4_3).f2) 6 false _ ?side1 ?side2 A28.out).mono ?_); (case side1 => repeat (first | exact (Kd.C_below HR372_2.out HB.out) | (with_reducible refine Kd.C_alloc ?_ _) | (with_reducible refine Kd.C_drewN ?_ _) | (with_reducible refine Kd.C_drew ?_))); (case side2 => exact HC372_2.out); rintro e w' ⟨rfl, ⟨nd, rfl⟩⟩; (try first | exact ⟨rfl, _, World.drewN_drewN _ _ _⟩ | exact ⟨rfl, _, Eq.trans (World.drewN_drewN _ _ _) (congrArg (World.drewN _) (Nat.add_assoc _ _ _))⟩); have p374 : 0 ≤ (x4_3 : Int) := of_decide_eq_true (by first | (with_reducible assumption) | assumption); have q374 : x4_3 < (l0_0.length : Int) := of_decide_eq_true (by first | (with_reducible assumption) | assumption); obtain ⟨ad374, A374_1, c374_1, A374_2, c374_2, e374, hx374_0, hx374_1, hx374_2, hl374_1, hi374_1, hl374_2, hi374_2⟩ := at_T42 HR0_0.out x4_3 p374 q374; obtain rfl : ad372 = ad374 := (by injection e374); replace hx374_0 := (HB.out.cell (World.block_lt_of_cell? w _ hx374_0)).trans hx374_0; replace hx374_1 := (HB.out.cell (World.block_lt_of_cell? w _ hx374_1)).trans hx374_1; replace hx374_2 := (HB.out.cell (World.block_lt_of_cell? w _ hx374_2)).trans hx374_2; have HR374_1 := Aside0.mk hi374_1; have HC374_1 := Aside0.mk hl374_1; clear hi374_1 hl374_1; have HR374_2 := Aside0.mk hi374_2; have HC374_2 := Aside0.mk hl374_2; clear hi374_2 hl374_2; replace p374 := eq_true p374; replace q374 := eq_true q374; have ea_ := Option.some.inj (hx372_1.symm.trans hx374_1); injection ea_ with ea_ en_ ec_; subst ea_; subst ec_; clear en_; have ea_ := Option.some.inj (hx372_2.symm.trans hx374_2); injection ea_ with ea_ en_ ec_; subst ea_; subst ec_; clear en_) | (go_at_call 22; (with_reducible refine (w12_does.calls k3 _ _ ((rd_T42 l0_0 x4_3).f2) 5 false _ ?side1 ?side2 A29.out).mono ?_); (case side1 => repeat (first | exact (Kd.C_below HR374_2.out (by repeat (first | (with_reducible first | exact HB.out | apply below_alloc | apply pw_below_drewN | apply below_drew1 | refine below_set ?_ GE365.out) | exact HB.out))) | (with_reducible refine Kd.C_alloc ?_ _) | (with_reducible refine Kd.C_drewN ?_ _) | (with_reducible refine Kd.C_drew ?_))); (case side2 => exact HC374_2.out); rintro e w' ⟨rfl, ⟨nd, rfl⟩⟩; (try first | exact ⟨rfl, _, World.drewN_drewN _ _ _⟩ | exact ⟨rfl, _, Eq.trans (World.drewN_drewN _ _ _) (congrArg (World.drewN _) (Nat.add_assoc _ _ _))⟩); have p377 : 0 ≤ (x4_3 : Int) := of_decide_eq_true (by first | (with_reducible assumption) | assumption); have q377 : x4_3 < (t368.length : Int) := of_decide_eq_true (by first | (with_reducible assumption) | assumption); obtain ⟨ad377, A377_0, c377_0, e377, hx377_0, hl377_0, hi377_0⟩ := at_L9 (Kd.S_reads' HO_3.out).2.2 x4_3 p377 q377; cases e377; obtain ⟨ce377, hce377, hMe377, hcc377⟩ := Kd.S_get HO_3.out [] x4_3 p377 (by first | exact q377 | exact of_decide_eq_true (by first | (with_reducible assumption) | assumption) | (have e_ := (Kd.S_reads' HO_3.out).1; omega)); obtain ⟨ve377_0, rfl, ge377_0⟩ := hMe377; have hv377_0 := hcc377 0 _ rfl; rw [Nat.add_zero, show ((Kd.slice 3 (Kd.int .i64))).sz = 1 from rfl, Nat.mul_one] at hv377_0; replace hv377_0 := Option.some.inj (hv377_0.symm.trans hx377_0); rw [hv377_0] at ge377_0; have HL377_0 := Aside0.mk (show Kd.R (Kd.int .i64) 3 _ _ _ _ (rd_L9 t368 x4_3) from ge377_0); clear hv377_0 ge377_0; clear hcc377 hce377; have HR377_0 := Aside0.mk hi377_0; have HC377_0 := Aside0.mk hl377_0; clear hi377_0 hl377_0; replace p377 := eq_true p377; replace q377 := eq_true q377)); try go_wp2_with (first | (go_at_call 22; (with_reducible refine (w12_does.calls k3 _ _ ((rd_T42 l0_0 x4_3).f2) 6 false _ ?side1 ?side2 A28.out).mono ?_); (case side1 => repeat (first | exact (Kd.C_below HR372_2.out HB.out) | (with_reducible refine Kd.C_alloc ?_ _) | (with_reducible refine Kd.C_drewN ?_ _) | (with_reducible refine Kd.C_drew ?_))); (case side2 => exact HC372_2.out); rintro e w' ⟨rfl, ⟨nd, rfl⟩⟩; (try first | exact ⟨rfl, _, World.drewN_drewN _ _ _⟩ | exact ⟨rfl, _, Eq.trans (World.drewN_drewN _ _ _) (congrArg (World.drewN _) (Nat.add_assoc _ _ _))⟩); have p374 : 0 ≤ (x4_3 : Int) := of_decide_eq_true (by first | (with_reducible assumption) | assumption); have q374 : x4_3 < (l0_0.length : Int) := of_decide_eq_true (by first | (with_reducible assumption) | assumption); obtain ⟨ad374, A374_1, c374_1, A374_2, c374_2, e374, hx374_0, hx374_1, hx374_2, hl374_1, hi374_1, hl374_2, hi374_2⟩ := at_T42 HR0_0.out x4_3 p374 q374; obtain rfl : ad372 = ad374 := (by injection e374); replace hx374_0 := (HB.out.cell (World.block_lt_of_cell? w _ hx374_0)).trans hx374_0; replace hx374_1 := (HB.out.cell (World.block_lt_of_cell? w _ hx374_1)).trans hx374_1; replace hx374_2 := (HB.out.cell (World.block_lt_of_cell? w _ hx374_2)).trans hx374_2; have HR374_1 := Aside0.mk hi374_1; have HC374_1 := Aside0.mk hl374_1; clear hi374_1 hl374_1; have HR374_2 := Aside0.mk hi374_2; have HC374_2 := Aside0.mk hl374_2; clear hi374_2 hl374_2; replace p374 := eq_true p374; replace q374 := eq_true q374; have ea_ := Option.some.inj (hx372_1.symm.trans hx374_1); injection ea_ with ea_ en_ ec_; subst ea_; subst ec_; clear en_; have ea_ := Option.some.inj (hx372_2.symm.trans hx374_2); injection ea_ with ea_ en_ ec_; subst ea_; subst ec_; clear en_) | (go_at_call 22; (with_reducible refine (w12_does.calls k3 _ _ ((rd_T42 l0_0 x4_3).f2) 5 false _ ?side1 ?side2 A29.out).mono ?_); (case side1 => repeat (first | exact (Kd.C_below HR374_2.out (by repeat (first | (with_reducible first | exact HB.out | apply below_alloc | apply pw_below_drewN | apply below_drew1 | refine below_set ?_ GE365.out) | exact HB.out))) | (with_reducible refine Kd.C_alloc ?_ _) | (with_reducible refine Kd.C_drewN ?_ _) | (with_reducible refine Kd.C_drew ?_))); (case side2 => exact HC374_2.out); rintro e w' ⟨rfl, ⟨nd, rfl⟩⟩; (try first | exact ⟨rfl, _, World.drewN_drewN _ _ _⟩ | exact ⟨rfl, _, Eq.trans (World.drewN_drewN _ _ _) (congrArg (World.drewN _) (Nat.add_assoc _ _ _))⟩); have p377 : 0 ≤ (x4_3 : Int) := of_decide_eq_true (by first | (with_reducible assumption) | assumption); have q377 : x4_3 < (t368.length : Int) := of_decide_eq_true (by first | (with_reducible assumption) | assumption); obtain ⟨ad377, A377_0, c377_0, e377, hx377_0, hl377_0, hi377_0⟩ := at_L9 (Kd.S_reads' HO_3.out).2.2 x4_3 p377 q377; cases e377; obtain ⟨ce377, hce377, hMe377, hcc377⟩ := Kd.S_get HO_3.out [] x4_3 p377 (by first | exact q377 | exact of_decide_eq_true (by first | (with_reducible assumption) | assumption) | (have e_ := (Kd.S_reads' HO_3.out).1; omega)); obtain ⟨ve377_0, rfl, ge377_0⟩ := hMe377; have hv377_0 := hcc377 0 _ rfl; rw [Nat.add_zero, show ((Kd.slice 3 (Kd.int .i64))).sz = 1 from rfl, Nat.mul_one] at hv377_0; replace hv377_0 := Option.some.inj (hv377_0.symm.trans hx377_0); rw [hv377_0] at ge377_0; have HL377_0 := Aside0.mk (show Kd.R (Kd.int .i64) 3 _ _ _ _ (rd_L9 t368 x4_3) from ge377_0); clear hv377_0 ge377_0; clear hcc377 hce377; have HR377_0 := Aside0.mk hi377_0; have HC377_0 := Aside0.mk hl377_0; clear hi377_0 hl377_0; replace p377 := eq_true p377; replace q377 := eq_true q377)))
               go_roundg k3
               case measure => have := HJ1.out; have := HJ14.out; have := HK3.out; omega
               case rel => exact ⟨(wrap64 (x4_3 + 1)), (by first | rfl | (simp; done) | (simp [*]; done)), H', ⟨by have := HJ1.out; have := HJ14.out; have := HK3.out; omega⟩, ⟨by (with_reducible repeat (first | apply Kd.S_alloc | apply Kd.S_drewN | apply Kd.S_drew)); exact HO_3.out⟩, ⟨by (with_reducible repeat (first | refine blk_drewN ?_ _ | refine blk_drew ?_ | refine blk_alloc ?_ _)); exact BK365.out⟩, ⟨by repeat (first | (with_reducible first | exact HB.out | apply below_alloc | apply pw_below_drewN | apply below_drew1 | refine below_set ?_ GE365.out) | exact HB.out)⟩⟩
              ·rw [if_neg c39] at H
               have c39b0 : (((rd_L9 t368 x4_3).length : Int) == 0) = false := beq_eq_false_iff_ne.mpr c39
               have c39b1 : (((rd_L9 t368 x4_3).length : Int) != 0) = true := bne_iff_ne.mpr c39
               have c39b2 : ¬ ((rd_L9 t368 x4_3) = []) := fun h_ => c39 (by rw [h_]; rfl)
               obtain rfl := Option.some.inj H
               obtain ⟨Ao42, co42, eo42⟩ := Kd.S_slice HO_3.out
               subst eo42
               have hcz43_0 : wr.cell? ⟨gb365, 0, none⟩ = some (.slice A0_0 l0_0.length c0_0) := (blk_cell BK365.out 0).trans rfl
               have hfz43_0 := blk_frozen BK365.out 0
               have p372 : 0 ≤ (x4_3 : Int) := of_decide_eq_true (by first | (with_reducible assumption) | assumption)
               have q372 : x4_3 < (l0_0.length : Int) := of_decide_eq_true (by first | (with_reducible assumption) | assumption)
               obtain ⟨ad372, A372_1, c372_1, A372_2, c372_2, e372, hx372_0, hx372_1, hx372_2, hl372_1, hi372_1, hl372_2, hi372_2⟩ := at_T42 HR0_0.out x4_3 p372 q372
               cases e372
               replace hx372_0 := (HB.out.cell (World.block_lt_of_cell? w _ hx372_0)).trans hx372_0
               replace hx372_1 := (HB.out.cell (World.block_lt_of_cell? w _ hx372_1)).trans hx372_1
               replace hx372_2 := (HB.out.cell (World.block_lt_of_cell? w _ hx372_2)).trans hx372_2
               have HR372_1 := Aside0.mk hi372_1
               have HC372_1 := Aside0.mk hl372_1
               clear hi372_1 hl372_1
               have HR372_2 := Aside0.mk hi372_2
               have HC372_2 := Aside0.mk hl372_2
               clear hi372_2 hl372_2
               replace p372 := eq_true p372
               replace q372 := eq_true q372
               go_wp2_with (first | (go_at_call 22; (with_reducible refine (w12_does.calls k3 _ _ ((rd_T42 l0_0 x4_3).f2) 6 false _ ?side1 ?side2 A28.out).mono ?_); (case side1 => repeat (first | exact (Kd.C_below HR372_2.out HB.out) | (with_reducible refine Kd.C_alloc ?_ _) | (with_reducible refine Kd.C_drewN ?_ _) | (with_reducible refine Kd.C_drew ?_))); (case side2 => exact HC372_2.out); rintro e w' ⟨rfl, ⟨nd, rfl⟩⟩; (try first | exact ⟨rfl, _, World.drewN_drewN _ _ _⟩ | exact ⟨rfl, _, Eq.trans (World.drewN_drewN _ _ _) (congrArg (World.drewN _) (Nat.add_assoc _ _ _))⟩); have p374 : 0 ≤ (x4_3 : Int) := of_decide_eq_true (by first | (with_reducible assumption) | assumption); have q374 : x4_3 < (l0_0.length : Int) := of_decide_eq_true (by first | (with_reducible assumption) | assumption); obtain ⟨ad374, A374_1, c374_1, A374_2, c374_2, e374, hx374_0, hx374_1, hx374_2, hl374_1, hi374_1, hl374_2, hi374_2⟩ := at_T42 HR0_0.out x4_3 p374 q374; obtain rfl : ad372 = ad374 := (by injection e374); replace hx374_0 := (HB.out.cell (World.block_lt_of_cell? w _ hx374_0)).trans hx374_0; replace hx374_1 := (HB.out.cell (World.block_lt_of_cell? w _ hx374_1)).trans hx374_1; replace hx374_2 := (HB.out.cell (World.block_lt_of_cell? w _ hx374_2)).trans hx374_2; have HR374_1 := Aside0.mk hi374_1; have HC374_1 := Aside0.mk hl374_1; clear hi374_1 hl374_1; have HR374_2 := Aside0.mk hi374_2; have HC374_2 := Aside0.mk hl374_2; clear hi374_2 hl374_2; replace p374 := eq_true p374; replace q374 := eq_true q374; have ea_ := Option.some.inj (hx372_1.symm.trans hx374_1); injection ea_ with ea_ en_ ec_; subst ea_; subst ec_; clear en_; have ea_ := Option.some.inj (hx372_2.symm.trans hx374_2); injection ea_ with ea_ en_ ec_; subst ea_; subst ec_; clear en_) | (go_at_call 22; (with_reducible refine (w12_does.calls k3 _ _ ((rd_T42 l0_0 x4_3).f2) 5 false _ ?side1 ?side2 A29.out).mono ?_); (case side1 => repeat (first | exact (Kd.C_below HR374_2.out (by repeat (first | (with_reducible first | exact HB.out | apply below_alloc | apply pw_below_drewN | apply below_drew1 | refine below_set ?_ GE365.out) | exact HB.out))) | (with_reducible refine Kd.C_alloc ?_ _) | (with_reducible refine Kd.C_drewN ?_ _) | (with_reducible refine Kd.C_drew ?_))); (case side2 => exact HC374_2.out); rintro e w' ⟨rfl, ⟨nd, rfl⟩⟩; (try first | exact ⟨rfl, _, World.drewN_drewN _ _ _⟩ | exact ⟨rfl, _, Eq.trans (World.drewN_drewN _ _ _) (congrArg (World.drewN _) (Nat.add_assoc _ _ _))⟩); have p377 : 0 ≤ (x4_3 : Int) := of_decide_eq_true (by first | (with_reducible assumption) | assumption); have q377 : x4_3 < (t368.length : Int) := of_decide_eq_true (by first | (with_reducible assumption) | assumption); obtain ⟨ad377, A377_0, c377_0, e377, hx377_0, hl377_0, hi377_0⟩ := at_L9 (Kd.S_reads' HO_3.out).2.2 x4_3 p377 q377; cases e377; obtain ⟨ce377, hce377, hMe377, hcc377⟩ := Kd.S_get HO_3.out [] x4_3 p377 (by first | exact q377 | exact of_decide_eq_true (by first | (with_reducible assumption) | assumption) | (have e_ := (Kd.S_reads' HO_3.out).1; omega)); obtain ⟨ve377_0, rfl, ge377_0⟩ := hMe377; have hv377_0 := hcc377 0 _ rfl; rw [Nat.add_zero, show ((Kd.slice 3 (Kd.int .i64))).sz = 1 from rfl, Nat.mul_one] at hv377_0; replace hv377_0 := Option.some.inj (hv377_0.symm.trans hx377_0); rw [hv377_0] at ge377_0; have HL377_0 := Aside0.mk (show Kd.R (Kd.int .i64) 3 _ _ _ _ (rd_L9 t368 x4_3) from ge377_0); clear hv377_0 ge377_0; clear hcc377 hce377; have HR377_0 := Aside0.mk hi377_0; have HC377_0 := Aside0.mk hl377_0; clear hi377_0 hl377_0; replace p377 := eq_true p377; replace q377 := eq_true q377))
               repeat (go_quiet (first | (go_at_call 22; (with_reducible refine (w12_does.calls k3 _ _ ((rd_T42 l0_0 x4_3).f2) 6 false _ ?side1 ?side2 A28.out).mono ?_); (case side1 => repeat (first | exact (Kd.C_below HR372_2.out HB.out) | (with_reducible refine Kd.C_alloc ?_ _) | (with_reducible refine Kd.C_drewN ?_ _) | (with_reducible refine Kd.C_drew ?_))); (case side2 => exact HC372_2.out); rintro e w' ⟨rfl, ⟨nd, rfl⟩⟩; (try first | exact ⟨rfl, _, World.drewN_drewN _ _ _⟩ | exact ⟨rfl, _, Eq.trans (World.drewN_drewN _ _ _) (congrArg (World.drewN _) (Nat.add_assoc _ _ _))⟩); have p374 : 0 ≤ (x4_3 : Int) := of_decide_eq_true (by first | (with_reducible assumption) | assumption); have q374 : x4_3 < (l0_0.length : Int) := of_decide_eq_true (by first | (with_reducible assumption) | assumption); obtain ⟨ad374, A374_1, c374_1, A374_2, c374_2, e374, hx374_0, hx374_1, hx374_2, hl374_1, hi374_1, hl374_2, hi374_2⟩ := at_T42 HR0_0.out x4_3 p374 q374; obtain rfl : ad372 = ad374 := (by injection e374); replace hx374_0 := (HB.out.cell (World.block_lt_of_cell? w _ hx374_0)).trans hx374_0; replace hx374_1 := (HB.out.cell (World.block_lt_of_cell? w _ hx374_1)).trans hx374_1; replace hx374_2 := (HB.out.cell (World.block_lt_of_cell? w _ hx374_2)).trans hx374_2; have HR374_1 := Aside0.mk hi374_1; have HC374_1 := Aside0.mk hl374_1; clear hi374_1 hl374_1; have HR374_2 := Aside0.mk hi374_2; have HC374_2 := Aside0.mk hl374_2; clear hi374_2 hl374_2; replace p374 := eq_true p374; replace q374 := eq_true q374; have ea_ := Option.some.inj (hx372_1.symm.trans hx374_1); injection ea_ with ea_ en_ ec_; subst ea_; subst ec_; clear en_; have ea_ := Option.some.inj (hx372_2.symm.trans hx374_2); injection ea_ with ea_ en_ ec_; subst ea_; subst ec_; clear en_) | (go_at_call 22; (with_reducible refine (w12_does.calls k3 _ _ ((rd_T42 l0_0 x4_3).f2) 5 false _ ?side1 ?side2 A29.out).mono ?_); (case side1 => repeat (first | exact (Kd.C_below HR374_2.out (by repeat (first | (with_reducible first | exact HB.out | apply below_alloc | apply pw_below_drewN | apply below_drew1 | refine below_set ?_ GE365.out) | exact HB.out))) | (with_reducible refine Kd.C_alloc ?_ _) | (with_reducible refine Kd.C_drewN ?_ _) | (with_reducible refine Kd.C_drew ?_))); (case side2 => exact HC374_2.out); rintro e w' ⟨rfl, ⟨nd, rfl⟩⟩; (try first | exact ⟨rfl, _, World.drewN_drewN _ _ _⟩ | exact ⟨rfl, _, Eq.trans (World.drewN_drewN _ _ _) (congrArg (World.drewN _) (Nat.add_assoc _ _ _))⟩); have p377 : 0 ≤ (x4_3 : Int) := of_decide_eq_true (by first | (with_reducible assumption) | assumption); have q377 : x4_3 < (t368.length : Int) := of_decide_eq_true (by first | (with_reducible assumption) | assumption); obtain ⟨ad377, A377_0, c377_0, e377, hx377_0, hl377_0, hi377_0⟩ := at_L9 (Kd.S_reads' HO_3.out).2.2 x4_3 p377 q377; cases e377; obtain ⟨ce377, hce377, hMe377, hcc377⟩ := Kd.S_get HO_3.out [] x4_3 p377 (by first | exact q377 | exact of_decide_eq_true (by first | (with_reducible assumption) | assumption) | (have e_ := (Kd.S_reads' HO_3.out).1; omega)); obtain ⟨ve377_0, rfl, ge377_0⟩ := hMe377; have hv377_0 := hcc377 0 _ rfl; rw [Nat.add_zero, show ((Kd.slice 3 (Kd.int .i64))).sz = 1 from rfl, Nat.mul_one] at hv377_0; replace hv377_0 := Option.some.inj (hv377_0.symm.trans hx377_0); rw [hv377_0] at ge377_0; have HL377_0 := Aside0.mk (show Kd.R (Kd.int .i64) 3 _ _ _ _ (rd_L9 t368 x4_3) from ge377_0); clear hv377_0 ge377_0; clear hcc377 hce377; have HR377_0 := Aside0.mk hi377_0; have HC377_0 := Aside0.mk hl377_0; clear hi377_0 hl377_0; replace p377 := eq_true p377; replace q377 := eq_true q377)); try go_wp2_with (first | (go_at_call 22; (with_reducible refine (w12_does.calls k3 _ _ ((rd_T42 l0_0 x4_3).f2) 6 false _ ?side1 ?side2 A28.out).mono ?_); (case side1 => repeat (first | exact (Kd.C_below HR372_2.out HB.out) | (with_reducible refine Kd.C_alloc ?_ _) | (with_reducible refine Kd.C_drewN ?_ _) | (with_reducible refine Kd.C_drew ?_))); (case side2 => exact HC372_2.out); rintro e w' ⟨rfl, ⟨nd, rfl⟩⟩; (try first | exact ⟨rfl, _, World.drewN_drewN _ _ _⟩ | exact ⟨rfl, _, Eq.trans (World.drewN_drewN _ _ _) (congrArg (World.drewN _) (Nat.add_assoc _ _ _))⟩); have p374 : 0 ≤ (x4_3 : Int) := of_decide_eq_true (by first | (with_reducible assumption) | assumption); have q374 : x4_3 < (l0_0.length : Int) := of_decide_eq_true (by first | (with_reducible assumption) | assumption); obtain ⟨ad374, A374_1, c374_1, A374_2, c374_2, e374, hx374_0, hx374_1, hx374_2, hl374_1, hi374_1, hl374_2, hi374_2⟩ := at_T42 HR0_0.out x4_3 p374 q374; obtain rfl : ad372 = ad374 := (by injection e374); replace hx374_0 := (HB.out.cell (World.block_lt_of_cell? w _ hx374_0)).trans hx374_0; replace hx374_1 := (HB.out.cell (World.block_lt_of_cell? w _ hx374_1)).trans hx374_1; replace hx374_2 := (HB.out.cell (World.block_lt_of_cell? w _ hx374_2)).trans hx374_2; have HR374_1 := Aside0.mk hi374_1; have HC374_1 := Aside0.mk hl374_1; clear hi374_1 hl374_1; have HR374_2 := Aside0.mk hi374_2; have HC374_2 := Aside0.mk hl374_2; clear hi374_2 hl374_2; replace p374 := eq_true p374; replace q374 := eq_true q374; have ea_ := Option.some.inj (hx372_1.symm.trans hx374_1); injection ea_ with ea_ en_ ec_; subst ea_; subst ec_; clear en_; have ea_ := Option.some.inj (hx372_2.symm.trans hx374_2); injection ea_ with ea_ en_ ec_; subst ea_; subst ec_; clear en_) | (go_at_call 22; (with_reducible refine (w12_does.calls k3 _ _ ((rd_T42 l0_0 x4_3).f2) 5 false _ ?side1 ?side2 A29.out).mono ?_); (case side1 => repeat (first | exact (Kd.C_below HR374_2.out (by repeat (first | (with_reducible first | exact HB.out | apply below_alloc | apply pw_below_drewN | apply below_drew1 | refine below_set ?_ GE365.out) | exact HB.out))) | (with_reducible refine Kd.C_alloc ?_ _) | (with_reducible refine Kd.C_drewN ?_ _) | (with_reducible refine Kd.C_drew ?_))); (case side2 => exact HC374_2.out); rintro e w' ⟨rfl, ⟨nd, rfl⟩⟩; (try first | exact ⟨rfl, _, World.drewN_drewN _ _ _⟩ | exact ⟨rfl, _, Eq.trans (World.drewN_drewN _ _ _) (congrArg (World.drewN _) (Nat.add_assoc _ _ _))⟩); have p377 : 0 ≤ (x4_3 : Int) := of_decide_eq_true (by first | (with_reducible assumption) | assumption); have q377 : x4_3 < (t368.length : Int) := of_decide_eq_true (by first | (with_reducible assumption) | assumption); obtain ⟨ad377, A377_0, c377_0, e377, hx377_0, hl377_0, hi377_0⟩ := at_L9 (Kd.S_reads' HO_3.out).2.2 x4_3 p377 q377; cases e377; obtain ⟨ce377, hce377, hMe377, hcc377⟩ := Kd.S_get HO_3.out [] x4_3 p377 (by first | exact q377 | exact of_decide_eq_true (by first | (with_reducible assumption) | assumption) | (have e_ := (Kd.S_reads' HO_3.out).1; omega)); obtain ⟨ve377_0, rfl, ge377_0⟩ := hMe377; have hv377_0 := hcc377 0 _ rfl; rw [Nat.add_zero, show ((Kd.slice 3 (Kd.int .i64))).sz = 1 from rfl, Nat.mul_one] at hv377_0; replace hv377_0 := Option.some.inj (hv377_0.symm.trans hx377_0); rw [hv377_0] at ge377_0; have HL377_0 := Aside0.mk (show Kd.R (Kd.int .i64) 3 _ _ _ _ (rd_L9 t368 x4_3) from ge377_0); clear hv377_0 ge377_0; clear hcc377 hce377; have HR377_0 := Aside0.mk hi377_0; have HC377_0 := Aside0.mk hl377_0; clear hi377_0 hl377_0; replace p377 := eq_true p377; replace q377 := eq_true q377)))
               go_ret
               exact ⟨by first | rfl | (simp [errW_none, errW_some] <;> rfl) | (simp [*, errW_none, errW_some] <;> rfl), by repeat (first | (with_reducible first | exact HB.out | apply below_alloc | apply pw_below_drewN | apply below_drew1 | refine below_set ?_ GE365.out) | exact HB.out)⟩
           ·rw [if_neg c27] at H
            exact absurd H (by simp)
          ·rw [if_neg c26] at H
           exact absurd H (by simp)
         ·rw [if_neg c25] at H
          have c25b0 : decide (x4_3 < (t368.length : Int)) = false := decide_eq_false c25
          clear c25
          obtain rfl := Option.some.inj H
          obtain ⟨Ao44, co44, eo44⟩ := Kd.S_slice HO_3.out
          subst eo44
          go_wp2
          repeat (go_quiet (fail); try go_wp2)
          go_ret
          exact ⟨by first | rfl | (simp [errW_none, errW_some] <;> rfl) | (simp [*, errW_none, errW_some] <;> rfl), by repeat (first | (with_reducible first | exact HB.out | apply below_alloc | apply pw_below_drewN | apply below_drew1 | refine below_set ?_ GE365.out) | exact HB.out)⟩
end Go.Proofs.Ytdbngbmokgeeiaa.Pr

namespace Go.Proofs.Ytdbngbmokgeeiaa.Man
open Go.RowKit Go.Proofs.Ytdbngbmokgeeiaa.Pr Go.Proofs.YtdbngbmokgeeiaaW.PrintWords
set_option linter.unusedVariables false
set_option linter.unusedSimpArgs false
theorem pz2 (n : Nat) (h : n ≤ 1000000000) : wrap64 ((n : Int) + 1) = ((n + 1 : Nat) : Int) := by simp only [wrap64]; omega
def Low (l : List S55) : Prop := l.length ≤ 2000000 ∧ ∀ s ∈ flat l, s.f6.length ≤ 2000000 ∧ s.f7.length ≤ 2000000
theorem flat_mem6 (l : List S55) (k : Nat) (h : k < l.length) (s : S55) (hs : s ∈ flat (rd_T55 l k).f6) : s ∈ flat l := flat_mem l k h s (by simp [hs])
theorem flat_mem7 (l : List S55) (k : Nat) (h : k < l.length) (s : S55) (hs : s ∈ flat (rd_T55 l k).f7) : s ∈ flat l := flat_mem l k h s (by simp [hs])
theorem Low.sub {l : List S55} (h : Low l) (k : Nat) (hk : k < l.length) : Low (rd_T55 l (k : Int)).f6 ∧ Low (rd_T55 l (k : Int)).f7 := by
  have h0 := h.2 _ (flat_mem l k hk (rd_T55 l k) (by simp))
  exact ⟨⟨h0.1, fun s hs => h.2 s (flat_mem6 l k hk s hs)⟩, ⟨h0.2, fun s hs => h.2 s (flat_mem7 l k hk s hs)⟩⟩
theorem deep_ev : ∀ (m : Nat) (l : List S55), SizeOf.sizeOf l < m → Low l → ∀ a : Int, ∃ r, Ev (fun k => r03_Deep.f k l a) r := by
  intro m
  induction m with
  | zero => intro l h; omega
  | succ m ih =>
    intro l hm hl a
    have hlen := hl.1
    have main : ∀ d i : Nat, i + d = l.length → ∀ x5 : Int, ∃ r, Ev (fun k => r03_Deep.l0 k l a x5 (i : Int)) r := by
      intro d
      induction d with
      | zero =>
        intro i hi x5
        have c : ¬ (i : Int) < (l.length : Int) := by omega
        refine ⟨x5, Ev.step ?_⟩
        simp only [r03_Deep.l0, if_neg c]
        refine Ev.step ?_
        simp only [r03_Deep.j1, Bool.false_eq_true, if_false]
        exact Ev.const _
      | succ d ihd =>
        intro i hi x5
        have c : (i : Int) < (l.length : Int) := by omega
        have c0 : 0 ≤ (i : Int) := Int.natCast_nonneg i
        by_cases ha : a > 0
        · obtain ⟨h6, h7⟩ := hl.sub i (by omega)
          obtain ⟨s6, s7⟩ := size_mem l i (by omega)
          obtain ⟨r6, e6⟩ := ih _ (by omega) h6 (wrap64 (a - 1))
          obtain ⟨r7, e7⟩ := ih _ (by omega) h7 (wrap64 (a - 1))
          obtain ⟨r, e⟩ := ihd (i + 1) (by omega) (mx x5 (wrap64 (1 + (mx r6 r7))))
          refine ⟨r, Ev.step ?_⟩
          simp only [r03_Deep.l0, if_pos c, decide_eq_true ha]
          refine Ev.step ?_
          simp only [r03_Deep.j1, if_true, if_pos c0, if_pos c]
          refine Ev.bind e6 (Ev.bind e7 ?_)
          rw [pz2 i (by omega)]
          exact e
        · refine ⟨x5, Ev.step ?_⟩
          simp only [r03_Deep.l0, if_pos c, decide_eq_false ha]
          refine Ev.step ?_
          simp only [r03_Deep.j1, Bool.false_eq_true, if_false]
          exact Ev.const _
    obtain ⟨r, e⟩ := main l.length 0 (by omega) 0
    refine ⟨r, Ev.step ?_⟩
    simp only [r03_Deep.f]
    exact e
theorem count_ev : ∀ (m : Nat) (l : List S55), SizeOf.sizeOf l < m → Low l → ∃ r, Ev (fun k => r03_Count.f k l) r := by
  intro m
  induction m with
  | zero => intro l h; omega
  | succ m ih =>
    intro l hm hl
    have hlen := hl.1
    have main : ∀ d i : Nat, i + d = l.length → ∀ x : Int, ∃ r, Ev (fun k => r03_Count.l0 k l x (i : Int)) r := by
      intro d
      induction d with
      | zero =>
        intro i hi x
        have c : ¬ (i : Int) < (l.length : Int) := by omega
        refine ⟨x, Ev.step ?_⟩
        simp only [r03_Count.l0, if_neg c]
        exact Ev.const _
      | succ d ihd =>
        intro i hi x
        have c : (i : Int) < (l.length : Int) := by omega
        have c0 : 0 ≤ (i : Int) := Int.natCast_nonneg i
        obtain ⟨h6, h7⟩ := hl.sub i (by omega)
        obtain ⟨s6, s7⟩ := size_mem l i (by omega)
        obtain ⟨r6, e6⟩ := ih _ (by omega) h6
        obtain ⟨r7, e7⟩ := ih _ (by omega) h7
        obtain ⟨r, e⟩ := ihd (i + 1) (by omega) (wrap64 (x + (wrap64 (r6 + r7))))
        refine ⟨r, Ev.step ?_⟩
        simp only [r03_Count.l0, if_pos c, if_pos c0]
        refine Ev.bind e6 (Ev.bind e7 ?_)
        rw [pz2 i (by omega)]
        exact e
    obtain ⟨r, e⟩ := main l.length 0 (by omega) (l.length : Int)
    refine ⟨r, Ev.step ?_⟩
    simp only [r03_Count.f]
    exact e
def LowP (fs : List S42) : Prop := fs.length ≤ 2000000 ∧ ∀ f ∈ fs, f.f1.length ≤ 2000000 ∧ (flat f.f2).length ≤ 2000000 ∧ Low f.f2
theorem rdF_mem {fs : List S42} {i : Nat} (h : i < fs.length) : rd_T42 fs (i : Int) ∈ fs := by
  unfold rd_T42; rw [Int.toNat_natCast, List.getD_eq_getElem?_getD, List.getElem?_eq_getElem h]; exact List.getElem_mem h
theorem rdF_get {fs : List S42} {i : Nat} (h : i < fs.length) : rd_T42 fs (i : Int) = fs[i] := by
  unfold rd_T42; rw [Int.toNat_natCast, List.getD_eq_getElem?_getD, List.getElem?_eq_getElem h]; rfl
theorem big_ev (fs : List S42) (hl : LowP fs) : ∃ b, Ev (fun k => r03_Big.f k fs) b := by
  have hlen := hl.1
  have main : ∀ d i : Nat, i + d = fs.length → ∀ x : Int, ∃ b, Ev (fun k => r03_Big.l0 k x (i : Int) fs) b := by
    intro d
    induction d with
    | zero =>
      intro i hi x
      have c : ¬ (i : Int) < (fs.length : Int) := by omega
      by_cases hx : x > 3000
      · exact ⟨true, Ev.step (by simp only [r03_Big.l0, if_neg c, if_pos hx]; exact Ev.const _)⟩
      · exact ⟨_, Ev.step (by simp only [r03_Big.l0, if_neg c, if_neg hx]; exact Ev.const _)⟩
    | succ d ihd =>
      intro i hi x
      have c : (i : Int) < (fs.length : Int) := by omega
      have c0 : 0 ≤ (i : Int) := Int.natCast_nonneg i
      have hf := hl.2 _ (rdF_mem (fs := fs) (i := i) (by omega))
      obtain ⟨rd, ed⟩ := deep_ev _ _ (Nat.lt_succ_self _) hf.2.2 60
      obtain ⟨rc, ec⟩ := count_ev _ _ (Nat.lt_succ_self _) hf.2.2
      by_cases hd : rd ≥ 60
      · refine ⟨true, Ev.step ?_⟩
        simp only [r03_Big.l0, if_pos c, if_pos c0]
        refine Ev.bind ed ?_
        simp only [if_pos hd]
        exact Ev.const _
      · obtain ⟨b, e⟩ := ihd (i + 1) (by omega) (wrap64 (x + (wrap64 (rc + (((rd_T42 fs (i : Int)).f1).length : Int)))))
        refine ⟨b, Ev.step ?_⟩
        simp only [r03_Big.l0, if_pos c, if_pos c0]
        refine Ev.bind ed ?_
        simp only [if_neg hd]
        refine Ev.bind ec ?_
        rw [pz2 i (by omega)]
        exact e
  exact main fs.length 0 (by omega) 0
def leads (fs : List S42) (L : List S55) (g : Int) : Bool := L.any fun s => s.f0 == 6 || (s.f0 == 5 && funIx fs s.f3 == g)
theorem rd_drop (L : List S55) (i : Nat) (h : i < L.length) : L.drop i = rd_T55 L (i : Int) :: L.drop (i + 1) := by
  rw [List.drop_eq_getElem_cons h]
  congr 1
  unfold rd_T55; simp [List.getD, h]
def rowR (fs : List S42) (f : S42) (n : Nat) : List Int := ((List.range n).filter (fun (k : Nat) => leads fs (flat f.f2) (k : Int))).map Int.ofNat
theorem srt_mem (xs : List Int) (x : Int) : x ∈ srt xs ↔ x ∈ xs := (List.mergeSort_perm xs _).mem_iff
theorem srt_rises (xs : List Int) (i j : Nat) (hi : i < (srt xs).length) (hj : j < (srt xs).length) (h : i ≤ j) : (srt xs)[i] ≤ (srt xs)[j] := by
  have hp : (srt xs).Pairwise (fun a b => decide (a ≤ b) = true) := List.pairwise_mergeSort (fun a b c h1 h2 => by simp only [decide_eq_true_eq] at *; omega) (fun a b => by simp only [Bool.or_eq_true, decide_eq_true_eq]; omega) xs
  by_cases e : i = j
  · subst e; omega
  · have := (List.pairwise_iff_getElem.1 hp) i j hi hj (by omega)
    simpa using this
theorem cs_rises (xs : List Int) : (Lib.compact (srt xs)).Pairwise (· < ·) :=
  List.Pairwise.imp (fun {a b} h => by have := h.1; have := h.2; omega) (compact_rises (srt xs) (fun a b => a ≤ b) (fun a b h1 h2 => by omega) (fun i j hi hj h => srt_rises xs i j hi hj h))
theorem cs_mem (xs : List Int) (x : Int) : x ∈ Lib.compact (srt xs) ↔ x ∈ xs := (compact_mem _ _).trans (srt_mem _ _)
theorem firstIx_lt (nm : ByteArray) : ∀ (l : List S42) (i : Nat), firstIx nm l i < (i : Int) + l.length := by
  intro l
  induction l with
  | nil => intro i; simp only [firstIx, List.length_nil]; omega
  | cons f r ih =>
    intro i
    have := ih (i + 1)
    simp only [firstIx, List.length_cons]
    split
    · omega
    · omega
theorem funIx_lt (fs : List S42) (nm : ByteArray) : funIx fs nm < fs.length := by have := firstIx_lt nm fs 0; unfold funIx; omega
theorem coll_mem (fs : List S42) (L : List S55) (x : Int) : x ∈ coll fs L ↔ ∃ s ∈ L, s.f0 = 5 ∧ 0 ≤ funIx fs s.f3 ∧ funIx fs s.f3 = x := by
  unfold coll
  rw [List.mem_flatMap]
  constructor
  · rintro ⟨s, hs, h⟩
    unfold calledBy at h
    split at h
    · rename_i hc; simp at h; exact ⟨s, hs, hc.1, hc.2, h.symm⟩
    · simp at h
  · rintro ⟨s, hs, h5, h0, rfl⟩
    exact ⟨s, hs, by unfold calledBy; rw [if_pos ⟨h5, h0⟩]; simp⟩
theorem rowR_rises (fs : List S42) (f : S42) (n : Nat) : (rowR fs f n).Pairwise (· < ·) := by
  unfold rowR
  rw [List.pairwise_map]
  exact List.Pairwise.imp (fun {a b} h => Int.ofNat_lt.2 h) (List.Pairwise.filter _ List.pairwise_lt_range)
theorem rowR_mem (fs : List S42) (f : S42) (n : Nat) (x : Int) : x ∈ rowR fs f n ↔ 0 ≤ x ∧ x < n ∧ leads fs (flat f.f2) x = true := by
  unfold rowR
  simp only [List.mem_map, List.mem_filter, List.mem_range]
  constructor
  · rintro ⟨a, ⟨h1, h2⟩, rfl⟩; exact ⟨by simp, by simpa using h1, h2⟩
  · rintro ⟨h0, h1, h2⟩
    exact ⟨x.toNat, ⟨by omega, by rw [Int.toNat_of_nonneg h0]; exact h2⟩, by simp; omega⟩
theorem callsOf_row (fs : List S42) (f : S42) : callsOf fs f = rowR fs f fs.length := by
  unfold callsOf
  by_cases ha : applies (flat f.f2) = true
  · rw [if_pos ha]
    unfold allIx rowR
    congr 1
    symm
    rw [List.filter_eq_self]
    intro k _
    unfold leads applies at *
    obtain ⟨s, hs, h6⟩ := List.any_eq_true.1 ha
    exact List.any_eq_true.2 ⟨s, hs, by rw [h6]; rfl⟩
  · rw [if_neg ha]
    refine rising_eq _ _ (cs_rises _) (rowR_rises _ _ _) (fun x => ?_)
    rw [cs_mem, coll_mem, rowR_mem]
    constructor
    · rintro ⟨s, hs, h5, h0, rfl⟩
      refine ⟨h0, funIx_lt _ _, ?_⟩
      unfold leads
      exact List.any_eq_true.2 ⟨s, hs, by simp [h5]⟩
    · rintro ⟨h0, h1, h2⟩
      unfold leads at h2
      obtain ⟨s, hs, h⟩ := List.any_eq_true.1 h2
      simp only [Bool.or_eq_true, Bool.and_eq_true, beq_iff_eq] at h
      rcases h with h | ⟨h5, h⟩
      · exact absurd (by unfold applies; exact List.any_eq_true.2 ⟨s, hs, by simp [h]⟩) ha
      · exact ⟨s, hs, h5, by omega, h⟩
theorem callsF_rows (fs : List S42) : callsF fs = fs.map fun f => rowR fs f fs.length := by
  unfold callsF; exact List.map_congr_left fun f _ => callsOf_row fs f
theorem callsF_get (fs : List S42) (i : Nat) (h : i < fs.length) : (callsF fs).getD i [] = rowR fs (rd_T42 fs (i : Int)) fs.length := by
  rw [callsF_rows, List.getD_eq_getElem?_getD, List.getElem?_map, List.getElem?_eq_getElem h, rdF_get h]; rfl
theorem callsF_len (fs : List S42) : (callsF fs).length = fs.length := by unfold callsF; simp
theorem LowP.smP {fs : List S42} (h : LowP fs) (hl : fs.length ≤ 1000) : SmP fs := ⟨by omega, fun f hf => (h.2 f hf).2.1⟩
theorem does_ev (op : Int) : ∀ (m : Nat) (l : List S55), SizeOf.sizeOf l < m → Low l → Ev (fun k => w12_does.f k l op) ((flat l).any fun s => s.f0 == op) := by
  intro m
  induction m with
  | zero => intro l h; omega
  | succ m ih =>
    intro l hm hl
    have hlen := hl.1
    have main : ∀ d i : Nat, i + d = l.length → Ev (fun k => w12_does.l0 k l op (i : Int)) ((flat (l.drop i)).any fun s => s.f0 == op) := by
      intro d
      induction d with
      | zero =>
        intro i hi
        have c : ¬ (i : Int) < (l.length : Int) := by omega
        refine Ev.step ?_
        simp only [w12_does.l0, if_neg c]
        rw [List.drop_of_length_le (by omega)]
        simp only [flat, List.any_nil]
        exact Ev.const _
      | succ d ihd =>
        intro i hi
        have hil : i < l.length := by omega
        have c : (i : Int) < (l.length : Int) := by omega
        have c0 : 0 ≤ (i : Int) := Int.natCast_nonneg i
        obtain ⟨h6, h7⟩ := hl.sub i hil
        obtain ⟨s6, s7⟩ := size_mem l i hil
        have e := ihd (i + 1) (by omega)
        rw [rd_drop l i hil]
        refine Ev.step ?_
        simp only [w12_does.l0, if_pos c, if_pos c0, flat, List.any_cons, List.any_append]
        by_cases h0 : (rd_T55 l (i : Int)).f0 = op
        · simp only [if_pos h0, h0, beq_self_eq_true, Bool.true_or]
          exact Ev.const _
        · have b0 : ((rd_T55 l (i : Int)).f0 == op) = false := by simpa using h0
          simp only [if_neg h0, b0, Bool.false_or]
          refine Ev.bind (ih _ (by omega) h6) ?_
          cases h6b : ((flat (rd_T55 l (i : Int)).f6).any fun s => s.f0 == op) with
          | true => simp only [if_true, Bool.true_or]; exact Ev.const _
          | false =>
            simp only [Bool.false_eq_true, if_false, Bool.false_or]
            refine Ev.bind (ih _ (by omega) h7) ?_
            cases h7b : ((flat (rd_T55 l (i : Int)).f7).any fun s => s.f0 == op) with
            | true => simp only [if_true, Bool.true_or]; exact Ev.const _
            | false =>
              simp only [Bool.false_eq_true, if_false, Bool.false_or]
              rw [pz2 i (by omega)]
              exact e
    have := main l.length 0 (by omega)
    refine Ev.step ?_
    simp only [w12_does.f]
    simpa using this
theorem gapplies_ev (fs : List S42) (hl : LowP fs) : Ev (fun k => w12_GraphApplies.f k fs) true := by
  obtain ⟨b, eb⟩ := big_ev fs hl
  have jt : Ev (fun k => w12_GraphApplies.j0 k true fs) true := by
    refine Ev.step ?_
    simp only [w12_GraphApplies.j0, if_true, w12_fixed.f, Option.bind_some]
    exact Ev.const _
  simp only [w12_GraphApplies.f]
  refine Ev.bind eb ?_
  cases b with
  | true => simp only [if_true]; exact jt
  | false =>
    simp only [Bool.false_eq_true, if_false]
    by_cases hg : (fs.length : Int) > 60
    · simp only [decide_eq_true hg]; exact jt
    · have h60 : fs.length ≤ 1000 := by omega
      simp only [decide_eq_false hg]
      refine Ev.step ?_
      simp only [w12_GraphApplies.j0, Bool.false_eq_true, if_false, graph_Calls.f, if_pos (hl.smP h60), Option.bind_some, w12_fixed.f, if_true, callsF_len, bne_self_eq_false]
      refine Ev.step ?_
      simp only [w12_GraphApplies.j1, Bool.false_eq_true, if_false]
      have main : ∀ d i : Nat, i + d = fs.length → Ev (fun k => w12_GraphApplies.l0 k (callsF fs) (i : Int) fs) true := by
        intro d
        induction d with
        | zero =>
          intro i hi
          have c : ¬ (i : Int) < ((callsF fs).length : Int) := by rw [callsF_len]; omega
          refine Ev.step ?_
          simp only [w12_GraphApplies.l0, if_neg c]
          exact Ev.const _
        | succ d ihd =>
          intro i hi
          have hil : i < fs.length := by omega
          have c : (i : Int) < ((callsF fs).length : Int) := by rw [callsF_len]; omega
          have c' : (i : Int) < (fs.length : Int) := by omega
          have c0 : 0 ≤ (i : Int) := Int.natCast_nonneg i
          have hf := hl.2 _ (rdF_mem hil)
          have e := ihd (i + 1) (by omega)
          have hrow : rd_L9 (callsF fs) (i : Int) = callsOf fs (rd_T42 fs (i : Int)) := by rw [rd9, callsF_get fs i hil, callsOf_row]
          refine Ev.step ?_
          simp only [w12_GraphApplies.l0, if_pos c, if_pos c', if_pos c0, hrow]
          refine Ev.bind (does_ev 6 _ _ (Nat.lt_succ_self _) hf.2.2) ?_
          refine Ev.bind (does_ev 5 _ _ (Nat.lt_succ_self _) hf.2.2) ?_
          rw [pz2 i (by omega)]
          cases h6 : ((flat (rd_T42 fs (i : Int)).f2).any fun s => s.f0 == 6) with
          | true =>
            have hlen : ((callsOf fs (rd_T42 fs (i : Int))).length : Int) = (fs.length : Int) := by unfold callsOf; rw [if_pos (show applies _ = true from h6), allIx_len]
            simp only [if_true, if_pos hlen]
            exact e
          | false =>
            simp only [Bool.false_eq_true, if_false]
            cases h5 : ((flat (rd_T42 fs (i : Int)).f2).any fun s => s.f0 == 5) with
            | true => simp only [if_true]; exact e
            | false =>
              have hnil : callsOf fs (rd_T42 fs (i : Int)) = [] := by
                unfold callsOf
                rw [if_neg (by unfold applies; rw [h6]; simp)]
                apply List.eq_nil_iff_forall_not_mem.2
                intro x hx
                rw [cs_mem, coll_mem] at hx
                obtain ⟨s, hs, h, _⟩ := hx
                have : ((flat (rd_T42 fs (i : Int)).f2).any fun s => s.f0 == 5) = true := List.any_eq_true.2 ⟨s, hs, by simp [h]⟩
                rw [h5] at this; cases this
              simp only [Bool.false_eq_true, if_false, hnil, List.length_nil]
              exact e
      exact main fs.length 0 (by omega)
end Go.Proofs.Ytdbngbmokgeeiaa.Man

namespace Go.Proofs.Ytdbngbmokgeeiaa.graphApplies
open Go.ChangeShapes Go.WideShapes Go.ChangeAt Go.RowKit Go.Proofs.Ytdbngbmokgeeiaa.Pr Go.Proofs.YtdbngbmokgeeiaaW.PrintWords
open Go.ChangeMaps (open_string shut_string)
set_option linter.unusedVariables false
theorem own : ownKnob Try.prog.godebug = none := by kernel_rfl
theorem laidOut : laidOutB Try.prog = true := by kernel_rfl
theorem lowP {l : List S42} {n : Nat} (h : Man.FitP l n) (hn : n ≤ 2000000) : Man.LowP l :=
  ⟨by have := h.1; omega, fun f hf => by
    obtain ⟨h1, h2, h3⟩ := h.2 f hf
    exact ⟨by omega, by omega, by have := Man.len_flat f.f2; omega, fun s hs => by have := h3 s hs; omega⟩⟩
theorem walk (A0 : Option Addr) (c0 : Nat) (l0 : List S42) (hc0 : l0.length ≤ c0) (w : World) (hC0 : Kd.C k42 w A0 l0.length l0) (hP : Man.FitP l0 1048576) :
    Calls Try.prog 7 #[.agg #[.slice A0 l0.length c0]] w fun e w' => e = .returned (.bool true) ∧ Below w.heap.size w w' := by
  obtain ⟨k, e⟩ := Man.gapplies_ev l0 (lowP hP (by decide))
  exact w12_GraphApplies.calls k A0 c0 l0 true w hC0 hc0 (e k (Nat.le_refl _))
set_option maxRecDepth 100000 in
set_option maxHeartbeats 4000000 in
theorem lifted (os : Os) (started : os.Started) (H : Type) (enc : TypeId × Value → H) (F : Stop.Interp) :
    ReturnsInHanded {} Try.checked os 7 .any ((Rows.OpenSpec.upto Rows.graphAppliesSpec).pre6 enc Try.prog Try.f7 Rows.graphAppliesUptoRow.domain false) (((Rows.OpenSpec.upto Rows.graphAppliesSpec).at F).post enc Try.prog Try.f7 false true false false) := by
  refine returnsInHanded_of_cond (C := Try.checked) (s := (Rows.OpenSpec.upto Rows.graphAppliesSpec)) (k := Rows.uptoSmall) rfl own started (by kernel_rfl) Try.func7
    (OpenSpec.witness (enc := enc) (C := Try.checked) (s := (Rows.OpenSpec.upto Rows.graphAppliesSpec)) (k := Rows.uptoSmall) rfl false ⟨#[], #[.agg #[.slice none 0 0]], []⟩ 8 (by kernel_rfl) (by kernel_rfl) (by kernel_rfl)
      (x := ([.agg [.nil]], [], [])) (by kernel_rfl) rfl (by kernel_rfl)) ?_
  intro W base args ds gs before hval0 hW _ hk _
  have hval : ∀ (j : Nat) t v, Try.f7.params[j]? = some t → args[j]? = some v → Value.okWide Try.prog W .any base t v := hval0
  have hW' := hW
  obtain ⟨p, q, hA0, hV, rfl, hfz, hnd⟩ := hW
  have hA : DataW.TrodAll enc Try.prog W 0 (fun _ => true) true Try.f7.params.toList args.toList ds p := hA0
  rw [Try.params7] at hA hval
  obtain ⟨v0, vs0, d0, ds0, p0, q0, hargs, rfl, rfl, h0, r0⟩ := trodAll_cons hA
  obtain ⟨rfl, rfl, rfl⟩ := trodAll_nil r0
  obtain rfl : args = #[v0] := by cases args; simp_all
  obtain ⟨rfl, rfl⟩ := trodVars_none hV
  obtain ⟨cs0, rfl, hz0⟩ := okWide_struct Try.underlying24 (hval 0 24 v0 rfl rfl)
  have k0 := h0
  have lt0 : ∀ x ∈ p0, x.block < W.heap.size := by obtain ⟨m, hm⟩ := k0; exact DataW.trod_lt m _ _ _ hm
  obtain ⟨fuel0, hf0⟩ := h0
  have hbulk : Rows.uptoBulkAll ([d0] ++ []) ≤ 1048576 := of_decide_eq_true hk
  simp only [List.append_nil, Rows.uptoBulkAll] at hbulk
  obtain ⟨A0, c0, l0, hv0, hc0, hC0, hB0⟩ := Man.bridge_prog fuel0 cs0 _ _ hf0
  subst hv0
  have hP0 : Man.FitP l0 1048576 := hB0.mono (by omega)
  clear hA0 hval0
  refine (walk _ _ l0 hc0 W hC0 hP0).mono fun e W' ⟨he, bel⟩ => ?_
  subst he
  exact ⟨_, rfl, _, _, _, [], _, [], hW', trodAll_mk1 (shut_bool Try.underlying4 _), (trodAll_cons_mk (Below.trod laidOut (by kernel_rfl) (of_decide_eq_true (by kernel_rfl)) k0 bel lt0) trodAll_mk0), rfl, bel.frame _, fun h => by cases h⟩
theorem proved : Rows.GraphAppliesUptoSaid :=
  OpenClaim.holds_of_cond 7 Try.f7 rfl rfl rfl rfl rfl rfl rfl ⟨rfl, rfl, rfl, rfl, rfl⟩ rfl rfl rfl rfl rfl (by kernel_rfl) Try.func7 (by kernel_rfl)
    (of_decide_eq_true (by kernel_rfl)) (by unfold Func.isWrapper; first | (rw [if_pos (by decide +kernel)]; kernel_rfl) | (rw [if_neg (by decide +kernel)]; exact ⟨rfl, rfl⟩))
    (fun os started H enc _ F => lifted os started H enc F)
end Go.Proofs.Ytdbngbmokgeeiaa.graphApplies
namespace Go.Proofs.Ytdbngbmokgeeiaa
theorem graphApplies_holds : Rows.GraphAppliesUptoSaid := graphApplies.proved
end Go.Proofs.Ytdbngbmokgeeiaa
