/- A part of the proof that ResolveParams returns true for every argument (the row of ResolveParamsUpto: theorem resolveParams_holds). Parts: Pr12 PuZ5 LawResolveParams. No conditions beyond the given statement's own. -/
import Derived.Test.YtjiacafeckokeaaRParams2
import Derived.Test.YtjiacafeckokeaaRParams3
import Derived.Test.YtjiacafeckokeaaRParams5
import Derived.Sort.LoopGhostIn
import Derived.Test.YtjiacafeckokeaaRows
import Derived.WalkKit
import Derived.ProofKit
import Derived.OpenShut
import Derived.ShutString
import Derived.ChangeOld
import Derived.Below
import Derived.SizedLaws
import Derived.JoinedCond

-- Written by wip/xprint.py (the kit's print, run over this seat with some contracts of my own). Not trusted: Lean checks it.
namespace Go.Proofs.Ytjiacafeckokeaa.Pr
open Go.RowKit Go.Proofs.YtjiacafeckokeaaW.PrintWords Go.Proofs.YtjiacafeckokeaaW.PrintLast Go.Proofs.YtjiacafeckokeaaW.PrintMore
attribute [local go_sem] max2_int min2_int max_two min_two max_three min_three max_four min_four   -- for this text's walks alone
set_option linter.unusedVariables false
set_option linter.unusedSimpArgs false
attribute [local go_sem high] eqA35
mutual
noncomputable def w05_ResolveParams.l0 : Nat → Int → List (S32) → Option (Bool)
  | 0, _, _ => none
  | k + 1, x3, x367000 => if x3 < (x367000.length : Int) then (if 0 ≤ x3 then ((resolve_Vars.f k ((rd_T32 x367000 x3).f0) ((rd_T32 x367000 x3).f1) ((rd_T32 x367000 x3).f2)).bind fun t371 => (w05_ResolveParams.l1 k x3 t371 0 x367000)) else (none)) else ((w05_fixed.f).bind fun t369 => (some t369))
noncomputable def w05_ResolveParams.l1 : Nat → Int → List ByteArray → Int → List (S32) → Option (Bool)
  | 0, _, _, _, _ => none
  | k + 1, x3, x4, x5, x367000 => if 0 ≤ x3 then (if x3 < (x367000.length : Int) then (if x5 < (((rd_T32 x367000 x3).f1).length : Int) then (if 0 ≤ x5 then (if (rdOf ByteArray.empty ((rd_T32 x367000 x3).f1) x5).toList = ([] : List UInt8) then (w05_ResolveParams.l1 k x3 x4 (wrap64 (x5 + 1)) x367000) else ((w05_in.f k x4 (rdOf ByteArray.empty ((rd_T32 x367000 x3).f1) x5)).bind fun t377 => (if t377 = true then (w05_ResolveParams.l1 k x3 x4 (wrap64 (x5 + 1)) x367000) else (some false)))) else (none)) else (w05_ResolveParams.l2 k x3 x4 0 x367000)) else (none)) else (none)
noncomputable def w05_ResolveParams.l2 : Nat → Int → List ByteArray → Int → List (S32) → Option (Bool)
  | 0, _, _, _, _ => none
  | k + 1, x3, x4, x7, x367000 => if 0 ≤ x3 then (if x3 < (x367000.length : Int) then (if x7 < (((rd_T32 x367000 x3).f2).length : Int) then (if 0 ≤ x7 then (if ((rd_T46 ((rd_T32 x367000 x3).f2) x7).f1).toList = ([] : List UInt8) then (if ((rd_T46 ((rd_T32 x367000 x3).f2) x7).f2).toList = ([] : List UInt8) then (w05_ResolveParams.l2 k x3 x4 (wrap64 (x7 + 1)) x367000) else ((w05_in.f k x4 ((rd_T46 ((rd_T32 x367000 x3).f2) x7).f2)).bind fun t382 => (if t382 = true then (w05_ResolveParams.l2 k x3 x4 (wrap64 (x7 + 1)) x367000) else (some false)))) else ((w05_in.f k x4 ((rd_T46 ((rd_T32 x367000 x3).f2) x7).f1)).bind fun t383 => (if t383 = true then (if ((rd_T46 ((rd_T32 x367000 x3).f2) x7).f2).toList = ([] : List UInt8) then (w05_ResolveParams.l2 k x3 x4 (wrap64 (x7 + 1)) x367000) else ((w05_in.f k x4 ((rd_T46 ((rd_T32 x367000 x3).f2) x7).f2)).bind fun t384 => (if t384 = true then (w05_ResolveParams.l2 k x3 x4 (wrap64 (x7 + 1)) x367000) else (some false)))) else (some false)))) else (none)) else (w05_ResolveParams.l0 k (wrap64 (x3 + 1)) x367000)) else (none)) else (none)
end
noncomputable def w05_ResolveParams.f (k : Nat) (l0_0 : List (S32)) : Option (Bool) := (r03_Big.f k l0_0).bind fun t367 => (if t367 = true then ((w05_fixed.f).bind fun t368 => (some t368)) else (w05_ResolveParams.l0 k 0 l0_0))
set_option maxHeartbeats 8000000 in
set_option maxRecDepth 100000 in
theorem w05_ResolveParams.calls (k : Nat) (A0_0 : Option Addr) (c0_0 : Nat) (l0_0 : List (S32)) (r : Bool) (w : World) (hr0_0 : Kd.C k32 w A0_0 l0_0.length l0_0) (hc0_0 : l0_0.length ≤ c0_0) (h : w05_ResolveParams.f k l0_0 = some r) :
    Calls Try.prog 7 #[.agg #[.slice A0_0 l0_0.length c0_0]] w fun e w' => e = .returned (.bool r) ∧ Below w.heap.size w w' := by
 have hu24 := Try.underlying24
 have hu32 := Try.underlying32
 have hu46 := Try.underlying46
 have HR0_0 := Aside0.mk hr0_0
 have HC0_0 := Aside0.mk hc0_0
 clear hr0_0 hc0_0
 have HB := Aside0.mk (Below.refl w.heap.size w)
 have H : ((r03_Big.f k l0_0).bind fun t367 => (if t367 = true then ((w05_fixed.f).bind fun t368 => (some t368)) else (w05_ResolveParams.l0 k 0 l0_0))) = some r := h
 clear h
 replace H := Option.bind_eq_some_iff.mp H
 obtain ⟨t367, A20, H⟩ := H
 replace H : (if t367 = true then ((w05_fixed.f).bind fun t368 => (some t368)) else (w05_ResolveParams.l0 k 0 l0_0)) = some r := H
 have A2 := Aside0.mk A20
 clear A20
 by_cases c3 : t367 = true
 ·subst c3
  have H1 : ((w05_fixed.f).bind fun t368 => (some t368)) = some r := by rw [if_pos rfl] at H; exact H
  clear H
  have H := H1
  clear H1
  replace H := Option.bind_eq_some_iff.mp H
  obtain ⟨t368, A40, H⟩ := H
  replace H : (some t368) = some r := H
  have A4 := Aside0.mk A40
  clear A40
  obtain rfl := Option.some.inj H
  go_enter Try.func7, Try.ntmps7
  go_wp2_with (first | ((with_reducible refine gate_dst (N := 1) rfl ?_); refine box_event ?hg (N := 1) ?hd (cs := #[.slice A0_0 l0_0.length c0_0]) (t := 24) ?hr ?_; (case hd => rfl); (case hg => rfl); (case hr => first | (go_simp; done) | (go_simp; rfl)); intro gb366 hg w5 hbox hb; have n0_ := Aside0.mk (below_step (by repeat (first | (with_reducible first | exact HB.out | apply below_alloc | apply pw_below_drewN | apply below_drew1) | exact HB.out)) hb); have n1_ := Aside0.mk (hbox); have n2_ := Aside0.mk ((by rw [hg]; exact (below_size (by repeat (first | (with_reducible first | exact HB.out | apply below_alloc | apply pw_below_drewN | apply below_drew1) | exact HB.out))) : w.heap.size ≤ gb366)); have n3_ := Aside0.mk ((by rw [hg]; exact (below_size (by repeat (first | (with_reducible first | exact HB.out | apply below_alloc | apply pw_below_drewN | apply below_drew1) | exact HB.out))) : w.heap.size ≤ gb366)); clear HB; have HB := n0_; have BK366 := n1_; have GW366 := n2_; have GE366 := n3_; clear n0_ n1_ n2_ n3_; clear hb hbox hg; have hcz6_0 : w5.cell? ⟨gb366, 0, none⟩ = some (.slice A0_0 l0_0.length c0_0) := (blk_cell BK366.out 0).trans rfl; have hfz6_0 := blk_frozen BK366.out 0) | ((with_reducible refine gate_callee (f := 8) rfl ?_); refine goesL_ (some 10) rfl rfl Try.func8 (by kernel_rfl) rfl #[.agg #[.slice A0_0 l0_0.length c0_0]] rfl (by (try simp only [List.map_toArray, List.map_cons, List.map_nil]); first | done | rfl | (simp only [List.length_drop, List.length_take]; rfl)) ?_; (with_reducible refine (r03_Big.calls k _ _ l0_0 true _ ?side1 ?side2 A2.out).mono ?_); (case side1 => repeat (first | exact (Kd.C_below HR0_0.out HB.out) | (with_reducible refine Kd.C_alloc ?_ _) | (with_reducible refine Kd.C_drewN ?_ _) | (with_reducible refine Kd.C_drew ?_))); (case side2 => exact HC0_0.out); rintro e w7 ⟨rfl, hb⟩; refine ⟨_, rfl, ?_⟩; have n0_ := Aside0.mk (blk_below (g := gb366) (o := .cells #[.slice A0_0 l0_0.length c0_0] 24 (0, 0)) (by (with_reducible repeat (first | refine blk_drewN ?_ _ | refine blk_drew ?_ | refine blk_alloc ?_ _)); exact BK366.out) hb); have n1_ := Aside0.mk (below_step (by repeat (first | (with_reducible first | exact HB.out | apply below_alloc | apply pw_below_drewN | apply below_drew1 | refine below_set ?_ GE366.out) | exact HB.out)) hb); clear BK366; clear HB; have BK366 := n0_; have HB := n1_; clear n0_ n1_; (try clear hb); (try clear hb2); (try clear hk); (try clear hi)) | ((with_reducible refine gate_callee (f := 9) rfl ?_); refine goesL_ (some 11) rfl rfl Try.func9 (by kernel_rfl) rfl #[] rfl (by (try simp only [List.map_toArray, List.map_cons, List.map_nil]); first | done | rfl | (simp only [List.length_drop, List.length_take]; rfl)) ?_; (with_reducible refine (w05_fixed.calls  t368 _ A4.out).mono ?_); rintro e w8 ⟨rfl, hb⟩; refine ⟨_, rfl, ?_⟩; have n0_ := Aside0.mk (blk_below (g := gb366) (o := .cells #[.slice A0_0 l0_0.length c0_0] 24 (0, 0)) (by (with_reducible repeat (first | refine blk_drewN ?_ _ | refine blk_drew ?_ | refine blk_alloc ?_ _)); exact BK366.out) hb); have n1_ := Aside0.mk (below_step (by repeat (first | (with_reducible first | exact HB.out | apply below_alloc | apply pw_below_drewN | apply below_drew1 | refine below_set ?_ GE366.out) | exact HB.out)) hb); clear BK366; clear HB; have BK366 := n0_; have HB := n1_; clear n0_ n1_; (try clear hb); (try clear hb2); (try clear hk); (try clear hi)))
  go_ret
  exact ⟨by first | rfl | (simp [errW_none, errW_some] <;> rfl) | (simp [*, errW_none, errW_some] <;> rfl), by repeat (first | (with_reducible first | exact HB.out | apply below_alloc | apply pw_below_drewN | apply below_drew1 | refine below_set ?_ GE366.out) | exact HB.out)⟩
 ·replace c3 := Bool.eq_false_iff.mpr c3
  subst c3
  have H1 : (w05_ResolveParams.l0 k 0 l0_0) = some r := by rw [if_neg (show ¬ (false = true) by decide)] at H; exact H
  clear H
  have H := H1
  clear H1
  have H' := Aside0.mk H
  clear H
  go_enter Try.func7, Try.ntmps7
  go_wp2_with (first | ((with_reducible refine gate_dst (N := 1) rfl ?_); refine box_event ?hg (N := 1) ?hd (cs := #[.slice A0_0 l0_0.length c0_0]) (t := 24) ?hr ?_; (case hd => rfl); (case hg => rfl); (case hr => first | (go_simp; done) | (go_simp; rfl)); intro gb366 hg w9 hbox hb; have n0_ := Aside0.mk (below_step (by repeat (first | (with_reducible first | exact HB.out | apply below_alloc | apply pw_below_drewN | apply below_drew1) | exact HB.out)) hb); have n1_ := Aside0.mk (hbox); have n2_ := Aside0.mk ((by rw [hg]; exact (below_size (by repeat (first | (with_reducible first | exact HB.out | apply below_alloc | apply pw_below_drewN | apply below_drew1) | exact HB.out))) : w.heap.size ≤ gb366)); have n3_ := Aside0.mk ((by rw [hg]; exact (below_size (by repeat (first | (with_reducible first | exact HB.out | apply below_alloc | apply pw_below_drewN | apply below_drew1) | exact HB.out))) : w.heap.size ≤ gb366)); clear HB; have HB := n0_; have BK366 := n1_; have GW366 := n2_; have GE366 := n3_; clear n0_ n1_ n2_ n3_; clear hb hbox hg; have hcz10_0 : w9.cell? ⟨gb366, 0, none⟩ = some (.slice A0_0 l0_0.length c0_0) := (blk_cell BK366.out 0).trans rfl; have hfz10_0 := blk_frozen BK366.out 0) | ((with_reducible refine gate_callee (f := 8) rfl ?_); refine goesL_ (some 10) rfl rfl Try.func8 (by kernel_rfl) rfl #[.agg #[.slice A0_0 l0_0.length c0_0]] rfl (by (try simp only [List.map_toArray, List.map_cons, List.map_nil]); first | done | rfl | (simp only [List.length_drop, List.length_take]; rfl)) ?_; (with_reducible refine (r03_Big.calls k _ _ l0_0 false _ ?side1 ?side2 A2.out).mono ?_); (case side1 => repeat (first | exact (Kd.C_below HR0_0.out HB.out) | (with_reducible refine Kd.C_alloc ?_ _) | (with_reducible refine Kd.C_drewN ?_ _) | (with_reducible refine Kd.C_drew ?_))); (case side2 => exact HC0_0.out); rintro e w11 ⟨rfl, hb⟩; refine ⟨_, rfl, ?_⟩; have n0_ := Aside0.mk (blk_below (g := gb366) (o := .cells #[.slice A0_0 l0_0.length c0_0] 24 (0, 0)) (by (with_reducible repeat (first | refine blk_drewN ?_ _ | refine blk_drew ?_ | refine blk_alloc ?_ _)); exact BK366.out) hb); have n1_ := Aside0.mk (below_step (by repeat (first | (with_reducible first | exact HB.out | apply below_alloc | apply pw_below_drewN | apply below_drew1 | refine below_set ?_ GE366.out) | exact HB.out)) hb); clear BK366; clear HB; have BK366 := n0_; have HB := n1_; clear n0_ n1_; (try clear hb); (try clear hb2); (try clear hk); (try clear hi)))
  go_loopg [3] k (fun kq v3 w' => ∃ (x3_1 : Int), v3 = .int .i64 x3_1 ∧ Aside0 (w05_ResolveParams.l0 kq x3_1 l0_0 = some r) ∧ Aside0 (kq ≤ k) ∧ Aside0 (w'.heap[gb366]? = some (.cells #[(.slice A0_0 l0_0.length c0_0)] 24 (0, 0))) ∧ Aside0 (Below w.heap.size w w'))
  case atStart => exact ⟨(0), (by first | rfl | (simp; done) | (simp [*]; done)), H', ⟨Nat.le_refl _⟩, ⟨by (with_reducible repeat (first | refine blk_drewN ?_ _ | refine blk_drew ?_ | refine blk_alloc ?_ _)); exact BK366.out⟩, ⟨by repeat (first | (with_reducible first | exact HB.out | apply below_alloc | apply pw_below_drewN | apply below_drew1 | refine below_set ?_ GE366.out) | exact HB.out)⟩⟩
  case round =>
   clear H'
   try clear p2
   try clear c3
   try clear c7
   try clear c8
   try clear c9
   try clear hcz10_0
   try clear hcz6_0
   try clear hfz10_0
   try clear hfz6_0
   obtain ⟨x3_1, rfl, HA, HK1, BK366, HB⟩ := hrel
   cases gk with
   | zero => exact absurd HA.out (by simp [w05_ResolveParams.l0])
   | succ k1 =>
    have H := HA.out
    clear HA
    simp only [w05_ResolveParams.l0] at H
    by_cases c12 : x3_1 < (l0_0.length : Int)
    ·rw [if_pos c12] at H
     have c12b0 : decide (x3_1 < (l0_0.length : Int)) = true := decide_eq_true c12
     clear c12
     by_cases c13 : 0 ≤ x3_1
     ·rw [if_pos c13] at H
      have c13b0 : decide (0 ≤ x3_1) = true := decide_eq_true c13
      clear c13
      replace H := Option.bind_eq_some_iff.mp H
      obtain ⟨t371, A140, H⟩ := H
      replace H : (w05_ResolveParams.l1 k1 x3_1 t371 0 l0_0) = some r := H
      have A14 := Aside0.mk A140
      clear A140
      have H' := Aside0.mk H
      clear H
      have hcz15_0 : wr.cell? ⟨gb366, 0, none⟩ = some (.slice A0_0 l0_0.length c0_0) := (blk_cell BK366.out 0).trans rfl
      have hfz15_0 := blk_frozen BK366.out 0
      have p370 : 0 ≤ (x3_1 : Int) := of_decide_eq_true (by first | (with_reducible assumption) | assumption)
      have q370 : x3_1 < (l0_0.length : Int) := of_decide_eq_true (by first | (with_reducible assumption) | assumption)
      obtain ⟨ad370, A370_1, c370_1, A370_2, c370_2, e370, hx370_0, hx370_1, hx370_2, hl370_1, hi370_1, hl370_2, hi370_2⟩ := at_T32 HR0_0.out x3_1 p370 q370
      cases e370
      replace hx370_0 := (HB.out.cell (World.block_lt_of_cell? w _ hx370_0)).trans hx370_0
      replace hx370_1 := (HB.out.cell (World.block_lt_of_cell? w _ hx370_1)).trans hx370_1
      replace hx370_2 := (HB.out.cell (World.block_lt_of_cell? w _ hx370_2)).trans hx370_2
      have HR370_1 := Aside0.mk hi370_1
      have HC370_1 := Aside0.mk hl370_1
      clear hi370_1 hl370_1
      have HR370_2 := Aside0.mk hi370_2
      have HC370_2 := Aside0.mk hl370_2
      clear hi370_2 hl370_2
      replace p370 := eq_true p370
      replace q370 := eq_true q370
      go_wp2_with (first | ((with_reducible refine gate_callee (f := 11) rfl ?_); refine goesL_ (some 24) rfl rfl Try.func11 (by kernel_rfl) rfl #[.agg #[.string ((rd_T32 l0_0 x3_1).f0), .slice A370_1 ((rd_T32 l0_0 x3_1).f1).length c370_1, .slice A370_2 ((rd_T32 l0_0 x3_1).f2).length c370_2]] rfl (by (try simp only [List.map_toArray, List.map_cons, List.map_nil]); first | done | rfl | (simp only [List.length_drop, List.length_take]; rfl)) ?_; (with_reducible refine (resolve_Vars.calls k1 ((rd_T32 l0_0 x3_1).f0) _ _ ((rd_T32 l0_0 x3_1).f1) _ _ ((rd_T32 l0_0 x3_1).f2) t371 _ ?side1 ?side2 ?side3 ?side4 A14.out).mono ?_); (case side1 => repeat (first | exact (Kd.C_below HR370_1.out HB.out) | (with_reducible refine Kd.C_alloc ?_ _) | (with_reducible refine Kd.C_drewN ?_ _) | (with_reducible refine Kd.C_drew ?_))); (case side2 => exact HC370_1.out); (case side3 => repeat (first | exact (Kd.C_below HR370_2.out HB.out) | (with_reducible refine Kd.C_alloc ?_ _) | (with_reducible refine Kd.C_drewN ?_ _) | (with_reducible refine Kd.C_drew ?_))); (case side4 => exact HC370_2.out); rintro e w16 ⟨v372, rfl, ho0, hb⟩; refine ⟨_, rfl, ?_⟩; have n0_ := Aside0.mk (Kd.R_lower ho0 (below_size (by repeat (first | (with_reducible first | exact HB.out | apply below_alloc | apply pw_below_drewN | apply below_drew1 | refine below_set ?_ GE366.out) | exact HB.out)))); have n1_ := Aside0.mk (blk_below (g := gb366) (o := .cells #[.slice (some ad370) l0_0.length c0_0] 24 (0, 0)) (by (with_reducible repeat (first | refine blk_drewN ?_ _ | refine blk_drew ?_ | refine blk_alloc ?_ _)); exact BK366.out) hb); have n2_ := Aside0.mk (below_step (by repeat (first | (with_reducible first | exact HB.out | apply below_alloc | apply pw_below_drewN | apply below_drew1 | refine below_set ?_ GE366.out) | exact HB.out)) hb); clear BK366; clear HB; have HO373 := n0_; have BK366 := n1_; have HB := n2_; clear n0_ n1_ n2_; (try clear hb); (try clear hb2); (try clear hk); (try clear hi); (try clear ho0)))
      go_loopg [5] k1 (fun kq v5 w' => ∃ (x5_2 : Int), v5 = .int .i64 x5_2 ∧ Aside0 (w05_ResolveParams.l1 kq x3_1 t371 x5_2 l0_0 = some r) ∧ Aside0 (kq ≤ k1) ∧ Aside0 (Kd.R Kd.string 9 w' w.heap.size (fun _ => True) v372 t371) ∧ Aside0 (w'.heap[gb366]? = some (.cells #[(.slice (some ad370) l0_0.length c0_0)] 24 (0, 0))) ∧ Aside0 (Below w.heap.size w w'))
      case atStart => exact ⟨(0), (by first | rfl | (simp; done) | (simp [*]; done)), H', ⟨Nat.le_refl _⟩, ⟨by (with_reducible repeat (first | apply Kd.R_alloc | apply Kd.R_drewN | apply Kd.R_drew)); exact HO373.out⟩, ⟨by (with_reducible repeat (first | refine blk_drewN ?_ _ | refine blk_drew ?_ | refine blk_alloc ?_ _)); exact BK366.out⟩, ⟨by repeat (first | (with_reducible first | exact HB.out | apply below_alloc | apply pw_below_drewN | apply below_drew1 | refine below_set ?_ GE366.out) | exact HB.out)⟩⟩
      case round =>
       clear H'
       try clear c1
       try clear p2
       try clear c3
       try clear p3
       try clear q3
       try clear hx3
       try clear c7
       try clear c8
       try clear c9
       try clear c11
       try clear c12
       try clear c12b0
       try clear c13
       try clear c13b0
       try clear hcz10_0
       try clear hcz15_0
       try clear hcz6_0
       try clear hfz10_0
       try clear hfz15_0
       try clear hfz6_0
       try clear hx370_0
       try clear hx370_1
       try clear hx370_2
       try clear p2
       try clear p370
       try clear q370
       obtain ⟨x5_2, rfl, HA, HK2, HO_4, BK366, HB⟩ := hrel
       cases gk with
       | zero => exact absurd HA.out (by simp [w05_ResolveParams.l1])
       | succ k2 =>
        have H := HA.out
        clear HA
        simp only [w05_ResolveParams.l1] at H
        by_cases c17 : 0 ≤ x3_1
        ·rw [if_pos c17] at H
         have c17b0 : decide (0 ≤ x3_1) = true := decide_eq_true c17
         clear c17
         by_cases c18 : x3_1 < (l0_0.length : Int)
         ·rw [if_pos c18] at H
          have c18b0 : decide (x3_1 < (l0_0.length : Int)) = true := decide_eq_true c18
          clear c18
          by_cases c19 : x5_2 < (((rd_T32 l0_0 x3_1).f1).length : Int)
          ·rw [if_pos c19] at H
           have c19b0 : decide (x5_2 < (((rd_T32 l0_0 x3_1).f1).length : Int)) = true := decide_eq_true c19
           clear c19
           by_cases c20 : 0 ≤ x5_2
           ·rw [if_pos c20] at H
            have c20b0 : decide (0 ≤ x5_2) = true := decide_eq_true c20
            clear c20
            by_cases c21 : (rdOf ByteArray.empty ((rd_T32 l0_0 x3_1).f1) x5_2).toList = ([] : List UInt8)
            ·rw [if_pos c21] at H
             have c21b0 : ((rdOf ByteArray.empty ((rd_T32 l0_0 x3_1).f1) x5_2).toList == ([] : List UInt8)) = true := beq_iff_eq.mpr c21
             have c21b1 : ((rdOf ByteArray.empty ((rd_T32 l0_0 x3_1).f1) x5_2).toList != ([] : List UInt8)) = false := bne_eq_false_iff_eq.mpr c21
             clear c21
             have H' := Aside0.mk H
             clear H
             have hcz22_0 : wr.cell? ⟨gb366, 0, none⟩ = some (.slice (some ad370) l0_0.length c0_0) := (blk_cell BK366.out 0).trans rfl
             have hfz22_0 := blk_frozen BK366.out 0
             have p374 : 0 ≤ (x3_1 : Int) := of_decide_eq_true (by first | (with_reducible assumption) | assumption)
             have q374 : x3_1 < (l0_0.length : Int) := of_decide_eq_true (by first | (with_reducible assumption) | assumption)
             obtain ⟨ad374, A374_1, c374_1, A374_2, c374_2, e374, hx374_0, hx374_1, hx374_2, hl374_1, hi374_1, hl374_2, hi374_2⟩ := at_T32 HR0_0.out x3_1 p374 q374
             obtain rfl : ad370 = ad374 := (by injection e374)
             replace hx374_0 := (HB.out.cell (World.block_lt_of_cell? w _ hx374_0)).trans hx374_0
             replace hx374_1 := (HB.out.cell (World.block_lt_of_cell? w _ hx374_1)).trans hx374_1
             replace hx374_2 := (HB.out.cell (World.block_lt_of_cell? w _ hx374_2)).trans hx374_2
             have HR374_1 := Aside0.mk hi374_1
             have HC374_1 := Aside0.mk hl374_1
             clear hi374_1 hl374_1
             have HR374_2 := Aside0.mk hi374_2
             have HC374_2 := Aside0.mk hl374_2
             clear hi374_2 hl374_2
             replace p374 := eq_true p374
             replace q374 := eq_true q374
             have p375 : 0 ≤ (x3_1 : Int) := of_decide_eq_true (by first | (with_reducible assumption) | assumption)
             have q375 : x3_1 < (l0_0.length : Int) := of_decide_eq_true (by first | (with_reducible assumption) | assumption)
             obtain ⟨ad375, A375_1, c375_1, A375_2, c375_2, e375, hx375_0, hx375_1, hx375_2, hl375_1, hi375_1, hl375_2, hi375_2⟩ := at_T32 HR0_0.out x3_1 p375 q375
             obtain rfl : ad370 = ad375 := (by injection e375)
             replace hx375_0 := (HB.out.cell (World.block_lt_of_cell? w _ hx375_0)).trans hx375_0
             replace hx375_1 := (HB.out.cell (World.block_lt_of_cell? w _ hx375_1)).trans hx375_1
             replace hx375_2 := (HB.out.cell (World.block_lt_of_cell? w _ hx375_2)).trans hx375_2
             have HR375_1 := Aside0.mk hi375_1
             have HC375_1 := Aside0.mk hl375_1
             clear hi375_1 hl375_1
             have HR375_2 := Aside0.mk hi375_2
             have HC375_2 := Aside0.mk hl375_2
             clear hi375_2 hl375_2
             replace p375 := eq_true p375
             replace q375 := eq_true q375
             have ea_ := Option.some.inj (hx374_1.symm.trans hx375_1)
             injection ea_ with ea_ en_ ec_
             subst ea_
             subst ec_
             clear en_
             have ea_ := Option.some.inj (hx374_2.symm.trans hx375_2)
             injection ea_ with ea_ en_ ec_
             subst ea_
             subst ec_
             clear en_
             have p376 : 0 ≤ (x5_2 : Int) := of_decide_eq_true (by first | (with_reducible assumption) | assumption)
             have q376 : x5_2 < (((rd_T32 l0_0 x3_1).f1).length : Int) := of_decide_eq_true (by first | (with_reducible assumption) | assumption)
             obtain ⟨ad376, e376, hx376_0⟩ := Kd.at_string HR375_1.out x5_2 p376 q376
             cases e376
             replace hx376_0 := (HB.out.cell (World.block_lt_of_cell? w _ hx376_0)).trans hx376_0
             replace p376 := eq_true p376
             replace q376 := eq_true q376
             go_wp2
             go_roundg k2
             case measure => have := HK1.out; have := HK2.out; omega
             case rel => exact ⟨(wrap64 (x5_2 + 1)), (by first | rfl | (simp; done) | (simp [*]; done)), H', ⟨by have := HK1.out; have := HK2.out; omega⟩, ⟨by (with_reducible repeat (first | apply Kd.R_alloc | apply Kd.R_drewN | apply Kd.R_drew)); exact HO_4.out⟩, ⟨by (with_reducible repeat (first | refine blk_drewN ?_ _ | refine blk_drew ?_ | refine blk_alloc ?_ _)); exact BK366.out⟩, ⟨by repeat (first | (with_reducible first | exact HB.out | apply below_alloc | apply pw_below_drewN | apply below_drew1 | refine below_set ?_ GE366.out) | exact HB.out)⟩⟩
            ·rw [if_neg c21] at H
             have c21b0 : ((rdOf ByteArray.empty ((rd_T32 l0_0 x3_1).f1) x5_2).toList == ([] : List UInt8)) = false := beq_eq_false_iff_ne.mpr c21
             have c21b1 : ((rdOf ByteArray.empty ((rd_T32 l0_0 x3_1).f1) x5_2).toList != ([] : List UInt8)) = true := bne_iff_ne.mpr c21
             replace H := Option.bind_eq_some_iff.mp H
             obtain ⟨t377, A230, H⟩ := H
             replace H : (if t377 = true then (w05_ResolveParams.l1 k2 x3_1 t371 (wrap64 (x5_2 + 1)) l0_0) else (some false)) = some r := H
             have A23 := Aside0.mk A230
             clear A230
             by_cases c24 : t377 = true
             ·subst c24
              have H1 : (w05_ResolveParams.l1 k2 x3_1 t371 (wrap64 (x5_2 + 1)) l0_0) = some r := by rw [if_pos rfl] at H; exact H
              clear H
              have H := H1
              clear H1
              have H' := Aside0.mk H
              clear H
              have hcz25_0 : wr.cell? ⟨gb366, 0, none⟩ = some (.slice (some ad370) l0_0.length c0_0) := (blk_cell BK366.out 0).trans rfl
              have hfz25_0 := blk_frozen BK366.out 0
              have p374 : 0 ≤ (x3_1 : Int) := of_decide_eq_true (by first | (with_reducible assumption) | assumption)
              have q374 : x3_1 < (l0_0.length : Int) := of_decide_eq_true (by first | (with_reducible assumption) | assumption)
              obtain ⟨ad374, A374_1, c374_1, A374_2, c374_2, e374, hx374_0, hx374_1, hx374_2, hl374_1, hi374_1, hl374_2, hi374_2⟩ := at_T32 HR0_0.out x3_1 p374 q374
              obtain rfl : ad370 = ad374 := (by injection e374)
              replace hx374_0 := (HB.out.cell (World.block_lt_of_cell? w _ hx374_0)).trans hx374_0
              replace hx374_1 := (HB.out.cell (World.block_lt_of_cell? w _ hx374_1)).trans hx374_1
              replace hx374_2 := (HB.out.cell (World.block_lt_of_cell? w _ hx374_2)).trans hx374_2
              have HR374_1 := Aside0.mk hi374_1
              have HC374_1 := Aside0.mk hl374_1
              clear hi374_1 hl374_1
              have HR374_2 := Aside0.mk hi374_2
              have HC374_2 := Aside0.mk hl374_2
              clear hi374_2 hl374_2
              replace p374 := eq_true p374
              replace q374 := eq_true q374
              have p375 : 0 ≤ (x3_1 : Int) := of_decide_eq_true (by first | (with_reducible assumption) | assumption)
              have q375 : x3_1 < (l0_0.length : Int) := of_decide_eq_true (by first | (with_reducible assumption) | assumption)
              obtain ⟨ad375, A375_1, c375_1, A375_2, c375_2, e375, hx375_0, hx375_1, hx375_2, hl375_1, hi375_1, hl375_2, hi375_2⟩ := at_T32 HR0_0.out x3_1 p375 q375
              obtain rfl : ad370 = ad375 := (by injection e375)
              replace hx375_0 := (HB.out.cell (World.block_lt_of_cell? w _ hx375_0)).trans hx375_0
              replace hx375_1 := (HB.out.cell (World.block_lt_of_cell? w _ hx375_1)).trans hx375_1
              replace hx375_2 := (HB.out.cell (World.block_lt_of_cell? w _ hx375_2)).trans hx375_2
              have HR375_1 := Aside0.mk hi375_1
              have HC375_1 := Aside0.mk hl375_1
              clear hi375_1 hl375_1
              have HR375_2 := Aside0.mk hi375_2
              have HC375_2 := Aside0.mk hl375_2
              clear hi375_2 hl375_2
              replace p375 := eq_true p375
              replace q375 := eq_true q375
              have ea_ := Option.some.inj (hx374_1.symm.trans hx375_1)
              injection ea_ with ea_ en_ ec_
              subst ea_
              subst ec_
              clear en_
              have ea_ := Option.some.inj (hx374_2.symm.trans hx375_2)
              injection ea_ with ea_ en_ ec_
              subst ea_
              subst ec_
              clear en_
              have p376 : 0 ≤ (x5_2 : Int) := of_decide_eq_true (by first | (with_reducible assumption) | assumption)
              have q376 : x5_2 < (((rd_T32 l0_0 x3_1).f1).length : Int) := of_decide_eq_true (by first | (with_reducible assumption) | assumption)
              obtain ⟨ad376, e376, hx376_0⟩ := Kd.at_string HR375_1.out x5_2 p376 q376
              cases e376
              replace hx376_0 := (HB.out.cell (World.block_lt_of_cell? w _ hx376_0)).trans hx376_0
              replace p376 := eq_true p376
              replace q376 := eq_true q376
              obtain ⟨Ao26, co26, eo26⟩ := Kd.R_slice HO_4.out
              subst eo26
              go_wp2_with (first | (go_at_call 21; (with_reducible refine (w05_in.calls k2 _ _ t371 (rdOf ByteArray.empty ((rd_T32 l0_0 x3_1).f1) x5_2) true _ ?side1 ?side2 A23.out).mono ?_); (case side1 => repeat (first | exact (Kd.R_reads' HO_4.out).2.2 | (with_reducible refine Kd.C_alloc ?_ _) | (with_reducible refine Kd.C_drewN ?_ _) | (with_reducible refine Kd.C_drew ?_))); (case side2 => exact (Kd.R_reads' HO_4.out).2.1); rintro e w' ⟨rfl, ⟨nd, rfl⟩⟩))
              go_roundg k2
              case measure => have := HK1.out; have := HK2.out; omega
              case rel => exact ⟨(wrap64 (x5_2 + 1)), (by first | rfl | (simp; done) | (simp [*]; done)), H', ⟨by have := HK1.out; have := HK2.out; omega⟩, ⟨by (with_reducible repeat (first | apply Kd.R_alloc | apply Kd.R_drewN | apply Kd.R_drew)); exact HO_4.out⟩, ⟨by (with_reducible repeat (first | refine blk_drewN ?_ _ | refine blk_drew ?_ | refine blk_alloc ?_ _)); exact BK366.out⟩, ⟨by repeat (first | (with_reducible first | exact HB.out | apply below_alloc | apply pw_below_drewN | apply below_drew1 | refine below_set ?_ GE366.out) | exact HB.out)⟩⟩
             ·replace c24 := Bool.eq_false_iff.mpr c24
              subst c24
              have H1 : (some false) = some r := by rw [if_neg (show ¬ (false = true) by decide)] at H; exact H
              clear H
              have H := H1
              clear H1
              obtain rfl := Option.some.inj H
              have hcz27_0 : wr.cell? ⟨gb366, 0, none⟩ = some (.slice (some ad370) l0_0.length c0_0) := (blk_cell BK366.out 0).trans rfl
              have hfz27_0 := blk_frozen BK366.out 0
              have p374 : 0 ≤ (x3_1 : Int) := of_decide_eq_true (by first | (with_reducible assumption) | assumption)
              have q374 : x3_1 < (l0_0.length : Int) := of_decide_eq_true (by first | (with_reducible assumption) | assumption)
              obtain ⟨ad374, A374_1, c374_1, A374_2, c374_2, e374, hx374_0, hx374_1, hx374_2, hl374_1, hi374_1, hl374_2, hi374_2⟩ := at_T32 HR0_0.out x3_1 p374 q374
              obtain rfl : ad370 = ad374 := (by injection e374)
              replace hx374_0 := (HB.out.cell (World.block_lt_of_cell? w _ hx374_0)).trans hx374_0
              replace hx374_1 := (HB.out.cell (World.block_lt_of_cell? w _ hx374_1)).trans hx374_1
              replace hx374_2 := (HB.out.cell (World.block_lt_of_cell? w _ hx374_2)).trans hx374_2
              have HR374_1 := Aside0.mk hi374_1
              have HC374_1 := Aside0.mk hl374_1
              clear hi374_1 hl374_1
              have HR374_2 := Aside0.mk hi374_2
              have HC374_2 := Aside0.mk hl374_2
              clear hi374_2 hl374_2
              replace p374 := eq_true p374
              replace q374 := eq_true q374
              have p375 : 0 ≤ (x3_1 : Int) := of_decide_eq_true (by first | (with_reducible assumption) | assumption)
              have q375 : x3_1 < (l0_0.length : Int) := of_decide_eq_true (by first | (with_reducible assumption) | assumption)
              obtain ⟨ad375, A375_1, c375_1, A375_2, c375_2, e375, hx375_0, hx375_1, hx375_2, hl375_1, hi375_1, hl375_2, hi375_2⟩ := at_T32 HR0_0.out x3_1 p375 q375
              obtain rfl : ad370 = ad375 := (by injection e375)
              replace hx375_0 := (HB.out.cell (World.block_lt_of_cell? w _ hx375_0)).trans hx375_0
              replace hx375_1 := (HB.out.cell (World.block_lt_of_cell? w _ hx375_1)).trans hx375_1
              replace hx375_2 := (HB.out.cell (World.block_lt_of_cell? w _ hx375_2)).trans hx375_2
              have HR375_1 := Aside0.mk hi375_1
              have HC375_1 := Aside0.mk hl375_1
              clear hi375_1 hl375_1
              have HR375_2 := Aside0.mk hi375_2
              have HC375_2 := Aside0.mk hl375_2
              clear hi375_2 hl375_2
              replace p375 := eq_true p375
              replace q375 := eq_true q375
              have ea_ := Option.some.inj (hx374_1.symm.trans hx375_1)
              injection ea_ with ea_ en_ ec_
              subst ea_
              subst ec_
              clear en_
              have ea_ := Option.some.inj (hx374_2.symm.trans hx375_2)
              injection ea_ with ea_ en_ ec_
              subst ea_
              subst ec_
              clear en_
              have p376 : 0 ≤ (x5_2 : Int) := of_decide_eq_true (by first | (with_reducible assumption) | assumption)
              have q376 : x5_2 < (((rd_T32 l0_0 x3_1).f1).length : Int) := of_decide_eq_true (by first | (with_reducible assumption) | assumption)
              obtain ⟨ad376, e376, hx376_0⟩ := Kd.at_string HR375_1.out x5_2 p376 q376
              cases e376
              replace hx376_0 := (HB.out.cell (World.block_lt_of_cell? w _ hx376_0)).trans hx376_0
              replace p376 := eq_true p376
              replace q376 := eq_true q376
              obtain ⟨Ao28, co28, eo28⟩ := Kd.R_slice HO_4.out
              subst eo28
              go_wp2_with (first | (go_at_call 21; (with_reducible refine (w05_in.calls k2 _ _ t371 (rdOf ByteArray.empty ((rd_T32 l0_0 x3_1).f1) x5_2) false _ ?side1 ?side2 A23.out).mono ?_); (case side1 => repeat (first | exact (Kd.R_reads' HO_4.out).2.2 | (with_reducible refine Kd.C_alloc ?_ _) | (with_reducible refine Kd.C_drewN ?_ _) | (with_reducible refine Kd.C_drew ?_))); (case side2 => exact (Kd.R_reads' HO_4.out).2.1); rintro e w' ⟨rfl, ⟨nd, rfl⟩⟩))
              go_ret
              exact ⟨by first | rfl | (simp [errW_none, errW_some] <;> rfl) | (simp [*, errW_none, errW_some] <;> rfl), by repeat (first | (with_reducible first | exact HB.out | apply below_alloc | apply pw_below_drewN | apply below_drew1 | refine below_set ?_ GE366.out) | exact HB.out)⟩
           ·rw [if_neg c20] at H
            exact absurd H (by simp)
          ·rw [if_neg c19] at H
           have c19b0 : decide (x5_2 < (((rd_T32 l0_0 x3_1).f1).length : Int)) = false := decide_eq_false c19
           clear c19
           have H' := Aside0.mk H
           clear H
           have hcz29_0 : wr.cell? ⟨gb366, 0, none⟩ = some (.slice (some ad370) l0_0.length c0_0) := (blk_cell BK366.out 0).trans rfl
           have hfz29_0 := blk_frozen BK366.out 0
           have p374 : 0 ≤ (x3_1 : Int) := of_decide_eq_true (by first | (with_reducible assumption) | assumption)
           have q374 : x3_1 < (l0_0.length : Int) := of_decide_eq_true (by first | (with_reducible assumption) | assumption)
           obtain ⟨ad374, A374_1, c374_1, A374_2, c374_2, e374, hx374_0, hx374_1, hx374_2, hl374_1, hi374_1, hl374_2, hi374_2⟩ := at_T32 HR0_0.out x3_1 p374 q374
           obtain rfl : ad370 = ad374 := (by injection e374)
           replace hx374_0 := (HB.out.cell (World.block_lt_of_cell? w _ hx374_0)).trans hx374_0
           replace hx374_1 := (HB.out.cell (World.block_lt_of_cell? w _ hx374_1)).trans hx374_1
           replace hx374_2 := (HB.out.cell (World.block_lt_of_cell? w _ hx374_2)).trans hx374_2
           have HR374_1 := Aside0.mk hi374_1
           have HC374_1 := Aside0.mk hl374_1
           clear hi374_1 hl374_1
           have HR374_2 := Aside0.mk hi374_2
           have HC374_2 := Aside0.mk hl374_2
           clear hi374_2 hl374_2
           replace p374 := eq_true p374
           replace q374 := eq_true q374
           go_wp2
           go_loopg [7] k2 (fun kq v7 w' => ∃ (x7_3 : Int), v7 = .int .i64 x7_3 ∧ Aside0 (w05_ResolveParams.l2 kq x3_1 t371 x7_3 l0_0 = some r) ∧ Aside0 (kq ≤ k2) ∧ Aside0 (Kd.R Kd.string 9 w' w.heap.size (fun _ => True) v372 t371) ∧ Aside0 (w'.heap[gb366]? = some (.cells #[(.slice (some ad370) l0_0.length c0_0)] 24 (0, 0))) ∧ Aside0 (Below w.heap.size w w'))
           case atStart => exact ⟨(0), (by first | rfl | (simp; done) | (simp [*]; done)), H', ⟨Nat.le_refl _⟩, ⟨by (with_reducible repeat (first | apply Kd.R_alloc | apply Kd.R_drewN | apply Kd.R_drew)); exact HO_4.out⟩, ⟨by (with_reducible repeat (first | refine blk_drewN ?_ _ | refine blk_drew ?_ | refine blk_alloc ?_ _)); exact BK366.out⟩, ⟨by repeat (first | (with_reducible first | exact HB.out | apply below_alloc | apply pw_below_drewN | apply below_drew1 | refine below_set ?_ GE366.out) | exact HB.out)⟩⟩
           case round =>
            clear H'
            try clear c1
            try clear c2
            try clear p2
            try clear c3
            try clear p3
            try clear q3
            try clear hx3
            try clear p6
            try clear c7
            try clear c8
            try clear c9
            try clear c11
            try clear c12
            try clear c12b0
            try clear c13
            try clear c13b0
            try clear c17
            try clear c17b0
            try clear c18
            try clear c18b0
            try clear c19
            try clear c19b0
            try clear c20
            try clear c20b0
            try clear c21
            try clear c21b0
            try clear c21b1
            try clear c24
            try clear hcz10_0
            try clear hcz15_0
            try clear hcz22_0
            try clear hcz25_0
            try clear hcz27_0
            try clear hcz29_0
            try clear hcz6_0
            try clear hfz10_0
            try clear hfz15_0
            try clear hfz22_0
            try clear hfz25_0
            try clear hfz27_0
            try clear hfz29_0
            try clear hfz6_0
            try clear hx370_0
            try clear hx370_1
            try clear hx370_2
            try clear hx374_0
            try clear hx374_1
            try clear hx374_2
            try clear hx375_0
            try clear hx375_1
            try clear hx375_2
            try clear hx376_0
            try clear p2
            try clear p3
            try clear p370
            try clear p374
            try clear p375
            try clear p376
            try clear q3
            try clear q370
            try clear q374
            try clear q375
            try clear q376
            obtain ⟨x7_3, rfl, HA, HK3, HO_4, BK366, HB⟩ := hrel
            cases gk with
            | zero => exact absurd HA.out (by simp [w05_ResolveParams.l2])
            | succ k3 =>
             have H := HA.out
             clear HA
             simp only [w05_ResolveParams.l2] at H
             by_cases c30 : 0 ≤ x3_1
             ·rw [if_pos c30] at H
              have c30b0 : decide (0 ≤ x3_1) = true := decide_eq_true c30
              clear c30
              by_cases c31 : x3_1 < (l0_0.length : Int)
              ·rw [if_pos c31] at H
               have c31b0 : decide (x3_1 < (l0_0.length : Int)) = true := decide_eq_true c31
               clear c31
               by_cases c32 : x7_3 < (((rd_T32 l0_0 x3_1).f2).length : Int)
               ·rw [if_pos c32] at H
                have c32b0 : decide (x7_3 < (((rd_T32 l0_0 x3_1).f2).length : Int)) = true := decide_eq_true c32
                clear c32
                by_cases c33 : 0 ≤ x7_3
                ·rw [if_pos c33] at H
                 have c33b0 : decide (0 ≤ x7_3) = true := decide_eq_true c33
                 clear c33
                 by_cases c34 : ((rd_T46 ((rd_T32 l0_0 x3_1).f2) x7_3).f1).toList = ([] : List UInt8)
                 ·rw [if_pos c34] at H
                  have c34b0 : (((rd_T46 ((rd_T32 l0_0 x3_1).f2) x7_3).f1).toList == ([] : List UInt8)) = true := beq_iff_eq.mpr c34
                  have c34b1 : (((rd_T46 ((rd_T32 l0_0 x3_1).f2) x7_3).f1).toList != ([] : List UInt8)) = false := bne_eq_false_iff_eq.mpr c34
                  clear c34
                  by_cases c35 : ((rd_T46 ((rd_T32 l0_0 x3_1).f2) x7_3).f2).toList = ([] : List UInt8)
                  ·rw [if_pos c35] at H
                   have c35b0 : (((rd_T46 ((rd_T32 l0_0 x3_1).f2) x7_3).f2).toList == ([] : List UInt8)) = true := beq_iff_eq.mpr c35
                   have c35b1 : (((rd_T46 ((rd_T32 l0_0 x3_1).f2) x7_3).f2).toList != ([] : List UInt8)) = false := bne_eq_false_iff_eq.mpr c35
                   clear c35
                   have H' := Aside0.mk H
                   clear H
                   have hcz36_0 : wr.cell? ⟨gb366, 0, none⟩ = some (.slice (some ad370) l0_0.length c0_0) := (blk_cell BK366.out 0).trans rfl
                   have hfz36_0 := blk_frozen BK366.out 0
                   have p378 : 0 ≤ (x3_1 : Int) := of_decide_eq_true (by first | (with_reducible assumption) | assumption)
                   have q378 : x3_1 < (l0_0.length : Int) := of_decide_eq_true (by first | (with_reducible assumption) | assumption)
                   obtain ⟨ad378, A378_1, c378_1, A378_2, c378_2, e378, hx378_0, hx378_1, hx378_2, hl378_1, hi378_1, hl378_2, hi378_2⟩ := at_T32 HR0_0.out x3_1 p378 q378
                   obtain rfl : ad370 = ad378 := (by injection e378)
                   replace hx378_0 := (HB.out.cell (World.block_lt_of_cell? w _ hx378_0)).trans hx378_0
                   replace hx378_1 := (HB.out.cell (World.block_lt_of_cell? w _ hx378_1)).trans hx378_1
                   replace hx378_2 := (HB.out.cell (World.block_lt_of_cell? w _ hx378_2)).trans hx378_2
                   have HR378_1 := Aside0.mk hi378_1
                   have HC378_1 := Aside0.mk hl378_1
                   clear hi378_1 hl378_1
                   have HR378_2 := Aside0.mk hi378_2
                   have HC378_2 := Aside0.mk hl378_2
                   clear hi378_2 hl378_2
                   replace p378 := eq_true p378
                   replace q378 := eq_true q378
                   have p379 : 0 ≤ (x3_1 : Int) := of_decide_eq_true (by first | (with_reducible assumption) | assumption)
                   have q379 : x3_1 < (l0_0.length : Int) := of_decide_eq_true (by first | (with_reducible assumption) | assumption)
                   obtain ⟨ad379, A379_1, c379_1, A379_2, c379_2, e379, hx379_0, hx379_1, hx379_2, hl379_1, hi379_1, hl379_2, hi379_2⟩ := at_T32 HR0_0.out x3_1 p379 q379
                   obtain rfl : ad370 = ad379 := (by injection e379)
                   replace hx379_0 := (HB.out.cell (World.block_lt_of_cell? w _ hx379_0)).trans hx379_0
                   replace hx379_1 := (HB.out.cell (World.block_lt_of_cell? w _ hx379_1)).trans hx379_1
                   replace hx379_2 := (HB.out.cell (World.block_lt_of_cell? w _ hx379_2)).trans hx379_2
                   have HR379_1 := Aside0.mk hi379_1
                   have HC379_1 := Aside0.mk hl379_1
                   clear hi379_1 hl379_1
                   have HR379_2 := Aside0.mk hi379_2
                   have HC379_2 := Aside0.mk hl379_2
                   clear hi379_2 hl379_2
                   replace p379 := eq_true p379
                   replace q379 := eq_true q379
                   have ea_ := Option.some.inj (hx378_1.symm.trans hx379_1)
                   injection ea_ with ea_ en_ ec_
                   subst ea_
                   subst ec_
                   clear en_
                   have ea_ := Option.some.inj (hx378_2.symm.trans hx379_2)
                   injection ea_ with ea_ en_ ec_
                   subst ea_
                   subst ec_
                   clear en_
                   have p380 : 0 ≤ (x7_3 : Int) := of_decide_eq_true (by first | (with_reducible assumption) | assumption)
                   have q380 : x7_3 < (((rd_T32 l0_0 x3_1).f2).length : Int) := of_decide_eq_true (by first | (with_reducible assumption) | assumption)
                   obtain ⟨ad380, A380_4, c380_4, A380_5, c380_5, A380_6, c380_6, A380_7, c380_7, e380, hx380_0, hx380_1, hx380_2, hx380_3, hx380_4, hx380_5, hx380_6, hx380_7, hl380_4, hi380_4, hl380_5, hi380_5, hl380_6, hi380_6, hl380_7, hi380_7⟩ := at_T46 HR379_2.out x7_3 p380 q380
                   cases e380
                   replace hx380_0 := (HB.out.cell (World.block_lt_of_cell? w _ hx380_0)).trans hx380_0
                   replace hx380_1 := (HB.out.cell (World.block_lt_of_cell? w _ hx380_1)).trans hx380_1
                   replace hx380_2 := (HB.out.cell (World.block_lt_of_cell? w _ hx380_2)).trans hx380_2
                   replace hx380_3 := (HB.out.cell (World.block_lt_of_cell? w _ hx380_3)).trans hx380_3
                   replace hx380_4 := (HB.out.cell (World.block_lt_of_cell? w _ hx380_4)).trans hx380_4
                   replace hx380_5 := (HB.out.cell (World.block_lt_of_cell? w _ hx380_5)).trans hx380_5
                   replace hx380_6 := (HB.out.cell (World.block_lt_of_cell? w _ hx380_6)).trans hx380_6
                   replace hx380_7 := (HB.out.cell (World.block_lt_of_cell? w _ hx380_7)).trans hx380_7
                   have HR380_4 := Aside0.mk hi380_4
                   have HC380_4 := Aside0.mk hl380_4
                   clear hi380_4 hl380_4
                   have HR380_5 := Aside0.mk hi380_5
                   have HC380_5 := Aside0.mk hl380_5
                   clear hi380_5 hl380_5
                   have HR380_6 := Aside0.mk hi380_6
                   have HC380_6 := Aside0.mk hl380_6
                   clear hi380_6 hl380_6
                   have HR380_7 := Aside0.mk hi380_7
                   have HC380_7 := Aside0.mk hl380_7
                   clear hi380_7 hl380_7
                   replace p380 := eq_true p380
                   replace q380 := eq_true q380
                   go_wp2_with (first | ((with_reducible refine gate_dst (N := 8) rfl ?_); refine box_event ?hg (N := 8) ?hd (cs := #[.int .i64 0, .string (⟨#[]⟩ : ByteArray), .string (⟨#[]⟩ : ByteArray), .string (⟨#[]⟩ : ByteArray), .slice none 0 0, .slice none 0 0, .slice none 0 0, .slice none 0 0]) (t := 46) ?hr ?_; (case hd => rfl); (case hg => rfl); (case hr => first | (go_simp; done) | (go_simp; rfl)); intro gb381 hg w37 hbox hb; have n0_ := Aside0.mk (Kd.R_below (by (with_reducible repeat (first | apply Kd.R_alloc | apply Kd.R_drewN | apply Kd.R_drew)); exact HO_4.out) hb); have n1_ := Aside0.mk (blk_below (g := gb366) (o := .cells #[.slice (some ad370) l0_0.length c0_0] 24 (0, 0)) (by (with_reducible repeat (first | refine blk_drewN ?_ _ | refine blk_drew ?_ | refine blk_alloc ?_ _)); exact BK366.out) hb); have n2_ := Aside0.mk (below_step (by repeat (first | (with_reducible first | exact HB.out | apply below_alloc | apply pw_below_drewN | apply below_drew1 | refine below_set ?_ GE366.out) | exact HB.out)) hb); have n3_ := Aside0.mk (hbox); have n4_ := Aside0.mk ((by rw [hg]; exact (below_size (by repeat (first | (with_reducible first | exact HB.out | apply below_alloc | apply pw_below_drewN | apply below_drew1 | refine below_set ?_ GE366.out) | exact HB.out))) : w.heap.size ≤ gb381)); have n5_ := Aside0.mk ((by rw [hg]; exact (below_size (by repeat (first | (with_reducible first | exact HB.out | apply below_alloc | apply pw_below_drewN | apply below_drew1 | refine below_set ?_ GE366.out) | exact HB.out))) : w.heap.size ≤ gb381)); have n6_ := Aside0.mk ((by rw [hg]; exact Nat.ne_of_lt (blk_lt (g := gb366) (o := .cells #[.slice (some ad370) l0_0.length c0_0] 24 (0, 0)) (by (with_reducible repeat (first | refine blk_drewN ?_ _ | refine blk_drew ?_ | refine blk_alloc ?_ _)); exact BK366.out)) : gb366 ≠ gb381)); have n7_ := Aside0.mk ((by rw [hg]; exact Nat.ne_of_gt (blk_lt (g := gb366) (o := .cells #[.slice (some ad370) l0_0.length c0_0] 24 (0, 0)) (by (with_reducible repeat (first | refine blk_drewN ?_ _ | refine blk_drew ?_ | refine blk_alloc ?_ _)); exact BK366.out)) : gb381 ≠ gb366)); clear HO_4; clear BK366; clear HB; have HO_4 := n0_; have BK366 := n1_; have HB := n2_; have BK381 := n3_; have GW381 := n4_; have GE381 := n5_; have NB366_381 := n6_; have NB381_366 := n7_; clear n0_ n1_ n2_ n3_ n4_ n5_ n6_ n7_; clear hb hbox hg; have hnb38 := NB381_366.out; have hnc38 := NB366_381.out; have hcz39_0 : w37.cell? ⟨gb381, 0, none⟩ = some (.int .i64 0) := (blk_cell BK381.out 0).trans rfl; have hcz39_1 : w37.cell? ⟨gb381, 1, none⟩ = some (.string (⟨#[]⟩ : ByteArray)) := (blk_cell BK381.out 1).trans rfl; have hcz39_2 : w37.cell? ⟨gb381, 2, none⟩ = some (.string (⟨#[]⟩ : ByteArray)) := (blk_cell BK381.out 2).trans rfl; have hcz39_3 : w37.cell? ⟨gb381, 3, none⟩ = some (.string (⟨#[]⟩ : ByteArray)) := (blk_cell BK381.out 3).trans rfl; have hcz39_4 : w37.cell? ⟨gb381, 4, none⟩ = some (.slice none 0 0) := (blk_cell BK381.out 4).trans rfl; have hcz39_5 : w37.cell? ⟨gb381, 5, none⟩ = some (.slice none 0 0) := (blk_cell BK381.out 5).trans rfl; have hcz39_6 : w37.cell? ⟨gb381, 6, none⟩ = some (.slice none 0 0) := (blk_cell BK381.out 6).trans rfl; have hcz39_7 : w37.cell? ⟨gb381, 7, none⟩ = some (.slice none 0 0) := (blk_cell BK381.out 7).trans rfl; have hfz39_0 := blk_frozen BK381.out 0; have hfz39_1 := blk_frozen BK381.out 1; have hfz39_2 := blk_frozen BK381.out 2; have hfz39_3 := blk_frozen BK381.out 3; have hfz39_4 := blk_frozen BK381.out 4; have hfz39_5 := blk_frozen BK381.out 5; have hfz39_6 := blk_frozen BK381.out 6; have hfz39_7 := blk_frozen BK381.out 7))
                   go_roundg k3
                   case measure => have := HK1.out; have := HK2.out; have := HK3.out; omega
                   case rel => exact ⟨(wrap64 (x7_3 + 1)), (by first | rfl | (simp; done) | (simp [*]; done)), H', ⟨by have := HK1.out; have := HK2.out; have := HK3.out; omega⟩, ⟨by (with_reducible repeat (first | apply Kd.R_alloc | apply Kd.R_drewN | apply Kd.R_drew)); exact Kd.R_mono (Kd.R_far (p := ⟨gb381, 7, none⟩) (Kd.R_far (p := ⟨gb381, 6, none⟩) (Kd.R_far (p := ⟨gb381, 5, none⟩) (Kd.R_far (p := ⟨gb381, 4, none⟩) (Kd.R_far (p := ⟨gb381, 3, none⟩) (Kd.R_far (p := ⟨gb381, 2, none⟩) (Kd.R_far (p := ⟨gb381, 1, none⟩) (Kd.R_far (p := ⟨gb381, 0, none⟩) (Kd.R_types HO_4.out BK381.out (by decide)) (fun _ hk => hk.2) (.int .i64 ((rd_T46 ((rd_T32 l0_0 x3_1).f2) x7_3).f0))) (fun _ hk => hk.2) (.string ((rd_T46 ((rd_T32 l0_0 x3_1).f2) x7_3).f1))) (fun _ hk => hk.2) (.string ((rd_T46 ((rd_T32 l0_0 x3_1).f2) x7_3).f2))) (fun _ hk => hk.2) (.string ((rd_T46 ((rd_T32 l0_0 x3_1).f2) x7_3).f3))) (fun _ hk => hk.2) (.slice A380_4 ((rd_T46 ((rd_T32 l0_0 x3_1).f2) x7_3).f4).length c380_4)) (fun _ hk => hk.2) (.slice A380_5 ((rd_T46 ((rd_T32 l0_0 x3_1).f2) x7_3).f5).length c380_5)) (fun _ hk => hk.2) (.slice A380_6 ((rd_T46 ((rd_T32 l0_0 x3_1).f2) x7_3).f6).length c380_6)) (fun _ hk => hk.2) (.slice A380_7 ((rd_T46 ((rd_T32 l0_0 x3_1).f2) x7_3).f7).length c380_7)) (fun _ hk => trivial)⟩, ⟨by (with_reducible repeat (first | refine blk_drewN ?_ _ | refine blk_drew ?_ | refine blk_alloc ?_ _)); refine blk_far ?_ NB366_381.out _; (with_reducible repeat (first | refine blk_drewN ?_ _ | refine blk_drew ?_ | refine blk_alloc ?_ _)); refine blk_far ?_ NB366_381.out _; (with_reducible repeat (first | refine blk_drewN ?_ _ | refine blk_drew ?_ | refine blk_alloc ?_ _)); refine blk_far ?_ NB366_381.out _; (with_reducible repeat (first | refine blk_drewN ?_ _ | refine blk_drew ?_ | refine blk_alloc ?_ _)); refine blk_far ?_ NB366_381.out _; (with_reducible repeat (first | refine blk_drewN ?_ _ | refine blk_drew ?_ | refine blk_alloc ?_ _)); refine blk_far ?_ NB366_381.out _; (with_reducible repeat (first | refine blk_drewN ?_ _ | refine blk_drew ?_ | refine blk_alloc ?_ _)); refine blk_far ?_ NB366_381.out _; (with_reducible repeat (first | refine blk_drewN ?_ _ | refine blk_drew ?_ | refine blk_alloc ?_ _)); refine blk_far ?_ NB366_381.out _; (with_reducible repeat (first | refine blk_drewN ?_ _ | refine blk_drew ?_ | refine blk_alloc ?_ _)); refine blk_far ?_ NB366_381.out _; (with_reducible repeat (first | refine blk_drewN ?_ _ | refine blk_drew ?_ | refine blk_alloc ?_ _)); exact BK366.out⟩, ⟨by repeat (first | (with_reducible first | exact HB.out | apply below_alloc | apply pw_below_drewN | apply below_drew1 | refine below_set ?_ GE366.out | refine below_set ?_ GE381.out) | exact HB.out)⟩⟩
                  ·rw [if_neg c35] at H
                   have c35b0 : (((rd_T46 ((rd_T32 l0_0 x3_1).f2) x7_3).f2).toList == ([] : List UInt8)) = false := beq_eq_false_iff_ne.mpr c35
                   have c35b1 : (((rd_T46 ((rd_T32 l0_0 x3_1).f2) x7_3).f2).toList != ([] : List UInt8)) = true := bne_iff_ne.mpr c35
                   replace H := Option.bind_eq_some_iff.mp H
                   obtain ⟨t382, A400, H⟩ := H
                   replace H : (if t382 = true then (w05_ResolveParams.l2 k3 x3_1 t371 (wrap64 (x7_3 + 1)) l0_0) else (some false)) = some r := H
                   have A40 := Aside0.mk A400
                   clear A400
                   by_cases c41 : t382 = true
                   ·subst c41
                    have H1 : (w05_ResolveParams.l2 k3 x3_1 t371 (wrap64 (x7_3 + 1)) l0_0) = some r := by rw [if_pos rfl] at H; exact H
                    clear H
                    have H := H1
                    clear H1
                    have H' := Aside0.mk H
                    clear H
                    have hcz42_0 : wr.cell? ⟨gb366, 0, none⟩ = some (.slice (some ad370) l0_0.length c0_0) := (blk_cell BK366.out 0).trans rfl
                    have hfz42_0 := blk_frozen BK366.out 0
                    have p378 : 0 ≤ (x3_1 : Int) := of_decide_eq_true (by first | (with_reducible assumption) | assumption)
                    have q378 : x3_1 < (l0_0.length : Int) := of_decide_eq_true (by first | (with_reducible assumption) | assumption)
                    obtain ⟨ad378, A378_1, c378_1, A378_2, c378_2, e378, hx378_0, hx378_1, hx378_2, hl378_1, hi378_1, hl378_2, hi378_2⟩ := at_T32 HR0_0.out x3_1 p378 q378
                    obtain rfl : ad370 = ad378 := (by injection e378)
                    replace hx378_0 := (HB.out.cell (World.block_lt_of_cell? w _ hx378_0)).trans hx378_0
                    replace hx378_1 := (HB.out.cell (World.block_lt_of_cell? w _ hx378_1)).trans hx378_1
                    replace hx378_2 := (HB.out.cell (World.block_lt_of_cell? w _ hx378_2)).trans hx378_2
                    have HR378_1 := Aside0.mk hi378_1
                    have HC378_1 := Aside0.mk hl378_1
                    clear hi378_1 hl378_1
                    have HR378_2 := Aside0.mk hi378_2
                    have HC378_2 := Aside0.mk hl378_2
                    clear hi378_2 hl378_2
                    replace p378 := eq_true p378
                    replace q378 := eq_true q378
                    have p379 : 0 ≤ (x3_1 : Int) := of_decide_eq_true (by first | (with_reducible assumption) | assumption)
                    have q379 : x3_1 < (l0_0.length : Int) := of_decide_eq_true (by first | (with_reducible assumption) | assumption)
                    obtain ⟨ad379, A379_1, c379_1, A379_2, c379_2, e379, hx379_0, hx379_1, hx379_2, hl379_1, hi379_1, hl379_2, hi379_2⟩ := at_T32 HR0_0.out x3_1 p379 q379
                    obtain rfl : ad370 = ad379 := (by injection e379)
                    replace hx379_0 := (HB.out.cell (World.block_lt_of_cell? w _ hx379_0)).trans hx379_0
                    replace hx379_1 := (HB.out.cell (World.block_lt_of_cell? w _ hx379_1)).trans hx379_1
                    replace hx379_2 := (HB.out.cell (World.block_lt_of_cell? w _ hx379_2)).trans hx379_2
                    have HR379_1 := Aside0.mk hi379_1
                    have HC379_1 := Aside0.mk hl379_1
                    clear hi379_1 hl379_1
                    have HR379_2 := Aside0.mk hi379_2
                    have HC379_2 := Aside0.mk hl379_2
                    clear hi379_2 hl379_2
                    replace p379 := eq_true p379
                    replace q379 := eq_true q379
                    have ea_ := Option.some.inj (hx378_1.symm.trans hx379_1)
                    injection ea_ with ea_ en_ ec_
                    subst ea_
                    subst ec_
                    clear en_
                    have ea_ := Option.some.inj (hx378_2.symm.trans hx379_2)
                    injection ea_ with ea_ en_ ec_
                    subst ea_
                    subst ec_
                    clear en_
                    have p380 : 0 ≤ (x7_3 : Int) := of_decide_eq_true (by first | (with_reducible assumption) | assumption)
                    have q380 : x7_3 < (((rd_T32 l0_0 x3_1).f2).length : Int) := of_decide_eq_true (by first | (with_reducible assumption) | assumption)
                    obtain ⟨ad380, A380_4, c380_4, A380_5, c380_5, A380_6, c380_6, A380_7, c380_7, e380, hx380_0, hx380_1, hx380_2, hx380_3, hx380_4, hx380_5, hx380_6, hx380_7, hl380_4, hi380_4, hl380_5, hi380_5, hl380_6, hi380_6, hl380_7, hi380_7⟩ := at_T46 HR379_2.out x7_3 p380 q380
                    cases e380
                    replace hx380_0 := (HB.out.cell (World.block_lt_of_cell? w _ hx380_0)).trans hx380_0
                    replace hx380_1 := (HB.out.cell (World.block_lt_of_cell? w _ hx380_1)).trans hx380_1
                    replace hx380_2 := (HB.out.cell (World.block_lt_of_cell? w _ hx380_2)).trans hx380_2
                    replace hx380_3 := (HB.out.cell (World.block_lt_of_cell? w _ hx380_3)).trans hx380_3
                    replace hx380_4 := (HB.out.cell (World.block_lt_of_cell? w _ hx380_4)).trans hx380_4
                    replace hx380_5 := (HB.out.cell (World.block_lt_of_cell? w _ hx380_5)).trans hx380_5
                    replace hx380_6 := (HB.out.cell (World.block_lt_of_cell? w _ hx380_6)).trans hx380_6
                    replace hx380_7 := (HB.out.cell (World.block_lt_of_cell? w _ hx380_7)).trans hx380_7
                    have HR380_4 := Aside0.mk hi380_4
                    have HC380_4 := Aside0.mk hl380_4
                    clear hi380_4 hl380_4
                    have HR380_5 := Aside0.mk hi380_5
                    have HC380_5 := Aside0.mk hl380_5
                    clear hi380_5 hl380_5
                    have HR380_6 := Aside0.mk hi380_6
                    have HC380_6 := Aside0.mk hl380_6
                    clear hi380_6 hl380_6
                    have HR380_7 := Aside0.mk hi380_7
                    have HC380_7 := Aside0.mk hl380_7
                    clear hi380_7 hl380_7
                    replace p380 := eq_true p380
                    replace q380 := eq_true q380
                    go_wp2_with (first | ((with_reducible refine gate_dst (N := 8) rfl ?_); refine box_event ?hg (N := 8) ?hd (cs := #[.int .i64 0, .string (⟨#[]⟩ : ByteArray), .string (⟨#[]⟩ : ByteArray), .string (⟨#[]⟩ : ByteArray), .slice none 0 0, .slice none 0 0, .slice none 0 0, .slice none 0 0]) (t := 46) ?hr ?_; (case hd => rfl); (case hg => rfl); (case hr => first | (go_simp; done) | (go_simp; rfl)); intro gb381 hg w43 hbox hb; have n0_ := Aside0.mk (Kd.R_below (by (with_reducible repeat (first | apply Kd.R_alloc | apply Kd.R_drewN | apply Kd.R_drew)); exact HO_4.out) hb); have n1_ := Aside0.mk (blk_below (g := gb366) (o := .cells #[.slice (some ad370) l0_0.length c0_0] 24 (0, 0)) (by (with_reducible repeat (first | refine blk_drewN ?_ _ | refine blk_drew ?_ | refine blk_alloc ?_ _)); exact BK366.out) hb); have n2_ := Aside0.mk (below_step (by repeat (first | (with_reducible first | exact HB.out | apply below_alloc | apply pw_below_drewN | apply below_drew1 | refine below_set ?_ GE366.out) | exact HB.out)) hb); have n3_ := Aside0.mk (hbox); have n4_ := Aside0.mk ((by rw [hg]; exact (below_size (by repeat (first | (with_reducible first | exact HB.out | apply below_alloc | apply pw_below_drewN | apply below_drew1 | refine below_set ?_ GE366.out) | exact HB.out))) : w.heap.size ≤ gb381)); have n5_ := Aside0.mk ((by rw [hg]; exact (below_size (by repeat (first | (with_reducible first | exact HB.out | apply below_alloc | apply pw_below_drewN | apply below_drew1 | refine below_set ?_ GE366.out) | exact HB.out))) : w.heap.size ≤ gb381)); have n6_ := Aside0.mk ((by rw [hg]; exact Nat.ne_of_lt (blk_lt (g := gb366) (o := .cells #[.slice (some ad370) l0_0.length c0_0] 24 (0, 0)) (by (with_reducible repeat (first | refine blk_drewN ?_ _ | refine blk_drew ?_ | refine blk_alloc ?_ _)); exact BK366.out)) : gb366 ≠ gb381)); have n7_ := Aside0.mk ((by rw [hg]; exact Nat.ne_of_gt (blk_lt (g := gb366) (o := .cells #[.slice (some ad370) l0_0.length c0_0] 24 (0, 0)) (by (with_reducible repeat (first | refine blk_drewN ?_ _ | refine blk_drew ?_ | refine blk_alloc ?_ _)); exact BK366.out)) : gb381 ≠ gb366)); clear HO_4; clear BK366; clear HB; have HO_4 := n0_; have BK366 := n1_; have HB := n2_; have BK381 := n3_; have GW381 := n4_; have GE381 := n5_; have NB366_381 := n6_; have NB381_366 := n7_; clear n0_ n1_ n2_ n3_ n4_ n5_ n6_ n7_; clear hb hbox hg; have hnb44 := NB381_366.out; have hnc44 := NB366_381.out; have hcz45_0 : w43.cell? ⟨gb381, 0, none⟩ = some (.int .i64 0) := (blk_cell BK381.out 0).trans rfl; have hcz45_1 : w43.cell? ⟨gb381, 1, none⟩ = some (.string (⟨#[]⟩ : ByteArray)) := (blk_cell BK381.out 1).trans rfl; have hcz45_2 : w43.cell? ⟨gb381, 2, none⟩ = some (.string (⟨#[]⟩ : ByteArray)) := (blk_cell BK381.out 2).trans rfl; have hcz45_3 : w43.cell? ⟨gb381, 3, none⟩ = some (.string (⟨#[]⟩ : ByteArray)) := (blk_cell BK381.out 3).trans rfl; have hcz45_4 : w43.cell? ⟨gb381, 4, none⟩ = some (.slice none 0 0) := (blk_cell BK381.out 4).trans rfl; have hcz45_5 : w43.cell? ⟨gb381, 5, none⟩ = some (.slice none 0 0) := (blk_cell BK381.out 5).trans rfl; have hcz45_6 : w43.cell? ⟨gb381, 6, none⟩ = some (.slice none 0 0) := (blk_cell BK381.out 6).trans rfl; have hcz45_7 : w43.cell? ⟨gb381, 7, none⟩ = some (.slice none 0 0) := (blk_cell BK381.out 7).trans rfl; have hfz45_0 := blk_frozen BK381.out 0; have hfz45_1 := blk_frozen BK381.out 1; have hfz45_2 := blk_frozen BK381.out 2; have hfz45_3 := blk_frozen BK381.out 3; have hfz45_4 := blk_frozen BK381.out 4; have hfz45_5 := blk_frozen BK381.out 5; have hfz45_6 := blk_frozen BK381.out 6; have hfz45_7 := blk_frozen BK381.out 7; obtain ⟨Ao46, co46, eo46⟩ := Kd.R_slice HO_4.out; subst eo46) | (go_at_call 21; (with_reducible refine (w05_in.calls k3 _ _ t371 ((rd_T46 ((rd_T32 l0_0 x3_1).f2) x7_3).f2) true _ ?side1 ?side2 A40.out).mono ?_); (case side1 => refine (Kd.R_reads' (e := 9) (base := w.heap.size) (ok := fun k_ => True) (n := t371.length) (c := co46) ?_).2.2; exact (by (with_reducible repeat (first | apply Kd.R_alloc | apply Kd.R_drewN | apply Kd.R_drew)); exact (Kd.R_mono (Kd.R_far (p := ⟨gb381, 7, none⟩) (Kd.R_far (p := ⟨gb381, 6, none⟩) (Kd.R_far (p := ⟨gb381, 5, none⟩) (Kd.R_far (p := ⟨gb381, 4, none⟩) (Kd.R_far (p := ⟨gb381, 3, none⟩) (Kd.R_far (p := ⟨gb381, 2, none⟩) (Kd.R_far (p := ⟨gb381, 1, none⟩) (Kd.R_far (p := ⟨gb381, 0, none⟩) (Kd.R_types HO_4.out BK381.out (by decide)) (fun _ hk => hk.2) (.int .i64 ((rd_T46 ((rd_T32 l0_0 x3_1).f2) x7_3).f0))) (fun _ hk => hk.2) (.string ((rd_T46 ((rd_T32 l0_0 x3_1).f2) x7_3).f1))) (fun _ hk => hk.2) (.string ((rd_T46 ((rd_T32 l0_0 x3_1).f2) x7_3).f2))) (fun _ hk => hk.2) (.string ((rd_T46 ((rd_T32 l0_0 x3_1).f2) x7_3).f3))) (fun _ hk => hk.2) (.slice A380_4 ((rd_T46 ((rd_T32 l0_0 x3_1).f2) x7_3).f4).length c380_4)) (fun _ hk => hk.2) (.slice A380_5 ((rd_T46 ((rd_T32 l0_0 x3_1).f2) x7_3).f5).length c380_5)) (fun _ hk => hk.2) (.slice A380_6 ((rd_T46 ((rd_T32 l0_0 x3_1).f2) x7_3).f6).length c380_6)) (fun _ hk => hk.2) (.slice A380_7 ((rd_T46 ((rd_T32 l0_0 x3_1).f2) x7_3).f7).length c380_7)) (fun _ h_ => h_.1)))); (case side2 => exact (Kd.R_reads' HO_4.out).2.1); rintro e w' ⟨rfl, ⟨nd, rfl⟩⟩))
                    go_roundg k3
                    case measure => have := HK1.out; have := HK2.out; have := HK3.out; omega
                    case rel => exact ⟨(wrap64 (x7_3 + 1)), (by first | rfl | (simp; done) | (simp [*]; done)), H', ⟨by have := HK1.out; have := HK2.out; have := HK3.out; omega⟩, ⟨by (with_reducible repeat (first | apply Kd.R_alloc | apply Kd.R_drewN | apply Kd.R_drew)); exact Kd.R_mono (Kd.R_far (p := ⟨gb381, 7, none⟩) (Kd.R_far (p := ⟨gb381, 6, none⟩) (Kd.R_far (p := ⟨gb381, 5, none⟩) (Kd.R_far (p := ⟨gb381, 4, none⟩) (Kd.R_far (p := ⟨gb381, 3, none⟩) (Kd.R_far (p := ⟨gb381, 2, none⟩) (Kd.R_far (p := ⟨gb381, 1, none⟩) (Kd.R_far (p := ⟨gb381, 0, none⟩) (Kd.R_types HO_4.out BK381.out (by decide)) (fun _ hk => hk.2) (.int .i64 ((rd_T46 ((rd_T32 l0_0 x3_1).f2) x7_3).f0))) (fun _ hk => hk.2) (.string ((rd_T46 ((rd_T32 l0_0 x3_1).f2) x7_3).f1))) (fun _ hk => hk.2) (.string ((rd_T46 ((rd_T32 l0_0 x3_1).f2) x7_3).f2))) (fun _ hk => hk.2) (.string ((rd_T46 ((rd_T32 l0_0 x3_1).f2) x7_3).f3))) (fun _ hk => hk.2) (.slice A380_4 ((rd_T46 ((rd_T32 l0_0 x3_1).f2) x7_3).f4).length c380_4)) (fun _ hk => hk.2) (.slice A380_5 ((rd_T46 ((rd_T32 l0_0 x3_1).f2) x7_3).f5).length c380_5)) (fun _ hk => hk.2) (.slice A380_6 ((rd_T46 ((rd_T32 l0_0 x3_1).f2) x7_3).f6).length c380_6)) (fun _ hk => hk.2) (.slice A380_7 ((rd_T46 ((rd_T32 l0_0 x3_1).f2) x7_3).f7).length c380_7)) (fun _ hk => trivial)⟩, ⟨by (with_reducible repeat (first | refine blk_drewN ?_ _ | refine blk_drew ?_ | refine blk_alloc ?_ _)); refine blk_far ?_ NB366_381.out _; (with_reducible repeat (first | refine blk_drewN ?_ _ | refine blk_drew ?_ | refine blk_alloc ?_ _)); refine blk_far ?_ NB366_381.out _; (with_reducible repeat (first | refine blk_drewN ?_ _ | refine blk_drew ?_ | refine blk_alloc ?_ _)); refine blk_far ?_ NB366_381.out _; (with_reducible repeat (first | refine blk_drewN ?_ _ | refine blk_drew ?_ | refine blk_alloc ?_ _)); refine blk_far ?_ NB366_381.out _; (with_reducible repeat (first | refine blk_drewN ?_ _ | refine blk_drew ?_ | refine blk_alloc ?_ _)); refine blk_far ?_ NB366_381.out _; (with_reducible repeat (first | refine blk_drewN ?_ _ | refine blk_drew ?_ | refine blk_alloc ?_ _)); refine blk_far ?_ NB366_381.out _; (with_reducible repeat (first | refine blk_drewN ?_ _ | refine blk_drew ?_ | refine blk_alloc ?_ _)); refine blk_far ?_ NB366_381.out _; (with_reducible repeat (first | refine blk_drewN ?_ _ | refine blk_drew ?_ | refine blk_alloc ?_ _)); refine blk_far ?_ NB366_381.out _; (with_reducible repeat (first | refine blk_drewN ?_ _ | refine blk_drew ?_ | refine blk_alloc ?_ _)); exact BK366.out⟩, ⟨by repeat (first | (with_reducible first | exact HB.out | apply below_alloc | apply pw_below_drewN | apply below_drew1 | refine below_set ?_ GE366.out | refine below_set ?_ GE381.out) | exact HB.out)⟩⟩
                   ·replace c41 := Bool.eq_false_iff.mpr c41
                    subst c41
                    have H1 : (some false) = some r := by rw [if_neg (show ¬ (false = true) by decide)] at H; exact H
                    clear H
                    have H := H1
                    clear H1
                    obtain rfl := Option.some.inj H
                    have hcz47_0 : wr.cell? ⟨gb366, 0, none⟩ = some (.slice (some ad370) l0_0.length c0_0) := (blk_cell BK366.out 0).trans rfl
                    have hfz47_0 := blk_frozen BK366.out 0
                    have p378 : 0 ≤ (x3_1 : Int) := of_decide_eq_true (by first | (with_reducible assumption) | assumption)
                    have q378 : x3_1 < (l0_0.length : Int) := of_decide_eq_true (by first | (with_reducible assumption) | assumption)
                    obtain ⟨ad378, A378_1, c378_1, A378_2, c378_2, e378, hx378_0, hx378_1, hx378_2, hl378_1, hi378_1, hl378_2, hi378_2⟩ := at_T32 HR0_0.out x3_1 p378 q378
                    obtain rfl : ad370 = ad378 := (by injection e378)
                    replace hx378_0 := (HB.out.cell (World.block_lt_of_cell? w _ hx378_0)).trans hx378_0
                    replace hx378_1 := (HB.out.cell (World.block_lt_of_cell? w _ hx378_1)).trans hx378_1
                    replace hx378_2 := (HB.out.cell (World.block_lt_of_cell? w _ hx378_2)).trans hx378_2
                    have HR378_1 := Aside0.mk hi378_1
                    have HC378_1 := Aside0.mk hl378_1
                    clear hi378_1 hl378_1
                    have HR378_2 := Aside0.mk hi378_2
                    have HC378_2 := Aside0.mk hl378_2
                    clear hi378_2 hl378_2
                    replace p378 := eq_true p378
                    replace q378 := eq_true q378
                    have p379 : 0 ≤ (x3_1 : Int) := of_decide_eq_true (by first | (with_reducible assumption) | assumption)
                    have q379 : x3_1 < (l0_0.length : Int) := of_decide_eq_true (by first | (with_reducible assumption) | assumption)
                    obtain ⟨ad379, A379_1, c379_1, A379_2, c379_2, e379, hx379_0, hx379_1, hx379_2, hl379_1, hi379_1, hl379_2, hi379_2⟩ := at_T32 HR0_0.out x3_1 p379 q379
                    obtain rfl : ad370 = ad379 := (by injection e379)
                    replace hx379_0 := (HB.out.cell (World.block_lt_of_cell? w _ hx379_0)).trans hx379_0
                    replace hx379_1 := (HB.out.cell (World.block_lt_of_cell? w _ hx379_1)).trans hx379_1
                    replace hx379_2 := (HB.out.cell (World.block_lt_of_cell? w _ hx379_2)).trans hx379_2
                    have HR379_1 := Aside0.mk hi379_1
                    have HC379_1 := Aside0.mk hl379_1
                    clear hi379_1 hl379_1
                    have HR379_2 := Aside0.mk hi379_2
                    have HC379_2 := Aside0.mk hl379_2
                    clear hi379_2 hl379_2
                    replace p379 := eq_true p379
                    replace q379 := eq_true q379
                    have ea_ := Option.some.inj (hx378_1.symm.trans hx379_1)
                    injection ea_ with ea_ en_ ec_
                    subst ea_
                    subst ec_
                    clear en_
                    have ea_ := Option.some.inj (hx378_2.symm.trans hx379_2)
                    injection ea_ with ea_ en_ ec_
                    subst ea_
                    subst ec_
                    clear en_
                    have p380 : 0 ≤ (x7_3 : Int) := of_decide_eq_true (by first | (with_reducible assumption) | assumption)
                    have q380 : x7_3 < (((rd_T32 l0_0 x3_1).f2).length : Int) := of_decide_eq_true (by first | (with_reducible assumption) | assumption)
                    obtain ⟨ad380, A380_4, c380_4, A380_5, c380_5, A380_6, c380_6, A380_7, c380_7, e380, hx380_0, hx380_1, hx380_2, hx380_3, hx380_4, hx380_5, hx380_6, hx380_7, hl380_4, hi380_4, hl380_5, hi380_5, hl380_6, hi380_6, hl380_7, hi380_7⟩ := at_T46 HR379_2.out x7_3 p380 q380
                    cases e380
                    replace hx380_0 := (HB.out.cell (World.block_lt_of_cell? w _ hx380_0)).trans hx380_0
                    replace hx380_1 := (HB.out.cell (World.block_lt_of_cell? w _ hx380_1)).trans hx380_1
                    replace hx380_2 := (HB.out.cell (World.block_lt_of_cell? w _ hx380_2)).trans hx380_2
                    replace hx380_3 := (HB.out.cell (World.block_lt_of_cell? w _ hx380_3)).trans hx380_3
                    replace hx380_4 := (HB.out.cell (World.block_lt_of_cell? w _ hx380_4)).trans hx380_4
                    replace hx380_5 := (HB.out.cell (World.block_lt_of_cell? w _ hx380_5)).trans hx380_5
                    replace hx380_6 := (HB.out.cell (World.block_lt_of_cell? w _ hx380_6)).trans hx380_6
                    replace hx380_7 := (HB.out.cell (World.block_lt_of_cell? w _ hx380_7)).trans hx380_7
                    have HR380_4 := Aside0.mk hi380_4
                    have HC380_4 := Aside0.mk hl380_4
                    clear hi380_4 hl380_4
                    have HR380_5 := Aside0.mk hi380_5
                    have HC380_5 := Aside0.mk hl380_5
                    clear hi380_5 hl380_5
                    have HR380_6 := Aside0.mk hi380_6
                    have HC380_6 := Aside0.mk hl380_6
                    clear hi380_6 hl380_6
                    have HR380_7 := Aside0.mk hi380_7
                    have HC380_7 := Aside0.mk hl380_7
                    clear hi380_7 hl380_7
                    replace p380 := eq_true p380
                    replace q380 := eq_true q380
                    go_wp2_with (first | ((with_reducible refine gate_dst (N := 8) rfl ?_); refine box_event ?hg (N := 8) ?hd (cs := #[.int .i64 0, .string (⟨#[]⟩ : ByteArray), .string (⟨#[]⟩ : ByteArray), .string (⟨#[]⟩ : ByteArray), .slice none 0 0, .slice none 0 0, .slice none 0 0, .slice none 0 0]) (t := 46) ?hr ?_; (case hd => rfl); (case hg => rfl); (case hr => first | (go_simp; done) | (go_simp; rfl)); intro gb381 hg w48 hbox hb; have n0_ := Aside0.mk (Kd.R_below (by (with_reducible repeat (first | apply Kd.R_alloc | apply Kd.R_drewN | apply Kd.R_drew)); exact HO_4.out) hb); have n1_ := Aside0.mk (blk_below (g := gb366) (o := .cells #[.slice (some ad370) l0_0.length c0_0] 24 (0, 0)) (by (with_reducible repeat (first | refine blk_drewN ?_ _ | refine blk_drew ?_ | refine blk_alloc ?_ _)); exact BK366.out) hb); have n2_ := Aside0.mk (below_step (by repeat (first | (with_reducible first | exact HB.out | apply below_alloc | apply pw_below_drewN | apply below_drew1 | refine below_set ?_ GE366.out) | exact HB.out)) hb); have n3_ := Aside0.mk (hbox); have n4_ := Aside0.mk ((by rw [hg]; exact (below_size (by repeat (first | (with_reducible first | exact HB.out | apply below_alloc | apply pw_below_drewN | apply below_drew1 | refine below_set ?_ GE366.out) | exact HB.out))) : w.heap.size ≤ gb381)); have n5_ := Aside0.mk ((by rw [hg]; exact (below_size (by repeat (first | (with_reducible first | exact HB.out | apply below_alloc | apply pw_below_drewN | apply below_drew1 | refine below_set ?_ GE366.out) | exact HB.out))) : w.heap.size ≤ gb381)); have n6_ := Aside0.mk ((by rw [hg]; exact Nat.ne_of_lt (blk_lt (g := gb366) (o := .cells #[.slice (some ad370) l0_0.length c0_0] 24 (0, 0)) (by (with_reducible repeat (first | refine blk_drewN ?_ _ | refine blk_drew ?_ | refine blk_alloc ?_ _)); exact BK366.out)) : gb366 ≠ gb381)); have n7_ := Aside0.mk ((by rw [hg]; exact Nat.ne_of_gt (blk_lt (g := gb366) (o := .cells #[.slice (some ad370) l0_0.length c0_0] 24 (0, 0)) (by (with_reducible repeat (first | refine blk_drewN ?_ _ | refine blk_drew ?_ | refine blk_alloc ?_ _)); exact BK366.out)) : gb381 ≠ gb366)); clear HO_4; clear BK366; clear HB; have HO_4 := n0_; have BK366 := n1_; have HB := n2_; have BK381 := n3_; have GW381 := n4_; have GE381 := n5_; have NB366_381 := n6_; have NB381_366 := n7_; clear n0_ n1_ n2_ n3_ n4_ n5_ n6_ n7_; clear hb hbox hg; have hnb49 := NB381_366.out; have hnc49 := NB366_381.out; have hcz50_0 : w48.cell? ⟨gb381, 0, none⟩ = some (.int .i64 0) := (blk_cell BK381.out 0).trans rfl; have hcz50_1 : w48.cell? ⟨gb381, 1, none⟩ = some (.string (⟨#[]⟩ : ByteArray)) := (blk_cell BK381.out 1).trans rfl; have hcz50_2 : w48.cell? ⟨gb381, 2, none⟩ = some (.string (⟨#[]⟩ : ByteArray)) := (blk_cell BK381.out 2).trans rfl; have hcz50_3 : w48.cell? ⟨gb381, 3, none⟩ = some (.string (⟨#[]⟩ : ByteArray)) := (blk_cell BK381.out 3).trans rfl; have hcz50_4 : w48.cell? ⟨gb381, 4, none⟩ = some (.slice none 0 0) := (blk_cell BK381.out 4).trans rfl; have hcz50_5 : w48.cell? ⟨gb381, 5, none⟩ = some (.slice none 0 0) := (blk_cell BK381.out 5).trans rfl; have hcz50_6 : w48.cell? ⟨gb381, 6, none⟩ = some (.slice none 0 0) := (blk_cell BK381.out 6).trans rfl; have hcz50_7 : w48.cell? ⟨gb381, 7, none⟩ = some (.slice none 0 0) := (blk_cell BK381.out 7).trans rfl; have hfz50_0 := blk_frozen BK381.out 0; have hfz50_1 := blk_frozen BK381.out 1; have hfz50_2 := blk_frozen BK381.out 2; have hfz50_3 := blk_frozen BK381.out 3; have hfz50_4 := blk_frozen BK381.out 4; have hfz50_5 := blk_frozen BK381.out 5; have hfz50_6 := blk_frozen BK381.out 6; have hfz50_7 := blk_frozen BK381.out 7; obtain ⟨Ao51, co51, eo51⟩ := Kd.R_slice HO_4.out; subst eo51) | (go_at_call 21; (with_reducible refine (w05_in.calls k3 _ _ t371 ((rd_T46 ((rd_T32 l0_0 x3_1).f2) x7_3).f2) false _ ?side1 ?side2 A40.out).mono ?_); (case side1 => refine (Kd.R_reads' (e := 9) (base := w.heap.size) (ok := fun k_ => True) (n := t371.length) (c := co51) ?_).2.2; exact (by (with_reducible repeat (first | apply Kd.R_alloc | apply Kd.R_drewN | apply Kd.R_drew)); exact (Kd.R_mono (Kd.R_far (p := ⟨gb381, 7, none⟩) (Kd.R_far (p := ⟨gb381, 6, none⟩) (Kd.R_far (p := ⟨gb381, 5, none⟩) (Kd.R_far (p := ⟨gb381, 4, none⟩) (Kd.R_far (p := ⟨gb381, 3, none⟩) (Kd.R_far (p := ⟨gb381, 2, none⟩) (Kd.R_far (p := ⟨gb381, 1, none⟩) (Kd.R_far (p := ⟨gb381, 0, none⟩) (Kd.R_types HO_4.out BK381.out (by decide)) (fun _ hk => hk.2) (.int .i64 ((rd_T46 ((rd_T32 l0_0 x3_1).f2) x7_3).f0))) (fun _ hk => hk.2) (.string ((rd_T46 ((rd_T32 l0_0 x3_1).f2) x7_3).f1))) (fun _ hk => hk.2) (.string ((rd_T46 ((rd_T32 l0_0 x3_1).f2) x7_3).f2))) (fun _ hk => hk.2) (.string ((rd_T46 ((rd_T32 l0_0 x3_1).f2) x7_3).f3))) (fun _ hk => hk.2) (.slice A380_4 ((rd_T46 ((rd_T32 l0_0 x3_1).f2) x7_3).f4).length c380_4)) (fun _ hk => hk.2) (.slice A380_5 ((rd_T46 ((rd_T32 l0_0 x3_1).f2) x7_3).f5).length c380_5)) (fun _ hk => hk.2) (.slice A380_6 ((rd_T46 ((rd_T32 l0_0 x3_1).f2) x7_3).f6).length c380_6)) (fun _ hk => hk.2) (.slice A380_7 ((rd_T46 ((rd_T32 l0_0 x3_1).f2) x7_3).f7).length c380_7)) (fun _ h_ => h_.1)))); (case side2 => exact (Kd.R_reads' HO_4.out).2.1); rintro e w' ⟨rfl, ⟨nd, rfl⟩⟩))
                    go_ret
                    exact ⟨by first | rfl | (simp [errW_none, errW_some] <;> rfl) | (simp [*, errW_none, errW_some] <;> rfl), by repeat (first | (with_reducible first | exact HB.out | apply below_alloc | apply pw_below_drewN | apply below_drew1 | refine below_set ?_ GE366.out | refine below_set ?_ GE381.out) | exact HB.out)⟩
                 ·rw [if_neg c34] at H
                  have c34b0 : (((rd_T46 ((rd_T32 l0_0 x3_1).f2) x7_3).f1).toList == ([] : List UInt8)) = false := beq_eq_false_iff_ne.mpr c34
                  have c34b1 : (((rd_T46 ((rd_T32 l0_0 x3_1).f2) x7_3).f1).toList != ([] : List UInt8)) = true := bne_iff_ne.mpr c34
                  replace H := Option.bind_eq_some_iff.mp H
                  obtain ⟨t383, A520, H⟩ := H
                  replace H : (if t383 = true then (if ((rd_T46 ((rd_T32 l0_0 x3_1).f2) x7_3).f2).toList = ([] : List UInt8) then (w05_ResolveParams.l2 k3 x3_1 t371 (wrap64 (x7_3 + 1)) l0_0) else ((w05_in.f k3 t371 ((rd_T46 ((rd_T32 l0_0 x3_1).f2) x7_3).f2)).bind fun t384 => (if t384 = true then (w05_ResolveParams.l2 k3 x3_1 t371 (wrap64 (x7_3 + 1)) l0_0) else (some false)))) else (some false)) = some r := H
                  have A52 := Aside0.mk A520
                  clear A520
                  by_cases c53 : t383 = true
                  ·subst c53
                   have H1 : (if ((rd_T46 ((rd_T32 l0_0 x3_1).f2) x7_3).f2).toList = ([] : List UInt8) then (w05_ResolveParams.l2 k3 x3_1 t371 (wrap64 (x7_3 + 1)) l0_0) else ((w05_in.f k3 t371 ((rd_T46 ((rd_T32 l0_0 x3_1).f2) x7_3).f2)).bind fun t384 => (if t384 = true then (w05_ResolveParams.l2 k3 x3_1 t371 (wrap64 (x7_3 + 1)) l0_0) else (some false)))) = some r := by rw [if_pos rfl] at H; exact H
                   clear H
                   have H := H1
                   clear H1
                   by_cases c54 : ((rd_T46 ((rd_T32 l0_0 x3_1).f2) x7_3).f2).toList = ([] : List UInt8)
                   ·rw [if_pos c54] at H
                    have c54b0 : (((rd_T46 ((rd_T32 l0_0 x3_1).f2) x7_3).f2).toList == ([] : List UInt8)) = true := beq_iff_eq.mpr c54
                    have c54b1 : (((rd_T46 ((rd_T32 l0_0 x3_1).f2) x7_3).f2).toList != ([] : List UInt8)) = false := bne_eq_false_iff_eq.mpr c54
                    clear c54
                    have H' := Aside0.mk H
                    clear H
                    have hcz55_0 : wr.cell? ⟨gb366, 0, none⟩ = some (.slice (some ad370) l0_0.length c0_0) := (blk_cell BK366.out 0).trans rfl
                    have hfz55_0 := blk_frozen BK366.out 0
                    have p378 : 0 ≤ (x3_1 : Int) := of_decide_eq_true (by first | (with_reducible assumption) | assumption)
                    have q378 : x3_1 < (l0_0.length : Int) := of_decide_eq_true (by first | (with_reducible assumption) | assumption)
                    obtain ⟨ad378, A378_1, c378_1, A378_2, c378_2, e378, hx378_0, hx378_1, hx378_2, hl378_1, hi378_1, hl378_2, hi378_2⟩ := at_T32 HR0_0.out x3_1 p378 q378
                    obtain rfl : ad370 = ad378 := (by injection e378)
                    replace hx378_0 := (HB.out.cell (World.block_lt_of_cell? w _ hx378_0)).trans hx378_0
                    replace hx378_1 := (HB.out.cell (World.block_lt_of_cell? w _ hx378_1)).trans hx378_1
                    replace hx378_2 := (HB.out.cell (World.block_lt_of_cell? w _ hx378_2)).trans hx378_2
                    have HR378_1 := Aside0.mk hi378_1
                    have HC378_1 := Aside0.mk hl378_1
                    clear hi378_1 hl378_1
                    have HR378_2 := Aside0.mk hi378_2
                    have HC378_2 := Aside0.mk hl378_2
                    clear hi378_2 hl378_2
                    replace p378 := eq_true p378
                    replace q378 := eq_true q378
                    have p379 : 0 ≤ (x3_1 : Int) := of_decide_eq_true (by first | (with_reducible assumption) | assumption)
                    have q379 : x3_1 < (l0_0.length : Int) := of_decide_eq_true (by first | (with_reducible assumption) | assumption)
                    obtain ⟨ad379, A379_1, c379_1, A379_2, c379_2, e379, hx379_0, hx379_1, hx379_2, hl379_1, hi379_1, hl379_2, hi379_2⟩ := at_T32 HR0_0.out x3_1 p379 q379
                    obtain rfl : ad370 = ad379 := (by injection e379)
                    replace hx379_0 := (HB.out.cell (World.block_lt_of_cell? w _ hx379_0)).trans hx379_0
                    replace hx379_1 := (HB.out.cell (World.block_lt_of_cell? w _ hx379_1)).trans hx379_1
                    replace hx379_2 := (HB.out.cell (World.block_lt_of_cell? w _ hx379_2)).trans hx379_2
                    have HR379_1 := Aside0.mk hi379_1
                    have HC379_1 := Aside0.mk hl379_1
                    clear hi379_1 hl379_1
                    have HR379_2 := Aside0.mk hi379_2
                    have HC379_2 := Aside0.mk hl379_2
                    clear hi379_2 hl379_2
                    replace p379 := eq_true p379
                    replace q379 := eq_true q379
                    have ea_ := Option.some.inj (hx378_1.symm.trans hx379_1)
                    injection ea_ with ea_ en_ ec_
                    subst ea_
                    subst ec_
                    clear en_
                    have ea_ := Option.some.inj (hx378_2.symm.trans hx379_2)
                    injection ea_ with ea_ en_ ec_
                    subst ea_
                    subst ec_
                    clear en_
                    have p380 : 0 ≤ (x7_3 : Int) := of_decide_eq_true (by first | (with_reducible assumption) | assumption)
                    have q380 : x7_3 < (((rd_T32 l0_0 x3_1).f2).length : Int) := of_decide_eq_true (by first | (with_reducible assumption) | assumption)
                    obtain ⟨ad380, A380_4, c380_4, A380_5, c380_5, A380_6, c380_6, A380_7, c380_7, e380, hx380_0, hx380_1, hx380_2, hx380_3, hx380_4, hx380_5, hx380_6, hx380_7, hl380_4, hi380_4, hl380_5, hi380_5, hl380_6, hi380_6, hl380_7, hi380_7⟩ := at_T46 HR379_2.out x7_3 p380 q380
                    cases e380
                    replace hx380_0 := (HB.out.cell (World.block_lt_of_cell? w _ hx380_0)).trans hx380_0
                    replace hx380_1 := (HB.out.cell (World.block_lt_of_cell? w _ hx380_1)).trans hx380_1
                    replace hx380_2 := (HB.out.cell (World.block_lt_of_cell? w _ hx380_2)).trans hx380_2
                    replace hx380_3 := (HB.out.cell (World.block_lt_of_cell? w _ hx380_3)).trans hx380_3
                    replace hx380_4 := (HB.out.cell (World.block_lt_of_cell? w _ hx380_4)).trans hx380_4
                    replace hx380_5 := (HB.out.cell (World.block_lt_of_cell? w _ hx380_5)).trans hx380_5
                    replace hx380_6 := (HB.out.cell (World.block_lt_of_cell? w _ hx380_6)).trans hx380_6
                    replace hx380_7 := (HB.out.cell (World.block_lt_of_cell? w _ hx380_7)).trans hx380_7
                    have HR380_4 := Aside0.mk hi380_4
                    have HC380_4 := Aside0.mk hl380_4
                    clear hi380_4 hl380_4
                    have HR380_5 := Aside0.mk hi380_5
                    have HC380_5 := Aside0.mk hl380_5
                    clear hi380_5 hl380_5
                    have HR380_6 := Aside0.mk hi380_6
                    have HC380_6 := Aside0.mk hl380_6
                    clear hi380_6 hl380_6
                    have HR380_7 := Aside0.mk hi380_7
                    have HC380_7 := Aside0.mk hl380_7
                    clear hi380_7 hl380_7
                    replace p380 := eq_true p380
                    replace q380 := eq_true q380
                    go_wp2_with (first | ((with_reducible refine gate_dst (N := 8) rfl ?_); refine box_event ?hg (N := 8) ?hd (cs := #[.int .i64 0, .string (⟨#[]⟩ : ByteArray), .string (⟨#[]⟩ : ByteArray), .string (⟨#[]⟩ : ByteArray), .slice none 0 0, .slice none 0 0, .slice none 0 0, .slice none 0 0]) (t := 46) ?hr ?_; (case hd => rfl); (case hg => rfl); (case hr => first | (go_simp; done) | (go_simp; rfl)); intro gb381 hg w56 hbox hb; have n0_ := Aside0.mk (Kd.R_below (by (with_reducible repeat (first | apply Kd.R_alloc | apply Kd.R_drewN | apply Kd.R_drew)); exact HO_4.out) hb); have n1_ := Aside0.mk (blk_below (g := gb366) (o := .cells #[.slice (some ad370) l0_0.length c0_0] 24 (0, 0)) (by (with_reducible repeat (first | refine blk_drewN ?_ _ | refine blk_drew ?_ | refine blk_alloc ?_ _)); exact BK366.out) hb); have n2_ := Aside0.mk (below_step (by repeat (first | (with_reducible first | exact HB.out | apply below_alloc | apply pw_below_drewN | apply below_drew1 | refine below_set ?_ GE366.out) | exact HB.out)) hb); have n3_ := Aside0.mk (hbox); have n4_ := Aside0.mk ((by rw [hg]; exact (below_size (by repeat (first | (with_reducible first | exact HB.out | apply below_alloc | apply pw_below_drewN | apply below_drew1 | refine below_set ?_ GE366.out) | exact HB.out))) : w.heap.size ≤ gb381)); have n5_ := Aside0.mk ((by rw [hg]; exact (below_size (by repeat (first | (with_reducible first | exact HB.out | apply below_alloc | apply pw_below_drewN | apply below_drew1 | refine below_set ?_ GE366.out) | exact HB.out))) : w.heap.size ≤ gb381)); have n6_ := Aside0.mk ((by rw [hg]; exact Nat.ne_of_lt (blk_lt (g := gb366) (o := .cells #[.slice (some ad370) l0_0.length c0_0] 24 (0, 0)) (by (with_reducible repeat (first | refine blk_drewN ?_ _ | refine blk_drew ?_ | refine blk_alloc ?_ _)); exact BK366.out)) : gb366 ≠ gb381)); have n7_ := Aside0.mk ((by rw [hg]; exact Nat.ne_of_gt (blk_lt (g := gb366) (o := .cells #[.slice (some ad370) l0_0.length c0_0] 24 (0, 0)) (by (with_reducible repeat (first | refine blk_drewN ?_ _ | refine blk_drew ?_ | refine blk_alloc ?_ _)); exact BK366.out)) : gb381 ≠ gb366)); clear HO_4; clear BK366; clear HB; have HO_4 := n0_; have BK366 := n1_; have HB := n2_; have BK381 := n3_; have GW381 := n4_; have GE381 := n5_; have NB366_381 := n6_; have NB381_366 := n7_; clear n0_ n1_ n2_ n3_ n4_ n5_ n6_ n7_; clear hb hbox hg; have hnb57 := NB381_366.out; have hnc57 := NB366_381.out; have hcz58_0 : w56.cell? ⟨gb381, 0, none⟩ = some (.int .i64 0) := (blk_cell BK381.out 0).trans rfl; have hcz58_1 : w56.cell? ⟨gb381, 1, none⟩ = some (.string (⟨#[]⟩ : ByteArray)) := (blk_cell BK381.out 1).trans rfl; have hcz58_2 : w56.cell? ⟨gb381, 2, none⟩ = some (.string (⟨#[]⟩ : ByteArray)) := (blk_cell BK381.out 2).trans rfl; have hcz58_3 : w56.cell? ⟨gb381, 3, none⟩ = some (.string (⟨#[]⟩ : ByteArray)) := (blk_cell BK381.out 3).trans rfl; have hcz58_4 : w56.cell? ⟨gb381, 4, none⟩ = some (.slice none 0 0) := (blk_cell BK381.out 4).trans rfl; have hcz58_5 : w56.cell? ⟨gb381, 5, none⟩ = some (.slice none 0 0) := (blk_cell BK381.out 5).trans rfl; have hcz58_6 : w56.cell? ⟨gb381, 6, none⟩ = some (.slice none 0 0) := (blk_cell BK381.out 6).trans rfl; have hcz58_7 : w56.cell? ⟨gb381, 7, none⟩ = some (.slice none 0 0) := (blk_cell BK381.out 7).trans rfl; have hfz58_0 := blk_frozen BK381.out 0; have hfz58_1 := blk_frozen BK381.out 1; have hfz58_2 := blk_frozen BK381.out 2; have hfz58_3 := blk_frozen BK381.out 3; have hfz58_4 := blk_frozen BK381.out 4; have hfz58_5 := blk_frozen BK381.out 5; have hfz58_6 := blk_frozen BK381.out 6; have hfz58_7 := blk_frozen BK381.out 7; obtain ⟨Ao59, co59, eo59⟩ := Kd.R_slice HO_4.out; subst eo59) | (go_at_call 21; (with_reducible refine (w05_in.calls k3 _ _ t371 ((rd_T46 ((rd_T32 l0_0 x3_1).f2) x7_3).f1) true _ ?side1 ?side2 A52.out).mono ?_); (case side1 => refine (Kd.R_reads' (e := 9) (base := w.heap.size) (ok := fun k_ => True) (n := t371.length) (c := co59) ?_).2.2; exact (by (with_reducible repeat (first | apply Kd.R_alloc | apply Kd.R_drewN | apply Kd.R_drew)); exact (Kd.R_mono (Kd.R_far (p := ⟨gb381, 7, none⟩) (Kd.R_far (p := ⟨gb381, 6, none⟩) (Kd.R_far (p := ⟨gb381, 5, none⟩) (Kd.R_far (p := ⟨gb381, 4, none⟩) (Kd.R_far (p := ⟨gb381, 3, none⟩) (Kd.R_far (p := ⟨gb381, 2, none⟩) (Kd.R_far (p := ⟨gb381, 1, none⟩) (Kd.R_far (p := ⟨gb381, 0, none⟩) (Kd.R_types HO_4.out BK381.out (by decide)) (fun _ hk => hk.2) (.int .i64 ((rd_T46 ((rd_T32 l0_0 x3_1).f2) x7_3).f0))) (fun _ hk => hk.2) (.string ((rd_T46 ((rd_T32 l0_0 x3_1).f2) x7_3).f1))) (fun _ hk => hk.2) (.string ((rd_T46 ((rd_T32 l0_0 x3_1).f2) x7_3).f2))) (fun _ hk => hk.2) (.string ((rd_T46 ((rd_T32 l0_0 x3_1).f2) x7_3).f3))) (fun _ hk => hk.2) (.slice A380_4 ((rd_T46 ((rd_T32 l0_0 x3_1).f2) x7_3).f4).length c380_4)) (fun _ hk => hk.2) (.slice A380_5 ((rd_T46 ((rd_T32 l0_0 x3_1).f2) x7_3).f5).length c380_5)) (fun _ hk => hk.2) (.slice A380_6 ((rd_T46 ((rd_T32 l0_0 x3_1).f2) x7_3).f6).length c380_6)) (fun _ hk => hk.2) (.slice A380_7 ((rd_T46 ((rd_T32 l0_0 x3_1).f2) x7_3).f7).length c380_7)) (fun _ h_ => h_.1)))); (case side2 => exact (Kd.R_reads' HO_4.out).2.1); rintro e w' ⟨rfl, ⟨nd, rfl⟩⟩))
                    go_roundg k3
                    case measure => have := HK1.out; have := HK2.out; have := HK3.out; omega
                    case rel => exact ⟨(wrap64 (x7_3 + 1)), (by first | rfl | (simp; done) | (simp [*]; done)), H', ⟨by have := HK1.out; have := HK2.out; have := HK3.out; omega⟩, ⟨by (with_reducible repeat (first | apply Kd.R_alloc | apply Kd.R_drewN | apply Kd.R_drew)); exact Kd.R_mono (Kd.R_far (p := ⟨gb381, 7, none⟩) (Kd.R_far (p := ⟨gb381, 6, none⟩) (Kd.R_far (p := ⟨gb381, 5, none⟩) (Kd.R_far (p := ⟨gb381, 4, none⟩) (Kd.R_far (p := ⟨gb381, 3, none⟩) (Kd.R_far (p := ⟨gb381, 2, none⟩) (Kd.R_far (p := ⟨gb381, 1, none⟩) (Kd.R_far (p := ⟨gb381, 0, none⟩) (Kd.R_types HO_4.out BK381.out (by decide)) (fun _ hk => hk.2) (.int .i64 ((rd_T46 ((rd_T32 l0_0 x3_1).f2) x7_3).f0))) (fun _ hk => hk.2) (.string ((rd_T46 ((rd_T32 l0_0 x3_1).f2) x7_3).f1))) (fun _ hk => hk.2) (.string ((rd_T46 ((rd_T32 l0_0 x3_1).f2) x7_3).f2))) (fun _ hk => hk.2) (.string ((rd_T46 ((rd_T32 l0_0 x3_1).f2) x7_3).f3))) (fun _ hk => hk.2) (.slice A380_4 ((rd_T46 ((rd_T32 l0_0 x3_1).f2) x7_3).f4).length c380_4)) (fun _ hk => hk.2) (.slice A380_5 ((rd_T46 ((rd_T32 l0_0 x3_1).f2) x7_3).f5).length c380_5)) (fun _ hk => hk.2) (.slice A380_6 ((rd_T46 ((rd_T32 l0_0 x3_1).f2) x7_3).f6).length c380_6)) (fun _ hk => hk.2) (.slice A380_7 ((rd_T46 ((rd_T32 l0_0 x3_1).f2) x7_3).f7).length c380_7)) (fun _ hk => trivial)⟩, ⟨by (with_reducible repeat (first | refine blk_drewN ?_ _ | refine blk_drew ?_ | refine blk_alloc ?_ _)); refine blk_far ?_ NB366_381.out _; (with_reducible repeat (first | refine blk_drewN ?_ _ | refine blk_drew ?_ | refine blk_alloc ?_ _)); refine blk_far ?_ NB366_381.out _; (with_reducible repeat (first | refine blk_drewN ?_ _ | refine blk_drew ?_ | refine blk_alloc ?_ _)); refine blk_far ?_ NB366_381.out _; (with_reducible repeat (first | refine blk_drewN ?_ _ | refine blk_drew ?_ | refine blk_alloc ?_ _)); refine blk_far ?_ NB366_381.out _; (with_reducible repeat (first | refine blk_drewN ?_ _ | refine blk_drew ?_ | refine blk_alloc ?_ _)); refine blk_far ?_ NB366_381.out _; (with_reducible repeat (first | refine blk_drewN ?_ _ | refine blk_drew ?_ | refine blk_alloc ?_ _)); refine blk_far ?_ NB366_381.out _; (with_reducible repeat (first | refine blk_drewN ?_ _ | refine blk_drew ?_ | refine blk_alloc ?_ _)); refine blk_far ?_ NB366_381.out _; (with_reducible repeat (first | refine blk_drewN ?_ _ | refine blk_drew ?_ | refine blk_alloc ?_ _)); refine blk_far ?_ NB366_381.out _; (with_reducible repeat (first | refine blk_drewN ?_ _ | refine blk_drew ?_ | refine blk_alloc ?_ _)); exact BK366.out⟩, ⟨by repeat (first | (with_reducible first | exact HB.out | apply below_alloc | apply pw_below_drewN | apply below_drew1 | refine below_set ?_ GE366.out | refine below_set ?_ GE381.out) | exact HB.out)⟩⟩
                   ·rw [if_neg c54] at H
                    have c54b0 : (((rd_T46 ((rd_T32 l0_0 x3_1).f2) x7_3).f2).toList == ([] : List UInt8)) = false := beq_eq_false_iff_ne.mpr c54
                    have c54b1 : (((rd_T46 ((rd_T32 l0_0 x3_1).f2) x7_3).f2).toList != ([] : List UInt8)) = true := bne_iff_ne.mpr c54
                    replace H := Option.bind_eq_some_iff.mp H
                    obtain ⟨t384, A600, H⟩ := H
                    replace H : (if t384 = true then (w05_ResolveParams.l2 k3 x3_1 t371 (wrap64 (x7_3 + 1)) l0_0) else (some false)) = some r := H
                    have A60 := Aside0.mk A600
                    clear A600
                    by_cases c61 : t384 = true
                    ·subst c61
                     have H1 : (w05_ResolveParams.l2 k3 x3_1 t371 (wrap64 (x7_3 + 1)) l0_0) = some r := by rw [if_pos rfl] at H; exact H
                     clear H
                     have H := H1
                     clear H1
                     have H' := Aside0.mk H
                     clear H
                     have hcz62_0 : wr.cell? ⟨gb366, 0, none⟩ = some (.slice (some ad370) l0_0.length c0_0) := (blk_cell BK366.out 0).trans rfl
                     have hfz62_0 := blk_frozen BK366.out 0
                     have p378 : 0 ≤ (x3_1 : Int) := of_decide_eq_true (by first | (with_reducible assumption) | assumption)
                     have q378 : x3_1 < (l0_0.length : Int) := of_decide_eq_true (by first | (with_reducible assumption) | assumption)
                     obtain ⟨ad378, A378_1, c378_1, A378_2, c378_2, e378, hx378_0, hx378_1, hx378_2, hl378_1, hi378_1, hl378_2, hi378_2⟩ := at_T32 HR0_0.out x3_1 p378 q378
                     obtain rfl : ad370 = ad378 := (by injection e378)
                     replace hx378_0 := (HB.out.cell (World.block_lt_of_cell? w _ hx378_0)).trans hx378_0
                     replace hx378_1 := (HB.out.cell (World.block_lt_of_cell? w _ hx378_1)).trans hx378_1
                     replace hx378_2 := (HB.out.cell (World.block_lt_of_cell? w _ hx378_2)).trans hx378_2
                     have HR378_1 := Aside0.mk hi378_1
                     have HC378_1 := Aside0.mk hl378_1
                     clear hi378_1 hl378_1
                     have HR378_2 := Aside0.mk hi378_2
                     have HC378_2 := Aside0.mk hl378_2
                     clear hi378_2 hl378_2
                     replace p378 := eq_true p378
                     replace q378 := eq_true q378
                     have p379 : 0 ≤ (x3_1 : Int) := of_decide_eq_true (by first | (with_reducible assumption) | assumption)
                     have q379 : x3_1 < (l0_0.length : Int) := of_decide_eq_true (by first | (with_reducible assumption) | assumption)
                     obtain ⟨ad379, A379_1, c379_1, A379_2, c379_2, e379, hx379_0, hx379_1, hx379_2, hl379_1, hi379_1, hl379_2, hi379_2⟩ := at_T32 HR0_0.out x3_1 p379 q379
                     obtain rfl : ad370 = ad379 := (by injection e379)
                     replace hx379_0 := (HB.out.cell (World.block_lt_of_cell? w _ hx379_0)).trans hx379_0
                     replace hx379_1 := (HB.out.cell (World.block_lt_of_cell? w _ hx379_1)).trans hx379_1
                     replace hx379_2 := (HB.out.cell (World.block_lt_of_cell? w _ hx379_2)).trans hx379_2
                     have HR379_1 := Aside0.mk hi379_1
                     have HC379_1 := Aside0.mk hl379_1
                     clear hi379_1 hl379_1
                     have HR379_2 := Aside0.mk hi379_2
                     have HC379_2 := Aside0.mk hl379_2
                     clear hi379_2 hl379_2
                     replace p379 := eq_true p379
                     replace q379 := eq_true q379
                     have ea_ := Option.some.inj (hx378_1.symm.trans hx379_1)
                     injection ea_ with ea_ en_ ec_
                     subst ea_
                     subst ec_
                     clear en_
                     have ea_ := Option.some.inj (hx378_2.symm.trans hx379_2)
                     injection ea_ with ea_ en_ ec_
                     subst ea_
                     subst ec_
                     clear en_
                     have p380 : 0 ≤ (x7_3 : Int) := of_decide_eq_true (by first | (with_reducible assumption) | assumption)
                     have q380 : x7_3 < (((rd_T32 l0_0 x3_1).f2).length : Int) := of_decide_eq_true (by first | (with_reducible assumption) | assumption)
                     obtain ⟨ad380, A380_4, c380_4, A380_5, c380_5, A380_6, c380_6, A380_7, c380_7, e380, hx380_0, hx380_1, hx380_2, hx380_3, hx380_4, hx380_5, hx380_6, hx380_7, hl380_4, hi380_4, hl380_5, hi380_5, hl380_6, hi380_6, hl380_7, hi380_7⟩ := at_T46 HR379_2.out x7_3 p380 q380
                     cases e380
                     replace hx380_0 := (HB.out.cell (World.block_lt_of_cell? w _ hx380_0)).trans hx380_0
                     replace hx380_1 := (HB.out.cell (World.block_lt_of_cell? w _ hx380_1)).trans hx380_1
                     replace hx380_2 := (HB.out.cell (World.block_lt_of_cell? w _ hx380_2)).trans hx380_2
                     replace hx380_3 := (HB.out.cell (World.block_lt_of_cell? w _ hx380_3)).trans hx380_3
                     replace hx380_4 := (HB.out.cell (World.block_lt_of_cell? w _ hx380_4)).trans hx380_4
                     replace hx380_5 := (HB.out.cell (World.block_lt_of_cell? w _ hx380_5)).trans hx380_5
                     replace hx380_6 := (HB.out.cell (World.block_lt_of_cell? w _ hx380_6)).trans hx380_6
                     replace hx380_7 := (HB.out.cell (World.block_lt_of_cell? w _ hx380_7)).trans hx380_7
                     have HR380_4 := Aside0.mk hi380_4
                     have HC380_4 := Aside0.mk hl380_4
                     clear hi380_4 hl380_4
                     have HR380_5 := Aside0.mk hi380_5
                     have HC380_5 := Aside0.mk hl380_5
                     clear hi380_5 hl380_5
                     have HR380_6 := Aside0.mk hi380_6
                     have HC380_6 := Aside0.mk hl380_6
                     clear hi380_6 hl380_6
                     have HR380_7 := Aside0.mk hi380_7
                     have HC380_7 := Aside0.mk hl380_7
                     clear hi380_7 hl380_7
                     replace p380 := eq_true p380
                     replace q380 := eq_true q380
                     go_wp2_with (first | ((with_reducible refine gate_dst (N := 8) rfl ?_); refine box_event ?hg (N := 8) ?hd (cs := #[.int .i64 0, .string (⟨#[]⟩ : ByteArray), .string (⟨#[]⟩ : ByteArray), .string (⟨#[]⟩ : ByteArray), .slice none 0 0, .slice none 0 0, .slice none 0 0, .slice none 0 0]) (t := 46) ?hr ?_; (case hd => rfl); (case hg => rfl); (case hr => first | (go_simp; done) | (go_simp; rfl)); intro gb381 hg w63 hbox hb; have n0_ := Aside0.mk (Kd.R_below (by (with_reducible repeat (first | apply Kd.R_alloc | apply Kd.R_drewN | apply Kd.R_drew)); exact HO_4.out) hb); have n1_ := Aside0.mk (blk_below (g := gb366) (o := .cells #[.slice (some ad370) l0_0.length c0_0] 24 (0, 0)) (by (with_reducible repeat (first | refine blk_drewN ?_ _ | refine blk_drew ?_ | refine blk_alloc ?_ _)); exact BK366.out) hb); have n2_ := Aside0.mk (below_step (by repeat (first | (with_reducible first | exact HB.out | apply below_alloc | apply pw_below_drewN | apply below_drew1 | refine below_set ?_ GE366.out) | exact HB.out)) hb); have n3_ := Aside0.mk (hbox); have n4_ := Aside0.mk ((by rw [hg]; exact (below_size (by repeat (first | (with_reducible first | exact HB.out | apply below_alloc | apply pw_below_drewN | apply below_drew1 | refine below_set ?_ GE366.out) | exact HB.out))) : w.heap.size ≤ gb381)); have n5_ := Aside0.mk ((by rw [hg]; exact (below_size (by repeat (first | (with_reducible first | exact HB.out | apply below_alloc | apply pw_below_drewN | apply below_drew1 | refine below_set ?_ GE366.out) | exact HB.out))) : w.heap.size ≤ gb381)); have n6_ := Aside0.mk ((by rw [hg]; exact Nat.ne_of_lt (blk_lt (g := gb366) (o := .cells #[.slice (some ad370) l0_0.length c0_0] 24 (0, 0)) (by (with_reducible repeat (first | refine blk_drewN ?_ _ | refine blk_drew ?_ | refine blk_alloc ?_ _)); exact BK366.out)) : gb366 ≠ gb381)); have n7_ := Aside0.mk ((by rw [hg]; exact Nat.ne_of_gt (blk_lt (g := gb366) (o := .cells #[.slice (some ad370) l0_0.length c0_0] 24 (0, 0)) (by (with_reducible repeat (first | refine blk_drewN ?_ _ | refine blk_drew ?_ | refine blk_alloc ?_ _)); exact BK366.out)) : gb381 ≠ gb366)); clear HO_4; clear BK366; clear HB; have HO_4 := n0_; have BK366 := n1_; have HB := n2_; have BK381 := n3_; have GW381 := n4_; have GE381 := n5_; have NB366_381 := n6_; have NB381_366 := n7_; clear n0_ n1_ n2_ n3_ n4_ n5_ n6_ n7_; clear hb hbox hg; have hnb64 := NB381_366.out; have hnc64 := NB366_381.out; have hcz65_0 : w63.cell? ⟨gb381, 0, none⟩ = some (.int .i64 0) := (blk_cell BK381.out 0).trans rfl; have hcz65_1 : w63.cell? ⟨gb381, 1, none⟩ = some (.string (⟨#[]⟩ : ByteArray)) := (blk_cell BK381.out 1).trans rfl; have hcz65_2 : w63.cell? ⟨gb381, 2, none⟩ = some (.string (⟨#[]⟩ : ByteArray)) := (blk_cell BK381.out 2).trans rfl; have hcz65_3 : w63.cell? ⟨gb381, 3, none⟩ = some (.string (⟨#[]⟩ : ByteArray)) := (blk_cell BK381.out 3).trans rfl; have hcz65_4 : w63.cell? ⟨gb381, 4, none⟩ = some (.slice none 0 0) := (blk_cell BK381.out 4).trans rfl; have hcz65_5 : w63.cell? ⟨gb381, 5, none⟩ = some (.slice none 0 0) := (blk_cell BK381.out 5).trans rfl; have hcz65_6 : w63.cell? ⟨gb381, 6, none⟩ = some (.slice none 0 0) := (blk_cell BK381.out 6).trans rfl; have hcz65_7 : w63.cell? ⟨gb381, 7, none⟩ = some (.slice none 0 0) := (blk_cell BK381.out 7).trans rfl; have hfz65_0 := blk_frozen BK381.out 0; have hfz65_1 := blk_frozen BK381.out 1; have hfz65_2 := blk_frozen BK381.out 2; have hfz65_3 := blk_frozen BK381.out 3; have hfz65_4 := blk_frozen BK381.out 4; have hfz65_5 := blk_frozen BK381.out 5; have hfz65_6 := blk_frozen BK381.out 6; have hfz65_7 := blk_frozen BK381.out 7; obtain ⟨Ao66, co66, eo66⟩ := Kd.R_slice HO_4.out; subst eo66) | (go_at_call 21; (with_reducible refine (w05_in.calls k3 _ _ t371 ((rd_T46 ((rd_T32 l0_0 x3_1).f2) x7_3).f1) true _ ?side1 ?side2 A52.out).mono ?_); (case side1 => refine (Kd.R_reads' (e := 9) (base := w.heap.size) (ok := fun k_ => True) (n := t371.length) (c := co66) ?_).2.2; exact (by (with_reducible repeat (first | apply Kd.R_alloc | apply Kd.R_drewN | apply Kd.R_drew)); exact (Kd.R_mono (Kd.R_far (p := ⟨gb381, 7, none⟩) (Kd.R_far (p := ⟨gb381, 6, none⟩) (Kd.R_far (p := ⟨gb381, 5, none⟩) (Kd.R_far (p := ⟨gb381, 4, none⟩) (Kd.R_far (p := ⟨gb381, 3, none⟩) (Kd.R_far (p := ⟨gb381, 2, none⟩) (Kd.R_far (p := ⟨gb381, 1, none⟩) (Kd.R_far (p := ⟨gb381, 0, none⟩) (Kd.R_types HO_4.out BK381.out (by decide)) (fun _ hk => hk.2) (.int .i64 ((rd_T46 ((rd_T32 l0_0 x3_1).f2) x7_3).f0))) (fun _ hk => hk.2) (.string ((rd_T46 ((rd_T32 l0_0 x3_1).f2) x7_3).f1))) (fun _ hk => hk.2) (.string ((rd_T46 ((rd_T32 l0_0 x3_1).f2) x7_3).f2))) (fun _ hk => hk.2) (.string ((rd_T46 ((rd_T32 l0_0 x3_1).f2) x7_3).f3))) (fun _ hk => hk.2) (.slice A380_4 ((rd_T46 ((rd_T32 l0_0 x3_1).f2) x7_3).f4).length c380_4)) (fun _ hk => hk.2) (.slice A380_5 ((rd_T46 ((rd_T32 l0_0 x3_1).f2) x7_3).f5).length c380_5)) (fun _ hk => hk.2) (.slice A380_6 ((rd_T46 ((rd_T32 l0_0 x3_1).f2) x7_3).f6).length c380_6)) (fun _ hk => hk.2) (.slice A380_7 ((rd_T46 ((rd_T32 l0_0 x3_1).f2) x7_3).f7).length c380_7)) (fun _ h_ => h_.1)))); (case side2 => exact (Kd.R_reads' HO_4.out).2.1); rintro e w' ⟨rfl, ⟨nd, rfl⟩⟩) | (go_at_call 21; (with_reducible refine (w05_in.calls k3 _ _ t371 ((rd_T46 ((rd_T32 l0_0 x3_1).f2) x7_3).f2) true _ ?side1 ?side2 A60.out).mono ?_); (case side1 => refine (Kd.R_reads' (e := 9) (base := w.heap.size) (ok := fun k_ => True) (n := t371.length) (c := co66) ?_).2.2; exact (by (with_reducible repeat (first | apply Kd.R_alloc | apply Kd.R_drewN | apply Kd.R_drew)); exact (Kd.R_mono (Kd.R_far (p := ⟨gb381, 7, none⟩) (Kd.R_far (p := ⟨gb381, 6, none⟩) (Kd.R_far (p := ⟨gb381, 5, none⟩) (Kd.R_far (p := ⟨gb381, 4, none⟩) (Kd.R_far (p := ⟨gb381, 3, none⟩) (Kd.R_far (p := ⟨gb381, 2, none⟩) (Kd.R_far (p := ⟨gb381, 1, none⟩) (Kd.R_far (p := ⟨gb381, 0, none⟩) (Kd.R_types HO_4.out BK381.out (by decide)) (fun _ hk => hk.2) (.int .i64 ((rd_T46 ((rd_T32 l0_0 x3_1).f2) x7_3).f0))) (fun _ hk => hk.2) (.string ((rd_T46 ((rd_T32 l0_0 x3_1).f2) x7_3).f1))) (fun _ hk => hk.2) (.string ((rd_T46 ((rd_T32 l0_0 x3_1).f2) x7_3).f2))) (fun _ hk => hk.2) (.string ((rd_T46 ((rd_T32 l0_0 x3_1).f2) x7_3).f3))) (fun _ hk => hk.2) (.slice A380_4 ((rd_T46 ((rd_T32 l0_0 x3_1).f2) x7_3).f4).length c380_4)) (fun _ hk => hk.2) (.slice A380_5 ((rd_T46 ((rd_T32 l0_0 x3_1).f2) x7_3).f5).length c380_5)) (fun _ hk => hk.2) (.slice A380_6 ((rd_T46 ((rd_T32 l0_0 x3_1).f2) x7_3).f6).length c380_6)) (fun _ hk => hk.2) (.slice A380_7 ((rd_T46 ((rd_T32 l0_0 x3_1).f2) x7_3).f7).length c380_7)) (fun _ h_ => h_.1)))); (case side2 => exact (Kd.R_reads' HO_4.out).2.1); rintro e w' ⟨rfl, ⟨nd, rfl⟩⟩))
                     go_roundg k3
                     case measure => have := HK1.out; have := HK2.out; have := HK3.out; omega
                     case rel => exact ⟨(wrap64 (x7_3 + 1)), (by first | rfl | (simp; done) | (simp [*]; done)), H', ⟨by have := HK1.out; have := HK2.out; have := HK3.out; omega⟩, ⟨by (with_reducible repeat (first | apply Kd.R_alloc | apply Kd.R_drewN | apply Kd.R_drew)); exact Kd.R_mono (Kd.R_far (p := ⟨gb381, 7, none⟩) (Kd.R_far (p := ⟨gb381, 6, none⟩) (Kd.R_far (p := ⟨gb381, 5, none⟩) (Kd.R_far (p := ⟨gb381, 4, none⟩) (Kd.R_far (p := ⟨gb381, 3, none⟩) (Kd.R_far (p := ⟨gb381, 2, none⟩) (Kd.R_far (p := ⟨gb381, 1, none⟩) (Kd.R_far (p := ⟨gb381, 0, none⟩) (Kd.R_types HO_4.out BK381.out (by decide)) (fun _ hk => hk.2) (.int .i64 ((rd_T46 ((rd_T32 l0_0 x3_1).f2) x7_3).f0))) (fun _ hk => hk.2) (.string ((rd_T46 ((rd_T32 l0_0 x3_1).f2) x7_3).f1))) (fun _ hk => hk.2) (.string ((rd_T46 ((rd_T32 l0_0 x3_1).f2) x7_3).f2))) (fun _ hk => hk.2) (.string ((rd_T46 ((rd_T32 l0_0 x3_1).f2) x7_3).f3))) (fun _ hk => hk.2) (.slice A380_4 ((rd_T46 ((rd_T32 l0_0 x3_1).f2) x7_3).f4).length c380_4)) (fun _ hk => hk.2) (.slice A380_5 ((rd_T46 ((rd_T32 l0_0 x3_1).f2) x7_3).f5).length c380_5)) (fun _ hk => hk.2) (.slice A380_6 ((rd_T46 ((rd_T32 l0_0 x3_1).f2) x7_3).f6).length c380_6)) (fun _ hk => hk.2) (.slice A380_7 ((rd_T46 ((rd_T32 l0_0 x3_1).f2) x7_3).f7).length c380_7)) (fun _ hk => trivial)⟩, ⟨by (with_reducible repeat (first | refine blk_drewN ?_ _ | refine blk_drew ?_ | refine blk_alloc ?_ _)); refine blk_far ?_ NB366_381.out _; (with_reducible repeat (first | refine blk_drewN ?_ _ | refine blk_drew ?_ | refine blk_alloc ?_ _)); refine blk_far ?_ NB366_381.out _; (with_reducible repeat (first | refine blk_drewN ?_ _ | refine blk_drew ?_ | refine blk_alloc ?_ _)); refine blk_far ?_ NB366_381.out _; (with_reducible repeat (first | refine blk_drewN ?_ _ | refine blk_drew ?_ | refine blk_alloc ?_ _)); refine blk_far ?_ NB366_381.out _; (with_reducible repeat (first | refine blk_drewN ?_ _ | refine blk_drew ?_ | refine blk_alloc ?_ _)); refine blk_far ?_ NB366_381.out _; (with_reducible repeat (first | refine blk_drewN ?_ _ | refine blk_drew ?_ | refine blk_alloc ?_ _)); refine blk_far ?_ NB366_381.out _; (with_reducible repeat (first | refine blk_drewN ?_ _ | refine blk_drew ?_ | refine blk_alloc ?_ _)); refine blk_far ?_ NB366_381.out _; (with_reducible repeat (first | refine blk_drewN ?_ _ | refine blk_drew ?_ | refine blk_alloc ?_ _)); refine blk_far ?_ NB366_381.out _; (with_reducible repeat (first | refine blk_drewN ?_ _ | refine blk_drew ?_ | refine blk_alloc ?_ _)); exact BK366.out⟩, ⟨by repeat (first | (with_reducible first | exact HB.out | apply below_alloc | apply pw_below_drewN | apply below_drew1 | refine below_set ?_ GE366.out | refine below_set ?_ GE381.out) | exact HB.out)⟩⟩
                    ·replace c61 := Bool.eq_false_iff.mpr c61
                     subst c61
                     have H1 : (some false) = some r := by rw [if_neg (show ¬ (false = true) by decide)] at H; exact H
                     clear H
                     have H := H1
                     clear H1
                     obtain rfl := Option.some.inj H
                     have hcz67_0 : wr.cell? ⟨gb366, 0, none⟩ = some (.slice (some ad370) l0_0.length c0_0) := (blk_cell BK366.out 0).trans rfl
                     have hfz67_0 := blk_frozen BK366.out 0
                     have p378 : 0 ≤ (x3_1 : Int) := of_decide_eq_true (by first | (with_reducible assumption) | assumption)
                     have q378 : x3_1 < (l0_0.length : Int) := of_decide_eq_true (by first | (with_reducible assumption) | assumption)
                     obtain ⟨ad378, A378_1, c378_1, A378_2, c378_2, e378, hx378_0, hx378_1, hx378_2, hl378_1, hi378_1, hl378_2, hi378_2⟩ := at_T32 HR0_0.out x3_1 p378 q378
                     obtain rfl : ad370 = ad378 := (by injection e378)
                     replace hx378_0 := (HB.out.cell (World.block_lt_of_cell? w _ hx378_0)).trans hx378_0
                     replace hx378_1 := (HB.out.cell (World.block_lt_of_cell? w _ hx378_1)).trans hx378_1
                     replace hx378_2 := (HB.out.cell (World.block_lt_of_cell? w _ hx378_2)).trans hx378_2
                     have HR378_1 := Aside0.mk hi378_1
                     have HC378_1 := Aside0.mk hl378_1
                     clear hi378_1 hl378_1
                     have HR378_2 := Aside0.mk hi378_2
                     have HC378_2 := Aside0.mk hl378_2
                     clear hi378_2 hl378_2
                     replace p378 := eq_true p378
                     replace q378 := eq_true q378
                     have p379 : 0 ≤ (x3_1 : Int) := of_decide_eq_true (by first | (with_reducible assumption) | assumption)
                     have q379 : x3_1 < (l0_0.length : Int) := of_decide_eq_true (by first | (with_reducible assumption) | assumption)
                     obtain ⟨ad379, A379_1, c379_1, A379_2, c379_2, e379, hx379_0, hx379_1, hx379_2, hl379_1, hi379_1, hl379_2, hi379_2⟩ := at_T32 HR0_0.out x3_1 p379 q379
                     obtain rfl : ad370 = ad379 := (by injection e379)
                     replace hx379_0 := (HB.out.cell (World.block_lt_of_cell? w _ hx379_0)).trans hx379_0
                     replace hx379_1 := (HB.out.cell (World.block_lt_of_cell? w _ hx379_1)).trans hx379_1
                     replace hx379_2 := (HB.out.cell (World.block_lt_of_cell? w _ hx379_2)).trans hx379_2
                     have HR379_1 := Aside0.mk hi379_1
                     have HC379_1 := Aside0.mk hl379_1
                     clear hi379_1 hl379_1
                     have HR379_2 := Aside0.mk hi379_2
                     have HC379_2 := Aside0.mk hl379_2
                     clear hi379_2 hl379_2
                     replace p379 := eq_true p379
                     replace q379 := eq_true q379
                     have ea_ := Option.some.inj (hx378_1.symm.trans hx379_1)
                     injection ea_ with ea_ en_ ec_
                     subst ea_
                     subst ec_
                     clear en_
                     have ea_ := Option.some.inj (hx378_2.symm.trans hx379_2)
                     injection ea_ with ea_ en_ ec_
                     subst ea_
                     subst ec_
                     clear en_
                     have p380 : 0 ≤ (x7_3 : Int) := of_decide_eq_true (by first | (with_reducible assumption) | assumption)
                     have q380 : x7_3 < (((rd_T32 l0_0 x3_1).f2).length : Int) := of_decide_eq_true (by first | (with_reducible assumption) | assumption)
                     obtain ⟨ad380, A380_4, c380_4, A380_5, c380_5, A380_6, c380_6, A380_7, c380_7, e380, hx380_0, hx380_1, hx380_2, hx380_3, hx380_4, hx380_5, hx380_6, hx380_7, hl380_4, hi380_4, hl380_5, hi380_5, hl380_6, hi380_6, hl380_7, hi380_7⟩ := at_T46 HR379_2.out x7_3 p380 q380
                     cases e380
                     replace hx380_0 := (HB.out.cell (World.block_lt_of_cell? w _ hx380_0)).trans hx380_0
                     replace hx380_1 := (HB.out.cell (World.block_lt_of_cell? w _ hx380_1)).trans hx380_1
                     replace hx380_2 := (HB.out.cell (World.block_lt_of_cell? w _ hx380_2)).trans hx380_2
                     replace hx380_3 := (HB.out.cell (World.block_lt_of_cell? w _ hx380_3)).trans hx380_3
                     replace hx380_4 := (HB.out.cell (World.block_lt_of_cell? w _ hx380_4)).trans hx380_4
                     replace hx380_5 := (HB.out.cell (World.block_lt_of_cell? w _ hx380_5)).trans hx380_5
                     replace hx380_6 := (HB.out.cell (World.block_lt_of_cell? w _ hx380_6)).trans hx380_6
                     replace hx380_7 := (HB.out.cell (World.block_lt_of_cell? w _ hx380_7)).trans hx380_7
                     have HR380_4 := Aside0.mk hi380_4
                     have HC380_4 := Aside0.mk hl380_4
                     clear hi380_4 hl380_4
                     have HR380_5 := Aside0.mk hi380_5
                     have HC380_5 := Aside0.mk hl380_5
                     clear hi380_5 hl380_5
                     have HR380_6 := Aside0.mk hi380_6
                     have HC380_6 := Aside0.mk hl380_6
                     clear hi380_6 hl380_6
                     have HR380_7 := Aside0.mk hi380_7
                     have HC380_7 := Aside0.mk hl380_7
                     clear hi380_7 hl380_7
                     replace p380 := eq_true p380
                     replace q380 := eq_true q380
                     go_wp2_with (first | ((with_reducible refine gate_dst (N := 8) rfl ?_); refine box_event ?hg (N := 8) ?hd (cs := #[.int .i64 0, .string (⟨#[]⟩ : ByteArray), .string (⟨#[]⟩ : ByteArray), .string (⟨#[]⟩ : ByteArray), .slice none 0 0, .slice none 0 0, .slice none 0 0, .slice none 0 0]) (t := 46) ?hr ?_; (case hd => rfl); (case hg => rfl); (case hr => first | (go_simp; done) | (go_simp; rfl)); intro gb381 hg w68 hbox hb; have n0_ := Aside0.mk (Kd.R_below (by (with_reducible repeat (first | apply Kd.R_alloc | apply Kd.R_drewN | apply Kd.R_drew)); exact HO_4.out) hb); have n1_ := Aside0.mk (blk_below (g := gb366) (o := .cells #[.slice (some ad370) l0_0.length c0_0] 24 (0, 0)) (by (with_reducible repeat (first | refine blk_drewN ?_ _ | refine blk_drew ?_ | refine blk_alloc ?_ _)); exact BK366.out) hb); have n2_ := Aside0.mk (below_step (by repeat (first | (with_reducible first | exact HB.out | apply below_alloc | apply pw_below_drewN | apply below_drew1 | refine below_set ?_ GE366.out) | exact HB.out)) hb); have n3_ := Aside0.mk (hbox); have n4_ := Aside0.mk ((by rw [hg]; exact (below_size (by repeat (first | (with_reducible first | exact HB.out | apply below_alloc | apply pw_below_drewN | apply below_drew1 | refine below_set ?_ GE366.out) | exact HB.out))) : w.heap.size ≤ gb381)); have n5_ := Aside0.mk ((by rw [hg]; exact (below_size (by repeat (first | (with_reducible first | exact HB.out | apply below_alloc | apply pw_below_drewN | apply below_drew1 | refine below_set ?_ GE366.out) | exact HB.out))) : w.heap.size ≤ gb381)); have n6_ := Aside0.mk ((by rw [hg]; exact Nat.ne_of_lt (blk_lt (g := gb366) (o := .cells #[.slice (some ad370) l0_0.length c0_0] 24 (0, 0)) (by (with_reducible repeat (first | refine blk_drewN ?_ _ | refine blk_drew ?_ | refine blk_alloc ?_ _)); exact BK366.out)) : gb366 ≠ gb381)); have n7_ := Aside0.mk ((by rw [hg]; exact Nat.ne_of_gt (blk_lt (g := gb366) (o := .cells #[.slice (some ad370) l0_0.length c0_0] 24 (0, 0)) (by (with_reducible repeat (first | refine blk_drewN ?_ _ | refine blk_drew ?_ | refine blk_alloc ?_ _)); exact BK366.out)) : gb381 ≠ gb366)); clear HO_4; clear BK366; clear HB; have HO_4 := n0_; have BK366 := n1_; have HB := n2_; have BK381 := n3_; have GW381 := n4_; have GE381 := n5_; have NB366_381 := n6_; have NB381_366 := n7_; clear n0_ n1_ n2_ n3_ n4_ n5_ n6_ n7_; clear hb hbox hg; have hnb69 := NB381_366.out; have hnc69 := NB366_381.out; have hcz70_0 : w68.cell? ⟨gb381, 0, none⟩ = some (.int .i64 0) := (blk_cell BK381.out 0).trans rfl; have hcz70_1 : w68.cell? ⟨gb381, 1, none⟩ = some (.string (⟨#[]⟩ : ByteArray)) := (blk_cell BK381.out 1).trans rfl; have hcz70_2 : w68.cell? ⟨gb381, 2, none⟩ = some (.string (⟨#[]⟩ : ByteArray)) := (blk_cell BK381.out 2).trans rfl; have hcz70_3 : w68.cell? ⟨gb381, 3, none⟩ = some (.string (⟨#[]⟩ : ByteArray)) := (blk_cell BK381.out 3).trans rfl; have hcz70_4 : w68.cell? ⟨gb381, 4, none⟩ = some (.slice none 0 0) := (blk_cell BK381.out 4).trans rfl; have hcz70_5 : w68.cell? ⟨gb381, 5, none⟩ = some (.slice none 0 0) := (blk_cell BK381.out 5).trans rfl; have hcz70_6 : w68.cell? ⟨gb381, 6, none⟩ = some (.slice none 0 0) := (blk_cell BK381.out 6).trans rfl; have hcz70_7 : w68.cell? ⟨gb381, 7, none⟩ = some (.slice none 0 0) := (blk_cell BK381.out 7).trans rfl; have hfz70_0 := blk_frozen BK381.out 0; have hfz70_1 := blk_frozen BK381.out 1; have hfz70_2 := blk_frozen BK381.out 2; have hfz70_3 := blk_frozen BK381.out 3; have hfz70_4 := blk_frozen BK381.out 4; have hfz70_5 := blk_frozen BK381.out 5; have hfz70_6 := blk_frozen BK381.out 6; have hfz70_7 := blk_frozen BK381.out 7; obtain ⟨Ao71, co71, eo71⟩ := Kd.R_slice HO_4.out; subst eo71) | (go_at_call 21; (with_reducible refine (w05_in.calls k3 _ _ t371 ((rd_T46 ((rd_T32 l0_0 x3_1).f2) x7_3).f1) true _ ?side1 ?side2 A52.out).mono ?_); (case side1 => refine (Kd.R_reads' (e := 9) (base := w.heap.size) (ok := fun k_ => True) (n := t371.length) (c := co71) ?_).2.2; exact (by (with_reducible repeat (first | apply Kd.R_alloc | apply Kd.R_drewN | apply Kd.R_drew)); exact (Kd.R_mono (Kd.R_far (p := ⟨gb381, 7, none⟩) (Kd.R_far (p := ⟨gb381, 6, none⟩) (Kd.R_far (p := ⟨gb381, 5, none⟩) (Kd.R_far (p := ⟨gb381, 4, none⟩) (Kd.R_far (p := ⟨gb381, 3, none⟩) (Kd.R_far (p := ⟨gb381, 2, none⟩) (Kd.R_far (p := ⟨gb381, 1, none⟩) (Kd.R_far (p := ⟨gb381, 0, none⟩) (Kd.R_types HO_4.out BK381.out (by decide)) (fun _ hk => hk.2) (.int .i64 ((rd_T46 ((rd_T32 l0_0 x3_1).f2) x7_3).f0))) (fun _ hk => hk.2) (.string ((rd_T46 ((rd_T32 l0_0 x3_1).f2) x7_3).f1))) (fun _ hk => hk.2) (.string ((rd_T46 ((rd_T32 l0_0 x3_1).f2) x7_3).f2))) (fun _ hk => hk.2) (.string ((rd_T46 ((rd_T32 l0_0 x3_1).f2) x7_3).f3))) (fun _ hk => hk.2) (.slice A380_4 ((rd_T46 ((rd_T32 l0_0 x3_1).f2) x7_3).f4).length c380_4)) (fun _ hk => hk.2) (.slice A380_5 ((rd_T46 ((rd_T32 l0_0 x3_1).f2) x7_3).f5).length c380_5)) (fun _ hk => hk.2) (.slice A380_6 ((rd_T46 ((rd_T32 l0_0 x3_1).f2) x7_3).f6).length c380_6)) (fun _ hk => hk.2) (.slice A380_7 ((rd_T46 ((rd_T32 l0_0 x3_1).f2) x7_3).f7).length c380_7)) (fun _ h_ => h_.1)))); (case side2 => exact (Kd.R_reads' HO_4.out).2.1); rintro e w' ⟨rfl, ⟨nd, rfl⟩⟩) | (go_at_call 21; (with_reducible refine (w05_in.calls k3 _ _ t371 ((rd_T46 ((rd_T32 l0_0 x3_1).f2) x7_3).f2) false _ ?side1 ?side2 A60.out).mono ?_); (case side1 => refine (Kd.R_reads' (e := 9) (base := w.heap.size) (ok := fun k_ => True) (n := t371.length) (c := co71) ?_).2.2; exact (by (with_reducible repeat (first | apply Kd.R_alloc | apply Kd.R_drewN | apply Kd.R_drew)); exact (Kd.R_mono (Kd.R_far (p := ⟨gb381, 7, none⟩) (Kd.R_far (p := ⟨gb381, 6, none⟩) (Kd.R_far (p := ⟨gb381, 5, none⟩) (Kd.R_far (p := ⟨gb381, 4, none⟩) (Kd.R_far (p := ⟨gb381, 3, none⟩) (Kd.R_far (p := ⟨gb381, 2, none⟩) (Kd.R_far (p := ⟨gb381, 1, none⟩) (Kd.R_far (p := ⟨gb381, 0, none⟩) (Kd.R_types HO_4.out BK381.out (by decide)) (fun _ hk => hk.2) (.int .i64 ((rd_T46 ((rd_T32 l0_0 x3_1).f2) x7_3).f0))) (fun _ hk => hk.2) (.string ((rd_T46 ((rd_T32 l0_0 x3_1).f2) x7_3).f1))) (fun _ hk => hk.2) (.string ((rd_T46 ((rd_T32 l0_0 x3_1).f2) x7_3).f2))) (fun _ hk => hk.2) (.string ((rd_T46 ((rd_T32 l0_0 x3_1).f2) x7_3).f3))) (fun _ hk => hk.2) (.slice A380_4 ((rd_T46 ((rd_T32 l0_0 x3_1).f2) x7_3).f4).length c380_4)) (fun _ hk => hk.2) (.slice A380_5 ((rd_T46 ((rd_T32 l0_0 x3_1).f2) x7_3).f5).length c380_5)) (fun _ hk => hk.2) (.slice A380_6 ((rd_T46 ((rd_T32 l0_0 x3_1).f2) x7_3).f6).length c380_6)) (fun _ hk => hk.2) (.slice A380_7 ((rd_T46 ((rd_T32 l0_0 x3_1).f2) x7_3).f7).length c380_7)) (fun _ h_ => h_.1)))); (case side2 => exact (Kd.R_reads' HO_4.out).2.1); rintro e w' ⟨rfl, ⟨nd, rfl⟩⟩))
                     go_ret
                     exact ⟨by first | rfl | (simp [errW_none, errW_some] <;> rfl) | (simp [*, errW_none, errW_some] <;> rfl), by repeat (first | (with_reducible first | exact HB.out | apply below_alloc | apply pw_below_drewN | apply below_drew1 | refine below_set ?_ GE366.out | refine below_set ?_ GE381.out) | exact HB.out)⟩
                  ·replace c53 := Bool.eq_false_iff.mpr c53
                   subst c53
                   have H1 : (some false) = some r := by rw [if_neg (show ¬ (false = true) by decide)] at H; exact H
                   clear H
                   have H := H1
                   clear H1
                   obtain rfl := Option.some.inj H
                   have hcz72_0 : wr.cell? ⟨gb366, 0, none⟩ = some (.slice (some ad370) l0_0.length c0_0) := (blk_cell BK366.out 0).trans rfl
                   have hfz72_0 := blk_frozen BK366.out 0
                   have p378 : 0 ≤ (x3_1 : Int) := of_decide_eq_true (by first | (with_reducible assumption) | assumption)
                   have q378 : x3_1 < (l0_0.length : Int) := of_decide_eq_true (by first | (with_reducible assumption) | assumption)
                   obtain ⟨ad378, A378_1, c378_1, A378_2, c378_2, e378, hx378_0, hx378_1, hx378_2, hl378_1, hi378_1, hl378_2, hi378_2⟩ := at_T32 HR0_0.out x3_1 p378 q378
                   obtain rfl : ad370 = ad378 := (by injection e378)
                   replace hx378_0 := (HB.out.cell (World.block_lt_of_cell? w _ hx378_0)).trans hx378_0
                   replace hx378_1 := (HB.out.cell (World.block_lt_of_cell? w _ hx378_1)).trans hx378_1
                   replace hx378_2 := (HB.out.cell (World.block_lt_of_cell? w _ hx378_2)).trans hx378_2
                   have HR378_1 := Aside0.mk hi378_1
                   have HC378_1 := Aside0.mk hl378_1
                   clear hi378_1 hl378_1
                   have HR378_2 := Aside0.mk hi378_2
                   have HC378_2 := Aside0.mk hl378_2
                   clear hi378_2 hl378_2
                   replace p378 := eq_true p378
                   replace q378 := eq_true q378
                   have p379 : 0 ≤ (x3_1 : Int) := of_decide_eq_true (by first | (with_reducible assumption) | assumption)
                   have q379 : x3_1 < (l0_0.length : Int) := of_decide_eq_true (by first | (with_reducible assumption) | assumption)
                   obtain ⟨ad379, A379_1, c379_1, A379_2, c379_2, e379, hx379_0, hx379_1, hx379_2, hl379_1, hi379_1, hl379_2, hi379_2⟩ := at_T32 HR0_0.out x3_1 p379 q379
                   obtain rfl : ad370 = ad379 := (by injection e379)
                   replace hx379_0 := (HB.out.cell (World.block_lt_of_cell? w _ hx379_0)).trans hx379_0
                   replace hx379_1 := (HB.out.cell (World.block_lt_of_cell? w _ hx379_1)).trans hx379_1
                   replace hx379_2 := (HB.out.cell (World.block_lt_of_cell? w _ hx379_2)).trans hx379_2
                   have HR379_1 := Aside0.mk hi379_1
                   have HC379_1 := Aside0.mk hl379_1
                   clear hi379_1 hl379_1
                   have HR379_2 := Aside0.mk hi379_2
                   have HC379_2 := Aside0.mk hl379_2
                   clear hi379_2 hl379_2
                   replace p379 := eq_true p379
                   replace q379 := eq_true q379
                   have ea_ := Option.some.inj (hx378_1.symm.trans hx379_1)
                   injection ea_ with ea_ en_ ec_
                   subst ea_
                   subst ec_
                   clear en_
                   have ea_ := Option.some.inj (hx378_2.symm.trans hx379_2)
                   injection ea_ with ea_ en_ ec_
                   subst ea_
                   subst ec_
                   clear en_
                   have p380 : 0 ≤ (x7_3 : Int) := of_decide_eq_true (by first | (with_reducible assumption) | assumption)
                   have q380 : x7_3 < (((rd_T32 l0_0 x3_1).f2).length : Int) := of_decide_eq_true (by first | (with_reducible assumption) | assumption)
                   obtain ⟨ad380, A380_4, c380_4, A380_5, c380_5, A380_6, c380_6, A380_7, c380_7, e380, hx380_0, hx380_1, hx380_2, hx380_3, hx380_4, hx380_5, hx380_6, hx380_7, hl380_4, hi380_4, hl380_5, hi380_5, hl380_6, hi380_6, hl380_7, hi380_7⟩ := at_T46 HR379_2.out x7_3 p380 q380
                   cases e380
                   replace hx380_0 := (HB.out.cell (World.block_lt_of_cell? w _ hx380_0)).trans hx380_0
                   replace hx380_1 := (HB.out.cell (World.block_lt_of_cell? w _ hx380_1)).trans hx380_1
                   replace hx380_2 := (HB.out.cell (World.block_lt_of_cell? w _ hx380_2)).trans hx380_2
                   replace hx380_3 := (HB.out.cell (World.block_lt_of_cell? w _ hx380_3)).trans hx380_3
                   replace hx380_4 := (HB.out.cell (World.block_lt_of_cell? w _ hx380_4)).trans hx380_4
                   replace hx380_5 := (HB.out.cell (World.block_lt_of_cell? w _ hx380_5)).trans hx380_5
                   replace hx380_6 := (HB.out.cell (World.block_lt_of_cell? w _ hx380_6)).trans hx380_6
                   replace hx380_7 := (HB.out.cell (World.block_lt_of_cell? w _ hx380_7)).trans hx380_7
                   have HR380_4 := Aside0.mk hi380_4
                   have HC380_4 := Aside0.mk hl380_4
                   clear hi380_4 hl380_4
                   have HR380_5 := Aside0.mk hi380_5
                   have HC380_5 := Aside0.mk hl380_5
                   clear hi380_5 hl380_5
                   have HR380_6 := Aside0.mk hi380_6
                   have HC380_6 := Aside0.mk hl380_6
                   clear hi380_6 hl380_6
                   have HR380_7 := Aside0.mk hi380_7
                   have HC380_7 := Aside0.mk hl380_7
                   clear hi380_7 hl380_7
                   replace p380 := eq_true p380
                   replace q380 := eq_true q380
                   go_wp2_with (first | ((with_reducible refine gate_dst (N := 8) rfl ?_); refine box_event ?hg (N := 8) ?hd (cs := #[.int .i64 0, .string (⟨#[]⟩ : ByteArray), .string (⟨#[]⟩ : ByteArray), .string (⟨#[]⟩ : ByteArray), .slice none 0 0, .slice none 0 0, .slice none 0 0, .slice none 0 0]) (t := 46) ?hr ?_; (case hd => rfl); (case hg => rfl); (case hr => first | (go_simp; done) | (go_simp; rfl)); intro gb381 hg w73 hbox hb; have n0_ := Aside0.mk (Kd.R_below (by (with_reducible repeat (first | apply Kd.R_alloc | apply Kd.R_drewN | apply Kd.R_drew)); exact HO_4.out) hb); have n1_ := Aside0.mk (blk_below (g := gb366) (o := .cells #[.slice (some ad370) l0_0.length c0_0] 24 (0, 0)) (by (with_reducible repeat (first | refine blk_drewN ?_ _ | refine blk_drew ?_ | refine blk_alloc ?_ _)); exact BK366.out) hb); have n2_ := Aside0.mk (below_step (by repeat (first | (with_reducible first | exact HB.out | apply below_alloc | apply pw_below_drewN | apply below_drew1 | refine below_set ?_ GE366.out) | exact HB.out)) hb); have n3_ := Aside0.mk (hbox); have n4_ := Aside0.mk ((by rw [hg]; exact (below_size (by repeat (first | (with_reducible first | exact HB.out | apply below_alloc | apply pw_below_drewN | apply below_drew1 | refine below_set ?_ GE366.out) | exact HB.out))) : w.heap.size ≤ gb381)); have n5_ := Aside0.mk ((by rw [hg]; exact (below_size (by repeat (first | (with_reducible first | exact HB.out | apply below_alloc | apply pw_below_drewN | apply below_drew1 | refine below_set ?_ GE366.out) | exact HB.out))) : w.heap.size ≤ gb381)); have n6_ := Aside0.mk ((by rw [hg]; exact Nat.ne_of_lt (blk_lt (g := gb366) (o := .cells #[.slice (some ad370) l0_0.length c0_0] 24 (0, 0)) (by (with_reducible repeat (first | refine blk_drewN ?_ _ | refine blk_drew ?_ | refine blk_alloc ?_ _)); exact BK366.out)) : gb366 ≠ gb381)); have n7_ := Aside0.mk ((by rw [hg]; exact Nat.ne_of_gt (blk_lt (g := gb366) (o := .cells #[.slice (some ad370) l0_0.length c0_0] 24 (0, 0)) (by (with_reducible repeat (first | refine blk_drewN ?_ _ | refine blk_drew ?_ | refine blk_alloc ?_ _)); exact BK366.out)) : gb381 ≠ gb366)); clear HO_4; clear BK366; clear HB; have HO_4 := n0_; have BK366 := n1_; have HB := n2_; have BK381 := n3_; have GW381 := n4_; have GE381 := n5_; have NB366_381 := n6_; have NB381_366 := n7_; clear n0_ n1_ n2_ n3_ n4_ n5_ n6_ n7_; clear hb hbox hg; have hnb74 := NB381_366.out; have hnc74 := NB366_381.out; have hcz75_0 : w73.cell? ⟨gb381, 0, none⟩ = some (.int .i64 0) := (blk_cell BK381.out 0).trans rfl; have hcz75_1 : w73.cell? ⟨gb381, 1, none⟩ = some (.string (⟨#[]⟩ : ByteArray)) := (blk_cell BK381.out 1).trans rfl; have hcz75_2 : w73.cell? ⟨gb381, 2, none⟩ = some (.string (⟨#[]⟩ : ByteArray)) := (blk_cell BK381.out 2).trans rfl; have hcz75_3 : w73.cell? ⟨gb381, 3, none⟩ = some (.string (⟨#[]⟩ : ByteArray)) := (blk_cell BK381.out 3).trans rfl; have hcz75_4 : w73.cell? ⟨gb381, 4, none⟩ = some (.slice none 0 0) := (blk_cell BK381.out 4).trans rfl; have hcz75_5 : w73.cell? ⟨gb381, 5, none⟩ = some (.slice none 0 0) := (blk_cell BK381.out 5).trans rfl; have hcz75_6 : w73.cell? ⟨gb381, 6, none⟩ = some (.slice none 0 0) := (blk_cell BK381.out 6).trans rfl; have hcz75_7 : w73.cell? ⟨gb381, 7, none⟩ = some (.slice none 0 0) := (blk_cell BK381.out 7).trans rfl; have hfz75_0 := blk_frozen BK381.out 0; have hfz75_1 := blk_frozen BK381.out 1; have hfz75_2 := blk_frozen BK381.out 2; have hfz75_3 := blk_frozen BK381.out 3; have hfz75_4 := blk_frozen BK381.out 4; have hfz75_5 := blk_frozen BK381.out 5; have hfz75_6 := blk_frozen BK381.out 6; have hfz75_7 := blk_frozen BK381.out 7; obtain ⟨Ao76, co76, eo76⟩ := Kd.R_slice HO_4.out; subst eo76) | (go_at_call 21; (with_reducible refine (w05_in.calls k3 _ _ t371 ((rd_T46 ((rd_T32 l0_0 x3_1).f2) x7_3).f1) false _ ?side1 ?side2 A52.out).mono ?_); (case side1 => refine (Kd.R_reads' (e := 9) (base := w.heap.size) (ok := fun k_ => True) (n := t371.length) (c := co76) ?_).2.2; exact (by (with_reducible repeat (first | apply Kd.R_alloc | apply Kd.R_drewN | apply Kd.R_drew)); exact (Kd.R_mono (Kd.R_far (p := ⟨gb381, 7, none⟩) (Kd.R_far (p := ⟨gb381, 6, none⟩) (Kd.R_far (p := ⟨gb381, 5, none⟩) (Kd.R_far (p := ⟨gb381, 4, none⟩) (Kd.R_far (p := ⟨gb381, 3, none⟩) (Kd.R_far (p := ⟨gb381, 2, none⟩) (Kd.R_far (p := ⟨gb381, 1, none⟩) (Kd.R_far (p := ⟨gb381, 0, none⟩) (Kd.R_types HO_4.out BK381.out (by decide)) (fun _ hk => hk.2) (.int .i64 ((rd_T46 ((rd_T32 l0_0 x3_1).f2) x7_3).f0))) (fun _ hk => hk.2) (.string ((rd_T46 ((rd_T32 l0_0 x3_1).f2) x7_3).f1))) (fun _ hk => hk.2) (.string ((rd_T46 ((rd_T32 l0_0 x3_1).f2) x7_3).f2))) (fun _ hk => hk.2) (.string ((rd_T46 ((rd_T32 l0_0 x3_1).f2) x7_3).f3))) (fun _ hk => hk.2) (.slice A380_4 ((rd_T46 ((rd_T32 l0_0 x3_1).f2) x7_3).f4).length c380_4)) (fun _ hk => hk.2) (.slice A380_5 ((rd_T46 ((rd_T32 l0_0 x3_1).f2) x7_3).f5).length c380_5)) (fun _ hk => hk.2) (.slice A380_6 ((rd_T46 ((rd_T32 l0_0 x3_1).f2) x7_3).f6).length c380_6)) (fun _ hk => hk.2) (.slice A380_7 ((rd_T46 ((rd_T32 l0_0 x3_1).f2) x7_3).f7).length c380_7)) (fun _ h_ => h_.1)))); (case side2 => exact (Kd.R_reads' HO_4.out).2.1); rintro e w' ⟨rfl, ⟨nd, rfl⟩⟩))
                   go_ret
                   exact ⟨by first | rfl | (simp [errW_none, errW_some] <;> rfl) | (simp [*, errW_none, errW_some] <;> rfl), by repeat (first | (with_reducible first | exact HB.out | apply below_alloc | apply pw_below_drewN | apply below_drew1 | refine below_set ?_ GE366.out | refine below_set ?_ GE381.out) | exact HB.out)⟩
                ·rw [if_neg c33] at H
                 exact absurd H (by simp)
               ·rw [if_neg c32] at H
                have c32b0 : decide (x7_3 < (((rd_T32 l0_0 x3_1).f2).length : Int)) = false := decide_eq_false c32
                clear c32
                have H' := Aside0.mk H
                clear H
                have hcz77_0 : wr.cell? ⟨gb366, 0, none⟩ = some (.slice (some ad370) l0_0.length c0_0) := (blk_cell BK366.out 0).trans rfl
                have hfz77_0 := blk_frozen BK366.out 0
                have p378 : 0 ≤ (x3_1 : Int) := of_decide_eq_true (by first | (with_reducible assumption) | assumption)
                have q378 : x3_1 < (l0_0.length : Int) := of_decide_eq_true (by first | (with_reducible assumption) | assumption)
                obtain ⟨ad378, A378_1, c378_1, A378_2, c378_2, e378, hx378_0, hx378_1, hx378_2, hl378_1, hi378_1, hl378_2, hi378_2⟩ := at_T32 HR0_0.out x3_1 p378 q378
                obtain rfl : ad370 = ad378 := (by injection e378)
                replace hx378_0 := (HB.out.cell (World.block_lt_of_cell? w _ hx378_0)).trans hx378_0
                replace hx378_1 := (HB.out.cell (World.block_lt_of_cell? w _ hx378_1)).trans hx378_1
                replace hx378_2 := (HB.out.cell (World.block_lt_of_cell? w _ hx378_2)).trans hx378_2
                have HR378_1 := Aside0.mk hi378_1
                have HC378_1 := Aside0.mk hl378_1
                clear hi378_1 hl378_1
                have HR378_2 := Aside0.mk hi378_2
                have HC378_2 := Aside0.mk hl378_2
                clear hi378_2 hl378_2
                replace p378 := eq_true p378
                replace q378 := eq_true q378
                go_wp2
                go_roundg k3
                case measure => have := HK1.out; have := HK2.out; have := HK3.out; omega
                case rel => exact ⟨(wrap64 (x3_1 + 1)), (by first | rfl | (simp; done) | (simp [*]; done)), H', ⟨by have := HK1.out; have := HK2.out; have := HK3.out; omega⟩, ⟨by (with_reducible repeat (first | refine blk_drewN ?_ _ | refine blk_drew ?_ | refine blk_alloc ?_ _)); exact BK366.out⟩, ⟨by repeat (first | (with_reducible first | exact HB.out | apply below_alloc | apply pw_below_drewN | apply below_drew1 | refine below_set ?_ GE366.out) | exact HB.out)⟩⟩
              ·rw [if_neg c31] at H
               exact absurd H (by simp)
             ·rw [if_neg c30] at H
              exact absurd H (by simp)
         ·rw [if_neg c18] at H
          exact absurd H (by simp)
        ·rw [if_neg c17] at H
         exact absurd H (by simp)
     ·rw [if_neg c13] at H
      exact absurd H (by simp)
    ·rw [if_neg c12] at H
     have c12b0 : decide (x3_1 < (l0_0.length : Int)) = false := decide_eq_false c12
     clear c12
     replace H := Option.bind_eq_some_iff.mp H
     obtain ⟨t369, A780, H⟩ := H
     replace H : (some t369) = some r := H
     have A78 := Aside0.mk A780
     clear A780
     obtain rfl := Option.some.inj H
     have hcz79_0 : wr.cell? ⟨gb366, 0, none⟩ = some (.slice A0_0 l0_0.length c0_0) := (blk_cell BK366.out 0).trans rfl
     have hfz79_0 := blk_frozen BK366.out 0
     go_wp2_with (first | ((with_reducible refine gate_callee (f := 9) rfl ?_); refine goesL_ (some 95) rfl rfl Try.func9 (by kernel_rfl) rfl #[] rfl (by (try simp only [List.map_toArray, List.map_cons, List.map_nil]); first | done | rfl | (simp only [List.length_drop, List.length_take]; rfl)) ?_; (with_reducible refine (w05_fixed.calls  t369 _ A78.out).mono ?_); rintro e w80 ⟨rfl, hb⟩; refine ⟨_, rfl, ?_⟩; have n0_ := Aside0.mk (blk_below (g := gb366) (o := .cells #[.slice A0_0 l0_0.length c0_0] 24 (0, 0)) (by (with_reducible repeat (first | refine blk_drewN ?_ _ | refine blk_drew ?_ | refine blk_alloc ?_ _)); exact BK366.out) hb); have n1_ := Aside0.mk (below_step (by repeat (first | (with_reducible first | exact HB.out | apply below_alloc | apply pw_below_drewN | apply below_drew1 | refine below_set ?_ GE366.out) | exact HB.out)) hb); clear BK366; clear HB; have BK366 := n0_; have HB := n1_; clear n0_ n1_; (try clear hb); (try clear hb2); (try clear hk); (try clear hi)))
     go_ret
     exact ⟨by first | rfl | (simp [errW_none, errW_some] <;> rfl) | (simp [*, errW_none, errW_some] <;> rfl), by repeat (first | (with_reducible first | exact HB.out | apply below_alloc | apply pw_below_drewN | apply below_drew1 | refine below_set ?_ GE366.out) | exact HB.out)⟩
end Go.Proofs.Ytjiacafeckokeaa.Pr

namespace Go.Proofs.Ytjiacafeckokeaa.Man
open Go.RowKit Go.Proofs.Ytjiacafeckokeaa.Pr Go.Proofs.YtjiacafeckokeaaW.PrintWords
set_option linter.unusedVariables false
set_option linter.unusedSimpArgs false
theorem in_ev (v : List ByteArray) (s : ByteArray) (hl : v.length ≤ 8000000000000) (h : s.data.toList ∈ v.map (·.data.toList)) : Ev (fun k => w05_in.f k v s) true := by
  suffices H : ∀ m i : Nat, i + m = v.length → s.data.toList ∈ (v.drop i).map (·.data.toList) → Ev (fun k => w05_in.l0 k v s (i : Int)) true by
    have := H v.length 0 (by omega) (by simpa using h)
    simpa [w05_in.f] using this
  intro m
  induction m with
  | zero =>
    intro i hi hm
    rw [List.drop_of_length_le (by omega)] at hm
    simp at hm
  | succ m ih =>
    intro i hi hm
    have hil : i < v.length := by omega
    have c1 : (0 : Int) ≤ (i : Int) := Int.natCast_nonneg i
    have c2 : (i : Int) < (v.length : Int) := Int.ofNat_lt.2 hil
    have hw := pzL i (Nat.le_trans (Nat.le_of_lt hil) hl)
    obtain ⟨hd, _⟩ := drop_str v i hil
    refine Ev.step ?_
    simp only [w05_in.l0, if_pos c1, if_pos c2, hw]
    by_cases he : (rdOf ByteArray.empty v (i : Int)).toList = s.toList
    · simp only [if_pos he]; exact Ev.const true
    · simp only [if_neg he]
      refine ih (i + 1) (by omega) ?_
      rw [hd, List.map_cons, List.mem_cons] at hm
      rcases hm with e | e
      · exact absurd (by rw [Lib.toList_data, Lib.toList_data]; exact e.symm) he
      · exact e
theorem flat_top (s : S46) : ∀ l : List S46, s ∈ l → s ∈ flat l := by
  intro l
  induction l with
  | nil => intro h; cases h
  | cons x r ih =>
    intro h
    rw [flat]
    rcases List.mem_cons.1 h with rfl | h
    · exact List.mem_cons_self
    · exact List.mem_cons_of_mem _ (List.mem_append.2 (.inr (List.mem_append.2 (.inr (ih h)))))
theorem in_vars (f : S32) (b : ByteArray) (hb : ¬ b.toList = ([] : List UInt8)) (h : b ∈ f.f1 ++ (flat f.f2).flatMap varG) : b.data.toList ∈ (varsF f).map (·.data.toList) := by
  unfold varsF
  rw [uniqB_names, (uniqS_spec _).2]
  exact ⟨List.mem_map.2 ⟨b, h, rfl⟩, by rw [← Lib.toList_data]; exact hb⟩
theorem params_ev (fs : List S32) (hfit : FitW fs) (hlow : LowP fs) : Ev (fun k => w05_ResolveParams.f k fs) true := by
  obtain ⟨b, hb⟩ := big_ev fs hlow
  unfold w05_ResolveParams.f
  refine Ev.bind hb ?_
  cases b with
  | true => simp only [if_true, w05_fixed.f, Option.bind_some]; exact Ev.const true
  | false =>
    simp only [Bool.false_eq_true, if_false]
    suffices h : ∀ m i : Nat, i + m = fs.length → Ev (fun k => w05_ResolveParams.l0 k (i : Int) fs) true from h fs.length 0 (by omega)
    intro m
    induction m with
    | zero =>
      intro i hi
      have hnl : ¬ ((i : Int) < (fs.length : Int)) := by rw [show i = fs.length from hi]; exact Int.lt_irrefl _
      refine Ev.step ?_
      simp only [w05_ResolveParams.l0, if_neg hnl, w05_fixed.f, Option.bind_some]
      exact Ev.const true
    | succ m ih =>
      intro i hi
      have hil : i < fs.length := by omega
      have c1 : (0 : Int) ≤ (i : Int) := Int.natCast_nonneg i
      have c2 : (i : Int) < (fs.length : Int) := Int.ofNat_lt.2 hil
      have hw := pz i (Nat.le_trans (Nat.le_of_lt hil) hfit.1.1)
      have hmem := rdF_mem hil
      have hfn := hfit.1.2 _ hmem
      have hlo := hlow.2 _ hmem
      have hvl := varsF_len _ hfn
      have hbl : (rd_T32 fs (i : Int)).f2.length ≤ 2000000 := hlo.2.2.1
      refine Ev.step ?_
      simp only [w05_ResolveParams.l0, if_pos c1, if_pos c2]
      refine Ev.bind (rvars_ev _ hfn) ?_
      have hl2 : ∀ n j : Nat, j + n = (rd_T32 fs (i : Int)).f2.length → Ev (fun k => w05_ResolveParams.l2 k (i : Int) (varsF (rd_T32 fs (i : Int))) (j : Int) fs) true := by
        intro n
        induction n with
        | zero =>
          intro j hj
          have hnl : ¬ ((j : Int) < ((rd_T32 fs (i : Int)).f2.length : Int)) := by rw [show j = _ from hj]; exact Int.lt_irrefl _
          refine Ev.step ?_
          simp only [w05_ResolveParams.l2, if_pos c1, if_pos c2, if_neg hnl, hw]
          exact ih (i + 1) (by omega)
        | succ n ihn =>
          intro j hj
          have hjl : j < (rd_T32 fs (i : Int)).f2.length := by omega
          have d1 : (0 : Int) ≤ (j : Int) := Int.natCast_nonneg j
          have d2 : (j : Int) < ((rd_T32 fs (i : Int)).f2.length : Int) := Int.ofNat_lt.2 hjl
          have hwj := pzL j (Nat.le_trans (Nat.le_of_lt hjl) (Nat.le_trans hbl (by decide)))
          have hd := rd_drop _ j hjl
          have hsm : rd_T46 (rd_T32 fs (i : Int)).f2 (j : Int) ∈ (rd_T32 fs (i : Int)).f2 := by
            have : rd_T46 (rd_T32 fs (i : Int)).f2 (j : Int) ∈ (rd_T32 fs (i : Int)).f2.drop j := by rw [hd]; exact List.mem_cons_self
            exact List.mem_of_mem_drop this
          obtain ⟨s, hs⟩ : ∃ s, s = rd_T46 (rd_T32 fs (i : Int)).f2 (j : Int) := ⟨_, rfl⟩
          rw [← hs] at hsm
          have hn := ihn (j + 1) (by omega)
          have i1 : ¬ s.f1.toList = ([] : List UInt8) → Ev (fun k => w05_in.f k (varsF (rd_T32 fs (i : Int))) s.f1) true := fun h => in_ev _ _ hvl (in_vars _ _ h (List.mem_append.2 (.inr (List.mem_flatMap.2 ⟨s, flat_top s _ hsm, by simp [varG]⟩))))
          have i2 : ¬ s.f2.toList = ([] : List UInt8) → Ev (fun k => w05_in.f k (varsF (rd_T32 fs (i : Int))) s.f2) true := fun h => in_ev _ _ hvl (in_vars _ _ h (List.mem_append.2 (.inr (List.mem_flatMap.2 ⟨s, flat_top s _ hsm, by simp [varG]⟩))))
          refine Ev.step ?_
          simp only [w05_ResolveParams.l2, if_pos c1, if_pos c2, if_pos d1, if_pos d2, ← hs, hwj]
          by_cases h1 : s.f1.toList = ([] : List UInt8)
          · simp only [if_pos h1]
            by_cases h2 : s.f2.toList = ([] : List UInt8)
            · simp only [if_pos h2]; exact hn
            · simp only [if_neg h2]
              refine Ev.bind (i2 h2) ?_
              simp only [if_true]; exact hn
          · simp only [if_neg h1]
            refine Ev.bind (i1 h1) ?_
            simp only [if_true]
            by_cases h2 : s.f2.toList = ([] : List UInt8)
            · simp only [if_pos h2]; exact hn
            · simp only [if_neg h2]
              refine Ev.bind (i2 h2) ?_
              simp only [if_true]; exact hn
      have hl1 : ∀ n j : Nat, j + n = (rd_T32 fs (i : Int)).f1.length → Ev (fun k => w05_ResolveParams.l1 k (i : Int) (varsF (rd_T32 fs (i : Int))) (j : Int) fs) true := by
        intro n
        induction n with
        | zero =>
          intro j hj
          have hnl : ¬ ((j : Int) < ((rd_T32 fs (i : Int)).f1.length : Int)) := by rw [show j = _ from hj]; exact Int.lt_irrefl _
          refine Ev.step ?_
          simp only [w05_ResolveParams.l1, if_pos c1, if_pos c2, if_neg hnl]
          exact hl2 (rd_T32 fs (i : Int)).f2.length 0 (by omega)
        | succ n ihn =>
          intro j hj
          have hjl : j < (rd_T32 fs (i : Int)).f1.length := by omega
          have d1 : (0 : Int) ≤ (j : Int) := Int.natCast_nonneg j
          have d2 : (j : Int) < ((rd_T32 fs (i : Int)).f1.length : Int) := Int.ofNat_lt.2 hjl
          have hwj := pz j (Nat.le_trans (Nat.le_of_lt hjl) hfn.1)
          obtain ⟨hd, _⟩ := drop_str _ j hjl
          have hsm : rdOf ByteArray.empty (rd_T32 fs (i : Int)).f1 (j : Int) ∈ (rd_T32 fs (i : Int)).f1 := by
            have : rdOf ByteArray.empty (rd_T32 fs (i : Int)).f1 (j : Int) ∈ (rd_T32 fs (i : Int)).f1.drop j := by rw [hd]; exact List.mem_cons_self
            exact List.mem_of_mem_drop this
          have hn := ihn (j + 1) (by omega)
          refine Ev.step ?_
          simp only [w05_ResolveParams.l1, if_pos c1, if_pos c2, if_pos d1, if_pos d2, hwj]
          by_cases h1 : (rdOf ByteArray.empty (rd_T32 fs (i : Int)).f1 (j : Int)).toList = ([] : List UInt8)
          · simp only [if_pos h1]; exact hn
          · simp only [if_neg h1]
            refine Ev.bind (in_ev _ _ hvl (in_vars _ _ h1 (List.mem_append.2 (.inl hsm)))) ?_
            simp only [if_true]; exact hn
      exact hl1 (rd_T32 fs (i : Int)).f1.length 0 (by omega)
end Go.Proofs.Ytjiacafeckokeaa.Man

namespace Go.Proofs.Ytjiacafeckokeaa.resolveParams
open Go.ChangeShapes Go.WideShapes Go.ChangeAt Go.RowKit Go.Proofs.Ytjiacafeckokeaa.Pr Go.Proofs.YtjiacafeckokeaaW.PrintWords
open Go.ChangeMaps (open_string shut_string)
set_option linter.unusedVariables false
theorem own : ownKnob Try.prog.godebug = none := by kernel_rfl
theorem laidOut : laidOutB Try.prog = true := by kernel_rfl
theorem walk (A0 : Option Addr) (c0 : Nat) (l0 : List S32) (hc0 : l0.length ≤ c0) (w : World) (hC0 : Kd.C k32 w A0 l0.length l0) (hP : Man.FitP l0 1048576) (hT : (l0.flatMap fun f => Man.flat f.f2).length ≤ 1048576) :
    Calls Try.prog 7 #[.agg #[.slice A0 l0.length c0]] w fun e w' => e = .returned (.bool true) ∧ Below w.heap.size w w' := by
  obtain ⟨k, e⟩ := Man.params_ev l0 (Man.fitW_of (by decide) hP hT) (Man.lowP_of hP (by decide))
  exact w05_ResolveParams.calls k A0 c0 l0 true w hC0 hc0 (e k (Nat.le_refl _))
set_option maxRecDepth 100000 in
set_option maxHeartbeats 4000000 in
theorem lifted (os : Os) (started : os.Started) (H : Type) (enc : TypeId × Value → H) (F : Stop.Interp) :
    ReturnsInHanded {} Try.checked os 7 .any ((Rows.OpenSpec.upto Rows.resolveParamsSpec).pre6 enc Try.prog Try.f7 Rows.resolveParamsUptoRow.domain false) (((Rows.OpenSpec.upto Rows.resolveParamsSpec).at F).post enc Try.prog Try.f7 false true false false) := by
  refine returnsInHanded_of_cond (C := Try.checked) (s := (Rows.OpenSpec.upto Rows.resolveParamsSpec)) (k := Rows.uptoSmall) rfl own started (by kernel_rfl) Try.func7
    (OpenSpec.witness (enc := enc) (C := Try.checked) (s := (Rows.OpenSpec.upto Rows.resolveParamsSpec)) (k := Rows.uptoSmall) rfl false ⟨#[], #[.agg #[.slice none 0 0]], []⟩ 8 (by kernel_rfl) (by kernel_rfl) (by kernel_rfl)
      (x := ([.agg [.nil]], [], [])) (by kernel_rfl) rfl (by kernel_rfl)) ?_
  intro W base args ds gs before hval0 hW _ hk _
  have hval : ∀ (j : Nat) t v, Try.f7.params[j]? = some t → args[j]? = some v → Value.okWide Try.prog W .any base t v := hval0
  have hW' := hW
  obtain ⟨p, q, hA0, hV, rfl, hfz, hnd⟩ := hW
  have hA : DataW.TrodAll enc Try.prog W 0 (fun _ => true) true Try.f7.params.toList args.toList ds p := hA0
  rw [Try.params7] at hA hval
  obtain ⟨v0, vs0, d0, ds0, p0, q0, hargs, rfl, rfl, h0, r0⟩ := trodAll_cons hA
  obtain ⟨rfl, rfl, rfl⟩ := trodAll_nil r0
  obtain rfl : args = #[v0] := by cases args; simp_all
  obtain ⟨rfl, rfl⟩ := trodVars_none hV
  obtain ⟨cs0, rfl, hz0⟩ := okWide_struct Try.underlying24 (hval 0 24 v0 rfl rfl)
  have k0 := h0
  have lt0 : ∀ x ∈ p0, x.block < W.heap.size := by obtain ⟨m, hm⟩ := k0; exact DataW.trod_lt m _ _ _ hm
  obtain ⟨fuel0, hf0⟩ := h0
  have hbulk : Rows.uptoBulkAll ([d0] ++ []) ≤ 1048576 := of_decide_eq_true hk
  simp only [List.append_nil, Rows.uptoBulkAll] at hbulk
  obtain ⟨A0, c0, l0, hv0, hc0, hC0, hB0, hT0⟩ := Man.bridge_prog fuel0 cs0 _ _ hf0
  subst hv0
  have hP0 : Man.FitP l0 1048576 := hB0.mono (by omega)
  clear hA0 hval0
  refine (walk _ _ l0 hc0 W hC0 hP0 (Nat.le_trans hT0 (by omega))).mono fun e W' ⟨he, bel⟩ => ?_
  subst he
  exact ⟨_, rfl, _, _, _, [], _, [], hW', trodAll_mk1 (shut_bool Try.underlying4 _), (trodAll_cons_mk (Below.trod laidOut (by kernel_rfl) (of_decide_eq_true (by kernel_rfl)) k0 bel lt0) trodAll_mk0), rfl, bel.frame _, fun h => by cases h⟩
theorem proved : Rows.ResolveParamsUptoSaid :=
  OpenClaim.holds_of_cond 7 Try.f7 rfl rfl rfl rfl rfl rfl rfl ⟨rfl, rfl, rfl, rfl, rfl⟩ rfl rfl rfl rfl rfl (by kernel_rfl) Try.func7 (by kernel_rfl)
    (of_decide_eq_true (by kernel_rfl)) (by unfold Func.isWrapper; first | (rw [if_pos (by decide +kernel)]; kernel_rfl) | (rw [if_neg (by decide +kernel)]; exact ⟨rfl, rfl⟩))
    (fun os started H enc _ F => lifted os started H enc F)
end Go.Proofs.Ytjiacafeckokeaa.resolveParams
namespace Go.Proofs.Ytjiacafeckokeaa
theorem resolveParams_holds : Rows.ResolveParamsUptoSaid := resolveParams.proved
end Go.Proofs.Ytjiacafeckokeaa
