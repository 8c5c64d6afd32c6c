-- Written by wip/xprint.py (the kit's print, run over this seat with some contracts of my own). Not trusted: Lean checks it.
import Derived.Test.YtdifnochnmiagaaPr0
import Derived.Test.YtdifnochnmiagaaPr4
namespace Go.Proofs.Ytdifnochnmiagaa.Pr
open Go.RowKit Go.Proofs.YtdifnochnmiagaaW.PrintWords Go.Proofs.YtdifnochnmiagaaW.PrintLast Go.Proofs.YtdifnochnmiagaaW.PrintMore
attribute [local go_sem] max2_int min2_int max_two min_two max_three min_three max_four min_four   -- for this text's walks alone
set_option linter.unusedVariables false
set_option linter.unusedSimpArgs false

/-! ### proteanref04_Blocks: function 13 -/
def proteanref04_Blocks.j0 : Nat → Int → List (S36) → Bool → Option (Int × Int × Int)
  | 0, _, _, _ => none
  | k + 1, x1, x7, x18 => if x18 = true then (some ((-1), (-1), (-1))) else (if 0 ≤ x1 then (if x1 < (x7.length : Int) then ((proteanref04_List.f k ((rd_T36 x7 x1).f6)).bind fun t152 => ((proteanref04_List.f k ((rd_T36 x7 x1).f7)).bind fun t156 => (some (wrap64 (x1 + 1), wrap64 ((wrap64 (x1 + 1)) + (t152.length : Int)), wrap64 ((wrap64 ((wrap64 (x1 + 1)) + (t152.length : Int))) + (t156.length : Int)))))) else (none)) else (none))
def proteanref04_Blocks.f (k : Nat) (l0 : List (S36)) (a1 : Int) : Option (Int × Int × Int) := (proteanref04_List.f k l0).bind fun t148 => (if a1 < 0 then (proteanref04_Blocks.j0 k a1 t148 true) else (proteanref04_Blocks.j0 k a1 t148 (decide (a1 ≥ (t148.length : Int)))))
theorem proteanref04_Blocks.mono_l : ∀ k, (∀ y0 y1 y2, LeO (proteanref04_Blocks.j0 k y0 y1 y2) (proteanref04_Blocks.j0 (k + 1) y0 y1 y2))
  | 0 => fun _ _ _ r h => by simp [proteanref04_Blocks.j0] at h
  | k + 1 => by
    have ih0 := proteanref04_Blocks.mono_l k
    · intro y0 y1 y2
      unfold proteanref04_Blocks.j0
      repeat' first
      | (with_reducible exact ih0 _ _ _)
      | (with_reducible exact proteanref04_List.mono _ _)
      | (with_reducible exact LeO.refl _)
      | (with_reducible exact LeO.none _)
      | (with_reducible refine LeO.ite ?_ ?_)
      | (with_reducible refine LeO.bind ?_ (fun _ => ?_))
      | exact ih0 _ _ _
      | exact proteanref04_List.mono _ _
      | exact LeO.none _
      | refine LeO.ite ?_ ?_
      | refine LeO.bind ?_ (fun _ => ?_)
theorem proteanref04_Blocks.mono : ∀ a0 a1 k, LeO (proteanref04_Blocks.f k a0 a1) (proteanref04_Blocks.f (k + 1) a0 a1) := by
 intro a0 a1 k
 have ih0 := proteanref04_Blocks.mono_l k
 unfold proteanref04_Blocks.f
 repeat' first
   | (with_reducible exact ih0 _ _ _)
   | (with_reducible exact proteanref04_List.mono _ _)
   | (with_reducible exact LeO.refl _)
   | (with_reducible exact LeO.none _)
   | (with_reducible refine LeO.ite ?_ ?_)
   | (with_reducible refine LeO.bind ?_ (fun _ => ?_))
   | exact ih0 _ _ _
   | exact proteanref04_List.mono _ _
   | exact LeO.none _
   | refine LeO.ite ?_ ?_
   | refine LeO.bind ?_ (fun _ => ?_)
set_option maxHeartbeats 8000000 in
set_option maxRecDepth 100000 in
theorem proteanref04_Blocks.calls (k : Nat) (A0 : Option Addr) (c0 : Nat) (l0 : List (S36)) (a1 : Int) (r1 : Int) (r2 : Int) (r3 : Int) (w : World) (hr0 : Kd.C k36 w A0 l0.length l0) (hc0 : l0.length ≤ c0) (h : proteanref04_Blocks.f k l0 a1 = some (r1, r2, r3)) :
    Calls Try.prog 13 #[.slice A0 l0.length c0, .int .i64 a1] w fun e w' => e = .returned (.tuple #[.int .i64 r1, .int .i64 r2, .int .i64 r3]) ∧ Below w.heap.size w w' := by
 have HR0 := Aside0.mk hr0
 have HC0 := Aside0.mk hc0
 clear hr0 hc0
 have HB := Aside0.mk (Below.refl w.heap.size w)
 have H : ((proteanref04_List.f k l0).bind fun t148 => (if a1 < 0 then (proteanref04_Blocks.j0 k a1 t148 true) else (proteanref04_Blocks.j0 k a1 t148 (decide (a1 ≥ (t148.length : Int)))))) = some (r1, r2, r3) := h
 clear h
 replace H := Option.bind_eq_some_iff.mp H
 obtain ⟨t148, A30, H⟩ := H
 replace H : (if a1 < 0 then (proteanref04_Blocks.j0 k a1 t148 true) else (proteanref04_Blocks.j0 k a1 t148 (decide (a1 ≥ (t148.length : Int))))) = some (r1, r2, r3) := H
 have A3 := Aside0.mk A30
 clear A30
 have HC4 := Aside0.mk H
 clear H
 go_enter Try.func13, Try.ntmps13
 go_upto_region 2 with (first | ((with_reducible refine gate_callee (f := 14) rfl ?_); refine goesL_ (some 10) rfl rfl Try.func14 (by kernel_rfl) rfl #[.slice A0 l0.length c0] rfl (by (try simp only [List.map_toArray, List.map_cons, List.map_nil]); first | done | rfl | (simp only [List.length_drop, List.length_take]; rfl)) ?_; (with_reducible refine (proteanref04_List.calls k (fun k_ => k_ < w.heap.size) _ _ l0 t148 _ ?side1 A3.out).mono ?_); (case side1 => exact Kd.V_mk HC0.out (Kd.F_below (Kd.C_F k36_heap HR0.out) (by repeat (first | (with_reducible first | exact HB.out | apply below_alloc | apply pw_below_drewN | apply below_drew1) | exact HB.out)))); rintro e w5 ⟨v149, rfl, ho0, hb⟩; refine ⟨_, rfl, ?_⟩; have n0_ := Aside0.mk (Kd.N_lower (Kd.N_mono (ok' := fun k_ => True) ho0 (fun k_ hk_ => trivial)) (below_size (by repeat (first | (with_reducible first | exact HB.out | apply below_alloc | apply pw_below_drewN | apply below_drew1) | exact HB.out)))); have n1_ := Aside0.mk (below_step (by repeat (first | (with_reducible first | exact HB.out | apply below_alloc | apply pw_below_drewN | apply below_drew1) | exact HB.out)) hb); clear HB; have HO150 := n0_; have HB := n1_; clear n0_ n1_; (try clear hb); (try clear hb2); (try clear hk); (try clear hi); (try clear ho0)))
 (try simp only [Act.put, List.setIfInBounds_toArray, List.set_cons_zero, List.set_cons_succ])
 go_cut [18] (fun v18 wc => ∃ (kq : Nat) (x18_3 : Bool), v18 = .bool x18_3 ∧ Aside0 (proteanref04_Blocks.j0 kq a1 t148 x18_3 = some (r1, r2, r3)) ∧ Aside0 (kq ≤ k) ∧ Aside0 (Kd.N k36 36 wc w.heap.size (fun _ => True) v149 t148) ∧ Aside0 (Below w.heap.size w wc))
 case first =>
  have H := HC4.out
  clear HC4
  by_cases c6 : a1 < 0
  ·rw [if_pos c6] at H
   have c6b0 : decide (a1 < 0) = true := decide_eq_true c6
   clear c6
   (first | rw [c6b0] | (simp only [i64_w, i32_w]; rw [c6b0]) | skip)
   have H' := Aside0.mk H
   clear H
   go_wp2
   go_meet
   case rel => exact ⟨_, (true), (by first | rfl | (simp; done) | (simp [*]; done)), H', ⟨by first | omega | exact Nat.le_refl _⟩, ⟨by (with_reducible repeat (first | apply Kd.N_alloc | apply Kd.N_drewN | apply Kd.N_drew)); exact HO150.out⟩, ⟨by repeat (first | (with_reducible first | exact HB.out | apply below_alloc | apply pw_below_drewN | apply below_drew1) | exact HB.out)⟩⟩
  ·rw [if_neg c6] at H
   have c6b0 : decide (a1 < 0) = false := decide_eq_false c6
   clear c6
   (first | rw [c6b0] | (simp only [i64_w, i32_w]; rw [c6b0]) | skip)
   have H' := Aside0.mk H
   clear H
   obtain ⟨Ao7, co7, eo7⟩ := Kd.N_slice HO150.out
   subst eo7
   go_wp2
   go_meet
   case rel => exact ⟨_, (decide (a1 ≥ (t148.length : Int))), (by first | rfl | (simp; done) | (simp [*]; done)), H', ⟨by first | omega | exact Nat.le_refl _⟩, ⟨by (with_reducible repeat (first | apply Kd.N_alloc | apply Kd.N_drewN | apply Kd.N_drew)); exact HO150.out⟩, ⟨by repeat (first | (with_reducible first | exact HB.out | apply below_alloc | apply pw_below_drewN | apply below_drew1) | exact HB.out)⟩⟩
 case rest =>
  clear HC4
  try clear c1
  try clear p2
  try clear c6
  try clear c6b0
  obtain ⟨kq, x18_3, rfl, HA, HJ3, HO_7, HB⟩ := hcut
  cases kq with
  | zero => exact absurd HA.out (by simp [proteanref04_Blocks.j0])
  | succ kj3 =>
   have H := HA.out
   clear HA
   simp only [proteanref04_Blocks.j0] at H
   by_cases c8 : x18_3 = true
   ·subst c8
    have H1 : (some ((-1), (-1), (-1))) = some (r1, r2, r3) := by rw [if_pos rfl] at H; exact H
    clear H
    have H := H1
    clear H1
    simp only [Option.some.injEq, Prod.mk.injEq] at H
    obtain ⟨rfl, rfl, rfl⟩ := H
    go_wp2
    go_ret3
    exact ⟨by first | rfl | (simp [errW_none, errW_some] <;> rfl) | (simp [*, errW_none, errW_some] <;> rfl), by repeat (first | (with_reducible first | exact HB.out | apply below_alloc | apply pw_below_drewN | apply below_drew1) | exact HB.out)⟩
   ·replace c8 := Bool.eq_false_iff.mpr c8
    subst c8
    have H1 : (if 0 ≤ a1 then (if a1 < (t148.length : Int) then ((proteanref04_List.f kj3 ((rd_T36 t148 a1).f6)).bind fun t152 => ((proteanref04_List.f kj3 ((rd_T36 t148 a1).f7)).bind fun t156 => (some (wrap64 (a1 + 1), wrap64 ((wrap64 (a1 + 1)) + (t152.length : Int)), wrap64 ((wrap64 ((wrap64 (a1 + 1)) + (t152.length : Int))) + (t156.length : Int)))))) else (none)) else (none)) = some (r1, r2, r3) := by rw [if_neg (show ¬ (false = true) by decide)] at H; exact H
    clear H
    have H := H1
    clear H1
    by_cases c9 : 0 ≤ a1
    ·rw [if_pos c9] at H
     have c9b0 : decide (0 ≤ a1) = true := decide_eq_true c9
     clear c9
     by_cases c10 : a1 < (t148.length : Int)
     ·rw [if_pos c10] at H
      have c10b0 : decide (a1 < (t148.length : Int)) = true := decide_eq_true c10
      clear c10
      replace H := Option.bind_eq_some_iff.mp H
      obtain ⟨t152, A110, H⟩ := H
      replace H : ((proteanref04_List.f kj3 ((rd_T36 t148 a1).f7)).bind fun t156 => (some (wrap64 (a1 + 1), wrap64 ((wrap64 (a1 + 1)) + (t152.length : Int)), wrap64 ((wrap64 ((wrap64 (a1 + 1)) + (t152.length : Int))) + (t156.length : Int))))) = some (r1, r2, r3) := H
      have A11 := Aside0.mk A110
      clear A110
      replace H := Option.bind_eq_some_iff.mp H
      obtain ⟨t156, A120, H⟩ := H
      replace H : (some (wrap64 (a1 + 1), wrap64 ((wrap64 (a1 + 1)) + (t152.length : Int)), wrap64 ((wrap64 ((wrap64 (a1 + 1)) + (t152.length : Int))) + (t156.length : Int)))) = some (r1, r2, r3) := H
      have A12 := Aside0.mk A120
      clear A120
      simp only [Option.some.injEq, Prod.mk.injEq] at H
      obtain ⟨rfl, rfl, rfl⟩ := H
      obtain ⟨Ao13, co13, eo13⟩ := Kd.N_slice HO_7.out
      subst eo13
      have p151 : 0 ≤ (a1 : Int) := of_decide_eq_true (by first | (with_reducible assumption) | assumption)
      have q151 : a1 < (t148.length : Int) := of_decide_eq_true (by first | (with_reducible assumption) | assumption)
      obtain ⟨ad151, A151_4, c151_4, A151_5, c151_5, A151_6, c151_6, A151_7, c151_7, e151, hx151_0, hx151_1, hx151_2, hx151_3, hx151_4, hx151_5, hx151_6, hx151_7, hl151_4, hi151_4, hl151_5, hi151_5, hl151_6, hi151_6, hl151_7, hi151_7⟩ := at_T36 (Kd.N_reads' HO_7.out).2.2 a1 p151 q151
      cases e151
      obtain ⟨ce151, hce151, hMe151, hcc151⟩ := Kd.N_get HO_7.out z36 a1 p151 (by first | exact q151 | exact of_decide_eq_true (by first | (with_reducible assumption) | assumption) | (have e_ := (Kd.N_reads' HO_7.out).1; omega))
      obtain ⟨ua151_4, uc151_4, ua151_5, uc151_5, ua151_6, uc151_6, ua151_7, uc151_7, rfl, ul151_4, ge151_4, ul151_5, ge151_5, ul151_6, ge151_6, ul151_7, ge151_7⟩ := k36_openF hMe151
      have hv151_4 := hcc151 4 _ rfl
      rw [add_field _ _ 4 (by omega)] at hv151_4
      replace hv151_4 := Option.some.inj (hv151_4.symm.trans hx151_4)
      injection hv151_4 with hva_ hvn_ hvc_
      rw [hva_] at ge151_4
      rw [hvc_] at ul151_4
      have HL151_4 := Aside0.mk (show Kd.V k49 49 _ w.heap.size _ _ ((rd_T36 t148 a1).f4) from Kd.V_mk ul151_4 ge151_4)
      clear hva_ hvn_ hvc_ ge151_4 ul151_4
      have hv151_5 := hcc151 5 _ rfl
      rw [add_field _ _ 5 (by omega)] at hv151_5
      replace hv151_5 := Option.some.inj (hv151_5.symm.trans hx151_5)
      injection hv151_5 with hva_ hvn_ hvc_
      rw [hva_] at ge151_5
      rw [hvc_] at ul151_5
      have HL151_5 := Aside0.mk (show Kd.V Kd.string 9 _ w.heap.size _ _ ((rd_T36 t148 a1).f5) from Kd.V_mk ul151_5 ge151_5)
      clear hva_ hvn_ hvc_ ge151_5 ul151_5
      have hv151_6 := hcc151 6 _ rfl
      rw [add_field _ _ 6 (by omega)] at hv151_6
      replace hv151_6 := Option.some.inj (hv151_6.symm.trans hx151_6)
      injection hv151_6 with hva_ hvn_ hvc_
      rw [hva_] at ge151_6
      rw [hvc_] at ul151_6
      have HL151_6 := Aside0.mk (show Kd.V k36 36 _ w.heap.size _ _ ((rd_T36 t148 a1).f6) from Kd.V_mk ul151_6 ge151_6)
      clear hva_ hvn_ hvc_ ge151_6 ul151_6
      have hv151_7 := hcc151 7 _ rfl
      rw [add_field _ _ 7 (by omega)] at hv151_7
      replace hv151_7 := Option.some.inj (hv151_7.symm.trans hx151_7)
      injection hv151_7 with hva_ hvn_ hvc_
      rw [hva_] at ge151_7
      rw [hvc_] at ul151_7
      have HL151_7 := Aside0.mk (show Kd.V k36 36 _ w.heap.size _ _ ((rd_T36 t148 a1).f7) from Kd.V_mk ul151_7 ge151_7)
      clear hva_ hvn_ hvc_ ge151_7 ul151_7
      clear hcc151 hce151
      have HR151_4 := Aside0.mk hi151_4
      have HC151_4 := Aside0.mk hl151_4
      clear hi151_4 hl151_4
      have HR151_5 := Aside0.mk hi151_5
      have HC151_5 := Aside0.mk hl151_5
      clear hi151_5 hl151_5
      have HR151_6 := Aside0.mk hi151_6
      have HC151_6 := Aside0.mk hl151_6
      clear hi151_6 hl151_6
      have HR151_7 := Aside0.mk hi151_7
      have HC151_7 := Aside0.mk hl151_7
      clear hi151_7 hl151_7
      replace p151 := eq_true p151
      replace q151 := eq_true q151
      go_wp2_with (first | ((with_reducible refine gate_callee (f := 14) rfl ?_); refine goesL_ (some 26) rfl rfl Try.func14 (by kernel_rfl) rfl #[.slice A151_6 ((rd_T36 t148 a1).f6).length c151_6] rfl (by (try simp only [List.map_toArray, List.map_cons, List.map_nil]); first | done | rfl | (simp only [List.length_drop, List.length_take]; rfl)) ?_; (with_reducible refine (proteanref04_List.calls kj3 (fun k_ => (True ∧ some k_ ≠ (.slice (some ad151) t148.length co13 : Value).ownBlock)) _ _ ((rd_T36 t148 a1).f6) t152 _ ?side1 A11.out).mono ?_); (case side1 => exact HL151_6.out); rintro e w14 ⟨v153, rfl, ho0, hb⟩; refine ⟨_, rfl, ?_⟩; have n0_ := Aside0.mk (Kd.N_elder' (by (with_reducible repeat (first | apply Kd.N_alloc | apply Kd.N_drewN | apply Kd.N_drew)); exact HO_7.out) (Kd.N_base ho0) hb); have n1_ := Aside0.mk (Kd.V_elder' (by (with_reducible repeat (first | apply Kd.V_alloc | apply Kd.V_drewN | apply Kd.V_drew)); exact HL151_4.out) (Kd.N_base ho0) hb); have n2_ := Aside0.mk (Kd.V_elder' (by (with_reducible repeat (first | apply Kd.V_alloc | apply Kd.V_drewN | apply Kd.V_drew)); exact HL151_5.out) (Kd.N_base ho0) hb); have n3_ := Aside0.mk (Kd.V_elder' (by (with_reducible repeat (first | apply Kd.V_alloc | apply Kd.V_drewN | apply Kd.V_drew)); exact HL151_6.out) (Kd.N_base ho0) hb); have n4_ := Aside0.mk (Kd.V_elder' (by (with_reducible repeat (first | apply Kd.V_alloc | apply Kd.V_drewN | apply Kd.V_drew)); exact HL151_7.out) (Kd.N_base ho0) hb); have n5_ := Aside0.mk (Kd.N_lower (Kd.N_mono (ok' := fun k_ => some k_ ≠ (.slice (some ad151) t148.length co13 : Value).ownBlock) ho0 (fun k_ hk_ => Or.elim hk_ (fun hs_ => hs_.2) (fun hn_ => (Kd.fresh' (Kd.N_lt (by (with_reducible repeat (first | apply Kd.N_alloc | apply Kd.N_drewN | apply Kd.N_drew)); exact HO_7.out)) k_ hn_)))) (below_size (by repeat (first | (with_reducible first | exact HB.out | apply below_alloc | apply pw_below_drewN | apply below_drew1) | exact HB.out)))); have n6_ := Aside0.mk (Kd.C_below (by repeat (first | (with_reducible exact HR151_4.out) | (with_reducible refine Kd.C_alloc ?_ _) | (with_reducible refine Kd.C_drewN ?_ _) | (with_reducible refine Kd.C_drew ?_) | exact HR151_4.out)) hb); have n7_ := Aside0.mk (Kd.C_below (by repeat (first | (with_reducible exact HR151_5.out) | (with_reducible refine Kd.C_alloc ?_ _) | (with_reducible refine Kd.C_drewN ?_ _) | (with_reducible refine Kd.C_drew ?_) | exact HR151_5.out)) hb); have n8_ := Aside0.mk (Kd.C_below (by repeat (first | (with_reducible exact HR151_6.out) | (with_reducible refine Kd.C_alloc ?_ _) | (with_reducible refine Kd.C_drewN ?_ _) | (with_reducible refine Kd.C_drew ?_) | exact HR151_6.out)) hb); have n9_ := Aside0.mk (Kd.C_below (by repeat (first | (with_reducible exact HR151_7.out) | (with_reducible refine Kd.C_alloc ?_ _) | (with_reducible refine Kd.C_drewN ?_ _) | (with_reducible refine Kd.C_drew ?_) | exact HR151_7.out)) hb); have n10_ := Aside0.mk (below_step (by repeat (first | (with_reducible first | exact HB.out | apply below_alloc | apply pw_below_drewN | apply below_drew1) | exact HB.out)) hb); clear HO_7; clear HL151_4; clear HL151_5; clear HL151_6; clear HL151_7; clear HR151_4; clear HR151_5; clear HR151_6; clear HR151_7; clear HB; have HO_7 := n0_; have HL151_4 := n1_; have HL151_5 := n2_; have HL151_6 := n3_; have HL151_7 := n4_; have HO154 := n5_; have HR151_4 := n6_; have HR151_5 := n7_; have HR151_6 := n8_; have HR151_7 := n9_; have HB := n10_; clear n0_ n1_ n2_ n3_ n4_ n5_ n6_ n7_ n8_ n9_ n10_; (try clear hb); (try clear hb2); (try clear hk); (try clear hi); (try clear ho0); obtain ⟨Ao15, co15, eo15⟩ := Kd.N_slice HO154.out; subst eo15; have p155 : 0 ≤ (a1 : Int) := of_decide_eq_true (by first | (with_reducible assumption) | assumption); have q155 : a1 < (t148.length : Int) := of_decide_eq_true (by first | (with_reducible assumption) | assumption); obtain ⟨ad155, A155_4, c155_4, A155_5, c155_5, A155_6, c155_6, A155_7, c155_7, e155, hx155_0, hx155_1, hx155_2, hx155_3, hx155_4, hx155_5, hx155_6, hx155_7, hl155_4, hi155_4, hl155_5, hi155_5, hl155_6, hi155_6, hl155_7, hi155_7⟩ := at_T36 (Kd.N_reads' HO_7.out).2.2 a1 p155 q155; obtain rfl : ad151 = ad155 := (by injection e155); obtain ⟨ce155, hce155, hMe155, hcc155⟩ := Kd.N_get HO_7.out z36 a1 p155 (by first | exact q155 | exact of_decide_eq_true (by first | (with_reducible assumption) | assumption) | (have e_ := (Kd.N_reads' HO_7.out).1; omega)); obtain ⟨ua155_4, uc155_4, ua155_5, uc155_5, ua155_6, uc155_6, ua155_7, uc155_7, rfl, ul155_4, ge155_4, ul155_5, ge155_5, ul155_6, ge155_6, ul155_7, ge155_7⟩ := k36_openF hMe155; have hv155_4 := hcc155 4 _ rfl; rw [add_field _ _ 4 (by omega)] at hv155_4; replace hv155_4 := Option.some.inj (hv155_4.symm.trans hx155_4); injection hv155_4 with hva_ hvn_ hvc_; rw [hva_] at ge155_4; rw [hvc_] at ul155_4; have HL155_4 := Aside0.mk (show Kd.V k49 49 _ w.heap.size _ _ ((rd_T36 t148 a1).f4) from Kd.V_mk ul155_4 ge155_4); clear hva_ hvn_ hvc_ ge155_4 ul155_4; have hv155_5 := hcc155 5 _ rfl; rw [add_field _ _ 5 (by omega)] at hv155_5; replace hv155_5 := Option.some.inj (hv155_5.symm.trans hx155_5); injection hv155_5 with hva_ hvn_ hvc_; rw [hva_] at ge155_5; rw [hvc_] at ul155_5; have HL155_5 := Aside0.mk (show Kd.V Kd.string 9 _ w.heap.size _ _ ((rd_T36 t148 a1).f5) from Kd.V_mk ul155_5 ge155_5); clear hva_ hvn_ hvc_ ge155_5 ul155_5; have hv155_6 := hcc155 6 _ rfl; rw [add_field _ _ 6 (by omega)] at hv155_6; replace hv155_6 := Option.some.inj (hv155_6.symm.trans hx155_6); injection hv155_6 with hva_ hvn_ hvc_; rw [hva_] at ge155_6; rw [hvc_] at ul155_6; have HL155_6 := Aside0.mk (show Kd.V k36 36 _ w.heap.size _ _ ((rd_T36 t148 a1).f6) from Kd.V_mk ul155_6 ge155_6); clear hva_ hvn_ hvc_ ge155_6 ul155_6; have hv155_7 := hcc155 7 _ rfl; rw [add_field _ _ 7 (by omega)] at hv155_7; replace hv155_7 := Option.some.inj (hv155_7.symm.trans hx155_7); injection hv155_7 with hva_ hvn_ hvc_; rw [hva_] at ge155_7; rw [hvc_] at ul155_7; have HL155_7 := Aside0.mk (show Kd.V k36 36 _ w.heap.size _ _ ((rd_T36 t148 a1).f7) from Kd.V_mk ul155_7 ge155_7); clear hva_ hvn_ hvc_ ge155_7 ul155_7; clear hcc155 hce155; have HR155_4 := Aside0.mk hi155_4; have HC155_4 := Aside0.mk hl155_4; clear hi155_4 hl155_4; have HR155_5 := Aside0.mk hi155_5; have HC155_5 := Aside0.mk hl155_5; clear hi155_5 hl155_5; have HR155_6 := Aside0.mk hi155_6; have HC155_6 := Aside0.mk hl155_6; clear hi155_6 hl155_6; have HR155_7 := Aside0.mk hi155_7; have HC155_7 := Aside0.mk hl155_7; clear hi155_7 hl155_7; replace p155 := eq_true p155; replace q155 := eq_true q155) | ((with_reducible refine gate_callee (f := 14) rfl ?_); refine goesL_ (some 38) rfl rfl Try.func14 (by kernel_rfl) rfl #[.slice A155_7 ((rd_T36 t148 a1).f7).length c155_7] rfl (by (try simp only [List.map_toArray, List.map_cons, List.map_nil]); first | done | rfl | (simp only [List.length_drop, List.length_take]; rfl)) ?_; (with_reducible refine (proteanref04_List.calls kj3 (fun k_ => ((True ∧ some k_ ≠ (.slice Ao15 t152.length co15 : Value).ownBlock) ∧ some k_ ≠ (.slice (some ad151) t148.length co13 : Value).ownBlock)) _ _ ((rd_T36 t148 a1).f7) t156 _ ?side1 A12.out).mono ?_); (case side1 => exact HL155_7.out); rintro e w16 ⟨v157, rfl, ho0, hb⟩; refine ⟨_, rfl, ?_⟩; have n0_ := Aside0.mk (Kd.N_elder' (by (with_reducible repeat (first | apply Kd.N_alloc | apply Kd.N_drewN | apply Kd.N_drew)); exact HO_7.out) (Kd.N_base ho0) hb); have n1_ := Aside0.mk (Kd.V_elder' (by (with_reducible repeat (first | apply Kd.V_alloc | apply Kd.V_drewN | apply Kd.V_drew)); exact HL151_4.out) (Kd.N_base ho0) hb); have n2_ := Aside0.mk (Kd.V_elder' (by (with_reducible repeat (first | apply Kd.V_alloc | apply Kd.V_drewN | apply Kd.V_drew)); exact HL151_5.out) (Kd.N_base ho0) hb); have n3_ := Aside0.mk (Kd.V_elder' (by (with_reducible repeat (first | apply Kd.V_alloc | apply Kd.V_drewN | apply Kd.V_drew)); exact HL151_6.out) (Kd.N_base ho0) hb); have n4_ := Aside0.mk (Kd.V_elder' (by (with_reducible repeat (first | apply Kd.V_alloc | apply Kd.V_drewN | apply Kd.V_drew)); exact HL151_7.out) (Kd.N_base ho0) hb); have n5_ := Aside0.mk (Kd.N_elder' (by (with_reducible repeat (first | apply Kd.N_alloc | apply Kd.N_drewN | apply Kd.N_drew)); exact HO154.out) (Kd.N_base ho0) hb); have n6_ := Aside0.mk (Kd.V_elder' (by (with_reducible repeat (first | apply Kd.V_alloc | apply Kd.V_drewN | apply Kd.V_drew)); exact HL155_4.out) (Kd.N_base ho0) hb); have n7_ := Aside0.mk (Kd.V_elder' (by (with_reducible repeat (first | apply Kd.V_alloc | apply Kd.V_drewN | apply Kd.V_drew)); exact HL155_5.out) (Kd.N_base ho0) hb); have n8_ := Aside0.mk (Kd.V_elder' (by (with_reducible repeat (first | apply Kd.V_alloc | apply Kd.V_drewN | apply Kd.V_drew)); exact HL155_6.out) (Kd.N_base ho0) hb); have n9_ := Aside0.mk (Kd.V_elder' (by (with_reducible repeat (first | apply Kd.V_alloc | apply Kd.V_drewN | apply Kd.V_drew)); exact HL155_7.out) (Kd.N_base ho0) hb); have n10_ := Aside0.mk (Kd.N_lower (Kd.N_mono (ok' := fun k_ => some k_ ≠ (.slice (some ad151) t148.length co13 : Value).ownBlock ∧ some k_ ≠ (.slice Ao15 t152.length co15 : Value).ownBlock) ho0 (fun k_ hk_ => ⟨Or.elim hk_ (fun hs_ => hs_.2) (fun hn_ => (Kd.fresh' (Kd.N_lt (by (with_reducible repeat (first | apply Kd.N_alloc | apply Kd.N_drewN | apply Kd.N_drew)); exact HO_7.out)) k_ hn_)), Or.elim hk_ (fun hs_ => hs_.1.2) (fun hn_ => (Kd.fresh' (Kd.N_lt (by (with_reducible repeat (first | apply Kd.N_alloc | apply Kd.N_drewN | apply Kd.N_drew)); exact HO154.out)) k_ hn_))⟩)) (below_size (by repeat (first | (with_reducible first | exact HB.out | apply below_alloc | apply pw_below_drewN | apply below_drew1) | exact HB.out)))); have n11_ := Aside0.mk (Kd.C_below (by repeat (first | (with_reducible exact HR151_4.out) | (with_reducible refine Kd.C_alloc ?_ _) | (with_reducible refine Kd.C_drewN ?_ _) | (with_reducible refine Kd.C_drew ?_) | exact HR151_4.out)) hb); have n12_ := Aside0.mk (Kd.C_below (by repeat (first | (with_reducible exact HR151_5.out) | (with_reducible refine Kd.C_alloc ?_ _) | (with_reducible refine Kd.C_drewN ?_ _) | (with_reducible refine Kd.C_drew ?_) | exact HR151_5.out)) hb); have n13_ := Aside0.mk (Kd.C_below (by repeat (first | (with_reducible exact HR151_6.out) | (with_reducible refine Kd.C_alloc ?_ _) | (with_reducible refine Kd.C_drewN ?_ _) | (with_reducible refine Kd.C_drew ?_) | exact HR151_6.out)) hb); have n14_ := Aside0.mk (Kd.C_below (by repeat (first | (with_reducible exact HR151_7.out) | (with_reducible refine Kd.C_alloc ?_ _) | (with_reducible refine Kd.C_drewN ?_ _) | (with_reducible refine Kd.C_drew ?_) | exact HR151_7.out)) hb); have n15_ := Aside0.mk (Kd.C_below (by repeat (first | (with_reducible exact HR155_4.out) | (with_reducible refine Kd.C_alloc ?_ _) | (with_reducible refine Kd.C_drewN ?_ _) | (with_reducible refine Kd.C_drew ?_) | exact HR155_4.out)) hb); have n16_ := Aside0.mk (Kd.C_below (by repeat (first | (with_reducible exact HR155_5.out) | (with_reducible refine Kd.C_alloc ?_ _) | (with_reducible refine Kd.C_drewN ?_ _) | (with_reducible refine Kd.C_drew ?_) | exact HR155_5.out)) hb); have n17_ := Aside0.mk (Kd.C_below (by repeat (first | (with_reducible exact HR155_6.out) | (with_reducible refine Kd.C_alloc ?_ _) | (with_reducible refine Kd.C_drewN ?_ _) | (with_reducible refine Kd.C_drew ?_) | exact HR155_6.out)) hb); have n18_ := Aside0.mk (Kd.C_below (by repeat (first | (with_reducible exact HR155_7.out) | (with_reducible refine Kd.C_alloc ?_ _) | (with_reducible refine Kd.C_drewN ?_ _) | (with_reducible refine Kd.C_drew ?_) | exact HR155_7.out)) hb); have n19_ := Aside0.mk (below_step (by repeat (first | (with_reducible first | exact HB.out | apply below_alloc | apply pw_below_drewN | apply below_drew1) | exact HB.out)) hb); clear HO_7; clear HL151_4; clear HL151_5; clear HL151_6; clear HL151_7; clear HO154; clear HL155_4; clear HL155_5; clear HL155_6; clear HL155_7; clear HR151_4; clear HR151_5; clear HR151_6; clear HR151_7; clear HR155_4; clear HR155_5; clear HR155_6; clear HR155_7; clear HB; have HO_7 := n0_; have HL151_4 := n1_; have HL151_5 := n2_; have HL151_6 := n3_; have HL151_7 := n4_; have HO154 := n5_; have HL155_4 := n6_; have HL155_5 := n7_; have HL155_6 := n8_; have HL155_7 := n9_; have HO158 := n10_; have HR151_4 := n11_; have HR151_5 := n12_; have HR151_6 := n13_; have HR151_7 := n14_; have HR155_4 := n15_; have HR155_5 := n16_; have HR155_6 := n17_; have HR155_7 := n18_; have HB := n19_; clear n0_ n1_ n2_ n3_ n4_ n5_ n6_ n7_ n8_ n9_ n10_ n11_ n12_ n13_ n14_ n15_ n16_ n17_ n18_ n19_; (try clear hb); (try clear hb2); (try clear hk); (try clear hi); (try clear ho0); obtain ⟨Ao17, co17, eo17⟩ := Kd.N_slice HO158.out; subst eo17))
      go_ret3
      exact ⟨by first | rfl | (simp [errW_none, errW_some] <;> rfl) | (simp [*, errW_none, errW_some] <;> rfl), by repeat (first | (with_reducible first | exact HB.out | apply below_alloc | apply pw_below_drewN | apply below_drew1) | exact HB.out)⟩
     ·rw [if_neg c10] at H
      exact absurd H (by simp)
    ·rw [if_neg c9] at H
     exact absurd H (by simp)

/-! ### proteanref02_Texts: function 23 -/
def proteanref02_Texts.l0 : Nat → List ByteArray → List ByteArray → Int → Option (Bool)
  | 0, _, _, _ => none
  | k + 1, x0, x1, x5 => if x5 < (x0.length : Int) then (if 0 ≤ x5 then (if x5 < (x1.length : Int) then (if (rdOf ByteArray.empty x0 x5).toList = (rdOf ByteArray.empty x1 x5).toList then (proteanref02_Texts.l0 k x0 x1 (wrap64 (x5 + 1))) else (some false)) else (none)) else (none)) else (some true)
def proteanref02_Texts.f (k : Nat) (l0 : List ByteArray) (l1 : List ByteArray) : Option (Bool) := if (l0.length : Int) = (l1.length : Int) then (proteanref02_Texts.l0 k l0 l1 0) else (some false)
theorem proteanref02_Texts.mono_l : ∀ k, (∀ y0 y1 y2, LeO (proteanref02_Texts.l0 k y0 y1 y2) (proteanref02_Texts.l0 (k + 1) y0 y1 y2))
  | 0 => fun _ _ _ r h => by simp [proteanref02_Texts.l0] at h
  | k + 1 => by
    have ih0 := proteanref02_Texts.mono_l k
    · intro y0 y1 y2
      unfold proteanref02_Texts.l0
      repeat' first
      | (with_reducible exact ih0 _ _ _)
      | (with_reducible exact LeO.refl _)
      | (with_reducible exact LeO.none _)
      | (with_reducible refine LeO.ite ?_ ?_)
      | (with_reducible refine LeO.bind ?_ (fun _ => ?_))
      | exact ih0 _ _ _
      | exact LeO.none _
      | refine LeO.ite ?_ ?_
      | refine LeO.bind ?_ (fun _ => ?_)
theorem proteanref02_Texts.mono : ∀ a0 a1 k, LeO (proteanref02_Texts.f k a0 a1) (proteanref02_Texts.f (k + 1) a0 a1) := by
 intro a0 a1 k
 have ih0 := proteanref02_Texts.mono_l k
 unfold proteanref02_Texts.f
 repeat' first
   | (with_reducible exact ih0 _ _ _)
   | (with_reducible exact LeO.refl _)
   | (with_reducible exact LeO.none _)
   | (with_reducible refine LeO.ite ?_ ?_)
   | (with_reducible refine LeO.bind ?_ (fun _ => ?_))
   | exact ih0 _ _ _
   | exact LeO.none _
   | refine LeO.ite ?_ ?_
   | refine LeO.bind ?_ (fun _ => ?_)
set_option maxHeartbeats 8000000 in
set_option maxRecDepth 100000 in
theorem proteanref02_Texts.calls (k : Nat) (A0 : Option Addr) (c0 : Nat) (l0 : List ByteArray) (A1 : Option Addr) (c1 : Nat) (l1 : List ByteArray) (r : Bool) (w : World) (hr0 : Kd.C Kd.string w A0 l0.length l0) (hc0 : l0.length ≤ c0) (hr1 : Kd.C Kd.string w A1 l1.length l1) (hc1 : l1.length ≤ c1) (h : proteanref02_Texts.f k l0 l1 = some r) :
    Calls Try.prog 23 #[.slice A0 l0.length c0, .slice A1 l1.length c1] w fun e w' => e = .returned (.bool r) ∧ Drawn0 w w' := by
 have HR0 := Aside0.mk hr0
 have HC0 := Aside0.mk hc0
 clear hr0 hc0
 have HR1 := Aside0.mk hr1
 have HC1 := Aside0.mk hc1
 clear hr1 hc1
 have H : (if (l0.length : Int) = (l1.length : Int) then (proteanref02_Texts.l0 k l0 l1 0) else (some false)) = some r := h
 clear h
 by_cases c3 : (l0.length : Int) = (l1.length : Int)
 ·rw [if_pos c3] at H
  have c3b0 : ((l0.length : Int) == (l1.length : Int)) = true := beq_iff_eq.mpr c3
  have c3b1 : ((l0.length : Int) != (l1.length : Int)) = false := bne_eq_false_iff_eq.mpr c3
  have c3b2 : (l0.length == l1.length) = true := by first | simpa using c3 | (simp at c3 ⊢; omega)
  clear c3
  have H' := Aside0.mk H
  clear H
  go_enter Try.func23, Try.ntmps23
  go_wp2
  repeat (go_quiet (fail); try go_wp2)
  go_loopg [5] k (fun kq v5 w' => ∃ (x5_1 : Int), v5 = .int .i64 x5_1 ∧ Aside0 (proteanref02_Texts.l0 kq l0 l1 x5_1 = some r) ∧ Aside0 (kq ≤ k) ∧ Drawn0 w w')
  case atStart => exact ⟨(0), (by first | rfl | (simp; done) | (simp [*]; done)), H', ⟨Nat.le_refl _⟩, by repeat (first | exact Drawn0.refl _ | apply Drawn0.step)⟩
  case round =>
   clear H'
   try clear c1
   try clear c2
   try clear p2
   try clear c3
   try clear c3b0
   try clear c3b1
   try clear c3b2
   obtain ⟨x5_1, rfl, HA, HK1, ⟨m1, rfl⟩⟩ := hrel
   cases gk with
   | zero => exact absurd HA.out (by simp [proteanref02_Texts.l0])
   | succ k1 =>
    have H := HA.out
    clear HA
    simp only [proteanref02_Texts.l0] at H
    by_cases c4 : x5_1 < (l0.length : Int)
    ·rw [if_pos c4] at H
     have c4b0 : decide (x5_1 < (l0.length : Int)) = true := decide_eq_true c4
     clear c4
     by_cases c5 : 0 ≤ x5_1
     ·rw [if_pos c5] at H
      have c5b0 : decide (0 ≤ x5_1) = true := decide_eq_true c5
      clear c5
      by_cases c6 : x5_1 < (l1.length : Int)
      ·rw [if_pos c6] at H
       have c6b0 : decide (x5_1 < (l1.length : Int)) = true := decide_eq_true c6
       clear c6
       by_cases c7 : (rdOf ByteArray.empty l0 x5_1).toList = (rdOf ByteArray.empty l1 x5_1).toList
       ·rw [if_pos c7] at H
        have c7b0 : ((rdOf ByteArray.empty l0 x5_1).toList == (rdOf ByteArray.empty l1 x5_1).toList) = true := beq_iff_eq.mpr c7
        have c7b1 : ((rdOf ByteArray.empty l0 x5_1).toList != (rdOf ByteArray.empty l1 x5_1).toList) = false := bne_eq_false_iff_eq.mpr c7
        clear c7
        have H' := Aside0.mk H
        clear H
        have p159 : 0 ≤ (x5_1 : Int) := of_decide_eq_true (by first | (with_reducible assumption) | assumption)
        have q159 : x5_1 < (l0.length : Int) := of_decide_eq_true (by first | (with_reducible assumption) | assumption)
        obtain ⟨ad159, e159, hx159_0⟩ := Kd.at_string HR0.out x5_1 p159 q159
        cases e159
        replace p159 := eq_true p159
        replace q159 := eq_true q159
        have p160 : 0 ≤ (x5_1 : Int) := of_decide_eq_true (by first | (with_reducible assumption) | assumption)
        have q160 : x5_1 < (l1.length : Int) := of_decide_eq_true (by first | (with_reducible assumption) | assumption)
        obtain ⟨ad160, e160, hx160_0⟩ := Kd.at_string HR1.out x5_1 p160 q160
        cases e160
        replace p160 := eq_true p160
        replace q160 := eq_true q160
        go_wp2
        repeat (go_quiet (fail); try go_wp2)
        go_roundg k1
        case measure => have := HK1.out; omega
        case rel => exact ⟨(wrap64 (x5_1 + 1)), (by first | rfl | (simp; done) | (simp [*]; done)), H', ⟨by have := HK1.out; omega⟩, by repeat (first | exact Drawn0.refl _ | apply Drawn0.step)⟩
       ·rw [if_neg c7] at H
        have c7b0 : ((rdOf ByteArray.empty l0 x5_1).toList == (rdOf ByteArray.empty l1 x5_1).toList) = false := beq_eq_false_iff_ne.mpr c7
        have c7b1 : ((rdOf ByteArray.empty l0 x5_1).toList != (rdOf ByteArray.empty l1 x5_1).toList) = true := bne_iff_ne.mpr c7
        obtain rfl := Option.some.inj H
        have p159 : 0 ≤ (x5_1 : Int) := of_decide_eq_true (by first | (with_reducible assumption) | assumption)
        have q159 : x5_1 < (l0.length : Int) := of_decide_eq_true (by first | (with_reducible assumption) | assumption)
        obtain ⟨ad159, e159, hx159_0⟩ := Kd.at_string HR0.out x5_1 p159 q159
        cases e159
        replace p159 := eq_true p159
        replace q159 := eq_true q159
        have p160 : 0 ≤ (x5_1 : Int) := of_decide_eq_true (by first | (with_reducible assumption) | assumption)
        have q160 : x5_1 < (l1.length : Int) := of_decide_eq_true (by first | (with_reducible assumption) | assumption)
        obtain ⟨ad160, e160, hx160_0⟩ := Kd.at_string HR1.out x5_1 p160 q160
        cases e160
        replace p160 := eq_true p160
        replace q160 := eq_true q160
        go_wp2
        repeat (go_quiet (fail); try go_wp2)
        go_ret
        exact ⟨by first | rfl | (simp; done) | (simp [*]; done), by repeat (first | exact Drawn0.refl _ | apply Drawn0.step)⟩
      ·rw [if_neg c6] at H
       exact absurd H (by simp)
     ·rw [if_neg c5] at H
      exact absurd H (by simp)
    ·rw [if_neg c4] at H
     have c4b0 : decide (x5_1 < (l0.length : Int)) = false := decide_eq_false c4
     clear c4
     obtain rfl := Option.some.inj H
     go_wp2
     repeat (go_quiet (fail); try go_wp2)
     go_ret
     exact ⟨by first | rfl | (simp; done) | (simp [*]; done), by repeat (first | exact Drawn0.refl _ | apply Drawn0.step)⟩
 ·rw [if_neg c3] at H
  have c3b0 : ((l0.length : Int) == (l1.length : Int)) = false := beq_eq_false_iff_ne.mpr c3
  have c3b1 : ((l0.length : Int) != (l1.length : Int)) = true := bne_iff_ne.mpr c3
  have c3b2 : (l0.length == l1.length) = false := by first | simpa using c3 | (simp at c3 ⊢; omega)
  obtain rfl := Option.some.inj H
  go_enter Try.func23, Try.ntmps23
  go_wp2
  repeat (go_quiet (fail); try go_wp2)
  go_ret
  exact ⟨by first | rfl | (simp; done) | (simp [*]; done), by repeat (first | exact Drawn0.refl _ | apply Drawn0.step)⟩

end Go.Proofs.Ytdifnochnmiagaa.Pr
