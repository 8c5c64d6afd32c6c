-- Written by wip/xprint.py (the kit's print, run over this seat with some contracts of my own). Not trusted: Lean checks it.
import Derived.Test.YtdifnochnmiagaaPr0
import Derived.Test.YtdifnochnmiagaaPr1
import Derived.Test.YtdifnochnmiagaaPr2
import Derived.Test.YtdifnochnmiagaaPr5
import Derived.Test.YtdifnochnmiagaaPr7
import Derived.Test.YtdifnochnmiagaaPr8
import Derived.Test.YtdifnochnmiagaaPr9
namespace Go.Proofs.Ytdifnochnmiagaa.Pr
open Go.RowKit Go.Proofs.YtdifnochnmiagaaW.PrintWords Go.Proofs.YtdifnochnmiagaaW.PrintLast Go.Proofs.YtdifnochnmiagaaW.PrintMore
attribute [local go_sem] max2_int min2_int max_two min_two max_three min_three max_four min_four   -- for this text's walks alone
set_option linter.unusedVariables false
set_option linter.unusedSimpArgs false

/-! ### proteanlaw04_NumberBlocks: function 4 -/
mutual
noncomputable def proteanlaw04_NumberBlocks.j0 : Nat → Int → List (S36) → Int → Int → Int → Bool → Option (Bool)
  | 0, _, _, _, _, _, _ => none
  | k + 1, x1, x5, x6, x7, x8, x32 => if x32 = true then ((proteanlaw04_fixed.f).bind fun t250 => (if t250 = true then (if x6 = (-1) then (if x7 = (-1) then (some (x8 == (-1))) else (some false)) else (some false)) else (some false))) else (if x6 = (wrap64 (x1 + 1)) then (if x7 < x6 then (proteanlaw04_NumberBlocks.j1 k x1 x5 x6 x7 x8 true) else (if x8 < x7 then (proteanlaw04_NumberBlocks.j1 k x1 x5 x6 x7 x8 true) else (proteanlaw04_NumberBlocks.j1 k x1 x5 x6 x7 x8 (decide (x8 > (x5.length : Int)))))) else (proteanlaw04_NumberBlocks.j1 k x1 x5 x6 x7 x8 true))
noncomputable def proteanlaw04_NumberBlocks.j1 : Nat → Int → List (S36) → Int → Int → Int → Bool → Option (Bool)
  | 0, _, _, _, _, _, _ => none
  | k + 1, x1, x5, x6, x7, x8, x65 => if x65 = true then (some false) else (if 0 ≤ x6 then (if x6 ≤ x7 then (if x7 ≤ (x5.length : Int) then (if 0 ≤ x1 then (if x1 < (x5.length : Int) then ((number_List.f k ((rd_T36 x5 x1).f6)).bind fun t257 => ((proteanref02_Stmts.f ((x5.take (x7 : Int).toNat).drop (x6 : Int).toNat) t257).bind fun t260 => (if t260 = true then (if 0 ≤ x7 then (if x7 ≤ x8 then (if x8 ≤ (x5.length : Int) then ((number_List.f k ((rd_T36 x5 x1).f7)).bind fun t267 => ((proteanref02_Stmts.f ((x5.take (x8 : Int).toNat).drop (x7 : Int).toNat) t267).bind fun t270 => (if t270 = true then ((number_Count.f ((rd_T36 x5 x1).f6)).bind fun t272 => (some (t272 == (wrap64 (x7 - x6))))) else (some false)))) else (none)) else (none)) else (none)) else (some false)))) else (none)) else (none)) else (none)) else (none)) else (none))
end
noncomputable def proteanlaw04_NumberBlocks.f (k : Nat) (l0 : List (S36)) (a1 : Int) : Option (Bool) := (proteanlaw04_deep.f k l0).bind fun t241 => (if t241 = true then ((proteanlaw04_fixed.f).bind fun t242 => (some t242)) else ((number_List.f k l0).bind fun t243 => ((number_Blocks.f l0 a1).bind fun bt246 => ((proteanlaw04_fixed.f).bind fun t249 => (if t249 = true then (if a1 < 0 then (proteanlaw04_NumberBlocks.j0 k a1 t243 bt246.1 bt246.2.1 bt246.2.2 true) else (proteanlaw04_NumberBlocks.j0 k a1 t243 bt246.1 bt246.2.1 bt246.2.2 (decide (a1 ≥ (t243.length : Int))))) else (proteanlaw04_NumberBlocks.j0 k a1 t243 bt246.1 bt246.2.1 bt246.2.2 true))))))
theorem proteanlaw04_NumberBlocks.mono_l : ∀ k, (∀ y0 y1 y2 y3 y4 y5, LeO (proteanlaw04_NumberBlocks.j0 k y0 y1 y2 y3 y4 y5) (proteanlaw04_NumberBlocks.j0 (k + 1) y0 y1 y2 y3 y4 y5)) ∧ (∀ y0 y1 y2 y3 y4 y5, LeO (proteanlaw04_NumberBlocks.j1 k y0 y1 y2 y3 y4 y5) (proteanlaw04_NumberBlocks.j1 (k + 1) y0 y1 y2 y3 y4 y5))
  | 0 => ⟨fun _ _ _ _ _ _ r h => by simp [proteanlaw04_NumberBlocks.j0] at h, fun _ _ _ _ _ _ r h => by simp [proteanlaw04_NumberBlocks.j1] at h⟩
  | k + 1 => by
    obtain ⟨ih0, ih1⟩ := proteanlaw04_NumberBlocks.mono_l k
    refine ⟨?_, ?_⟩
    · intro y0 y1 y2 y3 y4 y5
      unfold proteanlaw04_NumberBlocks.j0
      repeat' first
      | (with_reducible exact ih0 _ _ _ _ _ _)
      | (with_reducible exact ih1 _ _ _ _ _ _)
      | (with_reducible exact number_List.mono _ _)
      | (with_reducible exact proteanlaw04_deep.mono _ _)
      | (with_reducible exact LeO.refl _)
      | (with_reducible exact LeO.none _)
      | (with_reducible refine LeO.ite ?_ ?_)
      | (with_reducible refine LeO.bind ?_ (fun _ => ?_))
      | exact ih0 _ _ _ _ _ _
      | exact ih1 _ _ _ _ _ _
      | exact number_List.mono _ _
      | exact proteanlaw04_deep.mono _ _
      | exact LeO.none _
      | refine LeO.ite ?_ ?_
      | refine LeO.bind ?_ (fun _ => ?_)
    · intro y0 y1 y2 y3 y4 y5
      unfold proteanlaw04_NumberBlocks.j1
      repeat' first
      | (with_reducible exact ih0 _ _ _ _ _ _)
      | (with_reducible exact ih1 _ _ _ _ _ _)
      | (with_reducible exact number_List.mono _ _)
      | (with_reducible exact proteanlaw04_deep.mono _ _)
      | (with_reducible exact LeO.refl _)
      | (with_reducible exact LeO.none _)
      | (with_reducible refine LeO.ite ?_ ?_)
      | (with_reducible refine LeO.bind ?_ (fun _ => ?_))
      | exact ih0 _ _ _ _ _ _
      | exact ih1 _ _ _ _ _ _
      | exact number_List.mono _ _
      | exact proteanlaw04_deep.mono _ _
      | exact LeO.none _
      | refine LeO.ite ?_ ?_
      | refine LeO.bind ?_ (fun _ => ?_)
theorem proteanlaw04_NumberBlocks.mono : ∀ a0 a1 k, LeO (proteanlaw04_NumberBlocks.f k a0 a1) (proteanlaw04_NumberBlocks.f (k + 1) a0 a1) := by
 intro a0 a1 k
 obtain ⟨ih0, ih1⟩ := proteanlaw04_NumberBlocks.mono_l k
 unfold proteanlaw04_NumberBlocks.f
 repeat' first
   | (with_reducible exact ih0 _ _ _ _ _ _)
   | (with_reducible exact ih1 _ _ _ _ _ _)
   | (with_reducible exact number_List.mono _ _)
   | (with_reducible exact proteanlaw04_deep.mono _ _)
   | (with_reducible exact LeO.refl _)
   | (with_reducible exact LeO.none _)
   | (with_reducible refine LeO.ite ?_ ?_)
   | (with_reducible refine LeO.bind ?_ (fun _ => ?_))
   | exact ih0 _ _ _ _ _ _
   | exact ih1 _ _ _ _ _ _
   | exact number_List.mono _ _
   | exact proteanlaw04_deep.mono _ _
   | exact LeO.none _
   | refine LeO.ite ?_ ?_
   | refine LeO.bind ?_ (fun _ => ?_)
def proteanlaw04_NumberBlocks.T9 : Bool × List (List Nat × List Nat) := (true, [([], []), ([], []), ([], []), ([0, 1, 2], [0, 1, 2]), ([], []), ([], []), ([4, 5], [4, 5]), ([6], [6]), ([7], [7]), ([8], [8]), ([3, 9, 9], [3, 9]), ([10, 10], [10]), ([11], [11]), ([11], [11]), ([11], [11]), ([12, 13, 14, 11], [11, 12, 13, 14]), ([11], [11]), ([11], [11]), ([16, 17, 11], [11, 16, 17]), ([18, 11], [11, 18]), ([19, 11], [11, 19]), ([20, 11, 11], [11, 20]), ([15, 21, 21, 11], [11, 15, 21]), ([11, 22], [11, 22]), ([23, 22], [23]), ([24], [24]), ([24], [24]), ([25, 26, 24], [24, 25, 26]), ([27, 24], [24, 27]), ([28, 24], [24, 28]), ([29, 24, 24], [24, 29]), ([24], [24]), ([24], [24]), ([31, 32, 24], [24, 31, 32]), ([30, 33, 24], [24, 30, 33]), ([24, 34], [24, 34]), ([35, 30, 0, 1, 2, 3, 4, 5, 6, 7, 8, 9, 10, 11, 12, 13, 14, 15, 16, 17, 18, 19, 20, 21, 22, 23, 24, 25, 26, 27, 28, 29, 30, 31, 32, 33, 34, 35], [35])])
def proteanlaw04_NumberBlocks.B9 : List Nat := [0, 0, 0, 7, 0, 0, 48, 112, 240, 496, 1023, 2047, 4095, 4095, 4095, 32767, 4095, 4095, 200703, 462847, 987135, 2035711, 4194303, 8388607, 16777215, 33554431, 33554431, 134217727, 268435455, 536870911, 1073741823, 33554431, 33554431, 6476005375, 17179869183, 34359738367, 68719476735]
theorem proteanlaw04_NumberBlocks.tab9 : rtab .any (opsOf Try.f4 9) = proteanlaw04_NumberBlocks.T9 := by kernel_rfl
theorem proteanlaw04_NumberBlocks.bits9 : waitsOk proteanlaw04_NumberBlocks.T9.2 proteanlaw04_NumberBlocks.B9 = true := by kernel_rfl
set_option maxHeartbeats 8000000 in
set_option maxRecDepth 100000 in
theorem proteanlaw04_NumberBlocks.calls (k : Nat) (A0 : Option Addr) (c0 : Nat) (l0 : List (S36)) (a1 : Int) (r : Bool) (w : World) (hr0 : Kd.C k36 w A0 l0.length l0) (hc0 : l0.length ≤ c0) (h : proteanlaw04_NumberBlocks.f k l0 a1 = some r) :
    Calls Try.prog 4 #[.slice A0 l0.length c0, .int .i64 a1] w fun e w' => e = .returned (.bool r) ∧ Below w.heap.size w w' := by
 have HR0 := Aside0.mk hr0
 have HC0 := Aside0.mk hc0
 clear hr0 hc0
 have HB := Aside0.mk (Below.refl w.heap.size w)
 have H : ((proteanlaw04_deep.f k l0).bind fun t241 => (if t241 = true then ((proteanlaw04_fixed.f).bind fun t242 => (some t242)) else ((number_List.f k l0).bind fun t243 => ((number_Blocks.f l0 a1).bind fun bt246 => ((proteanlaw04_fixed.f).bind fun t249 => (if t249 = true then (if a1 < 0 then (proteanlaw04_NumberBlocks.j0 k a1 t243 bt246.1 bt246.2.1 bt246.2.2 true) else (proteanlaw04_NumberBlocks.j0 k a1 t243 bt246.1 bt246.2.1 bt246.2.2 (decide (a1 ≥ (t243.length : Int))))) else (proteanlaw04_NumberBlocks.j0 k a1 t243 bt246.1 bt246.2.1 bt246.2.2 true))))))) = some r := h
 clear h
 replace H := Option.bind_eq_some_iff.mp H
 obtain ⟨t241, A30, H⟩ := H
 replace H : (if t241 = true then ((proteanlaw04_fixed.f).bind fun t242 => (some t242)) else ((number_List.f k l0).bind fun t243 => ((number_Blocks.f l0 a1).bind fun bt246 => ((proteanlaw04_fixed.f).bind fun t249 => (if t249 = true then (if a1 < 0 then (proteanlaw04_NumberBlocks.j0 k a1 t243 bt246.1 bt246.2.1 bt246.2.2 true) else (proteanlaw04_NumberBlocks.j0 k a1 t243 bt246.1 bt246.2.1 bt246.2.2 (decide (a1 ≥ (t243.length : Int))))) else (proteanlaw04_NumberBlocks.j0 k a1 t243 bt246.1 bt246.2.1 bt246.2.2 true)))))) = some r := H
 have A3 := Aside0.mk A30
 clear A30
 by_cases c4 : t241 = true
 ·subst c4
  have H1 : ((proteanlaw04_fixed.f).bind fun t242 => (some t242)) = some r := by rw [if_pos rfl] at H; exact H
  clear H
  have H := H1
  clear H1
  replace H := Option.bind_eq_some_iff.mp H
  obtain ⟨t242, A50, H⟩ := H
  replace H : (some t242) = some r := H
  have A5 := Aside0.mk A50
  clear A50
  obtain rfl := Option.some.inj H
  go_enter Try.func4, Try.ntmps4
  go_wp2_with (first | ((with_reducible refine gate_callee (f := 8) rfl ?_); refine goesL_ (some 10) rfl rfl Try.func8 (by kernel_rfl) rfl #[.slice A0 l0.length c0] rfl (by (try simp only [List.map_toArray, List.map_cons, List.map_nil]); first | done | rfl | (simp only [List.length_drop, List.length_take]; rfl)) ?_; (with_reducible refine (proteanlaw04_deep.calls k (fun k_ => k_ < w.heap.size) _ _ l0 true _ ?side1 A3.out).mono ?_); (case side1 => exact Kd.V_mk HC0.out (Kd.F_below (Kd.C_F k36_heap HR0.out) (by repeat (first | (with_reducible first | exact HB.out | apply below_alloc | apply pw_below_drewN | apply below_drew1) | exact HB.out)))); rintro e w6 ⟨rfl, hb⟩; refine ⟨_, rfl, ?_⟩; have n0_ := Aside0.mk (below_step (by repeat (first | (with_reducible first | exact HB.out | apply below_alloc | apply pw_below_drewN | apply below_drew1) | exact HB.out)) hb); clear HB; have HB := n0_; clear n0_; (try clear hb); (try clear hb2); (try clear hk); (try clear hi)) | ((with_reducible refine gate_callee (f := 9) rfl ?_); refine goesL_ (some 11) rfl rfl Try.func9 (by kernel_rfl) rfl #[] rfl (by (try simp only [List.map_toArray, List.map_cons, List.map_nil]); first | done | rfl | (simp only [List.length_drop, List.length_take]; rfl)) ?_; (with_reducible refine (proteanlaw04_fixed.calls  t242 _ A5.out).mono ?_); rintro e w7 ⟨rfl, hb⟩; refine ⟨_, rfl, ?_⟩; have n0_ := Aside0.mk (below_step (by repeat (first | (with_reducible first | exact HB.out | apply below_alloc | apply pw_below_drewN | apply below_drew1) | exact HB.out)) hb); clear HB; have HB := n0_; clear n0_; (try clear hb); (try clear hb2); (try clear hk); (try clear hi)))
  go_ret
  exact ⟨by first | rfl | (simp [errW_none, errW_some] <;> rfl) | (simp [*, errW_none, errW_some] <;> rfl), by repeat (first | (with_reducible first | exact HB.out | apply below_alloc | apply pw_below_drewN | apply below_drew1) | exact HB.out)⟩
 ·replace c4 := Bool.eq_false_iff.mpr c4
  subst c4
  have H1 : ((number_List.f k l0).bind fun t243 => ((number_Blocks.f l0 a1).bind fun bt246 => ((proteanlaw04_fixed.f).bind fun t249 => (if t249 = true then (if a1 < 0 then (proteanlaw04_NumberBlocks.j0 k a1 t243 bt246.1 bt246.2.1 bt246.2.2 true) else (proteanlaw04_NumberBlocks.j0 k a1 t243 bt246.1 bt246.2.1 bt246.2.2 (decide (a1 ≥ (t243.length : Int))))) else (proteanlaw04_NumberBlocks.j0 k a1 t243 bt246.1 bt246.2.1 bt246.2.2 true))))) = some r := by rw [if_neg (show ¬ (false = true) by decide)] at H; exact H
  clear H
  have H := H1
  clear H1
  replace H := Option.bind_eq_some_iff.mp H
  obtain ⟨t243, A80, H⟩ := H
  replace H : ((number_Blocks.f l0 a1).bind fun bt246 => ((proteanlaw04_fixed.f).bind fun t249 => (if t249 = true then (if a1 < 0 then (proteanlaw04_NumberBlocks.j0 k a1 t243 bt246.1 bt246.2.1 bt246.2.2 true) else (proteanlaw04_NumberBlocks.j0 k a1 t243 bt246.1 bt246.2.1 bt246.2.2 (decide (a1 ≥ (t243.length : Int))))) else (proteanlaw04_NumberBlocks.j0 k a1 t243 bt246.1 bt246.2.1 bt246.2.2 true)))) = some r := H
  have A8 := Aside0.mk A80
  clear A80
  replace H := Option.bind_eq_some_iff.mp H
  obtain ⟨⟨t246, t247, t248⟩, A90, H⟩ := H
  replace H : ((proteanlaw04_fixed.f).bind fun t249 => (if t249 = true then (if a1 < 0 then (proteanlaw04_NumberBlocks.j0 k a1 t243 t246 t247 t248 true) else (proteanlaw04_NumberBlocks.j0 k a1 t243 t246 t247 t248 (decide (a1 ≥ (t243.length : Int))))) else (proteanlaw04_NumberBlocks.j0 k a1 t243 t246 t247 t248 true))) = some r := H
  have A9 := Aside0.mk A90
  clear A90
  have HC10 := Aside0.mk H
  clear H
  go_enter Try.func4, Try.ntmps4
  go_upto_region 5 with (first | ((with_reducible refine gate_callee (f := 8) rfl ?_); refine goesL_ (some 10) rfl rfl Try.func8 (by kernel_rfl) rfl #[.slice A0 l0.length c0] rfl (by (try simp only [List.map_toArray, List.map_cons, List.map_nil]); first | done | rfl | (simp only [List.length_drop, List.length_take]; rfl)) ?_; (with_reducible refine (proteanlaw04_deep.calls k (fun k_ => k_ < w.heap.size) _ _ l0 false _ ?side1 A3.out).mono ?_); (case side1 => exact Kd.V_mk HC0.out (Kd.F_below (Kd.C_F k36_heap HR0.out) (by repeat (first | (with_reducible first | exact HB.out | apply below_alloc | apply pw_below_drewN | apply below_drew1) | exact HB.out)))); rintro e w11 ⟨rfl, hb⟩; refine ⟨_, rfl, ?_⟩; have n0_ := Aside0.mk (below_step (by repeat (first | (with_reducible first | exact HB.out | apply below_alloc | apply pw_below_drewN | apply below_drew1) | exact HB.out)) hb); clear HB; have HB := n0_; clear n0_; (try clear hb); (try clear hb2); (try clear hk); (try clear hi)) | ((with_reducible refine gate_callee (f := 16) rfl ?_); refine goesL_ (some 13) rfl rfl Try.func16 (by kernel_rfl) rfl #[.slice A0 l0.length c0] rfl (by (try simp only [List.map_toArray, List.map_cons, List.map_nil]); first | done | rfl | (simp only [List.length_drop, List.length_take]; rfl)) ?_; (with_reducible refine (number_List.calls k (fun k_ => k_ < w.heap.size) _ _ l0 t243 _ ?side1 A8.out).mono ?_); (case side1 => exact Kd.V_mk HC0.out (Kd.F_below (Kd.C_F k36_heap HR0.out) (by repeat (first | (with_reducible first | exact HB.out | apply below_alloc | apply pw_below_drewN | apply below_drew1) | exact HB.out)))); rintro e w12 ⟨v244, rfl, ho0, hb⟩; refine ⟨_, rfl, ?_⟩; have n0_ := Aside0.mk (Kd.N_lower (Kd.N_mono (ok' := fun k_ => True) ho0 (fun k_ hk_ => trivial)) (below_size (by repeat (first | (with_reducible first | exact HB.out | apply below_alloc | apply pw_below_drewN | apply below_drew1) | exact HB.out)))); have n1_ := Aside0.mk (below_step (by repeat (first | (with_reducible first | exact HB.out | apply below_alloc | apply pw_below_drewN | apply below_drew1) | exact HB.out)) hb); clear HB; have HO245 := n0_; have HB := n1_; clear n0_ n1_; (try clear hb); (try clear hb2); (try clear hk); (try clear hi); (try clear ho0)) | ((with_reducible refine gate_callee (f := 12) rfl ?_); refine goesL_ (some 17) rfl rfl Try.func12 (by kernel_rfl) rfl #[.slice A0 l0.length c0, .int .i64 a1] rfl (by (try simp only [List.map_toArray, List.map_cons, List.map_nil]); first | done | rfl | (simp only [List.length_drop, List.length_take]; rfl)) ?_; (with_reducible refine (number_Blocks.calls _ _ l0 a1 t246 t247 t248 _ ?side1 ?side2 A9.out).mono ?_); (case side1 => repeat (first | exact (Kd.C_below HR0.out HB.out) | (with_reducible refine Kd.C_alloc ?_ _) | (with_reducible refine Kd.C_drewN ?_ _) | (with_reducible refine Kd.C_drew ?_))); (case side2 => exact HC0.out); rintro e w13 ⟨rfl, hb⟩; refine ⟨_, rfl, ?_⟩; have n0_ := Aside0.mk (Kd.N_below (by (with_reducible repeat (first | apply Kd.N_alloc | apply Kd.N_drewN | apply Kd.N_drew)); exact HO245.out) hb); have n1_ := Aside0.mk (below_step (by repeat (first | (with_reducible first | exact HB.out | apply below_alloc | apply pw_below_drewN | apply below_drew1) | exact HB.out)) hb); clear HO245; clear HB; have HO245 := n0_; have HB := n1_; clear n0_ n1_; (try clear hb); (try clear hb2); (try clear hk); (try clear hi)))
  (try simp only [Act.put, List.setIfInBounds_toArray, List.set_cons_zero, List.set_cons_succ])
  go_cut [32] (fun v32 wc => ∃ (kq : Nat) (x32_9 : Bool), v32 = .bool x32_9 ∧ Aside0 (proteanlaw04_NumberBlocks.j0 kq a1 t243 t246 t247 t248 x32_9 = some r) ∧ Aside0 (kq ≤ k) ∧ Aside0 (Kd.N k36 36 wc w.heap.size (fun _ => True) v244 t243) ∧ Aside0 (Below w.heap.size w wc))
  case first =>
   have H := HC10.out
   clear HC10
   replace H := Option.bind_eq_some_iff.mp H
   obtain ⟨t249, A140, H⟩ := H
   replace H : (if t249 = true then (if a1 < 0 then (proteanlaw04_NumberBlocks.j0 k a1 t243 t246 t247 t248 true) else (proteanlaw04_NumberBlocks.j0 k a1 t243 t246 t247 t248 (decide (a1 ≥ (t243.length : Int))))) else (proteanlaw04_NumberBlocks.j0 k a1 t243 t246 t247 t248 true)) = some r := H
   have A14 := Aside0.mk A140
   clear A140
   by_cases c15 : t249 = true
   ·subst c15
    have H1 : (if a1 < 0 then (proteanlaw04_NumberBlocks.j0 k a1 t243 t246 t247 t248 true) else (proteanlaw04_NumberBlocks.j0 k a1 t243 t246 t247 t248 (decide (a1 ≥ (t243.length : Int))))) = some r := by rw [if_pos rfl] at H; exact H
    clear H
    have H := H1
    clear H1
    by_cases c16 : a1 < 0
    ·rw [if_pos c16] at H
     have c16b0 : decide (a1 < 0) = true := decide_eq_true c16
     clear c16
     (first | rw [c16b0] | (simp only [i64_w, i32_w]; rw [c16b0]) | skip)
     have H' := Aside0.mk H
     clear H
     go_wp2_with (first | ((with_reducible refine gate_callee (f := 9) rfl ?_); refine goesL_ (some 21) rfl rfl Try.func9 (by kernel_rfl) rfl #[] rfl (by (try simp only [List.map_toArray, List.map_cons, List.map_nil]); first | done | rfl | (simp only [List.length_drop, List.length_take]; rfl)) ?_; (with_reducible refine (proteanlaw04_fixed.calls  true _ A14.out).mono ?_); rintro e w17 ⟨rfl, hb⟩; refine ⟨_, rfl, ?_⟩; have n0_ := Aside0.mk (Kd.N_below (by (with_reducible repeat (first | apply Kd.N_alloc | apply Kd.N_drewN | apply Kd.N_drew)); exact HO245.out) hb); have n1_ := Aside0.mk (below_step (by repeat (first | (with_reducible first | exact HB.out | apply below_alloc | apply pw_below_drewN | apply below_drew1) | exact HB.out)) hb); clear HO245; clear HB; have HO245 := n0_; have HB := n1_; clear n0_ n1_; (try clear hb); (try clear hb2); (try clear hk); (try clear hi)))
     go_meet
     case rel => exact ⟨_, (true), (by first | rfl | (simp; done) | (simp [*]; done)), H', ⟨by first | omega | exact Nat.le_refl _⟩, ⟨by (with_reducible repeat (first | apply Kd.N_alloc | apply Kd.N_drewN | apply Kd.N_drew)); exact HO245.out⟩, ⟨by repeat (first | (with_reducible first | exact HB.out | apply below_alloc | apply pw_below_drewN | apply below_drew1) | exact HB.out)⟩⟩
    ·rw [if_neg c16] at H
     have c16b0 : decide (a1 < 0) = false := decide_eq_false c16
     clear c16
     (first | rw [c16b0] | (simp only [i64_w, i32_w]; rw [c16b0]) | skip)
     have H' := Aside0.mk H
     clear H
     go_wp2_with (first | ((with_reducible refine gate_callee (f := 9) rfl ?_); refine goesL_ (some 21) rfl rfl Try.func9 (by kernel_rfl) rfl #[] rfl (by (try simp only [List.map_toArray, List.map_cons, List.map_nil]); first | done | rfl | (simp only [List.length_drop, List.length_take]; rfl)) ?_; (with_reducible refine (proteanlaw04_fixed.calls  true _ A14.out).mono ?_); rintro e w18 ⟨rfl, hb⟩; refine ⟨_, rfl, ?_⟩; have n0_ := Aside0.mk (Kd.N_below (by (with_reducible repeat (first | apply Kd.N_alloc | apply Kd.N_drewN | apply Kd.N_drew)); exact HO245.out) hb); have n1_ := Aside0.mk (below_step (by repeat (first | (with_reducible first | exact HB.out | apply below_alloc | apply pw_below_drewN | apply below_drew1) | exact HB.out)) hb); clear HO245; clear HB; have HO245 := n0_; have HB := n1_; clear n0_ n1_; (try clear hb); (try clear hb2); (try clear hk); (try clear hi); obtain ⟨Ao19, co19, eo19⟩ := Kd.N_slice HO245.out; subst eo19))
     go_meet
     case rel => exact ⟨_, (decide (a1 ≥ (t243.length : Int))), (by first | rfl | (simp; done) | (simp [*]; done)), H', ⟨by first | omega | exact Nat.le_refl _⟩, ⟨by (with_reducible repeat (first | apply Kd.N_alloc | apply Kd.N_drewN | apply Kd.N_drew)); exact HO245.out⟩, ⟨by repeat (first | (with_reducible first | exact HB.out | apply below_alloc | apply pw_below_drewN | apply below_drew1) | exact HB.out)⟩⟩
   ·replace c15 := Bool.eq_false_iff.mpr c15
    subst c15
    have H1 : (proteanlaw04_NumberBlocks.j0 k a1 t243 t246 t247 t248 true) = some r := by rw [if_neg (show ¬ (false = true) by decide)] at H; exact H
    clear H
    have H := H1
    clear H1
    have H' := Aside0.mk H
    clear H
    go_wp2_with (first | ((with_reducible refine gate_callee (f := 9) rfl ?_); refine goesL_ (some 21) rfl rfl Try.func9 (by kernel_rfl) rfl #[] rfl (by (try simp only [List.map_toArray, List.map_cons, List.map_nil]); first | done | rfl | (simp only [List.length_drop, List.length_take]; rfl)) ?_; (with_reducible refine (proteanlaw04_fixed.calls  false _ A14.out).mono ?_); rintro e w20 ⟨rfl, hb⟩; refine ⟨_, rfl, ?_⟩; have n0_ := Aside0.mk (Kd.N_below (by (with_reducible repeat (first | apply Kd.N_alloc | apply Kd.N_drewN | apply Kd.N_drew)); exact HO245.out) hb); have n1_ := Aside0.mk (below_step (by repeat (first | (with_reducible first | exact HB.out | apply below_alloc | apply pw_below_drewN | apply below_drew1) | exact HB.out)) hb); clear HO245; clear HB; have HO245 := n0_; have HB := n1_; clear n0_ n1_; (try clear hb); (try clear hb2); (try clear hk); (try clear hi)))
    go_meet
    case rel => exact ⟨_, (true), (by first | rfl | (simp; done) | (simp [*]; done)), H', ⟨by first | omega | exact Nat.le_refl _⟩, ⟨by (with_reducible repeat (first | apply Kd.N_alloc | apply Kd.N_drewN | apply Kd.N_drew)); exact HO245.out⟩, ⟨by repeat (first | (with_reducible first | exact HB.out | apply below_alloc | apply pw_below_drewN | apply below_drew1) | exact HB.out)⟩⟩
  case rest =>
   clear HC10
   try clear c1
   try clear p2
   try clear c4
   try clear c8
   try clear c9
   try clear c12
   try clear c15
   try clear c16
   try clear c16b0
   obtain ⟨kq, x32_9, rfl, HA, HJ9, HO_5, HB⟩ := hcut
   cases kq with
   | zero => exact absurd HA.out (by simp [proteanlaw04_NumberBlocks.j0])
   | succ kj9 =>
    have H := HA.out
    clear HA
    simp only [proteanlaw04_NumberBlocks.j0] at H
    by_cases c21 : x32_9 = true
    ·subst c21
     have H1 : ((proteanlaw04_fixed.f).bind fun t250 => (if t250 = true then (if t246 = (-1) then (if t247 = (-1) then (some (t248 == (-1))) else (some false)) else (some false)) else (some false))) = some r := by rw [if_pos rfl] at H; exact H
     clear H
     have H := H1
     clear H1
     replace H := Option.bind_eq_some_iff.mp H
     obtain ⟨t250, A220, H⟩ := H
     replace H : (if t250 = true then (if t246 = (-1) then (if t247 = (-1) then (some (t248 == (-1))) else (some false)) else (some false)) else (some false)) = some r := H
     have A22 := Aside0.mk A220
     clear A220
     by_cases c23 : t250 = true
     ·subst c23
      have H1 : (if t246 = (-1) then (if t247 = (-1) then (some (t248 == (-1))) else (some false)) else (some false)) = some r := by rw [if_pos rfl] at H; exact H
      clear H
      have H := H1
      clear H1
      by_cases c24 : t246 = (-1)
      ·rw [if_pos c24] at H
       have c24b0 : (t246 == (-1)) = true := beq_iff_eq.mpr c24
       have c24b1 : (t246 != (-1)) = false := bne_eq_false_iff_eq.mpr c24
       clear c24
       by_cases c25 : t247 = (-1)
       ·rw [if_pos c25] at H
        have c25b0 : (t247 == (-1)) = true := beq_iff_eq.mpr c25
        have c25b1 : (t247 != (-1)) = false := bne_eq_false_iff_eq.mpr c25
        clear c25
        obtain rfl := Option.some.inj H
        go_wp2_with (first | ((with_reducible refine gate_callee (f := 9) rfl ?_); refine goesL_ (some 33) rfl rfl Try.func9 (by kernel_rfl) rfl #[] rfl (by (try simp only [List.map_toArray, List.map_cons, List.map_nil]); first | done | rfl | (simp only [List.length_drop, List.length_take]; rfl)) ?_; (with_reducible refine (proteanlaw04_fixed.calls  true _ A22.out).mono ?_); rintro e w26 ⟨rfl, hb⟩; refine ⟨_, rfl, ?_⟩; have n0_ := Aside0.mk (Kd.N_below (by (with_reducible repeat (first | apply Kd.N_alloc | apply Kd.N_drewN | apply Kd.N_drew)); exact HO_5.out) hb); have n1_ := Aside0.mk (below_step (by repeat (first | (with_reducible first | exact HB.out | apply below_alloc | apply pw_below_drewN | apply below_drew1) | exact HB.out)) hb); clear HO_5; clear HB; have HO_5 := n0_; have HB := n1_; clear n0_ n1_; (try clear hb); (try clear hb2); (try clear hk); (try clear hi)))
        go_ret
        exact ⟨by first | rfl | (simp [errW_none, errW_some] <;> rfl) | (simp [*, errW_none, errW_some] <;> rfl), by repeat (first | (with_reducible first | exact HB.out | apply below_alloc | apply pw_below_drewN | apply below_drew1) | exact HB.out)⟩
       ·rw [if_neg c25] at H
        have c25b0 : (t247 == (-1)) = false := beq_eq_false_iff_ne.mpr c25
        have c25b1 : (t247 != (-1)) = true := bne_iff_ne.mpr c25
        obtain rfl := Option.some.inj H
        go_wp2_with (first | ((with_reducible refine gate_callee (f := 9) rfl ?_); refine goesL_ (some 33) rfl rfl Try.func9 (by kernel_rfl) rfl #[] rfl (by (try simp only [List.map_toArray, List.map_cons, List.map_nil]); first | done | rfl | (simp only [List.length_drop, List.length_take]; rfl)) ?_; (with_reducible refine (proteanlaw04_fixed.calls  true _ A22.out).mono ?_); rintro e w27 ⟨rfl, hb⟩; refine ⟨_, rfl, ?_⟩; have n0_ := Aside0.mk (Kd.N_below (by (with_reducible repeat (first | apply Kd.N_alloc | apply Kd.N_drewN | apply Kd.N_drew)); exact HO_5.out) hb); have n1_ := Aside0.mk (below_step (by repeat (first | (with_reducible first | exact HB.out | apply below_alloc | apply pw_below_drewN | apply below_drew1) | exact HB.out)) hb); clear HO_5; clear HB; have HO_5 := n0_; have HB := n1_; clear n0_ n1_; (try clear hb); (try clear hb2); (try clear hk); (try clear hi)))
        go_ret
        exact ⟨by first | rfl | (simp [errW_none, errW_some] <;> rfl) | (simp [*, errW_none, errW_some] <;> rfl), by repeat (first | (with_reducible first | exact HB.out | apply below_alloc | apply pw_below_drewN | apply below_drew1) | exact HB.out)⟩
      ·rw [if_neg c24] at H
       have c24b0 : (t246 == (-1)) = false := beq_eq_false_iff_ne.mpr c24
       have c24b1 : (t246 != (-1)) = true := bne_iff_ne.mpr c24
       obtain rfl := Option.some.inj H
       go_wp2_with (first | ((with_reducible refine gate_callee (f := 9) rfl ?_); refine goesL_ (some 33) rfl rfl Try.func9 (by kernel_rfl) rfl #[] rfl (by (try simp only [List.map_toArray, List.map_cons, List.map_nil]); first | done | rfl | (simp only [List.length_drop, List.length_take]; rfl)) ?_; (with_reducible refine (proteanlaw04_fixed.calls  true _ A22.out).mono ?_); rintro e w28 ⟨rfl, hb⟩; refine ⟨_, rfl, ?_⟩; have n0_ := Aside0.mk (Kd.N_below (by (with_reducible repeat (first | apply Kd.N_alloc | apply Kd.N_drewN | apply Kd.N_drew)); exact HO_5.out) hb); have n1_ := Aside0.mk (below_step (by repeat (first | (with_reducible first | exact HB.out | apply below_alloc | apply pw_below_drewN | apply below_drew1) | exact HB.out)) hb); clear HO_5; clear HB; have HO_5 := n0_; have HB := n1_; clear n0_ n1_; (try clear hb); (try clear hb2); (try clear hk); (try clear hi)))
       go_ret
       exact ⟨by first | rfl | (simp [errW_none, errW_some] <;> rfl) | (simp [*, errW_none, errW_some] <;> rfl), by repeat (first | (with_reducible first | exact HB.out | apply below_alloc | apply pw_below_drewN | apply below_drew1) | exact HB.out)⟩
     ·replace c23 := Bool.eq_false_iff.mpr c23
      subst c23
      have H1 : (some false) = some r := by rw [if_neg (show ¬ (false = true) by decide)] at H; exact H
      clear H
      have H := H1
      clear H1
      obtain rfl := Option.some.inj H
      go_wp2_with (first | ((with_reducible refine gate_callee (f := 9) rfl ?_); refine goesL_ (some 33) rfl rfl Try.func9 (by kernel_rfl) rfl #[] rfl (by (try simp only [List.map_toArray, List.map_cons, List.map_nil]); first | done | rfl | (simp only [List.length_drop, List.length_take]; rfl)) ?_; (with_reducible refine (proteanlaw04_fixed.calls  false _ A22.out).mono ?_); rintro e w29 ⟨rfl, hb⟩; refine ⟨_, rfl, ?_⟩; have n0_ := Aside0.mk (Kd.N_below (by (with_reducible repeat (first | apply Kd.N_alloc | apply Kd.N_drewN | apply Kd.N_drew)); exact HO_5.out) hb); have n1_ := Aside0.mk (below_step (by repeat (first | (with_reducible first | exact HB.out | apply below_alloc | apply pw_below_drewN | apply below_drew1) | exact HB.out)) hb); clear HO_5; clear HB; have HO_5 := n0_; have HB := n1_; clear n0_ n1_; (try clear hb); (try clear hb2); (try clear hk); (try clear hi)))
      go_ret
      exact ⟨by first | rfl | (simp [errW_none, errW_some] <;> rfl) | (simp [*, errW_none, errW_some] <;> rfl), by repeat (first | (with_reducible first | exact HB.out | apply below_alloc | apply pw_below_drewN | apply below_drew1) | exact HB.out)⟩
    ·replace c21 := Bool.eq_false_iff.mpr c21
     subst c21
     have H1 : (if t246 = (wrap64 (a1 + 1)) then (if t247 < t246 then (proteanlaw04_NumberBlocks.j1 kj9 a1 t243 t246 t247 t248 true) else (if t248 < t247 then (proteanlaw04_NumberBlocks.j1 kj9 a1 t243 t246 t247 t248 true) else (proteanlaw04_NumberBlocks.j1 kj9 a1 t243 t246 t247 t248 (decide (t248 > (t243.length : Int)))))) else (proteanlaw04_NumberBlocks.j1 kj9 a1 t243 t246 t247 t248 true)) = some r := by rw [if_neg (show ¬ (false = true) by decide)] at H; exact H
     clear H
     have H := H1
     clear H1
     have HC30 := Aside0.mk H
     clear H
     go_upto_region 7 with (fail)
     go_cut [65] (fun v65 wc => ∃ (kq : Nat) (x65_29 : Bool), v65 = .bool x65_29 ∧ Aside0 (proteanlaw04_NumberBlocks.j1 kq a1 t243 t246 t247 t248 x65_29 = some r) ∧ Aside0 (kq ≤ kj9) ∧ Aside0 (Kd.N k36 36 wc w.heap.size (fun _ => True) v244 t243) ∧ Aside0 (Below w.heap.size w wc))
     case first =>
      have H := HC30.out
      clear HC30
      by_cases c31 : t246 = (wrap64 (a1 + 1))
      ·rw [if_pos c31] at H
       have c31b0 : (t246 == (wrap64 (a1 + 1))) = true := beq_iff_eq.mpr c31
       have c31b1 : (t246 != (wrap64 (a1 + 1))) = false := bne_eq_false_iff_eq.mpr c31
       clear c31
       (first | rw [c31b0] | (simp only [i64_w, i32_w]; rw [c31b0]) | skip)
       by_cases c32 : t247 < t246
       ·rw [if_pos c32] at H
        have c32b0 : decide (t247 < t246) = true := decide_eq_true c32
        clear c32
        have H' := Aside0.mk H
        clear H
        go_wp2
        go_meet
        case rel => exact ⟨_, (true), (by first | rfl | (simp; done) | (simp [*]; done)), H', ⟨by have := HJ9.out; first | omega | exact Nat.le_refl _⟩, ⟨by (with_reducible repeat (first | apply Kd.N_alloc | apply Kd.N_drewN | apply Kd.N_drew)); exact HO_5.out⟩, ⟨by repeat (first | (with_reducible first | exact HB.out | apply below_alloc | apply pw_below_drewN | apply below_drew1) | exact HB.out)⟩⟩
       ·rw [if_neg c32] at H
        have c32b0 : decide (t247 < t246) = false := decide_eq_false c32
        clear c32
        by_cases c33 : t248 < t247
        ·rw [if_pos c33] at H
         have c33b0 : decide (t248 < t247) = true := decide_eq_true c33
         clear c33
         have H' := Aside0.mk H
         clear H
         go_wp2
         go_meet
         case rel => exact ⟨_, (true), (by first | rfl | (simp; done) | (simp [*]; done)), H', ⟨by have := HJ9.out; first | omega | exact Nat.le_refl _⟩, ⟨by (with_reducible repeat (first | apply Kd.N_alloc | apply Kd.N_drewN | apply Kd.N_drew)); exact HO_5.out⟩, ⟨by repeat (first | (with_reducible first | exact HB.out | apply below_alloc | apply pw_below_drewN | apply below_drew1) | exact HB.out)⟩⟩
        ·rw [if_neg c33] at H
         have c33b0 : decide (t248 < t247) = false := decide_eq_false c33
         clear c33
         have H' := Aside0.mk H
         clear H
         obtain ⟨Ao34, co34, eo34⟩ := Kd.N_slice HO_5.out
         subst eo34
         go_wp2
         go_meet
         case rel => exact ⟨_, (decide (t248 > (t243.length : Int))), (by first | rfl | (simp; done) | (simp [*]; done)), H', ⟨by have := HJ9.out; first | omega | exact Nat.le_refl _⟩, ⟨by (with_reducible repeat (first | apply Kd.N_alloc | apply Kd.N_drewN | apply Kd.N_drew)); exact HO_5.out⟩, ⟨by repeat (first | (with_reducible first | exact HB.out | apply below_alloc | apply pw_below_drewN | apply below_drew1) | exact HB.out)⟩⟩
      ·rw [if_neg c31] at H
       have c31b0 : (t246 == (wrap64 (a1 + 1))) = false := beq_eq_false_iff_ne.mpr c31
       have c31b1 : (t246 != (wrap64 (a1 + 1))) = true := bne_iff_ne.mpr c31
       (first | rw [c31b0] | (simp only [i64_w, i32_w]; rw [c31b0]) | skip)
       have H' := Aside0.mk H
       clear H
       go_wp2
       go_meet
       case rel => exact ⟨_, (true), (by first | rfl | (simp; done) | (simp [*]; done)), H', ⟨by have := HJ9.out; first | omega | exact Nat.le_refl _⟩, ⟨by (with_reducible repeat (first | apply Kd.N_alloc | apply Kd.N_drewN | apply Kd.N_drew)); exact HO_5.out⟩, ⟨by repeat (first | (with_reducible first | exact HB.out | apply below_alloc | apply pw_below_drewN | apply below_drew1) | exact HB.out)⟩⟩
     case rest =>
      clear HC30
      try clear c1
      try clear c2
      try clear p2
      try clear c3
      try clear c4
      try clear p6
      try clear c8
      try clear c9
      try clear c12
      try clear c15
      try clear c16
      try clear c16b0
      try clear c21
      try clear c23
      try clear c24
      try clear c24b0
      try clear c24b1
      try clear c25
      try clear c25b0
      try clear c25b1
      try clear c31
      try clear c31b0
      try clear c31b1
      try clear c32
      try clear c32b0
      try clear c33
      try clear c33b0
      try clear p2
      obtain ⟨kq, x65_29, rfl, HA, HJ29, HO_5, HB⟩ := hcut
      cases kq with
      | zero => exact absurd HA.out (by simp [proteanlaw04_NumberBlocks.j1])
      | succ kj29 =>
       have H := HA.out
       clear HA
       simp only [proteanlaw04_NumberBlocks.j1] at H
       by_cases c35 : x65_29 = true
       ·subst c35
        have H1 : (some false) = some r := by rw [if_pos rfl] at H; exact H
        clear H
        have H := H1
        clear H1
        obtain rfl := Option.some.inj H
        go_wp2
        go_ret
        exact ⟨by first | rfl | (simp [errW_none, errW_some] <;> rfl) | (simp [*, errW_none, errW_some] <;> rfl), by repeat (first | (with_reducible first | exact HB.out | apply below_alloc | apply pw_below_drewN | apply below_drew1) | exact HB.out)⟩
       ·replace c35 := Bool.eq_false_iff.mpr c35
        subst c35
        have H1 : (if 0 ≤ t246 then (if t246 ≤ t247 then (if t247 ≤ (t243.length : Int) then (if 0 ≤ a1 then (if a1 < (t243.length : Int) then ((number_List.f kj29 ((rd_T36 t243 a1).f6)).bind fun t257 => ((proteanref02_Stmts.f ((t243.take (t247 : Int).toNat).drop (t246 : Int).toNat) t257).bind fun t260 => (if t260 = true then (if 0 ≤ t247 then (if t247 ≤ t248 then (if t248 ≤ (t243.length : Int) then ((number_List.f kj29 ((rd_T36 t243 a1).f7)).bind fun t267 => ((proteanref02_Stmts.f ((t243.take (t248 : Int).toNat).drop (t247 : Int).toNat) t267).bind fun t270 => (if t270 = true then ((number_Count.f ((rd_T36 t243 a1).f6)).bind fun t272 => (some (t272 == (wrap64 (t247 - t246))))) else (some false)))) else (none)) else (none)) else (none)) else (some false)))) else (none)) else (none)) else (none)) else (none)) else (none)) = some r := by rw [if_neg (show ¬ (false = true) by decide)] at H; exact H
        clear H
        have H := H1
        clear H1
        by_cases c36 : 0 ≤ t246
        ·rw [if_pos c36] at H
         have c36b0 := eq_true c36
         have c36b1 : decide (0 ≤ t246) = true := decide_eq_true c36
         clear c36
         by_cases c37 : t246 ≤ t247
         ·rw [if_pos c37] at H
          have c37b0 := eq_true c37
          have c37b1 : decide (t246 ≤ t247) = true := decide_eq_true c37
          clear c37
          by_cases c38 : t247 ≤ (t243.length : Int)
          ·rw [if_pos c38] at H
           have c38b0 := eq_true c38
           have c38b1 : decide (t247 ≤ (t243.length : Int)) = true := decide_eq_true c38
           clear c38
           obtain ⟨y251, hy251⟩ : ∃ y_ : List (S36), y_ = ((t243.take (t247 : Int).toNat).drop (t246 : Int).toNat) := ⟨_, rfl⟩
           replace H : (if 0 ≤ a1 then (if a1 < (t243.length : Int) then ((number_List.f kj29 ((rd_T36 t243 a1).f6)).bind fun t257 => ((proteanref02_Stmts.f y251 t257).bind fun t260 => (if t260 = true then (if 0 ≤ t247 then (if t247 ≤ t248 then (if t248 ≤ (t243.length : Int) then ((number_List.f kj29 ((rd_T36 t243 a1).f7)).bind fun t267 => ((proteanref02_Stmts.f ((t243.take (t248 : Int).toNat).drop (t247 : Int).toNat) t267).bind fun t270 => (if t270 = true then ((number_Count.f ((rd_T36 t243 a1).f6)).bind fun t272 => (some (t272 == (wrap64 (t247 - t246))))) else (some false)))) else (none)) else (none)) else (none)) else (some false)))) else (none)) else (none)) = some r := by first | (rw [hy251]; with_reducible exact H) | (have H2_ := (Option.bind_some _ _).symm.trans H; rw [hy251]; with_reducible exact H2_) | (have H2_ := (Option.bind_some _ _).symm.trans H; with_reducible exact H2_) | with_reducible exact H | (rw [hy251]; exact H) | exact H
           have Ny251 := Aside0.mk hy251
           clear hy251
           by_cases c39 : 0 ≤ a1
           ·rw [if_pos c39] at H
            have c39b0 : decide (0 ≤ a1) = true := decide_eq_true c39
            clear c39
            by_cases c40 : a1 < (t243.length : Int)
            ·rw [if_pos c40] at H
             have c40b0 : decide (a1 < (t243.length : Int)) = true := decide_eq_true c40
             clear c40
             replace H := Option.bind_eq_some_iff.mp H
             obtain ⟨t257, A410, H⟩ := H
             replace H : ((proteanref02_Stmts.f y251 t257).bind fun t260 => (if t260 = true then (if 0 ≤ t247 then (if t247 ≤ t248 then (if t248 ≤ (t243.length : Int) then ((number_List.f kj29 ((rd_T36 t243 a1).f7)).bind fun t267 => ((proteanref02_Stmts.f ((t243.take (t248 : Int).toNat).drop (t247 : Int).toNat) t267).bind fun t270 => (if t270 = true then ((number_Count.f ((rd_T36 t243 a1).f6)).bind fun t272 => (some (t272 == (wrap64 (t247 - t246))))) else (some false)))) else (none)) else (none)) else (none)) else (some false))) = some r := H
             have A41 := Aside0.mk A410
             clear A410
             replace H := Option.bind_eq_some_iff.mp H
             obtain ⟨t260, A420, H⟩ := H
             replace H : (if t260 = true then (if 0 ≤ t247 then (if t247 ≤ t248 then (if t248 ≤ (t243.length : Int) then ((number_List.f kj29 ((rd_T36 t243 a1).f7)).bind fun t267 => ((proteanref02_Stmts.f ((t243.take (t248 : Int).toNat).drop (t247 : Int).toNat) t267).bind fun t270 => (if t270 = true then ((number_Count.f ((rd_T36 t243 a1).f6)).bind fun t272 => (some (t272 == (wrap64 (t247 - t246))))) else (some false)))) else (none)) else (none)) else (none)) else (some false)) = some r := H
             have A42 := Aside0.mk A420
             clear A420
             by_cases c43 : t260 = true
             ·subst c43
              have H1 : (if 0 ≤ t247 then (if t247 ≤ t248 then (if t248 ≤ (t243.length : Int) then ((number_List.f kj29 ((rd_T36 t243 a1).f7)).bind fun t267 => ((proteanref02_Stmts.f ((t243.take (t248 : Int).toNat).drop (t247 : Int).toNat) t267).bind fun t270 => (if t270 = true then ((number_Count.f ((rd_T36 t243 a1).f6)).bind fun t272 => (some (t272 == (wrap64 (t247 - t246))))) else (some false)))) else (none)) else (none)) else (none)) = some r := by rw [if_pos rfl] at H; exact H
              clear H
              have H := H1
              clear H1
              by_cases c44 : 0 ≤ t247
              ·rw [if_pos c44] at H
               have c44b0 := eq_true c44
               have c44b1 : decide (0 ≤ t247) = true := decide_eq_true c44
               clear c44
               by_cases c45 : t247 ≤ t248
               ·rw [if_pos c45] at H
                have c45b0 := eq_true c45
                have c45b1 : decide (t247 ≤ t248) = true := decide_eq_true c45
                clear c45
                by_cases c46 : t248 ≤ (t243.length : Int)
                ·rw [if_pos c46] at H
                 have c46b0 := eq_true c46
                 have c46b1 : decide (t248 ≤ (t243.length : Int)) = true := decide_eq_true c46
                 clear c46
                 obtain ⟨y261, hy261⟩ : ∃ y_ : List (S36), y_ = ((t243.take (t248 : Int).toNat).drop (t247 : Int).toNat) := ⟨_, rfl⟩
                 replace H : ((number_List.f kj29 ((rd_T36 t243 a1).f7)).bind fun t267 => ((proteanref02_Stmts.f y261 t267).bind fun t270 => (if t270 = true then ((number_Count.f ((rd_T36 t243 a1).f6)).bind fun t272 => (some (t272 == (wrap64 (t247 - t246))))) else (some false)))) = some r := by first | (rw [hy261]; with_reducible exact H) | (have H2_ := (Option.bind_some _ _).symm.trans H; rw [hy261]; with_reducible exact H2_) | (have H2_ := (Option.bind_some _ _).symm.trans H; with_reducible exact H2_) | with_reducible exact H | (rw [hy261]; exact H) | exact H
                 have Ny261 := Aside0.mk hy261
                 clear hy261
                 replace H := Option.bind_eq_some_iff.mp H
                 obtain ⟨t267, A470, H⟩ := H
                 replace H : ((proteanref02_Stmts.f y261 t267).bind fun t270 => (if t270 = true then ((number_Count.f ((rd_T36 t243 a1).f6)).bind fun t272 => (some (t272 == (wrap64 (t247 - t246))))) else (some false))) = some r := H
                 have A47 := Aside0.mk A470
                 clear A470
                 replace H := Option.bind_eq_some_iff.mp H
                 obtain ⟨t270, A480, H⟩ := H
                 replace H : (if t270 = true then ((number_Count.f ((rd_T36 t243 a1).f6)).bind fun t272 => (some (t272 == (wrap64 (t247 - t246))))) else (some false)) = some r := H
                 have A48 := Aside0.mk A480
                 clear A480
                 by_cases c49 : t270 = true
                 ·subst c49
                  have H1 : ((number_Count.f ((rd_T36 t243 a1).f6)).bind fun t272 => (some (t272 == (wrap64 (t247 - t246))))) = some r := by rw [if_pos rfl] at H; exact H
                  clear H
                  have H := H1
                  clear H1
                  replace H := Option.bind_eq_some_iff.mp H
                  obtain ⟨t272, A500, H⟩ := H
                  replace H : (some (t272 == (wrap64 (t247 - t246)))) = some r := H
                  have A50 := Aside0.mk A500
                  clear A500
                  obtain rfl := Option.some.inj H
                  try go_wp2
                  have n0_ := Aside0.mk (Kd.N_drew HO_5.out)
                  have n1_ := Aside0.mk (below_drew1 HB.out)
                  clear HO_5
                  clear HB
                  have HO_5 := n0_
                  have HB := n1_
                  clear n0_ n1_
                  obtain ⟨Ao53, co53, eo53⟩ := Kd.N_slice HO_5.out
                  (first | subst eo53 | (injection eo53 with f1_ f2_ f3_; have f4_ := f1_.symm; have f5_ := f3_.symm; clear f1_ f2_ f3_; subst f4_; subst f5_))
                  have q52 : (t247 : Int) ≤ ((t243.length : Int) : Int) := of_decide_eq_true (by first | (with_reducible assumption) | assumption)
                  obtain ⟨i052, hi052, _, hsz52, _⟩ := info_parts info36
                  have hroom52 : t243.length ≤ co53 := (Kd.N_reads' HO_5.out).2.1
                  have hC52 : Kd.F k36 _ _ Ao53 t243.length t243 := (Kd.V_at (base := w.heap.size) (Kd.N_V HO_5.out)).2.2
                  have ql52 : (t246 : Int) ≤ (t247 : Int) := of_decide_eq_true (by first | (with_reducible assumption) | assumption)
                  have q052 : (0 : Int) ≤ (t246 : Int) := of_decide_eq_true (by first | (with_reducible assumption) | assumption)
                  have hcut52 := cut_mid (P := Try.prog) 22 36 .i64 .i64 Try.underlying22 hi052 8 hsz52 Ao53 t243.length co53 t246 t247 q052 ql52 q52 hroom52
                  have hr52 := Kd.F_mid (lo := (t246 : Int).toNat) (hi := (t247 : Int).toNat) (c := co53) hC52 (by omega) (by omega) hroom52
                  obtain ⟨A52, hA52⟩ : ∃ A1, A1 = (if co53 = (t246 : Int).toNat then Ao53 else (Ao53 : Option Addr).map (·.add ((t246 : Int).toNat * 8))) := ⟨_, rfl⟩
                  obtain ⟨c52, hc52⟩ : ∃ c1, c1 = co53 - (t246 : Int).toNat := ⟨_, rfl⟩
                  have hy52 : y251.length = (t247 : Int).toNat - (t246 : Int).toNat := (by rw [Ny251.out, List.length_drop, List.length_take] <;> omega)
                  rw [show ((t243).take (t247 : Int).toNat).drop (t246 : Int).toNat = y251 from Ny251.out.symm] at hr52
                  replace hr52 : Kd.F k36 _ _ A52 y251.length y251 := (by rw [hA52]; exact hr52)
                  rw [← hy52, ← hA52, ← hc52] at hcut52
                  have HO255 := Aside0.mk (show Kd.V k36 36 _ w.heap.size _ (.slice A52 y251.length c52) y251 from Kd.V_mk (by rw [hy52, hc52]; exact Nat.sub_le_sub_right (Nat.le_trans (by omega) hroom52) _) hr52)
                  have HC255 := Aside0.mk (show y251.length ≤ c52 from by rw [hy52, hc52]; exact Nat.sub_le_sub_right (Nat.le_trans (by omega) hroom52) _)
                  clear hr52 hC52 hroom52 hi052 hsz52 hc52
                  have KY52 := Aside0.mk hy52
                  have KA52 := Aside0.mk hA52
                  clear hy52 hA52
                  replace q52 := eq_true q52
                  have p256 : 0 ≤ (a1 : Int) := of_decide_eq_true (by first | (with_reducible assumption) | assumption)
                  have q256 : a1 < (t243.length : Int) := of_decide_eq_true (by first | (with_reducible assumption) | assumption)
                  obtain ⟨ad256, A256_4, c256_4, A256_5, c256_5, A256_6, c256_6, A256_7, c256_7, e256, hx256_0, hx256_1, hx256_2, hx256_3, hx256_4, hx256_5, hx256_6, hx256_7, hl256_4, hi256_4, hl256_5, hi256_5, hl256_6, hi256_6, hl256_7, hi256_7⟩ := at_T36 (Kd.N_reads' HO_5.out).2.2 a1 p256 q256
                  cases e256
                  obtain ⟨ce256, hce256, hMe256, hcc256⟩ := Kd.N_get HO_5.out z36 a1 p256 (by first | exact q256 | exact of_decide_eq_true (by first | (with_reducible assumption) | assumption) | (have e_ := (Kd.N_reads' HO_5.out).1; omega))
                  obtain ⟨ua256_4, uc256_4, ua256_5, uc256_5, ua256_6, uc256_6, ua256_7, uc256_7, rfl, ul256_4, ge256_4, ul256_5, ge256_5, ul256_6, ge256_6, ul256_7, ge256_7⟩ := k36_openF hMe256
                  have hv256_4 := hcc256 4 _ rfl
                  rw [add_field _ _ 4 (by omega)] at hv256_4
                  replace hv256_4 := Option.some.inj (hv256_4.symm.trans hx256_4)
                  injection hv256_4 with hva_ hvn_ hvc_
                  rw [hva_] at ge256_4
                  rw [hvc_] at ul256_4
                  have HL256_4 := Aside0.mk (show Kd.V k49 49 _ w.heap.size _ _ ((rd_T36 t243 a1).f4) from Kd.V_mk ul256_4 ge256_4)
                  clear hva_ hvn_ hvc_ ge256_4 ul256_4
                  have hv256_5 := hcc256 5 _ rfl
                  rw [add_field _ _ 5 (by omega)] at hv256_5
                  replace hv256_5 := Option.some.inj (hv256_5.symm.trans hx256_5)
                  injection hv256_5 with hva_ hvn_ hvc_
                  rw [hva_] at ge256_5
                  rw [hvc_] at ul256_5
                  have HL256_5 := Aside0.mk (show Kd.V Kd.string 9 _ w.heap.size _ _ ((rd_T36 t243 a1).f5) from Kd.V_mk ul256_5 ge256_5)
                  clear hva_ hvn_ hvc_ ge256_5 ul256_5
                  have hv256_6 := hcc256 6 _ rfl
                  rw [add_field _ _ 6 (by omega)] at hv256_6
                  replace hv256_6 := Option.some.inj (hv256_6.symm.trans hx256_6)
                  injection hv256_6 with hva_ hvn_ hvc_
                  rw [hva_] at ge256_6
                  rw [hvc_] at ul256_6
                  have HL256_6 := Aside0.mk (show Kd.V k36 36 _ w.heap.size _ _ ((rd_T36 t243 a1).f6) from Kd.V_mk ul256_6 ge256_6)
                  clear hva_ hvn_ hvc_ ge256_6 ul256_6
                  have hv256_7 := hcc256 7 _ rfl
                  rw [add_field _ _ 7 (by omega)] at hv256_7
                  replace hv256_7 := Option.some.inj (hv256_7.symm.trans hx256_7)
                  injection hv256_7 with hva_ hvn_ hvc_
                  rw [hva_] at ge256_7
                  rw [hvc_] at ul256_7
                  have HL256_7 := Aside0.mk (show Kd.V k36 36 _ w.heap.size _ _ ((rd_T36 t243 a1).f7) from Kd.V_mk ul256_7 ge256_7)
                  clear hva_ hvn_ hvc_ ge256_7 ul256_7
                  clear hcc256 hce256
                  have HR256_4 := Aside0.mk hi256_4
                  have HC256_4 := Aside0.mk hl256_4
                  clear hi256_4 hl256_4
                  have HR256_5 := Aside0.mk hi256_5
                  have HC256_5 := Aside0.mk hl256_5
                  clear hi256_5 hl256_5
                  have HR256_6 := Aside0.mk hi256_6
                  have HC256_6 := Aside0.mk hl256_6
                  clear hi256_6 hl256_6
                  have HR256_7 := Aside0.mk hi256_7
                  have HC256_7 := Aside0.mk hl256_7
                  clear hi256_7 hl256_7
                  replace p256 := eq_true p256
                  replace q256 := eq_true q256
                  have p266 : 0 ≤ (a1 : Int) := of_decide_eq_true (by first | (with_reducible assumption) | assumption)
                  have q266 : a1 < (t243.length : Int) := of_decide_eq_true (by first | (with_reducible assumption) | assumption)
                  obtain ⟨ad266, A266_4, c266_4, A266_5, c266_5, A266_6, c266_6, A266_7, c266_7, e266, hx266_0, hx266_1, hx266_2, hx266_3, hx266_4, hx266_5, hx266_6, hx266_7, hl266_4, hi266_4, hl266_5, hi266_5, hl266_6, hi266_6, hl266_7, hi266_7⟩ := at_T36 (Kd.N_reads' HO_5.out).2.2 a1 p266 q266
                  obtain rfl : ad256 = ad266 := (by injection e266)
                  obtain ⟨ce266, hce266, hMe266, hcc266⟩ := Kd.N_get HO_5.out z36 a1 p266 (by first | exact q266 | exact of_decide_eq_true (by first | (with_reducible assumption) | assumption) | (have e_ := (Kd.N_reads' HO_5.out).1; omega))
                  obtain ⟨ua266_4, uc266_4, ua266_5, uc266_5, ua266_6, uc266_6, ua266_7, uc266_7, rfl, ul266_4, ge266_4, ul266_5, ge266_5, ul266_6, ge266_6, ul266_7, ge266_7⟩ := k36_openF hMe266
                  have hv266_4 := hcc266 4 _ rfl
                  rw [add_field _ _ 4 (by omega)] at hv266_4
                  replace hv266_4 := Option.some.inj (hv266_4.symm.trans hx266_4)
                  injection hv266_4 with hva_ hvn_ hvc_
                  rw [hva_] at ge266_4
                  rw [hvc_] at ul266_4
                  have HL266_4 := Aside0.mk (show Kd.V k49 49 _ w.heap.size _ _ ((rd_T36 t243 a1).f4) from Kd.V_mk ul266_4 ge266_4)
                  clear hva_ hvn_ hvc_ ge266_4 ul266_4
                  have hv266_5 := hcc266 5 _ rfl
                  rw [add_field _ _ 5 (by omega)] at hv266_5
                  replace hv266_5 := Option.some.inj (hv266_5.symm.trans hx266_5)
                  injection hv266_5 with hva_ hvn_ hvc_
                  rw [hva_] at ge266_5
                  rw [hvc_] at ul266_5
                  have HL266_5 := Aside0.mk (show Kd.V Kd.string 9 _ w.heap.size _ _ ((rd_T36 t243 a1).f5) from Kd.V_mk ul266_5 ge266_5)
                  clear hva_ hvn_ hvc_ ge266_5 ul266_5
                  have hv266_6 := hcc266 6 _ rfl
                  rw [add_field _ _ 6 (by omega)] at hv266_6
                  replace hv266_6 := Option.some.inj (hv266_6.symm.trans hx266_6)
                  injection hv266_6 with hva_ hvn_ hvc_
                  rw [hva_] at ge266_6
                  rw [hvc_] at ul266_6
                  have HL266_6 := Aside0.mk (show Kd.V k36 36 _ w.heap.size _ _ ((rd_T36 t243 a1).f6) from Kd.V_mk ul266_6 ge266_6)
                  clear hva_ hvn_ hvc_ ge266_6 ul266_6
                  have hv266_7 := hcc266 7 _ rfl
                  rw [add_field _ _ 7 (by omega)] at hv266_7
                  replace hv266_7 := Option.some.inj (hv266_7.symm.trans hx266_7)
                  injection hv266_7 with hva_ hvn_ hvc_
                  rw [hva_] at ge266_7
                  rw [hvc_] at ul266_7
                  have HL266_7 := Aside0.mk (show Kd.V k36 36 _ w.heap.size _ _ ((rd_T36 t243 a1).f7) from Kd.V_mk ul266_7 ge266_7)
                  clear hva_ hvn_ hvc_ ge266_7 ul266_7
                  clear hcc266 hce266
                  have HR266_4 := Aside0.mk hi266_4
                  have HC266_4 := Aside0.mk hl266_4
                  clear hi266_4 hl266_4
                  have HR266_5 := Aside0.mk hi266_5
                  have HC266_5 := Aside0.mk hl266_5
                  clear hi266_5 hl266_5
                  have HR266_6 := Aside0.mk hi266_6
                  have HC266_6 := Aside0.mk hl266_6
                  clear hi266_6 hl266_6
                  have HR266_7 := Aside0.mk hi266_7
                  have HC266_7 := Aside0.mk hl266_7
                  clear hi266_7 hl266_7
                  obtain ⟨ea_, ec_⟩ : A256_4 = A266_4 ∧ c256_4 = c266_4 := (by have e_ := Option.some.inj (hx256_4.symm.trans hx266_4); injection e_ with e1_ e2_ e3_; exact ⟨e1_, e3_⟩)
                  have EA266_4 := Aside0.mk ea_
                  have EC266_4 := Aside0.mk ec_
                  clear ea_ ec_
                  obtain ⟨ea_, ec_⟩ : A256_5 = A266_5 ∧ c256_5 = c266_5 := (by have e_ := Option.some.inj (hx256_5.symm.trans hx266_5); injection e_ with e1_ e2_ e3_; exact ⟨e1_, e3_⟩)
                  have EA266_5 := Aside0.mk ea_
                  have EC266_5 := Aside0.mk ec_
                  clear ea_ ec_
                  obtain ⟨ea_, ec_⟩ : A256_6 = A266_6 ∧ c256_6 = c266_6 := (by have e_ := Option.some.inj (hx256_6.symm.trans hx266_6); injection e_ with e1_ e2_ e3_; exact ⟨e1_, e3_⟩)
                  have EA266_6 := Aside0.mk ea_
                  have EC266_6 := Aside0.mk ec_
                  clear ea_ ec_
                  obtain ⟨ea_, ec_⟩ : A256_7 = A266_7 ∧ c256_7 = c266_7 := (by have e_ := Option.some.inj (hx256_7.symm.trans hx266_7); injection e_ with e1_ e2_ e3_; exact ⟨e1_, e3_⟩)
                  have EA266_7 := Aside0.mk ea_
                  have EC266_7 := Aside0.mk ec_
                  clear ea_ ec_
                  replace p266 := eq_true p266
                  replace q266 := eq_true q266
                  have p271 : 0 ≤ (a1 : Int) := of_decide_eq_true (by first | (with_reducible assumption) | assumption)
                  have q271 : a1 < (t243.length : Int) := of_decide_eq_true (by first | (with_reducible assumption) | assumption)
                  obtain ⟨ad271, A271_4, c271_4, A271_5, c271_5, A271_6, c271_6, A271_7, c271_7, e271, hx271_0, hx271_1, hx271_2, hx271_3, hx271_4, hx271_5, hx271_6, hx271_7, hl271_4, hi271_4, hl271_5, hi271_5, hl271_6, hi271_6, hl271_7, hi271_7⟩ := at_T36 (Kd.N_reads' HO_5.out).2.2 a1 p271 q271
                  obtain rfl : ad256 = ad271 := (by injection e271)
                  obtain ⟨ce271, hce271, hMe271, hcc271⟩ := Kd.N_get HO_5.out z36 a1 p271 (by first | exact q271 | exact of_decide_eq_true (by first | (with_reducible assumption) | assumption) | (have e_ := (Kd.N_reads' HO_5.out).1; omega))
                  obtain ⟨ua271_4, uc271_4, ua271_5, uc271_5, ua271_6, uc271_6, ua271_7, uc271_7, rfl, ul271_4, ge271_4, ul271_5, ge271_5, ul271_6, ge271_6, ul271_7, ge271_7⟩ := k36_openF hMe271
                  have hv271_4 := hcc271 4 _ rfl
                  rw [add_field _ _ 4 (by omega)] at hv271_4
                  replace hv271_4 := Option.some.inj (hv271_4.symm.trans hx271_4)
                  injection hv271_4 with hva_ hvn_ hvc_
                  rw [hva_] at ge271_4
                  rw [hvc_] at ul271_4
                  have HL271_4 := Aside0.mk (show Kd.V k49 49 _ w.heap.size _ _ ((rd_T36 t243 a1).f4) from Kd.V_mk ul271_4 ge271_4)
                  clear hva_ hvn_ hvc_ ge271_4 ul271_4
                  have hv271_5 := hcc271 5 _ rfl
                  rw [add_field _ _ 5 (by omega)] at hv271_5
                  replace hv271_5 := Option.some.inj (hv271_5.symm.trans hx271_5)
                  injection hv271_5 with hva_ hvn_ hvc_
                  rw [hva_] at ge271_5
                  rw [hvc_] at ul271_5
                  have HL271_5 := Aside0.mk (show Kd.V Kd.string 9 _ w.heap.size _ _ ((rd_T36 t243 a1).f5) from Kd.V_mk ul271_5 ge271_5)
                  clear hva_ hvn_ hvc_ ge271_5 ul271_5
                  have hv271_6 := hcc271 6 _ rfl
                  rw [add_field _ _ 6 (by omega)] at hv271_6
                  replace hv271_6 := Option.some.inj (hv271_6.symm.trans hx271_6)
                  injection hv271_6 with hva_ hvn_ hvc_
                  rw [hva_] at ge271_6
                  rw [hvc_] at ul271_6
                  have HL271_6 := Aside0.mk (show Kd.V k36 36 _ w.heap.size _ _ ((rd_T36 t243 a1).f6) from Kd.V_mk ul271_6 ge271_6)
                  clear hva_ hvn_ hvc_ ge271_6 ul271_6
                  have hv271_7 := hcc271 7 _ rfl
                  rw [add_field _ _ 7 (by omega)] at hv271_7
                  replace hv271_7 := Option.some.inj (hv271_7.symm.trans hx271_7)
                  injection hv271_7 with hva_ hvn_ hvc_
                  rw [hva_] at ge271_7
                  rw [hvc_] at ul271_7
                  have HL271_7 := Aside0.mk (show Kd.V k36 36 _ w.heap.size _ _ ((rd_T36 t243 a1).f7) from Kd.V_mk ul271_7 ge271_7)
                  clear hva_ hvn_ hvc_ ge271_7 ul271_7
                  clear hcc271 hce271
                  have HR271_4 := Aside0.mk hi271_4
                  have HC271_4 := Aside0.mk hl271_4
                  clear hi271_4 hl271_4
                  have HR271_5 := Aside0.mk hi271_5
                  have HC271_5 := Aside0.mk hl271_5
                  clear hi271_5 hl271_5
                  have HR271_6 := Aside0.mk hi271_6
                  have HC271_6 := Aside0.mk hl271_6
                  clear hi271_6 hl271_6
                  have HR271_7 := Aside0.mk hi271_7
                  have HC271_7 := Aside0.mk hl271_7
                  clear hi271_7 hl271_7
                  obtain ⟨ea_, ec_⟩ : A256_4 = A271_4 ∧ c256_4 = c271_4 := (by have e_ := Option.some.inj (hx256_4.symm.trans hx271_4); injection e_ with e1_ e2_ e3_; exact ⟨e1_, e3_⟩)
                  have EA271_4 := Aside0.mk ea_
                  have EC271_4 := Aside0.mk ec_
                  clear ea_ ec_
                  obtain ⟨ea_, ec_⟩ : A256_5 = A271_5 ∧ c256_5 = c271_5 := (by have e_ := Option.some.inj (hx256_5.symm.trans hx271_5); injection e_ with e1_ e2_ e3_; exact ⟨e1_, e3_⟩)
                  have EA271_5 := Aside0.mk ea_
                  have EC271_5 := Aside0.mk ec_
                  clear ea_ ec_
                  obtain ⟨ea_, ec_⟩ : A256_6 = A271_6 ∧ c256_6 = c271_6 := (by have e_ := Option.some.inj (hx256_6.symm.trans hx271_6); injection e_ with e1_ e2_ e3_; exact ⟨e1_, e3_⟩)
                  have EA271_6 := Aside0.mk ea_
                  have EC271_6 := Aside0.mk ec_
                  clear ea_ ec_
                  obtain ⟨ea_, ec_⟩ : A256_7 = A271_7 ∧ c256_7 = c271_7 := (by have e_ := Option.some.inj (hx256_7.symm.trans hx271_7); injection e_ with e1_ e2_ e3_; exact ⟨e1_, e3_⟩)
                  have EA271_7 := Aside0.mk ea_
                  have EC271_7 := Aside0.mk ec_
                  clear ea_ ec_
                  replace p271 := eq_true p271
                  replace q271 := eq_true q271
                  refine start_ (n := 37) (S := fun w' => w'.cell? (ad256.add ((a1).toNat * 8)) = some (.int .i64 ((rd_T36 t243 a1).f0)) ∧ w'.cell? ⟨(ad256.add ((a1).toNat * 8)).block, (ad256.add ((a1).toNat * 8)).off + 1, none⟩ = some (.string ((rd_T36 t243 a1).f1)) ∧ w'.cell? ⟨(ad256.add ((a1).toNat * 8)).block, (ad256.add ((a1).toNat * 8)).off + 2, none⟩ = some (.string ((rd_T36 t243 a1).f2)) ∧ w'.cell? ⟨(ad256.add ((a1).toNat * 8)).block, (ad256.add ((a1).toNat * 8)).off + 3, none⟩ = some (.string ((rd_T36 t243 a1).f3)) ∧ w'.cell? ⟨(ad256.add ((a1).toNat * 8)).block, (ad256.add ((a1).toNat * 8)).off + 4, none⟩ = some (.slice A256_4 ((rd_T36 t243 a1).f4).length c256_4) ∧ w'.cell? ⟨(ad256.add ((a1).toNat * 8)).block, (ad256.add ((a1).toNat * 8)).off + 5, none⟩ = some (.slice A256_5 ((rd_T36 t243 a1).f5).length c256_5) ∧ w'.cell? ⟨(ad256.add ((a1).toNat * 8)).block, (ad256.add ((a1).toNat * 8)).off + 6, none⟩ = some (.slice A256_6 ((rd_T36 t243 a1).f6).length c256_6) ∧ w'.cell? ⟨(ad256.add ((a1).toNat * 8)).block, (ad256.add ((a1).toNat * 8)).off + 7, none⟩ = some (.slice A256_7 ((rd_T36 t243 a1).f7).length c256_7) ∧ w'.cell? (ad256.add ((a1).toNat * 8)) = some (.int .i64 ((rd_T36 t243 a1).f0)) ∧ w'.cell? ⟨(ad256.add ((a1).toNat * 8)).block, (ad256.add ((a1).toNat * 8)).off + 1, none⟩ = some (.string ((rd_T36 t243 a1).f1)) ∧ w'.cell? ⟨(ad256.add ((a1).toNat * 8)).block, (ad256.add ((a1).toNat * 8)).off + 2, none⟩ = some (.string ((rd_T36 t243 a1).f2)) ∧ w'.cell? ⟨(ad256.add ((a1).toNat * 8)).block, (ad256.add ((a1).toNat * 8)).off + 3, none⟩ = some (.string ((rd_T36 t243 a1).f3)) ∧ w'.cell? ⟨(ad256.add ((a1).toNat * 8)).block, (ad256.add ((a1).toNat * 8)).off + 4, none⟩ = some (.slice A266_4 ((rd_T36 t243 a1).f4).length c266_4) ∧ w'.cell? ⟨(ad256.add ((a1).toNat * 8)).block, (ad256.add ((a1).toNat * 8)).off + 5, none⟩ = some (.slice A266_5 ((rd_T36 t243 a1).f5).length c266_5) ∧ w'.cell? ⟨(ad256.add ((a1).toNat * 8)).block, (ad256.add ((a1).toNat * 8)).off + 6, none⟩ = some (.slice A266_6 ((rd_T36 t243 a1).f6).length c266_6) ∧ w'.cell? ⟨(ad256.add ((a1).toNat * 8)).block, (ad256.add ((a1).toNat * 8)).off + 7, none⟩ = some (.slice A266_7 ((rd_T36 t243 a1).f7).length c266_7) ∧ w'.cell? (ad256.add ((a1).toNat * 8)) = some (.int .i64 ((rd_T36 t243 a1).f0)) ∧ w'.cell? ⟨(ad256.add ((a1).toNat * 8)).block, (ad256.add ((a1).toNat * 8)).off + 1, none⟩ = some (.string ((rd_T36 t243 a1).f1)) ∧ w'.cell? ⟨(ad256.add ((a1).toNat * 8)).block, (ad256.add ((a1).toNat * 8)).off + 2, none⟩ = some (.string ((rd_T36 t243 a1).f2)) ∧ w'.cell? ⟨(ad256.add ((a1).toNat * 8)).block, (ad256.add ((a1).toNat * 8)).off + 3, none⟩ = some (.string ((rd_T36 t243 a1).f3)) ∧ w'.cell? ⟨(ad256.add ((a1).toNat * 8)).block, (ad256.add ((a1).toNat * 8)).off + 4, none⟩ = some (.slice A271_4 ((rd_T36 t243 a1).f4).length c271_4) ∧ w'.cell? ⟨(ad256.add ((a1).toNat * 8)).block, (ad256.add ((a1).toNat * 8)).off + 5, none⟩ = some (.slice A271_5 ((rd_T36 t243 a1).f5).length c271_5) ∧ w'.cell? ⟨(ad256.add ((a1).toNat * 8)).block, (ad256.add ((a1).toNat * 8)).off + 6, none⟩ = some (.slice A271_6 ((rd_T36 t243 a1).f6).length c271_6) ∧ w'.cell? ⟨(ad256.add ((a1).toNat * 8)).block, (ad256.add ((a1).toNat * 8)).off + 7, none⟩ = some (.slice A271_7 ((rd_T36 t243 a1).f7).length c271_7)) (ds := []) #[false, false, false, false, false, false, false, false, false, false, false, false, false, false, false, false, false, false, false, false, false, false, false, false, false, false, false, false, false, false, false, false, false, false, false, false, false] (by kernel_rfl) rfl rfl ⟨hx256_0, hx256_1, hx256_2, hx256_3, hx256_4, hx256_5, hx256_6, hx256_7, hx266_0, hx266_1, hx266_2, hx266_3, hx266_4, hx266_5, hx266_6, hx266_7, hx271_0, hx271_1, hx271_2, hx271_3, hx271_4, hx271_5, hx271_6, hx271_7⟩ (fun hHeld => ?_); refine with_tabW proteanlaw04_NumberBlocks.tab9 proteanlaw04_NumberBlocks.bits9 (fun HT_ HW_ => ?_)
                  generalize wc.drew = w51 at HO_5 HB HL256_4 HL256_5 HL256_6 HL256_7 HL266_4 HL266_5 HL266_6 HL266_7 HL271_4 HL271_5 HL271_6 HL271_7 HO255 HR256_4 HR256_5 HR256_6 HR256_7 HR266_4 HR266_5 HR266_6 HR266_7 HR271_4 HR271_5 HR271_6 HR271_7 hx256_0 hx256_1 hx256_2 hx256_3 hx256_4 hx256_5 hx256_6 hx256_7 hx266_0 hx266_1 hx266_2 hx266_3 hx266_4 hx266_5 hx266_6 hx266_7 hx271_0 hx271_1 hx271_2 hx271_3 hx271_4 hx271_5 hx271_6 hx271_7 hHeld ⊢
                  refine pure_ (i := 0) (N := some 66) (v := ?_) (a' := ?_) #[true, false, false, false, false, false, false, false, false, false, false, false, false, false, false, false, false, false, false, false, false, false, false, false, false, false, false, false, false, false, false, false, false, false, false, false, false] rfl rfl (any_of HT_.out (by kernel_rfl)) (fun _ _ _ h => h) (Or.inl ⟨by rfl, ?_⟩) ?_ ?_
                  rotate_left
                  ·intro w'
                   go_simp
                   with_reducible rfl
                  rotate_left
                  ·simp only [Act.put, List.setIfInBounds_toArray, List.set_cons_zero, List.set_cons_succ, i64_w, i32_w]
                   rfl
                  refine pure_ (i := 1) (N := some 67) (v := ?_) (a' := ?_) #[true, true, false, false, false, false, false, false, false, false, false, false, false, false, false, false, false, false, false, false, false, false, false, false, false, false, false, false, false, false, false, false, false, false, false, false, false] rfl rfl (any_of HT_.out (by kernel_rfl)) (fun _ _ _ h => h) (Or.inl ⟨by rfl, ?_⟩) ?_ ?_
                  rotate_left
                  ·intro w'
                   go_simp
                   with_reducible rfl
                  rotate_left
                  ·simp only [Act.put, List.setIfInBounds_toArray, List.set_cons_zero, List.set_cons_succ, i64_w, i32_w]
                   rfl
                  refine pure_ (i := 2) (N := some 68) (v := ?_) (a' := ?_) #[true, true, true, false, false, false, false, false, false, false, false, false, false, false, false, false, false, false, false, false, false, false, false, false, false, false, false, false, false, false, false, false, false, false, false, false, false] rfl rfl (any_of HT_.out (by kernel_rfl)) (fun _ _ _ h => h) (Or.inl ⟨by rfl, ?_⟩) ?_ ?_
                  rotate_left
                  ·intro w'
                   go_simp
                   with_reducible rfl
                  rotate_left
                  ·simp only [Act.put, List.setIfInBounds_toArray, List.set_cons_zero, List.set_cons_succ, i64_w, i32_w]
                   rfl
                  refine pure_ (i := 3) (N := some 69) (v := ?_) (a' := ?_) #[true, true, true, true, false, false, false, false, false, false, false, false, false, false, false, false, false, false, false, false, false, false, false, false, false, false, false, false, false, false, false, false, false, false, false, false, false] rfl rfl (any_of HT_.out (by kernel_rfl)) (fun _ _ _ h => h) (Or.inl ⟨by rfl, ?_⟩) ?_ ?_
                  rotate_left
                  ·intro w'
                   go_simp
                   with_reducible rfl
                  rotate_left
                  ·simp only [Act.put, List.setIfInBounds_toArray, List.set_cons_zero, List.set_cons_succ, i64_w, i32_w]
                   rfl
                  refine pure_ (i := 4) (N := some 70) (v := ?_) (a' := ?_) #[true, true, true, true, true, false, false, false, false, false, false, false, false, false, false, false, false, false, false, false, false, false, false, false, false, false, false, false, false, false, false, false, false, false, false, false, false] rfl rfl (any_of HT_.out (by kernel_rfl)) (fun _ _ _ h => h) (Or.inl ⟨by rfl, ?_⟩) ?_ ?_
                  rotate_left
                  ·intro w'
                   go_simp
                   with_reducible rfl
                  rotate_left
                  ·simp only [Act.put, List.setIfInBounds_toArray, List.set_cons_zero, List.set_cons_succ, i64_w, i32_w]
                   rfl
                  refine pure_ (i := 5) (N := some 71) (v := ?_) (a' := ?_) #[true, true, true, true, true, true, false, false, false, false, false, false, false, false, false, false, false, false, false, false, false, false, false, false, false, false, false, false, false, false, false, false, false, false, false, false, false] rfl rfl (any_of HT_.out (by kernel_rfl)) (fun _ _ _ h => h) (Or.inl ⟨by rfl, ?_⟩) ?_ ?_
                  rotate_left
                  ·intro w'
                   go_simp
                   with_reducible rfl
                  rotate_left
                  ·simp only [Act.put, List.setIfInBounds_toArray, List.set_cons_zero, List.set_cons_succ, i64_w, i32_w]
                   rfl
                  refine pure_ (i := 6) (N := some 72) (v := ?_) (a' := ?_) #[true, true, true, true, true, true, true, false, false, false, false, false, false, false, false, false, false, false, false, false, false, false, false, false, false, false, false, false, false, false, false, false, false, false, false, false, false] rfl rfl (any_of HT_.out (by kernel_rfl)) (fun _ _ _ h => h) (Or.inl ⟨by rfl, ?_⟩) ?_ ?_
                  rotate_left
                  ·intro w'
                   go_simp
                   with_reducible rfl
                  rotate_left
                  ·simp only [Act.put, List.setIfInBounds_toArray, List.set_cons_zero, List.set_cons_succ, i64_w, i32_w]
                   rfl
                  refine pure_ (i := 7) (N := some 73) (v := ?_) (a' := ?_) #[true, true, true, true, true, true, true, true, false, false, false, false, false, false, false, false, false, false, false, false, false, false, false, false, false, false, false, false, false, false, false, false, false, false, false, false, false] rfl rfl (any_of HT_.out (by kernel_rfl)) (fun _ _ _ h => h) (Or.inl ⟨by rfl, ?_⟩) ?_ ?_
                  rotate_left
                  ·intro w'
                   go_simp
                   with_reducible rfl
                  rotate_left
                  ·simp only [Act.put, List.setIfInBounds_toArray, List.set_cons_zero, List.set_cons_succ, i64_w, i32_w]
                   rfl
                  refine take_ (i := 8) (N := some 74) (v := ?_) (a' := ?_) #[true, true, true, true, true, true, true, true, true, false, false, false, false, false, false, false, false, false, false, false, false, false, false, false, false, false, false, false, false, false, false, false, false, false, false, false, false] rfl rfl (take_ofW HT_.out HW_.out (by kernel_rfl)) (fun _ _ _ h => h) (Or.inl ⟨by rfl, ?_⟩) hHeld ?_ ?_
                  rotate_left
                  ·rintro w' ⟨s0, s1, s2, s3, s4, s5, s6, s7, s8, s9, s10, s11, s12, s13, s14, s15, s16, s17, s18, s19, s20, s21, s22, s23⟩
                   go_simp
                   with_reducible rfl
                  rotate_left
                  ·simp only [Act.put, List.setIfInBounds_toArray, List.set_cons_zero, List.set_cons_succ, i64_w, i32_w]
                   rfl
                  refine one_ (i := 9) (N := some 75) #[true, true, true, true, true, true, true, true, true, true, false, false, false, false, false, false, false, false, false, false, false, false, false, false, false, false, false, false, false, false, false, false, false, false, false, false, false] rfl rfl (one_of HT_.out (by kernel_rfl)) (by decide) (fun K hK => ?_)
                  refine goes_ Try.func16 (by kernel_rfl) rfl #[.slice A256_6 ((rd_T36 t243 a1).f6).length c256_6] (by rfl) rfl rfl (by (try simp only [List.map_toArray, List.map_cons, List.map_nil]); first | done | rfl | (simp only [List.length_drop, List.length_take]; rfl)) ?_
                  with_reducible refine (number_List.calls kj29 (fun k_ => (True ∧ some k_ ≠ (.slice (some ad256) t243.length co53 : Value).ownBlock)) _ _ ((rd_T36 t243 a1).f6) t257 _ ?side1 A41.out).mono ?_
                  (case side1 => exact HL256_6.out)
                  rintro e w54 ⟨v258, rfl, ho0, hb⟩
                  have HS0_ := (hb.cell (World.block_lt_of_cell? _ _ (hHeld.1))).trans (hHeld.1)
                  have HS1_ := (hb.cell (World.block_lt_of_cell? _ _ (hHeld.2.1))).trans (hHeld.2.1)
                  have HS2_ := (hb.cell (World.block_lt_of_cell? _ _ (hHeld.2.2.1))).trans (hHeld.2.2.1)
                  have HS3_ := (hb.cell (World.block_lt_of_cell? _ _ (hHeld.2.2.2.1))).trans (hHeld.2.2.2.1)
                  have HS4_ := (hb.cell (World.block_lt_of_cell? _ _ (hHeld.2.2.2.2.1))).trans (hHeld.2.2.2.2.1)
                  have HS5_ := (hb.cell (World.block_lt_of_cell? _ _ (hHeld.2.2.2.2.2.1))).trans (hHeld.2.2.2.2.2.1)
                  have HS6_ := (hb.cell (World.block_lt_of_cell? _ _ (hHeld.2.2.2.2.2.2.1))).trans (hHeld.2.2.2.2.2.2.1)
                  have HS7_ := (hb.cell (World.block_lt_of_cell? _ _ (hHeld.2.2.2.2.2.2.2.1))).trans (hHeld.2.2.2.2.2.2.2.1)
                  have HS8_ := (hb.cell (World.block_lt_of_cell? _ _ (hHeld.2.2.2.2.2.2.2.2.1))).trans (hHeld.2.2.2.2.2.2.2.2.1)
                  have HS9_ := (hb.cell (World.block_lt_of_cell? _ _ (hHeld.2.2.2.2.2.2.2.2.2.1))).trans (hHeld.2.2.2.2.2.2.2.2.2.1)
                  have HS10_ := (hb.cell (World.block_lt_of_cell? _ _ (hHeld.2.2.2.2.2.2.2.2.2.2.1))).trans (hHeld.2.2.2.2.2.2.2.2.2.2.1)
                  have HS11_ := (hb.cell (World.block_lt_of_cell? _ _ (hHeld.2.2.2.2.2.2.2.2.2.2.2.1))).trans (hHeld.2.2.2.2.2.2.2.2.2.2.2.1)
                  have HS12_ := (hb.cell (World.block_lt_of_cell? _ _ (hHeld.2.2.2.2.2.2.2.2.2.2.2.2.1))).trans (hHeld.2.2.2.2.2.2.2.2.2.2.2.2.1)
                  have HS13_ := (hb.cell (World.block_lt_of_cell? _ _ (hHeld.2.2.2.2.2.2.2.2.2.2.2.2.2.1))).trans (hHeld.2.2.2.2.2.2.2.2.2.2.2.2.2.1)
                  have HS14_ := (hb.cell (World.block_lt_of_cell? _ _ (hHeld.2.2.2.2.2.2.2.2.2.2.2.2.2.2.1))).trans (hHeld.2.2.2.2.2.2.2.2.2.2.2.2.2.2.1)
                  have HS15_ := (hb.cell (World.block_lt_of_cell? _ _ (hHeld.2.2.2.2.2.2.2.2.2.2.2.2.2.2.2.1))).trans (hHeld.2.2.2.2.2.2.2.2.2.2.2.2.2.2.2.1)
                  have HS16_ := (hb.cell (World.block_lt_of_cell? _ _ (hHeld.2.2.2.2.2.2.2.2.2.2.2.2.2.2.2.2.1))).trans (hHeld.2.2.2.2.2.2.2.2.2.2.2.2.2.2.2.2.1)
                  have HS17_ := (hb.cell (World.block_lt_of_cell? _ _ (hHeld.2.2.2.2.2.2.2.2.2.2.2.2.2.2.2.2.2.1))).trans (hHeld.2.2.2.2.2.2.2.2.2.2.2.2.2.2.2.2.2.1)
                  have HS18_ := (hb.cell (World.block_lt_of_cell? _ _ (hHeld.2.2.2.2.2.2.2.2.2.2.2.2.2.2.2.2.2.2.1))).trans (hHeld.2.2.2.2.2.2.2.2.2.2.2.2.2.2.2.2.2.2.1)
                  have HS19_ := (hb.cell (World.block_lt_of_cell? _ _ (hHeld.2.2.2.2.2.2.2.2.2.2.2.2.2.2.2.2.2.2.2.1))).trans (hHeld.2.2.2.2.2.2.2.2.2.2.2.2.2.2.2.2.2.2.2.1)
                  have HS20_ := (hb.cell (World.block_lt_of_cell? _ _ (hHeld.2.2.2.2.2.2.2.2.2.2.2.2.2.2.2.2.2.2.2.2.1))).trans (hHeld.2.2.2.2.2.2.2.2.2.2.2.2.2.2.2.2.2.2.2.2.1)
                  have HS21_ := (hb.cell (World.block_lt_of_cell? _ _ (hHeld.2.2.2.2.2.2.2.2.2.2.2.2.2.2.2.2.2.2.2.2.2.1))).trans (hHeld.2.2.2.2.2.2.2.2.2.2.2.2.2.2.2.2.2.2.2.2.2.1)
                  have HS22_ := (hb.cell (World.block_lt_of_cell? _ _ (hHeld.2.2.2.2.2.2.2.2.2.2.2.2.2.2.2.2.2.2.2.2.2.2.1))).trans (hHeld.2.2.2.2.2.2.2.2.2.2.2.2.2.2.2.2.2.2.2.2.2.2.1)
                  have HS23_ := (hb.cell (World.block_lt_of_cell? _ _ (hHeld.2.2.2.2.2.2.2.2.2.2.2.2.2.2.2.2.2.2.2.2.2.2.2))).trans (hHeld.2.2.2.2.2.2.2.2.2.2.2.2.2.2.2.2.2.2.2.2.2.2.2)
                  refine ⟨_, rfl, ?_⟩
                  have n0_ := Aside0.mk (Kd.N_elder' (by (with_reducible repeat (first | apply Kd.N_alloc | apply Kd.N_drewN | apply Kd.N_drew)); exact HO_5.out) (Kd.N_base ho0) hb)
                  have n1_ := Aside0.mk (Kd.V_elder' (by (with_reducible repeat (first | apply Kd.V_alloc | apply Kd.V_drewN | apply Kd.V_drew)); exact HO255.out) (Kd.N_base ho0) hb)
                  have n2_ := Aside0.mk (Kd.V_elder' (by (with_reducible repeat (first | apply Kd.V_alloc | apply Kd.V_drewN | apply Kd.V_drew)); exact HL256_4.out) (Kd.N_base ho0) hb)
                  have n3_ := Aside0.mk (Kd.V_elder' (by (with_reducible repeat (first | apply Kd.V_alloc | apply Kd.V_drewN | apply Kd.V_drew)); exact HL256_5.out) (Kd.N_base ho0) hb)
                  have n4_ := Aside0.mk (Kd.V_elder' (by (with_reducible repeat (first | apply Kd.V_alloc | apply Kd.V_drewN | apply Kd.V_drew)); exact HL256_6.out) (Kd.N_base ho0) hb)
                  have n5_ := Aside0.mk (Kd.V_elder' (by (with_reducible repeat (first | apply Kd.V_alloc | apply Kd.V_drewN | apply Kd.V_drew)); exact HL256_7.out) (Kd.N_base ho0) hb)
                  have n6_ := Aside0.mk (Kd.N_lower (Kd.N_mono (ok' := fun k_ => some k_ ≠ (.slice (some ad256) t243.length co53 : Value).ownBlock) ho0 (fun k_ hk_ => Or.elim hk_ (fun hs_ => hs_.2) (fun hn_ => (Kd.fresh' (Kd.N_lt (by (with_reducible repeat (first | apply Kd.N_alloc | apply Kd.N_drewN | apply Kd.N_drew)); exact HO_5.out)) k_ hn_)))) (below_size (by repeat (first | (with_reducible first | exact HB.out | apply below_alloc | apply pw_below_drewN | apply below_drew1) | exact HB.out))))
                  have n7_ := Aside0.mk (Kd.C_below (by repeat (first | (with_reducible exact HR256_4.out) | (with_reducible refine Kd.C_alloc ?_ _) | (with_reducible refine Kd.C_drewN ?_ _) | (with_reducible refine Kd.C_drew ?_) | exact HR256_4.out)) hb)
                  have n8_ := Aside0.mk (Kd.C_below (by repeat (first | (with_reducible exact HR256_5.out) | (with_reducible refine Kd.C_alloc ?_ _) | (with_reducible refine Kd.C_drewN ?_ _) | (with_reducible refine Kd.C_drew ?_) | exact HR256_5.out)) hb)
                  have n9_ := Aside0.mk (Kd.C_below (by repeat (first | (with_reducible exact HR256_6.out) | (with_reducible refine Kd.C_alloc ?_ _) | (with_reducible refine Kd.C_drewN ?_ _) | (with_reducible refine Kd.C_drew ?_) | exact HR256_6.out)) hb)
                  have n10_ := Aside0.mk (Kd.C_below (by repeat (first | (with_reducible exact HR256_7.out) | (with_reducible refine Kd.C_alloc ?_ _) | (with_reducible refine Kd.C_drewN ?_ _) | (with_reducible refine Kd.C_drew ?_) | exact HR256_7.out)) hb)
                  have n11_ := Aside0.mk (below_step (by repeat (first | (with_reducible first | exact HB.out | apply below_alloc | apply pw_below_drewN | apply below_drew1) | exact HB.out)) hb)
                  clear HO_5
                  clear HO255
                  clear HL256_4
                  clear HL256_5
                  clear HL256_6
                  clear HL256_7
                  clear HR256_4
                  clear HR256_5
                  clear HR256_6
                  clear HR256_7
                  clear HB
                  have HO_5 := n0_
                  have HO255 := n1_
                  have HL256_4 := n2_
                  have HL256_5 := n3_
                  have HL256_6 := n4_
                  have HL256_7 := n5_
                  have HO259 := n6_
                  have HR256_4 := n7_
                  have HR256_5 := n8_
                  have HR256_6 := n9_
                  have HR256_7 := n10_
                  have HB := n11_
                  clear n0_ n1_ n2_ n3_ n4_ n5_ n6_ n7_ n8_ n9_ n10_ n11_
                  (try clear hb)
                  (try clear hb2)
                  (try clear hk)
                  (try clear hi)
                  (try clear ho0)
                  obtain ⟨Ao55, co55, eo55⟩ := Kd.N_slice HO259.out
                  (first | subst eo55 | (injection eo55 with f1_ f2_ f3_; have f4_ := f1_.symm; have f5_ := f3_.symm; clear f1_ f2_ f3_; subst f4_; subst f5_))
                  refine hK.out _ _ ⟨HS0_, HS1_, HS2_, HS3_, HS4_, HS5_, HS6_, HS7_, HS8_, HS9_, HS10_, HS11_, HS12_, HS13_, HS14_, HS15_, HS16_, HS17_, HS18_, HS19_, HS20_, HS21_, HS22_, HS23_⟩ (fun hHeld => ?_)
                  clear hK K
                  refine norm_ (a' := ?_) ?_ ?_
                  rotate_left
                  ·show Act.put _ (some 75) _ = _
                   simp only [Act.put, List.setIfInBounds_toArray, List.set_cons_zero, List.set_cons_succ, i64_w, i32_w]
                   rfl
                  refine one_ (i := 10) (N := some 76) #[true, true, true, true, true, true, true, true, true, true, true, false, false, false, false, false, false, false, false, false, false, false, false, false, false, false, false, false, false, false, false, false, false, false, false, false, false] rfl rfl (one_of HT_.out (by kernel_rfl)) (by decide) (fun K hK => ?_)
                  refine goes_ Try.func15 (by kernel_rfl) rfl #[.slice A52 y251.length c52, .slice Ao55 t257.length co55] (by rfl) rfl rfl (by (try simp only [List.map_toArray, List.map_cons, List.map_nil]); first | done | rfl | (simp only [List.length_drop, List.length_take]; rfl)) ?_
                  with_reducible refine (proteanref02_Stmts.calls _ _ y251 _ _ t257 true _ ?side1 ?side2 ?side3 ?side4 A42.out).mono ?_
                  (case side1 => repeat (first | exact (Kd.V_reads' HO255.out).2.2 | (with_reducible refine Kd.C_alloc ?_ _) | (with_reducible refine Kd.C_drewN ?_ _) | (with_reducible refine Kd.C_drew ?_)))
                  (case side2 => exact (Kd.V_reads' HO255.out).2.1)
                  (case side3 => repeat (first | exact (Kd.N_reads' HO259.out).2.2 | (with_reducible refine Kd.C_alloc ?_ _) | (with_reducible refine Kd.C_drewN ?_ _) | (with_reducible refine Kd.C_drew ?_)))
                  (case side4 => exact (Kd.N_reads' HO259.out).2.1)
                  rintro e w56 ⟨rfl, hb⟩
                  have HS0_ := (hb.cell (World.block_lt_of_cell? _ _ (hHeld.1))).trans (hHeld.1)
                  have HS1_ := (hb.cell (World.block_lt_of_cell? _ _ (hHeld.2.1))).trans (hHeld.2.1)
                  have HS2_ := (hb.cell (World.block_lt_of_cell? _ _ (hHeld.2.2.1))).trans (hHeld.2.2.1)
                  have HS3_ := (hb.cell (World.block_lt_of_cell? _ _ (hHeld.2.2.2.1))).trans (hHeld.2.2.2.1)
                  have HS4_ := (hb.cell (World.block_lt_of_cell? _ _ (hHeld.2.2.2.2.1))).trans (hHeld.2.2.2.2.1)
                  have HS5_ := (hb.cell (World.block_lt_of_cell? _ _ (hHeld.2.2.2.2.2.1))).trans (hHeld.2.2.2.2.2.1)
                  have HS6_ := (hb.cell (World.block_lt_of_cell? _ _ (hHeld.2.2.2.2.2.2.1))).trans (hHeld.2.2.2.2.2.2.1)
                  have HS7_ := (hb.cell (World.block_lt_of_cell? _ _ (hHeld.2.2.2.2.2.2.2.1))).trans (hHeld.2.2.2.2.2.2.2.1)
                  have HS8_ := (hb.cell (World.block_lt_of_cell? _ _ (hHeld.2.2.2.2.2.2.2.2.1))).trans (hHeld.2.2.2.2.2.2.2.2.1)
                  have HS9_ := (hb.cell (World.block_lt_of_cell? _ _ (hHeld.2.2.2.2.2.2.2.2.2.1))).trans (hHeld.2.2.2.2.2.2.2.2.2.1)
                  have HS10_ := (hb.cell (World.block_lt_of_cell? _ _ (hHeld.2.2.2.2.2.2.2.2.2.2.1))).trans (hHeld.2.2.2.2.2.2.2.2.2.2.1)
                  have HS11_ := (hb.cell (World.block_lt_of_cell? _ _ (hHeld.2.2.2.2.2.2.2.2.2.2.2.1))).trans (hHeld.2.2.2.2.2.2.2.2.2.2.2.1)
                  have HS12_ := (hb.cell (World.block_lt_of_cell? _ _ (hHeld.2.2.2.2.2.2.2.2.2.2.2.2.1))).trans (hHeld.2.2.2.2.2.2.2.2.2.2.2.2.1)
                  have HS13_ := (hb.cell (World.block_lt_of_cell? _ _ (hHeld.2.2.2.2.2.2.2.2.2.2.2.2.2.1))).trans (hHeld.2.2.2.2.2.2.2.2.2.2.2.2.2.1)
                  have HS14_ := (hb.cell (World.block_lt_of_cell? _ _ (hHeld.2.2.2.2.2.2.2.2.2.2.2.2.2.2.1))).trans (hHeld.2.2.2.2.2.2.2.2.2.2.2.2.2.2.1)
                  have HS15_ := (hb.cell (World.block_lt_of_cell? _ _ (hHeld.2.2.2.2.2.2.2.2.2.2.2.2.2.2.2.1))).trans (hHeld.2.2.2.2.2.2.2.2.2.2.2.2.2.2.2.1)
                  have HS16_ := (hb.cell (World.block_lt_of_cell? _ _ (hHeld.2.2.2.2.2.2.2.2.2.2.2.2.2.2.2.2.1))).trans (hHeld.2.2.2.2.2.2.2.2.2.2.2.2.2.2.2.2.1)
                  have HS17_ := (hb.cell (World.block_lt_of_cell? _ _ (hHeld.2.2.2.2.2.2.2.2.2.2.2.2.2.2.2.2.2.1))).trans (hHeld.2.2.2.2.2.2.2.2.2.2.2.2.2.2.2.2.2.1)
                  have HS18_ := (hb.cell (World.block_lt_of_cell? _ _ (hHeld.2.2.2.2.2.2.2.2.2.2.2.2.2.2.2.2.2.2.1))).trans (hHeld.2.2.2.2.2.2.2.2.2.2.2.2.2.2.2.2.2.2.1)
                  have HS19_ := (hb.cell (World.block_lt_of_cell? _ _ (hHeld.2.2.2.2.2.2.2.2.2.2.2.2.2.2.2.2.2.2.2.1))).trans (hHeld.2.2.2.2.2.2.2.2.2.2.2.2.2.2.2.2.2.2.2.1)
                  have HS20_ := (hb.cell (World.block_lt_of_cell? _ _ (hHeld.2.2.2.2.2.2.2.2.2.2.2.2.2.2.2.2.2.2.2.2.1))).trans (hHeld.2.2.2.2.2.2.2.2.2.2.2.2.2.2.2.2.2.2.2.2.1)
                  have HS21_ := (hb.cell (World.block_lt_of_cell? _ _ (hHeld.2.2.2.2.2.2.2.2.2.2.2.2.2.2.2.2.2.2.2.2.2.1))).trans (hHeld.2.2.2.2.2.2.2.2.2.2.2.2.2.2.2.2.2.2.2.2.2.1)
                  have HS22_ := (hb.cell (World.block_lt_of_cell? _ _ (hHeld.2.2.2.2.2.2.2.2.2.2.2.2.2.2.2.2.2.2.2.2.2.2.1))).trans (hHeld.2.2.2.2.2.2.2.2.2.2.2.2.2.2.2.2.2.2.2.2.2.2.1)
                  have HS23_ := (hb.cell (World.block_lt_of_cell? _ _ (hHeld.2.2.2.2.2.2.2.2.2.2.2.2.2.2.2.2.2.2.2.2.2.2.2))).trans (hHeld.2.2.2.2.2.2.2.2.2.2.2.2.2.2.2.2.2.2.2.2.2.2.2)
                  refine ⟨_, rfl, ?_⟩
                  have n0_ := Aside0.mk (Kd.N_below (by (with_reducible repeat (first | apply Kd.N_alloc | apply Kd.N_drewN | apply Kd.N_drew)); exact HO_5.out) hb)
                  have n1_ := Aside0.mk (Kd.V_below (by (with_reducible repeat (first | apply Kd.V_alloc | apply Kd.V_drewN | apply Kd.V_drew)); exact HO255.out) hb)
                  have n2_ := Aside0.mk (Kd.V_below (by (with_reducible repeat (first | apply Kd.V_alloc | apply Kd.V_drewN | apply Kd.V_drew)); exact HL256_4.out) hb)
                  have n3_ := Aside0.mk (Kd.V_below (by (with_reducible repeat (first | apply Kd.V_alloc | apply Kd.V_drewN | apply Kd.V_drew)); exact HL256_5.out) hb)
                  have n4_ := Aside0.mk (Kd.V_below (by (with_reducible repeat (first | apply Kd.V_alloc | apply Kd.V_drewN | apply Kd.V_drew)); exact HL256_6.out) hb)
                  have n5_ := Aside0.mk (Kd.V_below (by (with_reducible repeat (first | apply Kd.V_alloc | apply Kd.V_drewN | apply Kd.V_drew)); exact HL256_7.out) hb)
                  have n6_ := Aside0.mk (Kd.N_below (by (with_reducible repeat (first | apply Kd.N_alloc | apply Kd.N_drewN | apply Kd.N_drew)); exact HO259.out) hb)
                  have n7_ := Aside0.mk (Kd.C_below (by repeat (first | (with_reducible exact HR256_4.out) | (with_reducible refine Kd.C_alloc ?_ _) | (with_reducible refine Kd.C_drewN ?_ _) | (with_reducible refine Kd.C_drew ?_) | exact HR256_4.out)) hb)
                  have n8_ := Aside0.mk (Kd.C_below (by repeat (first | (with_reducible exact HR256_5.out) | (with_reducible refine Kd.C_alloc ?_ _) | (with_reducible refine Kd.C_drewN ?_ _) | (with_reducible refine Kd.C_drew ?_) | exact HR256_5.out)) hb)
                  have n9_ := Aside0.mk (Kd.C_below (by repeat (first | (with_reducible exact HR256_6.out) | (with_reducible refine Kd.C_alloc ?_ _) | (with_reducible refine Kd.C_drewN ?_ _) | (with_reducible refine Kd.C_drew ?_) | exact HR256_6.out)) hb)
                  have n10_ := Aside0.mk (Kd.C_below (by repeat (first | (with_reducible exact HR256_7.out) | (with_reducible refine Kd.C_alloc ?_ _) | (with_reducible refine Kd.C_drewN ?_ _) | (with_reducible refine Kd.C_drew ?_) | exact HR256_7.out)) hb)
                  have n11_ := Aside0.mk (below_step (by repeat (first | (with_reducible first | exact HB.out | apply below_alloc | apply pw_below_drewN | apply below_drew1) | exact HB.out)) hb)
                  clear HO_5
                  clear HO255
                  clear HL256_4
                  clear HL256_5
                  clear HL256_6
                  clear HL256_7
                  clear HO259
                  clear HR256_4
                  clear HR256_5
                  clear HR256_6
                  clear HR256_7
                  clear HB
                  have HO_5 := n0_
                  have HO255 := n1_
                  have HL256_4 := n2_
                  have HL256_5 := n3_
                  have HL256_6 := n4_
                  have HL256_7 := n5_
                  have HO259 := n6_
                  have HR256_4 := n7_
                  have HR256_5 := n8_
                  have HR256_6 := n9_
                  have HR256_7 := n10_
                  have HB := n11_
                  clear n0_ n1_ n2_ n3_ n4_ n5_ n6_ n7_ n8_ n9_ n10_ n11_
                  (try clear hb)
                  (try clear hb2)
                  (try clear hk)
                  (try clear hi)
                  have q57 : (t248 : Int) ≤ ((t243.length : Int) : Int) := of_decide_eq_true (by first | (with_reducible assumption) | assumption)
                  obtain ⟨i057, hi057, _, hsz57, _⟩ := info_parts info36
                  have hroom57 : t243.length ≤ co53 := (Kd.N_reads' HO_5.out).2.1
                  have hC57 : Kd.F k36 _ _ (some ad256) t243.length t243 := (Kd.V_at (base := w.heap.size) (Kd.N_V HO_5.out)).2.2
                  have ql57 : (t247 : Int) ≤ (t248 : Int) := of_decide_eq_true (by first | (with_reducible assumption) | assumption)
                  have q057 : (0 : Int) ≤ (t247 : Int) := of_decide_eq_true (by first | (with_reducible assumption) | assumption)
                  have hcut57 := cut_mid (P := Try.prog) 22 36 .i64 .i64 Try.underlying22 hi057 8 hsz57 (some ad256) t243.length co53 t247 t248 q057 ql57 q57 hroom57
                  have hr57 := Kd.F_mid (lo := (t247 : Int).toNat) (hi := (t248 : Int).toNat) (c := co53) hC57 (by omega) (by omega) hroom57
                  obtain ⟨A57, hA57⟩ : ∃ A1, A1 = (if co53 = (t247 : Int).toNat then (some ad256) else ((some ad256) : Option Addr).map (·.add ((t247 : Int).toNat * 8))) := ⟨_, rfl⟩
                  obtain ⟨c57, hc57⟩ : ∃ c1, c1 = co53 - (t247 : Int).toNat := ⟨_, rfl⟩
                  have hy57 : y261.length = (t248 : Int).toNat - (t247 : Int).toNat := (by rw [Ny261.out, List.length_drop, List.length_take] <;> omega)
                  rw [show ((t243).take (t248 : Int).toNat).drop (t247 : Int).toNat = y261 from Ny261.out.symm] at hr57
                  replace hr57 : Kd.F k36 _ _ A57 y261.length y261 := (by rw [hA57]; exact hr57)
                  rw [← hy57, ← hA57, ← hc57] at hcut57
                  have HO265 := Aside0.mk (show Kd.V k36 36 _ w.heap.size _ (.slice A57 y261.length c57) y261 from Kd.V_mk (by rw [hy57, hc57]; exact Nat.sub_le_sub_right (Nat.le_trans (by omega) hroom57) _) hr57)
                  have HC265 := Aside0.mk (show y261.length ≤ c57 from by rw [hy57, hc57]; exact Nat.sub_le_sub_right (Nat.le_trans (by omega) hroom57) _)
                  clear hr57 hC57 hroom57 hi057 hsz57 hc57
                  have KY57 := Aside0.mk hy57
                  have KA57 := Aside0.mk hA57
                  clear hy57 hA57
                  replace q57 := eq_true q57
                  refine hK.out _ _ ⟨HS0_, HS1_, HS2_, HS3_, HS4_, HS5_, HS6_, HS7_, HS8_, HS9_, HS10_, HS11_, HS12_, HS13_, HS14_, HS15_, HS16_, HS17_, HS18_, HS19_, HS20_, HS21_, HS22_, HS23_⟩ (fun hHeld => ?_)
                  clear hK K
                  refine norm_ (a' := ?_) ?_ ?_
                  rotate_left
                  ·show Act.put _ (some 76) _ = _
                   simp only [Act.put, List.setIfInBounds_toArray, List.set_cons_zero, List.set_cons_succ, i64_w, i32_w]
                   rfl
                  refine pure_ (i := 11) (N := some 77) (v := ?_) (a' := ?_) #[true, true, true, true, true, true, true, true, true, true, true, true, false, false, false, false, false, false, false, false, false, false, false, false, false, false, false, false, false, false, false, false, false, false, false, false, false] rfl rfl (any_of HT_.out (by kernel_rfl)) (fun _ _ _ h => h) (Or.inl ⟨by rfl, ?_⟩) ?_ ?_
                  rotate_left
                  ·intro w'
                   go_simp
                   with_reducible rfl
                  rotate_left
                  ·simp only [Act.put, List.setIfInBounds_toArray, List.set_cons_zero, List.set_cons_succ, i64_w, i32_w]
                   rfl
                  refine pure_ (i := 12) (N := some 78) (v := ?_) (a' := ?_) #[true, true, true, true, true, true, true, true, true, true, true, true, true, false, false, false, false, false, false, false, false, false, false, false, false, false, false, false, false, false, false, false, false, false, false, false, false] rfl rfl (any_of HT_.out (by kernel_rfl)) (fun _ _ _ h => h) (Or.inl ⟨by rfl, ?_⟩) ?_ ?_
                  rotate_left
                  ·intro w'
                   go_simp
                   with_reducible rfl
                  rotate_left
                  ·simp only [Act.put, List.setIfInBounds_toArray, List.set_cons_zero, List.set_cons_succ, i64_w, i32_w]
                   rfl
                  refine pure_ (i := 13) (N := some 79) (v := ?_) (a' := ?_) #[true, true, true, true, true, true, true, true, true, true, true, true, true, true, false, false, false, false, false, false, false, false, false, false, false, false, false, false, false, false, false, false, false, false, false, false, false] rfl rfl (any_of HT_.out (by kernel_rfl)) (fun _ _ _ h => h) (Or.inl ⟨by rfl, ?_⟩) ?_ ?_
                  rotate_left
                  ·intro w'
                   go_simp
                   with_reducible rfl
                  rotate_left
                  ·simp only [Act.put, List.setIfInBounds_toArray, List.set_cons_zero, List.set_cons_succ, i64_w, i32_w]
                   rfl
                  refine pure_ (i := 14) (N := some 80) (v := ?_) (a' := ?_) #[true, true, true, true, true, true, true, true, true, true, true, true, true, true, true, false, false, false, false, false, false, false, false, false, false, false, false, false, false, false, false, false, false, false, false, false, false] rfl rfl (any_of HT_.out (by kernel_rfl)) (fun _ _ _ h => h) (Or.inl ⟨by rfl, ?_⟩) ?_ ?_
                  rotate_left
                  ·intro w'
                   go_simp
                   with_reducible rfl
                  rotate_left
                  ·simp only [Act.put, List.setIfInBounds_toArray, List.set_cons_zero, List.set_cons_succ, i64_w, i32_w]
                   rfl
                  refine pure_ (i := 15) (N := some 81) (v := ?_) (a' := ?_) #[true, true, true, true, true, true, true, true, true, true, true, true, true, true, true, true, false, false, false, false, false, false, false, false, false, false, false, false, false, false, false, false, false, false, false, false, false] rfl rfl (any_of HT_.out (by kernel_rfl)) (fun _ _ _ h => h) (Or.inl ⟨by rfl, ?_⟩) ?_ ?_
                  rotate_left
                  ·intro w'
                   go_simp
                   with_reducible rfl
                  rotate_left
                  ·simp only [Act.put, List.setIfInBounds_toArray, List.set_cons_zero, List.set_cons_succ, i64_w, i32_w]
                   rfl
                  refine pure_ (i := 16) (N := some 82) (v := ?_) (a' := ?_) #[true, true, true, true, true, true, true, true, true, true, true, true, true, true, true, true, true, false, false, false, false, false, false, false, false, false, false, false, false, false, false, false, false, false, false, false, false] rfl rfl (any_of HT_.out (by kernel_rfl)) (fun _ _ _ h => h) (Or.inl ⟨by rfl, ?_⟩) ?_ ?_
                  rotate_left
                  ·intro w'
                   go_simp
                   with_reducible rfl
                  rotate_left
                  ·simp only [Act.put, List.setIfInBounds_toArray, List.set_cons_zero, List.set_cons_succ, i64_w, i32_w]
                   rfl
                  refine pure_ (i := 17) (N := some 83) (v := ?_) (a' := ?_) #[true, true, true, true, true, true, true, true, true, true, true, true, true, true, true, true, true, true, false, false, false, false, false, false, false, false, false, false, false, false, false, false, false, false, false, false, false] rfl rfl (any_of HT_.out (by kernel_rfl)) (fun _ _ _ h => h) (Or.inl ⟨by rfl, ?_⟩) ?_ ?_
                  rotate_left
                  ·intro w'
                   go_simp
                   with_reducible rfl
                  rotate_left
                  ·simp only [Act.put, List.setIfInBounds_toArray, List.set_cons_zero, List.set_cons_succ, i64_w, i32_w]
                   rfl
                  refine pure_ (i := 18) (N := some 84) (v := ?_) (a' := ?_) #[true, true, true, true, true, true, true, true, true, true, true, true, true, true, true, true, true, true, true, false, false, false, false, false, false, false, false, false, false, false, false, false, false, false, false, false, false] rfl rfl (any_of HT_.out (by kernel_rfl)) (fun _ _ _ h => h) (Or.inl ⟨by rfl, ?_⟩) ?_ ?_
                  rotate_left
                  ·intro w'
                   go_simp
                   with_reducible rfl
                  rotate_left
                  ·simp only [Act.put, List.setIfInBounds_toArray, List.set_cons_zero, List.set_cons_succ, i64_w, i32_w]
                   rfl
                  refine pure_ (i := 19) (N := some 85) (v := ?_) (a' := ?_) #[true, true, true, true, true, true, true, true, true, true, true, true, true, true, true, true, true, true, true, true, false, false, false, false, false, false, false, false, false, false, false, false, false, false, false, false, false] rfl rfl (any_of HT_.out (by kernel_rfl)) (fun _ _ _ h => h) (Or.inl ⟨by rfl, ?_⟩) ?_ ?_
                  rotate_left
                  ·intro w'
                   go_simp
                   with_reducible rfl
                  rotate_left
                  ·simp only [Act.put, List.setIfInBounds_toArray, List.set_cons_zero, List.set_cons_succ, i64_w, i32_w]
                   rfl
                  refine take_ (i := 20) (N := some 86) (v := ?_) (a' := ?_) #[true, true, true, true, true, true, true, true, true, true, true, true, true, true, true, true, true, true, true, true, true, false, false, false, false, false, false, false, false, false, false, false, false, false, false, false, false] rfl rfl (take_ofW HT_.out HW_.out (by kernel_rfl)) (fun _ _ _ h => h) (Or.inl ⟨by rfl, ?_⟩) hHeld ?_ ?_
                  rotate_left
                  ·rintro w' ⟨s0, s1, s2, s3, s4, s5, s6, s7, s8, s9, s10, s11, s12, s13, s14, s15, s16, s17, s18, s19, s20, s21, s22, s23⟩
                   go_simp
                   with_reducible rfl
                  rotate_left
                  ·simp only [Act.put, List.setIfInBounds_toArray, List.set_cons_zero, List.set_cons_succ, i64_w, i32_w]
                   rfl
                  refine one_ (i := 21) (N := some 87) #[true, true, true, true, true, true, true, true, true, true, true, true, true, true, true, true, true, true, true, true, true, true, false, false, false, false, false, false, false, false, false, false, false, false, false, false, false] rfl rfl (one_of HT_.out (by kernel_rfl)) (by decide) (fun K hK => ?_)
                  clear HL266_4 HR266_4 HL266_5 HR266_5 HL266_6 HR266_6 HL266_7 HR266_7
                  have HL266_4 := HL256_4
                  rw [EA266_4.out, EC266_4.out] at HL266_4
                  have HR266_4 := HR256_4
                  rw [EA266_4.out] at HR266_4
                  have HL266_5 := HL256_5
                  rw [EA266_5.out, EC266_5.out] at HL266_5
                  have HR266_5 := HR256_5
                  rw [EA266_5.out] at HR266_5
                  have HL266_6 := HL256_6
                  rw [EA266_6.out, EC266_6.out] at HL266_6
                  have HR266_6 := HR256_6
                  rw [EA266_6.out] at HR266_6
                  have HL266_7 := HL256_7
                  rw [EA266_7.out, EC266_7.out] at HL266_7
                  have HR266_7 := HR256_7
                  rw [EA266_7.out] at HR266_7
                  refine goes_ Try.func16 (by kernel_rfl) rfl #[.slice A256_7 ((rd_T36 t243 a1).f7).length c256_7] (by rfl) rfl rfl (by (try simp only [List.map_toArray, List.map_cons, List.map_nil]); first | done | rfl | (simp only [List.length_drop, List.length_take]; rfl)) ?_
                  with_reducible refine (number_List.calls kj29 (fun k_ => ((True ∧ some k_ ≠ (.slice Ao55 t257.length co55 : Value).ownBlock) ∧ some k_ ≠ (.slice (some ad256) t243.length co53 : Value).ownBlock)) _ _ ((rd_T36 t243 a1).f7) t267 _ ?side1 A47.out).mono ?_
                  (case side1 => exact Kd.V_mk (Kd.V_at HL256_7.out).2.1 (Kd.F_mono (Kd.V_at HL256_7.out).2.2 (fun k_ hk_ => ⟨⟨hk_.1.1, hk_.2⟩, hk_.1.2⟩)))
                  rintro e w58 ⟨v268, rfl, ho0, hb⟩
                  have HS0_ := (hb.cell (World.block_lt_of_cell? _ _ (hHeld.1))).trans (hHeld.1)
                  have HS1_ := (hb.cell (World.block_lt_of_cell? _ _ (hHeld.2.1))).trans (hHeld.2.1)
                  have HS2_ := (hb.cell (World.block_lt_of_cell? _ _ (hHeld.2.2.1))).trans (hHeld.2.2.1)
                  have HS3_ := (hb.cell (World.block_lt_of_cell? _ _ (hHeld.2.2.2.1))).trans (hHeld.2.2.2.1)
                  have HS4_ := (hb.cell (World.block_lt_of_cell? _ _ (hHeld.2.2.2.2.1))).trans (hHeld.2.2.2.2.1)
                  have HS5_ := (hb.cell (World.block_lt_of_cell? _ _ (hHeld.2.2.2.2.2.1))).trans (hHeld.2.2.2.2.2.1)
                  have HS6_ := (hb.cell (World.block_lt_of_cell? _ _ (hHeld.2.2.2.2.2.2.1))).trans (hHeld.2.2.2.2.2.2.1)
                  have HS7_ := (hb.cell (World.block_lt_of_cell? _ _ (hHeld.2.2.2.2.2.2.2.1))).trans (hHeld.2.2.2.2.2.2.2.1)
                  have HS8_ := (hb.cell (World.block_lt_of_cell? _ _ (hHeld.2.2.2.2.2.2.2.2.1))).trans (hHeld.2.2.2.2.2.2.2.2.1)
                  have HS9_ := (hb.cell (World.block_lt_of_cell? _ _ (hHeld.2.2.2.2.2.2.2.2.2.1))).trans (hHeld.2.2.2.2.2.2.2.2.2.1)
                  have HS10_ := (hb.cell (World.block_lt_of_cell? _ _ (hHeld.2.2.2.2.2.2.2.2.2.2.1))).trans (hHeld.2.2.2.2.2.2.2.2.2.2.1)
                  have HS11_ := (hb.cell (World.block_lt_of_cell? _ _ (hHeld.2.2.2.2.2.2.2.2.2.2.2.1))).trans (hHeld.2.2.2.2.2.2.2.2.2.2.2.1)
                  have HS12_ := (hb.cell (World.block_lt_of_cell? _ _ (hHeld.2.2.2.2.2.2.2.2.2.2.2.2.1))).trans (hHeld.2.2.2.2.2.2.2.2.2.2.2.2.1)
                  have HS13_ := (hb.cell (World.block_lt_of_cell? _ _ (hHeld.2.2.2.2.2.2.2.2.2.2.2.2.2.1))).trans (hHeld.2.2.2.2.2.2.2.2.2.2.2.2.2.1)
                  have HS14_ := (hb.cell (World.block_lt_of_cell? _ _ (hHeld.2.2.2.2.2.2.2.2.2.2.2.2.2.2.1))).trans (hHeld.2.2.2.2.2.2.2.2.2.2.2.2.2.2.1)
                  have HS15_ := (hb.cell (World.block_lt_of_cell? _ _ (hHeld.2.2.2.2.2.2.2.2.2.2.2.2.2.2.2.1))).trans (hHeld.2.2.2.2.2.2.2.2.2.2.2.2.2.2.2.1)
                  have HS16_ := (hb.cell (World.block_lt_of_cell? _ _ (hHeld.2.2.2.2.2.2.2.2.2.2.2.2.2.2.2.2.1))).trans (hHeld.2.2.2.2.2.2.2.2.2.2.2.2.2.2.2.2.1)
                  have HS17_ := (hb.cell (World.block_lt_of_cell? _ _ (hHeld.2.2.2.2.2.2.2.2.2.2.2.2.2.2.2.2.2.1))).trans (hHeld.2.2.2.2.2.2.2.2.2.2.2.2.2.2.2.2.2.1)
                  have HS18_ := (hb.cell (World.block_lt_of_cell? _ _ (hHeld.2.2.2.2.2.2.2.2.2.2.2.2.2.2.2.2.2.2.1))).trans (hHeld.2.2.2.2.2.2.2.2.2.2.2.2.2.2.2.2.2.2.1)
                  have HS19_ := (hb.cell (World.block_lt_of_cell? _ _ (hHeld.2.2.2.2.2.2.2.2.2.2.2.2.2.2.2.2.2.2.2.1))).trans (hHeld.2.2.2.2.2.2.2.2.2.2.2.2.2.2.2.2.2.2.2.1)
                  have HS20_ := (hb.cell (World.block_lt_of_cell? _ _ (hHeld.2.2.2.2.2.2.2.2.2.2.2.2.2.2.2.2.2.2.2.2.1))).trans (hHeld.2.2.2.2.2.2.2.2.2.2.2.2.2.2.2.2.2.2.2.2.1)
                  have HS21_ := (hb.cell (World.block_lt_of_cell? _ _ (hHeld.2.2.2.2.2.2.2.2.2.2.2.2.2.2.2.2.2.2.2.2.2.1))).trans (hHeld.2.2.2.2.2.2.2.2.2.2.2.2.2.2.2.2.2.2.2.2.2.1)
                  have HS22_ := (hb.cell (World.block_lt_of_cell? _ _ (hHeld.2.2.2.2.2.2.2.2.2.2.2.2.2.2.2.2.2.2.2.2.2.2.1))).trans (hHeld.2.2.2.2.2.2.2.2.2.2.2.2.2.2.2.2.2.2.2.2.2.2.1)
                  have HS23_ := (hb.cell (World.block_lt_of_cell? _ _ (hHeld.2.2.2.2.2.2.2.2.2.2.2.2.2.2.2.2.2.2.2.2.2.2.2))).trans (hHeld.2.2.2.2.2.2.2.2.2.2.2.2.2.2.2.2.2.2.2.2.2.2.2)
                  refine ⟨_, rfl, ?_⟩
                  have n0_ := Aside0.mk (Kd.N_elder' (by (with_reducible repeat (first | apply Kd.N_alloc | apply Kd.N_drewN | apply Kd.N_drew)); exact HO_5.out) (Kd.N_base ho0) hb)
                  have n1_ := Aside0.mk (Kd.V_elder' (by (with_reducible repeat (first | apply Kd.V_alloc | apply Kd.V_drewN | apply Kd.V_drew)); exact HO255.out) (Kd.N_base ho0) hb)
                  have n2_ := Aside0.mk (Kd.V_elder' (by (with_reducible repeat (first | apply Kd.V_alloc | apply Kd.V_drewN | apply Kd.V_drew)); exact HL256_4.out) (Kd.N_base ho0) hb)
                  have n3_ := Aside0.mk (Kd.V_elder' (by (with_reducible repeat (first | apply Kd.V_alloc | apply Kd.V_drewN | apply Kd.V_drew)); exact HL256_5.out) (Kd.N_base ho0) hb)
                  have n4_ := Aside0.mk (Kd.V_elder' (by (with_reducible repeat (first | apply Kd.V_alloc | apply Kd.V_drewN | apply Kd.V_drew)); exact HL256_6.out) (Kd.N_base ho0) hb)
                  have n5_ := Aside0.mk (Kd.V_elder' (by (with_reducible repeat (first | apply Kd.V_alloc | apply Kd.V_drewN | apply Kd.V_drew)); exact HL256_7.out) (Kd.N_base ho0) hb)
                  have n6_ := Aside0.mk (Kd.N_elder' (by (with_reducible repeat (first | apply Kd.N_alloc | apply Kd.N_drewN | apply Kd.N_drew)); exact HO259.out) (Kd.N_base ho0) hb)
                  have n7_ := Aside0.mk (Kd.V_elder' (by (with_reducible repeat (first | apply Kd.V_alloc | apply Kd.V_drewN | apply Kd.V_drew)); exact HO265.out) (Kd.N_base ho0) hb)
                  have n8_ := Aside0.mk (Kd.V_elder' (by (with_reducible repeat (first | apply Kd.V_alloc | apply Kd.V_drewN | apply Kd.V_drew)); exact HL266_4.out) (Kd.N_base ho0) hb)
                  have n9_ := Aside0.mk (Kd.V_elder' (by (with_reducible repeat (first | apply Kd.V_alloc | apply Kd.V_drewN | apply Kd.V_drew)); exact HL266_5.out) (Kd.N_base ho0) hb)
                  have n10_ := Aside0.mk (Kd.V_elder' (by (with_reducible repeat (first | apply Kd.V_alloc | apply Kd.V_drewN | apply Kd.V_drew)); exact HL266_6.out) (Kd.N_base ho0) hb)
                  have n11_ := Aside0.mk (Kd.V_elder' (by (with_reducible repeat (first | apply Kd.V_alloc | apply Kd.V_drewN | apply Kd.V_drew)); exact HL266_7.out) (Kd.N_base ho0) hb)
                  have n12_ := Aside0.mk (Kd.N_lower (Kd.N_mono (ok' := fun k_ => some k_ ≠ (.slice (some ad256) t243.length co53 : Value).ownBlock ∧ some k_ ≠ (.slice Ao55 t257.length co55 : Value).ownBlock) ho0 (fun k_ hk_ => ⟨Or.elim hk_ (fun hs_ => hs_.2) (fun hn_ => (Kd.fresh' (Kd.N_lt (by (with_reducible repeat (first | apply Kd.N_alloc | apply Kd.N_drewN | apply Kd.N_drew)); exact HO_5.out)) k_ hn_)), Or.elim hk_ (fun hs_ => hs_.1.2) (fun hn_ => (Kd.fresh' (Kd.N_lt (by (with_reducible repeat (first | apply Kd.N_alloc | apply Kd.N_drewN | apply Kd.N_drew)); exact HO259.out)) k_ hn_))⟩)) (below_size (by repeat (first | (with_reducible first | exact HB.out | apply below_alloc | apply pw_below_drewN | apply below_drew1) | exact HB.out))))
                  have n13_ := Aside0.mk (Kd.C_below (by repeat (first | (with_reducible exact HR256_4.out) | (with_reducible refine Kd.C_alloc ?_ _) | (with_reducible refine Kd.C_drewN ?_ _) | (with_reducible refine Kd.C_drew ?_) | exact HR256_4.out)) hb)
                  have n14_ := Aside0.mk (Kd.C_below (by repeat (first | (with_reducible exact HR256_5.out) | (with_reducible refine Kd.C_alloc ?_ _) | (with_reducible refine Kd.C_drewN ?_ _) | (with_reducible refine Kd.C_drew ?_) | exact HR256_5.out)) hb)
                  have n15_ := Aside0.mk (Kd.C_below (by repeat (first | (with_reducible exact HR256_6.out) | (with_reducible refine Kd.C_alloc ?_ _) | (with_reducible refine Kd.C_drewN ?_ _) | (with_reducible refine Kd.C_drew ?_) | exact HR256_6.out)) hb)
                  have n16_ := Aside0.mk (Kd.C_below (by repeat (first | (with_reducible exact HR256_7.out) | (with_reducible refine Kd.C_alloc ?_ _) | (with_reducible refine Kd.C_drewN ?_ _) | (with_reducible refine Kd.C_drew ?_) | exact HR256_7.out)) hb)
                  have n17_ := Aside0.mk (Kd.C_below (by repeat (first | (with_reducible exact HR266_4.out) | (with_reducible refine Kd.C_alloc ?_ _) | (with_reducible refine Kd.C_drewN ?_ _) | (with_reducible refine Kd.C_drew ?_) | exact HR266_4.out)) hb)
                  have n18_ := Aside0.mk (Kd.C_below (by repeat (first | (with_reducible exact HR266_5.out) | (with_reducible refine Kd.C_alloc ?_ _) | (with_reducible refine Kd.C_drewN ?_ _) | (with_reducible refine Kd.C_drew ?_) | exact HR266_5.out)) hb)
                  have n19_ := Aside0.mk (Kd.C_below (by repeat (first | (with_reducible exact HR266_6.out) | (with_reducible refine Kd.C_alloc ?_ _) | (with_reducible refine Kd.C_drewN ?_ _) | (with_reducible refine Kd.C_drew ?_) | exact HR266_6.out)) hb)
                  have n20_ := Aside0.mk (Kd.C_below (by repeat (first | (with_reducible exact HR266_7.out) | (with_reducible refine Kd.C_alloc ?_ _) | (with_reducible refine Kd.C_drewN ?_ _) | (with_reducible refine Kd.C_drew ?_) | exact HR266_7.out)) hb)
                  have n21_ := Aside0.mk (below_step (by repeat (first | (with_reducible first | exact HB.out | apply below_alloc | apply pw_below_drewN | apply below_drew1) | exact HB.out)) hb)
                  clear HO_5
                  clear HO255
                  clear HL256_4
                  clear HL256_5
                  clear HL256_6
                  clear HL256_7
                  clear HO259
                  clear HO265
                  clear HL266_4
                  clear HL266_5
                  clear HL266_6
                  clear HL266_7
                  clear HR256_4
                  clear HR256_5
                  clear HR256_6
                  clear HR256_7
                  clear HR266_4
                  clear HR266_5
                  clear HR266_6
                  clear HR266_7
                  clear HB
                  have HO_5 := n0_
                  have HO255 := n1_
                  have HL256_4 := n2_
                  have HL256_5 := n3_
                  have HL256_6 := n4_
                  have HL256_7 := n5_
                  have HO259 := n6_
                  have HO265 := n7_
                  have HL266_4 := n8_
                  have HL266_5 := n9_
                  have HL266_6 := n10_
                  have HL266_7 := n11_
                  have HO269 := n12_
                  have HR256_4 := n13_
                  have HR256_5 := n14_
                  have HR256_6 := n15_
                  have HR256_7 := n16_
                  have HR266_4 := n17_
                  have HR266_5 := n18_
                  have HR266_6 := n19_
                  have HR266_7 := n20_
                  have HB := n21_
                  clear n0_ n1_ n2_ n3_ n4_ n5_ n6_ n7_ n8_ n9_ n10_ n11_ n12_ n13_ n14_ n15_ n16_ n17_ n18_ n19_ n20_ n21_
                  (try clear hb)
                  (try clear hb2)
                  (try clear hk)
                  (try clear hi)
                  (try clear ho0)
                  obtain ⟨Ao59, co59, eo59⟩ := Kd.N_slice HO269.out
                  (first | subst eo59 | (injection eo59 with f1_ f2_ f3_; have f4_ := f1_.symm; have f5_ := f3_.symm; clear f1_ f2_ f3_; subst f4_; subst f5_))
                  refine hK.out _ _ ⟨HS0_, HS1_, HS2_, HS3_, HS4_, HS5_, HS6_, HS7_, HS8_, HS9_, HS10_, HS11_, HS12_, HS13_, HS14_, HS15_, HS16_, HS17_, HS18_, HS19_, HS20_, HS21_, HS22_, HS23_⟩ (fun hHeld => ?_)
                  clear hK K
                  refine norm_ (a' := ?_) ?_ ?_
                  rotate_left
                  ·show Act.put _ (some 87) _ = _
                   simp only [Act.put, List.setIfInBounds_toArray, List.set_cons_zero, List.set_cons_succ, i64_w, i32_w]
                   rfl
                  refine one_ (i := 22) (N := some 88) #[true, true, true, true, true, true, true, true, true, true, true, true, true, true, true, true, true, true, true, true, true, true, true, false, false, false, false, false, false, false, false, false, false, false, false, false, false] rfl rfl (one_of HT_.out (by kernel_rfl)) (by decide) (fun K hK => ?_)
                  refine goes_ Try.func15 (by kernel_rfl) rfl #[.slice A57 y261.length c57, .slice Ao59 t267.length co59] (by rfl) rfl rfl (by (try simp only [List.map_toArray, List.map_cons, List.map_nil]); first | done | rfl | (simp only [List.length_drop, List.length_take]; rfl)) ?_
                  with_reducible refine (proteanref02_Stmts.calls _ _ y261 _ _ t267 true _ ?side1 ?side2 ?side3 ?side4 A48.out).mono ?_
                  (case side1 => repeat (first | exact (Kd.V_reads' HO265.out).2.2 | (with_reducible refine Kd.C_alloc ?_ _) | (with_reducible refine Kd.C_drewN ?_ _) | (with_reducible refine Kd.C_drew ?_)))
                  (case side2 => exact (Kd.V_reads' HO265.out).2.1)
                  (case side3 => repeat (first | exact (Kd.N_reads' HO269.out).2.2 | (with_reducible refine Kd.C_alloc ?_ _) | (with_reducible refine Kd.C_drewN ?_ _) | (with_reducible refine Kd.C_drew ?_)))
                  (case side4 => exact (Kd.N_reads' HO269.out).2.1)
                  rintro e w60 ⟨rfl, hb⟩
                  have HS0_ := (hb.cell (World.block_lt_of_cell? _ _ (hHeld.1))).trans (hHeld.1)
                  have HS1_ := (hb.cell (World.block_lt_of_cell? _ _ (hHeld.2.1))).trans (hHeld.2.1)
                  have HS2_ := (hb.cell (World.block_lt_of_cell? _ _ (hHeld.2.2.1))).trans (hHeld.2.2.1)
                  have HS3_ := (hb.cell (World.block_lt_of_cell? _ _ (hHeld.2.2.2.1))).trans (hHeld.2.2.2.1)
                  have HS4_ := (hb.cell (World.block_lt_of_cell? _ _ (hHeld.2.2.2.2.1))).trans (hHeld.2.2.2.2.1)
                  have HS5_ := (hb.cell (World.block_lt_of_cell? _ _ (hHeld.2.2.2.2.2.1))).trans (hHeld.2.2.2.2.2.1)
                  have HS6_ := (hb.cell (World.block_lt_of_cell? _ _ (hHeld.2.2.2.2.2.2.1))).trans (hHeld.2.2.2.2.2.2.1)
                  have HS7_ := (hb.cell (World.block_lt_of_cell? _ _ (hHeld.2.2.2.2.2.2.2.1))).trans (hHeld.2.2.2.2.2.2.2.1)
                  have HS8_ := (hb.cell (World.block_lt_of_cell? _ _ (hHeld.2.2.2.2.2.2.2.2.1))).trans (hHeld.2.2.2.2.2.2.2.2.1)
                  have HS9_ := (hb.cell (World.block_lt_of_cell? _ _ (hHeld.2.2.2.2.2.2.2.2.2.1))).trans (hHeld.2.2.2.2.2.2.2.2.2.1)
                  have HS10_ := (hb.cell (World.block_lt_of_cell? _ _ (hHeld.2.2.2.2.2.2.2.2.2.2.1))).trans (hHeld.2.2.2.2.2.2.2.2.2.2.1)
                  have HS11_ := (hb.cell (World.block_lt_of_cell? _ _ (hHeld.2.2.2.2.2.2.2.2.2.2.2.1))).trans (hHeld.2.2.2.2.2.2.2.2.2.2.2.1)
                  have HS12_ := (hb.cell (World.block_lt_of_cell? _ _ (hHeld.2.2.2.2.2.2.2.2.2.2.2.2.1))).trans (hHeld.2.2.2.2.2.2.2.2.2.2.2.2.1)
                  have HS13_ := (hb.cell (World.block_lt_of_cell? _ _ (hHeld.2.2.2.2.2.2.2.2.2.2.2.2.2.1))).trans (hHeld.2.2.2.2.2.2.2.2.2.2.2.2.2.1)
                  have HS14_ := (hb.cell (World.block_lt_of_cell? _ _ (hHeld.2.2.2.2.2.2.2.2.2.2.2.2.2.2.1))).trans (hHeld.2.2.2.2.2.2.2.2.2.2.2.2.2.2.1)
                  have HS15_ := (hb.cell (World.block_lt_of_cell? _ _ (hHeld.2.2.2.2.2.2.2.2.2.2.2.2.2.2.2.1))).trans (hHeld.2.2.2.2.2.2.2.2.2.2.2.2.2.2.2.1)
                  have HS16_ := (hb.cell (World.block_lt_of_cell? _ _ (hHeld.2.2.2.2.2.2.2.2.2.2.2.2.2.2.2.2.1))).trans (hHeld.2.2.2.2.2.2.2.2.2.2.2.2.2.2.2.2.1)
                  have HS17_ := (hb.cell (World.block_lt_of_cell? _ _ (hHeld.2.2.2.2.2.2.2.2.2.2.2.2.2.2.2.2.2.1))).trans (hHeld.2.2.2.2.2.2.2.2.2.2.2.2.2.2.2.2.2.1)
                  have HS18_ := (hb.cell (World.block_lt_of_cell? _ _ (hHeld.2.2.2.2.2.2.2.2.2.2.2.2.2.2.2.2.2.2.1))).trans (hHeld.2.2.2.2.2.2.2.2.2.2.2.2.2.2.2.2.2.2.1)
                  have HS19_ := (hb.cell (World.block_lt_of_cell? _ _ (hHeld.2.2.2.2.2.2.2.2.2.2.2.2.2.2.2.2.2.2.2.1))).trans (hHeld.2.2.2.2.2.2.2.2.2.2.2.2.2.2.2.2.2.2.2.1)
                  have HS20_ := (hb.cell (World.block_lt_of_cell? _ _ (hHeld.2.2.2.2.2.2.2.2.2.2.2.2.2.2.2.2.2.2.2.2.1))).trans (hHeld.2.2.2.2.2.2.2.2.2.2.2.2.2.2.2.2.2.2.2.2.1)
                  have HS21_ := (hb.cell (World.block_lt_of_cell? _ _ (hHeld.2.2.2.2.2.2.2.2.2.2.2.2.2.2.2.2.2.2.2.2.2.1))).trans (hHeld.2.2.2.2.2.2.2.2.2.2.2.2.2.2.2.2.2.2.2.2.2.1)
                  have HS22_ := (hb.cell (World.block_lt_of_cell? _ _ (hHeld.2.2.2.2.2.2.2.2.2.2.2.2.2.2.2.2.2.2.2.2.2.2.1))).trans (hHeld.2.2.2.2.2.2.2.2.2.2.2.2.2.2.2.2.2.2.2.2.2.2.1)
                  have HS23_ := (hb.cell (World.block_lt_of_cell? _ _ (hHeld.2.2.2.2.2.2.2.2.2.2.2.2.2.2.2.2.2.2.2.2.2.2.2))).trans (hHeld.2.2.2.2.2.2.2.2.2.2.2.2.2.2.2.2.2.2.2.2.2.2.2)
                  refine ⟨_, rfl, ?_⟩
                  have n0_ := Aside0.mk (Kd.N_below (by (with_reducible repeat (first | apply Kd.N_alloc | apply Kd.N_drewN | apply Kd.N_drew)); exact HO_5.out) hb)
                  have n1_ := Aside0.mk (Kd.V_below (by (with_reducible repeat (first | apply Kd.V_alloc | apply Kd.V_drewN | apply Kd.V_drew)); exact HO255.out) hb)
                  have n2_ := Aside0.mk (Kd.V_below (by (with_reducible repeat (first | apply Kd.V_alloc | apply Kd.V_drewN | apply Kd.V_drew)); exact HL256_4.out) hb)
                  have n3_ := Aside0.mk (Kd.V_below (by (with_reducible repeat (first | apply Kd.V_alloc | apply Kd.V_drewN | apply Kd.V_drew)); exact HL256_5.out) hb)
                  have n4_ := Aside0.mk (Kd.V_below (by (with_reducible repeat (first | apply Kd.V_alloc | apply Kd.V_drewN | apply Kd.V_drew)); exact HL256_6.out) hb)
                  have n5_ := Aside0.mk (Kd.V_below (by (with_reducible repeat (first | apply Kd.V_alloc | apply Kd.V_drewN | apply Kd.V_drew)); exact HL256_7.out) hb)
                  have n6_ := Aside0.mk (Kd.N_below (by (with_reducible repeat (first | apply Kd.N_alloc | apply Kd.N_drewN | apply Kd.N_drew)); exact HO259.out) hb)
                  have n7_ := Aside0.mk (Kd.V_below (by (with_reducible repeat (first | apply Kd.V_alloc | apply Kd.V_drewN | apply Kd.V_drew)); exact HO265.out) hb)
                  have n8_ := Aside0.mk (Kd.V_below (by (with_reducible repeat (first | apply Kd.V_alloc | apply Kd.V_drewN | apply Kd.V_drew)); exact HL266_4.out) hb)
                  have n9_ := Aside0.mk (Kd.V_below (by (with_reducible repeat (first | apply Kd.V_alloc | apply Kd.V_drewN | apply Kd.V_drew)); exact HL266_5.out) hb)
                  have n10_ := Aside0.mk (Kd.V_below (by (with_reducible repeat (first | apply Kd.V_alloc | apply Kd.V_drewN | apply Kd.V_drew)); exact HL266_6.out) hb)
                  have n11_ := Aside0.mk (Kd.V_below (by (with_reducible repeat (first | apply Kd.V_alloc | apply Kd.V_drewN | apply Kd.V_drew)); exact HL266_7.out) hb)
                  have n12_ := Aside0.mk (Kd.N_below (by (with_reducible repeat (first | apply Kd.N_alloc | apply Kd.N_drewN | apply Kd.N_drew)); exact HO269.out) hb)
                  have n13_ := Aside0.mk (Kd.C_below (by repeat (first | (with_reducible exact HR256_4.out) | (with_reducible refine Kd.C_alloc ?_ _) | (with_reducible refine Kd.C_drewN ?_ _) | (with_reducible refine Kd.C_drew ?_) | exact HR256_4.out)) hb)
                  have n14_ := Aside0.mk (Kd.C_below (by repeat (first | (with_reducible exact HR256_5.out) | (with_reducible refine Kd.C_alloc ?_ _) | (with_reducible refine Kd.C_drewN ?_ _) | (with_reducible refine Kd.C_drew ?_) | exact HR256_5.out)) hb)
                  have n15_ := Aside0.mk (Kd.C_below (by repeat (first | (with_reducible exact HR256_6.out) | (with_reducible refine Kd.C_alloc ?_ _) | (with_reducible refine Kd.C_drewN ?_ _) | (with_reducible refine Kd.C_drew ?_) | exact HR256_6.out)) hb)
                  have n16_ := Aside0.mk (Kd.C_below (by repeat (first | (with_reducible exact HR256_7.out) | (with_reducible refine Kd.C_alloc ?_ _) | (with_reducible refine Kd.C_drewN ?_ _) | (with_reducible refine Kd.C_drew ?_) | exact HR256_7.out)) hb)
                  have n17_ := Aside0.mk (Kd.C_below (by repeat (first | (with_reducible exact HR266_4.out) | (with_reducible refine Kd.C_alloc ?_ _) | (with_reducible refine Kd.C_drewN ?_ _) | (with_reducible refine Kd.C_drew ?_) | exact HR266_4.out)) hb)
                  have n18_ := Aside0.mk (Kd.C_below (by repeat (first | (with_reducible exact HR266_5.out) | (with_reducible refine Kd.C_alloc ?_ _) | (with_reducible refine Kd.C_drewN ?_ _) | (with_reducible refine Kd.C_drew ?_) | exact HR266_5.out)) hb)
                  have n19_ := Aside0.mk (Kd.C_below (by repeat (first | (with_reducible exact HR266_6.out) | (with_reducible refine Kd.C_alloc ?_ _) | (with_reducible refine Kd.C_drewN ?_ _) | (with_reducible refine Kd.C_drew ?_) | exact HR266_6.out)) hb)
                  have n20_ := Aside0.mk (Kd.C_below (by repeat (first | (with_reducible exact HR266_7.out) | (with_reducible refine Kd.C_alloc ?_ _) | (with_reducible refine Kd.C_drewN ?_ _) | (with_reducible refine Kd.C_drew ?_) | exact HR266_7.out)) hb)
                  have n21_ := Aside0.mk (below_step (by repeat (first | (with_reducible first | exact HB.out | apply below_alloc | apply pw_below_drewN | apply below_drew1) | exact HB.out)) hb)
                  clear HO_5
                  clear HO255
                  clear HL256_4
                  clear HL256_5
                  clear HL256_6
                  clear HL256_7
                  clear HO259
                  clear HO265
                  clear HL266_4
                  clear HL266_5
                  clear HL266_6
                  clear HL266_7
                  clear HO269
                  clear HR256_4
                  clear HR256_5
                  clear HR256_6
                  clear HR256_7
                  clear HR266_4
                  clear HR266_5
                  clear HR266_6
                  clear HR266_7
                  clear HB
                  have HO_5 := n0_
                  have HO255 := n1_
                  have HL256_4 := n2_
                  have HL256_5 := n3_
                  have HL256_6 := n4_
                  have HL256_7 := n5_
                  have HO259 := n6_
                  have HO265 := n7_
                  have HL266_4 := n8_
                  have HL266_5 := n9_
                  have HL266_6 := n10_
                  have HL266_7 := n11_
                  have HO269 := n12_
                  have HR256_4 := n13_
                  have HR256_5 := n14_
                  have HR256_6 := n15_
                  have HR256_7 := n16_
                  have HR266_4 := n17_
                  have HR266_5 := n18_
                  have HR266_6 := n19_
                  have HR266_7 := n20_
                  have HB := n21_
                  clear n0_ n1_ n2_ n3_ n4_ n5_ n6_ n7_ n8_ n9_ n10_ n11_ n12_ n13_ n14_ n15_ n16_ n17_ n18_ n19_ n20_ n21_
                  (try clear hb)
                  (try clear hb2)
                  (try clear hk)
                  (try clear hi)
                  refine hK.out _ _ ⟨HS0_, HS1_, HS2_, HS3_, HS4_, HS5_, HS6_, HS7_, HS8_, HS9_, HS10_, HS11_, HS12_, HS13_, HS14_, HS15_, HS16_, HS17_, HS18_, HS19_, HS20_, HS21_, HS22_, HS23_⟩ (fun hHeld => ?_)
                  clear hK K
                  refine norm_ (a' := ?_) ?_ ?_
                  rotate_left
                  ·show Act.put _ (some 88) _ = _
                   simp only [Act.put, List.setIfInBounds_toArray, List.set_cons_zero, List.set_cons_succ, i64_w, i32_w]
                   rfl
                  refine pure_ (i := 23) (N := some 89) (v := ?_) (a' := ?_) #[true, true, true, true, true, true, true, true, true, true, true, true, true, true, true, true, true, true, true, true, true, true, true, true, false, false, false, false, false, false, false, false, false, false, false, false, false] rfl rfl (any_of HT_.out (by kernel_rfl)) (fun _ _ _ h => h) (Or.inl ⟨by rfl, ?_⟩) ?_ ?_
                  rotate_left
                  ·intro w'
                   go_simp
                   with_reducible rfl
                  rotate_left
                  ·simp only [Act.put, List.setIfInBounds_toArray, List.set_cons_zero, List.set_cons_succ, i64_w, i32_w]
                   rfl
                  refine pure_ (i := 24) (N := some 90) (v := ?_) (a' := ?_) #[true, true, true, true, true, true, true, true, true, true, true, true, true, true, true, true, true, true, true, true, true, true, true, true, true, false, false, false, false, false, false, false, false, false, false, false, false] rfl rfl (any_of HT_.out (by kernel_rfl)) (fun _ _ _ h => h) (Or.inl ⟨by rfl, ?_⟩) ?_ ?_
                  rotate_left
                  ·intro w'
                   go_simp
                   with_reducible rfl
                  rotate_left
                  ·simp only [Act.put, List.setIfInBounds_toArray, List.set_cons_zero, List.set_cons_succ, i64_w, i32_w]
                   rfl
                  refine pure_ (i := 25) (N := some 91) (v := ?_) (a' := ?_) #[true, true, true, true, true, true, true, true, true, true, true, true, true, true, true, true, true, true, true, true, true, true, true, true, true, true, false, false, false, false, false, false, false, false, false, false, false] rfl rfl (any_of HT_.out (by kernel_rfl)) (fun _ _ _ h => h) (Or.inl ⟨by rfl, ?_⟩) ?_ ?_
                  rotate_left
                  ·intro w'
                   go_simp
                   with_reducible rfl
                  rotate_left
                  ·simp only [Act.put, List.setIfInBounds_toArray, List.set_cons_zero, List.set_cons_succ, i64_w, i32_w]
                   rfl
                  refine pure_ (i := 26) (N := some 92) (v := ?_) (a' := ?_) #[true, true, true, true, true, true, true, true, true, true, true, true, true, true, true, true, true, true, true, true, true, true, true, true, true, true, true, false, false, false, false, false, false, false, false, false, false] rfl rfl (any_of HT_.out (by kernel_rfl)) (fun _ _ _ h => h) (Or.inl ⟨by rfl, ?_⟩) ?_ ?_
                  rotate_left
                  ·intro w'
                   go_simp
                   with_reducible rfl
                  rotate_left
                  ·simp only [Act.put, List.setIfInBounds_toArray, List.set_cons_zero, List.set_cons_succ, i64_w, i32_w]
                   rfl
                  refine pure_ (i := 27) (N := some 93) (v := ?_) (a' := ?_) #[true, true, true, true, true, true, true, true, true, true, true, true, true, true, true, true, true, true, true, true, true, true, true, true, true, true, true, true, false, false, false, false, false, false, false, false, false] rfl rfl (any_of HT_.out (by kernel_rfl)) (fun _ _ _ h => h) (Or.inl ⟨by rfl, ?_⟩) ?_ ?_
                  rotate_left
                  ·intro w'
                   go_simp
                   with_reducible rfl
                  rotate_left
                  ·simp only [Act.put, List.setIfInBounds_toArray, List.set_cons_zero, List.set_cons_succ, i64_w, i32_w]
                   rfl
                  refine pure_ (i := 28) (N := some 94) (v := ?_) (a' := ?_) #[true, true, true, true, true, true, true, true, true, true, true, true, true, true, true, true, true, true, true, true, true, true, true, true, true, true, true, true, true, false, false, false, false, false, false, false, false] rfl rfl (any_of HT_.out (by kernel_rfl)) (fun _ _ _ h => h) (Or.inl ⟨by rfl, ?_⟩) ?_ ?_
                  rotate_left
                  ·intro w'
                   go_simp
                   with_reducible rfl
                  rotate_left
                  ·simp only [Act.put, List.setIfInBounds_toArray, List.set_cons_zero, List.set_cons_succ, i64_w, i32_w]
                   rfl
                  refine pure_ (i := 31) (N := some 97) (v := ?_) (a' := ?_) #[true, true, true, true, true, true, true, true, true, true, true, true, true, true, true, true, true, true, true, true, true, true, true, true, true, true, true, true, true, false, false, true, false, false, false, false, false] rfl rfl (any_of HT_.out (by kernel_rfl)) (fun _ _ _ h => h) (Or.inl ⟨by rfl, ?_⟩) ?_ ?_
                  rotate_left
                  ·intro w'
                   go_simp
                   with_reducible rfl
                  rotate_left
                  ·simp only [Act.put, List.setIfInBounds_toArray, List.set_cons_zero, List.set_cons_succ, i64_w, i32_w]
                   rfl
                  refine pure_ (i := 32) (N := some 98) (v := ?_) (a' := ?_) #[true, true, true, true, true, true, true, true, true, true, true, true, true, true, true, true, true, true, true, true, true, true, true, true, true, true, true, true, true, false, false, true, true, false, false, false, false] rfl rfl (any_of HT_.out (by kernel_rfl)) (fun _ _ _ h => h) (Or.inl ⟨by rfl, ?_⟩) ?_ ?_
                  rotate_left
                  ·intro w'
                   go_simp
                   with_reducible rfl
                  rotate_left
                  ·simp only [Act.put, List.setIfInBounds_toArray, List.set_cons_zero, List.set_cons_succ, i64_w, i32_w]
                   rfl
                  refine pure_ (i := 33) (N := some 99) (v := ?_) (a' := ?_) #[true, true, true, true, true, true, true, true, true, true, true, true, true, true, true, true, true, true, true, true, true, true, true, true, true, true, true, true, true, false, false, true, true, true, false, false, false] rfl rfl (any_of HT_.out (by kernel_rfl)) (fun _ _ _ h => h) (Or.inl ⟨by rfl, ?_⟩) ?_ ?_
                  rotate_left
                  ·intro w'
                   go_simp
                   with_reducible rfl
                  rotate_left
                  ·simp only [Act.put, List.setIfInBounds_toArray, List.set_cons_zero, List.set_cons_succ, i64_w, i32_w]
                   rfl
                  refine take_ (i := 29) (N := some 95) (v := ?_) (a' := ?_) #[true, true, true, true, true, true, true, true, true, true, true, true, true, true, true, true, true, true, true, true, true, true, true, true, true, true, true, true, true, true, false, true, true, true, false, false, false] rfl rfl (take_ofW HT_.out HW_.out (by kernel_rfl)) (fun _ _ _ h => h) (Or.inl ⟨by rfl, ?_⟩) hHeld ?_ ?_
                  rotate_left
                  ·rintro w' ⟨s0, s1, s2, s3, s4, s5, s6, s7, s8, s9, s10, s11, s12, s13, s14, s15, s16, s17, s18, s19, s20, s21, s22, s23⟩
                   go_simp
                   with_reducible rfl
                  rotate_left
                  ·simp only [Act.put, List.setIfInBounds_toArray, List.set_cons_zero, List.set_cons_succ, i64_w, i32_w]
                   rfl
                  refine one_ (i := 30) (N := some 96) #[true, true, true, true, true, true, true, true, true, true, true, true, true, true, true, true, true, true, true, true, true, true, true, true, true, true, true, true, true, true, true, true, true, true, false, false, false] rfl rfl (one_of HT_.out (by kernel_rfl)) (by decide) (fun K hK => ?_)
                  clear HL271_4 HR271_4 HL271_5 HR271_5 HL271_6 HR271_6 HL271_7 HR271_7
                  have HL271_4 := HL256_4
                  rw [EA271_4.out, EC271_4.out] at HL271_4
                  have HR271_4 := HR256_4
                  rw [EA271_4.out] at HR271_4
                  have HL271_5 := HL256_5
                  rw [EA271_5.out, EC271_5.out] at HL271_5
                  have HR271_5 := HR256_5
                  rw [EA271_5.out] at HR271_5
                  have HL271_6 := HL256_6
                  rw [EA271_6.out, EC271_6.out] at HL271_6
                  have HR271_6 := HR256_6
                  rw [EA271_6.out] at HR271_6
                  have HL271_7 := HL256_7
                  rw [EA271_7.out, EC271_7.out] at HL271_7
                  have HR271_7 := HR256_7
                  rw [EA271_7.out] at HR271_7
                  refine goes_ Try.func17 (by kernel_rfl) rfl #[.slice A256_6 ((rd_T36 t243 a1).f6).length c256_6] (by rfl) rfl rfl (by (try simp only [List.map_toArray, List.map_cons, List.map_nil]); first | done | rfl | (simp only [List.length_drop, List.length_take]; rfl)) ?_
                  with_reducible refine (number_Count.calls _ _ ((rd_T36 t243 a1).f6) t272 _ ?side1 ?side2 A50.out).mono ?_
                  (case side1 => repeat (first | exact (by repeat (first | (with_reducible exact HR256_6.out) | (with_reducible refine Kd.C_alloc ?_ _) | (with_reducible refine Kd.C_drewN ?_ _) | (with_reducible refine Kd.C_drew ?_) | exact HR256_6.out)) | (with_reducible refine Kd.C_alloc ?_ _) | (with_reducible refine Kd.C_drewN ?_ _) | (with_reducible refine Kd.C_drew ?_)))
                  (case side2 => exact HC256_6.out)
                  rintro e w61 ⟨rfl, hb⟩
                  have HS0_ := (hb.cell (World.block_lt_of_cell? _ _ (hHeld.1))).trans (hHeld.1)
                  have HS1_ := (hb.cell (World.block_lt_of_cell? _ _ (hHeld.2.1))).trans (hHeld.2.1)
                  have HS2_ := (hb.cell (World.block_lt_of_cell? _ _ (hHeld.2.2.1))).trans (hHeld.2.2.1)
                  have HS3_ := (hb.cell (World.block_lt_of_cell? _ _ (hHeld.2.2.2.1))).trans (hHeld.2.2.2.1)
                  have HS4_ := (hb.cell (World.block_lt_of_cell? _ _ (hHeld.2.2.2.2.1))).trans (hHeld.2.2.2.2.1)
                  have HS5_ := (hb.cell (World.block_lt_of_cell? _ _ (hHeld.2.2.2.2.2.1))).trans (hHeld.2.2.2.2.2.1)
                  have HS6_ := (hb.cell (World.block_lt_of_cell? _ _ (hHeld.2.2.2.2.2.2.1))).trans (hHeld.2.2.2.2.2.2.1)
                  have HS7_ := (hb.cell (World.block_lt_of_cell? _ _ (hHeld.2.2.2.2.2.2.2.1))).trans (hHeld.2.2.2.2.2.2.2.1)
                  have HS8_ := (hb.cell (World.block_lt_of_cell? _ _ (hHeld.2.2.2.2.2.2.2.2.1))).trans (hHeld.2.2.2.2.2.2.2.2.1)
                  have HS9_ := (hb.cell (World.block_lt_of_cell? _ _ (hHeld.2.2.2.2.2.2.2.2.2.1))).trans (hHeld.2.2.2.2.2.2.2.2.2.1)
                  have HS10_ := (hb.cell (World.block_lt_of_cell? _ _ (hHeld.2.2.2.2.2.2.2.2.2.2.1))).trans (hHeld.2.2.2.2.2.2.2.2.2.2.1)
                  have HS11_ := (hb.cell (World.block_lt_of_cell? _ _ (hHeld.2.2.2.2.2.2.2.2.2.2.2.1))).trans (hHeld.2.2.2.2.2.2.2.2.2.2.2.1)
                  have HS12_ := (hb.cell (World.block_lt_of_cell? _ _ (hHeld.2.2.2.2.2.2.2.2.2.2.2.2.1))).trans (hHeld.2.2.2.2.2.2.2.2.2.2.2.2.1)
                  have HS13_ := (hb.cell (World.block_lt_of_cell? _ _ (hHeld.2.2.2.2.2.2.2.2.2.2.2.2.2.1))).trans (hHeld.2.2.2.2.2.2.2.2.2.2.2.2.2.1)
                  have HS14_ := (hb.cell (World.block_lt_of_cell? _ _ (hHeld.2.2.2.2.2.2.2.2.2.2.2.2.2.2.1))).trans (hHeld.2.2.2.2.2.2.2.2.2.2.2.2.2.2.1)
                  have HS15_ := (hb.cell (World.block_lt_of_cell? _ _ (hHeld.2.2.2.2.2.2.2.2.2.2.2.2.2.2.2.1))).trans (hHeld.2.2.2.2.2.2.2.2.2.2.2.2.2.2.2.1)
                  have HS16_ := (hb.cell (World.block_lt_of_cell? _ _ (hHeld.2.2.2.2.2.2.2.2.2.2.2.2.2.2.2.2.1))).trans (hHeld.2.2.2.2.2.2.2.2.2.2.2.2.2.2.2.2.1)
                  have HS17_ := (hb.cell (World.block_lt_of_cell? _ _ (hHeld.2.2.2.2.2.2.2.2.2.2.2.2.2.2.2.2.2.1))).trans (hHeld.2.2.2.2.2.2.2.2.2.2.2.2.2.2.2.2.2.1)
                  have HS18_ := (hb.cell (World.block_lt_of_cell? _ _ (hHeld.2.2.2.2.2.2.2.2.2.2.2.2.2.2.2.2.2.2.1))).trans (hHeld.2.2.2.2.2.2.2.2.2.2.2.2.2.2.2.2.2.2.1)
                  have HS19_ := (hb.cell (World.block_lt_of_cell? _ _ (hHeld.2.2.2.2.2.2.2.2.2.2.2.2.2.2.2.2.2.2.2.1))).trans (hHeld.2.2.2.2.2.2.2.2.2.2.2.2.2.2.2.2.2.2.2.1)
                  have HS20_ := (hb.cell (World.block_lt_of_cell? _ _ (hHeld.2.2.2.2.2.2.2.2.2.2.2.2.2.2.2.2.2.2.2.2.1))).trans (hHeld.2.2.2.2.2.2.2.2.2.2.2.2.2.2.2.2.2.2.2.2.1)
                  have HS21_ := (hb.cell (World.block_lt_of_cell? _ _ (hHeld.2.2.2.2.2.2.2.2.2.2.2.2.2.2.2.2.2.2.2.2.2.1))).trans (hHeld.2.2.2.2.2.2.2.2.2.2.2.2.2.2.2.2.2.2.2.2.2.1)
                  have HS22_ := (hb.cell (World.block_lt_of_cell? _ _ (hHeld.2.2.2.2.2.2.2.2.2.2.2.2.2.2.2.2.2.2.2.2.2.2.1))).trans (hHeld.2.2.2.2.2.2.2.2.2.2.2.2.2.2.2.2.2.2.2.2.2.2.1)
                  have HS23_ := (hb.cell (World.block_lt_of_cell? _ _ (hHeld.2.2.2.2.2.2.2.2.2.2.2.2.2.2.2.2.2.2.2.2.2.2.2))).trans (hHeld.2.2.2.2.2.2.2.2.2.2.2.2.2.2.2.2.2.2.2.2.2.2.2)
                  refine ⟨_, rfl, ?_⟩
                  have n0_ := Aside0.mk (Kd.N_below (by (with_reducible repeat (first | apply Kd.N_alloc | apply Kd.N_drewN | apply Kd.N_drew)); exact HO_5.out) hb)
                  have n1_ := Aside0.mk (Kd.V_below (by (with_reducible repeat (first | apply Kd.V_alloc | apply Kd.V_drewN | apply Kd.V_drew)); exact HO255.out) hb)
                  have n2_ := Aside0.mk (Kd.V_below (by (with_reducible repeat (first | apply Kd.V_alloc | apply Kd.V_drewN | apply Kd.V_drew)); exact HL256_4.out) hb)
                  have n3_ := Aside0.mk (Kd.V_below (by (with_reducible repeat (first | apply Kd.V_alloc | apply Kd.V_drewN | apply Kd.V_drew)); exact HL256_5.out) hb)
                  have n4_ := Aside0.mk (Kd.V_below (by (with_reducible repeat (first | apply Kd.V_alloc | apply Kd.V_drewN | apply Kd.V_drew)); exact HL256_6.out) hb)
                  have n5_ := Aside0.mk (Kd.V_below (by (with_reducible repeat (first | apply Kd.V_alloc | apply Kd.V_drewN | apply Kd.V_drew)); exact HL256_7.out) hb)
                  have n6_ := Aside0.mk (Kd.N_below (by (with_reducible repeat (first | apply Kd.N_alloc | apply Kd.N_drewN | apply Kd.N_drew)); exact HO259.out) hb)
                  have n7_ := Aside0.mk (Kd.V_below (by (with_reducible repeat (first | apply Kd.V_alloc | apply Kd.V_drewN | apply Kd.V_drew)); exact HO265.out) hb)
                  have n8_ := Aside0.mk (Kd.V_below (by (with_reducible repeat (first | apply Kd.V_alloc | apply Kd.V_drewN | apply Kd.V_drew)); exact HL266_4.out) hb)
                  have n9_ := Aside0.mk (Kd.V_below (by (with_reducible repeat (first | apply Kd.V_alloc | apply Kd.V_drewN | apply Kd.V_drew)); exact HL266_5.out) hb)
                  have n10_ := Aside0.mk (Kd.V_below (by (with_reducible repeat (first | apply Kd.V_alloc | apply Kd.V_drewN | apply Kd.V_drew)); exact HL266_6.out) hb)
                  have n11_ := Aside0.mk (Kd.V_below (by (with_reducible repeat (first | apply Kd.V_alloc | apply Kd.V_drewN | apply Kd.V_drew)); exact HL266_7.out) hb)
                  have n12_ := Aside0.mk (Kd.N_below (by (with_reducible repeat (first | apply Kd.N_alloc | apply Kd.N_drewN | apply Kd.N_drew)); exact HO269.out) hb)
                  have n13_ := Aside0.mk (Kd.V_below (by (with_reducible repeat (first | apply Kd.V_alloc | apply Kd.V_drewN | apply Kd.V_drew)); exact HL271_4.out) hb)
                  have n14_ := Aside0.mk (Kd.V_below (by (with_reducible repeat (first | apply Kd.V_alloc | apply Kd.V_drewN | apply Kd.V_drew)); exact HL271_5.out) hb)
                  have n15_ := Aside0.mk (Kd.V_below (by (with_reducible repeat (first | apply Kd.V_alloc | apply Kd.V_drewN | apply Kd.V_drew)); exact HL271_6.out) hb)
                  have n16_ := Aside0.mk (Kd.V_below (by (with_reducible repeat (first | apply Kd.V_alloc | apply Kd.V_drewN | apply Kd.V_drew)); exact HL271_7.out) hb)
                  have n17_ := Aside0.mk (Kd.C_below (by repeat (first | (with_reducible exact HR256_4.out) | (with_reducible refine Kd.C_alloc ?_ _) | (with_reducible refine Kd.C_drewN ?_ _) | (with_reducible refine Kd.C_drew ?_) | exact HR256_4.out)) hb)
                  have n18_ := Aside0.mk (Kd.C_below (by repeat (first | (with_reducible exact HR256_5.out) | (with_reducible refine Kd.C_alloc ?_ _) | (with_reducible refine Kd.C_drewN ?_ _) | (with_reducible refine Kd.C_drew ?_) | exact HR256_5.out)) hb)
                  have n19_ := Aside0.mk (Kd.C_below (by repeat (first | (with_reducible exact HR256_6.out) | (with_reducible refine Kd.C_alloc ?_ _) | (with_reducible refine Kd.C_drewN ?_ _) | (with_reducible refine Kd.C_drew ?_) | exact HR256_6.out)) hb)
                  have n20_ := Aside0.mk (Kd.C_below (by repeat (first | (with_reducible exact HR256_7.out) | (with_reducible refine Kd.C_alloc ?_ _) | (with_reducible refine Kd.C_drewN ?_ _) | (with_reducible refine Kd.C_drew ?_) | exact HR256_7.out)) hb)
                  have n21_ := Aside0.mk (Kd.C_below (by repeat (first | (with_reducible exact HR266_4.out) | (with_reducible refine Kd.C_alloc ?_ _) | (with_reducible refine Kd.C_drewN ?_ _) | (with_reducible refine Kd.C_drew ?_) | exact HR266_4.out)) hb)
                  have n22_ := Aside0.mk (Kd.C_below (by repeat (first | (with_reducible exact HR266_5.out) | (with_reducible refine Kd.C_alloc ?_ _) | (with_reducible refine Kd.C_drewN ?_ _) | (with_reducible refine Kd.C_drew ?_) | exact HR266_5.out)) hb)
                  have n23_ := Aside0.mk (Kd.C_below (by repeat (first | (with_reducible exact HR266_6.out) | (with_reducible refine Kd.C_alloc ?_ _) | (with_reducible refine Kd.C_drewN ?_ _) | (with_reducible refine Kd.C_drew ?_) | exact HR266_6.out)) hb)
                  have n24_ := Aside0.mk (Kd.C_below (by repeat (first | (with_reducible exact HR266_7.out) | (with_reducible refine Kd.C_alloc ?_ _) | (with_reducible refine Kd.C_drewN ?_ _) | (with_reducible refine Kd.C_drew ?_) | exact HR266_7.out)) hb)
                  have n25_ := Aside0.mk (Kd.C_below (by repeat (first | (with_reducible exact HR271_4.out) | (with_reducible refine Kd.C_alloc ?_ _) | (with_reducible refine Kd.C_drewN ?_ _) | (with_reducible refine Kd.C_drew ?_) | exact HR271_4.out)) hb)
                  have n26_ := Aside0.mk (Kd.C_below (by repeat (first | (with_reducible exact HR271_5.out) | (with_reducible refine Kd.C_alloc ?_ _) | (with_reducible refine Kd.C_drewN ?_ _) | (with_reducible refine Kd.C_drew ?_) | exact HR271_5.out)) hb)
                  have n27_ := Aside0.mk (Kd.C_below (by repeat (first | (with_reducible exact HR271_6.out) | (with_reducible refine Kd.C_alloc ?_ _) | (with_reducible refine Kd.C_drewN ?_ _) | (with_reducible refine Kd.C_drew ?_) | exact HR271_6.out)) hb)
                  have n28_ := Aside0.mk (Kd.C_below (by repeat (first | (with_reducible exact HR271_7.out) | (with_reducible refine Kd.C_alloc ?_ _) | (with_reducible refine Kd.C_drewN ?_ _) | (with_reducible refine Kd.C_drew ?_) | exact HR271_7.out)) hb)
                  have n29_ := Aside0.mk (below_step (by repeat (first | (with_reducible first | exact HB.out | apply below_alloc | apply pw_below_drewN | apply below_drew1) | exact HB.out)) hb)
                  clear HO_5
                  clear HO255
                  clear HL256_4
                  clear HL256_5
                  clear HL256_6
                  clear HL256_7
                  clear HO259
                  clear HO265
                  clear HL266_4
                  clear HL266_5
                  clear HL266_6
                  clear HL266_7
                  clear HO269
                  clear HL271_4
                  clear HL271_5
                  clear HL271_6
                  clear HL271_7
                  clear HR256_4
                  clear HR256_5
                  clear HR256_6
                  clear HR256_7
                  clear HR266_4
                  clear HR266_5
                  clear HR266_6
                  clear HR266_7
                  clear HR271_4
                  clear HR271_5
                  clear HR271_6
                  clear HR271_7
                  clear HB
                  have HO_5 := n0_
                  have HO255 := n1_
                  have HL256_4 := n2_
                  have HL256_5 := n3_
                  have HL256_6 := n4_
                  have HL256_7 := n5_
                  have HO259 := n6_
                  have HO265 := n7_
                  have HL266_4 := n8_
                  have HL266_5 := n9_
                  have HL266_6 := n10_
                  have HL266_7 := n11_
                  have HO269 := n12_
                  have HL271_4 := n13_
                  have HL271_5 := n14_
                  have HL271_6 := n15_
                  have HL271_7 := n16_
                  have HR256_4 := n17_
                  have HR256_5 := n18_
                  have HR256_6 := n19_
                  have HR256_7 := n20_
                  have HR266_4 := n21_
                  have HR266_5 := n22_
                  have HR266_6 := n23_
                  have HR266_7 := n24_
                  have HR271_4 := n25_
                  have HR271_5 := n26_
                  have HR271_6 := n27_
                  have HR271_7 := n28_
                  have HB := n29_
                  clear n0_ n1_ n2_ n3_ n4_ n5_ n6_ n7_ n8_ n9_ n10_ n11_ n12_ n13_ n14_ n15_ n16_ n17_ n18_ n19_ n20_ n21_ n22_ n23_ n24_ n25_ n26_ n27_ n28_ n29_
                  (try clear hb)
                  (try clear hb2)
                  (try clear hk)
                  (try clear hi)
                  refine hK.out _ _ ⟨HS0_, HS1_, HS2_, HS3_, HS4_, HS5_, HS6_, HS7_, HS8_, HS9_, HS10_, HS11_, HS12_, HS13_, HS14_, HS15_, HS16_, HS17_, HS18_, HS19_, HS20_, HS21_, HS22_, HS23_⟩ (fun hHeld => ?_)
                  clear hK K
                  refine norm_ (a' := ?_) ?_ ?_
                  rotate_left
                  ·show Act.put _ (some 96) _ = _
                   simp only [Act.put, List.setIfInBounds_toArray, List.set_cons_zero, List.set_cons_succ, i64_w, i32_w]
                   rfl
                  refine pure_ (i := 34) (N := some 100) (v := ?_) (a' := ?_) #[true, true, true, true, true, true, true, true, true, true, true, true, true, true, true, true, true, true, true, true, true, true, true, true, true, true, true, true, true, true, true, true, true, true, true, false, false] rfl rfl (any_of HT_.out (by kernel_rfl)) (fun _ _ _ h => h) (Or.inl ⟨by rfl, ?_⟩) ?_ ?_
                  rotate_left
                  ·intro w'
                   go_simp
                   with_reducible rfl
                  rotate_left
                  ·simp only [Act.put, List.setIfInBounds_toArray, List.set_cons_zero, List.set_cons_succ, i64_w, i32_w]
                   rfl
                  refine pure_ (i := 35) (N := some 101) (v := ?_) (a' := ?_) #[true, true, true, true, true, true, true, true, true, true, true, true, true, true, true, true, true, true, true, true, true, true, true, true, true, true, true, true, true, true, true, true, true, true, true, true, false] rfl rfl (any_of HT_.out (by kernel_rfl)) (fun _ _ _ h => h) (Or.inl ⟨by rfl, ?_⟩) ?_ ?_
                  rotate_left
                  ·intro w'
                   go_simp
                   with_reducible rfl
                  rotate_left
                  ·simp only [Act.put, List.setIfInBounds_toArray, List.set_cons_zero, List.set_cons_succ, i64_w, i32_w]
                   rfl
                  refine pure_ (i := 36) (N := some 4) (v := ?_) (a' := ?_) #[true, true, true, true, true, true, true, true, true, true, true, true, true, true, true, true, true, true, true, true, true, true, true, true, true, true, true, true, true, true, true, true, true, true, true, true, true] rfl rfl (any_of HT_.out (by kernel_rfl)) (fun _ _ _ h => h) (Or.inl ⟨by rfl, ?_⟩) ?_ ?_
                  rotate_left
                  ·intro w'
                   go_simp
                   with_reducible rfl
                  rotate_left
                  ·simp only [Act.put, List.setIfInBounds_toArray, List.set_cons_zero, List.set_cons_succ, i64_w, i32_w]
                   rfl
                  refine done_ (done_of HT_.out (by kernel_rfl)) ?_
                  try go_wp2
                  go_ret
                  exact ⟨by first | rfl | (simp [errW_none, errW_some] <;> rfl) | (simp [*, errW_none, errW_some] <;> rfl), by repeat (first | (with_reducible first | exact HB.out | apply below_alloc | apply pw_below_drewN | apply below_drew1) | exact HB.out)⟩
                 ·replace c49 := Bool.eq_false_iff.mpr c49
                  subst c49
                  have H1 : (some false) = some r := by rw [if_neg (show ¬ (false = true) by decide)] at H; exact H
                  clear H
                  have H := H1
                  clear H1
                  obtain rfl := Option.some.inj H
                  try go_wp2
                  have n0_ := Aside0.mk (Kd.N_drew HO_5.out)
                  have n1_ := Aside0.mk (below_drew1 HB.out)
                  clear HO_5
                  clear HB
                  have HO_5 := n0_
                  have HB := n1_
                  clear n0_ n1_
                  obtain ⟨Ao64, co64, eo64⟩ := Kd.N_slice HO_5.out
                  (first | subst eo64 | (injection eo64 with f1_ f2_ f3_; have f4_ := f1_.symm; have f5_ := f3_.symm; clear f1_ f2_ f3_; subst f4_; subst f5_))
                  have q63 : (t247 : Int) ≤ ((t243.length : Int) : Int) := of_decide_eq_true (by first | (with_reducible assumption) | assumption)
                  obtain ⟨i063, hi063, _, hsz63, _⟩ := info_parts info36
                  have hroom63 : t243.length ≤ co64 := (Kd.N_reads' HO_5.out).2.1
                  have hC63 : Kd.F k36 _ _ Ao64 t243.length t243 := (Kd.V_at (base := w.heap.size) (Kd.N_V HO_5.out)).2.2
                  have ql63 : (t246 : Int) ≤ (t247 : Int) := of_decide_eq_true (by first | (with_reducible assumption) | assumption)
                  have q063 : (0 : Int) ≤ (t246 : Int) := of_decide_eq_true (by first | (with_reducible assumption) | assumption)
                  have hcut63 := cut_mid (P := Try.prog) 22 36 .i64 .i64 Try.underlying22 hi063 8 hsz63 Ao64 t243.length co64 t246 t247 q063 ql63 q63 hroom63
                  have hr63 := Kd.F_mid (lo := (t246 : Int).toNat) (hi := (t247 : Int).toNat) (c := co64) hC63 (by omega) (by omega) hroom63
                  obtain ⟨A63, hA63⟩ : ∃ A1, A1 = (if co64 = (t246 : Int).toNat then Ao64 else (Ao64 : Option Addr).map (·.add ((t246 : Int).toNat * 8))) := ⟨_, rfl⟩
                  obtain ⟨c63, hc63⟩ : ∃ c1, c1 = co64 - (t246 : Int).toNat := ⟨_, rfl⟩
                  have hy63 : y251.length = (t247 : Int).toNat - (t246 : Int).toNat := (by rw [Ny251.out, List.length_drop, List.length_take] <;> omega)
                  rw [show ((t243).take (t247 : Int).toNat).drop (t246 : Int).toNat = y251 from Ny251.out.symm] at hr63
                  replace hr63 : Kd.F k36 _ _ A63 y251.length y251 := (by rw [hA63]; exact hr63)
                  rw [← hy63, ← hA63, ← hc63] at hcut63
                  have HO255 := Aside0.mk (show Kd.V k36 36 _ w.heap.size _ (.slice A63 y251.length c63) y251 from Kd.V_mk (by rw [hy63, hc63]; exact Nat.sub_le_sub_right (Nat.le_trans (by omega) hroom63) _) hr63)
                  have HC255 := Aside0.mk (show y251.length ≤ c63 from by rw [hy63, hc63]; exact Nat.sub_le_sub_right (Nat.le_trans (by omega) hroom63) _)
                  clear hr63 hC63 hroom63 hi063 hsz63 hc63
                  have KY63 := Aside0.mk hy63
                  have KA63 := Aside0.mk hA63
                  clear hy63 hA63
                  replace q63 := eq_true q63
                  have p256 : 0 ≤ (a1 : Int) := of_decide_eq_true (by first | (with_reducible assumption) | assumption)
                  have q256 : a1 < (t243.length : Int) := of_decide_eq_true (by first | (with_reducible assumption) | assumption)
                  obtain ⟨ad256, A256_4, c256_4, A256_5, c256_5, A256_6, c256_6, A256_7, c256_7, e256, hx256_0, hx256_1, hx256_2, hx256_3, hx256_4, hx256_5, hx256_6, hx256_7, hl256_4, hi256_4, hl256_5, hi256_5, hl256_6, hi256_6, hl256_7, hi256_7⟩ := at_T36 (Kd.N_reads' HO_5.out).2.2 a1 p256 q256
                  cases e256
                  obtain ⟨ce256, hce256, hMe256, hcc256⟩ := Kd.N_get HO_5.out z36 a1 p256 (by first | exact q256 | exact of_decide_eq_true (by first | (with_reducible assumption) | assumption) | (have e_ := (Kd.N_reads' HO_5.out).1; omega))
                  obtain ⟨ua256_4, uc256_4, ua256_5, uc256_5, ua256_6, uc256_6, ua256_7, uc256_7, rfl, ul256_4, ge256_4, ul256_5, ge256_5, ul256_6, ge256_6, ul256_7, ge256_7⟩ := k36_openF hMe256
                  have hv256_4 := hcc256 4 _ rfl
                  rw [add_field _ _ 4 (by omega)] at hv256_4
                  replace hv256_4 := Option.some.inj (hv256_4.symm.trans hx256_4)
                  injection hv256_4 with hva_ hvn_ hvc_
                  rw [hva_] at ge256_4
                  rw [hvc_] at ul256_4
                  have HL256_4 := Aside0.mk (show Kd.V k49 49 _ w.heap.size _ _ ((rd_T36 t243 a1).f4) from Kd.V_mk ul256_4 ge256_4)
                  clear hva_ hvn_ hvc_ ge256_4 ul256_4
                  have hv256_5 := hcc256 5 _ rfl
                  rw [add_field _ _ 5 (by omega)] at hv256_5
                  replace hv256_5 := Option.some.inj (hv256_5.symm.trans hx256_5)
                  injection hv256_5 with hva_ hvn_ hvc_
                  rw [hva_] at ge256_5
                  rw [hvc_] at ul256_5
                  have HL256_5 := Aside0.mk (show Kd.V Kd.string 9 _ w.heap.size _ _ ((rd_T36 t243 a1).f5) from Kd.V_mk ul256_5 ge256_5)
                  clear hva_ hvn_ hvc_ ge256_5 ul256_5
                  have hv256_6 := hcc256 6 _ rfl
                  rw [add_field _ _ 6 (by omega)] at hv256_6
                  replace hv256_6 := Option.some.inj (hv256_6.symm.trans hx256_6)
                  injection hv256_6 with hva_ hvn_ hvc_
                  rw [hva_] at ge256_6
                  rw [hvc_] at ul256_6
                  have HL256_6 := Aside0.mk (show Kd.V k36 36 _ w.heap.size _ _ ((rd_T36 t243 a1).f6) from Kd.V_mk ul256_6 ge256_6)
                  clear hva_ hvn_ hvc_ ge256_6 ul256_6
                  have hv256_7 := hcc256 7 _ rfl
                  rw [add_field _ _ 7 (by omega)] at hv256_7
                  replace hv256_7 := Option.some.inj (hv256_7.symm.trans hx256_7)
                  injection hv256_7 with hva_ hvn_ hvc_
                  rw [hva_] at ge256_7
                  rw [hvc_] at ul256_7
                  have HL256_7 := Aside0.mk (show Kd.V k36 36 _ w.heap.size _ _ ((rd_T36 t243 a1).f7) from Kd.V_mk ul256_7 ge256_7)
                  clear hva_ hvn_ hvc_ ge256_7 ul256_7
                  clear hcc256 hce256
                  have HR256_4 := Aside0.mk hi256_4
                  have HC256_4 := Aside0.mk hl256_4
                  clear hi256_4 hl256_4
                  have HR256_5 := Aside0.mk hi256_5
                  have HC256_5 := Aside0.mk hl256_5
                  clear hi256_5 hl256_5
                  have HR256_6 := Aside0.mk hi256_6
                  have HC256_6 := Aside0.mk hl256_6
                  clear hi256_6 hl256_6
                  have HR256_7 := Aside0.mk hi256_7
                  have HC256_7 := Aside0.mk hl256_7
                  clear hi256_7 hl256_7
                  replace p256 := eq_true p256
                  replace q256 := eq_true q256
                  have p266 : 0 ≤ (a1 : Int) := of_decide_eq_true (by first | (with_reducible assumption) | assumption)
                  have q266 : a1 < (t243.length : Int) := of_decide_eq_true (by first | (with_reducible assumption) | assumption)
                  obtain ⟨ad266, A266_4, c266_4, A266_5, c266_5, A266_6, c266_6, A266_7, c266_7, e266, hx266_0, hx266_1, hx266_2, hx266_3, hx266_4, hx266_5, hx266_6, hx266_7, hl266_4, hi266_4, hl266_5, hi266_5, hl266_6, hi266_6, hl266_7, hi266_7⟩ := at_T36 (Kd.N_reads' HO_5.out).2.2 a1 p266 q266
                  obtain rfl : ad256 = ad266 := (by injection e266)
                  obtain ⟨ce266, hce266, hMe266, hcc266⟩ := Kd.N_get HO_5.out z36 a1 p266 (by first | exact q266 | exact of_decide_eq_true (by first | (with_reducible assumption) | assumption) | (have e_ := (Kd.N_reads' HO_5.out).1; omega))
                  obtain ⟨ua266_4, uc266_4, ua266_5, uc266_5, ua266_6, uc266_6, ua266_7, uc266_7, rfl, ul266_4, ge266_4, ul266_5, ge266_5, ul266_6, ge266_6, ul266_7, ge266_7⟩ := k36_openF hMe266
                  have hv266_4 := hcc266 4 _ rfl
                  rw [add_field _ _ 4 (by omega)] at hv266_4
                  replace hv266_4 := Option.some.inj (hv266_4.symm.trans hx266_4)
                  injection hv266_4 with hva_ hvn_ hvc_
                  rw [hva_] at ge266_4
                  rw [hvc_] at ul266_4
                  have HL266_4 := Aside0.mk (show Kd.V k49 49 _ w.heap.size _ _ ((rd_T36 t243 a1).f4) from Kd.V_mk ul266_4 ge266_4)
                  clear hva_ hvn_ hvc_ ge266_4 ul266_4
                  have hv266_5 := hcc266 5 _ rfl
                  rw [add_field _ _ 5 (by omega)] at hv266_5
                  replace hv266_5 := Option.some.inj (hv266_5.symm.trans hx266_5)
                  injection hv266_5 with hva_ hvn_ hvc_
                  rw [hva_] at ge266_5
                  rw [hvc_] at ul266_5
                  have HL266_5 := Aside0.mk (show Kd.V Kd.string 9 _ w.heap.size _ _ ((rd_T36 t243 a1).f5) from Kd.V_mk ul266_5 ge266_5)
                  clear hva_ hvn_ hvc_ ge266_5 ul266_5
                  have hv266_6 := hcc266 6 _ rfl
                  rw [add_field _ _ 6 (by omega)] at hv266_6
                  replace hv266_6 := Option.some.inj (hv266_6.symm.trans hx266_6)
                  injection hv266_6 with hva_ hvn_ hvc_
                  rw [hva_] at ge266_6
                  rw [hvc_] at ul266_6
                  have HL266_6 := Aside0.mk (show Kd.V k36 36 _ w.heap.size _ _ ((rd_T36 t243 a1).f6) from Kd.V_mk ul266_6 ge266_6)
                  clear hva_ hvn_ hvc_ ge266_6 ul266_6
                  have hv266_7 := hcc266 7 _ rfl
                  rw [add_field _ _ 7 (by omega)] at hv266_7
                  replace hv266_7 := Option.some.inj (hv266_7.symm.trans hx266_7)
                  injection hv266_7 with hva_ hvn_ hvc_
                  rw [hva_] at ge266_7
                  rw [hvc_] at ul266_7
                  have HL266_7 := Aside0.mk (show Kd.V k36 36 _ w.heap.size _ _ ((rd_T36 t243 a1).f7) from Kd.V_mk ul266_7 ge266_7)
                  clear hva_ hvn_ hvc_ ge266_7 ul266_7
                  clear hcc266 hce266
                  have HR266_4 := Aside0.mk hi266_4
                  have HC266_4 := Aside0.mk hl266_4
                  clear hi266_4 hl266_4
                  have HR266_5 := Aside0.mk hi266_5
                  have HC266_5 := Aside0.mk hl266_5
                  clear hi266_5 hl266_5
                  have HR266_6 := Aside0.mk hi266_6
                  have HC266_6 := Aside0.mk hl266_6
                  clear hi266_6 hl266_6
                  have HR266_7 := Aside0.mk hi266_7
                  have HC266_7 := Aside0.mk hl266_7
                  clear hi266_7 hl266_7
                  obtain ⟨ea_, ec_⟩ : A256_4 = A266_4 ∧ c256_4 = c266_4 := (by have e_ := Option.some.inj (hx256_4.symm.trans hx266_4); injection e_ with e1_ e2_ e3_; exact ⟨e1_, e3_⟩)
                  have EA266_4 := Aside0.mk ea_
                  have EC266_4 := Aside0.mk ec_
                  clear ea_ ec_
                  obtain ⟨ea_, ec_⟩ : A256_5 = A266_5 ∧ c256_5 = c266_5 := (by have e_ := Option.some.inj (hx256_5.symm.trans hx266_5); injection e_ with e1_ e2_ e3_; exact ⟨e1_, e3_⟩)
                  have EA266_5 := Aside0.mk ea_
                  have EC266_5 := Aside0.mk ec_
                  clear ea_ ec_
                  obtain ⟨ea_, ec_⟩ : A256_6 = A266_6 ∧ c256_6 = c266_6 := (by have e_ := Option.some.inj (hx256_6.symm.trans hx266_6); injection e_ with e1_ e2_ e3_; exact ⟨e1_, e3_⟩)
                  have EA266_6 := Aside0.mk ea_
                  have EC266_6 := Aside0.mk ec_
                  clear ea_ ec_
                  obtain ⟨ea_, ec_⟩ : A256_7 = A266_7 ∧ c256_7 = c266_7 := (by have e_ := Option.some.inj (hx256_7.symm.trans hx266_7); injection e_ with e1_ e2_ e3_; exact ⟨e1_, e3_⟩)
                  have EA266_7 := Aside0.mk ea_
                  have EC266_7 := Aside0.mk ec_
                  clear ea_ ec_
                  replace p266 := eq_true p266
                  replace q266 := eq_true q266
                  refine start_ (n := 37) (S := fun w' => w'.cell? (ad256.add ((a1).toNat * 8)) = some (.int .i64 ((rd_T36 t243 a1).f0)) ∧ w'.cell? ⟨(ad256.add ((a1).toNat * 8)).block, (ad256.add ((a1).toNat * 8)).off + 1, none⟩ = some (.string ((rd_T36 t243 a1).f1)) ∧ w'.cell? ⟨(ad256.add ((a1).toNat * 8)).block, (ad256.add ((a1).toNat * 8)).off + 2, none⟩ = some (.string ((rd_T36 t243 a1).f2)) ∧ w'.cell? ⟨(ad256.add ((a1).toNat * 8)).block, (ad256.add ((a1).toNat * 8)).off + 3, none⟩ = some (.string ((rd_T36 t243 a1).f3)) ∧ w'.cell? ⟨(ad256.add ((a1).toNat * 8)).block, (ad256.add ((a1).toNat * 8)).off + 4, none⟩ = some (.slice A256_4 ((rd_T36 t243 a1).f4).length c256_4) ∧ w'.cell? ⟨(ad256.add ((a1).toNat * 8)).block, (ad256.add ((a1).toNat * 8)).off + 5, none⟩ = some (.slice A256_5 ((rd_T36 t243 a1).f5).length c256_5) ∧ w'.cell? ⟨(ad256.add ((a1).toNat * 8)).block, (ad256.add ((a1).toNat * 8)).off + 6, none⟩ = some (.slice A256_6 ((rd_T36 t243 a1).f6).length c256_6) ∧ w'.cell? ⟨(ad256.add ((a1).toNat * 8)).block, (ad256.add ((a1).toNat * 8)).off + 7, none⟩ = some (.slice A256_7 ((rd_T36 t243 a1).f7).length c256_7) ∧ w'.cell? (ad256.add ((a1).toNat * 8)) = some (.int .i64 ((rd_T36 t243 a1).f0)) ∧ w'.cell? ⟨(ad256.add ((a1).toNat * 8)).block, (ad256.add ((a1).toNat * 8)).off + 1, none⟩ = some (.string ((rd_T36 t243 a1).f1)) ∧ w'.cell? ⟨(ad256.add ((a1).toNat * 8)).block, (ad256.add ((a1).toNat * 8)).off + 2, none⟩ = some (.string ((rd_T36 t243 a1).f2)) ∧ w'.cell? ⟨(ad256.add ((a1).toNat * 8)).block, (ad256.add ((a1).toNat * 8)).off + 3, none⟩ = some (.string ((rd_T36 t243 a1).f3)) ∧ w'.cell? ⟨(ad256.add ((a1).toNat * 8)).block, (ad256.add ((a1).toNat * 8)).off + 4, none⟩ = some (.slice A266_4 ((rd_T36 t243 a1).f4).length c266_4) ∧ w'.cell? ⟨(ad256.add ((a1).toNat * 8)).block, (ad256.add ((a1).toNat * 8)).off + 5, none⟩ = some (.slice A266_5 ((rd_T36 t243 a1).f5).length c266_5) ∧ w'.cell? ⟨(ad256.add ((a1).toNat * 8)).block, (ad256.add ((a1).toNat * 8)).off + 6, none⟩ = some (.slice A266_6 ((rd_T36 t243 a1).f6).length c266_6) ∧ w'.cell? ⟨(ad256.add ((a1).toNat * 8)).block, (ad256.add ((a1).toNat * 8)).off + 7, none⟩ = some (.slice A266_7 ((rd_T36 t243 a1).f7).length c266_7)) (ds := []) #[false, false, false, false, false, false, false, false, false, false, false, false, false, false, false, false, false, false, false, false, false, false, false, false, false, false, false, false, false, false, false, false, false, false, false, false, false] (by kernel_rfl) rfl rfl ⟨hx256_0, hx256_1, hx256_2, hx256_3, hx256_4, hx256_5, hx256_6, hx256_7, hx266_0, hx266_1, hx266_2, hx266_3, hx266_4, hx266_5, hx266_6, hx266_7⟩ (fun hHeld => ?_); refine with_tabW proteanlaw04_NumberBlocks.tab9 proteanlaw04_NumberBlocks.bits9 (fun HT_ HW_ => ?_)
                  generalize wc.drew = w62 at HO_5 HB HL256_4 HL256_5 HL256_6 HL256_7 HL266_4 HL266_5 HL266_6 HL266_7 HO255 HR256_4 HR256_5 HR256_6 HR256_7 HR266_4 HR266_5 HR266_6 HR266_7 hx256_0 hx256_1 hx256_2 hx256_3 hx256_4 hx256_5 hx256_6 hx256_7 hx266_0 hx266_1 hx266_2 hx266_3 hx266_4 hx266_5 hx266_6 hx266_7 hHeld ⊢
                  refine pure_ (i := 0) (N := some 66) (v := ?_) (a' := ?_) #[true, false, false, false, false, false, false, false, false, false, false, false, false, false, false, false, false, false, false, false, false, false, false, false, false, false, false, false, false, false, false, false, false, false, false, false, false] rfl rfl (any_of HT_.out (by kernel_rfl)) (fun _ _ _ h => h) (Or.inl ⟨by rfl, ?_⟩) ?_ ?_
                  rotate_left
                  ·intro w'
                   go_simp
                   with_reducible rfl
                  rotate_left
                  ·simp only [Act.put, List.setIfInBounds_toArray, List.set_cons_zero, List.set_cons_succ, i64_w, i32_w]
                   rfl
                  refine pure_ (i := 1) (N := some 67) (v := ?_) (a' := ?_) #[true, true, false, false, false, false, false, false, false, false, false, false, false, false, false, false, false, false, false, false, false, false, false, false, false, false, false, false, false, false, false, false, false, false, false, false, false] rfl rfl (any_of HT_.out (by kernel_rfl)) (fun _ _ _ h => h) (Or.inl ⟨by rfl, ?_⟩) ?_ ?_
                  rotate_left
                  ·intro w'
                   go_simp
                   with_reducible rfl
                  rotate_left
                  ·simp only [Act.put, List.setIfInBounds_toArray, List.set_cons_zero, List.set_cons_succ, i64_w, i32_w]
                   rfl
                  refine pure_ (i := 2) (N := some 68) (v := ?_) (a' := ?_) #[true, true, true, false, false, false, false, false, false, false, false, false, false, false, false, false, false, false, false, false, false, false, false, false, false, false, false, false, false, false, false, false, false, false, false, false, false] rfl rfl (any_of HT_.out (by kernel_rfl)) (fun _ _ _ h => h) (Or.inl ⟨by rfl, ?_⟩) ?_ ?_
                  rotate_left
                  ·intro w'
                   go_simp
                   with_reducible rfl
                  rotate_left
                  ·simp only [Act.put, List.setIfInBounds_toArray, List.set_cons_zero, List.set_cons_succ, i64_w, i32_w]
                   rfl
                  refine pure_ (i := 3) (N := some 69) (v := ?_) (a' := ?_) #[true, true, true, true, false, false, false, false, false, false, false, false, false, false, false, false, false, false, false, false, false, false, false, false, false, false, false, false, false, false, false, false, false, false, false, false, false] rfl rfl (any_of HT_.out (by kernel_rfl)) (fun _ _ _ h => h) (Or.inl ⟨by rfl, ?_⟩) ?_ ?_
                  rotate_left
                  ·intro w'
                   go_simp
                   with_reducible rfl
                  rotate_left
                  ·simp only [Act.put, List.setIfInBounds_toArray, List.set_cons_zero, List.set_cons_succ, i64_w, i32_w]
                   rfl
                  refine pure_ (i := 4) (N := some 70) (v := ?_) (a' := ?_) #[true, true, true, true, true, false, false, false, false, false, false, false, false, false, false, false, false, false, false, false, false, false, false, false, false, false, false, false, false, false, false, false, false, false, false, false, false] rfl rfl (any_of HT_.out (by kernel_rfl)) (fun _ _ _ h => h) (Or.inl ⟨by rfl, ?_⟩) ?_ ?_
                  rotate_left
                  ·intro w'
                   go_simp
                   with_reducible rfl
                  rotate_left
                  ·simp only [Act.put, List.setIfInBounds_toArray, List.set_cons_zero, List.set_cons_succ, i64_w, i32_w]
                   rfl
                  refine pure_ (i := 5) (N := some 71) (v := ?_) (a' := ?_) #[true, true, true, true, true, true, false, false, false, false, false, false, false, false, false, false, false, false, false, false, false, false, false, false, false, false, false, false, false, false, false, false, false, false, false, false, false] rfl rfl (any_of HT_.out (by kernel_rfl)) (fun _ _ _ h => h) (Or.inl ⟨by rfl, ?_⟩) ?_ ?_
                  rotate_left
                  ·intro w'
                   go_simp
                   with_reducible rfl
                  rotate_left
                  ·simp only [Act.put, List.setIfInBounds_toArray, List.set_cons_zero, List.set_cons_succ, i64_w, i32_w]
                   rfl
                  refine pure_ (i := 6) (N := some 72) (v := ?_) (a' := ?_) #[true, true, true, true, true, true, true, false, false, false, false, false, false, false, false, false, false, false, false, false, false, false, false, false, false, false, false, false, false, false, false, false, false, false, false, false, false] rfl rfl (any_of HT_.out (by kernel_rfl)) (fun _ _ _ h => h) (Or.inl ⟨by rfl, ?_⟩) ?_ ?_
                  rotate_left
                  ·intro w'
                   go_simp
                   with_reducible rfl
                  rotate_left
                  ·simp only [Act.put, List.setIfInBounds_toArray, List.set_cons_zero, List.set_cons_succ, i64_w, i32_w]
                   rfl
                  refine pure_ (i := 7) (N := some 73) (v := ?_) (a' := ?_) #[true, true, true, true, true, true, true, true, false, false, false, false, false, false, false, false, false, false, false, false, false, false, false, false, false, false, false, false, false, false, false, false, false, false, false, false, false] rfl rfl (any_of HT_.out (by kernel_rfl)) (fun _ _ _ h => h) (Or.inl ⟨by rfl, ?_⟩) ?_ ?_
                  rotate_left
                  ·intro w'
                   go_simp
                   with_reducible rfl
                  rotate_left
                  ·simp only [Act.put, List.setIfInBounds_toArray, List.set_cons_zero, List.set_cons_succ, i64_w, i32_w]
                   rfl
                  refine take_ (i := 8) (N := some 74) (v := ?_) (a' := ?_) #[true, true, true, true, true, true, true, true, true, false, false, false, false, false, false, false, false, false, false, false, false, false, false, false, false, false, false, false, false, false, false, false, false, false, false, false, false] rfl rfl (take_ofW HT_.out HW_.out (by kernel_rfl)) (fun _ _ _ h => h) (Or.inl ⟨by rfl, ?_⟩) hHeld ?_ ?_
                  rotate_left
                  ·rintro w' ⟨s0, s1, s2, s3, s4, s5, s6, s7, s8, s9, s10, s11, s12, s13, s14, s15⟩
                   go_simp
                   with_reducible rfl
                  rotate_left
                  ·simp only [Act.put, List.setIfInBounds_toArray, List.set_cons_zero, List.set_cons_succ, i64_w, i32_w]
                   rfl
                  refine one_ (i := 9) (N := some 75) #[true, true, true, true, true, true, true, true, true, true, false, false, false, false, false, false, false, false, false, false, false, false, false, false, false, false, false, false, false, false, false, false, false, false, false, false, false] rfl rfl (one_of HT_.out (by kernel_rfl)) (by decide) (fun K hK => ?_)
                  refine goes_ Try.func16 (by kernel_rfl) rfl #[.slice A256_6 ((rd_T36 t243 a1).f6).length c256_6] (by rfl) rfl rfl (by (try simp only [List.map_toArray, List.map_cons, List.map_nil]); first | done | rfl | (simp only [List.length_drop, List.length_take]; rfl)) ?_
                  with_reducible refine (number_List.calls kj29 (fun k_ => (True ∧ some k_ ≠ (.slice (some ad256) t243.length co64 : Value).ownBlock)) _ _ ((rd_T36 t243 a1).f6) t257 _ ?side1 A41.out).mono ?_
                  (case side1 => exact HL256_6.out)
                  rintro e w65 ⟨v258, rfl, ho0, hb⟩
                  have HS0_ := (hb.cell (World.block_lt_of_cell? _ _ (hHeld.1))).trans (hHeld.1)
                  have HS1_ := (hb.cell (World.block_lt_of_cell? _ _ (hHeld.2.1))).trans (hHeld.2.1)
                  have HS2_ := (hb.cell (World.block_lt_of_cell? _ _ (hHeld.2.2.1))).trans (hHeld.2.2.1)
                  have HS3_ := (hb.cell (World.block_lt_of_cell? _ _ (hHeld.2.2.2.1))).trans (hHeld.2.2.2.1)
                  have HS4_ := (hb.cell (World.block_lt_of_cell? _ _ (hHeld.2.2.2.2.1))).trans (hHeld.2.2.2.2.1)
                  have HS5_ := (hb.cell (World.block_lt_of_cell? _ _ (hHeld.2.2.2.2.2.1))).trans (hHeld.2.2.2.2.2.1)
                  have HS6_ := (hb.cell (World.block_lt_of_cell? _ _ (hHeld.2.2.2.2.2.2.1))).trans (hHeld.2.2.2.2.2.2.1)
                  have HS7_ := (hb.cell (World.block_lt_of_cell? _ _ (hHeld.2.2.2.2.2.2.2.1))).trans (hHeld.2.2.2.2.2.2.2.1)
                  have HS8_ := (hb.cell (World.block_lt_of_cell? _ _ (hHeld.2.2.2.2.2.2.2.2.1))).trans (hHeld.2.2.2.2.2.2.2.2.1)
                  have HS9_ := (hb.cell (World.block_lt_of_cell? _ _ (hHeld.2.2.2.2.2.2.2.2.2.1))).trans (hHeld.2.2.2.2.2.2.2.2.2.1)
                  have HS10_ := (hb.cell (World.block_lt_of_cell? _ _ (hHeld.2.2.2.2.2.2.2.2.2.2.1))).trans (hHeld.2.2.2.2.2.2.2.2.2.2.1)
                  have HS11_ := (hb.cell (World.block_lt_of_cell? _ _ (hHeld.2.2.2.2.2.2.2.2.2.2.2.1))).trans (hHeld.2.2.2.2.2.2.2.2.2.2.2.1)
                  have HS12_ := (hb.cell (World.block_lt_of_cell? _ _ (hHeld.2.2.2.2.2.2.2.2.2.2.2.2.1))).trans (hHeld.2.2.2.2.2.2.2.2.2.2.2.2.1)
                  have HS13_ := (hb.cell (World.block_lt_of_cell? _ _ (hHeld.2.2.2.2.2.2.2.2.2.2.2.2.2.1))).trans (hHeld.2.2.2.2.2.2.2.2.2.2.2.2.2.1)
                  have HS14_ := (hb.cell (World.block_lt_of_cell? _ _ (hHeld.2.2.2.2.2.2.2.2.2.2.2.2.2.2.1))).trans (hHeld.2.2.2.2.2.2.2.2.2.2.2.2.2.2.1)
                  have HS15_ := (hb.cell (World.block_lt_of_cell? _ _ (hHeld.2.2.2.2.2.2.2.2.2.2.2.2.2.2.2))).trans (hHeld.2.2.2.2.2.2.2.2.2.2.2.2.2.2.2)
                  refine ⟨_, rfl, ?_⟩
                  have n0_ := Aside0.mk (Kd.N_elder' (by (with_reducible repeat (first | apply Kd.N_alloc | apply Kd.N_drewN | apply Kd.N_drew)); exact HO_5.out) (Kd.N_base ho0) hb)
                  have n1_ := Aside0.mk (Kd.V_elder' (by (with_reducible repeat (first | apply Kd.V_alloc | apply Kd.V_drewN | apply Kd.V_drew)); exact HO255.out) (Kd.N_base ho0) hb)
                  have n2_ := Aside0.mk (Kd.V_elder' (by (with_reducible repeat (first | apply Kd.V_alloc | apply Kd.V_drewN | apply Kd.V_drew)); exact HL256_4.out) (Kd.N_base ho0) hb)
                  have n3_ := Aside0.mk (Kd.V_elder' (by (with_reducible repeat (first | apply Kd.V_alloc | apply Kd.V_drewN | apply Kd.V_drew)); exact HL256_5.out) (Kd.N_base ho0) hb)
                  have n4_ := Aside0.mk (Kd.V_elder' (by (with_reducible repeat (first | apply Kd.V_alloc | apply Kd.V_drewN | apply Kd.V_drew)); exact HL256_6.out) (Kd.N_base ho0) hb)
                  have n5_ := Aside0.mk (Kd.V_elder' (by (with_reducible repeat (first | apply Kd.V_alloc | apply Kd.V_drewN | apply Kd.V_drew)); exact HL256_7.out) (Kd.N_base ho0) hb)
                  have n6_ := Aside0.mk (Kd.N_lower (Kd.N_mono (ok' := fun k_ => some k_ ≠ (.slice (some ad256) t243.length co64 : Value).ownBlock) ho0 (fun k_ hk_ => Or.elim hk_ (fun hs_ => hs_.2) (fun hn_ => (Kd.fresh' (Kd.N_lt (by (with_reducible repeat (first | apply Kd.N_alloc | apply Kd.N_drewN | apply Kd.N_drew)); exact HO_5.out)) k_ hn_)))) (below_size (by repeat (first | (with_reducible first | exact HB.out | apply below_alloc | apply pw_below_drewN | apply below_drew1) | exact HB.out))))
                  have n7_ := Aside0.mk (Kd.C_below (by repeat (first | (with_reducible exact HR256_4.out) | (with_reducible refine Kd.C_alloc ?_ _) | (with_reducible refine Kd.C_drewN ?_ _) | (with_reducible refine Kd.C_drew ?_) | exact HR256_4.out)) hb)
                  have n8_ := Aside0.mk (Kd.C_below (by repeat (first | (with_reducible exact HR256_5.out) | (with_reducible refine Kd.C_alloc ?_ _) | (with_reducible refine Kd.C_drewN ?_ _) | (with_reducible refine Kd.C_drew ?_) | exact HR256_5.out)) hb)
                  have n9_ := Aside0.mk (Kd.C_below (by repeat (first | (with_reducible exact HR256_6.out) | (with_reducible refine Kd.C_alloc ?_ _) | (with_reducible refine Kd.C_drewN ?_ _) | (with_reducible refine Kd.C_drew ?_) | exact HR256_6.out)) hb)
                  have n10_ := Aside0.mk (Kd.C_below (by repeat (first | (with_reducible exact HR256_7.out) | (with_reducible refine Kd.C_alloc ?_ _) | (with_reducible refine Kd.C_drewN ?_ _) | (with_reducible refine Kd.C_drew ?_) | exact HR256_7.out)) hb)
                  have n11_ := Aside0.mk (below_step (by repeat (first | (with_reducible first | exact HB.out | apply below_alloc | apply pw_below_drewN | apply below_drew1) | exact HB.out)) hb)
                  clear HO_5
                  clear HO255
                  clear HL256_4
                  clear HL256_5
                  clear HL256_6
                  clear HL256_7
                  clear HR256_4
                  clear HR256_5
                  clear HR256_6
                  clear HR256_7
                  clear HB
                  have HO_5 := n0_
                  have HO255 := n1_
                  have HL256_4 := n2_
                  have HL256_5 := n3_
                  have HL256_6 := n4_
                  have HL256_7 := n5_
                  have HO259 := n6_
                  have HR256_4 := n7_
                  have HR256_5 := n8_
                  have HR256_6 := n9_
                  have HR256_7 := n10_
                  have HB := n11_
                  clear n0_ n1_ n2_ n3_ n4_ n5_ n6_ n7_ n8_ n9_ n10_ n11_
                  (try clear hb)
                  (try clear hb2)
                  (try clear hk)
                  (try clear hi)
                  (try clear ho0)
                  obtain ⟨Ao66, co66, eo66⟩ := Kd.N_slice HO259.out
                  (first | subst eo66 | (injection eo66 with f1_ f2_ f3_; have f4_ := f1_.symm; have f5_ := f3_.symm; clear f1_ f2_ f3_; subst f4_; subst f5_))
                  refine hK.out _ _ ⟨HS0_, HS1_, HS2_, HS3_, HS4_, HS5_, HS6_, HS7_, HS8_, HS9_, HS10_, HS11_, HS12_, HS13_, HS14_, HS15_⟩ (fun hHeld => ?_)
                  clear hK K
                  refine norm_ (a' := ?_) ?_ ?_
                  rotate_left
                  ·show Act.put _ (some 75) _ = _
                   simp only [Act.put, List.setIfInBounds_toArray, List.set_cons_zero, List.set_cons_succ, i64_w, i32_w]
                   rfl
                  refine one_ (i := 10) (N := some 76) #[true, true, true, true, true, true, true, true, true, true, true, false, false, false, false, false, false, false, false, false, false, false, false, false, false, false, false, false, false, false, false, false, false, false, false, false, false] rfl rfl (one_of HT_.out (by kernel_rfl)) (by decide) (fun K hK => ?_)
                  refine goes_ Try.func15 (by kernel_rfl) rfl #[.slice A63 y251.length c63, .slice Ao66 t257.length co66] (by rfl) rfl rfl (by (try simp only [List.map_toArray, List.map_cons, List.map_nil]); first | done | rfl | (simp only [List.length_drop, List.length_take]; rfl)) ?_
                  with_reducible refine (proteanref02_Stmts.calls _ _ y251 _ _ t257 true _ ?side1 ?side2 ?side3 ?side4 A42.out).mono ?_
                  (case side1 => repeat (first | exact (Kd.V_reads' HO255.out).2.2 | (with_reducible refine Kd.C_alloc ?_ _) | (with_reducible refine Kd.C_drewN ?_ _) | (with_reducible refine Kd.C_drew ?_)))
                  (case side2 => exact (Kd.V_reads' HO255.out).2.1)
                  (case side3 => repeat (first | exact (Kd.N_reads' HO259.out).2.2 | (with_reducible refine Kd.C_alloc ?_ _) | (with_reducible refine Kd.C_drewN ?_ _) | (with_reducible refine Kd.C_drew ?_)))
                  (case side4 => exact (Kd.N_reads' HO259.out).2.1)
                  rintro e w67 ⟨rfl, hb⟩
                  have HS0_ := (hb.cell (World.block_lt_of_cell? _ _ (hHeld.1))).trans (hHeld.1)
                  have HS1_ := (hb.cell (World.block_lt_of_cell? _ _ (hHeld.2.1))).trans (hHeld.2.1)
                  have HS2_ := (hb.cell (World.block_lt_of_cell? _ _ (hHeld.2.2.1))).trans (hHeld.2.2.1)
                  have HS3_ := (hb.cell (World.block_lt_of_cell? _ _ (hHeld.2.2.2.1))).trans (hHeld.2.2.2.1)
                  have HS4_ := (hb.cell (World.block_lt_of_cell? _ _ (hHeld.2.2.2.2.1))).trans (hHeld.2.2.2.2.1)
                  have HS5_ := (hb.cell (World.block_lt_of_cell? _ _ (hHeld.2.2.2.2.2.1))).trans (hHeld.2.2.2.2.2.1)
                  have HS6_ := (hb.cell (World.block_lt_of_cell? _ _ (hHeld.2.2.2.2.2.2.1))).trans (hHeld.2.2.2.2.2.2.1)
                  have HS7_ := (hb.cell (World.block_lt_of_cell? _ _ (hHeld.2.2.2.2.2.2.2.1))).trans (hHeld.2.2.2.2.2.2.2.1)
                  have HS8_ := (hb.cell (World.block_lt_of_cell? _ _ (hHeld.2.2.2.2.2.2.2.2.1))).trans (hHeld.2.2.2.2.2.2.2.2.1)
                  have HS9_ := (hb.cell (World.block_lt_of_cell? _ _ (hHeld.2.2.2.2.2.2.2.2.2.1))).trans (hHeld.2.2.2.2.2.2.2.2.2.1)
                  have HS10_ := (hb.cell (World.block_lt_of_cell? _ _ (hHeld.2.2.2.2.2.2.2.2.2.2.1))).trans (hHeld.2.2.2.2.2.2.2.2.2.2.1)
                  have HS11_ := (hb.cell (World.block_lt_of_cell? _ _ (hHeld.2.2.2.2.2.2.2.2.2.2.2.1))).trans (hHeld.2.2.2.2.2.2.2.2.2.2.2.1)
                  have HS12_ := (hb.cell (World.block_lt_of_cell? _ _ (hHeld.2.2.2.2.2.2.2.2.2.2.2.2.1))).trans (hHeld.2.2.2.2.2.2.2.2.2.2.2.2.1)
                  have HS13_ := (hb.cell (World.block_lt_of_cell? _ _ (hHeld.2.2.2.2.2.2.2.2.2.2.2.2.2.1))).trans (hHeld.2.2.2.2.2.2.2.2.2.2.2.2.2.1)
                  have HS14_ := (hb.cell (World.block_lt_of_cell? _ _ (hHeld.2.2.2.2.2.2.2.2.2.2.2.2.2.2.1))).trans (hHeld.2.2.2.2.2.2.2.2.2.2.2.2.2.2.1)
                  have HS15_ := (hb.cell (World.block_lt_of_cell? _ _ (hHeld.2.2.2.2.2.2.2.2.2.2.2.2.2.2.2))).trans (hHeld.2.2.2.2.2.2.2.2.2.2.2.2.2.2.2)
                  refine ⟨_, rfl, ?_⟩
                  have n0_ := Aside0.mk (Kd.N_below (by (with_reducible repeat (first | apply Kd.N_alloc | apply Kd.N_drewN | apply Kd.N_drew)); exact HO_5.out) hb)
                  have n1_ := Aside0.mk (Kd.V_below (by (with_reducible repeat (first | apply Kd.V_alloc | apply Kd.V_drewN | apply Kd.V_drew)); exact HO255.out) hb)
                  have n2_ := Aside0.mk (Kd.V_below (by (with_reducible repeat (first | apply Kd.V_alloc | apply Kd.V_drewN | apply Kd.V_drew)); exact HL256_4.out) hb)
                  have n3_ := Aside0.mk (Kd.V_below (by (with_reducible repeat (first | apply Kd.V_alloc | apply Kd.V_drewN | apply Kd.V_drew)); exact HL256_5.out) hb)
                  have n4_ := Aside0.mk (Kd.V_below (by (with_reducible repeat (first | apply Kd.V_alloc | apply Kd.V_drewN | apply Kd.V_drew)); exact HL256_6.out) hb)
                  have n5_ := Aside0.mk (Kd.V_below (by (with_reducible repeat (first | apply Kd.V_alloc | apply Kd.V_drewN | apply Kd.V_drew)); exact HL256_7.out) hb)
                  have n6_ := Aside0.mk (Kd.N_below (by (with_reducible repeat (first | apply Kd.N_alloc | apply Kd.N_drewN | apply Kd.N_drew)); exact HO259.out) hb)
                  have n7_ := Aside0.mk (Kd.C_below (by repeat (first | (with_reducible exact HR256_4.out) | (with_reducible refine Kd.C_alloc ?_ _) | (with_reducible refine Kd.C_drewN ?_ _) | (with_reducible refine Kd.C_drew ?_) | exact HR256_4.out)) hb)
                  have n8_ := Aside0.mk (Kd.C_below (by repeat (first | (with_reducible exact HR256_5.out) | (with_reducible refine Kd.C_alloc ?_ _) | (with_reducible refine Kd.C_drewN ?_ _) | (with_reducible refine Kd.C_drew ?_) | exact HR256_5.out)) hb)
                  have n9_ := Aside0.mk (Kd.C_below (by repeat (first | (with_reducible exact HR256_6.out) | (with_reducible refine Kd.C_alloc ?_ _) | (with_reducible refine Kd.C_drewN ?_ _) | (with_reducible refine Kd.C_drew ?_) | exact HR256_6.out)) hb)
                  have n10_ := Aside0.mk (Kd.C_below (by repeat (first | (with_reducible exact HR256_7.out) | (with_reducible refine Kd.C_alloc ?_ _) | (with_reducible refine Kd.C_drewN ?_ _) | (with_reducible refine Kd.C_drew ?_) | exact HR256_7.out)) hb)
                  have n11_ := Aside0.mk (below_step (by repeat (first | (with_reducible first | exact HB.out | apply below_alloc | apply pw_below_drewN | apply below_drew1) | exact HB.out)) hb)
                  clear HO_5
                  clear HO255
                  clear HL256_4
                  clear HL256_5
                  clear HL256_6
                  clear HL256_7
                  clear HO259
                  clear HR256_4
                  clear HR256_5
                  clear HR256_6
                  clear HR256_7
                  clear HB
                  have HO_5 := n0_
                  have HO255 := n1_
                  have HL256_4 := n2_
                  have HL256_5 := n3_
                  have HL256_6 := n4_
                  have HL256_7 := n5_
                  have HO259 := n6_
                  have HR256_4 := n7_
                  have HR256_5 := n8_
                  have HR256_6 := n9_
                  have HR256_7 := n10_
                  have HB := n11_
                  clear n0_ n1_ n2_ n3_ n4_ n5_ n6_ n7_ n8_ n9_ n10_ n11_
                  (try clear hb)
                  (try clear hb2)
                  (try clear hk)
                  (try clear hi)
                  have q68 : (t248 : Int) ≤ ((t243.length : Int) : Int) := of_decide_eq_true (by first | (with_reducible assumption) | assumption)
                  obtain ⟨i068, hi068, _, hsz68, _⟩ := info_parts info36
                  have hroom68 : t243.length ≤ co64 := (Kd.N_reads' HO_5.out).2.1
                  have hC68 : Kd.F k36 _ _ (some ad256) t243.length t243 := (Kd.V_at (base := w.heap.size) (Kd.N_V HO_5.out)).2.2
                  have ql68 : (t247 : Int) ≤ (t248 : Int) := of_decide_eq_true (by first | (with_reducible assumption) | assumption)
                  have q068 : (0 : Int) ≤ (t247 : Int) := of_decide_eq_true (by first | (with_reducible assumption) | assumption)
                  have hcut68 := cut_mid (P := Try.prog) 22 36 .i64 .i64 Try.underlying22 hi068 8 hsz68 (some ad256) t243.length co64 t247 t248 q068 ql68 q68 hroom68
                  have hr68 := Kd.F_mid (lo := (t247 : Int).toNat) (hi := (t248 : Int).toNat) (c := co64) hC68 (by omega) (by omega) hroom68
                  obtain ⟨A68, hA68⟩ : ∃ A1, A1 = (if co64 = (t247 : Int).toNat then (some ad256) else ((some ad256) : Option Addr).map (·.add ((t247 : Int).toNat * 8))) := ⟨_, rfl⟩
                  obtain ⟨c68, hc68⟩ : ∃ c1, c1 = co64 - (t247 : Int).toNat := ⟨_, rfl⟩
                  have hy68 : y261.length = (t248 : Int).toNat - (t247 : Int).toNat := (by rw [Ny261.out, List.length_drop, List.length_take] <;> omega)
                  rw [show ((t243).take (t248 : Int).toNat).drop (t247 : Int).toNat = y261 from Ny261.out.symm] at hr68
                  replace hr68 : Kd.F k36 _ _ A68 y261.length y261 := (by rw [hA68]; exact hr68)
                  rw [← hy68, ← hA68, ← hc68] at hcut68
                  have HO265 := Aside0.mk (show Kd.V k36 36 _ w.heap.size _ (.slice A68 y261.length c68) y261 from Kd.V_mk (by rw [hy68, hc68]; exact Nat.sub_le_sub_right (Nat.le_trans (by omega) hroom68) _) hr68)
                  have HC265 := Aside0.mk (show y261.length ≤ c68 from by rw [hy68, hc68]; exact Nat.sub_le_sub_right (Nat.le_trans (by omega) hroom68) _)
                  clear hr68 hC68 hroom68 hi068 hsz68 hc68
                  have KY68 := Aside0.mk hy68
                  have KA68 := Aside0.mk hA68
                  clear hy68 hA68
                  replace q68 := eq_true q68
                  refine hK.out _ _ ⟨HS0_, HS1_, HS2_, HS3_, HS4_, HS5_, HS6_, HS7_, HS8_, HS9_, HS10_, HS11_, HS12_, HS13_, HS14_, HS15_⟩ (fun hHeld => ?_)
                  clear hK K
                  refine norm_ (a' := ?_) ?_ ?_
                  rotate_left
                  ·show Act.put _ (some 76) _ = _
                   simp only [Act.put, List.setIfInBounds_toArray, List.set_cons_zero, List.set_cons_succ, i64_w, i32_w]
                   rfl
                  refine pure_ (i := 11) (N := some 77) (v := ?_) (a' := ?_) #[true, true, true, true, true, true, true, true, true, true, true, true, false, false, false, false, false, false, false, false, false, false, false, false, false, false, false, false, false, false, false, false, false, false, false, false, false] rfl rfl (any_of HT_.out (by kernel_rfl)) (fun _ _ _ h => h) (Or.inl ⟨by rfl, ?_⟩) ?_ ?_
                  rotate_left
                  ·intro w'
                   go_simp
                   with_reducible rfl
                  rotate_left
                  ·simp only [Act.put, List.setIfInBounds_toArray, List.set_cons_zero, List.set_cons_succ, i64_w, i32_w]
                   rfl
                  refine pure_ (i := 12) (N := some 78) (v := ?_) (a' := ?_) #[true, true, true, true, true, true, true, true, true, true, true, true, true, false, false, false, false, false, false, false, false, false, false, false, false, false, false, false, false, false, false, false, false, false, false, false, false] rfl rfl (any_of HT_.out (by kernel_rfl)) (fun _ _ _ h => h) (Or.inl ⟨by rfl, ?_⟩) ?_ ?_
                  rotate_left
                  ·intro w'
                   go_simp
                   with_reducible rfl
                  rotate_left
                  ·simp only [Act.put, List.setIfInBounds_toArray, List.set_cons_zero, List.set_cons_succ, i64_w, i32_w]
                   rfl
                  refine pure_ (i := 13) (N := some 79) (v := ?_) (a' := ?_) #[true, true, true, true, true, true, true, true, true, true, true, true, true, true, false, false, false, false, false, false, false, false, false, false, false, false, false, false, false, false, false, false, false, false, false, false, false] rfl rfl (any_of HT_.out (by kernel_rfl)) (fun _ _ _ h => h) (Or.inl ⟨by rfl, ?_⟩) ?_ ?_
                  rotate_left
                  ·intro w'
                   go_simp
                   with_reducible rfl
                  rotate_left
                  ·simp only [Act.put, List.setIfInBounds_toArray, List.set_cons_zero, List.set_cons_succ, i64_w, i32_w]
                   rfl
                  refine pure_ (i := 14) (N := some 80) (v := ?_) (a' := ?_) #[true, true, true, true, true, true, true, true, true, true, true, true, true, true, true, false, false, false, false, false, false, false, false, false, false, false, false, false, false, false, false, false, false, false, false, false, false] rfl rfl (any_of HT_.out (by kernel_rfl)) (fun _ _ _ h => h) (Or.inl ⟨by rfl, ?_⟩) ?_ ?_
                  rotate_left
                  ·intro w'
                   go_simp
                   with_reducible rfl
                  rotate_left
                  ·simp only [Act.put, List.setIfInBounds_toArray, List.set_cons_zero, List.set_cons_succ, i64_w, i32_w]
                   rfl
                  refine pure_ (i := 15) (N := some 81) (v := ?_) (a' := ?_) #[true, true, true, true, true, true, true, true, true, true, true, true, true, true, true, true, false, false, false, false, false, false, false, false, false, false, false, false, false, false, false, false, false, false, false, false, false] rfl rfl (any_of HT_.out (by kernel_rfl)) (fun _ _ _ h => h) (Or.inl ⟨by rfl, ?_⟩) ?_ ?_
                  rotate_left
                  ·intro w'
                   go_simp
                   with_reducible rfl
                  rotate_left
                  ·simp only [Act.put, List.setIfInBounds_toArray, List.set_cons_zero, List.set_cons_succ, i64_w, i32_w]
                   rfl
                  refine pure_ (i := 16) (N := some 82) (v := ?_) (a' := ?_) #[true, true, true, true, true, true, true, true, true, true, true, true, true, true, true, true, true, false, false, false, false, false, false, false, false, false, false, false, false, false, false, false, false, false, false, false, false] rfl rfl (any_of HT_.out (by kernel_rfl)) (fun _ _ _ h => h) (Or.inl ⟨by rfl, ?_⟩) ?_ ?_
                  rotate_left
                  ·intro w'
                   go_simp
                   with_reducible rfl
                  rotate_left
                  ·simp only [Act.put, List.setIfInBounds_toArray, List.set_cons_zero, List.set_cons_succ, i64_w, i32_w]
                   rfl
                  refine pure_ (i := 17) (N := some 83) (v := ?_) (a' := ?_) #[true, true, true, true, true, true, true, true, true, true, true, true, true, true, true, true, true, true, false, false, false, false, false, false, false, false, false, false, false, false, false, false, false, false, false, false, false] rfl rfl (any_of HT_.out (by kernel_rfl)) (fun _ _ _ h => h) (Or.inl ⟨by rfl, ?_⟩) ?_ ?_
                  rotate_left
                  ·intro w'
                   go_simp
                   with_reducible rfl
                  rotate_left
                  ·simp only [Act.put, List.setIfInBounds_toArray, List.set_cons_zero, List.set_cons_succ, i64_w, i32_w]
                   rfl
                  refine pure_ (i := 18) (N := some 84) (v := ?_) (a' := ?_) #[true, true, true, true, true, true, true, true, true, true, true, true, true, true, true, true, true, true, true, false, false, false, false, false, false, false, false, false, false, false, false, false, false, false, false, false, false] rfl rfl (any_of HT_.out (by kernel_rfl)) (fun _ _ _ h => h) (Or.inl ⟨by rfl, ?_⟩) ?_ ?_
                  rotate_left
                  ·intro w'
                   go_simp
                   with_reducible rfl
                  rotate_left
                  ·simp only [Act.put, List.setIfInBounds_toArray, List.set_cons_zero, List.set_cons_succ, i64_w, i32_w]
                   rfl
                  refine pure_ (i := 19) (N := some 85) (v := ?_) (a' := ?_) #[true, true, true, true, true, true, true, true, true, true, true, true, true, true, true, true, true, true, true, true, false, false, false, false, false, false, false, false, false, false, false, false, false, false, false, false, false] rfl rfl (any_of HT_.out (by kernel_rfl)) (fun _ _ _ h => h) (Or.inl ⟨by rfl, ?_⟩) ?_ ?_
                  rotate_left
                  ·intro w'
                   go_simp
                   with_reducible rfl
                  rotate_left
                  ·simp only [Act.put, List.setIfInBounds_toArray, List.set_cons_zero, List.set_cons_succ, i64_w, i32_w]
                   rfl
                  refine take_ (i := 20) (N := some 86) (v := ?_) (a' := ?_) #[true, true, true, true, true, true, true, true, true, true, true, true, true, true, true, true, true, true, true, true, true, false, false, false, false, false, false, false, false, false, false, false, false, false, false, false, false] rfl rfl (take_ofW HT_.out HW_.out (by kernel_rfl)) (fun _ _ _ h => h) (Or.inl ⟨by rfl, ?_⟩) hHeld ?_ ?_
                  rotate_left
                  ·rintro w' ⟨s0, s1, s2, s3, s4, s5, s6, s7, s8, s9, s10, s11, s12, s13, s14, s15⟩
                   go_simp
                   with_reducible rfl
                  rotate_left
                  ·simp only [Act.put, List.setIfInBounds_toArray, List.set_cons_zero, List.set_cons_succ, i64_w, i32_w]
                   rfl
                  refine one_ (i := 21) (N := some 87) #[true, true, true, true, true, true, true, true, true, true, true, true, true, true, true, true, true, true, true, true, true, true, false, false, false, false, false, false, false, false, false, false, false, false, false, false, false] rfl rfl (one_of HT_.out (by kernel_rfl)) (by decide) (fun K hK => ?_)
                  clear HL266_4 HR266_4 HL266_5 HR266_5 HL266_6 HR266_6 HL266_7 HR266_7
                  have HL266_4 := HL256_4
                  rw [EA266_4.out, EC266_4.out] at HL266_4
                  have HR266_4 := HR256_4
                  rw [EA266_4.out] at HR266_4
                  have HL266_5 := HL256_5
                  rw [EA266_5.out, EC266_5.out] at HL266_5
                  have HR266_5 := HR256_5
                  rw [EA266_5.out] at HR266_5
                  have HL266_6 := HL256_6
                  rw [EA266_6.out, EC266_6.out] at HL266_6
                  have HR266_6 := HR256_6
                  rw [EA266_6.out] at HR266_6
                  have HL266_7 := HL256_7
                  rw [EA266_7.out, EC266_7.out] at HL266_7
                  have HR266_7 := HR256_7
                  rw [EA266_7.out] at HR266_7
                  refine goes_ Try.func16 (by kernel_rfl) rfl #[.slice A256_7 ((rd_T36 t243 a1).f7).length c256_7] (by rfl) rfl rfl (by (try simp only [List.map_toArray, List.map_cons, List.map_nil]); first | done | rfl | (simp only [List.length_drop, List.length_take]; rfl)) ?_
                  with_reducible refine (number_List.calls kj29 (fun k_ => ((True ∧ some k_ ≠ (.slice Ao66 t257.length co66 : Value).ownBlock) ∧ some k_ ≠ (.slice (some ad256) t243.length co64 : Value).ownBlock)) _ _ ((rd_T36 t243 a1).f7) t267 _ ?side1 A47.out).mono ?_
                  (case side1 => exact Kd.V_mk (Kd.V_at HL256_7.out).2.1 (Kd.F_mono (Kd.V_at HL256_7.out).2.2 (fun k_ hk_ => ⟨⟨hk_.1.1, hk_.2⟩, hk_.1.2⟩)))
                  rintro e w69 ⟨v268, rfl, ho0, hb⟩
                  have HS0_ := (hb.cell (World.block_lt_of_cell? _ _ (hHeld.1))).trans (hHeld.1)
                  have HS1_ := (hb.cell (World.block_lt_of_cell? _ _ (hHeld.2.1))).trans (hHeld.2.1)
                  have HS2_ := (hb.cell (World.block_lt_of_cell? _ _ (hHeld.2.2.1))).trans (hHeld.2.2.1)
                  have HS3_ := (hb.cell (World.block_lt_of_cell? _ _ (hHeld.2.2.2.1))).trans (hHeld.2.2.2.1)
                  have HS4_ := (hb.cell (World.block_lt_of_cell? _ _ (hHeld.2.2.2.2.1))).trans (hHeld.2.2.2.2.1)
                  have HS5_ := (hb.cell (World.block_lt_of_cell? _ _ (hHeld.2.2.2.2.2.1))).trans (hHeld.2.2.2.2.2.1)
                  have HS6_ := (hb.cell (World.block_lt_of_cell? _ _ (hHeld.2.2.2.2.2.2.1))).trans (hHeld.2.2.2.2.2.2.1)
                  have HS7_ := (hb.cell (World.block_lt_of_cell? _ _ (hHeld.2.2.2.2.2.2.2.1))).trans (hHeld.2.2.2.2.2.2.2.1)
                  have HS8_ := (hb.cell (World.block_lt_of_cell? _ _ (hHeld.2.2.2.2.2.2.2.2.1))).trans (hHeld.2.2.2.2.2.2.2.2.1)
                  have HS9_ := (hb.cell (World.block_lt_of_cell? _ _ (hHeld.2.2.2.2.2.2.2.2.2.1))).trans (hHeld.2.2.2.2.2.2.2.2.2.1)
                  have HS10_ := (hb.cell (World.block_lt_of_cell? _ _ (hHeld.2.2.2.2.2.2.2.2.2.2.1))).trans (hHeld.2.2.2.2.2.2.2.2.2.2.1)
                  have HS11_ := (hb.cell (World.block_lt_of_cell? _ _ (hHeld.2.2.2.2.2.2.2.2.2.2.2.1))).trans (hHeld.2.2.2.2.2.2.2.2.2.2.2.1)
                  have HS12_ := (hb.cell (World.block_lt_of_cell? _ _ (hHeld.2.2.2.2.2.2.2.2.2.2.2.2.1))).trans (hHeld.2.2.2.2.2.2.2.2.2.2.2.2.1)
                  have HS13_ := (hb.cell (World.block_lt_of_cell? _ _ (hHeld.2.2.2.2.2.2.2.2.2.2.2.2.2.1))).trans (hHeld.2.2.2.2.2.2.2.2.2.2.2.2.2.1)
                  have HS14_ := (hb.cell (World.block_lt_of_cell? _ _ (hHeld.2.2.2.2.2.2.2.2.2.2.2.2.2.2.1))).trans (hHeld.2.2.2.2.2.2.2.2.2.2.2.2.2.2.1)
                  have HS15_ := (hb.cell (World.block_lt_of_cell? _ _ (hHeld.2.2.2.2.2.2.2.2.2.2.2.2.2.2.2))).trans (hHeld.2.2.2.2.2.2.2.2.2.2.2.2.2.2.2)
                  refine ⟨_, rfl, ?_⟩
                  have n0_ := Aside0.mk (Kd.N_elder' (by (with_reducible repeat (first | apply Kd.N_alloc | apply Kd.N_drewN | apply Kd.N_drew)); exact HO_5.out) (Kd.N_base ho0) hb)
                  have n1_ := Aside0.mk (Kd.V_elder' (by (with_reducible repeat (first | apply Kd.V_alloc | apply Kd.V_drewN | apply Kd.V_drew)); exact HO255.out) (Kd.N_base ho0) hb)
                  have n2_ := Aside0.mk (Kd.V_elder' (by (with_reducible repeat (first | apply Kd.V_alloc | apply Kd.V_drewN | apply Kd.V_drew)); exact HL256_4.out) (Kd.N_base ho0) hb)
                  have n3_ := Aside0.mk (Kd.V_elder' (by (with_reducible repeat (first | apply Kd.V_alloc | apply Kd.V_drewN | apply Kd.V_drew)); exact HL256_5.out) (Kd.N_base ho0) hb)
                  have n4_ := Aside0.mk (Kd.V_elder' (by (with_reducible repeat (first | apply Kd.V_alloc | apply Kd.V_drewN | apply Kd.V_drew)); exact HL256_6.out) (Kd.N_base ho0) hb)
                  have n5_ := Aside0.mk (Kd.V_elder' (by (with_reducible repeat (first | apply Kd.V_alloc | apply Kd.V_drewN | apply Kd.V_drew)); exact HL256_7.out) (Kd.N_base ho0) hb)
                  have n6_ := Aside0.mk (Kd.N_elder' (by (with_reducible repeat (first | apply Kd.N_alloc | apply Kd.N_drewN | apply Kd.N_drew)); exact HO259.out) (Kd.N_base ho0) hb)
                  have n7_ := Aside0.mk (Kd.V_elder' (by (with_reducible repeat (first | apply Kd.V_alloc | apply Kd.V_drewN | apply Kd.V_drew)); exact HO265.out) (Kd.N_base ho0) hb)
                  have n8_ := Aside0.mk (Kd.V_elder' (by (with_reducible repeat (first | apply Kd.V_alloc | apply Kd.V_drewN | apply Kd.V_drew)); exact HL266_4.out) (Kd.N_base ho0) hb)
                  have n9_ := Aside0.mk (Kd.V_elder' (by (with_reducible repeat (first | apply Kd.V_alloc | apply Kd.V_drewN | apply Kd.V_drew)); exact HL266_5.out) (Kd.N_base ho0) hb)
                  have n10_ := Aside0.mk (Kd.V_elder' (by (with_reducible repeat (first | apply Kd.V_alloc | apply Kd.V_drewN | apply Kd.V_drew)); exact HL266_6.out) (Kd.N_base ho0) hb)
                  have n11_ := Aside0.mk (Kd.V_elder' (by (with_reducible repeat (first | apply Kd.V_alloc | apply Kd.V_drewN | apply Kd.V_drew)); exact HL266_7.out) (Kd.N_base ho0) hb)
                  have n12_ := Aside0.mk (Kd.N_lower (Kd.N_mono (ok' := fun k_ => some k_ ≠ (.slice (some ad256) t243.length co64 : Value).ownBlock ∧ some k_ ≠ (.slice Ao66 t257.length co66 : Value).ownBlock) ho0 (fun k_ hk_ => ⟨Or.elim hk_ (fun hs_ => hs_.2) (fun hn_ => (Kd.fresh' (Kd.N_lt (by (with_reducible repeat (first | apply Kd.N_alloc | apply Kd.N_drewN | apply Kd.N_drew)); exact HO_5.out)) k_ hn_)), Or.elim hk_ (fun hs_ => hs_.1.2) (fun hn_ => (Kd.fresh' (Kd.N_lt (by (with_reducible repeat (first | apply Kd.N_alloc | apply Kd.N_drewN | apply Kd.N_drew)); exact HO259.out)) k_ hn_))⟩)) (below_size (by repeat (first | (with_reducible first | exact HB.out | apply below_alloc | apply pw_below_drewN | apply below_drew1) | exact HB.out))))
                  have n13_ := Aside0.mk (Kd.C_below (by repeat (first | (with_reducible exact HR256_4.out) | (with_reducible refine Kd.C_alloc ?_ _) | (with_reducible refine Kd.C_drewN ?_ _) | (with_reducible refine Kd.C_drew ?_) | exact HR256_4.out)) hb)
                  have n14_ := Aside0.mk (Kd.C_below (by repeat (first | (with_reducible exact HR256_5.out) | (with_reducible refine Kd.C_alloc ?_ _) | (with_reducible refine Kd.C_drewN ?_ _) | (with_reducible refine Kd.C_drew ?_) | exact HR256_5.out)) hb)
                  have n15_ := Aside0.mk (Kd.C_below (by repeat (first | (with_reducible exact HR256_6.out) | (with_reducible refine Kd.C_alloc ?_ _) | (with_reducible refine Kd.C_drewN ?_ _) | (with_reducible refine Kd.C_drew ?_) | exact HR256_6.out)) hb)
                  have n16_ := Aside0.mk (Kd.C_below (by repeat (first | (with_reducible exact HR256_7.out) | (with_reducible refine Kd.C_alloc ?_ _) | (with_reducible refine Kd.C_drewN ?_ _) | (with_reducible refine Kd.C_drew ?_) | exact HR256_7.out)) hb)
                  have n17_ := Aside0.mk (Kd.C_below (by repeat (first | (with_reducible exact HR266_4.out) | (with_reducible refine Kd.C_alloc ?_ _) | (with_reducible refine Kd.C_drewN ?_ _) | (with_reducible refine Kd.C_drew ?_) | exact HR266_4.out)) hb)
                  have n18_ := Aside0.mk (Kd.C_below (by repeat (first | (with_reducible exact HR266_5.out) | (with_reducible refine Kd.C_alloc ?_ _) | (with_reducible refine Kd.C_drewN ?_ _) | (with_reducible refine Kd.C_drew ?_) | exact HR266_5.out)) hb)
                  have n19_ := Aside0.mk (Kd.C_below (by repeat (first | (with_reducible exact HR266_6.out) | (with_reducible refine Kd.C_alloc ?_ _) | (with_reducible refine Kd.C_drewN ?_ _) | (with_reducible refine Kd.C_drew ?_) | exact HR266_6.out)) hb)
                  have n20_ := Aside0.mk (Kd.C_below (by repeat (first | (with_reducible exact HR266_7.out) | (with_reducible refine Kd.C_alloc ?_ _) | (with_reducible refine Kd.C_drewN ?_ _) | (with_reducible refine Kd.C_drew ?_) | exact HR266_7.out)) hb)
                  have n21_ := Aside0.mk (below_step (by repeat (first | (with_reducible first | exact HB.out | apply below_alloc | apply pw_below_drewN | apply below_drew1) | exact HB.out)) hb)
                  clear HO_5
                  clear HO255
                  clear HL256_4
                  clear HL256_5
                  clear HL256_6
                  clear HL256_7
                  clear HO259
                  clear HO265
                  clear HL266_4
                  clear HL266_5
                  clear HL266_6
                  clear HL266_7
                  clear HR256_4
                  clear HR256_5
                  clear HR256_6
                  clear HR256_7
                  clear HR266_4
                  clear HR266_5
                  clear HR266_6
                  clear HR266_7
                  clear HB
                  have HO_5 := n0_
                  have HO255 := n1_
                  have HL256_4 := n2_
                  have HL256_5 := n3_
                  have HL256_6 := n4_
                  have HL256_7 := n5_
                  have HO259 := n6_
                  have HO265 := n7_
                  have HL266_4 := n8_
                  have HL266_5 := n9_
                  have HL266_6 := n10_
                  have HL266_7 := n11_
                  have HO269 := n12_
                  have HR256_4 := n13_
                  have HR256_5 := n14_
                  have HR256_6 := n15_
                  have HR256_7 := n16_
                  have HR266_4 := n17_
                  have HR266_5 := n18_
                  have HR266_6 := n19_
                  have HR266_7 := n20_
                  have HB := n21_
                  clear n0_ n1_ n2_ n3_ n4_ n5_ n6_ n7_ n8_ n9_ n10_ n11_ n12_ n13_ n14_ n15_ n16_ n17_ n18_ n19_ n20_ n21_
                  (try clear hb)
                  (try clear hb2)
                  (try clear hk)
                  (try clear hi)
                  (try clear ho0)
                  obtain ⟨Ao70, co70, eo70⟩ := Kd.N_slice HO269.out
                  (first | subst eo70 | (injection eo70 with f1_ f2_ f3_; have f4_ := f1_.symm; have f5_ := f3_.symm; clear f1_ f2_ f3_; subst f4_; subst f5_))
                  refine hK.out _ _ ⟨HS0_, HS1_, HS2_, HS3_, HS4_, HS5_, HS6_, HS7_, HS8_, HS9_, HS10_, HS11_, HS12_, HS13_, HS14_, HS15_⟩ (fun hHeld => ?_)
                  clear hK K
                  refine norm_ (a' := ?_) ?_ ?_
                  rotate_left
                  ·show Act.put _ (some 87) _ = _
                   simp only [Act.put, List.setIfInBounds_toArray, List.set_cons_zero, List.set_cons_succ, i64_w, i32_w]
                   rfl
                  refine one_ (i := 22) (N := some 88) #[true, true, true, true, true, true, true, true, true, true, true, true, true, true, true, true, true, true, true, true, true, true, true, false, false, false, false, false, false, false, false, false, false, false, false, false, false] rfl rfl (one_of HT_.out (by kernel_rfl)) (by decide) (fun K hK => ?_)
                  refine goes_ Try.func15 (by kernel_rfl) rfl #[.slice A68 y261.length c68, .slice Ao70 t267.length co70] (by rfl) rfl rfl (by (try simp only [List.map_toArray, List.map_cons, List.map_nil]); first | done | rfl | (simp only [List.length_drop, List.length_take]; rfl)) ?_
                  with_reducible refine (proteanref02_Stmts.calls _ _ y261 _ _ t267 false _ ?side1 ?side2 ?side3 ?side4 A48.out).mono ?_
                  (case side1 => repeat (first | exact (Kd.V_reads' HO265.out).2.2 | (with_reducible refine Kd.C_alloc ?_ _) | (with_reducible refine Kd.C_drewN ?_ _) | (with_reducible refine Kd.C_drew ?_)))
                  (case side2 => exact (Kd.V_reads' HO265.out).2.1)
                  (case side3 => repeat (first | exact (Kd.N_reads' HO269.out).2.2 | (with_reducible refine Kd.C_alloc ?_ _) | (with_reducible refine Kd.C_drewN ?_ _) | (with_reducible refine Kd.C_drew ?_)))
                  (case side4 => exact (Kd.N_reads' HO269.out).2.1)
                  rintro e w71 ⟨rfl, hb⟩
                  have HS0_ := (hb.cell (World.block_lt_of_cell? _ _ (hHeld.1))).trans (hHeld.1)
                  have HS1_ := (hb.cell (World.block_lt_of_cell? _ _ (hHeld.2.1))).trans (hHeld.2.1)
                  have HS2_ := (hb.cell (World.block_lt_of_cell? _ _ (hHeld.2.2.1))).trans (hHeld.2.2.1)
                  have HS3_ := (hb.cell (World.block_lt_of_cell? _ _ (hHeld.2.2.2.1))).trans (hHeld.2.2.2.1)
                  have HS4_ := (hb.cell (World.block_lt_of_cell? _ _ (hHeld.2.2.2.2.1))).trans (hHeld.2.2.2.2.1)
                  have HS5_ := (hb.cell (World.block_lt_of_cell? _ _ (hHeld.2.2.2.2.2.1))).trans (hHeld.2.2.2.2.2.1)
                  have HS6_ := (hb.cell (World.block_lt_of_cell? _ _ (hHeld.2.2.2.2.2.2.1))).trans (hHeld.2.2.2.2.2.2.1)
                  have HS7_ := (hb.cell (World.block_lt_of_cell? _ _ (hHeld.2.2.2.2.2.2.2.1))).trans (hHeld.2.2.2.2.2.2.2.1)
                  have HS8_ := (hb.cell (World.block_lt_of_cell? _ _ (hHeld.2.2.2.2.2.2.2.2.1))).trans (hHeld.2.2.2.2.2.2.2.2.1)
                  have HS9_ := (hb.cell (World.block_lt_of_cell? _ _ (hHeld.2.2.2.2.2.2.2.2.2.1))).trans (hHeld.2.2.2.2.2.2.2.2.2.1)
                  have HS10_ := (hb.cell (World.block_lt_of_cell? _ _ (hHeld.2.2.2.2.2.2.2.2.2.2.1))).trans (hHeld.2.2.2.2.2.2.2.2.2.2.1)
                  have HS11_ := (hb.cell (World.block_lt_of_cell? _ _ (hHeld.2.2.2.2.2.2.2.2.2.2.2.1))).trans (hHeld.2.2.2.2.2.2.2.2.2.2.2.1)
                  have HS12_ := (hb.cell (World.block_lt_of_cell? _ _ (hHeld.2.2.2.2.2.2.2.2.2.2.2.2.1))).trans (hHeld.2.2.2.2.2.2.2.2.2.2.2.2.1)
                  have HS13_ := (hb.cell (World.block_lt_of_cell? _ _ (hHeld.2.2.2.2.2.2.2.2.2.2.2.2.2.1))).trans (hHeld.2.2.2.2.2.2.2.2.2.2.2.2.2.1)
                  have HS14_ := (hb.cell (World.block_lt_of_cell? _ _ (hHeld.2.2.2.2.2.2.2.2.2.2.2.2.2.2.1))).trans (hHeld.2.2.2.2.2.2.2.2.2.2.2.2.2.2.1)
                  have HS15_ := (hb.cell (World.block_lt_of_cell? _ _ (hHeld.2.2.2.2.2.2.2.2.2.2.2.2.2.2.2))).trans (hHeld.2.2.2.2.2.2.2.2.2.2.2.2.2.2.2)
                  refine ⟨_, rfl, ?_⟩
                  have n0_ := Aside0.mk (Kd.N_below (by (with_reducible repeat (first | apply Kd.N_alloc | apply Kd.N_drewN | apply Kd.N_drew)); exact HO_5.out) hb)
                  have n1_ := Aside0.mk (Kd.V_below (by (with_reducible repeat (first | apply Kd.V_alloc | apply Kd.V_drewN | apply Kd.V_drew)); exact HO255.out) hb)
                  have n2_ := Aside0.mk (Kd.V_below (by (with_reducible repeat (first | apply Kd.V_alloc | apply Kd.V_drewN | apply Kd.V_drew)); exact HL256_4.out) hb)
                  have n3_ := Aside0.mk (Kd.V_below (by (with_reducible repeat (first | apply Kd.V_alloc | apply Kd.V_drewN | apply Kd.V_drew)); exact HL256_5.out) hb)
                  have n4_ := Aside0.mk (Kd.V_below (by (with_reducible repeat (first | apply Kd.V_alloc | apply Kd.V_drewN | apply Kd.V_drew)); exact HL256_6.out) hb)
                  have n5_ := Aside0.mk (Kd.V_below (by (with_reducible repeat (first | apply Kd.V_alloc | apply Kd.V_drewN | apply Kd.V_drew)); exact HL256_7.out) hb)
                  have n6_ := Aside0.mk (Kd.N_below (by (with_reducible repeat (first | apply Kd.N_alloc | apply Kd.N_drewN | apply Kd.N_drew)); exact HO259.out) hb)
                  have n7_ := Aside0.mk (Kd.V_below (by (with_reducible repeat (first | apply Kd.V_alloc | apply Kd.V_drewN | apply Kd.V_drew)); exact HO265.out) hb)
                  have n8_ := Aside0.mk (Kd.V_below (by (with_reducible repeat (first | apply Kd.V_alloc | apply Kd.V_drewN | apply Kd.V_drew)); exact HL266_4.out) hb)
                  have n9_ := Aside0.mk (Kd.V_below (by (with_reducible repeat (first | apply Kd.V_alloc | apply Kd.V_drewN | apply Kd.V_drew)); exact HL266_5.out) hb)
                  have n10_ := Aside0.mk (Kd.V_below (by (with_reducible repeat (first | apply Kd.V_alloc | apply Kd.V_drewN | apply Kd.V_drew)); exact HL266_6.out) hb)
                  have n11_ := Aside0.mk (Kd.V_below (by (with_reducible repeat (first | apply Kd.V_alloc | apply Kd.V_drewN | apply Kd.V_drew)); exact HL266_7.out) hb)
                  have n12_ := Aside0.mk (Kd.N_below (by (with_reducible repeat (first | apply Kd.N_alloc | apply Kd.N_drewN | apply Kd.N_drew)); exact HO269.out) hb)
                  have n13_ := Aside0.mk (Kd.C_below (by repeat (first | (with_reducible exact HR256_4.out) | (with_reducible refine Kd.C_alloc ?_ _) | (with_reducible refine Kd.C_drewN ?_ _) | (with_reducible refine Kd.C_drew ?_) | exact HR256_4.out)) hb)
                  have n14_ := Aside0.mk (Kd.C_below (by repeat (first | (with_reducible exact HR256_5.out) | (with_reducible refine Kd.C_alloc ?_ _) | (with_reducible refine Kd.C_drewN ?_ _) | (with_reducible refine Kd.C_drew ?_) | exact HR256_5.out)) hb)
                  have n15_ := Aside0.mk (Kd.C_below (by repeat (first | (with_reducible exact HR256_6.out) | (with_reducible refine Kd.C_alloc ?_ _) | (with_reducible refine Kd.C_drewN ?_ _) | (with_reducible refine Kd.C_drew ?_) | exact HR256_6.out)) hb)
                  have n16_ := Aside0.mk (Kd.C_below (by repeat (first | (with_reducible exact HR256_7.out) | (with_reducible refine Kd.C_alloc ?_ _) | (with_reducible refine Kd.C_drewN ?_ _) | (with_reducible refine Kd.C_drew ?_) | exact HR256_7.out)) hb)
                  have n17_ := Aside0.mk (Kd.C_below (by repeat (first | (with_reducible exact HR266_4.out) | (with_reducible refine Kd.C_alloc ?_ _) | (with_reducible refine Kd.C_drewN ?_ _) | (with_reducible refine Kd.C_drew ?_) | exact HR266_4.out)) hb)
                  have n18_ := Aside0.mk (Kd.C_below (by repeat (first | (with_reducible exact HR266_5.out) | (with_reducible refine Kd.C_alloc ?_ _) | (with_reducible refine Kd.C_drewN ?_ _) | (with_reducible refine Kd.C_drew ?_) | exact HR266_5.out)) hb)
                  have n19_ := Aside0.mk (Kd.C_below (by repeat (first | (with_reducible exact HR266_6.out) | (with_reducible refine Kd.C_alloc ?_ _) | (with_reducible refine Kd.C_drewN ?_ _) | (with_reducible refine Kd.C_drew ?_) | exact HR266_6.out)) hb)
                  have n20_ := Aside0.mk (Kd.C_below (by repeat (first | (with_reducible exact HR266_7.out) | (with_reducible refine Kd.C_alloc ?_ _) | (with_reducible refine Kd.C_drewN ?_ _) | (with_reducible refine Kd.C_drew ?_) | exact HR266_7.out)) hb)
                  have n21_ := Aside0.mk (below_step (by repeat (first | (with_reducible first | exact HB.out | apply below_alloc | apply pw_below_drewN | apply below_drew1) | exact HB.out)) hb)
                  clear HO_5
                  clear HO255
                  clear HL256_4
                  clear HL256_5
                  clear HL256_6
                  clear HL256_7
                  clear HO259
                  clear HO265
                  clear HL266_4
                  clear HL266_5
                  clear HL266_6
                  clear HL266_7
                  clear HO269
                  clear HR256_4
                  clear HR256_5
                  clear HR256_6
                  clear HR256_7
                  clear HR266_4
                  clear HR266_5
                  clear HR266_6
                  clear HR266_7
                  clear HB
                  have HO_5 := n0_
                  have HO255 := n1_
                  have HL256_4 := n2_
                  have HL256_5 := n3_
                  have HL256_6 := n4_
                  have HL256_7 := n5_
                  have HO259 := n6_
                  have HO265 := n7_
                  have HL266_4 := n8_
                  have HL266_5 := n9_
                  have HL266_6 := n10_
                  have HL266_7 := n11_
                  have HO269 := n12_
                  have HR256_4 := n13_
                  have HR256_5 := n14_
                  have HR256_6 := n15_
                  have HR256_7 := n16_
                  have HR266_4 := n17_
                  have HR266_5 := n18_
                  have HR266_6 := n19_
                  have HR266_7 := n20_
                  have HB := n21_
                  clear n0_ n1_ n2_ n3_ n4_ n5_ n6_ n7_ n8_ n9_ n10_ n11_ n12_ n13_ n14_ n15_ n16_ n17_ n18_ n19_ n20_ n21_
                  (try clear hb)
                  (try clear hb2)
                  (try clear hk)
                  (try clear hi)
                  refine hK.out _ _ ⟨HS0_, HS1_, HS2_, HS3_, HS4_, HS5_, HS6_, HS7_, HS8_, HS9_, HS10_, HS11_, HS12_, HS13_, HS14_, HS15_⟩ (fun hHeld => ?_)
                  clear hK K
                  refine norm_ (a' := ?_) ?_ ?_
                  rotate_left
                  ·show Act.put _ (some 88) _ = _
                   simp only [Act.put, List.setIfInBounds_toArray, List.set_cons_zero, List.set_cons_succ, i64_w, i32_w]
                   rfl
                  refine pure_ (i := 23) (N := some 89) (v := ?_) (a' := ?_) #[true, true, true, true, true, true, true, true, true, true, true, true, true, true, true, true, true, true, true, true, true, true, true, true, false, false, false, false, false, false, false, false, false, false, false, false, false] rfl rfl (any_of HT_.out (by kernel_rfl)) (fun _ _ _ h => h) (Or.inl ⟨by rfl, ?_⟩) ?_ ?_
                  rotate_left
                  ·intro w'
                   go_simp
                   with_reducible rfl
                  rotate_left
                  ·simp only [Act.put, List.setIfInBounds_toArray, List.set_cons_zero, List.set_cons_succ, i64_w, i32_w]
                   rfl
                  refine pure_ (i := 24) (N := some 90) (v := ?_) (a' := ?_) #[true, true, true, true, true, true, true, true, true, true, true, true, true, true, true, true, true, true, true, true, true, true, true, true, true, false, false, false, false, false, false, false, false, false, false, false, false] rfl rfl (any_of HT_.out (by kernel_rfl)) (fun _ _ _ h => h) (Or.inl ⟨by rfl, ?_⟩) ?_ ?_
                  rotate_left
                  ·intro w'
                   go_simp
                   with_reducible rfl
                  rotate_left
                  ·simp only [Act.put, List.setIfInBounds_toArray, List.set_cons_zero, List.set_cons_succ, i64_w, i32_w]
                   rfl
                  refine pure_ (i := 25) (N := some 91) (v := undef) (a' := ?_) #[true, true, true, true, true, true, true, true, true, true, true, true, true, true, true, true, true, true, true, true, true, true, true, true, true, true, false, false, false, false, false, false, false, false, false, false, false] rfl rfl (any_of HT_.out (by kernel_rfl)) (fun _ _ _ h => h) (Or.inr ⟨by rfl, rfl⟩) ?_ ?_
                  rotate_left
                  ·simp only [Act.put, List.setIfInBounds_toArray, List.set_cons_zero, List.set_cons_succ, i64_w, i32_w]
                   rfl
                  refine pure_ (i := 26) (N := some 92) (v := undef) (a' := ?_) #[true, true, true, true, true, true, true, true, true, true, true, true, true, true, true, true, true, true, true, true, true, true, true, true, true, true, true, false, false, false, false, false, false, false, false, false, false] rfl rfl (any_of HT_.out (by kernel_rfl)) (fun _ _ _ h => h) (Or.inr ⟨by rfl, rfl⟩) ?_ ?_
                  rotate_left
                  ·simp only [Act.put, List.setIfInBounds_toArray, List.set_cons_zero, List.set_cons_succ, i64_w, i32_w]
                   rfl
                  refine pure_ (i := 27) (N := some 93) (v := undef) (a' := ?_) #[true, true, true, true, true, true, true, true, true, true, true, true, true, true, true, true, true, true, true, true, true, true, true, true, true, true, true, true, false, false, false, false, false, false, false, false, false] rfl rfl (any_of HT_.out (by kernel_rfl)) (fun _ _ _ h => h) (Or.inr ⟨by rfl, rfl⟩) ?_ ?_
                  rotate_left
                  ·simp only [Act.put, List.setIfInBounds_toArray, List.set_cons_zero, List.set_cons_succ, i64_w, i32_w]
                   rfl
                  refine pure_ (i := 28) (N := some 94) (v := undef) (a' := ?_) #[true, true, true, true, true, true, true, true, true, true, true, true, true, true, true, true, true, true, true, true, true, true, true, true, true, true, true, true, true, false, false, false, false, false, false, false, false] rfl rfl (any_of HT_.out (by kernel_rfl)) (fun _ _ _ h => h) (Or.inr ⟨by rfl, rfl⟩) ?_ ?_
                  rotate_left
                  ·simp only [Act.put, List.setIfInBounds_toArray, List.set_cons_zero, List.set_cons_succ, i64_w, i32_w]
                   rfl
                  refine pure_ (i := 29) (N := some 95) (v := undef) (a' := ?_) #[true, true, true, true, true, true, true, true, true, true, true, true, true, true, true, true, true, true, true, true, true, true, true, true, true, true, true, true, true, true, false, false, false, false, false, false, false] rfl rfl (any_of HT_.out (by kernel_rfl)) (fun _ _ _ h => h) (Or.inr ⟨by rfl, rfl⟩) ?_ ?_
                  rotate_left
                  ·simp only [Act.put, List.setIfInBounds_toArray, List.set_cons_zero, List.set_cons_succ, i64_w, i32_w]
                   rfl
                  refine pure_ (i := 30) (N := some 96) (v := undef) (a' := ?_) #[true, true, true, true, true, true, true, true, true, true, true, true, true, true, true, true, true, true, true, true, true, true, true, true, true, true, true, true, true, true, true, false, false, false, false, false, false] rfl rfl (any_of HT_.out (by kernel_rfl)) (fun _ _ _ h => h) (Or.inr ⟨by rfl, rfl⟩) ?_ ?_
                  rotate_left
                  ·simp only [Act.put, List.setIfInBounds_toArray, List.set_cons_zero, List.set_cons_succ, i64_w, i32_w]
                   rfl
                  refine pure_ (i := 31) (N := some 97) (v := undef) (a' := ?_) #[true, true, true, true, true, true, true, true, true, true, true, true, true, true, true, true, true, true, true, true, true, true, true, true, true, true, true, true, true, true, true, true, false, false, false, false, false] rfl rfl (any_of HT_.out (by kernel_rfl)) (fun _ _ _ h => h) (Or.inr ⟨by rfl, rfl⟩) ?_ ?_
                  rotate_left
                  ·simp only [Act.put, List.setIfInBounds_toArray, List.set_cons_zero, List.set_cons_succ, i64_w, i32_w]
                   rfl
                  refine pure_ (i := 32) (N := some 98) (v := undef) (a' := ?_) #[true, true, true, true, true, true, true, true, true, true, true, true, true, true, true, true, true, true, true, true, true, true, true, true, true, true, true, true, true, true, true, true, true, false, false, false, false] rfl rfl (any_of HT_.out (by kernel_rfl)) (fun _ _ _ h => h) (Or.inr ⟨by rfl, rfl⟩) ?_ ?_
                  rotate_left
                  ·simp only [Act.put, List.setIfInBounds_toArray, List.set_cons_zero, List.set_cons_succ, i64_w, i32_w]
                   rfl
                  refine pure_ (i := 33) (N := some 99) (v := undef) (a' := ?_) #[true, true, true, true, true, true, true, true, true, true, true, true, true, true, true, true, true, true, true, true, true, true, true, true, true, true, true, true, true, true, true, true, true, true, false, false, false] rfl rfl (any_of HT_.out (by kernel_rfl)) (fun _ _ _ h => h) (Or.inr ⟨by rfl, rfl⟩) ?_ ?_
                  rotate_left
                  ·simp only [Act.put, List.setIfInBounds_toArray, List.set_cons_zero, List.set_cons_succ, i64_w, i32_w]
                   rfl
                  refine pure_ (i := 34) (N := some 100) (v := undef) (a' := ?_) #[true, true, true, true, true, true, true, true, true, true, true, true, true, true, true, true, true, true, true, true, true, true, true, true, true, true, true, true, true, true, true, true, true, true, true, false, false] rfl rfl (any_of HT_.out (by kernel_rfl)) (fun _ _ _ h => h) (Or.inr ⟨by rfl, rfl⟩) ?_ ?_
                  rotate_left
                  ·simp only [Act.put, List.setIfInBounds_toArray, List.set_cons_zero, List.set_cons_succ, i64_w, i32_w]
                   rfl
                  refine pure_ (i := 35) (N := some 101) (v := ?_) (a' := ?_) #[true, true, true, true, true, true, true, true, true, true, true, true, true, true, true, true, true, true, true, true, true, true, true, true, true, true, true, true, true, true, true, true, true, true, true, true, false] rfl rfl (any_of HT_.out (by kernel_rfl)) (fun _ _ _ h => h) (Or.inl ⟨by rfl, ?_⟩) ?_ ?_
                  rotate_left
                  ·intro w'
                   go_simp
                   with_reducible rfl
                  rotate_left
                  ·simp only [Act.put, List.setIfInBounds_toArray, List.set_cons_zero, List.set_cons_succ, i64_w, i32_w]
                   rfl
                  refine pure_ (i := 36) (N := some 4) (v := ?_) (a' := ?_) #[true, true, true, true, true, true, true, true, true, true, true, true, true, true, true, true, true, true, true, true, true, true, true, true, true, true, true, true, true, true, true, true, true, true, true, true, true] rfl rfl (any_of HT_.out (by kernel_rfl)) (fun _ _ _ h => h) (Or.inl ⟨by rfl, ?_⟩) ?_ ?_
                  rotate_left
                  ·intro w'
                   go_simp
                   with_reducible rfl
                  rotate_left
                  ·simp only [Act.put, List.setIfInBounds_toArray, List.set_cons_zero, List.set_cons_succ, i64_w, i32_w]
                   rfl
                  refine done_ (done_of HT_.out (by kernel_rfl)) ?_
                  try go_wp2
                  go_ret
                  exact ⟨by first | rfl | (simp [errW_none, errW_some] <;> rfl) | (simp [*, errW_none, errW_some] <;> rfl), by repeat (first | (with_reducible first | exact HB.out | apply below_alloc | apply pw_below_drewN | apply below_drew1) | exact HB.out)⟩
                ·rw [if_neg c46] at H
                 exact absurd H (by simp)
               ·rw [if_neg c45] at H
                exact absurd H (by simp)
              ·rw [if_neg c44] at H
               exact absurd H (by simp)
             ·replace c43 := Bool.eq_false_iff.mpr c43
              subst c43
              have H1 : (some false) = some r := by rw [if_neg (show ¬ (false = true) by decide)] at H; exact H
              clear H
              have H := H1
              clear H1
              obtain rfl := Option.some.inj H
              try go_wp2
              have n0_ := Aside0.mk (Kd.N_drew HO_5.out)
              have n1_ := Aside0.mk (below_drew1 HB.out)
              clear HO_5
              clear HB
              have HO_5 := n0_
              have HB := n1_
              clear n0_ n1_
              obtain ⟨Ao74, co74, eo74⟩ := Kd.N_slice HO_5.out
              (first | subst eo74 | (injection eo74 with f1_ f2_ f3_; have f4_ := f1_.symm; have f5_ := f3_.symm; clear f1_ f2_ f3_; subst f4_; subst f5_))
              have q73 : (t247 : Int) ≤ ((t243.length : Int) : Int) := of_decide_eq_true (by first | (with_reducible assumption) | assumption)
              obtain ⟨i073, hi073, _, hsz73, _⟩ := info_parts info36
              have hroom73 : t243.length ≤ co74 := (Kd.N_reads' HO_5.out).2.1
              have hC73 : Kd.F k36 _ _ Ao74 t243.length t243 := (Kd.V_at (base := w.heap.size) (Kd.N_V HO_5.out)).2.2
              have ql73 : (t246 : Int) ≤ (t247 : Int) := of_decide_eq_true (by first | (with_reducible assumption) | assumption)
              have q073 : (0 : Int) ≤ (t246 : Int) := of_decide_eq_true (by first | (with_reducible assumption) | assumption)
              have hcut73 := cut_mid (P := Try.prog) 22 36 .i64 .i64 Try.underlying22 hi073 8 hsz73 Ao74 t243.length co74 t246 t247 q073 ql73 q73 hroom73
              have hr73 := Kd.F_mid (lo := (t246 : Int).toNat) (hi := (t247 : Int).toNat) (c := co74) hC73 (by omega) (by omega) hroom73
              obtain ⟨A73, hA73⟩ : ∃ A1, A1 = (if co74 = (t246 : Int).toNat then Ao74 else (Ao74 : Option Addr).map (·.add ((t246 : Int).toNat * 8))) := ⟨_, rfl⟩
              obtain ⟨c73, hc73⟩ : ∃ c1, c1 = co74 - (t246 : Int).toNat := ⟨_, rfl⟩
              have hy73 : y251.length = (t247 : Int).toNat - (t246 : Int).toNat := (by rw [Ny251.out, List.length_drop, List.length_take] <;> omega)
              rw [show ((t243).take (t247 : Int).toNat).drop (t246 : Int).toNat = y251 from Ny251.out.symm] at hr73
              replace hr73 : Kd.F k36 _ _ A73 y251.length y251 := (by rw [hA73]; exact hr73)
              rw [← hy73, ← hA73, ← hc73] at hcut73
              have HO255 := Aside0.mk (show Kd.V k36 36 _ w.heap.size _ (.slice A73 y251.length c73) y251 from Kd.V_mk (by rw [hy73, hc73]; exact Nat.sub_le_sub_right (Nat.le_trans (by omega) hroom73) _) hr73)
              have HC255 := Aside0.mk (show y251.length ≤ c73 from by rw [hy73, hc73]; exact Nat.sub_le_sub_right (Nat.le_trans (by omega) hroom73) _)
              clear hr73 hC73 hroom73 hi073 hsz73 hc73
              have KY73 := Aside0.mk hy73
              have KA73 := Aside0.mk hA73
              clear hy73 hA73
              replace q73 := eq_true q73
              have p256 : 0 ≤ (a1 : Int) := of_decide_eq_true (by first | (with_reducible assumption) | assumption)
              have q256 : a1 < (t243.length : Int) := of_decide_eq_true (by first | (with_reducible assumption) | assumption)
              obtain ⟨ad256, A256_4, c256_4, A256_5, c256_5, A256_6, c256_6, A256_7, c256_7, e256, hx256_0, hx256_1, hx256_2, hx256_3, hx256_4, hx256_5, hx256_6, hx256_7, hl256_4, hi256_4, hl256_5, hi256_5, hl256_6, hi256_6, hl256_7, hi256_7⟩ := at_T36 (Kd.N_reads' HO_5.out).2.2 a1 p256 q256
              cases e256
              obtain ⟨ce256, hce256, hMe256, hcc256⟩ := Kd.N_get HO_5.out z36 a1 p256 (by first | exact q256 | exact of_decide_eq_true (by first | (with_reducible assumption) | assumption) | (have e_ := (Kd.N_reads' HO_5.out).1; omega))
              obtain ⟨ua256_4, uc256_4, ua256_5, uc256_5, ua256_6, uc256_6, ua256_7, uc256_7, rfl, ul256_4, ge256_4, ul256_5, ge256_5, ul256_6, ge256_6, ul256_7, ge256_7⟩ := k36_openF hMe256
              have hv256_4 := hcc256 4 _ rfl
              rw [add_field _ _ 4 (by omega)] at hv256_4
              replace hv256_4 := Option.some.inj (hv256_4.symm.trans hx256_4)
              injection hv256_4 with hva_ hvn_ hvc_
              rw [hva_] at ge256_4
              rw [hvc_] at ul256_4
              have HL256_4 := Aside0.mk (show Kd.V k49 49 _ w.heap.size _ _ ((rd_T36 t243 a1).f4) from Kd.V_mk ul256_4 ge256_4)
              clear hva_ hvn_ hvc_ ge256_4 ul256_4
              have hv256_5 := hcc256 5 _ rfl
              rw [add_field _ _ 5 (by omega)] at hv256_5
              replace hv256_5 := Option.some.inj (hv256_5.symm.trans hx256_5)
              injection hv256_5 with hva_ hvn_ hvc_
              rw [hva_] at ge256_5
              rw [hvc_] at ul256_5
              have HL256_5 := Aside0.mk (show Kd.V Kd.string 9 _ w.heap.size _ _ ((rd_T36 t243 a1).f5) from Kd.V_mk ul256_5 ge256_5)
              clear hva_ hvn_ hvc_ ge256_5 ul256_5
              have hv256_6 := hcc256 6 _ rfl
              rw [add_field _ _ 6 (by omega)] at hv256_6
              replace hv256_6 := Option.some.inj (hv256_6.symm.trans hx256_6)
              injection hv256_6 with hva_ hvn_ hvc_
              rw [hva_] at ge256_6
              rw [hvc_] at ul256_6
              have HL256_6 := Aside0.mk (show Kd.V k36 36 _ w.heap.size _ _ ((rd_T36 t243 a1).f6) from Kd.V_mk ul256_6 ge256_6)
              clear hva_ hvn_ hvc_ ge256_6 ul256_6
              have hv256_7 := hcc256 7 _ rfl
              rw [add_field _ _ 7 (by omega)] at hv256_7
              replace hv256_7 := Option.some.inj (hv256_7.symm.trans hx256_7)
              injection hv256_7 with hva_ hvn_ hvc_
              rw [hva_] at ge256_7
              rw [hvc_] at ul256_7
              have HL256_7 := Aside0.mk (show Kd.V k36 36 _ w.heap.size _ _ ((rd_T36 t243 a1).f7) from Kd.V_mk ul256_7 ge256_7)
              clear hva_ hvn_ hvc_ ge256_7 ul256_7
              clear hcc256 hce256
              have HR256_4 := Aside0.mk hi256_4
              have HC256_4 := Aside0.mk hl256_4
              clear hi256_4 hl256_4
              have HR256_5 := Aside0.mk hi256_5
              have HC256_5 := Aside0.mk hl256_5
              clear hi256_5 hl256_5
              have HR256_6 := Aside0.mk hi256_6
              have HC256_6 := Aside0.mk hl256_6
              clear hi256_6 hl256_6
              have HR256_7 := Aside0.mk hi256_7
              have HC256_7 := Aside0.mk hl256_7
              clear hi256_7 hl256_7
              replace p256 := eq_true p256
              replace q256 := eq_true q256
              refine start_ (n := 37) (S := fun w' => w'.cell? (ad256.add ((a1).toNat * 8)) = some (.int .i64 ((rd_T36 t243 a1).f0)) ∧ w'.cell? ⟨(ad256.add ((a1).toNat * 8)).block, (ad256.add ((a1).toNat * 8)).off + 1, none⟩ = some (.string ((rd_T36 t243 a1).f1)) ∧ w'.cell? ⟨(ad256.add ((a1).toNat * 8)).block, (ad256.add ((a1).toNat * 8)).off + 2, none⟩ = some (.string ((rd_T36 t243 a1).f2)) ∧ w'.cell? ⟨(ad256.add ((a1).toNat * 8)).block, (ad256.add ((a1).toNat * 8)).off + 3, none⟩ = some (.string ((rd_T36 t243 a1).f3)) ∧ w'.cell? ⟨(ad256.add ((a1).toNat * 8)).block, (ad256.add ((a1).toNat * 8)).off + 4, none⟩ = some (.slice A256_4 ((rd_T36 t243 a1).f4).length c256_4) ∧ w'.cell? ⟨(ad256.add ((a1).toNat * 8)).block, (ad256.add ((a1).toNat * 8)).off + 5, none⟩ = some (.slice A256_5 ((rd_T36 t243 a1).f5).length c256_5) ∧ w'.cell? ⟨(ad256.add ((a1).toNat * 8)).block, (ad256.add ((a1).toNat * 8)).off + 6, none⟩ = some (.slice A256_6 ((rd_T36 t243 a1).f6).length c256_6) ∧ w'.cell? ⟨(ad256.add ((a1).toNat * 8)).block, (ad256.add ((a1).toNat * 8)).off + 7, none⟩ = some (.slice A256_7 ((rd_T36 t243 a1).f7).length c256_7)) (ds := []) #[false, false, false, false, false, false, false, false, false, false, false, false, false, false, false, false, false, false, false, false, false, false, false, false, false, false, false, false, false, false, false, false, false, false, false, false, false] (by kernel_rfl) rfl rfl ⟨hx256_0, hx256_1, hx256_2, hx256_3, hx256_4, hx256_5, hx256_6, hx256_7⟩ (fun hHeld => ?_); refine with_tabW proteanlaw04_NumberBlocks.tab9 proteanlaw04_NumberBlocks.bits9 (fun HT_ HW_ => ?_)
              generalize wc.drew = w72 at HO_5 HB HL256_4 HL256_5 HL256_6 HL256_7 HO255 HR256_4 HR256_5 HR256_6 HR256_7 hx256_0 hx256_1 hx256_2 hx256_3 hx256_4 hx256_5 hx256_6 hx256_7 hHeld ⊢
              refine pure_ (i := 0) (N := some 66) (v := ?_) (a' := ?_) #[true, false, false, false, false, false, false, false, false, false, false, false, false, false, false, false, false, false, false, false, false, false, false, false, false, false, false, false, false, false, false, false, false, false, false, false, false] rfl rfl (any_of HT_.out (by kernel_rfl)) (fun _ _ _ h => h) (Or.inl ⟨by rfl, ?_⟩) ?_ ?_
              rotate_left
              ·intro w'
               go_simp
               with_reducible rfl
              rotate_left
              ·simp only [Act.put, List.setIfInBounds_toArray, List.set_cons_zero, List.set_cons_succ, i64_w, i32_w]
               rfl
              refine pure_ (i := 1) (N := some 67) (v := ?_) (a' := ?_) #[true, true, false, false, false, false, false, false, false, false, false, false, false, false, false, false, false, false, false, false, false, false, false, false, false, false, false, false, false, false, false, false, false, false, false, false, false] rfl rfl (any_of HT_.out (by kernel_rfl)) (fun _ _ _ h => h) (Or.inl ⟨by rfl, ?_⟩) ?_ ?_
              rotate_left
              ·intro w'
               go_simp
               with_reducible rfl
              rotate_left
              ·simp only [Act.put, List.setIfInBounds_toArray, List.set_cons_zero, List.set_cons_succ, i64_w, i32_w]
               rfl
              refine pure_ (i := 2) (N := some 68) (v := ?_) (a' := ?_) #[true, true, true, false, false, false, false, false, false, false, false, false, false, false, false, false, false, false, false, false, false, false, false, false, false, false, false, false, false, false, false, false, false, false, false, false, false] rfl rfl (any_of HT_.out (by kernel_rfl)) (fun _ _ _ h => h) (Or.inl ⟨by rfl, ?_⟩) ?_ ?_
              rotate_left
              ·intro w'
               go_simp
               with_reducible rfl
              rotate_left
              ·simp only [Act.put, List.setIfInBounds_toArray, List.set_cons_zero, List.set_cons_succ, i64_w, i32_w]
               rfl
              refine pure_ (i := 3) (N := some 69) (v := ?_) (a' := ?_) #[true, true, true, true, false, false, false, false, false, false, false, false, false, false, false, false, false, false, false, false, false, false, false, false, false, false, false, false, false, false, false, false, false, false, false, false, false] rfl rfl (any_of HT_.out (by kernel_rfl)) (fun _ _ _ h => h) (Or.inl ⟨by rfl, ?_⟩) ?_ ?_
              rotate_left
              ·intro w'
               go_simp
               with_reducible rfl
              rotate_left
              ·simp only [Act.put, List.setIfInBounds_toArray, List.set_cons_zero, List.set_cons_succ, i64_w, i32_w]
               rfl
              refine pure_ (i := 4) (N := some 70) (v := ?_) (a' := ?_) #[true, true, true, true, true, false, false, false, false, false, false, false, false, false, false, false, false, false, false, false, false, false, false, false, false, false, false, false, false, false, false, false, false, false, false, false, false] rfl rfl (any_of HT_.out (by kernel_rfl)) (fun _ _ _ h => h) (Or.inl ⟨by rfl, ?_⟩) ?_ ?_
              rotate_left
              ·intro w'
               go_simp
               with_reducible rfl
              rotate_left
              ·simp only [Act.put, List.setIfInBounds_toArray, List.set_cons_zero, List.set_cons_succ, i64_w, i32_w]
               rfl
              refine pure_ (i := 5) (N := some 71) (v := ?_) (a' := ?_) #[true, true, true, true, true, true, false, false, false, false, false, false, false, false, false, false, false, false, false, false, false, false, false, false, false, false, false, false, false, false, false, false, false, false, false, false, false] rfl rfl (any_of HT_.out (by kernel_rfl)) (fun _ _ _ h => h) (Or.inl ⟨by rfl, ?_⟩) ?_ ?_
              rotate_left
              ·intro w'
               go_simp
               with_reducible rfl
              rotate_left
              ·simp only [Act.put, List.setIfInBounds_toArray, List.set_cons_zero, List.set_cons_succ, i64_w, i32_w]
               rfl
              refine pure_ (i := 6) (N := some 72) (v := ?_) (a' := ?_) #[true, true, true, true, true, true, true, false, false, false, false, false, false, false, false, false, false, false, false, false, false, false, false, false, false, false, false, false, false, false, false, false, false, false, false, false, false] rfl rfl (any_of HT_.out (by kernel_rfl)) (fun _ _ _ h => h) (Or.inl ⟨by rfl, ?_⟩) ?_ ?_
              rotate_left
              ·intro w'
               go_simp
               with_reducible rfl
              rotate_left
              ·simp only [Act.put, List.setIfInBounds_toArray, List.set_cons_zero, List.set_cons_succ, i64_w, i32_w]
               rfl
              refine pure_ (i := 7) (N := some 73) (v := ?_) (a' := ?_) #[true, true, true, true, true, true, true, true, false, false, false, false, false, false, false, false, false, false, false, false, false, false, false, false, false, false, false, false, false, false, false, false, false, false, false, false, false] rfl rfl (any_of HT_.out (by kernel_rfl)) (fun _ _ _ h => h) (Or.inl ⟨by rfl, ?_⟩) ?_ ?_
              rotate_left
              ·intro w'
               go_simp
               with_reducible rfl
              rotate_left
              ·simp only [Act.put, List.setIfInBounds_toArray, List.set_cons_zero, List.set_cons_succ, i64_w, i32_w]
               rfl
              refine take_ (i := 8) (N := some 74) (v := ?_) (a' := ?_) #[true, true, true, true, true, true, true, true, true, false, false, false, false, false, false, false, false, false, false, false, false, false, false, false, false, false, false, false, false, false, false, false, false, false, false, false, false] rfl rfl (take_ofW HT_.out HW_.out (by kernel_rfl)) (fun _ _ _ h => h) (Or.inl ⟨by rfl, ?_⟩) hHeld ?_ ?_
              rotate_left
              ·rintro w' ⟨s0, s1, s2, s3, s4, s5, s6, s7⟩
               go_simp
               with_reducible rfl
              rotate_left
              ·simp only [Act.put, List.setIfInBounds_toArray, List.set_cons_zero, List.set_cons_succ, i64_w, i32_w]
               rfl
              refine one_ (i := 9) (N := some 75) #[true, true, true, true, true, true, true, true, true, true, false, false, false, false, false, false, false, false, false, false, false, false, false, false, false, false, false, false, false, false, false, false, false, false, false, false, false] rfl rfl (one_of HT_.out (by kernel_rfl)) (by decide) (fun K hK => ?_)
              refine goes_ Try.func16 (by kernel_rfl) rfl #[.slice A256_6 ((rd_T36 t243 a1).f6).length c256_6] (by rfl) rfl rfl (by (try simp only [List.map_toArray, List.map_cons, List.map_nil]); first | done | rfl | (simp only [List.length_drop, List.length_take]; rfl)) ?_
              with_reducible refine (number_List.calls kj29 (fun k_ => (True ∧ some k_ ≠ (.slice (some ad256) t243.length co74 : Value).ownBlock)) _ _ ((rd_T36 t243 a1).f6) t257 _ ?side1 A41.out).mono ?_
              (case side1 => exact HL256_6.out)
              rintro e w75 ⟨v258, rfl, ho0, hb⟩
              have HS0_ := (hb.cell (World.block_lt_of_cell? _ _ (hHeld.1))).trans (hHeld.1)
              have HS1_ := (hb.cell (World.block_lt_of_cell? _ _ (hHeld.2.1))).trans (hHeld.2.1)
              have HS2_ := (hb.cell (World.block_lt_of_cell? _ _ (hHeld.2.2.1))).trans (hHeld.2.2.1)
              have HS3_ := (hb.cell (World.block_lt_of_cell? _ _ (hHeld.2.2.2.1))).trans (hHeld.2.2.2.1)
              have HS4_ := (hb.cell (World.block_lt_of_cell? _ _ (hHeld.2.2.2.2.1))).trans (hHeld.2.2.2.2.1)
              have HS5_ := (hb.cell (World.block_lt_of_cell? _ _ (hHeld.2.2.2.2.2.1))).trans (hHeld.2.2.2.2.2.1)
              have HS6_ := (hb.cell (World.block_lt_of_cell? _ _ (hHeld.2.2.2.2.2.2.1))).trans (hHeld.2.2.2.2.2.2.1)
              have HS7_ := (hb.cell (World.block_lt_of_cell? _ _ (hHeld.2.2.2.2.2.2.2))).trans (hHeld.2.2.2.2.2.2.2)
              refine ⟨_, rfl, ?_⟩
              have n0_ := Aside0.mk (Kd.N_elder' (by (with_reducible repeat (first | apply Kd.N_alloc | apply Kd.N_drewN | apply Kd.N_drew)); exact HO_5.out) (Kd.N_base ho0) hb)
              have n1_ := Aside0.mk (Kd.V_elder' (by (with_reducible repeat (first | apply Kd.V_alloc | apply Kd.V_drewN | apply Kd.V_drew)); exact HO255.out) (Kd.N_base ho0) hb)
              have n2_ := Aside0.mk (Kd.V_elder' (by (with_reducible repeat (first | apply Kd.V_alloc | apply Kd.V_drewN | apply Kd.V_drew)); exact HL256_4.out) (Kd.N_base ho0) hb)
              have n3_ := Aside0.mk (Kd.V_elder' (by (with_reducible repeat (first | apply Kd.V_alloc | apply Kd.V_drewN | apply Kd.V_drew)); exact HL256_5.out) (Kd.N_base ho0) hb)
              have n4_ := Aside0.mk (Kd.V_elder' (by (with_reducible repeat (first | apply Kd.V_alloc | apply Kd.V_drewN | apply Kd.V_drew)); exact HL256_6.out) (Kd.N_base ho0) hb)
              have n5_ := Aside0.mk (Kd.V_elder' (by (with_reducible repeat (first | apply Kd.V_alloc | apply Kd.V_drewN | apply Kd.V_drew)); exact HL256_7.out) (Kd.N_base ho0) hb)
              have n6_ := Aside0.mk (Kd.N_lower (Kd.N_mono (ok' := fun k_ => some k_ ≠ (.slice (some ad256) t243.length co74 : Value).ownBlock) ho0 (fun k_ hk_ => Or.elim hk_ (fun hs_ => hs_.2) (fun hn_ => (Kd.fresh' (Kd.N_lt (by (with_reducible repeat (first | apply Kd.N_alloc | apply Kd.N_drewN | apply Kd.N_drew)); exact HO_5.out)) k_ hn_)))) (below_size (by repeat (first | (with_reducible first | exact HB.out | apply below_alloc | apply pw_below_drewN | apply below_drew1) | exact HB.out))))
              have n7_ := Aside0.mk (Kd.C_below (by repeat (first | (with_reducible exact HR256_4.out) | (with_reducible refine Kd.C_alloc ?_ _) | (with_reducible refine Kd.C_drewN ?_ _) | (with_reducible refine Kd.C_drew ?_) | exact HR256_4.out)) hb)
              have n8_ := Aside0.mk (Kd.C_below (by repeat (first | (with_reducible exact HR256_5.out) | (with_reducible refine Kd.C_alloc ?_ _) | (with_reducible refine Kd.C_drewN ?_ _) | (with_reducible refine Kd.C_drew ?_) | exact HR256_5.out)) hb)
              have n9_ := Aside0.mk (Kd.C_below (by repeat (first | (with_reducible exact HR256_6.out) | (with_reducible refine Kd.C_alloc ?_ _) | (with_reducible refine Kd.C_drewN ?_ _) | (with_reducible refine Kd.C_drew ?_) | exact HR256_6.out)) hb)
              have n10_ := Aside0.mk (Kd.C_below (by repeat (first | (with_reducible exact HR256_7.out) | (with_reducible refine Kd.C_alloc ?_ _) | (with_reducible refine Kd.C_drewN ?_ _) | (with_reducible refine Kd.C_drew ?_) | exact HR256_7.out)) hb)
              have n11_ := Aside0.mk (below_step (by repeat (first | (with_reducible first | exact HB.out | apply below_alloc | apply pw_below_drewN | apply below_drew1) | exact HB.out)) hb)
              clear HO_5
              clear HO255
              clear HL256_4
              clear HL256_5
              clear HL256_6
              clear HL256_7
              clear HR256_4
              clear HR256_5
              clear HR256_6
              clear HR256_7
              clear HB
              have HO_5 := n0_
              have HO255 := n1_
              have HL256_4 := n2_
              have HL256_5 := n3_
              have HL256_6 := n4_
              have HL256_7 := n5_
              have HO259 := n6_
              have HR256_4 := n7_
              have HR256_5 := n8_
              have HR256_6 := n9_
              have HR256_7 := n10_
              have HB := n11_
              clear n0_ n1_ n2_ n3_ n4_ n5_ n6_ n7_ n8_ n9_ n10_ n11_
              (try clear hb)
              (try clear hb2)
              (try clear hk)
              (try clear hi)
              (try clear ho0)
              obtain ⟨Ao76, co76, eo76⟩ := Kd.N_slice HO259.out
              (first | subst eo76 | (injection eo76 with f1_ f2_ f3_; have f4_ := f1_.symm; have f5_ := f3_.symm; clear f1_ f2_ f3_; subst f4_; subst f5_))
              refine hK.out _ _ ⟨HS0_, HS1_, HS2_, HS3_, HS4_, HS5_, HS6_, HS7_⟩ (fun hHeld => ?_)
              clear hK K
              refine norm_ (a' := ?_) ?_ ?_
              rotate_left
              ·show Act.put _ (some 75) _ = _
               simp only [Act.put, List.setIfInBounds_toArray, List.set_cons_zero, List.set_cons_succ, i64_w, i32_w]
               rfl
              refine one_ (i := 10) (N := some 76) #[true, true, true, true, true, true, true, true, true, true, true, false, false, false, false, false, false, false, false, false, false, false, false, false, false, false, false, false, false, false, false, false, false, false, false, false, false] rfl rfl (one_of HT_.out (by kernel_rfl)) (by decide) (fun K hK => ?_)
              refine goes_ Try.func15 (by kernel_rfl) rfl #[.slice A73 y251.length c73, .slice Ao76 t257.length co76] (by rfl) rfl rfl (by (try simp only [List.map_toArray, List.map_cons, List.map_nil]); first | done | rfl | (simp only [List.length_drop, List.length_take]; rfl)) ?_
              with_reducible refine (proteanref02_Stmts.calls _ _ y251 _ _ t257 false _ ?side1 ?side2 ?side3 ?side4 A42.out).mono ?_
              (case side1 => repeat (first | exact (Kd.V_reads' HO255.out).2.2 | (with_reducible refine Kd.C_alloc ?_ _) | (with_reducible refine Kd.C_drewN ?_ _) | (with_reducible refine Kd.C_drew ?_)))
              (case side2 => exact (Kd.V_reads' HO255.out).2.1)
              (case side3 => repeat (first | exact (Kd.N_reads' HO259.out).2.2 | (with_reducible refine Kd.C_alloc ?_ _) | (with_reducible refine Kd.C_drewN ?_ _) | (with_reducible refine Kd.C_drew ?_)))
              (case side4 => exact (Kd.N_reads' HO259.out).2.1)
              rintro e w77 ⟨rfl, hb⟩
              have HS0_ := (hb.cell (World.block_lt_of_cell? _ _ (hHeld.1))).trans (hHeld.1)
              have HS1_ := (hb.cell (World.block_lt_of_cell? _ _ (hHeld.2.1))).trans (hHeld.2.1)
              have HS2_ := (hb.cell (World.block_lt_of_cell? _ _ (hHeld.2.2.1))).trans (hHeld.2.2.1)
              have HS3_ := (hb.cell (World.block_lt_of_cell? _ _ (hHeld.2.2.2.1))).trans (hHeld.2.2.2.1)
              have HS4_ := (hb.cell (World.block_lt_of_cell? _ _ (hHeld.2.2.2.2.1))).trans (hHeld.2.2.2.2.1)
              have HS5_ := (hb.cell (World.block_lt_of_cell? _ _ (hHeld.2.2.2.2.2.1))).trans (hHeld.2.2.2.2.2.1)
              have HS6_ := (hb.cell (World.block_lt_of_cell? _ _ (hHeld.2.2.2.2.2.2.1))).trans (hHeld.2.2.2.2.2.2.1)
              have HS7_ := (hb.cell (World.block_lt_of_cell? _ _ (hHeld.2.2.2.2.2.2.2))).trans (hHeld.2.2.2.2.2.2.2)
              refine ⟨_, rfl, ?_⟩
              have n0_ := Aside0.mk (Kd.N_below (by (with_reducible repeat (first | apply Kd.N_alloc | apply Kd.N_drewN | apply Kd.N_drew)); exact HO_5.out) hb)
              have n1_ := Aside0.mk (Kd.V_below (by (with_reducible repeat (first | apply Kd.V_alloc | apply Kd.V_drewN | apply Kd.V_drew)); exact HO255.out) hb)
              have n2_ := Aside0.mk (Kd.V_below (by (with_reducible repeat (first | apply Kd.V_alloc | apply Kd.V_drewN | apply Kd.V_drew)); exact HL256_4.out) hb)
              have n3_ := Aside0.mk (Kd.V_below (by (with_reducible repeat (first | apply Kd.V_alloc | apply Kd.V_drewN | apply Kd.V_drew)); exact HL256_5.out) hb)
              have n4_ := Aside0.mk (Kd.V_below (by (with_reducible repeat (first | apply Kd.V_alloc | apply Kd.V_drewN | apply Kd.V_drew)); exact HL256_6.out) hb)
              have n5_ := Aside0.mk (Kd.V_below (by (with_reducible repeat (first | apply Kd.V_alloc | apply Kd.V_drewN | apply Kd.V_drew)); exact HL256_7.out) hb)
              have n6_ := Aside0.mk (Kd.N_below (by (with_reducible repeat (first | apply Kd.N_alloc | apply Kd.N_drewN | apply Kd.N_drew)); exact HO259.out) hb)
              have n7_ := Aside0.mk (Kd.C_below (by repeat (first | (with_reducible exact HR256_4.out) | (with_reducible refine Kd.C_alloc ?_ _) | (with_reducible refine Kd.C_drewN ?_ _) | (with_reducible refine Kd.C_drew ?_) | exact HR256_4.out)) hb)
              have n8_ := Aside0.mk (Kd.C_below (by repeat (first | (with_reducible exact HR256_5.out) | (with_reducible refine Kd.C_alloc ?_ _) | (with_reducible refine Kd.C_drewN ?_ _) | (with_reducible refine Kd.C_drew ?_) | exact HR256_5.out)) hb)
              have n9_ := Aside0.mk (Kd.C_below (by repeat (first | (with_reducible exact HR256_6.out) | (with_reducible refine Kd.C_alloc ?_ _) | (with_reducible refine Kd.C_drewN ?_ _) | (with_reducible refine Kd.C_drew ?_) | exact HR256_6.out)) hb)
              have n10_ := Aside0.mk (Kd.C_below (by repeat (first | (with_reducible exact HR256_7.out) | (with_reducible refine Kd.C_alloc ?_ _) | (with_reducible refine Kd.C_drewN ?_ _) | (with_reducible refine Kd.C_drew ?_) | exact HR256_7.out)) hb)
              have n11_ := Aside0.mk (below_step (by repeat (first | (with_reducible first | exact HB.out | apply below_alloc | apply pw_below_drewN | apply below_drew1) | exact HB.out)) hb)
              clear HO_5
              clear HO255
              clear HL256_4
              clear HL256_5
              clear HL256_6
              clear HL256_7
              clear HO259
              clear HR256_4
              clear HR256_5
              clear HR256_6
              clear HR256_7
              clear HB
              have HO_5 := n0_
              have HO255 := n1_
              have HL256_4 := n2_
              have HL256_5 := n3_
              have HL256_6 := n4_
              have HL256_7 := n5_
              have HO259 := n6_
              have HR256_4 := n7_
              have HR256_5 := n8_
              have HR256_6 := n9_
              have HR256_7 := n10_
              have HB := n11_
              clear n0_ n1_ n2_ n3_ n4_ n5_ n6_ n7_ n8_ n9_ n10_ n11_
              (try clear hb)
              (try clear hb2)
              (try clear hk)
              (try clear hi)
              refine hK.out _ _ ⟨HS0_, HS1_, HS2_, HS3_, HS4_, HS5_, HS6_, HS7_⟩ (fun hHeld => ?_)
              clear hK K
              refine norm_ (a' := ?_) ?_ ?_
              rotate_left
              ·show Act.put _ (some 76) _ = _
               simp only [Act.put, List.setIfInBounds_toArray, List.set_cons_zero, List.set_cons_succ, i64_w, i32_w]
               rfl
              refine pure_ (i := 11) (N := some 77) (v := ?_) (a' := ?_) #[true, true, true, true, true, true, true, true, true, true, true, true, false, false, false, false, false, false, false, false, false, false, false, false, false, false, false, false, false, false, false, false, false, false, false, false, false] rfl rfl (any_of HT_.out (by kernel_rfl)) (fun _ _ _ h => h) (Or.inl ⟨by rfl, ?_⟩) ?_ ?_
              rotate_left
              ·intro w'
               go_simp
               with_reducible rfl
              rotate_left
              ·simp only [Act.put, List.setIfInBounds_toArray, List.set_cons_zero, List.set_cons_succ, i64_w, i32_w]
               rfl
              refine pure_ (i := 12) (N := some 78) (v := undef) (a' := ?_) #[true, true, true, true, true, true, true, true, true, true, true, true, true, false, false, false, false, false, false, false, false, false, false, false, false, false, false, false, false, false, false, false, false, false, false, false, false] rfl rfl (any_of HT_.out (by kernel_rfl)) (fun _ _ _ h => h) (Or.inr ⟨by rfl, rfl⟩) ?_ ?_
              rotate_left
              ·simp only [Act.put, List.setIfInBounds_toArray, List.set_cons_zero, List.set_cons_succ, i64_w, i32_w]
               rfl
              refine pure_ (i := 13) (N := some 79) (v := undef) (a' := ?_) #[true, true, true, true, true, true, true, true, true, true, true, true, true, true, false, false, false, false, false, false, false, false, false, false, false, false, false, false, false, false, false, false, false, false, false, false, false] rfl rfl (any_of HT_.out (by kernel_rfl)) (fun _ _ _ h => h) (Or.inr ⟨by rfl, rfl⟩) ?_ ?_
              rotate_left
              ·simp only [Act.put, List.setIfInBounds_toArray, List.set_cons_zero, List.set_cons_succ, i64_w, i32_w]
               rfl
              refine pure_ (i := 14) (N := some 80) (v := undef) (a' := ?_) #[true, true, true, true, true, true, true, true, true, true, true, true, true, true, true, false, false, false, false, false, false, false, false, false, false, false, false, false, false, false, false, false, false, false, false, false, false] rfl rfl (any_of HT_.out (by kernel_rfl)) (fun _ _ _ h => h) (Or.inr ⟨by rfl, rfl⟩) ?_ ?_
              rotate_left
              ·simp only [Act.put, List.setIfInBounds_toArray, List.set_cons_zero, List.set_cons_succ, i64_w, i32_w]
               rfl
              refine pure_ (i := 15) (N := some 81) (v := undef) (a' := ?_) #[true, true, true, true, true, true, true, true, true, true, true, true, true, true, true, true, false, false, false, false, false, false, false, false, false, false, false, false, false, false, false, false, false, false, false, false, false] rfl rfl (any_of HT_.out (by kernel_rfl)) (fun _ _ _ h => h) (Or.inr ⟨by rfl, rfl⟩) ?_ ?_
              rotate_left
              ·simp only [Act.put, List.setIfInBounds_toArray, List.set_cons_zero, List.set_cons_succ, i64_w, i32_w]
               rfl
              refine pure_ (i := 16) (N := some 82) (v := undef) (a' := ?_) #[true, true, true, true, true, true, true, true, true, true, true, true, true, true, true, true, true, false, false, false, false, false, false, false, false, false, false, false, false, false, false, false, false, false, false, false, false] rfl rfl (any_of HT_.out (by kernel_rfl)) (fun _ _ _ h => h) (Or.inr ⟨by rfl, rfl⟩) ?_ ?_
              rotate_left
              ·simp only [Act.put, List.setIfInBounds_toArray, List.set_cons_zero, List.set_cons_succ, i64_w, i32_w]
               rfl
              refine pure_ (i := 17) (N := some 83) (v := undef) (a' := ?_) #[true, true, true, true, true, true, true, true, true, true, true, true, true, true, true, true, true, true, false, false, false, false, false, false, false, false, false, false, false, false, false, false, false, false, false, false, false] rfl rfl (any_of HT_.out (by kernel_rfl)) (fun _ _ _ h => h) (Or.inr ⟨by rfl, rfl⟩) ?_ ?_
              rotate_left
              ·simp only [Act.put, List.setIfInBounds_toArray, List.set_cons_zero, List.set_cons_succ, i64_w, i32_w]
               rfl
              refine pure_ (i := 18) (N := some 84) (v := undef) (a' := ?_) #[true, true, true, true, true, true, true, true, true, true, true, true, true, true, true, true, true, true, true, false, false, false, false, false, false, false, false, false, false, false, false, false, false, false, false, false, false] rfl rfl (any_of HT_.out (by kernel_rfl)) (fun _ _ _ h => h) (Or.inr ⟨by rfl, rfl⟩) ?_ ?_
              rotate_left
              ·simp only [Act.put, List.setIfInBounds_toArray, List.set_cons_zero, List.set_cons_succ, i64_w, i32_w]
               rfl
              refine pure_ (i := 19) (N := some 85) (v := undef) (a' := ?_) #[true, true, true, true, true, true, true, true, true, true, true, true, true, true, true, true, true, true, true, true, false, false, false, false, false, false, false, false, false, false, false, false, false, false, false, false, false] rfl rfl (any_of HT_.out (by kernel_rfl)) (fun _ _ _ h => h) (Or.inr ⟨by rfl, rfl⟩) ?_ ?_
              rotate_left
              ·simp only [Act.put, List.setIfInBounds_toArray, List.set_cons_zero, List.set_cons_succ, i64_w, i32_w]
               rfl
              refine pure_ (i := 20) (N := some 86) (v := undef) (a' := ?_) #[true, true, true, true, true, true, true, true, true, true, true, true, true, true, true, true, true, true, true, true, true, false, false, false, false, false, false, false, false, false, false, false, false, false, false, false, false] rfl rfl (any_of HT_.out (by kernel_rfl)) (fun _ _ _ h => h) (Or.inr ⟨by rfl, rfl⟩) ?_ ?_
              rotate_left
              ·simp only [Act.put, List.setIfInBounds_toArray, List.set_cons_zero, List.set_cons_succ, i64_w, i32_w]
               rfl
              refine pure_ (i := 21) (N := some 87) (v := undef) (a' := ?_) #[true, true, true, true, true, true, true, true, true, true, true, true, true, true, true, true, true, true, true, true, true, true, false, false, false, false, false, false, false, false, false, false, false, false, false, false, false] rfl rfl (any_of HT_.out (by kernel_rfl)) (fun _ _ _ h => h) (Or.inr ⟨by rfl, rfl⟩) ?_ ?_
              rotate_left
              ·simp only [Act.put, List.setIfInBounds_toArray, List.set_cons_zero, List.set_cons_succ, i64_w, i32_w]
               rfl
              refine pure_ (i := 22) (N := some 88) (v := undef) (a' := ?_) #[true, true, true, true, true, true, true, true, true, true, true, true, true, true, true, true, true, true, true, true, true, true, true, false, false, false, false, false, false, false, false, false, false, false, false, false, false] rfl rfl (any_of HT_.out (by kernel_rfl)) (fun _ _ _ h => h) (Or.inr ⟨by rfl, rfl⟩) ?_ ?_
              rotate_left
              ·simp only [Act.put, List.setIfInBounds_toArray, List.set_cons_zero, List.set_cons_succ, i64_w, i32_w]
               rfl
              refine pure_ (i := 23) (N := some 89) (v := ?_) (a' := ?_) #[true, true, true, true, true, true, true, true, true, true, true, true, true, true, true, true, true, true, true, true, true, true, true, true, false, false, false, false, false, false, false, false, false, false, false, false, false] rfl rfl (any_of HT_.out (by kernel_rfl)) (fun _ _ _ h => h) (Or.inl ⟨by rfl, ?_⟩) ?_ ?_
              rotate_left
              ·intro w'
               go_simp
               with_reducible rfl
              rotate_left
              ·simp only [Act.put, List.setIfInBounds_toArray, List.set_cons_zero, List.set_cons_succ, i64_w, i32_w]
               rfl
              refine pure_ (i := 24) (N := some 90) (v := ?_) (a' := ?_) #[true, true, true, true, true, true, true, true, true, true, true, true, true, true, true, true, true, true, true, true, true, true, true, true, true, false, false, false, false, false, false, false, false, false, false, false, false] rfl rfl (any_of HT_.out (by kernel_rfl)) (fun _ _ _ h => h) (Or.inl ⟨by rfl, ?_⟩) ?_ ?_
              rotate_left
              ·intro w'
               go_simp
               with_reducible rfl
              rotate_left
              ·simp only [Act.put, List.setIfInBounds_toArray, List.set_cons_zero, List.set_cons_succ, i64_w, i32_w]
               rfl
              refine pure_ (i := 25) (N := some 91) (v := undef) (a' := ?_) #[true, true, true, true, true, true, true, true, true, true, true, true, true, true, true, true, true, true, true, true, true, true, true, true, true, true, false, false, false, false, false, false, false, false, false, false, false] rfl rfl (any_of HT_.out (by kernel_rfl)) (fun _ _ _ h => h) (Or.inr ⟨by rfl, rfl⟩) ?_ ?_
              rotate_left
              ·simp only [Act.put, List.setIfInBounds_toArray, List.set_cons_zero, List.set_cons_succ, i64_w, i32_w]
               rfl
              refine pure_ (i := 26) (N := some 92) (v := undef) (a' := ?_) #[true, true, true, true, true, true, true, true, true, true, true, true, true, true, true, true, true, true, true, true, true, true, true, true, true, true, true, false, false, false, false, false, false, false, false, false, false] rfl rfl (any_of HT_.out (by kernel_rfl)) (fun _ _ _ h => h) (Or.inr ⟨by rfl, rfl⟩) ?_ ?_
              rotate_left
              ·simp only [Act.put, List.setIfInBounds_toArray, List.set_cons_zero, List.set_cons_succ, i64_w, i32_w]
               rfl
              refine pure_ (i := 27) (N := some 93) (v := undef) (a' := ?_) #[true, true, true, true, true, true, true, true, true, true, true, true, true, true, true, true, true, true, true, true, true, true, true, true, true, true, true, true, false, false, false, false, false, false, false, false, false] rfl rfl (any_of HT_.out (by kernel_rfl)) (fun _ _ _ h => h) (Or.inr ⟨by rfl, rfl⟩) ?_ ?_
              rotate_left
              ·simp only [Act.put, List.setIfInBounds_toArray, List.set_cons_zero, List.set_cons_succ, i64_w, i32_w]
               rfl
              refine pure_ (i := 28) (N := some 94) (v := undef) (a' := ?_) #[true, true, true, true, true, true, true, true, true, true, true, true, true, true, true, true, true, true, true, true, true, true, true, true, true, true, true, true, true, false, false, false, false, false, false, false, false] rfl rfl (any_of HT_.out (by kernel_rfl)) (fun _ _ _ h => h) (Or.inr ⟨by rfl, rfl⟩) ?_ ?_
              rotate_left
              ·simp only [Act.put, List.setIfInBounds_toArray, List.set_cons_zero, List.set_cons_succ, i64_w, i32_w]
               rfl
              refine pure_ (i := 29) (N := some 95) (v := undef) (a' := ?_) #[true, true, true, true, true, true, true, true, true, true, true, true, true, true, true, true, true, true, true, true, true, true, true, true, true, true, true, true, true, true, false, false, false, false, false, false, false] rfl rfl (any_of HT_.out (by kernel_rfl)) (fun _ _ _ h => h) (Or.inr ⟨by rfl, rfl⟩) ?_ ?_
              rotate_left
              ·simp only [Act.put, List.setIfInBounds_toArray, List.set_cons_zero, List.set_cons_succ, i64_w, i32_w]
               rfl
              refine pure_ (i := 30) (N := some 96) (v := undef) (a' := ?_) #[true, true, true, true, true, true, true, true, true, true, true, true, true, true, true, true, true, true, true, true, true, true, true, true, true, true, true, true, true, true, true, false, false, false, false, false, false] rfl rfl (any_of HT_.out (by kernel_rfl)) (fun _ _ _ h => h) (Or.inr ⟨by rfl, rfl⟩) ?_ ?_
              rotate_left
              ·simp only [Act.put, List.setIfInBounds_toArray, List.set_cons_zero, List.set_cons_succ, i64_w, i32_w]
               rfl
              refine pure_ (i := 31) (N := some 97) (v := undef) (a' := ?_) #[true, true, true, true, true, true, true, true, true, true, true, true, true, true, true, true, true, true, true, true, true, true, true, true, true, true, true, true, true, true, true, true, false, false, false, false, false] rfl rfl (any_of HT_.out (by kernel_rfl)) (fun _ _ _ h => h) (Or.inr ⟨by rfl, rfl⟩) ?_ ?_
              rotate_left
              ·simp only [Act.put, List.setIfInBounds_toArray, List.set_cons_zero, List.set_cons_succ, i64_w, i32_w]
               rfl
              refine pure_ (i := 32) (N := some 98) (v := undef) (a' := ?_) #[true, true, true, true, true, true, true, true, true, true, true, true, true, true, true, true, true, true, true, true, true, true, true, true, true, true, true, true, true, true, true, true, true, false, false, false, false] rfl rfl (any_of HT_.out (by kernel_rfl)) (fun _ _ _ h => h) (Or.inr ⟨by rfl, rfl⟩) ?_ ?_
              rotate_left
              ·simp only [Act.put, List.setIfInBounds_toArray, List.set_cons_zero, List.set_cons_succ, i64_w, i32_w]
               rfl
              refine pure_ (i := 33) (N := some 99) (v := undef) (a' := ?_) #[true, true, true, true, true, true, true, true, true, true, true, true, true, true, true, true, true, true, true, true, true, true, true, true, true, true, true, true, true, true, true, true, true, true, false, false, false] rfl rfl (any_of HT_.out (by kernel_rfl)) (fun _ _ _ h => h) (Or.inr ⟨by rfl, rfl⟩) ?_ ?_
              rotate_left
              ·simp only [Act.put, List.setIfInBounds_toArray, List.set_cons_zero, List.set_cons_succ, i64_w, i32_w]
               rfl
              refine pure_ (i := 34) (N := some 100) (v := undef) (a' := ?_) #[true, true, true, true, true, true, true, true, true, true, true, true, true, true, true, true, true, true, true, true, true, true, true, true, true, true, true, true, true, true, true, true, true, true, true, false, false] rfl rfl (any_of HT_.out (by kernel_rfl)) (fun _ _ _ h => h) (Or.inr ⟨by rfl, rfl⟩) ?_ ?_
              rotate_left
              ·simp only [Act.put, List.setIfInBounds_toArray, List.set_cons_zero, List.set_cons_succ, i64_w, i32_w]
               rfl
              refine pure_ (i := 35) (N := some 101) (v := ?_) (a' := ?_) #[true, true, true, true, true, true, true, true, true, true, true, true, true, true, true, true, true, true, true, true, true, true, true, true, true, true, true, true, true, true, true, true, true, true, true, true, false] rfl rfl (any_of HT_.out (by kernel_rfl)) (fun _ _ _ h => h) (Or.inl ⟨by rfl, ?_⟩) ?_ ?_
              rotate_left
              ·intro w'
               go_simp
               with_reducible rfl
              rotate_left
              ·simp only [Act.put, List.setIfInBounds_toArray, List.set_cons_zero, List.set_cons_succ, i64_w, i32_w]
               rfl
              refine pure_ (i := 36) (N := some 4) (v := ?_) (a' := ?_) #[true, true, true, true, true, true, true, true, true, true, true, true, true, true, true, true, true, true, true, true, true, true, true, true, true, true, true, true, true, true, true, true, true, true, true, true, true] rfl rfl (any_of HT_.out (by kernel_rfl)) (fun _ _ _ h => h) (Or.inl ⟨by rfl, ?_⟩) ?_ ?_
              rotate_left
              ·intro w'
               go_simp
               with_reducible rfl
              rotate_left
              ·simp only [Act.put, List.setIfInBounds_toArray, List.set_cons_zero, List.set_cons_succ, i64_w, i32_w]
               rfl
              refine done_ (done_of HT_.out (by kernel_rfl)) ?_
              try go_wp2
              go_ret
              exact ⟨by first | rfl | (simp [errW_none, errW_some] <;> rfl) | (simp [*, errW_none, errW_some] <;> rfl), by repeat (first | (with_reducible first | exact HB.out | apply below_alloc | apply pw_below_drewN | apply below_drew1) | exact HB.out)⟩
            ·rw [if_neg c40] at H
             exact absurd H (by simp)
           ·rw [if_neg c39] at H
            exact absurd H (by simp)
          ·rw [if_neg c38] at H
           exact absurd H (by simp)
         ·rw [if_neg c37] at H
          exact absurd H (by simp)
        ·rw [if_neg c36] at H
         exact absurd H (by simp)

end Go.Proofs.Ytdifnochnmiagaa.Pr
