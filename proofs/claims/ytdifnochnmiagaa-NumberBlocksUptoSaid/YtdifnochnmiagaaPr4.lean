-- Written by wip/xprint.py (the kit's print, run over this seat with some contracts of my own). Not trusted: Lean checks it.
import Derived.Test.YtdifnochnmiagaaPr0
namespace Go.Proofs.Ytdifnochnmiagaa.Pr
open Go.RowKit Go.Proofs.YtdifnochnmiagaaW.PrintWords Go.Proofs.YtdifnochnmiagaaW.PrintLast Go.Proofs.YtdifnochnmiagaaW.PrintMore
attribute [local go_sem] max2_int min2_int max_two min_two max_three min_three max_four min_four   -- for this text's walks alone
set_option linter.unusedVariables false
set_option linter.unusedSimpArgs false

/-! ### proteanref04_List: function 14 -/
mutual
def proteanref04_List.l0 : Nat → List (S36) → List (S36) → Int → Option ((List (S36)))
  | 0, _, _, _ => none
  | k + 1, x0, x3, x4 => if x4 < (x0.length : Int) then (if 0 ≤ x4 then (if x3.length < 925904528653 then ((some (x3 ++ [(⟨(rd_T36 x0 x4).f0, (rd_T36 x0 x4).f1, (rd_T36 x0 x4).f2, (rd_T36 x0 x4).f3, (rd_T36 x0 x4).f4, (rd_T36 x0 x4).f5, (rd_T36 x0 x4).f6, (rd_T36 x0 x4).f7⟩ : S36)] : List (S36))).bind fun y125 => ((proteanref04_List.f k ((rd_T36 x0 x4).f6)).bind fun t129 => (if y125.length + t129.length < 925904528653 then ((some (y125 ++ t129 : List (S36))).bind fun y132 => ((proteanref04_List.f k ((rd_T36 x0 x4).f7)).bind fun t136 => (if y132.length + t136.length < 925904528653 then (proteanref04_List.l0 k x0 (y132 ++ t136) (wrap64 (x4 + 1))) else (none)))) else (none)))) else (none)) else (none)) else (some x3)
def proteanref04_List.f : Nat → List (S36) → Option ((List (S36)))
  | 0, _ => none
  | k + 1, l0 => proteanref04_List.l0 k l0 (([] : List (S36))) 0
end
theorem proteanref04_List.mono_l : ∀ k, (∀ y0, LeO (proteanref04_List.f k y0) (proteanref04_List.f (k + 1) y0)) ∧ (∀ y0 y1 y2, LeO (proteanref04_List.l0 k y0 y1 y2) (proteanref04_List.l0 (k + 1) y0 y1 y2))
  | 0 => ⟨fun _ r h => by simp [proteanref04_List.f] at h, fun _ _ _ r h => by simp [proteanref04_List.l0] at h⟩
  | k + 1 => by
    obtain ⟨ih0, ih1⟩ := proteanref04_List.mono_l k
    refine ⟨?_, ?_⟩
    · intro y0
      unfold proteanref04_List.f
      repeat' first
      | (with_reducible exact ih0 _)
      | (with_reducible exact ih1 _ _ _)
      | (with_reducible exact LeO.refl _)
      | (with_reducible exact LeO.none _)
      | (with_reducible refine LeO.ite ?_ ?_)
      | (with_reducible refine LeO.bind ?_ (fun _ => ?_))
      | exact ih0 _
      | exact ih1 _ _ _
      | exact LeO.none _
      | refine LeO.ite ?_ ?_
      | refine LeO.bind ?_ (fun _ => ?_)
    · intro y0 y1 y2
      unfold proteanref04_List.l0
      repeat' first
      | (with_reducible exact ih0 _)
      | (with_reducible exact ih1 _ _ _)
      | (with_reducible exact LeO.refl _)
      | (with_reducible exact LeO.none _)
      | (with_reducible refine LeO.ite ?_ ?_)
      | (with_reducible refine LeO.bind ?_ (fun _ => ?_))
      | exact ih0 _
      | exact ih1 _ _ _
      | exact LeO.none _
      | refine LeO.ite ?_ ?_
      | refine LeO.bind ?_ (fun _ => ?_)
theorem proteanref04_List.mono : ∀ a0 k, LeO (proteanref04_List.f k a0) (proteanref04_List.f (k + 1) a0) := by
 intro a0 k
 obtain ⟨ih0, ih1⟩ := proteanref04_List.mono_l k
 exact ih0 a0
set_option maxHeartbeats 8000000 in
set_option maxRecDepth 100000 in
theorem proteanref04_List.calls (k : Nat) : ∀ (P0_ : Nat → Prop) (A0 : Option Addr) (c0 : Nat) (l0 : List (S36)) (r : List (S36)) (w : World) (hs0 : Kd.V k36 36 w w.heap.size (fun k_ => P0_ k_) (.slice A0 l0.length c0) l0) (h : proteanref04_List.f k l0 = some r),
    Calls Try.prog 14 #[.slice A0 l0.length c0] w fun e w' => ∃ v0_ : Value, e = .returned (v0_) ∧ Kd.N k36 36 w' w.heap.size (fun k_ => (P0_ k_ ∨ w.heap.size ≤ k_)) v0_ r ∧ Below w.heap.size w w' := by
 induction k using Nat.strongRecOn with
 | _ k ih =>
 intro P0_ A0 c0 l0 r w hs0 h
 cases k with
 | zero => exact absurd h (by simp [proteanref04_List.f])
 | succ k =>
 simp only [proteanref04_List.f] at h
 have hu36 := Try.underlying36
 have HO0 := Aside0.mk (show Kd.V k36 36 w w.heap.size (fun k_ => (P0_ k_ ∨ w.heap.size ≤ k_)) (.slice A0 l0.length c0) l0 from Kd.V_mono hs0 (fun k_ hk => .inl hk))
 have HB := Aside0.mk (Below.refl w.heap.size w)
 have H : (proteanref04_List.l0 k l0 (([] : List (S36))) 0) = some r := h
 clear h
 obtain ⟨y121, hy121⟩ : ∃ y_ : List (S36), y_ = (([] : List (S36))) := ⟨_, rfl⟩
 replace H : (proteanref04_List.l0 k l0 y121 0) = some r := by first | (rw [hy121]; with_reducible exact H) | (have H2_ := (Option.bind_some _ _).symm.trans H; rw [hy121]; with_reducible exact H2_) | (have H2_ := (Option.bind_some _ _).symm.trans H; with_reducible exact H2_) | with_reducible exact H | (rw [hy121]; exact H) | exact H
 have Ny121 := Aside0.mk hy121
 clear hy121
 have H' := Aside0.mk H
 clear H
 go_enter Try.func14, Try.ntmps14
 go_wp2_with (first | ((with_reducible refine gate_dst (N := 5) rfl ?_); refine Kd.N_lit k36 _ 36 ?hg (N' := 5) ?hd (xs := ([] : List (S36))) (inner := []) (ok := (fun k_ => (P0_ k_ ∨ w.heap.size ≤ k_))) (okp := (fun k_ => (P0_ k_ ∨ w.heap.size ≤ k_))) ?hr ?hp (fun _ hk => hk) ((show ∀ k_, w.heap.size ≤ k_ → (fun k_ => (P0_ k_ ∨ w.heap.size ≤ k_)) k_ from fun k_ hk => (.inr (Nat.le_trans (below_size (by repeat (first | (with_reducible first | exact HB.out | apply below_alloc | apply pw_below_drewN | apply below_drew1) | exact HB.out))) hk))) _ (Nat.le_refl _)) (Below.refl _ _) (Nat.le_refl _) (by simp) ?_; (case hd => rfl); (case hg => rfl); (case hr => first | (go_simp; done) | (go_simp; rfl)); (case hp => exact (Reps.none _ _)); intro v122 w2 ho3 hb hg_ hnew_; clear hg_ hnew_; (first | rw [← Ny121.out] at ho3 | (simp only [Int.reduceToNat] at ho3; rw [← Ny121.out] at ho3)); have n0_ := Aside0.mk (Kd.V_elder' (by (with_reducible repeat (first | apply Kd.V_alloc | apply Kd.V_drewN | apply Kd.V_drew)); exact HO0.out) (Kd.N_base ho3) hb); have n1_ := Aside0.mk (Kd.N_lower ho3 (below_size (by repeat (first | (with_reducible first | exact HB.out | apply below_alloc | apply pw_below_drewN | apply below_drew1) | exact HB.out)))); have n2_ := Aside0.mk (below_step (by repeat (first | (with_reducible first | exact HB.out | apply below_alloc | apply pw_below_drewN | apply below_drew1) | exact HB.out)) hb); clear HO0; clear HB; have HO0 := n0_; have HO123 := n1_; have HB := n2_; clear n0_ n1_ n2_; clear hb ho3))
 go_loopg [3, 4] k (fun kq v3 v4 w' => ∃ (x3_1 : List (S36)) (x4_1 : Int), v4 = .int .i64 x4_1 ∧ Aside0 (proteanref04_List.l0 kq l0 x3_1 x4_1 = some r) ∧ Aside0 (kq ≤ k) ∧ Aside0 (Kd.V k36 36 w' w.heap.size (fun k_ => (P0_ k_ ∨ w.heap.size ≤ k_) ∧ some k_ ≠ (v3 : Value).ownBlock) (.slice A0 l0.length c0) l0) ∧ Aside0 (Kd.N k36 36 w' w.heap.size (fun k_ => (P0_ k_ ∨ w.heap.size ≤ k_)) v3 x3_1) ∧ Aside0 (Below w.heap.size w w'))
 case atStart => exact ⟨(y121), (0), (by first | rfl | (simp; done) | (simp [*]; done)), H', ⟨Nat.le_refl _⟩, ⟨by (with_reducible repeat (first | apply Kd.V_alloc | apply Kd.V_drewN | apply Kd.V_drew)); exact HO0.out⟩, ⟨by (with_reducible repeat (first | apply Kd.N_alloc | apply Kd.N_drewN | apply Kd.N_drew)); exact HO123.out⟩, ⟨by repeat (first | (with_reducible first | exact HB.out | apply below_alloc | apply pw_below_drewN | apply below_drew1) | exact HB.out)⟩⟩
 case round =>
  clear H'
  try clear c1
  try clear p2
  obtain ⟨x3_1, x4_1, rfl, HA, HK1, HO_0, HO_3, HB⟩ := hrel
  cases gk with
  | zero => exact absurd HA.out (by simp [proteanref04_List.l0])
  | succ k1 =>
   have H := HA.out
   clear HA
   simp only [proteanref04_List.l0] at H
   by_cases c4 : x4_1 < (l0.length : Int)
   ·rw [if_pos c4] at H
    have c4b0 : decide (x4_1 < (l0.length : Int)) = true := decide_eq_true c4
    clear c4
    by_cases c5 : 0 ≤ x4_1
    ·rw [if_pos c5] at H
     have c5b0 : decide (0 ≤ x4_1) = true := decide_eq_true c5
     clear c5
     by_cases c6 : x3_1.length < 925904528653
     ·rw [if_pos c6] at H
      have LMc6 := Aside0.mk c6
      clear c6
      obtain ⟨y125, hy125⟩ : ∃ y_ : List (S36), y_ = (x3_1 ++ [(⟨(rd_T36 l0 x4_1).f0, (rd_T36 l0 x4_1).f1, (rd_T36 l0 x4_1).f2, (rd_T36 l0 x4_1).f3, (rd_T36 l0 x4_1).f4, (rd_T36 l0 x4_1).f5, (rd_T36 l0 x4_1).f6, (rd_T36 l0 x4_1).f7⟩ : S36)]) := ⟨_, rfl⟩
      replace H : ((proteanref04_List.f k1 ((rd_T36 l0 x4_1).f6)).bind fun t129 => (if y125.length + t129.length < 925904528653 then ((some (y125 ++ t129 : List (S36))).bind fun y132 => ((proteanref04_List.f k1 ((rd_T36 l0 x4_1).f7)).bind fun t136 => (if y132.length + t136.length < 925904528653 then (proteanref04_List.l0 k1 l0 (y132 ++ t136) (wrap64 (x4_1 + 1))) else (none)))) else (none))) = some r := by first | (rw [hy125]; with_reducible exact H) | (have H2_ := (Option.bind_some _ _).symm.trans H; rw [hy125]; with_reducible exact H2_) | (have H2_ := (Option.bind_some _ _).symm.trans H; with_reducible exact H2_) | with_reducible exact H | (rw [hy125]; exact H) | exact H
      have Ny125 := Aside0.mk hy125
      clear hy125
      replace H := Option.bind_eq_some_iff.mp H
      obtain ⟨t129, A70, H⟩ := H
      replace H : (if y125.length + t129.length < 925904528653 then ((some (y125 ++ t129 : List (S36))).bind fun y132 => ((proteanref04_List.f k1 ((rd_T36 l0 x4_1).f7)).bind fun t136 => (if y132.length + t136.length < 925904528653 then (proteanref04_List.l0 k1 l0 (y132 ++ t136) (wrap64 (x4_1 + 1))) else (none)))) else (none)) = some r := H
      have A7 := Aside0.mk A70
      clear A70
      by_cases c8 : y125.length + t129.length < 925904528653
      ·rw [if_pos c8] at H
       have LMc8 := Aside0.mk c8
       clear c8
       obtain ⟨y132, hy132⟩ : ∃ y_ : List (S36), y_ = (y125 ++ t129) := ⟨_, rfl⟩
       replace H : ((proteanref04_List.f k1 ((rd_T36 l0 x4_1).f7)).bind fun t136 => (if y132.length + t136.length < 925904528653 then (proteanref04_List.l0 k1 l0 (y132 ++ t136) (wrap64 (x4_1 + 1))) else (none))) = some r := by first | (rw [hy132]; with_reducible exact H) | (have H2_ := (Option.bind_some _ _).symm.trans H; rw [hy132]; with_reducible exact H2_) | (have H2_ := (Option.bind_some _ _).symm.trans H; with_reducible exact H2_) | with_reducible exact H | (rw [hy132]; exact H) | exact H
       have Ny132 := Aside0.mk hy132
       clear hy132
       replace H := Option.bind_eq_some_iff.mp H
       obtain ⟨t136, A90, H⟩ := H
       replace H : (if y132.length + t136.length < 925904528653 then (proteanref04_List.l0 k1 l0 (y132 ++ t136) (wrap64 (x4_1 + 1))) else (none)) = some r := H
       have A9 := Aside0.mk A90
       clear A90
       by_cases c10 : y132.length + t136.length < 925904528653
       ·rw [if_pos c10] at H
        have LMc10 := Aside0.mk c10
        clear c10
        obtain ⟨y139, hy139⟩ : ∃ y_ : List (S36), y_ = (y132 ++ t136) := ⟨_, rfl⟩
        replace H : (proteanref04_List.l0 k1 l0 y139 (wrap64 (x4_1 + 1))) = some r := by first | (rw [hy139]; with_reducible exact H) | (have H2_ := (Option.bind_some _ _).symm.trans H; rw [hy139]; with_reducible exact H2_) | (have H2_ := (Option.bind_some _ _).symm.trans H; with_reducible exact H2_) | with_reducible exact H | (rw [hy139]; exact H) | exact H
        have Ny139 := Aside0.mk hy139
        clear hy139
        have H' := Aside0.mk H
        clear H
        have p124 : 0 ≤ (x4_1 : Int) := of_decide_eq_true (by first | (with_reducible assumption) | assumption)
        have q124 : x4_1 < (l0.length : Int) := of_decide_eq_true (by first | (with_reducible assumption) | assumption)
        obtain ⟨ad124, A124_4, c124_4, A124_5, c124_5, A124_6, c124_6, A124_7, c124_7, e124, hx124_0, hx124_1, hx124_2, hx124_3, hx124_4, hx124_5, hx124_6, hx124_7, hl124_4, hi124_4, hl124_5, hi124_5, hl124_6, hi124_6, hl124_7, hi124_7⟩ := at_T36 (Kd.V_reads' HO_0.out).2.2 x4_1 p124 q124
        cases e124
        obtain ⟨ce124, hce124, hMe124, hcc124⟩ := Kd.V_get HO_0.out z36 x4_1 p124 (by first | exact q124 | exact of_decide_eq_true (by first | (with_reducible assumption) | assumption) | (have e_ := (Kd.V_reads' HO_0.out).1; omega))
        obtain ⟨ua124_4, uc124_4, ua124_5, uc124_5, ua124_6, uc124_6, ua124_7, uc124_7, rfl, ul124_4, ge124_4, ul124_5, ge124_5, ul124_6, ge124_6, ul124_7, ge124_7⟩ := k36_openF hMe124
        have hv124_4 := hcc124 4 _ rfl
        rw [add_field _ _ 4 (by omega)] at hv124_4
        replace hv124_4 := Option.some.inj (hv124_4.symm.trans hx124_4)
        injection hv124_4 with hva_ hvn_ hvc_
        rw [hva_] at ge124_4
        rw [hvc_] at ul124_4
        have HL124_4 := Aside0.mk (show Kd.V k49 49 _ w.heap.size _ _ ((rd_T36 l0 x4_1).f4) from Kd.V_mk ul124_4 ge124_4)
        clear hva_ hvn_ hvc_ ge124_4 ul124_4
        have hv124_5 := hcc124 5 _ rfl
        rw [add_field _ _ 5 (by omega)] at hv124_5
        replace hv124_5 := Option.some.inj (hv124_5.symm.trans hx124_5)
        injection hv124_5 with hva_ hvn_ hvc_
        rw [hva_] at ge124_5
        rw [hvc_] at ul124_5
        have HL124_5 := Aside0.mk (show Kd.V Kd.string 9 _ w.heap.size _ _ ((rd_T36 l0 x4_1).f5) from Kd.V_mk ul124_5 ge124_5)
        clear hva_ hvn_ hvc_ ge124_5 ul124_5
        have hv124_6 := hcc124 6 _ rfl
        rw [add_field _ _ 6 (by omega)] at hv124_6
        replace hv124_6 := Option.some.inj (hv124_6.symm.trans hx124_6)
        injection hv124_6 with hva_ hvn_ hvc_
        rw [hva_] at ge124_6
        rw [hvc_] at ul124_6
        have HL124_6 := Aside0.mk (show Kd.V k36 36 _ w.heap.size _ _ ((rd_T36 l0 x4_1).f6) from Kd.V_mk ul124_6 ge124_6)
        clear hva_ hvn_ hvc_ ge124_6 ul124_6
        have hv124_7 := hcc124 7 _ rfl
        rw [add_field _ _ 7 (by omega)] at hv124_7
        replace hv124_7 := Option.some.inj (hv124_7.symm.trans hx124_7)
        injection hv124_7 with hva_ hvn_ hvc_
        rw [hva_] at ge124_7
        rw [hvc_] at ul124_7
        have HL124_7 := Aside0.mk (show Kd.V k36 36 _ w.heap.size _ _ ((rd_T36 l0 x4_1).f7) from Kd.V_mk ul124_7 ge124_7)
        clear hva_ hvn_ hvc_ ge124_7 ul124_7
        clear hcc124 hce124
        have HR124_4 := Aside0.mk hi124_4
        have HC124_4 := Aside0.mk hl124_4
        clear hi124_4 hl124_4
        have HR124_5 := Aside0.mk hi124_5
        have HC124_5 := Aside0.mk hl124_5
        clear hi124_5 hl124_5
        have HR124_6 := Aside0.mk hi124_6
        have HC124_6 := Aside0.mk hl124_6
        clear hi124_6 hl124_6
        have HR124_7 := Aside0.mk hi124_7
        have HC124_7 := Aside0.mk hl124_7
        clear hi124_7 hl124_7
        replace p124 := eq_true p124
        replace q124 := eq_true q124
        go_wp2_with (first | ((with_reducible refine gate_builtin (b := .append) (xs := #[.tmp 12, .tmp 17]) rfl ?_); at_builtin; refine Kd.N_append k36 (w0 := w) w.heap.size rfl (.tmp 12) (.tmp 17) 22 36 (.agg #[(.int .i64 0), (.string ⟨#[]⟩), (.string ⟨#[]⟩), (.string ⟨#[]⟩), (.slice none 0 0), (.slice none 0 0), (.slice none 0 0), (.slice none 0 0)]) 152 rfl Try.underlying22 info36 rfl (by decide) (by omega) u3 x3_1 (⟨(rd_T36 l0 x4_1).f0, (rd_T36 l0 x4_1).f1, (rd_T36 l0 x4_1).f2, (rd_T36 l0 x4_1).f3, (rd_T36 l0 x4_1).f4, (rd_T36 l0 x4_1).f5, (rd_T36 l0 x4_1).f6, (rd_T36 l0 x4_1).f7⟩ : S36) [.int .i64 ((rd_T36 l0 x4_1).f0), .string ((rd_T36 l0 x4_1).f1), .string ((rd_T36 l0 x4_1).f2), .string ((rd_T36 l0 x4_1).f3), .slice A124_4 ((rd_T36 l0 x4_1).f4).length c124_4, .slice A124_5 ((rd_T36 l0 x4_1).f5).length c124_5, .slice A124_6 ((rd_T36 l0 x4_1).f6).length c124_6, .slice A124_7 ((rd_T36 l0 x4_1).f7).length c124_7] (fun k_ => (P0_ k_ ∨ w.heap.size ≤ k_)) (fun k_ => ((fun k_ => (P0_ k_ ∨ w.heap.size ≤ k_))) k_ ∧ some k_ ≠ (u3 : Value).ownBlock) rfl rfl ?aP (fun _ hk => hk) ?aF ?aO ?aB ?aS ?aL ?_; (case aP => exact (k36_mkF _ _ (⟨(rd_T36 l0 x4_1).f0, (rd_T36 l0 x4_1).f1, (rd_T36 l0 x4_1).f2, (rd_T36 l0 x4_1).f3, (rd_T36 l0 x4_1).f4, (rd_T36 l0 x4_1).f5, (rd_T36 l0 x4_1).f6, (rd_T36 l0 x4_1).f7⟩ : S36) (Kd.V_reads' (Kd.V_mono (ok' := (fun k_ => ((fun k_ => (P0_ k_ ∨ w.heap.size ≤ k_))) k_ ∧ some k_ ≠ (u3 : Value).ownBlock)) (HL124_4.out) (fun k_ hk => ⟨hk.1, hk.2⟩))).2.1 (Kd.V_F (Kd.V_mono (ok' := (fun k_ => ((fun k_ => (P0_ k_ ∨ w.heap.size ≤ k_))) k_ ∧ some k_ ≠ (u3 : Value).ownBlock)) (HL124_4.out) (fun k_ hk => ⟨hk.1, hk.2⟩))) (Kd.V_reads' (Kd.V_mono (ok' := (fun k_ => ((fun k_ => (P0_ k_ ∨ w.heap.size ≤ k_))) k_ ∧ some k_ ≠ (u3 : Value).ownBlock)) (HL124_5.out) (fun k_ hk => ⟨hk.1, hk.2⟩))).2.1 (Kd.V_F (Kd.V_mono (ok' := (fun k_ => ((fun k_ => (P0_ k_ ∨ w.heap.size ≤ k_))) k_ ∧ some k_ ≠ (u3 : Value).ownBlock)) (HL124_5.out) (fun k_ hk => ⟨hk.1, hk.2⟩))) (Kd.V_reads' (Kd.V_mono (ok' := (fun k_ => ((fun k_ => (P0_ k_ ∨ w.heap.size ≤ k_))) k_ ∧ some k_ ≠ (u3 : Value).ownBlock)) (HL124_6.out) (fun k_ hk => ⟨hk.1, hk.2⟩))).2.1 (Kd.V_F (Kd.V_mono (ok' := (fun k_ => ((fun k_ => (P0_ k_ ∨ w.heap.size ≤ k_))) k_ ∧ some k_ ≠ (u3 : Value).ownBlock)) (HL124_6.out) (fun k_ hk => ⟨hk.1, hk.2⟩))) (Kd.V_reads' (Kd.V_mono (ok' := (fun k_ => ((fun k_ => (P0_ k_ ∨ w.heap.size ≤ k_))) k_ ∧ some k_ ≠ (u3 : Value).ownBlock)) (HL124_7.out) (fun k_ hk => ⟨hk.1, hk.2⟩))).2.1 (Kd.V_F (Kd.V_mono (ok' := (fun k_ => ((fun k_ => (P0_ k_ ∨ w.heap.size ≤ k_))) k_ ∧ some k_ ≠ (u3 : Value).ownBlock)) (HL124_7.out) (fun k_ hk => ⟨hk.1, hk.2⟩))))); (case aB => exact (by repeat (first | (with_reducible first | exact HB.out | apply below_alloc | apply pw_below_drewN | apply below_drew1) | exact HB.out))); (case aF => exact (fun k_ hk => (.inr (Nat.le_trans (below_size (by repeat (first | (with_reducible first | exact HB.out | apply below_alloc | apply pw_below_drewN | apply below_drew1) | exact HB.out))) hk)))); (case aO => exact (by (with_reducible repeat (first | apply Kd.N_alloc | apply Kd.N_drewN | apply Kd.N_drew)); exact HO_3.out)); (case aS => exact (below_size (by repeat (first | (with_reducible first | exact HB.out | apply below_alloc | apply pw_below_drewN | apply below_drew1) | exact HB.out)))); (case aL => have := LMc6.out; omega); intro v126 w11 ho hb hg hat; rw [← Ny125.out] at ho; have n0_ := Aside0.mk (Kd.V_afterv (ok := (fun k_ => (P0_ k_ ∨ w.heap.size ≤ k_))) (by (with_reducible repeat (first | apply Kd.V_alloc | apply Kd.V_drewN | apply Kd.V_drew)); exact HO_0.out) hg hat); have n1_ := Aside0.mk (Kd.V_afterv (ok := (fun k_ => (P0_ k_ ∨ w.heap.size ≤ k_))) (by (with_reducible repeat (first | apply Kd.V_alloc | apply Kd.V_drewN | apply Kd.V_drew)); exact HL124_4.out) hg hat); have n2_ := Aside0.mk (Kd.V_afterv (ok := (fun k_ => (P0_ k_ ∨ w.heap.size ≤ k_))) (by (with_reducible repeat (first | apply Kd.V_alloc | apply Kd.V_drewN | apply Kd.V_drew)); exact HL124_5.out) hg hat); have n3_ := Aside0.mk (Kd.V_afterv (ok := (fun k_ => (P0_ k_ ∨ w.heap.size ≤ k_))) (by (with_reducible repeat (first | apply Kd.V_alloc | apply Kd.V_drewN | apply Kd.V_drew)); exact HL124_6.out) hg hat); have n4_ := Aside0.mk (Kd.V_afterv (ok := (fun k_ => (P0_ k_ ∨ w.heap.size ≤ k_))) (by (with_reducible repeat (first | apply Kd.V_alloc | apply Kd.V_drewN | apply Kd.V_drew)); exact HL124_7.out) hg hat); have n5_ := Aside0.mk (hb); have n6_ := Aside0.mk (ho); clear HO_0; clear HL124_4; clear HL124_5; clear HL124_6; clear HL124_7; clear HB; clear HO_3; have HO_0 := n0_; have HL124_4 := n1_; have HL124_5 := n2_; have HL124_6 := n3_; have HL124_7 := n4_; have HB := n5_; have HO127 := n6_; clear n0_ n1_ n2_ n3_ n4_ n5_ n6_; clear ho hb hg hat; have p128 : 0 ≤ (x4_1 : Int) := of_decide_eq_true (by first | (with_reducible assumption) | assumption); have q128 : x4_1 < (l0.length : Int) := of_decide_eq_true (by first | (with_reducible assumption) | assumption); obtain ⟨ad128, A128_4, c128_4, A128_5, c128_5, A128_6, c128_6, A128_7, c128_7, e128, hx128_0, hx128_1, hx128_2, hx128_3, hx128_4, hx128_5, hx128_6, hx128_7, hl128_4, hi128_4, hl128_5, hi128_5, hl128_6, hi128_6, hl128_7, hi128_7⟩ := at_T36 (Kd.V_reads' HO_0.out).2.2 x4_1 p128 q128; obtain rfl : ad124 = ad128 := (by injection e128); obtain ⟨ce128, hce128, hMe128, hcc128⟩ := Kd.V_get HO_0.out z36 x4_1 p128 (by first | exact q128 | exact of_decide_eq_true (by first | (with_reducible assumption) | assumption) | (have e_ := (Kd.V_reads' HO_0.out).1; omega)); obtain ⟨ua128_4, uc128_4, ua128_5, uc128_5, ua128_6, uc128_6, ua128_7, uc128_7, rfl, ul128_4, ge128_4, ul128_5, ge128_5, ul128_6, ge128_6, ul128_7, ge128_7⟩ := k36_openF hMe128; have hv128_4 := hcc128 4 _ rfl; rw [add_field _ _ 4 (by omega)] at hv128_4; replace hv128_4 := Option.some.inj (hv128_4.symm.trans hx128_4); injection hv128_4 with hva_ hvn_ hvc_; rw [hva_] at ge128_4; rw [hvc_] at ul128_4; have HL128_4 := Aside0.mk (show Kd.V k49 49 _ w.heap.size _ _ ((rd_T36 l0 x4_1).f4) from Kd.V_mk ul128_4 ge128_4); clear hva_ hvn_ hvc_ ge128_4 ul128_4; have hv128_5 := hcc128 5 _ rfl; rw [add_field _ _ 5 (by omega)] at hv128_5; replace hv128_5 := Option.some.inj (hv128_5.symm.trans hx128_5); injection hv128_5 with hva_ hvn_ hvc_; rw [hva_] at ge128_5; rw [hvc_] at ul128_5; have HL128_5 := Aside0.mk (show Kd.V Kd.string 9 _ w.heap.size _ _ ((rd_T36 l0 x4_1).f5) from Kd.V_mk ul128_5 ge128_5); clear hva_ hvn_ hvc_ ge128_5 ul128_5; have hv128_6 := hcc128 6 _ rfl; rw [add_field _ _ 6 (by omega)] at hv128_6; replace hv128_6 := Option.some.inj (hv128_6.symm.trans hx128_6); injection hv128_6 with hva_ hvn_ hvc_; rw [hva_] at ge128_6; rw [hvc_] at ul128_6; have HL128_6 := Aside0.mk (show Kd.V k36 36 _ w.heap.size _ _ ((rd_T36 l0 x4_1).f6) from Kd.V_mk ul128_6 ge128_6); clear hva_ hvn_ hvc_ ge128_6 ul128_6; have hv128_7 := hcc128 7 _ rfl; rw [add_field _ _ 7 (by omega)] at hv128_7; replace hv128_7 := Option.some.inj (hv128_7.symm.trans hx128_7); injection hv128_7 with hva_ hvn_ hvc_; rw [hva_] at ge128_7; rw [hvc_] at ul128_7; have HL128_7 := Aside0.mk (show Kd.V k36 36 _ w.heap.size _ _ ((rd_T36 l0 x4_1).f7) from Kd.V_mk ul128_7 ge128_7); clear hva_ hvn_ hvc_ ge128_7 ul128_7; clear hcc128 hce128; have HR128_4 := Aside0.mk hi128_4; have HC128_4 := Aside0.mk hl128_4; clear hi128_4 hl128_4; have HR128_5 := Aside0.mk hi128_5; have HC128_5 := Aside0.mk hl128_5; clear hi128_5 hl128_5; have HR128_6 := Aside0.mk hi128_6; have HC128_6 := Aside0.mk hl128_6; clear hi128_6 hl128_6; have HR128_7 := Aside0.mk hi128_7; have HC128_7 := Aside0.mk hl128_7; clear hi128_7 hl128_7; replace p128 := eq_true p128; replace q128 := eq_true q128) | ((with_reducible refine gate_callee (f := 14) rfl ?_); refine goesL_ (some 25) rfl rfl Try.func14 (by kernel_rfl) rfl #[.slice A128_6 ((rd_T36 l0 x4_1).f6).length c128_6] rfl (by (try simp only [List.map_toArray, List.map_cons, List.map_nil]); first | done | rfl | (simp only [List.length_drop, List.length_take]; rfl)) ?_; (with_reducible refine (ih k1 (by have := HK1.out; omega) (fun k_ => ((P0_ k_ ∨ w.heap.size ≤ k_) ∧ some k_ ≠ (v126 : Value).ownBlock)) _ _ ((rd_T36 l0 x4_1).f6) t129 _ ?side1 A7.out).mono ?_); (case side1 => exact HL128_6.out); rintro e w12 ⟨v130, rfl, ho0, hb⟩; refine ⟨_, rfl, ?_⟩; have n0_ := Aside0.mk (Kd.V_elder' (by (with_reducible repeat (first | apply Kd.V_alloc | apply Kd.V_drewN | apply Kd.V_drew)); exact HO_0.out) (Kd.N_base ho0) hb); have n1_ := Aside0.mk (Kd.V_elder' (by (with_reducible repeat (first | apply Kd.V_alloc | apply Kd.V_drewN | apply Kd.V_drew)); exact HL124_4.out) (Kd.N_base ho0) hb); have n2_ := Aside0.mk (Kd.V_elder' (by (with_reducible repeat (first | apply Kd.V_alloc | apply Kd.V_drewN | apply Kd.V_drew)); exact HL124_5.out) (Kd.N_base ho0) hb); have n3_ := Aside0.mk (Kd.V_elder' (by (with_reducible repeat (first | apply Kd.V_alloc | apply Kd.V_drewN | apply Kd.V_drew)); exact HL124_6.out) (Kd.N_base ho0) hb); have n4_ := Aside0.mk (Kd.V_elder' (by (with_reducible repeat (first | apply Kd.V_alloc | apply Kd.V_drewN | apply Kd.V_drew)); exact HL124_7.out) (Kd.N_base ho0) hb); have n5_ := Aside0.mk (Kd.N_elder' (by (with_reducible repeat (first | apply Kd.N_alloc | apply Kd.N_drewN | apply Kd.N_drew)); exact HO127.out) (Kd.N_base ho0) hb); have n6_ := Aside0.mk (Kd.V_elder' (by (with_reducible repeat (first | apply Kd.V_alloc | apply Kd.V_drewN | apply Kd.V_drew)); exact HL128_4.out) (Kd.N_base ho0) hb); have n7_ := Aside0.mk (Kd.V_elder' (by (with_reducible repeat (first | apply Kd.V_alloc | apply Kd.V_drewN | apply Kd.V_drew)); exact HL128_5.out) (Kd.N_base ho0) hb); have n8_ := Aside0.mk (Kd.V_elder' (by (with_reducible repeat (first | apply Kd.V_alloc | apply Kd.V_drewN | apply Kd.V_drew)); exact HL128_6.out) (Kd.N_base ho0) hb); have n9_ := Aside0.mk (Kd.V_elder' (by (with_reducible repeat (first | apply Kd.V_alloc | apply Kd.V_drewN | apply Kd.V_drew)); exact HL128_7.out) (Kd.N_base ho0) hb); have n10_ := Aside0.mk (Kd.N_lower (Kd.N_mono (ok' := fun k_ => (P0_ k_ ∨ w.heap.size ≤ k_) ∧ some k_ ≠ (v126 : Value).ownBlock) ho0 (fun k_ hk_ => ⟨Or.elim hk_ (fun hs_ => hs_.1) (fun hn_ => (.inr (Nat.le_trans (below_size (by repeat (first | (with_reducible first | exact HB.out | apply below_alloc | apply pw_below_drewN | apply below_drew1) | exact HB.out))) hn_))), Or.elim hk_ (fun hs_ => hs_.2) (fun hn_ => (Kd.fresh' (Kd.N_lt (by (with_reducible repeat (first | apply Kd.N_alloc | apply Kd.N_drewN | apply Kd.N_drew)); exact HO127.out)) k_ hn_))⟩)) (below_size (by repeat (first | (with_reducible first | exact HB.out | apply below_alloc | apply pw_below_drewN | apply below_drew1) | exact HB.out)))); have n11_ := Aside0.mk (Kd.C_below (by repeat (first | (with_reducible exact HR128_4.out) | (with_reducible refine Kd.C_alloc ?_ _) | (with_reducible refine Kd.C_drewN ?_ _) | (with_reducible refine Kd.C_drew ?_) | exact HR128_4.out)) hb); have n12_ := Aside0.mk (Kd.C_below (by repeat (first | (with_reducible exact HR128_5.out) | (with_reducible refine Kd.C_alloc ?_ _) | (with_reducible refine Kd.C_drewN ?_ _) | (with_reducible refine Kd.C_drew ?_) | exact HR128_5.out)) hb); have n13_ := Aside0.mk (Kd.C_below (by repeat (first | (with_reducible exact HR128_6.out) | (with_reducible refine Kd.C_alloc ?_ _) | (with_reducible refine Kd.C_drewN ?_ _) | (with_reducible refine Kd.C_drew ?_) | exact HR128_6.out)) hb); have n14_ := Aside0.mk (Kd.C_below (by repeat (first | (with_reducible exact HR128_7.out) | (with_reducible refine Kd.C_alloc ?_ _) | (with_reducible refine Kd.C_drewN ?_ _) | (with_reducible refine Kd.C_drew ?_) | exact HR128_7.out)) hb); have n15_ := Aside0.mk (below_step (by repeat (first | (with_reducible first | exact HB.out | apply below_alloc | apply pw_below_drewN | apply below_drew1) | exact HB.out)) hb); clear HO_0; clear HL124_4; clear HL124_5; clear HL124_6; clear HL124_7; clear HO127; clear HL128_4; clear HL128_5; clear HL128_6; clear HL128_7; clear HR128_4; clear HR128_5; clear HR128_6; clear HR128_7; clear HB; have HO_0 := n0_; have HL124_4 := n1_; have HL124_5 := n2_; have HL124_6 := n3_; have HL124_7 := n4_; have HO127 := n5_; have HL128_4 := n6_; have HL128_5 := n7_; have HL128_6 := n8_; have HL128_7 := n9_; have HO131 := n10_; have HR128_4 := n11_; have HR128_5 := n12_; have HR128_6 := n13_; have HR128_7 := n14_; have HB := n15_; clear n0_ n1_ n2_ n3_ n4_ n5_ n6_ n7_ n8_ n9_ n10_ n11_ n12_ n13_ n14_ n15_; (try clear hb); (try clear hb2); (try clear hk); (try clear hi); (try clear ho0); obtain ⟨Ao14, co14, eo14⟩ := Kd.N_slice HO131.out; subst eo14) | ((with_reducible refine gate_builtin (b := .append) (xs := #[.tmp 19, .tmp 25]) rfl ?_); at_builtin; refine Kd.N_append_rows k36 (w0 := w) w.heap.size rfl (.tmp 19) (.tmp 25) 22 36 (.agg #[(.int .i64 0), (.string ⟨#[]⟩), (.string ⟨#[]⟩), (.string ⟨#[]⟩), (.slice none 0 0), (.slice none 0 0), (.slice none 0 0), (.slice none 0 0)]) 152 rfl Try.underlying22 info36 rfl (by decide) (by omega) v126 y125 t129 _ _ _ (fun k_ => (P0_ k_ ∨ w.heap.size ≤ k_)) (fun k_ => ((fun k_ => (P0_ k_ ∨ w.heap.size ≤ k_))) k_ ∧ some k_ ≠ (v126 : Value).ownBlock) rfl rfl ?aO ?aR (fun _ hk => hk) ?aF ?aB ?aS ?aL ?_; (case aR => exact (by skip; exact Kd.N_F (Kd.N_mono (ok' := (fun k_ => ((fun k_ => (P0_ k_ ∨ w.heap.size ≤ k_))) k_ ∧ some k_ ≠ (v126 : Value).ownBlock)) (HO131.out) (fun k_ hk => ⟨hk.1, hk.2⟩)))); (case aB => exact (by repeat (first | (with_reducible first | exact HB.out | apply below_alloc | apply pw_below_drewN | apply below_drew1) | exact HB.out))); (case aF => exact (fun k_ hk => (.inr (Nat.le_trans (below_size (by repeat (first | (with_reducible first | exact HB.out | apply below_alloc | apply pw_below_drewN | apply below_drew1) | exact HB.out))) hk)))); (case aO => exact (by (with_reducible repeat (first | apply Kd.N_alloc | apply Kd.N_drewN | apply Kd.N_drew)); exact Kd.N_mono HO127.out (fun _ hk => hk.1))); (case aS => exact (below_size (by repeat (first | (with_reducible first | exact HB.out | apply below_alloc | apply pw_below_drewN | apply below_drew1) | exact HB.out)))); (case aL => have := LMc8.out; omega); intro v133 w13 ho hb hg hat; rw [← Ny132.out] at ho; have n0_ := Aside0.mk (Kd.V_afterv (ok := (fun k_ => (P0_ k_ ∨ w.heap.size ≤ k_) ∧ some k_ ≠ (.slice Ao14 t129.length co14 : Value).ownBlock)) (by (with_reducible repeat (first | apply Kd.V_alloc | apply Kd.V_drewN | apply Kd.V_drew)); exact Kd.V_mono HO_0.out (fun _ hk => ⟨⟨hk.1.1, hk.2⟩, hk.1.2⟩)) hg hat); have n1_ := Aside0.mk (Kd.V_afterv (ok := (fun k_ => (P0_ k_ ∨ w.heap.size ≤ k_) ∧ some k_ ≠ (.slice Ao14 t129.length co14 : Value).ownBlock)) (by (with_reducible repeat (first | apply Kd.V_alloc | apply Kd.V_drewN | apply Kd.V_drew)); exact Kd.V_mono HL124_4.out (fun _ hk => ⟨⟨hk.1.1, hk.2⟩, hk.1.2⟩)) hg hat); have n2_ := Aside0.mk (Kd.V_afterv (ok := (fun k_ => (P0_ k_ ∨ w.heap.size ≤ k_) ∧ some k_ ≠ (.slice Ao14 t129.length co14 : Value).ownBlock)) (by (with_reducible repeat (first | apply Kd.V_alloc | apply Kd.V_drewN | apply Kd.V_drew)); exact Kd.V_mono HL124_5.out (fun _ hk => ⟨⟨hk.1.1, hk.2⟩, hk.1.2⟩)) hg hat); have n3_ := Aside0.mk (Kd.V_afterv (ok := (fun k_ => (P0_ k_ ∨ w.heap.size ≤ k_) ∧ some k_ ≠ (.slice Ao14 t129.length co14 : Value).ownBlock)) (by (with_reducible repeat (first | apply Kd.V_alloc | apply Kd.V_drewN | apply Kd.V_drew)); exact Kd.V_mono HL124_6.out (fun _ hk => ⟨⟨hk.1.1, hk.2⟩, hk.1.2⟩)) hg hat); have n4_ := Aside0.mk (Kd.V_afterv (ok := (fun k_ => (P0_ k_ ∨ w.heap.size ≤ k_) ∧ some k_ ≠ (.slice Ao14 t129.length co14 : Value).ownBlock)) (by (with_reducible repeat (first | apply Kd.V_alloc | apply Kd.V_drewN | apply Kd.V_drew)); exact Kd.V_mono HL124_7.out (fun _ hk => ⟨⟨hk.1.1, hk.2⟩, hk.1.2⟩)) hg hat); have n5_ := Aside0.mk (Kd.V_afterv (ok := (fun k_ => (P0_ k_ ∨ w.heap.size ≤ k_) ∧ some k_ ≠ (.slice Ao14 t129.length co14 : Value).ownBlock)) (by (with_reducible repeat (first | apply Kd.V_alloc | apply Kd.V_drewN | apply Kd.V_drew)); exact Kd.V_mono HL128_4.out (fun _ hk => ⟨⟨hk.1.1, hk.2⟩, hk.1.2⟩)) hg hat); have n6_ := Aside0.mk (Kd.V_afterv (ok := (fun k_ => (P0_ k_ ∨ w.heap.size ≤ k_) ∧ some k_ ≠ (.slice Ao14 t129.length co14 : Value).ownBlock)) (by (with_reducible repeat (first | apply Kd.V_alloc | apply Kd.V_drewN | apply Kd.V_drew)); exact Kd.V_mono HL128_5.out (fun _ hk => ⟨⟨hk.1.1, hk.2⟩, hk.1.2⟩)) hg hat); have n7_ := Aside0.mk (Kd.V_afterv (ok := (fun k_ => (P0_ k_ ∨ w.heap.size ≤ k_) ∧ some k_ ≠ (.slice Ao14 t129.length co14 : Value).ownBlock)) (by (with_reducible repeat (first | apply Kd.V_alloc | apply Kd.V_drewN | apply Kd.V_drew)); exact Kd.V_mono HL128_6.out (fun _ hk => ⟨⟨hk.1.1, hk.2⟩, hk.1.2⟩)) hg hat); have n8_ := Aside0.mk (Kd.V_afterv (ok := (fun k_ => (P0_ k_ ∨ w.heap.size ≤ k_) ∧ some k_ ≠ (.slice Ao14 t129.length co14 : Value).ownBlock)) (by (with_reducible repeat (first | apply Kd.V_alloc | apply Kd.V_drewN | apply Kd.V_drew)); exact Kd.V_mono HL128_7.out (fun _ hk => ⟨⟨hk.1.1, hk.2⟩, hk.1.2⟩)) hg hat); have n9_ := Aside0.mk (Kd.N_afterv (ok := (fun k_ => (P0_ k_ ∨ w.heap.size ≤ k_))) (by (with_reducible repeat (first | apply Kd.N_alloc | apply Kd.N_drewN | apply Kd.N_drew)); exact HO131.out) hg hat); have n10_ := Aside0.mk (hb); have n11_ := Aside0.mk (ho); clear HO_0; clear HL124_4; clear HL124_5; clear HL124_6; clear HL124_7; clear HL128_4; clear HL128_5; clear HL128_6; clear HL128_7; clear HO131; clear HB; clear HO127; have HO_0 := n0_; have HL124_4 := n1_; have HL124_5 := n2_; have HL124_6 := n3_; have HL124_7 := n4_; have HL128_4 := n5_; have HL128_5 := n6_; have HL128_6 := n7_; have HL128_7 := n8_; have HO131 := n9_; have HB := n10_; have HO134 := n11_; clear n0_ n1_ n2_ n3_ n4_ n5_ n6_ n7_ n8_ n9_ n10_ n11_; clear ho hb hg hat; have p135 : 0 ≤ (x4_1 : Int) := of_decide_eq_true (by first | (with_reducible assumption) | assumption); have q135 : x4_1 < (l0.length : Int) := of_decide_eq_true (by first | (with_reducible assumption) | assumption); obtain ⟨ad135, A135_4, c135_4, A135_5, c135_5, A135_6, c135_6, A135_7, c135_7, e135, hx135_0, hx135_1, hx135_2, hx135_3, hx135_4, hx135_5, hx135_6, hx135_7, hl135_4, hi135_4, hl135_5, hi135_5, hl135_6, hi135_6, hl135_7, hi135_7⟩ := at_T36 (Kd.V_reads' HO_0.out).2.2 x4_1 p135 q135; obtain rfl : ad124 = ad135 := (by injection e135); obtain ⟨ce135, hce135, hMe135, hcc135⟩ := Kd.V_get HO_0.out z36 x4_1 p135 (by first | exact q135 | exact of_decide_eq_true (by first | (with_reducible assumption) | assumption) | (have e_ := (Kd.V_reads' HO_0.out).1; omega)); obtain ⟨ua135_4, uc135_4, ua135_5, uc135_5, ua135_6, uc135_6, ua135_7, uc135_7, rfl, ul135_4, ge135_4, ul135_5, ge135_5, ul135_6, ge135_6, ul135_7, ge135_7⟩ := k36_openF hMe135; have hv135_4 := hcc135 4 _ rfl; rw [add_field _ _ 4 (by omega)] at hv135_4; replace hv135_4 := Option.some.inj (hv135_4.symm.trans hx135_4); injection hv135_4 with hva_ hvn_ hvc_; rw [hva_] at ge135_4; rw [hvc_] at ul135_4; have HL135_4 := Aside0.mk (show Kd.V k49 49 _ w.heap.size _ _ ((rd_T36 l0 x4_1).f4) from Kd.V_mk ul135_4 ge135_4); clear hva_ hvn_ hvc_ ge135_4 ul135_4; have hv135_5 := hcc135 5 _ rfl; rw [add_field _ _ 5 (by omega)] at hv135_5; replace hv135_5 := Option.some.inj (hv135_5.symm.trans hx135_5); injection hv135_5 with hva_ hvn_ hvc_; rw [hva_] at ge135_5; rw [hvc_] at ul135_5; have HL135_5 := Aside0.mk (show Kd.V Kd.string 9 _ w.heap.size _ _ ((rd_T36 l0 x4_1).f5) from Kd.V_mk ul135_5 ge135_5); clear hva_ hvn_ hvc_ ge135_5 ul135_5; have hv135_6 := hcc135 6 _ rfl; rw [add_field _ _ 6 (by omega)] at hv135_6; replace hv135_6 := Option.some.inj (hv135_6.symm.trans hx135_6); injection hv135_6 with hva_ hvn_ hvc_; rw [hva_] at ge135_6; rw [hvc_] at ul135_6; have HL135_6 := Aside0.mk (show Kd.V k36 36 _ w.heap.size _ _ ((rd_T36 l0 x4_1).f6) from Kd.V_mk ul135_6 ge135_6); clear hva_ hvn_ hvc_ ge135_6 ul135_6; have hv135_7 := hcc135 7 _ rfl; rw [add_field _ _ 7 (by omega)] at hv135_7; replace hv135_7 := Option.some.inj (hv135_7.symm.trans hx135_7); injection hv135_7 with hva_ hvn_ hvc_; rw [hva_] at ge135_7; rw [hvc_] at ul135_7; have HL135_7 := Aside0.mk (show Kd.V k36 36 _ w.heap.size _ _ ((rd_T36 l0 x4_1).f7) from Kd.V_mk ul135_7 ge135_7); clear hva_ hvn_ hvc_ ge135_7 ul135_7; clear hcc135 hce135; have HR135_4 := Aside0.mk hi135_4; have HC135_4 := Aside0.mk hl135_4; clear hi135_4 hl135_4; have HR135_5 := Aside0.mk hi135_5; have HC135_5 := Aside0.mk hl135_5; clear hi135_5 hl135_5; have HR135_6 := Aside0.mk hi135_6; have HC135_6 := Aside0.mk hl135_6; clear hi135_6 hl135_6; have HR135_7 := Aside0.mk hi135_7; have HC135_7 := Aside0.mk hl135_7; clear hi135_7 hl135_7; replace p135 := eq_true p135; replace q135 := eq_true q135) | ((with_reducible refine gate_callee (f := 14) rfl ?_); refine goesL_ (some 33) rfl rfl Try.func14 (by kernel_rfl) rfl #[.slice A135_7 ((rd_T36 l0 x4_1).f7).length c135_7] rfl (by (try simp only [List.map_toArray, List.map_cons, List.map_nil]); first | done | rfl | (simp only [List.length_drop, List.length_take]; rfl)) ?_; (with_reducible refine (ih k1 (by have := HK1.out; omega) (fun k_ => (((P0_ k_ ∨ w.heap.size ≤ k_) ∧ some k_ ≠ (.slice Ao14 t129.length co14 : Value).ownBlock) ∧ some k_ ≠ (v133 : Value).ownBlock)) _ _ ((rd_T36 l0 x4_1).f7) t136 _ ?side1 A9.out).mono ?_); (case side1 => exact HL135_7.out); rintro e w15 ⟨v137, rfl, ho0, hb⟩; refine ⟨_, rfl, ?_⟩; have n0_ := Aside0.mk (Kd.V_elder' (by (with_reducible repeat (first | apply Kd.V_alloc | apply Kd.V_drewN | apply Kd.V_drew)); exact HO_0.out) (Kd.N_base ho0) hb); have n1_ := Aside0.mk (Kd.V_elder' (by (with_reducible repeat (first | apply Kd.V_alloc | apply Kd.V_drewN | apply Kd.V_drew)); exact HL124_4.out) (Kd.N_base ho0) hb); have n2_ := Aside0.mk (Kd.V_elder' (by (with_reducible repeat (first | apply Kd.V_alloc | apply Kd.V_drewN | apply Kd.V_drew)); exact HL124_5.out) (Kd.N_base ho0) hb); have n3_ := Aside0.mk (Kd.V_elder' (by (with_reducible repeat (first | apply Kd.V_alloc | apply Kd.V_drewN | apply Kd.V_drew)); exact HL124_6.out) (Kd.N_base ho0) hb); have n4_ := Aside0.mk (Kd.V_elder' (by (with_reducible repeat (first | apply Kd.V_alloc | apply Kd.V_drewN | apply Kd.V_drew)); exact HL124_7.out) (Kd.N_base ho0) hb); have n5_ := Aside0.mk (Kd.V_elder' (by (with_reducible repeat (first | apply Kd.V_alloc | apply Kd.V_drewN | apply Kd.V_drew)); exact HL128_4.out) (Kd.N_base ho0) hb); have n6_ := Aside0.mk (Kd.V_elder' (by (with_reducible repeat (first | apply Kd.V_alloc | apply Kd.V_drewN | apply Kd.V_drew)); exact HL128_5.out) (Kd.N_base ho0) hb); have n7_ := Aside0.mk (Kd.V_elder' (by (with_reducible repeat (first | apply Kd.V_alloc | apply Kd.V_drewN | apply Kd.V_drew)); exact HL128_6.out) (Kd.N_base ho0) hb); have n8_ := Aside0.mk (Kd.V_elder' (by (with_reducible repeat (first | apply Kd.V_alloc | apply Kd.V_drewN | apply Kd.V_drew)); exact HL128_7.out) (Kd.N_base ho0) hb); have n9_ := Aside0.mk (Kd.N_elder' (by (with_reducible repeat (first | apply Kd.N_alloc | apply Kd.N_drewN | apply Kd.N_drew)); exact HO131.out) (Kd.N_base ho0) hb); have n10_ := Aside0.mk (Kd.N_elder' (by (with_reducible repeat (first | apply Kd.N_alloc | apply Kd.N_drewN | apply Kd.N_drew)); exact HO134.out) (Kd.N_base ho0) hb); have n11_ := Aside0.mk (Kd.V_elder' (by (with_reducible repeat (first | apply Kd.V_alloc | apply Kd.V_drewN | apply Kd.V_drew)); exact HL135_4.out) (Kd.N_base ho0) hb); have n12_ := Aside0.mk (Kd.V_elder' (by (with_reducible repeat (first | apply Kd.V_alloc | apply Kd.V_drewN | apply Kd.V_drew)); exact HL135_5.out) (Kd.N_base ho0) hb); have n13_ := Aside0.mk (Kd.V_elder' (by (with_reducible repeat (first | apply Kd.V_alloc | apply Kd.V_drewN | apply Kd.V_drew)); exact HL135_6.out) (Kd.N_base ho0) hb); have n14_ := Aside0.mk (Kd.V_elder' (by (with_reducible repeat (first | apply Kd.V_alloc | apply Kd.V_drewN | apply Kd.V_drew)); exact HL135_7.out) (Kd.N_base ho0) hb); have n15_ := Aside0.mk (Kd.N_lower (Kd.N_mono (ok' := fun k_ => (P0_ k_ ∨ w.heap.size ≤ k_) ∧ some k_ ≠ (.slice Ao14 t129.length co14 : Value).ownBlock ∧ some k_ ≠ (v133 : Value).ownBlock) ho0 (fun k_ hk_ => ⟨Or.elim hk_ (fun hs_ => hs_.1.1) (fun hn_ => (.inr (Nat.le_trans (below_size (by repeat (first | (with_reducible first | exact HB.out | apply below_alloc | apply pw_below_drewN | apply below_drew1) | exact HB.out))) hn_))), Or.elim hk_ (fun hs_ => hs_.1.2) (fun hn_ => (Kd.fresh' (Kd.N_lt (by (with_reducible repeat (first | apply Kd.N_alloc | apply Kd.N_drewN | apply Kd.N_drew)); exact HO131.out)) k_ hn_)), Or.elim hk_ (fun hs_ => hs_.2) (fun hn_ => (Kd.fresh' (Kd.N_lt (by (with_reducible repeat (first | apply Kd.N_alloc | apply Kd.N_drewN | apply Kd.N_drew)); exact HO134.out)) k_ hn_))⟩)) (below_size (by repeat (first | (with_reducible first | exact HB.out | apply below_alloc | apply pw_below_drewN | apply below_drew1) | exact HB.out)))); have n16_ := Aside0.mk (Kd.C_below (by repeat (first | (with_reducible exact HR135_4.out) | (with_reducible refine Kd.C_alloc ?_ _) | (with_reducible refine Kd.C_drewN ?_ _) | (with_reducible refine Kd.C_drew ?_) | exact HR135_4.out)) hb); have n17_ := Aside0.mk (Kd.C_below (by repeat (first | (with_reducible exact HR135_5.out) | (with_reducible refine Kd.C_alloc ?_ _) | (with_reducible refine Kd.C_drewN ?_ _) | (with_reducible refine Kd.C_drew ?_) | exact HR135_5.out)) hb); have n18_ := Aside0.mk (Kd.C_below (by repeat (first | (with_reducible exact HR135_6.out) | (with_reducible refine Kd.C_alloc ?_ _) | (with_reducible refine Kd.C_drewN ?_ _) | (with_reducible refine Kd.C_drew ?_) | exact HR135_6.out)) hb); have n19_ := Aside0.mk (Kd.C_below (by repeat (first | (with_reducible exact HR135_7.out) | (with_reducible refine Kd.C_alloc ?_ _) | (with_reducible refine Kd.C_drewN ?_ _) | (with_reducible refine Kd.C_drew ?_) | exact HR135_7.out)) hb); have n20_ := Aside0.mk (below_step (by repeat (first | (with_reducible first | exact HB.out | apply below_alloc | apply pw_below_drewN | apply below_drew1) | exact HB.out)) hb); clear HO_0; clear HL124_4; clear HL124_5; clear HL124_6; clear HL124_7; clear HL128_4; clear HL128_5; clear HL128_6; clear HL128_7; clear HO131; clear HO134; clear HL135_4; clear HL135_5; clear HL135_6; clear HL135_7; clear HR135_4; clear HR135_5; clear HR135_6; clear HR135_7; clear HB; have HO_0 := n0_; have HL124_4 := n1_; have HL124_5 := n2_; have HL124_6 := n3_; have HL124_7 := n4_; have HL128_4 := n5_; have HL128_5 := n6_; have HL128_6 := n7_; have HL128_7 := n8_; have HO131 := n9_; have HO134 := n10_; have HL135_4 := n11_; have HL135_5 := n12_; have HL135_6 := n13_; have HL135_7 := n14_; have HO138 := n15_; have HR135_4 := n16_; have HR135_5 := n17_; have HR135_6 := n18_; have HR135_7 := n19_; have HB := n20_; clear n0_ n1_ n2_ n3_ n4_ n5_ n6_ n7_ n8_ n9_ n10_ n11_ n12_ n13_ n14_ n15_ n16_ n17_ n18_ n19_ n20_; (try clear hb); (try clear hb2); (try clear hk); (try clear hi); (try clear ho0); obtain ⟨Ao17, co17, eo17⟩ := Kd.N_slice HO138.out; subst eo17) | ((with_reducible refine gate_builtin (b := .append) (xs := #[.tmp 27, .tmp 33]) rfl ?_); at_builtin; refine Kd.N_append_rows k36 (w0 := w) w.heap.size rfl (.tmp 27) (.tmp 33) 22 36 (.agg #[(.int .i64 0), (.string ⟨#[]⟩), (.string ⟨#[]⟩), (.string ⟨#[]⟩), (.slice none 0 0), (.slice none 0 0), (.slice none 0 0), (.slice none 0 0)]) 152 rfl Try.underlying22 info36 rfl (by decide) (by omega) v133 y132 t136 _ _ _ (fun k_ => (P0_ k_ ∨ w.heap.size ≤ k_)) (fun k_ => ((fun k_ => (P0_ k_ ∨ w.heap.size ≤ k_))) k_ ∧ some k_ ≠ (v133 : Value).ownBlock) rfl rfl ?aO ?aR (fun _ hk => hk) ?aF ?aB ?aS ?aL ?_; (case aR => exact (by skip; exact Kd.N_F (Kd.N_mono (ok' := (fun k_ => ((fun k_ => (P0_ k_ ∨ w.heap.size ≤ k_))) k_ ∧ some k_ ≠ (v133 : Value).ownBlock)) (HO138.out) (fun k_ hk => ⟨hk.1, hk.2.2⟩)))); (case aB => exact (by repeat (first | (with_reducible first | exact HB.out | apply below_alloc | apply pw_below_drewN | apply below_drew1) | exact HB.out))); (case aF => exact (fun k_ hk => (.inr (Nat.le_trans (below_size (by repeat (first | (with_reducible first | exact HB.out | apply below_alloc | apply pw_below_drewN | apply below_drew1) | exact HB.out))) hk)))); (case aO => exact (by (with_reducible repeat (first | apply Kd.N_alloc | apply Kd.N_drewN | apply Kd.N_drew)); exact Kd.N_mono HO134.out (fun _ hk => hk.1))); (case aS => exact (below_size (by repeat (first | (with_reducible first | exact HB.out | apply below_alloc | apply pw_below_drewN | apply below_drew1) | exact HB.out)))); (case aL => have := LMc10.out; omega); intro v140 w16 ho hb hg hat; rw [← Ny139.out] at ho; have n0_ := Aside0.mk (Kd.V_afterv (ok := (fun k_ => (P0_ k_ ∨ w.heap.size ≤ k_) ∧ some k_ ≠ (.slice Ao14 t129.length co14 : Value).ownBlock ∧ some k_ ≠ (.slice Ao17 t136.length co17 : Value).ownBlock)) (by (with_reducible repeat (first | apply Kd.V_alloc | apply Kd.V_drewN | apply Kd.V_drew)); exact Kd.V_mono HO_0.out (fun _ hk => ⟨⟨hk.1.1.1, ⟨hk.1.1.2, hk.2⟩⟩, hk.1.2⟩)) hg hat); have n1_ := Aside0.mk (Kd.V_afterv (ok := (fun k_ => (P0_ k_ ∨ w.heap.size ≤ k_) ∧ some k_ ≠ (.slice Ao14 t129.length co14 : Value).ownBlock ∧ some k_ ≠ (.slice Ao17 t136.length co17 : Value).ownBlock)) (by (with_reducible repeat (first | apply Kd.V_alloc | apply Kd.V_drewN | apply Kd.V_drew)); exact Kd.V_mono HL124_4.out (fun _ hk => ⟨⟨hk.1.1.1, ⟨hk.1.1.2, hk.2⟩⟩, hk.1.2⟩)) hg hat); have n2_ := Aside0.mk (Kd.V_afterv (ok := (fun k_ => (P0_ k_ ∨ w.heap.size ≤ k_) ∧ some k_ ≠ (.slice Ao14 t129.length co14 : Value).ownBlock ∧ some k_ ≠ (.slice Ao17 t136.length co17 : Value).ownBlock)) (by (with_reducible repeat (first | apply Kd.V_alloc | apply Kd.V_drewN | apply Kd.V_drew)); exact Kd.V_mono HL124_5.out (fun _ hk => ⟨⟨hk.1.1.1, ⟨hk.1.1.2, hk.2⟩⟩, hk.1.2⟩)) hg hat); have n3_ := Aside0.mk (Kd.V_afterv (ok := (fun k_ => (P0_ k_ ∨ w.heap.size ≤ k_) ∧ some k_ ≠ (.slice Ao14 t129.length co14 : Value).ownBlock ∧ some k_ ≠ (.slice Ao17 t136.length co17 : Value).ownBlock)) (by (with_reducible repeat (first | apply Kd.V_alloc | apply Kd.V_drewN | apply Kd.V_drew)); exact Kd.V_mono HL124_6.out (fun _ hk => ⟨⟨hk.1.1.1, ⟨hk.1.1.2, hk.2⟩⟩, hk.1.2⟩)) hg hat); have n4_ := Aside0.mk (Kd.V_afterv (ok := (fun k_ => (P0_ k_ ∨ w.heap.size ≤ k_) ∧ some k_ ≠ (.slice Ao14 t129.length co14 : Value).ownBlock ∧ some k_ ≠ (.slice Ao17 t136.length co17 : Value).ownBlock)) (by (with_reducible repeat (first | apply Kd.V_alloc | apply Kd.V_drewN | apply Kd.V_drew)); exact Kd.V_mono HL124_7.out (fun _ hk => ⟨⟨hk.1.1.1, ⟨hk.1.1.2, hk.2⟩⟩, hk.1.2⟩)) hg hat); have n5_ := Aside0.mk (Kd.V_afterv (ok := (fun k_ => (P0_ k_ ∨ w.heap.size ≤ k_) ∧ some k_ ≠ (.slice Ao14 t129.length co14 : Value).ownBlock ∧ some k_ ≠ (.slice Ao17 t136.length co17 : Value).ownBlock)) (by (with_reducible repeat (first | apply Kd.V_alloc | apply Kd.V_drewN | apply Kd.V_drew)); exact Kd.V_mono HL128_4.out (fun _ hk => ⟨⟨hk.1.1.1, ⟨hk.1.1.2, hk.2⟩⟩, hk.1.2⟩)) hg hat); have n6_ := Aside0.mk (Kd.V_afterv (ok := (fun k_ => (P0_ k_ ∨ w.heap.size ≤ k_) ∧ some k_ ≠ (.slice Ao14 t129.length co14 : Value).ownBlock ∧ some k_ ≠ (.slice Ao17 t136.length co17 : Value).ownBlock)) (by (with_reducible repeat (first | apply Kd.V_alloc | apply Kd.V_drewN | apply Kd.V_drew)); exact Kd.V_mono HL128_5.out (fun _ hk => ⟨⟨hk.1.1.1, ⟨hk.1.1.2, hk.2⟩⟩, hk.1.2⟩)) hg hat); have n7_ := Aside0.mk (Kd.V_afterv (ok := (fun k_ => (P0_ k_ ∨ w.heap.size ≤ k_) ∧ some k_ ≠ (.slice Ao14 t129.length co14 : Value).ownBlock ∧ some k_ ≠ (.slice Ao17 t136.length co17 : Value).ownBlock)) (by (with_reducible repeat (first | apply Kd.V_alloc | apply Kd.V_drewN | apply Kd.V_drew)); exact Kd.V_mono HL128_6.out (fun _ hk => ⟨⟨hk.1.1.1, ⟨hk.1.1.2, hk.2⟩⟩, hk.1.2⟩)) hg hat); have n8_ := Aside0.mk (Kd.V_afterv (ok := (fun k_ => (P0_ k_ ∨ w.heap.size ≤ k_) ∧ some k_ ≠ (.slice Ao14 t129.length co14 : Value).ownBlock ∧ some k_ ≠ (.slice Ao17 t136.length co17 : Value).ownBlock)) (by (with_reducible repeat (first | apply Kd.V_alloc | apply Kd.V_drewN | apply Kd.V_drew)); exact Kd.V_mono HL128_7.out (fun _ hk => ⟨⟨hk.1.1.1, ⟨hk.1.1.2, hk.2⟩⟩, hk.1.2⟩)) hg hat); have n9_ := Aside0.mk (Kd.N_afterv (ok := (fun k_ => (P0_ k_ ∨ w.heap.size ≤ k_) ∧ some k_ ≠ (.slice Ao17 t136.length co17 : Value).ownBlock)) (by (with_reducible repeat (first | apply Kd.N_alloc | apply Kd.N_drewN | apply Kd.N_drew)); exact Kd.N_mono HO131.out (fun _ hk => ⟨⟨hk.1.1, hk.2⟩, hk.1.2⟩)) hg hat); have n10_ := Aside0.mk (Kd.V_afterv (ok := (fun k_ => (P0_ k_ ∨ w.heap.size ≤ k_) ∧ some k_ ≠ (.slice Ao14 t129.length co14 : Value).ownBlock ∧ some k_ ≠ (.slice Ao17 t136.length co17 : Value).ownBlock)) (by (with_reducible repeat (first | apply Kd.V_alloc | apply Kd.V_drewN | apply Kd.V_drew)); exact Kd.V_mono HL135_4.out (fun _ hk => ⟨⟨hk.1.1.1, ⟨hk.1.1.2, hk.2⟩⟩, hk.1.2⟩)) hg hat); have n11_ := Aside0.mk (Kd.V_afterv (ok := (fun k_ => (P0_ k_ ∨ w.heap.size ≤ k_) ∧ some k_ ≠ (.slice Ao14 t129.length co14 : Value).ownBlock ∧ some k_ ≠ (.slice Ao17 t136.length co17 : Value).ownBlock)) (by (with_reducible repeat (first | apply Kd.V_alloc | apply Kd.V_drewN | apply Kd.V_drew)); exact Kd.V_mono HL135_5.out (fun _ hk => ⟨⟨hk.1.1.1, ⟨hk.1.1.2, hk.2⟩⟩, hk.1.2⟩)) hg hat); have n12_ := Aside0.mk (Kd.V_afterv (ok := (fun k_ => (P0_ k_ ∨ w.heap.size ≤ k_) ∧ some k_ ≠ (.slice Ao14 t129.length co14 : Value).ownBlock ∧ some k_ ≠ (.slice Ao17 t136.length co17 : Value).ownBlock)) (by (with_reducible repeat (first | apply Kd.V_alloc | apply Kd.V_drewN | apply Kd.V_drew)); exact Kd.V_mono HL135_6.out (fun _ hk => ⟨⟨hk.1.1.1, ⟨hk.1.1.2, hk.2⟩⟩, hk.1.2⟩)) hg hat); have n13_ := Aside0.mk (Kd.V_afterv (ok := (fun k_ => (P0_ k_ ∨ w.heap.size ≤ k_) ∧ some k_ ≠ (.slice Ao14 t129.length co14 : Value).ownBlock ∧ some k_ ≠ (.slice Ao17 t136.length co17 : Value).ownBlock)) (by (with_reducible repeat (first | apply Kd.V_alloc | apply Kd.V_drewN | apply Kd.V_drew)); exact Kd.V_mono HL135_7.out (fun _ hk => ⟨⟨hk.1.1.1, ⟨hk.1.1.2, hk.2⟩⟩, hk.1.2⟩)) hg hat); have n14_ := Aside0.mk (Kd.N_afterv (ok := (fun k_ => (P0_ k_ ∨ w.heap.size ≤ k_) ∧ some k_ ≠ (.slice Ao14 t129.length co14 : Value).ownBlock)) (by (with_reducible repeat (first | apply Kd.N_alloc | apply Kd.N_drewN | apply Kd.N_drew)); exact Kd.N_mono HO138.out (fun _ hk => ⟨⟨hk.1, hk.2.1⟩, hk.2.2⟩)) hg hat); have n15_ := Aside0.mk (hb); have n16_ := Aside0.mk (ho); clear HO_0; clear HL124_4; clear HL124_5; clear HL124_6; clear HL124_7; clear HL128_4; clear HL128_5; clear HL128_6; clear HL128_7; clear HO131; clear HL135_4; clear HL135_5; clear HL135_6; clear HL135_7; clear HO138; clear HB; clear HO134; have HO_0 := n0_; have HL124_4 := n1_; have HL124_5 := n2_; have HL124_6 := n3_; have HL124_7 := n4_; have HL128_4 := n5_; have HL128_5 := n6_; have HL128_6 := n7_; have HL128_7 := n8_; have HO131 := n9_; have HL135_4 := n10_; have HL135_5 := n11_; have HL135_6 := n12_; have HL135_7 := n13_; have HO138 := n14_; have HB := n15_; have HO141 := n16_; clear n0_ n1_ n2_ n3_ n4_ n5_ n6_ n7_ n8_ n9_ n10_ n11_ n12_ n13_ n14_ n15_ n16_; clear ho hb hg hat))
        go_roundg k1
        case measure => have := HK1.out; omega
        case rel => exact ⟨(y139), (wrap64 (x4_1 + 1)), (by first | rfl | (simp; done) | (simp [*]; done)), H', ⟨by have := HK1.out; omega⟩, ⟨by (with_reducible repeat (first | apply Kd.V_alloc | apply Kd.V_drewN | apply Kd.V_drew)); exact Kd.V_mono HO_0.out (fun _ hk => ⟨hk.1.1, hk.2⟩)⟩, ⟨by (with_reducible repeat (first | apply Kd.N_alloc | apply Kd.N_drewN | apply Kd.N_drew)); exact HO141.out⟩, ⟨by repeat (first | (with_reducible first | exact HB.out | apply below_alloc | apply pw_below_drewN | apply below_drew1) | exact HB.out)⟩⟩
       ·rw [if_neg c10] at H
        exact absurd H (by simp)
      ·rw [if_neg c8] at H
       exact absurd H (by simp)
     ·rw [if_neg c6] at H
      exact absurd H (by simp)
    ·rw [if_neg c5] at H
     exact absurd H (by simp)
   ·rw [if_neg c4] at H
    have c4b0 : decide (x4_1 < (l0.length : Int)) = false := decide_eq_false c4
    clear c4
    obtain rfl := Option.some.inj H
    go_wp2
    go_ret
    exact ⟨_, by first | rfl | (simp [errW_none, errW_some] <;> rfl) | (simp [*, errW_none, errW_some] <;> rfl), by (with_reducible repeat (first | apply Kd.N_alloc | apply Kd.N_drewN | apply Kd.N_drew)); exact HO_3.out, by repeat (first | (with_reducible first | exact HB.out | apply below_alloc | apply pw_below_drewN | apply below_drew1) | exact HB.out)⟩

/-! ### proteanref04_Site: function 11 -/
mutual
def proteanref04_Site.j0 : Nat → Int → List (S36) → Bool → Option (Int × Bool)
  | 0, _, _, _ => none
  | k + 1, x1, x6, x26 => if x26 = true then (some (0, false)) else (proteanref04_Site.l0 k x1 x6 0 0)
def proteanref04_Site.l0 : Nat → Int → List (S36) → Int → Int → Option (Int × Bool)
  | 0, _, _, _, _ => none
  | k + 1, x1, x6, x7, x8 => if x8 < x1 then (if 0 ≤ x8 then (if x8 < (x6.length : Int) then (if ((rd_T36 x6 x8).f0) = 4 then (proteanref04_Site.l0 k x1 x6 (wrap64 (x7 + 1)) (wrap64 (x8 + 1))) else (proteanref04_Site.l0 k x1 x6 x7 (wrap64 (x8 + 1)))) else (none)) else (none)) else (some (x7, true))
end
def proteanref04_Site.f (k : Nat) (l0 : List (S36)) (a1 : Int) : Option (Int × Bool) := (proteanref04_List.f k l0).bind fun t142 => (if a1 < 0 then (proteanref04_Site.j0 k a1 t142 true) else (if a1 ≥ (t142.length : Int) then (proteanref04_Site.j0 k a1 t142 true) else (if 0 ≤ a1 then (if a1 < (t142.length : Int) then (proteanref04_Site.j0 k a1 t142 (((rd_T36 t142 a1).f0) != 4)) else (none)) else (none))))
theorem proteanref04_Site.mono_l : ∀ k, (∀ y0 y1 y2, LeO (proteanref04_Site.j0 k y0 y1 y2) (proteanref04_Site.j0 (k + 1) y0 y1 y2)) ∧ (∀ y0 y1 y2 y3, LeO (proteanref04_Site.l0 k y0 y1 y2 y3) (proteanref04_Site.l0 (k + 1) y0 y1 y2 y3))
  | 0 => ⟨fun _ _ _ r h => by simp [proteanref04_Site.j0] at h, fun _ _ _ _ r h => by simp [proteanref04_Site.l0] at h⟩
  | k + 1 => by
    obtain ⟨ih0, ih1⟩ := proteanref04_Site.mono_l k
    refine ⟨?_, ?_⟩
    · intro y0 y1 y2
      unfold proteanref04_Site.j0
      repeat' first
      | (with_reducible exact ih0 _ _ _)
      | (with_reducible exact ih1 _ _ _ _)
      | (with_reducible exact proteanref04_List.mono _ _)
      | (with_reducible exact LeO.refl _)
      | (with_reducible exact LeO.none _)
      | (with_reducible refine LeO.ite ?_ ?_)
      | (with_reducible refine LeO.bind ?_ (fun _ => ?_))
      | exact ih0 _ _ _
      | exact ih1 _ _ _ _
      | exact proteanref04_List.mono _ _
      | exact LeO.none _
      | refine LeO.ite ?_ ?_
      | refine LeO.bind ?_ (fun _ => ?_)
    · intro y0 y1 y2 y3
      unfold proteanref04_Site.l0
      repeat' first
      | (with_reducible exact ih0 _ _ _)
      | (with_reducible exact ih1 _ _ _ _)
      | (with_reducible exact proteanref04_List.mono _ _)
      | (with_reducible exact LeO.refl _)
      | (with_reducible exact LeO.none _)
      | (with_reducible refine LeO.ite ?_ ?_)
      | (with_reducible refine LeO.bind ?_ (fun _ => ?_))
      | exact ih0 _ _ _
      | exact ih1 _ _ _ _
      | exact proteanref04_List.mono _ _
      | exact LeO.none _
      | refine LeO.ite ?_ ?_
      | refine LeO.bind ?_ (fun _ => ?_)
theorem proteanref04_Site.mono : ∀ a0 a1 k, LeO (proteanref04_Site.f k a0 a1) (proteanref04_Site.f (k + 1) a0 a1) := by
 intro a0 a1 k
 obtain ⟨ih0, ih1⟩ := proteanref04_Site.mono_l k
 unfold proteanref04_Site.f
 repeat' first
   | (with_reducible exact ih0 _ _ _)
   | (with_reducible exact ih1 _ _ _ _)
   | (with_reducible exact proteanref04_List.mono _ _)
   | (with_reducible exact LeO.refl _)
   | (with_reducible exact LeO.none _)
   | (with_reducible refine LeO.ite ?_ ?_)
   | (with_reducible refine LeO.bind ?_ (fun _ => ?_))
   | exact ih0 _ _ _
   | exact ih1 _ _ _ _
   | exact proteanref04_List.mono _ _
   | exact LeO.none _
   | refine LeO.ite ?_ ?_
   | refine LeO.bind ?_ (fun _ => ?_)
set_option maxHeartbeats 8000000 in
set_option maxRecDepth 100000 in
theorem proteanref04_Site.calls (k : Nat) (A0 : Option Addr) (c0 : Nat) (l0 : List (S36)) (a1 : Int) (r1 : Int) (r2 : Bool) (w : World) (hr0 : Kd.C k36 w A0 l0.length l0) (hc0 : l0.length ≤ c0) (h : proteanref04_Site.f k l0 a1 = some (r1, r2)) :
    Calls Try.prog 11 #[.slice A0 l0.length c0, .int .i64 a1] w fun e w' => e = .returned (.tuple #[.int .i64 r1, .bool r2]) ∧ Below w.heap.size w w' := by
 have HR0 := Aside0.mk hr0
 have HC0 := Aside0.mk hc0
 clear hr0 hc0
 have HB := Aside0.mk (Below.refl w.heap.size w)
 have H : ((proteanref04_List.f k l0).bind fun t142 => (if a1 < 0 then (proteanref04_Site.j0 k a1 t142 true) else (if a1 ≥ (t142.length : Int) then (proteanref04_Site.j0 k a1 t142 true) else (if 0 ≤ a1 then (if a1 < (t142.length : Int) then (proteanref04_Site.j0 k a1 t142 (((rd_T36 t142 a1).f0) != 4)) else (none)) else (none))))) = some (r1, r2) := h
 clear h
 replace H := Option.bind_eq_some_iff.mp H
 obtain ⟨t142, A30, H⟩ := H
 replace H : (if a1 < 0 then (proteanref04_Site.j0 k a1 t142 true) else (if a1 ≥ (t142.length : Int) then (proteanref04_Site.j0 k a1 t142 true) else (if 0 ≤ a1 then (if a1 < (t142.length : Int) then (proteanref04_Site.j0 k a1 t142 (((rd_T36 t142 a1).f0) != 4)) else (none)) else (none)))) = some (r1, r2) := H
 have A3 := Aside0.mk A30
 clear A30
 have HC4 := Aside0.mk H
 clear H
 go_enter Try.func11, Try.ntmps11
 go_upto_region 2 with (first | ((with_reducible refine gate_callee (f := 14) rfl ?_); refine goesL_ (some 10) rfl rfl Try.func14 (by kernel_rfl) rfl #[.slice A0 l0.length c0] rfl (by (try simp only [List.map_toArray, List.map_cons, List.map_nil]); first | done | rfl | (simp only [List.length_drop, List.length_take]; rfl)) ?_; (with_reducible refine (proteanref04_List.calls k (fun k_ => k_ < w.heap.size) _ _ l0 t142 _ ?side1 A3.out).mono ?_); (case side1 => exact Kd.V_mk HC0.out (Kd.F_below (Kd.C_F k36_heap HR0.out) (by repeat (first | (with_reducible first | exact HB.out | apply below_alloc | apply pw_below_drewN | apply below_drew1) | exact HB.out)))); rintro e w5 ⟨v143, rfl, ho0, hb⟩; refine ⟨_, rfl, ?_⟩; have n0_ := Aside0.mk (Kd.N_lower (Kd.N_mono (ok' := fun k_ => True) ho0 (fun k_ hk_ => trivial)) (below_size (by repeat (first | (with_reducible first | exact HB.out | apply below_alloc | apply pw_below_drewN | apply below_drew1) | exact HB.out)))); have n1_ := Aside0.mk (below_step (by repeat (first | (with_reducible first | exact HB.out | apply below_alloc | apply pw_below_drewN | apply below_drew1) | exact HB.out)) hb); clear HB; have HO144 := n0_; have HB := n1_; clear n0_ n1_; (try clear hb); (try clear hb2); (try clear hk); (try clear hi); (try clear ho0)))
 (try simp only [Act.put, List.setIfInBounds_toArray, List.set_cons_zero, List.set_cons_succ])
 go_cut [26] (fun v26 wc => ∃ (kq : Nat) (x26_3 : Bool), v26 = .bool x26_3 ∧ Aside0 (proteanref04_Site.j0 kq a1 t142 x26_3 = some (r1, r2)) ∧ Aside0 (kq ≤ k) ∧ Aside0 (Kd.N k36 36 wc w.heap.size (fun _ => True) v143 t142) ∧ Aside0 (Below w.heap.size w wc))
 case first =>
  have H := HC4.out
  clear HC4
  by_cases c6 : a1 < 0
  ·rw [if_pos c6] at H
   have c6b0 : decide (a1 < 0) = true := decide_eq_true c6
   clear c6
   (first | rw [c6b0] | (simp only [i64_w, i32_w]; rw [c6b0]) | skip)
   have H' := Aside0.mk H
   clear H
   go_wp2
   go_meet
   case rel => exact ⟨_, (true), (by first | rfl | (simp; done) | (simp [*]; done)), H', ⟨by first | omega | exact Nat.le_refl _⟩, ⟨by (with_reducible repeat (first | apply Kd.N_alloc | apply Kd.N_drewN | apply Kd.N_drew)); exact HO144.out⟩, ⟨by repeat (first | (with_reducible first | exact HB.out | apply below_alloc | apply pw_below_drewN | apply below_drew1) | exact HB.out)⟩⟩
  ·rw [if_neg c6] at H
   have c6b0 : decide (a1 < 0) = false := decide_eq_false c6
   clear c6
   (first | rw [c6b0] | (simp only [i64_w, i32_w]; rw [c6b0]) | skip)
   by_cases c7 : a1 ≥ (t142.length : Int)
   ·rw [if_pos c7] at H
    have c7b0 : decide ((t142.length : Int) ≤ a1) = true := decide_eq_true c7
    clear c7
    have H' := Aside0.mk H
    clear H
    obtain ⟨Ao8, co8, eo8⟩ := Kd.N_slice HO144.out
    subst eo8
    go_wp2
    go_meet
    case rel => exact ⟨_, (true), (by first | rfl | (simp; done) | (simp [*]; done)), H', ⟨by first | omega | exact Nat.le_refl _⟩, ⟨by (with_reducible repeat (first | apply Kd.N_alloc | apply Kd.N_drewN | apply Kd.N_drew)); exact HO144.out⟩, ⟨by repeat (first | (with_reducible first | exact HB.out | apply below_alloc | apply pw_below_drewN | apply below_drew1) | exact HB.out)⟩⟩
   ·rw [if_neg c7] at H
    have c7b0 : decide ((t142.length : Int) ≤ a1) = false := decide_eq_false c7
    clear c7
    by_cases c9 : 0 ≤ a1
    ·rw [if_pos c9] at H
     have c9b0 : decide (0 ≤ a1) = true := decide_eq_true c9
     clear c9
     by_cases c10 : a1 < (t142.length : Int)
     ·rw [if_pos c10] at H
      have c10b0 : decide (a1 < (t142.length : Int)) = true := decide_eq_true c10
      clear c10
      have H' := Aside0.mk H
      clear H
      obtain ⟨Ao11, co11, eo11⟩ := Kd.N_slice HO144.out
      subst eo11
      have p145 : 0 ≤ (a1 : Int) := of_decide_eq_true (by first | (with_reducible assumption) | assumption)
      have q145 : a1 < (t142.length : Int) := of_decide_eq_true (by first | (with_reducible assumption) | assumption)
      obtain ⟨ad145, A145_4, c145_4, A145_5, c145_5, A145_6, c145_6, A145_7, c145_7, e145, hx145_0, hx145_1, hx145_2, hx145_3, hx145_4, hx145_5, hx145_6, hx145_7, hl145_4, hi145_4, hl145_5, hi145_5, hl145_6, hi145_6, hl145_7, hi145_7⟩ := at_T36 (Kd.N_reads' HO144.out).2.2 a1 p145 q145
      cases e145
      obtain ⟨ce145, hce145, hMe145, hcc145⟩ := Kd.N_get HO144.out z36 a1 p145 (by first | exact q145 | exact of_decide_eq_true (by first | (with_reducible assumption) | assumption) | (have e_ := (Kd.N_reads' HO144.out).1; omega))
      obtain ⟨ua145_4, uc145_4, ua145_5, uc145_5, ua145_6, uc145_6, ua145_7, uc145_7, rfl, ul145_4, ge145_4, ul145_5, ge145_5, ul145_6, ge145_6, ul145_7, ge145_7⟩ := k36_openF hMe145
      have hv145_4 := hcc145 4 _ rfl
      rw [add_field _ _ 4 (by omega)] at hv145_4
      replace hv145_4 := Option.some.inj (hv145_4.symm.trans hx145_4)
      injection hv145_4 with hva_ hvn_ hvc_
      rw [hva_] at ge145_4
      rw [hvc_] at ul145_4
      have HL145_4 := Aside0.mk (show Kd.V k49 49 _ w.heap.size _ _ ((rd_T36 t142 a1).f4) from Kd.V_mk ul145_4 ge145_4)
      clear hva_ hvn_ hvc_ ge145_4 ul145_4
      have hv145_5 := hcc145 5 _ rfl
      rw [add_field _ _ 5 (by omega)] at hv145_5
      replace hv145_5 := Option.some.inj (hv145_5.symm.trans hx145_5)
      injection hv145_5 with hva_ hvn_ hvc_
      rw [hva_] at ge145_5
      rw [hvc_] at ul145_5
      have HL145_5 := Aside0.mk (show Kd.V Kd.string 9 _ w.heap.size _ _ ((rd_T36 t142 a1).f5) from Kd.V_mk ul145_5 ge145_5)
      clear hva_ hvn_ hvc_ ge145_5 ul145_5
      have hv145_6 := hcc145 6 _ rfl
      rw [add_field _ _ 6 (by omega)] at hv145_6
      replace hv145_6 := Option.some.inj (hv145_6.symm.trans hx145_6)
      injection hv145_6 with hva_ hvn_ hvc_
      rw [hva_] at ge145_6
      rw [hvc_] at ul145_6
      have HL145_6 := Aside0.mk (show Kd.V k36 36 _ w.heap.size _ _ ((rd_T36 t142 a1).f6) from Kd.V_mk ul145_6 ge145_6)
      clear hva_ hvn_ hvc_ ge145_6 ul145_6
      have hv145_7 := hcc145 7 _ rfl
      rw [add_field _ _ 7 (by omega)] at hv145_7
      replace hv145_7 := Option.some.inj (hv145_7.symm.trans hx145_7)
      injection hv145_7 with hva_ hvn_ hvc_
      rw [hva_] at ge145_7
      rw [hvc_] at ul145_7
      have HL145_7 := Aside0.mk (show Kd.V k36 36 _ w.heap.size _ _ ((rd_T36 t142 a1).f7) from Kd.V_mk ul145_7 ge145_7)
      clear hva_ hvn_ hvc_ ge145_7 ul145_7
      clear hcc145 hce145
      have HR145_4 := Aside0.mk hi145_4
      have HC145_4 := Aside0.mk hl145_4
      clear hi145_4 hl145_4
      have HR145_5 := Aside0.mk hi145_5
      have HC145_5 := Aside0.mk hl145_5
      clear hi145_5 hl145_5
      have HR145_6 := Aside0.mk hi145_6
      have HC145_6 := Aside0.mk hl145_6
      clear hi145_6 hl145_6
      have HR145_7 := Aside0.mk hi145_7
      have HC145_7 := Aside0.mk hl145_7
      clear hi145_7 hl145_7
      replace p145 := eq_true p145
      replace q145 := eq_true q145
      go_wp2
      go_meet
      case rel => exact ⟨_, ((((rd_T36 t142 a1).f0) != 4)), (by first | rfl | (simp; done) | (simp [*]; done)), H', ⟨by first | omega | exact Nat.le_refl _⟩, ⟨by (with_reducible repeat (first | apply Kd.N_alloc | apply Kd.N_drewN | apply Kd.N_drew)); exact HO144.out⟩, ⟨by repeat (first | (with_reducible first | exact HB.out | apply below_alloc | apply pw_below_drewN | apply below_drew1) | exact HB.out)⟩⟩
     ·rw [if_neg c10] at H
      exact absurd H (by simp)
    ·rw [if_neg c9] at H
     exact absurd H (by simp)
 case rest =>
  clear HC4
  try clear c1
  try clear p1
  try clear q1
  try clear hx1
  try clear p2
  try clear c6
  try clear c6b0
  try clear c7
  try clear c7b0
  try clear c9
  try clear c9b0
  try clear c10
  try clear c10b0
  try clear c11
  try clear hx145_0
  try clear hx145_1
  try clear hx145_2
  try clear hx145_3
  try clear hx145_4
  try clear hx145_5
  try clear hx145_6
  try clear hx145_7
  try clear p145
  try clear q145
  obtain ⟨kq, x26_3, rfl, HA, HJ3, HO_6, HB⟩ := hcut
  cases kq with
  | zero => exact absurd HA.out (by simp [proteanref04_Site.j0])
  | succ kj3 =>
   have H := HA.out
   clear HA
   simp only [proteanref04_Site.j0] at H
   by_cases c12 : x26_3 = true
   ·subst c12
    have H1 : (some (0, false)) = some (r1, r2) := by rw [if_pos rfl] at H; exact H
    clear H
    have H := H1
    clear H1
    simp only [Option.some.injEq, Prod.mk.injEq] at H
    obtain ⟨rfl, rfl⟩ := H
    go_wp2
    go_ret2
    exact ⟨by first | rfl | (simp [errW_none, errW_some] <;> rfl) | (simp [*, errW_none, errW_some] <;> rfl), by repeat (first | (with_reducible first | exact HB.out | apply below_alloc | apply pw_below_drewN | apply below_drew1) | exact HB.out)⟩
   ·replace c12 := Bool.eq_false_iff.mpr c12
    subst c12
    have H1 : (proteanref04_Site.l0 kj3 a1 t142 0 0) = some (r1, r2) := by rw [if_neg (show ¬ (false = true) by decide)] at H; exact H
    clear H
    have H := H1
    clear H1
    have H' := Aside0.mk H
    clear H
    go_wp2
    go_loopg [7, 8] kj3 (fun kq v7 v8 w' => ∃ (x7_2 : Int) (x8_2 : Int), v7 = .int .i64 x7_2 ∧ v8 = .int .i64 x8_2 ∧ Aside0 (proteanref04_Site.l0 kq a1 t142 x7_2 x8_2 = some (r1, r2)) ∧ Aside0 (kq ≤ kj3) ∧ Aside0 (Kd.N k36 36 w' w.heap.size (fun _ => True) v143 t142) ∧ Aside0 (Below w.heap.size w w'))
    case atStart => exact ⟨(0), (0), (by first | rfl | (simp; done) | (simp [*]; done)), (by first | rfl | (simp; done) | (simp [*]; done)), H', ⟨Nat.le_refl _⟩, ⟨by (with_reducible repeat (first | apply Kd.N_alloc | apply Kd.N_drewN | apply Kd.N_drew)); exact HO_6.out⟩, ⟨by repeat (first | (with_reducible first | exact HB.out | apply below_alloc | apply pw_below_drewN | apply below_drew1) | exact HB.out)⟩⟩
    case round =>
     clear H'
     try clear c1
     try clear p1
     try clear q1
     try clear hx1
     try clear p2
     try clear c6
     try clear c6b0
     try clear c7
     try clear c7b0
     try clear c9
     try clear c9b0
     try clear c10
     try clear c10b0
     try clear c11
     try clear c12
     try clear hx145_0
     try clear hx145_1
     try clear hx145_2
     try clear hx145_3
     try clear hx145_4
     try clear hx145_5
     try clear hx145_6
     try clear hx145_7
     try clear p1
     try clear p145
     try clear p2
     try clear q1
     try clear q145
     obtain ⟨x7_2, x8_2, rfl, rfl, HA, HK2, HO_6, HB⟩ := hrel
     cases gk with
     | zero => exact absurd HA.out (by simp [proteanref04_Site.l0])
     | succ k2 =>
      have H := HA.out
      clear HA
      simp only [proteanref04_Site.l0] at H
      by_cases c13 : x8_2 < a1
      ·rw [if_pos c13] at H
       have c13b0 : decide (x8_2 < a1) = true := decide_eq_true c13
       clear c13
       by_cases c14 : 0 ≤ x8_2
       ·rw [if_pos c14] at H
        have c14b0 : decide (0 ≤ x8_2) = true := decide_eq_true c14
        clear c14
        by_cases c15 : x8_2 < (t142.length : Int)
        ·rw [if_pos c15] at H
         have c15b0 : decide (x8_2 < (t142.length : Int)) = true := decide_eq_true c15
         clear c15
         by_cases c16 : ((rd_T36 t142 x8_2).f0) = 4
         ·rw [if_pos c16] at H
          have c16b0 : (((rd_T36 t142 x8_2).f0) == 4) = true := beq_iff_eq.mpr c16
          have c16b1 : (((rd_T36 t142 x8_2).f0) != 4) = false := bne_eq_false_iff_eq.mpr c16
          clear c16
          have H' := Aside0.mk H
          clear H
          obtain ⟨Ao17, co17, eo17⟩ := Kd.N_slice HO_6.out
          subst eo17
          have p146 : 0 ≤ (x8_2 : Int) := of_decide_eq_true (by first | (with_reducible assumption) | assumption)
          have q146 : x8_2 < (t142.length : Int) := of_decide_eq_true (by first | (with_reducible assumption) | assumption)
          obtain ⟨ad146, A146_4, c146_4, A146_5, c146_5, A146_6, c146_6, A146_7, c146_7, e146, hx146_0, hx146_1, hx146_2, hx146_3, hx146_4, hx146_5, hx146_6, hx146_7, hl146_4, hi146_4, hl146_5, hi146_5, hl146_6, hi146_6, hl146_7, hi146_7⟩ := at_T36 (Kd.N_reads' HO_6.out).2.2 x8_2 p146 q146
          cases e146
          obtain ⟨ce146, hce146, hMe146, hcc146⟩ := Kd.N_get HO_6.out z36 x8_2 p146 (by first | exact q146 | exact of_decide_eq_true (by first | (with_reducible assumption) | assumption) | (have e_ := (Kd.N_reads' HO_6.out).1; omega))
          obtain ⟨ua146_4, uc146_4, ua146_5, uc146_5, ua146_6, uc146_6, ua146_7, uc146_7, rfl, ul146_4, ge146_4, ul146_5, ge146_5, ul146_6, ge146_6, ul146_7, ge146_7⟩ := k36_openF hMe146
          have hv146_4 := hcc146 4 _ rfl
          rw [add_field _ _ 4 (by omega)] at hv146_4
          replace hv146_4 := Option.some.inj (hv146_4.symm.trans hx146_4)
          injection hv146_4 with hva_ hvn_ hvc_
          rw [hva_] at ge146_4
          rw [hvc_] at ul146_4
          have HL146_4 := Aside0.mk (show Kd.V k49 49 _ w.heap.size _ _ ((rd_T36 t142 x8_2).f4) from Kd.V_mk ul146_4 ge146_4)
          clear hva_ hvn_ hvc_ ge146_4 ul146_4
          have hv146_5 := hcc146 5 _ rfl
          rw [add_field _ _ 5 (by omega)] at hv146_5
          replace hv146_5 := Option.some.inj (hv146_5.symm.trans hx146_5)
          injection hv146_5 with hva_ hvn_ hvc_
          rw [hva_] at ge146_5
          rw [hvc_] at ul146_5
          have HL146_5 := Aside0.mk (show Kd.V Kd.string 9 _ w.heap.size _ _ ((rd_T36 t142 x8_2).f5) from Kd.V_mk ul146_5 ge146_5)
          clear hva_ hvn_ hvc_ ge146_5 ul146_5
          have hv146_6 := hcc146 6 _ rfl
          rw [add_field _ _ 6 (by omega)] at hv146_6
          replace hv146_6 := Option.some.inj (hv146_6.symm.trans hx146_6)
          injection hv146_6 with hva_ hvn_ hvc_
          rw [hva_] at ge146_6
          rw [hvc_] at ul146_6
          have HL146_6 := Aside0.mk (show Kd.V k36 36 _ w.heap.size _ _ ((rd_T36 t142 x8_2).f6) from Kd.V_mk ul146_6 ge146_6)
          clear hva_ hvn_ hvc_ ge146_6 ul146_6
          have hv146_7 := hcc146 7 _ rfl
          rw [add_field _ _ 7 (by omega)] at hv146_7
          replace hv146_7 := Option.some.inj (hv146_7.symm.trans hx146_7)
          injection hv146_7 with hva_ hvn_ hvc_
          rw [hva_] at ge146_7
          rw [hvc_] at ul146_7
          have HL146_7 := Aside0.mk (show Kd.V k36 36 _ w.heap.size _ _ ((rd_T36 t142 x8_2).f7) from Kd.V_mk ul146_7 ge146_7)
          clear hva_ hvn_ hvc_ ge146_7 ul146_7
          clear hcc146 hce146
          have HR146_4 := Aside0.mk hi146_4
          have HC146_4 := Aside0.mk hl146_4
          clear hi146_4 hl146_4
          have HR146_5 := Aside0.mk hi146_5
          have HC146_5 := Aside0.mk hl146_5
          clear hi146_5 hl146_5
          have HR146_6 := Aside0.mk hi146_6
          have HC146_6 := Aside0.mk hl146_6
          clear hi146_6 hl146_6
          have HR146_7 := Aside0.mk hi146_7
          have HC146_7 := Aside0.mk hl146_7
          clear hi146_7 hl146_7
          replace p146 := eq_true p146
          replace q146 := eq_true q146
          go_wp2
          go_roundg k2
          case measure => have := HJ3.out; have := HK2.out; omega
          case rel => exact ⟨(wrap64 (x7_2 + 1)), (wrap64 (x8_2 + 1)), (by first | rfl | (simp; done) | (simp [*]; done)), (by first | rfl | (simp; done) | (simp [*]; done)), H', ⟨by have := HJ3.out; have := HK2.out; omega⟩, ⟨by (with_reducible repeat (first | apply Kd.N_alloc | apply Kd.N_drewN | apply Kd.N_drew)); exact HO_6.out⟩, ⟨by repeat (first | (with_reducible first | exact HB.out | apply below_alloc | apply pw_below_drewN | apply below_drew1) | exact HB.out)⟩⟩
         ·rw [if_neg c16] at H
          have c16b0 : (((rd_T36 t142 x8_2).f0) == 4) = false := beq_eq_false_iff_ne.mpr c16
          have c16b1 : (((rd_T36 t142 x8_2).f0) != 4) = true := bne_iff_ne.mpr c16
          have H' := Aside0.mk H
          clear H
          obtain ⟨Ao18, co18, eo18⟩ := Kd.N_slice HO_6.out
          subst eo18
          have p146 : 0 ≤ (x8_2 : Int) := of_decide_eq_true (by first | (with_reducible assumption) | assumption)
          have q146 : x8_2 < (t142.length : Int) := of_decide_eq_true (by first | (with_reducible assumption) | assumption)
          obtain ⟨ad146, A146_4, c146_4, A146_5, c146_5, A146_6, c146_6, A146_7, c146_7, e146, hx146_0, hx146_1, hx146_2, hx146_3, hx146_4, hx146_5, hx146_6, hx146_7, hl146_4, hi146_4, hl146_5, hi146_5, hl146_6, hi146_6, hl146_7, hi146_7⟩ := at_T36 (Kd.N_reads' HO_6.out).2.2 x8_2 p146 q146
          cases e146
          obtain ⟨ce146, hce146, hMe146, hcc146⟩ := Kd.N_get HO_6.out z36 x8_2 p146 (by first | exact q146 | exact of_decide_eq_true (by first | (with_reducible assumption) | assumption) | (have e_ := (Kd.N_reads' HO_6.out).1; omega))
          obtain ⟨ua146_4, uc146_4, ua146_5, uc146_5, ua146_6, uc146_6, ua146_7, uc146_7, rfl, ul146_4, ge146_4, ul146_5, ge146_5, ul146_6, ge146_6, ul146_7, ge146_7⟩ := k36_openF hMe146
          have hv146_4 := hcc146 4 _ rfl
          rw [add_field _ _ 4 (by omega)] at hv146_4
          replace hv146_4 := Option.some.inj (hv146_4.symm.trans hx146_4)
          injection hv146_4 with hva_ hvn_ hvc_
          rw [hva_] at ge146_4
          rw [hvc_] at ul146_4
          have HL146_4 := Aside0.mk (show Kd.V k49 49 _ w.heap.size _ _ ((rd_T36 t142 x8_2).f4) from Kd.V_mk ul146_4 ge146_4)
          clear hva_ hvn_ hvc_ ge146_4 ul146_4
          have hv146_5 := hcc146 5 _ rfl
          rw [add_field _ _ 5 (by omega)] at hv146_5
          replace hv146_5 := Option.some.inj (hv146_5.symm.trans hx146_5)
          injection hv146_5 with hva_ hvn_ hvc_
          rw [hva_] at ge146_5
          rw [hvc_] at ul146_5
          have HL146_5 := Aside0.mk (show Kd.V Kd.string 9 _ w.heap.size _ _ ((rd_T36 t142 x8_2).f5) from Kd.V_mk ul146_5 ge146_5)
          clear hva_ hvn_ hvc_ ge146_5 ul146_5
          have hv146_6 := hcc146 6 _ rfl
          rw [add_field _ _ 6 (by omega)] at hv146_6
          replace hv146_6 := Option.some.inj (hv146_6.symm.trans hx146_6)
          injection hv146_6 with hva_ hvn_ hvc_
          rw [hva_] at ge146_6
          rw [hvc_] at ul146_6
          have HL146_6 := Aside0.mk (show Kd.V k36 36 _ w.heap.size _ _ ((rd_T36 t142 x8_2).f6) from Kd.V_mk ul146_6 ge146_6)
          clear hva_ hvn_ hvc_ ge146_6 ul146_6
          have hv146_7 := hcc146 7 _ rfl
          rw [add_field _ _ 7 (by omega)] at hv146_7
          replace hv146_7 := Option.some.inj (hv146_7.symm.trans hx146_7)
          injection hv146_7 with hva_ hvn_ hvc_
          rw [hva_] at ge146_7
          rw [hvc_] at ul146_7
          have HL146_7 := Aside0.mk (show Kd.V k36 36 _ w.heap.size _ _ ((rd_T36 t142 x8_2).f7) from Kd.V_mk ul146_7 ge146_7)
          clear hva_ hvn_ hvc_ ge146_7 ul146_7
          clear hcc146 hce146
          have HR146_4 := Aside0.mk hi146_4
          have HC146_4 := Aside0.mk hl146_4
          clear hi146_4 hl146_4
          have HR146_5 := Aside0.mk hi146_5
          have HC146_5 := Aside0.mk hl146_5
          clear hi146_5 hl146_5
          have HR146_6 := Aside0.mk hi146_6
          have HC146_6 := Aside0.mk hl146_6
          clear hi146_6 hl146_6
          have HR146_7 := Aside0.mk hi146_7
          have HC146_7 := Aside0.mk hl146_7
          clear hi146_7 hl146_7
          replace p146 := eq_true p146
          replace q146 := eq_true q146
          go_wp2
          go_roundg k2
          case measure => have := HJ3.out; have := HK2.out; omega
          case rel => exact ⟨(x7_2), (wrap64 (x8_2 + 1)), (by first | rfl | (simp; done) | (simp [*]; done)), (by first | rfl | (simp; done) | (simp [*]; done)), H', ⟨by have := HJ3.out; have := HK2.out; omega⟩, ⟨by (with_reducible repeat (first | apply Kd.N_alloc | apply Kd.N_drewN | apply Kd.N_drew)); exact HO_6.out⟩, ⟨by repeat (first | (with_reducible first | exact HB.out | apply below_alloc | apply pw_below_drewN | apply below_drew1) | exact HB.out)⟩⟩
        ·rw [if_neg c15] at H
         exact absurd H (by simp)
       ·rw [if_neg c14] at H
        exact absurd H (by simp)
      ·rw [if_neg c13] at H
       have c13b0 : decide (x8_2 < a1) = false := decide_eq_false c13
       clear c13
       simp only [Option.some.injEq, Prod.mk.injEq] at H
       obtain ⟨rfl, rfl⟩ := H
       go_wp2
       go_ret2
       exact ⟨by first | rfl | (simp [errW_none, errW_some] <;> rfl) | (simp [*, errW_none, errW_some] <;> rfl), by repeat (first | (with_reducible first | exact HB.out | apply below_alloc | apply pw_below_drewN | apply below_drew1) | exact HB.out)⟩

end Go.Proofs.Ytdifnochnmiagaa.Pr
