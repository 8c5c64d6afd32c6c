/- A part of the proof that GraphTells returns true for every argument (the row of GraphTells: theorem graphTells_holds). Parts: Pr3 PuC Fix12 Pr4 Pr6 PuD LawGraphTells. No conditions beyond the given statement's own. -/
import Derived.Test.YtdbngbmokgeeiaaGTe1
import Derived.Test.YtdbngbmokgeeiaaGTe3
import Derived.Test.YtdbngbmokgeeiaaGTe2
import Derived.RegionTactic
import Derived.ChangeAlike
import Derived.Test.YtdbngbmokgeeiaaRows
import Derived.WalkKit
import Derived.ProofKit
import Derived.OpenShut
import Derived.ShutString
import Derived.ChangeOld
import Derived.Below
import Derived.SizedLaws

-- Written by wip/xprint.py (the kit's print, run over this seat with some contracts of my own). Not trusted: Lean checks it.
namespace Go.Proofs.Ytdbngbmokgeeiaa.Pr
open Go.RowKit Go.Proofs.YtdbngbmokgeeiaaW.PrintWords Go.Proofs.YtdbngbmokgeeiaaW.PrintLast Go.Proofs.YtdbngbmokgeeiaaW.PrintMore
attribute [local go_sem] max2_int min2_int max_two min_two max_three min_three max_four min_four   -- for this text's walks alone
set_option linter.unusedVariables false
set_option linter.unusedSimpArgs false

/-! ### proteanref12_calls: function 30 -/
/-! ### proteanref12_Calls: function 12 -/
/-! ### graph_Turn: function 19 -/
mutual
def graph_Turn.l0 : Nat → List (List Int) → List (List Int) → Int → Int → Option ((List (List Int)))
  | 0, _, _, _, _ => none
  | k + 1, x3, x14, x15, x16 => if x16 < x15 then (if 0 ≤ x16 then (if x16 < (x14.length : Int) then (graph_Turn.l1 k x3 x16 x14 x15 x16 (rd_L9 x14 x16) ((rd_L9 x14 x16).length : Int) 0) else (none)) else (none)) else (some x3)
def graph_Turn.l1 : Nat → List (List Int) → Int → List (List Int) → Int → Int → List Int → Int → Int → Option ((List (List Int)))
  | 0, _, _, _, _, _, _, _, _ => none
  | k + 1, x3, x4, x14, x15, x16, x21, x22, x23 => if x23 < x22 then (if 0 ≤ x23 then (if x23 < (x21.length : Int) then (if 0 ≤ (rd x21 x23) then (if (rd x21 x23) < (x3.length : Int) then (if (rd_L9 x3 (rd x21 x23)).length < 17592186044416 then (graph_Turn.l1 k (x3.set ((rd x21 x23) : Int).toNat ((rd_L9 x3 (rd x21 x23)) ++ [x4])) x4 x14 x15 x16 x21 x22 (wrap64 (x23 + 1))) else (none)) else (none)) else (none)) else (none)) else (none)) else (graph_Turn.l0 k x3 x14 x15 (wrap64 (x16 + 1)))
end
def graph_Turn.f (k : Nat) (l0 : List (List Int)) : Option ((List (List Int))) := (graph_May.f k l0).bind fun t272 => (if t272 = true then (if 0 ≤ (l0.length : Int) then (if ((l0.length : Int) : Int).toNat ≤ 11728124029610 then (graph_Turn.l0 k (List.replicate ((l0.length : Int) : Int).toNat []) l0 (l0.length : Int) 0) else (none)) else (none)) else (some ([] : List (List Int))))
set_option maxHeartbeats 8000000 in
set_option maxRecDepth 100000 in
theorem graph_Turn.calls (k : Nat) (A0 : Option Addr) (c0 : Nat) (l0 : List (List Int)) (r : List (List Int)) (w : World) (hr0 : Kd.C (Kd.slice 3 (Kd.int .i64)) w A0 l0.length l0) (hc0 : l0.length ≤ c0) (h : graph_Turn.f k l0 = some r) :
    Calls Try.prog 19 #[.slice A0 l0.length c0] w fun e w' => ∃ v0_ : Value, e = .returned (v0_) ∧ Kd.S (Kd.slice 3 (Kd.int .i64)) 32 w' w.heap.size (fun _ => True) v0_ r ∧ Below w.heap.size w w' := by
 have HR0 := Aside0.mk hr0
 have HC0 := Aside0.mk hc0
 clear hr0 hc0
 have HB := Aside0.mk (Below.refl w.heap.size w)
 have H : ((graph_May.f k l0).bind fun t272 => (if t272 = true then (if 0 ≤ (l0.length : Int) then (if ((l0.length : Int) : Int).toNat ≤ 11728124029610 then (graph_Turn.l0 k (List.replicate ((l0.length : Int) : Int).toNat []) l0 (l0.length : Int) 0) else (none)) else (none)) else (some ([] : List (List Int))))) = some r := h
 clear h
 replace H := Option.bind_eq_some_iff.mp H
 obtain ⟨t272, A20, H⟩ := H
 replace H : (if t272 = true then (if 0 ≤ (l0.length : Int) then (if ((l0.length : Int) : Int).toNat ≤ 11728124029610 then (graph_Turn.l0 k (List.replicate ((l0.length : Int) : Int).toNat []) l0 (l0.length : Int) 0) else (none)) else (none)) else (some ([] : List (List Int)))) = some r := H
 have A2 := Aside0.mk A20
 clear A20
 by_cases c3 : t272 = true
 ·subst c3
  have H1 : (if 0 ≤ (l0.length : Int) then (if ((l0.length : Int) : Int).toNat ≤ 11728124029610 then (graph_Turn.l0 k (List.replicate ((l0.length : Int) : Int).toNat []) l0 (l0.length : Int) 0) else (none)) else (none)) = some r := by rw [if_pos rfl] at H; exact H
  clear H
  have H := H1
  clear H1
  by_cases c4 : 0 ≤ (l0.length : Int)
  ·rw [if_pos c4] at H
   have c4b0 := eq_true c4
   have c4b1 : decide (0 ≤ (l0.length : Int)) = true := decide_eq_true c4
   clear c4
   by_cases c5 : ((l0.length : Int) : Int).toNat ≤ 11728124029610
   ·rw [if_pos c5] at H
    have c5b0 := eq_true c5
    have c5b1 : decide (((l0.length : Int) : Int).toNat ≤ 11728124029610) = true := decide_eq_true c5
    clear c5
    obtain ⟨y273, hy273⟩ : ∃ y_ : List (List Int), y_ = (List.replicate ((l0.length : Int) : Int).toNat []) := ⟨_, rfl⟩
    replace H : (graph_Turn.l0 k y273 l0 (l0.length : Int) 0) = some r := by first | (rw [hy273]; with_reducible exact H) | (have H2_ := (Option.bind_some _ _).symm.trans H; rw [hy273]; with_reducible exact H2_) | (have H2_ := (Option.bind_some _ _).symm.trans H; with_reducible exact H2_) | with_reducible exact H | (rw [hy273]; exact H) | exact H
    have Ny273 := Aside0.mk hy273
    clear hy273
    have H' := Aside0.mk H
    clear H
    go_enter Try.func19, Try.ntmps19
    go_wp2_with (first | ((with_reducible refine gate_callee (f := 13) rfl ?_); refine goesL_ (some 9) rfl rfl Try.func13 (by kernel_rfl) rfl #[.slice A0 l0.length c0] rfl (by (try simp only [List.map_toArray, List.map_cons, List.map_nil]); first | done | rfl | (simp only [List.length_drop, List.length_take]; rfl)) ?_; (with_reducible refine (graph_May.calls k _ _ l0 true _ ?side1 ?side2 A2.out).mono ?_); (case side1 => repeat (first | exact HR0.out | (with_reducible refine Kd.C_alloc ?_ _) | (with_reducible refine Kd.C_drewN ?_ _) | (with_reducible refine Kd.C_drew ?_))); (case side2 => exact HC0.out); rintro e w' ⟨rfl, ⟨nd, rfl⟩⟩; refine ⟨_, rfl, ?_⟩) | ((with_reducible refine gate_dst (N := 13) rfl ?_); refine Kd.S_make (Kd.slice 3 (Kd.int .i64)) _ 32 rfl (N := 13) rfl 27 _ _ rfl (l0.length : Int) rfl rfl Try.underlying27 (.slice none 0 0) 24 info32 rfl (by decide) (by omega) [] (ok := fun _ => True) (okp := fun _ => True) ⟨_, rfl, Kd.R_nil _ _ _ _ _⟩ (fun _ hk => hk) trivial (of_decide_eq_true (by first | (with_reducible assumption) | assumption)) (Nat.le_trans (Nat.mul_le_mul_right _ (of_decide_eq_true (by first | (with_reducible assumption) | assumption) : (l0.length : Int).toNat ≤ 11728124029610)) (by omega)) (Below.refl _ _) (Nat.le_refl _) ?_; intro v274 w6 ho7 hb hg_ hnew_; clear hg_ hnew_; (first | rw [← Ny273.out] at ho7 | (simp only [Int.reduceToNat] at ho7; rw [← Ny273.out] at ho7)); have n0_ := Aside0.mk (Kd.S_lower ho7 (below_size (by repeat (first | (with_reducible first | exact HB.out | apply below_alloc | apply pw_below_drewN | apply below_drew1) | exact HB.out)))); have n1_ := Aside0.mk (below_step (by repeat (first | (with_reducible first | exact HB.out | apply below_alloc | apply pw_below_drewN | apply below_drew1) | exact HB.out)) hb); clear HB; have HO275 := n0_; have HB := n1_; clear n0_ n1_; clear hb ho7))
    go_loopg [16] k (fun kq v16 w' => ∃ (x3_1 : List (List Int)) (x16_1 : Int), v16 = .int .i64 x16_1 ∧ Aside0 (graph_Turn.l0 kq x3_1 l0 (l0.length : Int) x16_1 = some r) ∧ Aside0 (kq ≤ k) ∧ Aside0 (Kd.S (Kd.slice 3 (Kd.int .i64)) 32 w' w.heap.size (fun _ => True) v274 x3_1) ∧ Aside0 (Below w.heap.size w w'))
    case atStart => exact ⟨(y273), (0), (by first | rfl | (simp; done) | (simp [*]; done)), H', ⟨Nat.le_refl _⟩, ⟨by (with_reducible repeat (first | apply Kd.S_alloc | apply Kd.S_drewN | apply Kd.S_drew)); exact HO275.out⟩, ⟨by repeat (first | (with_reducible first | exact HB.out | apply below_alloc | apply pw_below_drewN | apply below_drew1) | exact HB.out)⟩⟩
    case round =>
     clear H'
     try clear c1
     try clear p2
     try clear c3
     try clear c4
     try clear c4b0
     try clear c4b1
     try clear c5
     try clear c5b0
     try clear c5b1
     obtain ⟨x3_1, x16_1, rfl, HA, HK1, HO_3, HB⟩ := hrel
     cases gk with
     | zero => exact absurd HA.out (by simp [graph_Turn.l0])
     | succ k1 =>
      have H := HA.out
      clear HA
      simp only [graph_Turn.l0] at H
      by_cases c8 : x16_1 < (l0.length : Int)
      ·rw [if_pos c8] at H
       have c8b0 : decide (x16_1 < (l0.length : Int)) = true := decide_eq_true c8
       clear c8
       by_cases c9 : 0 ≤ x16_1
       ·rw [if_pos c9] at H
        have c9b0 : decide (0 ≤ x16_1) = true := decide_eq_true c9
        clear c9
        by_cases c10 : x16_1 < (l0.length : Int)
        ·rw [if_pos c10] at H
         have c10b0 : decide (x16_1 < (l0.length : Int)) = true := decide_eq_true c10
         clear c10
         have H' := Aside0.mk H
         clear H
         have p276 : 0 ≤ (x16_1 : Int) := of_decide_eq_true (by first | (with_reducible assumption) | assumption)
         have q276 : x16_1 < (l0.length : Int) := of_decide_eq_true (by first | (with_reducible assumption) | assumption)
         obtain ⟨ad276, A276_0, c276_0, e276, hx276_0, hl276_0, hi276_0⟩ := at_L9 HR0.out x16_1 p276 q276
         cases e276
         replace hx276_0 := (HB.out.cell (World.block_lt_of_cell? w _ hx276_0)).trans hx276_0
         have HR276_0 := Aside0.mk hi276_0
         have HC276_0 := Aside0.mk hl276_0
         clear hi276_0 hl276_0
         replace p276 := eq_true p276
         replace q276 := eq_true q276
         go_wp2
         go_loopg [23] k1 (fun kq v23 w' => ∃ (x3_2 : List (List Int)) (x23_2 : Int), v23 = .int .i64 x23_2 ∧ Aside0 (graph_Turn.l1 kq x3_2 x16_1 l0 (l0.length : Int) x16_1 (rd_L9 l0 x16_1) ((rd_L9 l0 x16_1).length : Int) x23_2 = some r) ∧ Aside0 (kq ≤ k1) ∧ Aside0 (Kd.S (Kd.slice 3 (Kd.int .i64)) 32 w' w.heap.size (fun _ => True) v274 x3_2) ∧ Aside0 (Below w.heap.size w w'))
         case atStart => exact ⟨(x3_1), (0), (by first | rfl | (simp; done) | (simp [*]; done)), H', ⟨Nat.le_refl _⟩, ⟨by (with_reducible repeat (first | apply Kd.S_alloc | apply Kd.S_drewN | apply Kd.S_drew)); exact HO_3.out⟩, ⟨by repeat (first | (with_reducible first | exact HB.out | apply below_alloc | apply pw_below_drewN | apply below_drew1) | exact HB.out)⟩⟩
         case round =>
          clear H'
          try clear c1
          try clear c2
          try clear p2
          try clear q2
          try clear hx2
          try clear c3
          try clear c4
          try clear c4b0
          try clear c4b1
          try clear c5
          try clear c5b0
          try clear c5b1
          try clear c8
          try clear c8b0
          try clear c9
          try clear c9b0
          try clear c10
          try clear c10b0
          try clear hx276_0
          try clear p2
          try clear p276
          try clear q276
          obtain ⟨x3_2, x23_2, rfl, HA, HK2, HO_3, HB⟩ := hrel
          cases gk with
          | zero => exact absurd HA.out (by simp [graph_Turn.l1])
          | succ k2 =>
           have H := HA.out
           clear HA
           simp only [graph_Turn.l1] at H
           by_cases c11 : x23_2 < ((rd_L9 l0 x16_1).length : Int)
           ·rw [if_pos c11] at H
            have c11b0 : decide (x23_2 < ((rd_L9 l0 x16_1).length : Int)) = true := decide_eq_true c11
            clear c11
            by_cases c12 : 0 ≤ x23_2
            ·rw [if_pos c12] at H
             have c12b0 : decide (0 ≤ x23_2) = true := decide_eq_true c12
             clear c12
             by_cases c13 : x23_2 < ((rd_L9 l0 x16_1).length : Int)
             ·rw [if_pos c13] at H
              have c13b0 : decide (x23_2 < ((rd_L9 l0 x16_1).length : Int)) = true := decide_eq_true c13
              clear c13
              by_cases c14 : 0 ≤ (rd (rd_L9 l0 x16_1) x23_2)
              ·rw [if_pos c14] at H
               have c14b0 : decide (0 ≤ (rd (rd_L9 l0 x16_1) x23_2)) = true := decide_eq_true c14
               clear c14
               by_cases c15 : (rd (rd_L9 l0 x16_1) x23_2) < (x3_2.length : Int)
               ·rw [if_pos c15] at H
                have c15b0 : decide ((rd (rd_L9 l0 x16_1) x23_2) < (x3_2.length : Int)) = true := decide_eq_true c15
                clear c15
                by_cases c16 : (rd_L9 x3_2 (rd (rd_L9 l0 x16_1) x23_2)).length < 17592186044416
                ·rw [if_pos c16] at H
                 have LMc16 := Aside0.mk c16
                 clear c16
                 obtain ⟨y279, hy279⟩ : ∃ y_ : List Int, y_ = ((rd_L9 x3_2 (rd (rd_L9 l0 x16_1) x23_2)) ++ [x16_1]) := ⟨_, rfl⟩
                 replace H : (graph_Turn.l1 k2 (x3_2.set ((rd (rd_L9 l0 x16_1) x23_2) : Int).toNat y279) x16_1 l0 (l0.length : Int) x16_1 (rd_L9 l0 x16_1) ((rd_L9 l0 x16_1).length : Int) (wrap64 (x23_2 + 1))) = some r := by first | (rw [hy279]; with_reducible exact H) | (have H2_ := (Option.bind_some _ _).symm.trans H; rw [hy279]; with_reducible exact H2_) | (have H2_ := (Option.bind_some _ _).symm.trans H; with_reducible exact H2_) | with_reducible exact H | (rw [hy279]; exact H) | exact H
                 have Ny279 := Aside0.mk hy279
                 clear hy279
                 obtain ⟨y282, hy282⟩ : ∃ y_ : List (List Int), y_ = (x3_2.set ((rd (rd_L9 l0 x16_1) x23_2) : Int).toNat y279) := ⟨_, rfl⟩
                 replace H : (graph_Turn.l1 k2 y282 x16_1 l0 (l0.length : Int) x16_1 (rd_L9 l0 x16_1) ((rd_L9 l0 x16_1).length : Int) (wrap64 (x23_2 + 1))) = some r := by first | (rw [hy282]; with_reducible exact H) | (have H2_ := (Option.bind_some _ _).symm.trans H; rw [hy282]; with_reducible exact H2_) | (have H2_ := (Option.bind_some _ _).symm.trans H; with_reducible exact H2_) | with_reducible exact H | (rw [hy282]; exact H) | exact H
                 have Ny282 := Aside0.mk hy282
                 clear hy282
                 have H' := Aside0.mk H
                 clear H
                 have p277 : 0 ≤ (x23_2 : Int) := of_decide_eq_true (by first | (with_reducible assumption) | assumption)
                 have q277 : x23_2 < ((rd_L9 l0 x16_1).length : Int) := of_decide_eq_true (by first | (with_reducible assumption) | assumption)
                 obtain ⟨ad277, e277, hx277_0⟩ := Kd.at_int HR276_0.out x23_2 p277 q277
                 cases e277
                 replace hx277_0 := (HB.out.cell (World.block_lt_of_cell? w _ hx277_0)).trans hx277_0
                 replace p277 := eq_true p277
                 replace q277 := eq_true q277
                 obtain ⟨Ao18, co18, eo18⟩ := Kd.S_slice HO_3.out
                 subst eo18
                 have p278 : 0 ≤ ((rd (rd_L9 l0 x16_1) x23_2) : Int) := of_decide_eq_true (by first | (with_reducible assumption) | assumption)
                 have q278 : (rd (rd_L9 l0 x16_1) x23_2) < (x3_2.length : Int) := of_decide_eq_true (by first | (with_reducible assumption) | assumption)
                 obtain ⟨ad278, A278_0, c278_0, e278, hx278_0, hl278_0, hi278_0⟩ := at_L9 (Kd.S_reads' HO_3.out).2.2 (rd (rd_L9 l0 x16_1) x23_2) p278 q278
                 cases e278
                 obtain ⟨ce278, hce278, hMe278, hcc278⟩ := Kd.S_get HO_3.out [] (rd (rd_L9 l0 x16_1) x23_2) p278 (by first | exact q278 | exact of_decide_eq_true (by first | (with_reducible assumption) | assumption) | (have e_ := (Kd.S_reads' HO_3.out).1; omega))
                 obtain ⟨ve278_0, rfl, ge278_0⟩ := hMe278
                 have hv278_0 := hcc278 0 _ rfl
                 rw [Nat.add_zero, show ((Kd.slice 3 (Kd.int .i64))).sz = 1 from rfl, Nat.mul_one] at hv278_0
                 replace hv278_0 := Option.some.inj (hv278_0.symm.trans hx278_0)
                 rw [hv278_0] at ge278_0
                 have HL278_0 := Aside0.mk (show Kd.R (Kd.int .i64) 3 _ _ _ _ (rd_L9 x3_2 (rd (rd_L9 l0 x16_1) x23_2)) from ge278_0)
                 clear hv278_0 ge278_0
                 have HX278_0 := Aside0.mk hx278_0
                 clear hcc278 hce278
                 have HR278_0 := Aside0.mk hi278_0
                 have HC278_0 := Aside0.mk hl278_0
                 clear hi278_0 hl278_0
                 replace p278 := eq_true p278
                 replace q278 := eq_true q278
                 obtain ⟨go19, co19, eo19, gb19, gl19, cl19, HG19⟩ := Kd.S_form HO_3.out (by have h_ : ((rd (rd_L9 l0 x16_1) x23_2) : Int) < ((x3_2.length : Int) : Int) := of_decide_eq_true (by first | (with_reducible assumption) | assumption); have h2_ : 0 ≤ ((rd (rd_L9 l0 x16_1) x23_2) : Int) := (of_decide_eq_true (by first | (with_reducible assumption) | assumption)); omega)
                 (first | cases eo19 | (injection eo19 with ea_ en_ ec_; (first | subst ea_ | (injection ea_ with ea_; subst ea_)); subst ec_; clear en_))
                 have GB19 := Aside0.mk gb19
                 have GG19 := Aside0.mk HG19
                 clear gb19 gl19 HG19
                 (first | simp only [add_plain] at hx278_0 | skip)
                 obtain ⟨oki19, ce19, hcl19, hM19, hcc19, _, _, hH19⟩ := Kd.S_elem HO_3.out [] ((rd (rd_L9 l0 x16_1) x23_2) : Int) (of_decide_eq_true (by first | (with_reducible assumption) | assumption)) (by have h_ : ((rd (rd_L9 l0 x16_1) x23_2) : Int) < ((x3_2.length : Int) : Int) := of_decide_eq_true (by first | (with_reducible assumption) | assumption); first | exact h_ | (have e_ := (Kd.S_reads' HO_3.out).1; omega) | simpa using h_)
                 obtain ⟨ve19_0, rfl, ge19_0⟩ := hM19
                 have hv19 := hcc19 0 _ rfl
                 have hX19 := HX278_0.out
                 (try simp only [add_plain] at hX19)
                 (try simp only [Nat.add_zero] at hv19)
                 (try rw [show ((Kd.slice 3 (Kd.int .i64))).sz = 1 from rfl, Nat.mul_one] at hv19)
                 replace hv19 := Option.some.inj (hv19.symm.trans hX19)
                 subst hv19
                 clear hX19 hcc19 hcl19
                 have UU19 := Aside0.mk (show Kd.R (Kd.int .i64) 3 _ w.heap.size oki19 (.slice A278_0 (rd_L9 x3_2 (rd (rd_L9 l0 x16_1) x23_2)).length c278_0) (rd_L9 x3_2 (rd (rd_L9 l0 x16_1) x23_2)) from ge19_0)
                 have HH19 := Aside0.mk hH19
                 have HN19 := Aside0.mk (Kd.S_reads' HO_3.out).1
                 clear hH19 ge19_0
                 go_wp2_with (first | ((with_reducible refine gate_builtin (b := .append) (xs := #[.tmp 32, .tmp 34]) rfl ?_); at_builtin; refine Kd.R_append (Kd.int .i64) (w0 := w) w.heap.size rfl (.tmp 32) (.tmp 34) 32 3 (.int .i64 0) 8 rfl Try.underlying32 info3 rfl (by decide) (by omega) (.slice A278_0 (rd_L9 x3_2 (rd (rd_L9 l0 x16_1) x23_2)).length c278_0) (rd_L9 x3_2 (rd (rd_L9 l0 x16_1) x23_2)) x16_1 [.int .i64 x16_1] (fun k_ => oki19 k_ ∨ ((fun _ => True)) k_ ∧ wr.heap.size ≤ k_) (fun _ => False) rfl rfl ?aP (fun _ hk => hk.elim) ?aF ?aO ?aB ?aS ?aL ?_; (case aP => exact rfl); (case aB => exact (by repeat (first | (with_reducible first | exact HB.out | apply below_alloc | apply pw_below_drewN | apply below_drew1) | exact HB.out))); (case aF => exact (fun k_ hk => .inr ⟨trivial, hk⟩)); (case aO => exact (by (with_reducible repeat (first | apply Kd.R_alloc | apply Kd.R_drewN | apply Kd.R_drew)); exact Kd.R_mono UU19.out (fun _ hk => .inl hk))); (case aS => exact (below_size (by repeat (first | (with_reducible first | exact HB.out | apply below_alloc | apply pw_below_drewN | apply below_drew1) | exact HB.out)))); (case aL => have := LMc16.out; omega); intro v280 w20 ho hb hg hat; rw [← Ny279.out] at ho; have n0_ := Aside0.mk (hb); have n1_ := Aside0.mk (Kd.H_grown (Kd.H_widen (by repeat (first | exact HH19.out | refine Kd.H_alloc ?_ _ | refine Kd.H_drewN ?_ _ | refine Kd.H_drew ?_))) hg (fun k_ e_ => .inl (UU19.out.1 k_ e_))); have n2_ := Aside0.mk (ho); clear HB; clear HH19; clear HO_3; clear UU19; clear HL278_0; have HB := n0_; have HH19 := n1_; have HO281 := n2_; clear n0_ n1_ n2_; clear ho hb hg hat; have p17 : 0 ≤ ((rd (rd_L9 l0 x16_1) x23_2) : Int) := of_decide_eq_true (by first | (with_reducible assumption) | assumption); have q17 : ((rd (rd_L9 l0 x16_1) x23_2) : Int) < ((x3_2.length : Int) : Int) := of_decide_eq_true (by first | (with_reducible assumption) | assumption); replace p17 := eq_true p17; replace q17 := eq_true q17; obtain ⟨Ao23, co23, eo23⟩ := Kd.R_slice HO281.out; subst eo23; obtain ⟨_, _, hraw21, _, _, hcc21, _⟩ := Kd.H_raw HH19.out (of_decide_eq_true (by first | (with_reducible assumption) | assumption)) (by have h_ : ((rd (rd_L9 l0 x16_1) x23_2) : Int) < ((x3_2.length : Int) : Int) := of_decide_eq_true (by first | (with_reducible assumption) | assumption); first | exact h_ | (have e_ := (HN19.out); omega) | simpa using h_); obtain ⟨_, hfr21⟩ := Kd.H_at HH19.out (of_decide_eq_true (by first | (with_reducible assumption) | assumption)) (by have h_ : ((rd (rd_L9 l0 x16_1) x23_2) : Int) < ((x3_2.length : Int) : Int) := of_decide_eq_true (by first | (with_reducible assumption) | assumption); first | exact h_ | (have e_ := (HN19.out); omega) | simpa using h_); have hx21_0 := hcc21 0 _ rfl; have hf21_0 := hfr21 0; (try simp only [Nat.add_zero] at hx21_0 hf21_0); (try rw [show ((Kd.slice 3 (Kd.int .i64))).sz = 1 from rfl, Nat.mul_one] at hx21_0); (try rw [show ((Kd.slice 3 (Kd.int .i64))).sz = 1 from rfl, Nat.mul_one] at hf21_0); have HP21 := Kd.S_seg0 HH19.out (of_decide_eq_true (by first | (with_reducible assumption) | assumption)) (by have h_ : ((rd (rd_L9 l0 x16_1) x23_2) : Int) < ((x3_2.length : Int) : Int) := of_decide_eq_true (by first | (with_reducible assumption) | assumption); first | exact h_ | (have e_ := (HN19.out); omega) | simpa using h_) (seg := [.slice Ao23 y279.length co23]) (j := 0) (show 1 ≤ 1 from by decide) (x' := y279) (Kd.M_row HO281.out) (fun _ hk => hk); (try simp only [show ((Kd.slice 3 (Kd.int .i64))).sz = 1 from rfl, Nat.mul_one, Nat.add_zero] at HP21); clear hcc21 hfr21) | ((with_reducible refine gate_store (t := 32) (p := 36) rfl ?_); refine store_event (t := 32) (p := 36) (v := ?vo_w22) (w1 := (w20.setCell ⟨go19, ((rd (rd_L9 l0 x16_1) x23_2) : Int).toNat, none⟩ (.slice Ao23 y279.length co23))) ?hg ?ho ?hn ?hr ?_; (case ho => rfl); (case hg => rfl); (case hn => rfl); (case hr => first | (go_simp; done) | (go_simp; rfl)); intro w22 hw; have hg : w20.grownBy w22 (some go19) := (by rw [hw]; exact HP21.2); have hp_ : Kd.S (Kd.slice 3 (Kd.int .i64)) 32 w22 w.heap.size (fun _ => True) (.slice (some ⟨go19, 0, none⟩) x3_2.length co18) y282 := (by rw [hw, Ny282.out]; exact HP21.1); clear HP21; have n0_ := Aside0.mk ((by rw [hw]; exact below_set HB.out GB19.out : Below w.heap.size w w22)); have n1_ := Aside0.mk (hp_); clear HB; clear HO281; clear HH19; have HB := n0_; have HO_3 := n1_; clear n0_ n1_; clear hg hw hp_ hraw21))
                 go_roundg k2
                 case measure => have := HK1.out; have := HK2.out; omega
                 case rel => exact ⟨(y282), (wrap64 (x23_2 + 1)), (by first | rfl | (simp; done) | (simp [*]; done)), H', ⟨by have := HK1.out; have := HK2.out; omega⟩, ⟨by (with_reducible repeat (first | apply Kd.S_alloc | apply Kd.S_drewN | apply Kd.S_drew)); exact HO_3.out⟩, ⟨by repeat (first | (with_reducible first | exact HB.out | apply below_alloc | apply pw_below_drewN | apply below_drew1) | exact HB.out)⟩⟩
                ·rw [if_neg c16] at H
                 exact absurd H (by simp)
               ·rw [if_neg c15] at H
                exact absurd H (by simp)
              ·rw [if_neg c14] at H
               exact absurd H (by simp)
             ·rw [if_neg c13] at H
              exact absurd H (by simp)
            ·rw [if_neg c12] at H
             exact absurd H (by simp)
           ·rw [if_neg c11] at H
            have c11b0 : decide (x23_2 < ((rd_L9 l0 x16_1).length : Int)) = false := decide_eq_false c11
            clear c11
            have H' := Aside0.mk H
            clear H
            go_wp2
            go_roundg k2
            case measure => have := HK1.out; have := HK2.out; omega
            case rel => exact ⟨(x3_2), (wrap64 (x16_1 + 1)), (by first | rfl | (simp; done) | (simp [*]; done)), H', ⟨by have := HK1.out; have := HK2.out; omega⟩, ⟨by (with_reducible repeat (first | apply Kd.S_alloc | apply Kd.S_drewN | apply Kd.S_drew)); exact HO_3.out⟩, ⟨by repeat (first | (with_reducible first | exact HB.out | apply below_alloc | apply pw_below_drewN | apply below_drew1) | exact HB.out)⟩⟩
        ·rw [if_neg c10] at H
         exact absurd H (by simp)
       ·rw [if_neg c9] at H
        exact absurd H (by simp)
      ·rw [if_neg c8] at H
       have c8b0 : decide (x16_1 < (l0.length : Int)) = false := decide_eq_false c8
       clear c8
       obtain rfl := Option.some.inj H
       go_wp2
       go_ret
       exact ⟨_, by first | rfl | (simp [errW_none, errW_some] <;> rfl) | (simp [*, errW_none, errW_some] <;> rfl), by (with_reducible repeat (first | apply Kd.S_alloc | apply Kd.S_drewN | apply Kd.S_drew)); exact HO_3.out, by repeat (first | (with_reducible first | exact HB.out | apply below_alloc | apply pw_below_drewN | apply below_drew1) | exact HB.out)⟩
   ·rw [if_neg c5] at H
    exact absurd H (by simp)
  ·rw [if_neg c4] at H
   exact absurd H (by simp)
 ·replace c3 := Bool.eq_false_iff.mpr c3
  subst c3
  have H1 : (some ([] : List (List Int))) = some r := by rw [if_neg (show ¬ (false = true) by decide)] at H; exact H
  clear H
  have H := H1
  clear H1
  obtain rfl := Option.some.inj H
  go_enter Try.func19, Try.ntmps19
  go_wp2_with (first | ((with_reducible refine gate_callee (f := 13) rfl ?_); refine goesL_ (some 9) rfl rfl Try.func13 (by kernel_rfl) rfl #[.slice A0 l0.length c0] rfl (by (try simp only [List.map_toArray, List.map_cons, List.map_nil]); first | done | rfl | (simp only [List.length_drop, List.length_take]; rfl)) ?_; (with_reducible refine (graph_May.calls k _ _ l0 false _ ?side1 ?side2 A2.out).mono ?_); (case side1 => repeat (first | exact HR0.out | (with_reducible refine Kd.C_alloc ?_ _) | (with_reducible refine Kd.C_drewN ?_ _) | (with_reducible refine Kd.C_drew ?_))); (case side2 => exact HC0.out); rintro e w' ⟨rfl, ⟨nd, rfl⟩⟩; refine ⟨_, rfl, ?_⟩))
  go_ret
  exact ⟨_, by first | rfl | (simp [errW_none, errW_some] <;> rfl) | (simp [*, errW_none, errW_some] <;> rfl), by first | exact Kd.S_nil _ _ _ _ _ | exact Kd.N_nil _ _ _ _ _ | exact Kd.V_nil _ _ _ _ _ | exact Kd.Q_nil _ _ _ _ _ | exact Kd.R_nil _ _ _ _ _, by repeat (first | (with_reducible first | exact HB.out | apply below_alloc | apply pw_below_drewN | apply below_drew1) | exact HB.out)⟩

end Go.Proofs.Ytdbngbmokgeeiaa.Pr

namespace Go.Proofs.Ytdbngbmokgeeiaa.Man
open Go.RowKit Go.Proofs.Ytdbngbmokgeeiaa.Pr Go.Proofs.YtdbngbmokgeeiaaW.PrintWords
set_option linter.unusedVariables false
set_option linter.unusedSimpArgs false

theorem rd_lt {r : List Int} {j : Nat} (h : j < r.length) : rd r (j : Int) = r[j] := by
  unfold rd; rw [Int.toNat_natCast, List.getD_eq_getElem?_getD, List.getElem?_eq_getElem h]; rfl
theorem has_ev (l : List Int) (x : Int) (hl : l.length ≤ 1000000) : Ev (fun k => proteanref12_Has.f k l x) (decide (x ∈ l)) := by
  have main : ∀ m i : Nat, i + m = l.length → Ev (fun k => proteanref12_Has.l0 k l x (i : Int)) (decide (x ∈ l.drop i)) := by
    intro m
    induction m with
    | zero =>
      intro i hi
      refine Ev.step ?_
      have c : ¬ (i : Int) < (l.length : Int) := by omega
      simp only [proteanref12_Has.l0, if_neg c]
      rw [List.drop_of_length_le (by omega)]
      exact Ev.const _
    | succ m ih =>
      intro i hi
      have e := ih (i + 1) (by omega)
      refine Ev.step ?_
      have hi2 : i < l.length := by omega
      have c : (i : Int) < (l.length : Int) := by omega
      have c0 : 0 ≤ (i : Int) := Int.natCast_nonneg i
      simp only [proteanref12_Has.l0, if_pos c, if_pos c0, rd_lt hi2, pz i (by omega)]
      rw [List.drop_eq_getElem_cons hi2]
      by_cases h : l[i] = x
      · simp only [if_pos h]
        rw [show decide (x ∈ l[i] :: l.drop (i + 1)) = true by simp [h]]
        exact Ev.const _
      · simp only [if_neg h]
        have hiff : (x ∈ l[i] :: l.drop (i + 1)) ↔ x ∈ l.drop (i + 1) := by
          rw [List.mem_cons]; exact ⟨fun h' => h'.resolve_left (Ne.symm h), .inr⟩
        simp only [hiff]
        exact e
  have := main l.length 0 (by omega)
  rw [List.drop_zero] at this
  exact this
/-- Who leads to t, of those ahead of i. -/
def col (g : List (List Int)) (t : Nat) (i : Nat) : List Int := ((List.range i).filter (fun k => decide ((t : Int) ∈ g.getD k []))).map Int.ofNat
def turnF (g : List (List Int)) : List (List Int) := if mayB g = true then (List.range g.length).map (fun t => col g t g.length) else []
theorem col_succ (g : List (List Int)) (t i : Nat) : col g t (i + 1) = col g t i ++ (if (t : Int) ∈ g.getD i [] then [(i : Int)] else []) := by
  unfold col
  rw [List.range_succ, List.filter_append, List.map_append]
  by_cases h : (t : Int) ∈ g.getD i []
  · simp only [List.filter_cons, h, decide_true, if_true, List.filter_nil, List.map_cons, List.map_nil]; rfl
  · simp only [List.filter_cons, h, decide_false, if_false, List.filter_nil, List.map_nil, Bool.false_eq_true]
theorem col_len (g : List (List Int)) (t i : Nat) : (col g t i).length ≤ i := by
  unfold col; rw [List.length_map]; exact Nat.le_trans (List.length_filter_le _ _) (by simp)
theorem rturn_row (g : List (List Int)) (hs : Sm g) (t : Nat) (ht : t < g.length) (out : List (List Int)) (ho : out.length ≤ 1000000) (res : List (List Int)) (h : Ev (fun k => proteanref12_Turn.l0 k g (out ++ [col g t g.length]) ((t + 1 : Nat) : Int)) res) :
    ∀ m i : Nat, i + m = g.length → Ev (fun k => proteanref12_Turn.l1 k g out (t : Int) (col g t i) (i : Int)) res := by
  have hn := hs.1
  intro m
  induction m with
  | zero =>
    intro i hi
    refine Ev.step ?_
    have c : ¬ (i : Int) < (g.length : Int) := by omega
    have c2 : out.length < 5864062014805 := by omega
    simp only [proteanref12_Turn.l1, if_neg c, if_pos c2, pz t (by omega)]
    rw [show i = g.length by omega]; exact h
  | succ m ih =>
    intro i hi
    have e := ih (i + 1) (by omega)
    refine Ev.step ?_
    have c : (i : Int) < (g.length : Int) := by omega
    have c0 : 0 ≤ (i : Int) := Int.natCast_nonneg i
    have c1 : (col g t i).length < 17592186044416 := by have := col_len g t i; omega
    simp only [proteanref12_Turn.l1, if_pos c, if_pos c0, rd9]
    refine Ev.bind (has_ev _ _ (hs.2 i)) ?_
    rw [col_succ] at e
    by_cases hm : (t : Int) ∈ g.getD i []
    · rw [if_pos hm] at e
      simp only [decide_eq_true hm, if_true, if_pos c1, pz i (by omega)]; exact e
    · rw [if_neg hm, List.append_nil] at e
      simp only [decide_eq_false hm, Bool.false_eq_true, if_false, pz i (by omega)]; exact e
theorem rturn_ev (g : List (List Int)) (hs : Sm g) : Ev (fun k => proteanref12_Turn.f k g) (turnF g) := by
  have hn := hs.1
  have main : ∀ m t : Nat, t + m = g.length → Ev (fun k => proteanref12_Turn.l0 k g ((List.range t).map (fun t => col g t g.length)) (t : Int)) ((List.range g.length).map (fun t => col g t g.length)) := by
    intro m
    induction m with
    | zero =>
      intro t ht
      refine Ev.step ?_
      have c : ¬ (t : Int) < (g.length : Int) := by omega
      simp only [proteanref12_Turn.l0, if_neg c]
      rw [show t = g.length by omega]; exact Ev.const _
    | succ m ih =>
      intro t ht
      have e := ih (t + 1) (by omega)
      rw [List.range_succ, List.map_append, List.map_cons, List.map_nil] at e
      refine Ev.step ?_
      have c : (t : Int) < (g.length : Int) := by omega
      simp only [proteanref12_Turn.l0, if_pos c]
      have := rturn_row g hs t (by omega) _ (by simp; omega) _ e g.length 0 (by omega)
      simpa [col] using this
  refine Ev.bind (rmay_ev g hs) ?_
  unfold turnF
  cases hb : mayB g with
  | false => simp only [Bool.false_eq_true, if_false]; exact Ev.const _
  | true =>
    simp only [if_true]
    have := main g.length 0 (by omega)
    simpa using this
theorem row_rises {g : List (List Int)} (hm : mayB g = true) {i : Nat} (hi : i < g.length) : ∀ b a : Nat, a < b → b < (g.getD i []).length → rd (g.getD i []) (a : Int) < rd (g.getD i []) (b : Int) := by
  intro b
  induction b with
  | zero => intro a h; omega
  | succ b ih =>
    intro a h1 h2
    have h3 := ((mayB_spec hm).2 i hi (b + 1) h2).2.2 (by omega)
    simp only [Nat.add_sub_cancel] at h3
    by_cases e : a = b
    · subst e; exact h3
    · have := ih a (by omega) (by omega); omega
theorem row_new {g : List (List Int)} (hm : mayB g = true) {i j : Nat} (hi : i < g.length) (hj : j < (g.getD i []).length) : ¬ (g.getD i [])[j] ∈ (g.getD i []).take j := by
  intro h
  obtain ⟨a, ha, e⟩ := List.getElem_of_mem h
  rw [List.length_take] at ha
  rw [List.getElem_take] at e
  have h1 := row_rises hm hi j a (by omega) hj
  rw [rd_lt (by omega), rd_lt hj] at h1
  omega
/-- The turned graph, when the rows ahead of i, and j of row i's, have been taken. -/
def part (g : List (List Int)) (i j : Nat) : List (List Int) := (List.range g.length).map (fun t => col g t i ++ (if (t : Int) ∈ (g.getD i []).take j then [(i : Int)] else []))
theorem part_get (g : List (List Int)) (i j t : Nat) (ht : t < g.length) : (part g i j).getD t [] = col g t i ++ (if (t : Int) ∈ (g.getD i []).take j then [(i : Int)] else []) := by
  unfold part
  rw [List.getD_eq_getElem?_getD, List.getElem?_map, List.getElem?_range ht]; rfl
theorem part_step {g : List (List Int)} (hm : mayB g = true) {i j x : Nat} (hi : i < g.length) (hj : j < (g.getD i []).length) (hx : (g.getD i [])[j] = (x : Int)) (hxN : x < g.length) : (part g i j).set x ((part g i j).getD x [] ++ [(i : Int)]) = part g i (j + 1) := by
  have hnew := row_new hm hi hj
  rw [hx] at hnew
  apply List.ext_getElem?
  intro t
  rw [List.getElem?_set]
  have hlen : (part g i j).length = g.length := by unfold part; simp
  by_cases ht : t < g.length
  · have hr : (part g i (j + 1))[t]? = some (col g t i ++ (if (t : Int) ∈ (g.getD i []).take (j + 1) then [(i : Int)] else [])) := by
      unfold part; rw [List.getElem?_map, List.getElem?_range ht]; rfl
    rw [hr, List.take_succ_eq_append_getElem hj, hx]
    split
    · rename_i e; subst e
      rw [if_pos (by rw [hlen]; exact ht), part_get g i j x ht, if_neg hnew, if_pos (by simp), List.append_nil]
    · rename_i e
      have hr2 : (part g i j)[t]? = some (col g t i ++ (if (t : Int) ∈ (g.getD i []).take j then [(i : Int)] else [])) := by
        unfold part; rw [List.getElem?_map, List.getElem?_range ht]; rfl
      rw [hr2]
      have hne : ¬ (t : Int) = (x : Int) := by omega
      by_cases hin : (t : Int) ∈ (g.getD i []).take j
      · rw [if_pos hin, if_pos (List.mem_append.2 (.inl hin))]
      · rw [if_neg hin, if_neg (fun h' => (List.mem_append.1 h').elim hin (fun h'' => hne (List.mem_singleton.1 h'')))]
  · have h1 : (part g i (j + 1))[t]? = none := by rw [List.getElem?_eq_none]; unfold part; simp; omega
    have h2 : (part g i j)[t]? = none := by rw [List.getElem?_eq_none]; rw [hlen]; omega
    rw [h1, if_neg (by omega), h2]
theorem part_next (g : List (List Int)) (i : Nat) : part g i (g.getD i []).length = part g (i + 1) 0 := by
  unfold part
  apply List.map_congr_left
  intro t _
  rw [List.take_length, col_succ]
  simp
theorem gturn_row (g : List (List Int)) (hs : Sm g) (hm : mayB g = true) (i : Nat) (hi : i < g.length) (res : List (List Int)) (h : Ev (fun k => graph_Turn.l0 k (part g (i + 1) 0) g (g.length : Int) ((i + 1 : Nat) : Int)) res) :
    ∀ m j : Nat, j + m = (g.getD i []).length → Ev (fun k => graph_Turn.l1 k (part g i j) (i : Int) g (g.length : Int) (i : Int) (g.getD i []) ((g.getD i []).length : Int) (j : Int)) res := by
  have hr := hs.2 i
  have hn := hs.1
  intro m
  induction m with
  | zero =>
    intro j hj
    refine Ev.step ?_
    have c3 : ¬ (j : Int) < ((g.getD i []).length : Int) := by omega
    simp only [graph_Turn.l1, if_neg c3, pz i (by omega)]
    rw [show j = (g.getD i []).length by omega, part_next]; exact h
  | succ m ih =>
    intro j hj
    have e := ih (j + 1) (by omega)
    refine Ev.step ?_
    have hjl : j < (g.getD i []).length := by omega
    have c3 : (j : Int) < ((g.getD i []).length : Int) := by omega
    have c4 : 0 ≤ (j : Int) := Int.natCast_nonneg j
    obtain ⟨m0, m1⟩ := mayB_in hm i hi _ (List.getElem_mem hjl)
    obtain ⟨x, hx⟩ : ∃ x : Nat, (g.getD i [])[j] = (x : Int) := ⟨((g.getD i [])[j]).toNat, by omega⟩
    rw [hx] at m1
    have hxN : x < g.length := by omega
    have hrd : rd (g.getD i []) (j : Int) = (x : Int) := by rw [rd_lt hjl]; exact hx
    have d1 : 0 ≤ (x : Int) := Int.natCast_nonneg x
    have hlen : (part g i j).length = g.length := by unfold part; simp
    have d2 : (x : Int) < ((part g i j).length : Int) := by rw [hlen]; exact m1
    have d3 : ((part g i j).getD x []).length < 17592186044416 := by
      rw [part_get g i j x hxN, List.length_append]
      have := col_len g x i
      split <;> simp <;> omega
    simp only [graph_Turn.l1, if_pos c3, if_pos c4, hrd, if_pos d1, if_pos d2, rd9, if_pos d3, Int.toNat_natCast, pz j (by omega), part_step hm hi hjl hx hxN]
    exact e
theorem gturn_ev (g : List (List Int)) (hs : Sm g) : Ev (fun k => graph_Turn.f k g) (turnF g) := by
  have hn := hs.1
  refine Ev.bind (gmay_ev g hs) ?_
  unfold turnF
  cases hb : mayB g with
  | false => simp only [Bool.false_eq_true, if_false]; exact Ev.const _
  | true =>
    have main : ∀ m i : Nat, i + m = g.length → Ev (fun k => graph_Turn.l0 k (part g i 0) g (g.length : Int) (i : Int)) ((List.range g.length).map (fun t => col g t g.length)) := by
      intro m
      induction m with
      | zero =>
        intro i hi
        refine Ev.step ?_
        have c : ¬ (i : Int) < (g.length : Int) := by omega
        simp only [graph_Turn.l0, if_neg c]
        rw [show i = g.length by omega, show part g g.length 0 = (List.range g.length).map (fun t => col g t g.length) by unfold part; simp]
        exact Ev.const _
      | succ m ih =>
        intro i hi
        refine Ev.step ?_
        have c : (i : Int) < (g.length : Int) := by omega
        have c0 : 0 ≤ (i : Int) := Int.natCast_nonneg i
        simp only [graph_Turn.l0, if_pos c, if_pos c0, rd9]
        exact gturn_row g hs hb i (by omega) _ (ih (i + 1) (by omega)) (g.getD i []).length 0 (by omega)
    have c1 : 0 ≤ (g.length : Int) := Int.natCast_nonneg _
    have c2 : g.length ≤ 11728124029610 := by omega
    simp only [if_true, if_pos c1, Int.toNat_natCast, if_pos c2]
    have e := main g.length 0 (by omega)
    rw [show part g 0 0 = List.replicate g.length [] by
      unfold part; apply List.ext_getElem?; intro t
      rw [List.getElem?_map, List.getElem?_replicate]
      by_cases ht : t < g.length
      · rw [List.getElem?_range ht, if_pos ht]; simp [col]
      · rw [List.getElem?_eq_none (by simp; omega), if_neg ht]; rfl] at e
    exact e
end Go.Proofs.Ytdbngbmokgeeiaa.Man

namespace Go.Proofs.Ytdbngbmokgeeiaa.Man
open Go.RowKit Go.Proofs.Ytdbngbmokgeeiaa.Pr Go.Proofs.YtdbngbmokgeeiaaW.PrintWords
attribute [local go_sem] Oper.semAt_some
set_option linter.unusedVariables false
set_option linter.unusedSimpArgs false

theorem C_ints {w : World} {g : Nat} {t : TypeId} (xs : List Int) (h : w.heap[g]? = some (.cells (xs.map (Value.int .i64)).toArray t (0, 0))) (hl : xs.length ≤ 9223372036854775807) : Kd.C (Kd.int .i64) w (some ⟨g, 0, none⟩) xs.length xs := by
  refine ⟨rfl, hl, fun _ => ⟨_, rfl, fun j p hj => ⟨[.int .i64 p], rfl, rfl, fun i u hi => ?_⟩⟩⟩
  have e : i = 0 ∧ u = .int .i64 p := by
    cases i with
    | zero => simp at hi; exact ⟨rfl, hi.symm⟩
    | succ i => simp at hi
  obtain ⟨rfl, rfl⟩ := e
  show w.cell? ((⟨g, 0, none⟩ : Addr).add (j * 1 + 0)) = _
  rw [Addr.add_mid, Nat.zero_add, Nat.add_zero, Nat.mul_one, blk_cell h j]
  simp [hj]
theorem C_rows {w : World} {g : Nat} {t e : TypeId} (xs : List (List Int)) (cs : List Value) (h : w.heap[g]? = some (.cells cs.toArray t (0, 0))) (hl : xs.length ≤ 9223372036854775807)
    (hk : ∀ (j : Nat) (p : List Int), xs[j]? = some p → ∃ A c, cs[j]? = some (Value.slice A p.length c) ∧ p.length ≤ c ∧ Kd.C (Kd.int .i64) w A p.length p) : Kd.C (Kd.slice e (Kd.int .i64)) w (some ⟨g, 0, none⟩) xs.length xs := by
  refine ⟨rfl, hl, fun _ => ⟨_, rfl, fun j p hj => ?_⟩⟩
  obtain ⟨A, c, h1, h2, h3⟩ := hk j p hj
  refine ⟨[.slice A p.length c], rfl, ⟨A, c, rfl, h2, h3⟩, fun i u hi => ?_⟩
  have e : i = 0 ∧ u = .slice A p.length c := by
    cases i with
    | zero => simp at hi; exact ⟨rfl, hi.symm⟩
    | succ i => simp at hi
  obtain ⟨rfl, rfl⟩ := e
  show w.cell? ((⟨g, 0, none⟩ : Addr).add (j * 1 + 0)) = _
  rw [Addr.add_mid, Nat.zero_add, Nat.add_zero, Nat.mul_one, blk_cell h j]
  simp [h1]
theorem sizePR : (Try.prog.info? 24).map (·.size) = some 1 := by kernel_rfl
theorem sizeFT : (Try.prog.info? 47).map (·.size) = some 2 := by kernel_rfl

theorem calls_p12 : callsF p12Prog = [[1], [1], [0, 1, 2]] := by
  simp [callsF, callsOf, p12Prog, flat, applies, coll, calledBy, funIx, firstIx, allIx, srt, Lib.compact, List.range_succ]
  <;> rfl
theorem p12_few : ∀ f, f ∈ p12Prog → (flat f.f2).length ≤ 1000000 := by
  intro f hf
  simp only [p12Prog, List.mem_cons, List.not_mem_nil, or_false] at hf
  rcases hf with rfl | rfl | rfl <;> simp [flat]
theorem sm_p12 : Sm [[1], [1], [0, 1, 2]] := ⟨by decide, fun i => by
  match i with
  | 0 => decide
  | 1 => decide
  | 2 => decide
  | i + 3 => simp⟩
theorem reach_p12 : reachF [[1], [1], [0, 1, 2]] 0 = [0, 1] := by
  obtain ⟨K, hK⟩ := rreach_ev _ sm_p12 0
  have h1 := hK (max K 80) (Nat.le_max_left _ _)
  have h2 : proteanref12_Reach.f 80 [[1], [1], [0, 1, 2]] 0 = some [0, 1] := by kernel_rfl
  have h3 := at_rounds (g := fun k => proteanref12_Reach.f k [[1], [1], [0, 1, 2]] 0) (fun k => proteanref12_Reach.mono _ _ k) (Nat.le_max_right K 80) h2
  exact Option.some.inj (h1.symm.trans h3)
set_option maxRecDepth 100000 in
set_option maxHeartbeats 16000000 in
/-- The fixed calls of the graph's laws. -/
theorem fixed_any (w : World) : Calls Try.prog 9 #[] w fun e w' => e = .returned (.bool true) ∧ Below w.heap.size w w' := by
  have HB := Lib.hid (Below.refl w.heap.size w)
  go_enter Try.func9, Try.ntmps9
  go_wp2_with (first
    | (go_at_call 25; with_reducible refine (calls_of_args (args' := #[.string p12Src]) (by kernel_rfl) (p12_parse _)).mono ?_; rintro x w1 ⟨v, rfl, hR, hb⟩; obtain ⟨AP, cP, eA, hcc, hF⟩ := hR.tell; subst eA; have HB := Lib.hid (below_step HB.out hb); obtain ⟨loP, hlo⟩ : ∃ lo, lo = w1.heap.size := ⟨_, rfl⟩; have FP := Lib.hid (Kd.F_mono (ok' := fun k => k < loP) (Kd.F_bound hF) (fun k hk => by rw [hlo]; exact hk.2)); have HLOP := Lib.hid (show loP ≤ w1.heap.size by rw [hlo]; exact Nat.le_refl _); have HCP := Lib.hid hcc; clear hcc hF hlo; clear hb)
    | ((with_reducible refine gate_dst (N := 1) rfl ?_); refine box_event ?hg (N := 1) ?hd (cs := #[.slice none 0 0]) (t := 24) ?hr ?_; (case hd => rfl); (case hg => rfl); (case hr => first | (go_simp; done) | (go_simp; rfl)); intro g1 hg w1 hx hb; have G1 := Lib.hid (show w.heap.size ≤ g1 by rw [hg]; exact HB.out.size); have UP_1 := Lib.hid (show loP ≤ g1 by rw [hg]; exact HLOP.out); have FP := Lib.hid (Kd.F_below FP.out hb); have HLOP := Lib.hid (Nat.le_trans HLOP.out hb.size); have HB := Lib.hid (below_step HB.out hb); have B1 := Lib.hid (One.mk hx); clear hx hb hg; obtain ⟨c1_0, _⟩ := B1.out.c; obtain ⟨f1_0, _⟩ := B1.out.f)
    | ((with_reducible refine gate_dst (N := 2) rfl ?_); refine box_event ?hg (N := 2) ?hd (cs := #[.int .i64 0, .int .i64 0]) (t := 47) ?hr ?_; (case hd => rfl); (case hg => rfl); (case hr => first | (go_simp; done) | (go_simp; rfl)); intro g2 hg w1 hx hb; clear c1_0 f1_0; have N1_2 := Lib.hid (ne_of_blk B1.out.b hg); have G2 := Lib.hid (show w.heap.size ≤ g2 by rw [hg]; exact HB.out.size); have UP_2 := Lib.hid (show loP ≤ g2 by rw [hg]; exact HLOP.out); have FP := Lib.hid (Kd.F_below FP.out hb); have HLOP := Lib.hid (Nat.le_trans HLOP.out hb.size); have B1 := Lib.hid (B1.out.below hb); have HB := Lib.hid (below_step HB.out hb); have B2 := Lib.hid (Two.mk hx); clear hx hb hg; obtain ⟨c1_0, _⟩ := B1.out.c; obtain ⟨f1_0, _⟩ := B1.out.f; obtain ⟨c2_0, c2_1, _⟩ := B2.out.c; obtain ⟨f2_0, f2_1, _⟩ := B2.out.f)
    | ((with_reducible refine gate_store (t := 24) (p := 1) rfl ?_); refine st_event rfl rfl rfl [.slice AP p12Prog.length cP] B1.out.b rfl ?hv sizePR rfl ?h1 ?_; (case hv => rfl); (case h1 => (intro q hq; simp only [List.mem_cons, List.not_mem_nil, or_false] at hq; rcases hq with rfl <;> rfl)); intro w1 hx hp; clear c1_0 f1_0; clear c2_0 f2_0 c2_1 f2_1; have B2 := Lib.hid (B2.out.far' hp (Ne.symm N1_2.out)); have FP := Lib.hid (foot_puts FP.out hp (Nat.not_lt.2 UP_1.out)); have HB := Lib.hid (hp.below _ G1.out HB.out); have B1 := Lib.hid (One.mk hx); clear hx hp; obtain ⟨c1_0, _⟩ := B1.out.c; obtain ⟨f1_0, _⟩ := B1.out.f; obtain ⟨c2_0, c2_1, _⟩ := B2.out.c; obtain ⟨f2_0, f2_1, _⟩ := B2.out.f)
    | ((with_reducible refine gate_store (t := 47) (p := 2) rfl ?_); refine st_event rfl rfl rfl [.int .i64 0, .int .i64 0] B2.out.b rfl ?hv sizeFT rfl ?h1 ?_; (case hv => rfl); (case h1 => (intro q hq; simp only [List.mem_cons, List.not_mem_nil, or_false] at hq; rcases hq with rfl | rfl <;> rfl)); intro w1 hx hp; clear c1_0 f1_0; clear c2_0 f2_0 c2_1 f2_1; have B1 := Lib.hid (B1.out.far' hp (N1_2.out)); have FP := Lib.hid (foot_puts FP.out hp (Nat.not_lt.2 UP_2.out)); have HB := Lib.hid (hp.below _ G2.out HB.out); have B2 := Lib.hid (Two.mk hx); clear hx hp; obtain ⟨c1_0, _⟩ := B1.out.c; obtain ⟨f1_0, _⟩ := B1.out.f; obtain ⟨c2_0, c2_1, _⟩ := B2.out.c; obtain ⟨f2_0, f2_1, _⟩ := B2.out.f)
    | (go_at_call 10; with_reducible refine (calls_any _ p12Prog AP cP HCP.out (Kd.F_now FP.out) (by decide) p12_few).mono ?_; rintro x w1 ⟨v, rfl, hS, hb⟩; clear c1_0 f1_0; clear c2_0 f2_0 c2_1 f2_1; have FP := Lib.hid (Kd.F_below FP.out hb); have B1 := Lib.hid (B1.out.below hb); have B2 := Lib.hid (B2.out.below hb); have HB := Lib.hid (below_step HB.out hb); rw [calls_p12] at hS; obtain ⟨Ag, cg, eA, hcc, hC⟩ := Kd.S_reads hS; subst eA; have KG := Lib.hid hC; have HCG := Lib.hid hcc; clear hcc hC hS; clear hb; obtain ⟨c1_0, _⟩ := B1.out.c; obtain ⟨f1_0, _⟩ := B1.out.f; obtain ⟨c2_0, c2_1, _⟩ := B2.out.c; obtain ⟨f2_0, f2_1, _⟩ := B2.out.f)
    | ((with_reducible refine gate_dst (N := 15) rfl ?_); refine gate_guard (by first | rfl | kernel_rfl) ?_; refine lit_event rfl (N := 15) rfl (n := 1) (cs := #[.int .i64 1]) (t := 3) ?hr ?_; (case hr => first | (go_simp; done) | (go_simp; rfl)); intro g15 hg w1 hx hb; clear c1_0 f1_0; clear c2_0 f2_0 c2_1 f2_1; have FP := Lib.hid (Kd.F_below FP.out hb); have B1 := Lib.hid (B1.out.below hb); have B2 := Lib.hid (B2.out.below hb); have KG := Lib.hid (Kd.C_below KG.out hb); have HB := Lib.hid (below_step HB.out hb); have B15 := Lib.hid (RowB.mk hx); clear hx hb hg; obtain ⟨c1_0, _⟩ := B1.out.c; obtain ⟨f1_0, _⟩ := B1.out.f; obtain ⟨c2_0, c2_1, _⟩ := B2.out.c; obtain ⟨f2_0, f2_1, _⟩ := B2.out.f)
    | ((with_reducible refine gate_dst (N := 16) rfl ?_); refine gate_guard (by first | rfl | kernel_rfl) ?_; refine lit_event rfl (N := 16) rfl (n := 1) (cs := #[.int .i64 1]) (t := 3) ?hr ?_; (case hr => first | (go_simp; done) | (go_simp; rfl)); intro g16 hg w1 hx hb; clear c1_0 f1_0; clear c2_0 f2_0 c2_1 f2_1; have FP := Lib.hid (Kd.F_below FP.out hb); have B1 := Lib.hid (B1.out.below hb); have B2 := Lib.hid (B2.out.below hb); have KG := Lib.hid (Kd.C_below KG.out hb); have B15 := Lib.hid (B15.out.below hb); have HB := Lib.hid (below_step HB.out hb); have B16 := Lib.hid (RowB.mk hx); clear hx hb hg; obtain ⟨c1_0, _⟩ := B1.out.c; obtain ⟨f1_0, _⟩ := B1.out.f; obtain ⟨c2_0, c2_1, _⟩ := B2.out.c; obtain ⟨f2_0, f2_1, _⟩ := B2.out.f)
    | ((with_reducible refine gate_dst (N := 17) rfl ?_); refine gate_guard (by first | rfl | kernel_rfl) ?_; refine lit_event rfl (N := 17) rfl (n := 3) (cs := #[.int .i64 0, .int .i64 1, .int .i64 2]) (t := 3) ?hr ?_; (case hr => first | (go_simp; done) | (go_simp; rfl)); intro g17 hg w1 hx hb; clear c1_0 f1_0; clear c2_0 f2_0 c2_1 f2_1; have FP := Lib.hid (Kd.F_below FP.out hb); have B1 := Lib.hid (B1.out.below hb); have B2 := Lib.hid (B2.out.below hb); have KG := Lib.hid (Kd.C_below KG.out hb); have B15 := Lib.hid (B15.out.below hb); have B16 := Lib.hid (B16.out.below hb); have HB := Lib.hid (below_step HB.out hb); have B17 := Lib.hid (RowB.mk hx); clear hx hb hg; obtain ⟨c1_0, _⟩ := B1.out.c; obtain ⟨f1_0, _⟩ := B1.out.f; obtain ⟨c2_0, c2_1, _⟩ := B2.out.c; obtain ⟨f2_0, f2_1, _⟩ := B2.out.f)
    | ((with_reducible refine gate_dst (N := 18) rfl ?_); refine gate_guard (by first | rfl | kernel_rfl) ?_; refine lit_event rfl (N := 18) rfl (n := 3) (cs := #[.slice (some ⟨g15, 0, none⟩) 1 1, .slice (some ⟨g16, 0, none⟩) 1 1, .slice (some ⟨g17, 0, none⟩) 3 3]) (t := 32) ?hr ?_; (case hr => first | (go_simp; done) | (go_simp; rfl)); intro g18 hg w1 hx hb; clear c1_0 f1_0; clear c2_0 f2_0 c2_1 f2_1; have FP := Lib.hid (Kd.F_below FP.out hb); have B1 := Lib.hid (B1.out.below hb); have B2 := Lib.hid (B2.out.below hb); have KG := Lib.hid (Kd.C_below KG.out hb); have B15 := Lib.hid (B15.out.below hb); have B16 := Lib.hid (B16.out.below hb); have B17 := Lib.hid (B17.out.below hb); have HB := Lib.hid (below_step HB.out hb); have B18 := Lib.hid (RowB.mk hx); clear hx hb hg; obtain ⟨c1_0, _⟩ := B1.out.c; obtain ⟨f1_0, _⟩ := B1.out.f; obtain ⟨c2_0, c2_1, _⟩ := B2.out.c; obtain ⟨f2_0, f2_1, _⟩ := B2.out.f)
    | (go_at_call 11; ((have hL := (C_rows (w := w1) (e := 3) [[1], [1], [0, 1, 2]] _ B18.out.b (by decide) (fun j p hj => by
          rcases j with _ | _ | _ | j
          · obtain rfl := Option.some.inj hj; exact ⟨_, _, rfl, by decide, C_ints [1] B15.out.b (by decide)⟩
          · obtain rfl := Option.some.inj hj; exact ⟨_, _, rfl, by decide, C_ints [1] B16.out.b (by decide)⟩
          · obtain rfl := Option.some.inj hj; exact ⟨_, _, rfl, by decide, C_ints [0, 1, 2] B17.out.b (by decide)⟩
          · simp at hj)))); (with_reducible refine (calls_of_args ?ha (proteanref12_Same.calls 40 Ag cg [[1], [1], [0, 1, 2]] (some ⟨g18, 0, none⟩) 3 [[1], [1], [0, 1, 2]] true _ KG.out HCG.out hL (by decide) (by kernel_rfl))).mono ?_); (case ha => (simp; done)); ((rintro x w1 ⟨rfl, hd⟩; have hb := hd.below; clear hd; clear hL; clear c1_0 f1_0; clear c2_0 f2_0 c2_1 f2_1; have FP := Lib.hid (Kd.F_below FP.out hb); have B1 := Lib.hid (B1.out.below hb); have B2 := Lib.hid (B2.out.below hb); have KG := Lib.hid (Kd.C_below KG.out hb); have B15 := Lib.hid (B15.out.below hb); have B16 := Lib.hid (B16.out.below hb); have B17 := Lib.hid (B17.out.below hb); have B18 := Lib.hid (B18.out.below hb); have HB := Lib.hid (below_step HB.out hb); clear hb; obtain ⟨c1_0, _⟩ := B1.out.c; obtain ⟨f1_0, _⟩ := B1.out.f; obtain ⟨c2_0, c2_1, _⟩ := B2.out.c; obtain ⟨f2_0, f2_1, _⟩ := B2.out.f)))
    | (go_at_call 17; with_reducible refine (calls_of_args ?ha (reach_any [[1], [1], [0, 1, 2]] sm_p12 Ag cg 0 _ HCG.out KG.out)).mono ?_; (case ha => (simp; done)); rintro x w1 ⟨v, rfl, hR, hb⟩; clear c1_0 f1_0; clear c2_0 f2_0 c2_1 f2_1; have FP := Lib.hid (Kd.F_below FP.out hb); have B1 := Lib.hid (B1.out.below hb); have B2 := Lib.hid (B2.out.below hb); have KG := Lib.hid (Kd.C_below KG.out hb); have B15 := Lib.hid (B15.out.below hb); have B16 := Lib.hid (B16.out.below hb); have B17 := Lib.hid (B17.out.below hb); have B18 := Lib.hid (B18.out.below hb); have HB := Lib.hid (below_step HB.out hb); rw [reach_p12] at hR; obtain ⟨Ar, cr, eA, hcc, hC⟩ := Kd.R_reads hR; subst eA; have KR := Lib.hid hC; have HCR := Lib.hid hcc; clear hcc hC hR; clear hb; obtain ⟨c1_0, _⟩ := B1.out.c; obtain ⟨f1_0, _⟩ := B1.out.f; obtain ⟨c2_0, c2_1, _⟩ := B2.out.c; obtain ⟨f2_0, f2_1, _⟩ := B2.out.f)
    | ((with_reducible refine gate_dst (N := 24) rfl ?_); refine gate_guard (by first | rfl | kernel_rfl) ?_; refine lit_event rfl (N := 24) rfl (n := 2) (cs := #[.int .i64 0, .int .i64 1]) (t := 3) ?hr ?_; (case hr => first | (go_simp; done) | (go_simp; rfl)); intro g24 hg w1 hx hb; clear c1_0 f1_0; clear c2_0 f2_0 c2_1 f2_1; have FP := Lib.hid (Kd.F_below FP.out hb); have B1 := Lib.hid (B1.out.below hb); have B2 := Lib.hid (B2.out.below hb); have KG := Lib.hid (Kd.C_below KG.out hb); have B15 := Lib.hid (B15.out.below hb); have B16 := Lib.hid (B16.out.below hb); have B17 := Lib.hid (B17.out.below hb); have B18 := Lib.hid (B18.out.below hb); have KR := Lib.hid (Kd.C_below KR.out hb); have HB := Lib.hid (below_step HB.out hb); have B24 := Lib.hid (RowB.mk hx); clear hx hb hg; obtain ⟨c1_0, _⟩ := B1.out.c; obtain ⟨f1_0, _⟩ := B1.out.f; obtain ⟨c2_0, c2_1, _⟩ := B2.out.c; obtain ⟨f2_0, f2_1, _⟩ := B2.out.f)
    | (go_at_call 16; have hL := C_ints [0, 1] B24.out.b (by decide); (with_reducible refine (calls_of_args ?ha (proteanref12_Ints.calls 10 Ar cr [0, 1] (some ⟨g24, 0, none⟩) 2 [0, 1] true _ KR.out HCR.out hL (by decide) (by kernel_rfl))).mono ?_); (case ha => (simp; done)); ((rintro x w1 ⟨rfl, hd⟩; have hb := hd.below; clear hd; clear hL; clear c1_0 f1_0; clear c2_0 f2_0 c2_1 f2_1; have FP := Lib.hid (Kd.F_below FP.out hb); have B1 := Lib.hid (B1.out.below hb); have B2 := Lib.hid (B2.out.below hb); have KG := Lib.hid (Kd.C_below KG.out hb); have B15 := Lib.hid (B15.out.below hb); have B16 := Lib.hid (B16.out.below hb); have B17 := Lib.hid (B17.out.below hb); have B18 := Lib.hid (B18.out.below hb); have KR := Lib.hid (Kd.C_below KR.out hb); have B24 := Lib.hid (B24.out.below hb); have HB := Lib.hid (below_step HB.out hb); clear hb; obtain ⟨c1_0, _⟩ := B1.out.c; obtain ⟨f1_0, _⟩ := B1.out.f; obtain ⟨c2_0, c2_1, _⟩ := B2.out.c; obtain ⟨f2_0, f2_1, _⟩ := B2.out.f)))
    | (go_at_call 19; with_reducible refine (calls_of_args ?ha (graph_Turn.calls 60 Ag cg [[1], [1], [0, 1, 2]] [[2], [0, 1, 2], [2]] _ KG.out HCG.out (by kernel_rfl))).mono ?_; (case ha => (simp; done)); rintro x w1 ⟨v, rfl, hS, hb⟩; clear c1_0 f1_0; clear c2_0 f2_0 c2_1 f2_1; have FP := Lib.hid (Kd.F_below FP.out hb); have B1 := Lib.hid (B1.out.below hb); have B2 := Lib.hid (B2.out.below hb); have KG := Lib.hid (Kd.C_below KG.out hb); have B15 := Lib.hid (B15.out.below hb); have B16 := Lib.hid (B16.out.below hb); have B17 := Lib.hid (B17.out.below hb); have B18 := Lib.hid (B18.out.below hb); have KR := Lib.hid (Kd.C_below KR.out hb); have B24 := Lib.hid (B24.out.below hb); have HB := Lib.hid (below_step HB.out hb); obtain ⟨At, ct, eA, hcc, hC⟩ := Kd.S_reads hS; subst eA; have KT := Lib.hid hC; have HCT := Lib.hid hcc; clear hcc hC hS; clear hb; obtain ⟨c1_0, _⟩ := B1.out.c; obtain ⟨f1_0, _⟩ := B1.out.f; obtain ⟨c2_0, c2_1, _⟩ := B2.out.c; obtain ⟨f2_0, f2_1, _⟩ := B2.out.f)
    | ((with_reducible refine gate_dst (N := 30) rfl ?_); refine gate_guard (by first | rfl | kernel_rfl) ?_; refine lit_event rfl (N := 30) rfl (n := 1) (cs := #[.int .i64 2]) (t := 3) ?hr ?_; (case hr => first | (go_simp; done) | (go_simp; rfl)); intro g30 hg w1 hx hb; clear c1_0 f1_0; clear c2_0 f2_0 c2_1 f2_1; have FP := Lib.hid (Kd.F_below FP.out hb); have B1 := Lib.hid (B1.out.below hb); have B2 := Lib.hid (B2.out.below hb); have KG := Lib.hid (Kd.C_below KG.out hb); have B15 := Lib.hid (B15.out.below hb); have B16 := Lib.hid (B16.out.below hb); have B17 := Lib.hid (B17.out.below hb); have B18 := Lib.hid (B18.out.below hb); have KR := Lib.hid (Kd.C_below KR.out hb); have B24 := Lib.hid (B24.out.below hb); have KT := Lib.hid (Kd.C_below KT.out hb); have HB := Lib.hid (below_step HB.out hb); have B30 := Lib.hid (RowB.mk hx); clear hx hb hg; obtain ⟨c1_0, _⟩ := B1.out.c; obtain ⟨f1_0, _⟩ := B1.out.f; obtain ⟨c2_0, c2_1, _⟩ := B2.out.c; obtain ⟨f2_0, f2_1, _⟩ := B2.out.f)
    | ((with_reducible refine gate_dst (N := 31) rfl ?_); refine gate_guard (by first | rfl | kernel_rfl) ?_; refine lit_event rfl (N := 31) rfl (n := 3) (cs := #[.int .i64 0, .int .i64 1, .int .i64 2]) (t := 3) ?hr ?_; (case hr => first | (go_simp; done) | (go_simp; rfl)); intro g31 hg w1 hx hb; clear c1_0 f1_0; clear c2_0 f2_0 c2_1 f2_1; have FP := Lib.hid (Kd.F_below FP.out hb); have B1 := Lib.hid (B1.out.below hb); have B2 := Lib.hid (B2.out.below hb); have KG := Lib.hid (Kd.C_below KG.out hb); have B15 := Lib.hid (B15.out.below hb); have B16 := Lib.hid (B16.out.below hb); have B17 := Lib.hid (B17.out.below hb); have B18 := Lib.hid (B18.out.below hb); have KR := Lib.hid (Kd.C_below KR.out hb); have B24 := Lib.hid (B24.out.below hb); have KT := Lib.hid (Kd.C_below KT.out hb); have B30 := Lib.hid (B30.out.below hb); have HB := Lib.hid (below_step HB.out hb); have B31 := Lib.hid (RowB.mk hx); clear hx hb hg; obtain ⟨c1_0, _⟩ := B1.out.c; obtain ⟨f1_0, _⟩ := B1.out.f; obtain ⟨c2_0, c2_1, _⟩ := B2.out.c; obtain ⟨f2_0, f2_1, _⟩ := B2.out.f)
    | ((with_reducible refine gate_dst (N := 32) rfl ?_); refine gate_guard (by first | rfl | kernel_rfl) ?_; refine lit_event rfl (N := 32) rfl (n := 1) (cs := #[.int .i64 2]) (t := 3) ?hr ?_; (case hr => first | (go_simp; done) | (go_simp; rfl)); intro g32 hg w1 hx hb; clear c1_0 f1_0; clear c2_0 f2_0 c2_1 f2_1; have FP := Lib.hid (Kd.F_below FP.out hb); have B1 := Lib.hid (B1.out.below hb); have B2 := Lib.hid (B2.out.below hb); have KG := Lib.hid (Kd.C_below KG.out hb); have B15 := Lib.hid (B15.out.below hb); have B16 := Lib.hid (B16.out.below hb); have B17 := Lib.hid (B17.out.below hb); have B18 := Lib.hid (B18.out.below hb); have KR := Lib.hid (Kd.C_below KR.out hb); have B24 := Lib.hid (B24.out.below hb); have KT := Lib.hid (Kd.C_below KT.out hb); have B30 := Lib.hid (B30.out.below hb); have B31 := Lib.hid (B31.out.below hb); have HB := Lib.hid (below_step HB.out hb); have B32 := Lib.hid (RowB.mk hx); clear hx hb hg; obtain ⟨c1_0, _⟩ := B1.out.c; obtain ⟨f1_0, _⟩ := B1.out.f; obtain ⟨c2_0, c2_1, _⟩ := B2.out.c; obtain ⟨f2_0, f2_1, _⟩ := B2.out.f)
    | ((with_reducible refine gate_dst (N := 33) rfl ?_); refine gate_guard (by first | rfl | kernel_rfl) ?_; refine lit_event rfl (N := 33) rfl (n := 3) (cs := #[.slice (some ⟨g30, 0, none⟩) 1 1, .slice (some ⟨g31, 0, none⟩) 3 3, .slice (some ⟨g32, 0, none⟩) 1 1]) (t := 32) ?hr ?_; (case hr => first | (go_simp; done) | (go_simp; rfl)); intro g33 hg w1 hx hb; clear c1_0 f1_0; clear c2_0 f2_0 c2_1 f2_1; have FP := Lib.hid (Kd.F_below FP.out hb); have B1 := Lib.hid (B1.out.below hb); have B2 := Lib.hid (B2.out.below hb); have KG := Lib.hid (Kd.C_below KG.out hb); have B15 := Lib.hid (B15.out.below hb); have B16 := Lib.hid (B16.out.below hb); have B17 := Lib.hid (B17.out.below hb); have B18 := Lib.hid (B18.out.below hb); have KR := Lib.hid (Kd.C_below KR.out hb); have B24 := Lib.hid (B24.out.below hb); have KT := Lib.hid (Kd.C_below KT.out hb); have B30 := Lib.hid (B30.out.below hb); have B31 := Lib.hid (B31.out.below hb); have B32 := Lib.hid (B32.out.below hb); have HB := Lib.hid (below_step HB.out hb); have B33 := Lib.hid (RowB.mk hx); clear hx hb hg; obtain ⟨c1_0, _⟩ := B1.out.c; obtain ⟨f1_0, _⟩ := B1.out.f; obtain ⟨c2_0, c2_1, _⟩ := B2.out.c; obtain ⟨f2_0, f2_1, _⟩ := B2.out.f)
    | (go_at_call 11; ((have hL := (C_rows (w := w1) (e := 3) [[2], [0, 1, 2], [2]] _ B33.out.b (by decide) (fun j p hj => by
          rcases j with _ | _ | _ | j
          · obtain rfl := Option.some.inj hj; exact ⟨_, _, rfl, by decide, C_ints [2] B30.out.b (by decide)⟩
          · obtain rfl := Option.some.inj hj; exact ⟨_, _, rfl, by decide, C_ints [0, 1, 2] B31.out.b (by decide)⟩
          · obtain rfl := Option.some.inj hj; exact ⟨_, _, rfl, by decide, C_ints [2] B32.out.b (by decide)⟩
          · simp at hj)))); (with_reducible refine (calls_of_args ?ha (proteanref12_Same.calls 40 At ct [[2], [0, 1, 2], [2]] (some ⟨g33, 0, none⟩) 3 [[2], [0, 1, 2], [2]] true _ KT.out HCT.out hL (by decide) (by kernel_rfl))).mono ?_); (case ha => (simp; done)); ((rintro x w1 ⟨rfl, hd⟩; have hb := hd.below; clear hd; clear hL; clear c1_0 f1_0; clear c2_0 f2_0 c2_1 f2_1; have FP := Lib.hid (Kd.F_below FP.out hb); have B1 := Lib.hid (B1.out.below hb); have B2 := Lib.hid (B2.out.below hb); have KG := Lib.hid (Kd.C_below KG.out hb); have B15 := Lib.hid (B15.out.below hb); have B16 := Lib.hid (B16.out.below hb); have B17 := Lib.hid (B17.out.below hb); have B18 := Lib.hid (B18.out.below hb); have KR := Lib.hid (Kd.C_below KR.out hb); have B24 := Lib.hid (B24.out.below hb); have KT := Lib.hid (Kd.C_below KT.out hb); have B30 := Lib.hid (B30.out.below hb); have B31 := Lib.hid (B31.out.below hb); have B32 := Lib.hid (B32.out.below hb); have B33 := Lib.hid (B33.out.below hb); have HB := Lib.hid (below_step HB.out hb); clear hb; obtain ⟨c1_0, _⟩ := B1.out.c; obtain ⟨f1_0, _⟩ := B1.out.f; obtain ⟨c2_0, c2_1, _⟩ := B2.out.c; obtain ⟨f2_0, f2_1, _⟩ := B2.out.f)))
    | (go_at_call 13; (with_reducible refine (calls_of_args ?ha (graph_May.calls 40 Ag cg [[1], [1], [0, 1, 2]] true _ KG.out HCG.out (by kernel_rfl))).mono ?_); (case ha => (simp; done)); ((rintro x w1 ⟨rfl, hd⟩; have hb := hd.below; clear hd; clear c1_0 f1_0; clear c2_0 f2_0 c2_1 f2_1; have FP := Lib.hid (Kd.F_below FP.out hb); have B1 := Lib.hid (B1.out.below hb); have B2 := Lib.hid (B2.out.below hb); have KG := Lib.hid (Kd.C_below KG.out hb); have B15 := Lib.hid (B15.out.below hb); have B16 := Lib.hid (B16.out.below hb); have B17 := Lib.hid (B17.out.below hb); have B18 := Lib.hid (B18.out.below hb); have KR := Lib.hid (Kd.C_below KR.out hb); have B24 := Lib.hid (B24.out.below hb); have KT := Lib.hid (Kd.C_below KT.out hb); have B30 := Lib.hid (B30.out.below hb); have B31 := Lib.hid (B31.out.below hb); have B32 := Lib.hid (B32.out.below hb); have B33 := Lib.hid (B33.out.below hb); have HB := Lib.hid (below_step HB.out hb); clear hb; obtain ⟨c1_0, _⟩ := B1.out.c; obtain ⟨f1_0, _⟩ := B1.out.f; obtain ⟨c2_0, c2_1, _⟩ := B2.out.c; obtain ⟨f2_0, f2_1, _⟩ := B2.out.f)))
    | ((with_reducible refine gate_dst (N := 41) rfl ?_); refine gate_guard (by first | rfl | kernel_rfl) ?_; refine lit_event rfl (N := 41) rfl (n := 1) (cs := #[.int .i64 1]) (t := 3) ?hr ?_; (case hr => first | (go_simp; done) | (go_simp; rfl)); intro g41 hg w1 hx hb; clear c1_0 f1_0; clear c2_0 f2_0 c2_1 f2_1; have FP := Lib.hid (Kd.F_below FP.out hb); have B1 := Lib.hid (B1.out.below hb); have B2 := Lib.hid (B2.out.below hb); have KG := Lib.hid (Kd.C_below KG.out hb); have B15 := Lib.hid (B15.out.below hb); have B16 := Lib.hid (B16.out.below hb); have B17 := Lib.hid (B17.out.below hb); have B18 := Lib.hid (B18.out.below hb); have KR := Lib.hid (Kd.C_below KR.out hb); have B24 := Lib.hid (B24.out.below hb); have KT := Lib.hid (Kd.C_below KT.out hb); have B30 := Lib.hid (B30.out.below hb); have B31 := Lib.hid (B31.out.below hb); have B32 := Lib.hid (B32.out.below hb); have B33 := Lib.hid (B33.out.below hb); have HB := Lib.hid (below_step HB.out hb); have B41 := Lib.hid (RowB.mk hx); clear hx hb hg; obtain ⟨c1_0, _⟩ := B1.out.c; obtain ⟨f1_0, _⟩ := B1.out.f; obtain ⟨c2_0, c2_1, _⟩ := B2.out.c; obtain ⟨f2_0, f2_1, _⟩ := B2.out.f)
    | ((with_reducible refine gate_dst (N := 42) rfl ?_); refine gate_guard (by first | rfl | kernel_rfl) ?_; refine lit_event rfl (N := 42) rfl (n := 1) (cs := #[.slice (some ⟨g41, 0, none⟩) 1 1]) (t := 32) ?hr ?_; (case hr => first | (go_simp; done) | (go_simp; rfl)); intro g42 hg w1 hx hb; clear c1_0 f1_0; clear c2_0 f2_0 c2_1 f2_1; have FP := Lib.hid (Kd.F_below FP.out hb); have B1 := Lib.hid (B1.out.below hb); have B2 := Lib.hid (B2.out.below hb); have KG := Lib.hid (Kd.C_below KG.out hb); have B15 := Lib.hid (B15.out.below hb); have B16 := Lib.hid (B16.out.below hb); have B17 := Lib.hid (B17.out.below hb); have B18 := Lib.hid (B18.out.below hb); have KR := Lib.hid (Kd.C_below KR.out hb); have B24 := Lib.hid (B24.out.below hb); have KT := Lib.hid (Kd.C_below KT.out hb); have B30 := Lib.hid (B30.out.below hb); have B31 := Lib.hid (B31.out.below hb); have B32 := Lib.hid (B32.out.below hb); have B33 := Lib.hid (B33.out.below hb); have B41 := Lib.hid (B41.out.below hb); have HB := Lib.hid (below_step HB.out hb); have B42 := Lib.hid (RowB.mk hx); clear hx hb hg; obtain ⟨c1_0, _⟩ := B1.out.c; obtain ⟨f1_0, _⟩ := B1.out.f; obtain ⟨c2_0, c2_1, _⟩ := B2.out.c; obtain ⟨f2_0, f2_1, _⟩ := B2.out.f)
    | (go_at_call 13; ((have hL := (C_rows (w := w1) (e := 3) [[1]] _ B42.out.b (by decide) (fun j p hj => by
          rcases j with _ | j
          · obtain rfl := Option.some.inj hj; exact ⟨_, _, rfl, by decide, C_ints [1] B41.out.b (by decide)⟩
          · simp at hj)))); (with_reducible refine (calls_of_args ?ha (graph_May.calls 40 (some ⟨g42, 0, none⟩) 1 [[1]] false _ hL (by decide) (by kernel_rfl))).mono ?_); (case ha => (simp; done)); ((rintro x w1 ⟨rfl, hd⟩; have hb := hd.below; clear hd; clear hL; clear c1_0 f1_0; clear c2_0 f2_0 c2_1 f2_1; have FP := Lib.hid (Kd.F_below FP.out hb); have B1 := Lib.hid (B1.out.below hb); have B2 := Lib.hid (B2.out.below hb); have KG := Lib.hid (Kd.C_below KG.out hb); have B15 := Lib.hid (B15.out.below hb); have B16 := Lib.hid (B16.out.below hb); have B17 := Lib.hid (B17.out.below hb); have B18 := Lib.hid (B18.out.below hb); have KR := Lib.hid (Kd.C_below KR.out hb); have B24 := Lib.hid (B24.out.below hb); have KT := Lib.hid (Kd.C_below KT.out hb); have B30 := Lib.hid (B30.out.below hb); have B31 := Lib.hid (B31.out.below hb); have B32 := Lib.hid (B32.out.below hb); have B33 := Lib.hid (B33.out.below hb); have B41 := Lib.hid (B41.out.below hb); have B42 := Lib.hid (B42.out.below hb); have HB := Lib.hid (below_step HB.out hb); clear hb; obtain ⟨c1_0, _⟩ := B1.out.c; obtain ⟨f1_0, _⟩ := B1.out.f; obtain ⟨c2_0, c2_1, _⟩ := B2.out.c; obtain ⟨f2_0, f2_1, _⟩ := B2.out.f))))
  go_ret
  exact ⟨rfl, HB.out⟩
end Go.Proofs.Ytdbngbmokgeeiaa.Man

-- Written by wip/xprint.py (the kit's print, run over this seat with some contracts of my own). Not trusted: Lean checks it.
namespace Go.Proofs.Ytdbngbmokgeeiaa.Pr
open Go.RowKit Go.Proofs.YtdbngbmokgeeiaaW.PrintWords Go.Proofs.YtdbngbmokgeeiaaW.PrintLast Go.Proofs.YtdbngbmokgeeiaaW.PrintMore
attribute [local go_sem] max2_int min2_int max_two min_two max_three min_three max_four min_four   -- for this text's walks alone
set_option linter.unusedVariables false
set_option linter.unusedSimpArgs false

/-! ### proteanlaw12_fixed: function 9 -/
open Classical in
noncomputable def proteanlaw12_fixed.f  : Option (Bool) := some true
theorem proteanlaw12_fixed.calls  (r : Bool) (w : World) (h : proteanlaw12_fixed.f  = some r) :
    Calls Try.prog 9 #[] w fun e w' => e = .returned (.bool r) ∧ Below w.heap.size w w' :=
  by
  cases h
  exact Man.fixed_any w

end Go.Proofs.Ytdbngbmokgeeiaa.Pr

-- Written by wip/xprint.py (the kit's print, run over this seat with some contracts of my own). Not trusted: Lean checks it.
namespace Go.Proofs.Ytdbngbmokgeeiaa.Pr
open Go.RowKit Go.Proofs.YtdbngbmokgeeiaaW.PrintWords Go.Proofs.YtdbngbmokgeeiaaW.PrintLast Go.Proofs.YtdbngbmokgeeiaaW.PrintMore
attribute [local go_sem] max2_int min2_int max_two min_two max_three min_three max_four min_four   -- for this text's walks alone
set_option linter.unusedVariables false
set_option linter.unusedSimpArgs false

/-! ### proteanlaw12_GraphTells: function 4 -/
noncomputable def proteanlaw12_GraphTells.f (k : Nat) (l0 : List (List Int)) (a1 : Int) : Option (Bool) := (proteanlaw12_small.f k l0).bind fun t287 => (if t287 = true then ((proteanlaw12_fixed.f).bind fun t289 => (if t289 = true then ((graph_May.f k l0).bind fun t290 => ((proteanref12_May.f k l0).bind fun t291 => (if (t290 == t291) = true then ((graph_Reach.f k l0 a1).bind fun t292 => ((proteanref12_Reach.f k l0 a1).bind fun t295 => ((proteanref12_Ints.f k t292 t295).bind fun t298 => (if t298 = true then ((graph_Turn.f k l0).bind fun t299 => ((proteanref12_Turn.f k l0).bind fun t302 => ((proteanref12_Same.f k t299 t302).bind fun t305 => (some t305)))) else (some false))))) else (some false)))) else (some false))) else ((proteanlaw12_fixed.f).bind fun t288 => (some t288)))
set_option maxHeartbeats 8000000 in
set_option maxRecDepth 100000 in
theorem proteanlaw12_GraphTells.calls (k : Nat) (A0 : Option Addr) (c0 : Nat) (l0 : List (List Int)) (a1 : Int) (r : Bool) (w : World) (hr0 : Kd.C (Kd.slice 3 (Kd.int .i64)) w A0 l0.length l0) (hc0 : l0.length ≤ c0) (h : proteanlaw12_GraphTells.f k l0 a1 = some r) :
    Calls Try.prog 4 #[.slice A0 l0.length c0, .int .i64 a1] w fun e w' => e = .returned (.bool r) ∧ Below w.heap.size w w' := by
 have HR0 := Aside0.mk hr0
 have HC0 := Aside0.mk hc0
 clear hr0 hc0
 have HB := Aside0.mk (Below.refl w.heap.size w)
 have H : ((proteanlaw12_small.f k l0).bind fun t287 => (if t287 = true then ((proteanlaw12_fixed.f).bind fun t289 => (if t289 = true then ((graph_May.f k l0).bind fun t290 => ((proteanref12_May.f k l0).bind fun t291 => (if (t290 == t291) = true then ((graph_Reach.f k l0 a1).bind fun t292 => ((proteanref12_Reach.f k l0 a1).bind fun t295 => ((proteanref12_Ints.f k t292 t295).bind fun t298 => (if t298 = true then ((graph_Turn.f k l0).bind fun t299 => ((proteanref12_Turn.f k l0).bind fun t302 => ((proteanref12_Same.f k t299 t302).bind fun t305 => (some t305)))) else (some false))))) else (some false)))) else (some false))) else ((proteanlaw12_fixed.f).bind fun t288 => (some t288)))) = some r := h
 clear h
 replace H := Option.bind_eq_some_iff.mp H
 obtain ⟨t287, A30, H⟩ := H
 replace H : (if t287 = true then ((proteanlaw12_fixed.f).bind fun t289 => (if t289 = true then ((graph_May.f k l0).bind fun t290 => ((proteanref12_May.f k l0).bind fun t291 => (if (t290 == t291) = true then ((graph_Reach.f k l0 a1).bind fun t292 => ((proteanref12_Reach.f k l0 a1).bind fun t295 => ((proteanref12_Ints.f k t292 t295).bind fun t298 => (if t298 = true then ((graph_Turn.f k l0).bind fun t299 => ((proteanref12_Turn.f k l0).bind fun t302 => ((proteanref12_Same.f k t299 t302).bind fun t305 => (some t305)))) else (some false))))) else (some false)))) else (some false))) else ((proteanlaw12_fixed.f).bind fun t288 => (some t288))) = some r := H
 have A3 := Aside0.mk A30
 clear A30
 by_cases c4 : t287 = true
 ·subst c4
  have H1 : ((proteanlaw12_fixed.f).bind fun t289 => (if t289 = true then ((graph_May.f k l0).bind fun t290 => ((proteanref12_May.f k l0).bind fun t291 => (if (t290 == t291) = true then ((graph_Reach.f k l0 a1).bind fun t292 => ((proteanref12_Reach.f k l0 a1).bind fun t295 => ((proteanref12_Ints.f k t292 t295).bind fun t298 => (if t298 = true then ((graph_Turn.f k l0).bind fun t299 => ((proteanref12_Turn.f k l0).bind fun t302 => ((proteanref12_Same.f k t299 t302).bind fun t305 => (some t305)))) else (some false))))) else (some false)))) else (some false))) = some r := by rw [if_pos rfl] at H; exact H
  clear H
  have H := H1
  clear H1
  replace H := Option.bind_eq_some_iff.mp H
  obtain ⟨t289, A50, H⟩ := H
  replace H : (if t289 = true then ((graph_May.f k l0).bind fun t290 => ((proteanref12_May.f k l0).bind fun t291 => (if (t290 == t291) = true then ((graph_Reach.f k l0 a1).bind fun t292 => ((proteanref12_Reach.f k l0 a1).bind fun t295 => ((proteanref12_Ints.f k t292 t295).bind fun t298 => (if t298 = true then ((graph_Turn.f k l0).bind fun t299 => ((proteanref12_Turn.f k l0).bind fun t302 => ((proteanref12_Same.f k t299 t302).bind fun t305 => (some t305)))) else (some false))))) else (some false)))) else (some false)) = some r := H
  have A5 := Aside0.mk A50
  clear A50
  by_cases c6 : t289 = true
  ·subst c6
   have H1 : ((graph_May.f k l0).bind fun t290 => ((proteanref12_May.f k l0).bind fun t291 => (if (t290 == t291) = true then ((graph_Reach.f k l0 a1).bind fun t292 => ((proteanref12_Reach.f k l0 a1).bind fun t295 => ((proteanref12_Ints.f k t292 t295).bind fun t298 => (if t298 = true then ((graph_Turn.f k l0).bind fun t299 => ((proteanref12_Turn.f k l0).bind fun t302 => ((proteanref12_Same.f k t299 t302).bind fun t305 => (some t305)))) else (some false))))) else (some false)))) = some r := by rw [if_pos rfl] at H; exact H
   clear H
   have H := H1
   clear H1
   replace H := Option.bind_eq_some_iff.mp H
   obtain ⟨t290, A70, H⟩ := H
   replace H : ((proteanref12_May.f k l0).bind fun t291 => (if (t290 == t291) = true then ((graph_Reach.f k l0 a1).bind fun t292 => ((proteanref12_Reach.f k l0 a1).bind fun t295 => ((proteanref12_Ints.f k t292 t295).bind fun t298 => (if t298 = true then ((graph_Turn.f k l0).bind fun t299 => ((proteanref12_Turn.f k l0).bind fun t302 => ((proteanref12_Same.f k t299 t302).bind fun t305 => (some t305)))) else (some false))))) else (some false))) = some r := H
   have A7 := Aside0.mk A70
   clear A70
   replace H := Option.bind_eq_some_iff.mp H
   obtain ⟨t291, A80, H⟩ := H
   replace H : (if (t290 == t291) = true then ((graph_Reach.f k l0 a1).bind fun t292 => ((proteanref12_Reach.f k l0 a1).bind fun t295 => ((proteanref12_Ints.f k t292 t295).bind fun t298 => (if t298 = true then ((graph_Turn.f k l0).bind fun t299 => ((proteanref12_Turn.f k l0).bind fun t302 => ((proteanref12_Same.f k t299 t302).bind fun t305 => (some t305)))) else (some false))))) else (some false)) = some r := H
   have A8 := Aside0.mk A80
   clear A80
   by_cases c9 : (t290 == t291) = true
   ·rw [if_pos c9] at H
    have c9b0 : (t290 == t291) = true := c9
    (try (have c9b1 : decide (t290 = t291) = true := by simpa using c9))
    (try (have c9b2 : (t290 == t291) = true := by simpa using c9))
    clear c9
    replace H := Option.bind_eq_some_iff.mp H
    obtain ⟨t292, A100, H⟩ := H
    replace H : ((proteanref12_Reach.f k l0 a1).bind fun t295 => ((proteanref12_Ints.f k t292 t295).bind fun t298 => (if t298 = true then ((graph_Turn.f k l0).bind fun t299 => ((proteanref12_Turn.f k l0).bind fun t302 => ((proteanref12_Same.f k t299 t302).bind fun t305 => (some t305)))) else (some false)))) = some r := H
    have A10 := Aside0.mk A100
    clear A100
    replace H := Option.bind_eq_some_iff.mp H
    obtain ⟨t295, A110, H⟩ := H
    replace H : ((proteanref12_Ints.f k t292 t295).bind fun t298 => (if t298 = true then ((graph_Turn.f k l0).bind fun t299 => ((proteanref12_Turn.f k l0).bind fun t302 => ((proteanref12_Same.f k t299 t302).bind fun t305 => (some t305)))) else (some false))) = some r := H
    have A11 := Aside0.mk A110
    clear A110
    replace H := Option.bind_eq_some_iff.mp H
    obtain ⟨t298, A120, H⟩ := H
    replace H : (if t298 = true then ((graph_Turn.f k l0).bind fun t299 => ((proteanref12_Turn.f k l0).bind fun t302 => ((proteanref12_Same.f k t299 t302).bind fun t305 => (some t305)))) else (some false)) = some r := H
    have A12 := Aside0.mk A120
    clear A120
    by_cases c13 : t298 = true
    ·subst c13
     have H1 : ((graph_Turn.f k l0).bind fun t299 => ((proteanref12_Turn.f k l0).bind fun t302 => ((proteanref12_Same.f k t299 t302).bind fun t305 => (some t305)))) = some r := by rw [if_pos rfl] at H; exact H
     clear H
     have H := H1
     clear H1
     replace H := Option.bind_eq_some_iff.mp H
     obtain ⟨t299, A140, H⟩ := H
     replace H : ((proteanref12_Turn.f k l0).bind fun t302 => ((proteanref12_Same.f k t299 t302).bind fun t305 => (some t305))) = some r := H
     have A14 := Aside0.mk A140
     clear A140
     replace H := Option.bind_eq_some_iff.mp H
     obtain ⟨t302, A150, H⟩ := H
     replace H : ((proteanref12_Same.f k t299 t302).bind fun t305 => (some t305)) = some r := H
     have A15 := Aside0.mk A150
     clear A150
     replace H := Option.bind_eq_some_iff.mp H
     obtain ⟨t305, A160, H⟩ := H
     replace H : (some t305) = some r := H
     have A16 := Aside0.mk A160
     clear A160
     obtain rfl := Option.some.inj H
     go_enter Try.func4, Try.ntmps4
     go_wp2_with (first | ((with_reducible refine gate_callee (f := 14) rfl ?_); refine goesL_ (some 6) rfl rfl Try.func14 (by kernel_rfl) rfl #[.slice A0 l0.length c0] rfl (by (try simp only [List.map_toArray, List.map_cons, List.map_nil]); first | done | rfl | (simp only [List.length_drop, List.length_take]; rfl)) ?_; (with_reducible refine (proteanlaw12_small.calls k _ _ l0 true _ ?side1 ?side2 A3.out).mono ?_); (case side1 => repeat (first | exact HR0.out | (with_reducible refine Kd.C_alloc ?_ _) | (with_reducible refine Kd.C_drewN ?_ _) | (with_reducible refine Kd.C_drew ?_))); (case side2 => exact HC0.out); rintro e w' ⟨rfl, ⟨nd, rfl⟩⟩; refine ⟨_, rfl, ?_⟩) | ((with_reducible refine gate_callee (f := 9) rfl ?_); refine goesL_ (some 9) rfl rfl Try.func9 (by kernel_rfl) rfl #[] rfl (by (try simp only [List.map_toArray, List.map_cons, List.map_nil]); first | done | rfl | (simp only [List.length_drop, List.length_take]; rfl)) ?_; (with_reducible refine (proteanlaw12_fixed.calls  true _ A5.out).mono ?_); rintro e w17 ⟨rfl, hb⟩; refine ⟨_, rfl, ?_⟩; have n0_ := Aside0.mk (below_step (by repeat (first | (with_reducible first | exact HB.out | apply below_alloc | apply pw_below_drewN | apply below_drew1) | exact HB.out)) hb); clear HB; have HB := n0_; clear n0_; (try clear hb); (try clear hb2); (try clear hk); (try clear hi)) | (go_at_call 13; (with_reducible refine (graph_May.calls k _ _ l0 t290 _ ?side1 ?side2 A7.out).mono ?_); (case side1 => repeat (first | exact (Kd.C_below HR0.out HB.out) | (with_reducible refine Kd.C_alloc ?_ _) | (with_reducible refine Kd.C_drewN ?_ _) | (with_reducible refine Kd.C_drew ?_))); (case side2 => exact HC0.out); rintro e w' ⟨rfl, ⟨nd, rfl⟩⟩) | (go_at_call 15; (with_reducible refine (proteanref12_May.calls k _ _ l0 t291 _ ?side1 ?side2 A8.out).mono ?_); (case side1 => repeat (first | exact (Kd.C_below HR0.out (by repeat (first | (with_reducible first | exact HB.out | apply below_alloc | apply pw_below_drewN | apply below_drew1) | exact HB.out))) | (with_reducible refine Kd.C_alloc ?_ _) | (with_reducible refine Kd.C_drewN ?_ _) | (with_reducible refine Kd.C_drew ?_))); (case side2 => exact HC0.out); rintro e w' ⟨rfl, ⟨nd, rfl⟩⟩) | (go_at_call 17; (with_reducible refine (graph_Reach.calls k _ _ l0 a1 t292 _ ?side1 ?side2 A10.out).mono ?_); (case side1 => repeat (first | exact (Kd.C_below HR0.out (by repeat (first | (with_reducible first | exact HB.out | apply below_alloc | apply pw_below_drewN | apply below_drew1) | exact HB.out))) | (with_reducible refine Kd.C_alloc ?_ _) | (with_reducible refine Kd.C_drewN ?_ _) | (with_reducible refine Kd.C_drew ?_))); (case side2 => exact HC0.out); rintro e w18 ⟨v293, rfl, ho0, hb⟩; have n0_ := Aside0.mk (Kd.R_lower ho0 (below_size (by repeat (first | (with_reducible first | exact HB.out | apply below_alloc | apply pw_below_drewN | apply below_drew1) | exact HB.out)))); have n1_ := Aside0.mk (below_step (by repeat (first | (with_reducible first | exact HB.out | apply below_alloc | apply pw_below_drewN | apply below_drew1) | exact HB.out)) hb); clear HB; have HO294 := n0_; have HB := n1_; clear n0_ n1_; (try clear hb); (try clear hb2); (try clear hk); (try clear hi); (try clear ho0)) | (go_at_call 18; (with_reducible refine (proteanref12_Reach.calls k _ _ l0 a1 t295 _ ?side1 ?side2 A11.out).mono ?_); (case side1 => repeat (first | exact (Kd.C_below HR0.out HB.out) | (with_reducible refine Kd.C_alloc ?_ _) | (with_reducible refine Kd.C_drewN ?_ _) | (with_reducible refine Kd.C_drew ?_))); (case side2 => exact HC0.out); rintro e w19 ⟨v296, rfl, ho0, hb⟩; have n0_ := Aside0.mk (Kd.R_elder' (by (with_reducible repeat (first | apply Kd.R_alloc | apply Kd.R_drewN | apply Kd.R_drew)); exact HO294.out) (Kd.R_base ho0) hb); have n1_ := Aside0.mk (Kd.R_lower (Kd.R_new' ho0 (Kd.R_lt (by (with_reducible repeat (first | apply Kd.R_alloc | apply Kd.R_drewN | apply Kd.R_drew)); exact HO294.out))) (below_size (by repeat (first | (with_reducible first | exact HB.out | apply below_alloc | apply pw_below_drewN | apply below_drew1) | exact HB.out)))); have n2_ := Aside0.mk (below_step (by repeat (first | (with_reducible first | exact HB.out | apply below_alloc | apply pw_below_drewN | apply below_drew1) | exact HB.out)) hb); clear HO294; clear HB; have HO294 := n0_; have HO297 := n1_; have HB := n2_; clear n0_ n1_ n2_; (try clear hb); (try clear hb2); (try clear hk); (try clear hi); (try clear ho0); obtain ⟨Ao20, co20, eo20⟩ := Kd.R_slice HO294.out; subst eo20; obtain ⟨Ao21, co21, eo21⟩ := Kd.R_slice HO297.out; subst eo21) | (go_at_call 16; (with_reducible refine (proteanref12_Ints.calls k _ _ t292 _ _ t295 true _ ?side1 ?side2 ?side3 ?side4 A12.out).mono ?_); (case side1 => repeat (first | exact (Kd.R_reads' HO294.out).2.2 | (with_reducible refine Kd.C_alloc ?_ _) | (with_reducible refine Kd.C_drewN ?_ _) | (with_reducible refine Kd.C_drew ?_))); (case side2 => exact (Kd.R_reads' HO294.out).2.1); (case side3 => repeat (first | exact (Kd.R_reads' HO297.out).2.2 | (with_reducible refine Kd.C_alloc ?_ _) | (with_reducible refine Kd.C_drewN ?_ _) | (with_reducible refine Kd.C_drew ?_))); (case side4 => exact (Kd.R_reads' HO297.out).2.1); rintro e w' ⟨rfl, ⟨nd, rfl⟩⟩) | (go_at_call 19; (with_reducible refine (graph_Turn.calls k _ _ l0 t299 _ ?side1 ?side2 A14.out).mono ?_); (case side1 => repeat (first | exact (Kd.C_below HR0.out (by repeat (first | (with_reducible first | exact HB.out | apply below_alloc | apply pw_below_drewN | apply below_drew1) | exact HB.out))) | (with_reducible refine Kd.C_alloc ?_ _) | (with_reducible refine Kd.C_drewN ?_ _) | (with_reducible refine Kd.C_drew ?_))); (case side2 => exact HC0.out); rintro e w22 ⟨v300, rfl, ho0, hb⟩; have n0_ := Aside0.mk (Kd.R_below (by (with_reducible repeat (first | apply Kd.R_alloc | apply Kd.R_drewN | apply Kd.R_drew)); exact HO294.out) hb); have n1_ := Aside0.mk (Kd.R_below (by (with_reducible repeat (first | apply Kd.R_alloc | apply Kd.R_drewN | apply Kd.R_drew)); exact HO297.out) hb); have n2_ := Aside0.mk (Kd.S_lower (Kd.S_new' (Kd.S_new' ho0 (Kd.R_lt (by (with_reducible repeat (first | apply Kd.R_alloc | apply Kd.R_drewN | apply Kd.R_drew)); exact HO294.out))) (Kd.R_lt (by (with_reducible repeat (first | apply Kd.R_alloc | apply Kd.R_drewN | apply Kd.R_drew)); exact HO297.out))) (below_size (by repeat (first | (with_reducible first | exact HB.out | apply below_alloc | apply pw_below_drewN | apply below_drew1) | exact HB.out)))); have n3_ := Aside0.mk (below_step (by repeat (first | (with_reducible first | exact HB.out | apply below_alloc | apply pw_below_drewN | apply below_drew1) | exact HB.out)) hb); clear HO294; clear HO297; clear HB; have HO294 := n0_; have HO297 := n1_; have HO301 := n2_; have HB := n3_; clear n0_ n1_ n2_ n3_; (try clear hb); (try clear hb2); (try clear hk); (try clear hi); (try clear ho0)) | (go_at_call 20; (with_reducible refine (proteanref12_Turn.calls k _ _ l0 t302 _ ?side1 ?side2 A15.out).mono ?_); (case side1 => repeat (first | exact (Kd.C_below HR0.out HB.out) | (with_reducible refine Kd.C_alloc ?_ _) | (with_reducible refine Kd.C_drewN ?_ _) | (with_reducible refine Kd.C_drew ?_))); (case side2 => exact HC0.out); rintro e w23 ⟨v303, rfl, ho0, hb⟩; have n0_ := Aside0.mk (Kd.R_below (by (with_reducible repeat (first | apply Kd.R_alloc | apply Kd.R_drewN | apply Kd.R_drew)); exact HO294.out) hb); have n1_ := Aside0.mk (Kd.R_below (by (with_reducible repeat (first | apply Kd.R_alloc | apply Kd.R_drewN | apply Kd.R_drew)); exact HO297.out) hb); have n2_ := Aside0.mk (Kd.S_elder' (by (with_reducible repeat (first | apply Kd.S_alloc | apply Kd.S_drewN | apply Kd.S_drew)); exact HO301.out) (Kd.S_base ho0) hb); have n3_ := Aside0.mk (Kd.S_lower (Kd.S_new' (Kd.S_new' (Kd.S_new' ho0 (Kd.R_lt (by (with_reducible repeat (first | apply Kd.R_alloc | apply Kd.R_drewN | apply Kd.R_drew)); exact HO294.out))) (Kd.R_lt (by (with_reducible repeat (first | apply Kd.R_alloc | apply Kd.R_drewN | apply Kd.R_drew)); exact HO297.out))) (Kd.S_lt (by (with_reducible repeat (first | apply Kd.S_alloc | apply Kd.S_drewN | apply Kd.S_drew)); exact HO301.out))) (below_size (by repeat (first | (with_reducible first | exact HB.out | apply below_alloc | apply pw_below_drewN | apply below_drew1) | exact HB.out)))); have n4_ := Aside0.mk (below_step (by repeat (first | (with_reducible first | exact HB.out | apply below_alloc | apply pw_below_drewN | apply below_drew1) | exact HB.out)) hb); clear HO294; clear HO297; clear HO301; clear HB; have HO294 := n0_; have HO297 := n1_; have HO301 := n2_; have HO304 := n3_; have HB := n4_; clear n0_ n1_ n2_ n3_ n4_; (try clear hb); (try clear hb2); (try clear hk); (try clear hi); (try clear ho0); obtain ⟨Ao24, co24, eo24⟩ := Kd.S_slice HO301.out; subst eo24; obtain ⟨Ao25, co25, eo25⟩ := Kd.S_slice HO304.out; subst eo25) | (go_at_call 11; (with_reducible refine (proteanref12_Same.calls k _ _ t299 _ _ t302 t305 _ ?side1 ?side2 ?side3 ?side4 A16.out).mono ?_); (case side1 => repeat (first | exact (Kd.S_reads' HO301.out).2.2 | (with_reducible refine Kd.C_alloc ?_ _) | (with_reducible refine Kd.C_drewN ?_ _) | (with_reducible refine Kd.C_drew ?_))); (case side2 => exact (Kd.S_reads' HO301.out).2.1); (case side3 => repeat (first | exact (Kd.S_reads' HO304.out).2.2 | (with_reducible refine Kd.C_alloc ?_ _) | (with_reducible refine Kd.C_drewN ?_ _) | (with_reducible refine Kd.C_drew ?_))); (case side4 => exact (Kd.S_reads' HO304.out).2.1); rintro e w' ⟨rfl, ⟨nd, rfl⟩⟩))
     go_ret
     exact ⟨by first | rfl | (simp [errW_none, errW_some] <;> rfl) | (simp [*, errW_none, errW_some] <;> rfl), by repeat (first | (with_reducible first | exact HB.out | apply below_alloc | apply pw_below_drewN | apply below_drew1) | exact HB.out)⟩
    ·replace c13 := Bool.eq_false_iff.mpr c13
     subst c13
     have H1 : (some false) = some r := by rw [if_neg (show ¬ (false = true) by decide)] at H; exact H
     clear H
     have H := H1
     clear H1
     obtain rfl := Option.some.inj H
     go_enter Try.func4, Try.ntmps4
     go_wp2_with (first | ((with_reducible refine gate_callee (f := 14) rfl ?_); refine goesL_ (some 6) rfl rfl Try.func14 (by kernel_rfl) rfl #[.slice A0 l0.length c0] rfl (by (try simp only [List.map_toArray, List.map_cons, List.map_nil]); first | done | rfl | (simp only [List.length_drop, List.length_take]; rfl)) ?_; (with_reducible refine (proteanlaw12_small.calls k _ _ l0 true _ ?side1 ?side2 A3.out).mono ?_); (case side1 => repeat (first | exact HR0.out | (with_reducible refine Kd.C_alloc ?_ _) | (with_reducible refine Kd.C_drewN ?_ _) | (with_reducible refine Kd.C_drew ?_))); (case side2 => exact HC0.out); rintro e w' ⟨rfl, ⟨nd, rfl⟩⟩; refine ⟨_, rfl, ?_⟩) | ((with_reducible refine gate_callee (f := 9) rfl ?_); refine goesL_ (some 9) rfl rfl Try.func9 (by kernel_rfl) rfl #[] rfl (by (try simp only [List.map_toArray, List.map_cons, List.map_nil]); first | done | rfl | (simp only [List.length_drop, List.length_take]; rfl)) ?_; (with_reducible refine (proteanlaw12_fixed.calls  true _ A5.out).mono ?_); rintro e w26 ⟨rfl, hb⟩; refine ⟨_, rfl, ?_⟩; have n0_ := Aside0.mk (below_step (by repeat (first | (with_reducible first | exact HB.out | apply below_alloc | apply pw_below_drewN | apply below_drew1) | exact HB.out)) hb); clear HB; have HB := n0_; clear n0_; (try clear hb); (try clear hb2); (try clear hk); (try clear hi)) | (go_at_call 13; (with_reducible refine (graph_May.calls k _ _ l0 t290 _ ?side1 ?side2 A7.out).mono ?_); (case side1 => repeat (first | exact (Kd.C_below HR0.out HB.out) | (with_reducible refine Kd.C_alloc ?_ _) | (with_reducible refine Kd.C_drewN ?_ _) | (with_reducible refine Kd.C_drew ?_))); (case side2 => exact HC0.out); rintro e w' ⟨rfl, ⟨nd, rfl⟩⟩) | (go_at_call 15; (with_reducible refine (proteanref12_May.calls k _ _ l0 t291 _ ?side1 ?side2 A8.out).mono ?_); (case side1 => repeat (first | exact (Kd.C_below HR0.out (by repeat (first | (with_reducible first | exact HB.out | apply below_alloc | apply pw_below_drewN | apply below_drew1) | exact HB.out))) | (with_reducible refine Kd.C_alloc ?_ _) | (with_reducible refine Kd.C_drewN ?_ _) | (with_reducible refine Kd.C_drew ?_))); (case side2 => exact HC0.out); rintro e w' ⟨rfl, ⟨nd, rfl⟩⟩) | (go_at_call 17; (with_reducible refine (graph_Reach.calls k _ _ l0 a1 t292 _ ?side1 ?side2 A10.out).mono ?_); (case side1 => repeat (first | exact (Kd.C_below HR0.out (by repeat (first | (with_reducible first | exact HB.out | apply below_alloc | apply pw_below_drewN | apply below_drew1) | exact HB.out))) | (with_reducible refine Kd.C_alloc ?_ _) | (with_reducible refine Kd.C_drewN ?_ _) | (with_reducible refine Kd.C_drew ?_))); (case side2 => exact HC0.out); rintro e w27 ⟨v293, rfl, ho0, hb⟩; have n0_ := Aside0.mk (Kd.R_lower ho0 (below_size (by repeat (first | (with_reducible first | exact HB.out | apply below_alloc | apply pw_below_drewN | apply below_drew1) | exact HB.out)))); have n1_ := Aside0.mk (below_step (by repeat (first | (with_reducible first | exact HB.out | apply below_alloc | apply pw_below_drewN | apply below_drew1) | exact HB.out)) hb); clear HB; have HO294 := n0_; have HB := n1_; clear n0_ n1_; (try clear hb); (try clear hb2); (try clear hk); (try clear hi); (try clear ho0)) | (go_at_call 18; (with_reducible refine (proteanref12_Reach.calls k _ _ l0 a1 t295 _ ?side1 ?side2 A11.out).mono ?_); (case side1 => repeat (first | exact (Kd.C_below HR0.out HB.out) | (with_reducible refine Kd.C_alloc ?_ _) | (with_reducible refine Kd.C_drewN ?_ _) | (with_reducible refine Kd.C_drew ?_))); (case side2 => exact HC0.out); rintro e w28 ⟨v296, rfl, ho0, hb⟩; have n0_ := Aside0.mk (Kd.R_elder' (by (with_reducible repeat (first | apply Kd.R_alloc | apply Kd.R_drewN | apply Kd.R_drew)); exact HO294.out) (Kd.R_base ho0) hb); have n1_ := Aside0.mk (Kd.R_lower (Kd.R_new' ho0 (Kd.R_lt (by (with_reducible repeat (first | apply Kd.R_alloc | apply Kd.R_drewN | apply Kd.R_drew)); exact HO294.out))) (below_size (by repeat (first | (with_reducible first | exact HB.out | apply below_alloc | apply pw_below_drewN | apply below_drew1) | exact HB.out)))); have n2_ := Aside0.mk (below_step (by repeat (first | (with_reducible first | exact HB.out | apply below_alloc | apply pw_below_drewN | apply below_drew1) | exact HB.out)) hb); clear HO294; clear HB; have HO294 := n0_; have HO297 := n1_; have HB := n2_; clear n0_ n1_ n2_; (try clear hb); (try clear hb2); (try clear hk); (try clear hi); (try clear ho0); obtain ⟨Ao29, co29, eo29⟩ := Kd.R_slice HO294.out; subst eo29; obtain ⟨Ao30, co30, eo30⟩ := Kd.R_slice HO297.out; subst eo30) | (go_at_call 16; (with_reducible refine (proteanref12_Ints.calls k _ _ t292 _ _ t295 false _ ?side1 ?side2 ?side3 ?side4 A12.out).mono ?_); (case side1 => repeat (first | exact (Kd.R_reads' HO294.out).2.2 | (with_reducible refine Kd.C_alloc ?_ _) | (with_reducible refine Kd.C_drewN ?_ _) | (with_reducible refine Kd.C_drew ?_))); (case side2 => exact (Kd.R_reads' HO294.out).2.1); (case side3 => repeat (first | exact (Kd.R_reads' HO297.out).2.2 | (with_reducible refine Kd.C_alloc ?_ _) | (with_reducible refine Kd.C_drewN ?_ _) | (with_reducible refine Kd.C_drew ?_))); (case side4 => exact (Kd.R_reads' HO297.out).2.1); rintro e w' ⟨rfl, ⟨nd, rfl⟩⟩))
     go_ret
     exact ⟨by first | rfl | (simp [errW_none, errW_some] <;> rfl) | (simp [*, errW_none, errW_some] <;> rfl), by repeat (first | (with_reducible first | exact HB.out | apply below_alloc | apply pw_below_drewN | apply below_drew1) | exact HB.out)⟩
   ·rw [if_neg c9] at H
    have c9b0 : (t290 == t291) = false := by simpa using c9
    (try (have c9b1 : decide (t290 = t291) = false := by simpa using c9))
    (try (have c9b2 : (t290 == t291) = false := by simpa using c9))
    (try (have c9b3 : ¬ (t290 = t291) := by simpa using c9))
    clear c9
    obtain rfl := Option.some.inj H
    go_enter Try.func4, Try.ntmps4
    go_wp2_with (first | ((with_reducible refine gate_callee (f := 14) rfl ?_); refine goesL_ (some 6) rfl rfl Try.func14 (by kernel_rfl) rfl #[.slice A0 l0.length c0] rfl (by (try simp only [List.map_toArray, List.map_cons, List.map_nil]); first | done | rfl | (simp only [List.length_drop, List.length_take]; rfl)) ?_; (with_reducible refine (proteanlaw12_small.calls k _ _ l0 true _ ?side1 ?side2 A3.out).mono ?_); (case side1 => repeat (first | exact HR0.out | (with_reducible refine Kd.C_alloc ?_ _) | (with_reducible refine Kd.C_drewN ?_ _) | (with_reducible refine Kd.C_drew ?_))); (case side2 => exact HC0.out); rintro e w' ⟨rfl, ⟨nd, rfl⟩⟩; refine ⟨_, rfl, ?_⟩) | ((with_reducible refine gate_callee (f := 9) rfl ?_); refine goesL_ (some 9) rfl rfl Try.func9 (by kernel_rfl) rfl #[] rfl (by (try simp only [List.map_toArray, List.map_cons, List.map_nil]); first | done | rfl | (simp only [List.length_drop, List.length_take]; rfl)) ?_; (with_reducible refine (proteanlaw12_fixed.calls  true _ A5.out).mono ?_); rintro e w31 ⟨rfl, hb⟩; refine ⟨_, rfl, ?_⟩; have n0_ := Aside0.mk (below_step (by repeat (first | (with_reducible first | exact HB.out | apply below_alloc | apply pw_below_drewN | apply below_drew1) | exact HB.out)) hb); clear HB; have HB := n0_; clear n0_; (try clear hb); (try clear hb2); (try clear hk); (try clear hi)) | (go_at_call 13; (with_reducible refine (graph_May.calls k _ _ l0 t290 _ ?side1 ?side2 A7.out).mono ?_); (case side1 => repeat (first | exact (Kd.C_below HR0.out HB.out) | (with_reducible refine Kd.C_alloc ?_ _) | (with_reducible refine Kd.C_drewN ?_ _) | (with_reducible refine Kd.C_drew ?_))); (case side2 => exact HC0.out); rintro e w' ⟨rfl, ⟨nd, rfl⟩⟩) | (go_at_call 15; (with_reducible refine (proteanref12_May.calls k _ _ l0 t291 _ ?side1 ?side2 A8.out).mono ?_); (case side1 => repeat (first | exact (Kd.C_below HR0.out (by repeat (first | (with_reducible first | exact HB.out | apply below_alloc | apply pw_below_drewN | apply below_drew1) | exact HB.out))) | (with_reducible refine Kd.C_alloc ?_ _) | (with_reducible refine Kd.C_drewN ?_ _) | (with_reducible refine Kd.C_drew ?_))); (case side2 => exact HC0.out); rintro e w' ⟨rfl, ⟨nd, rfl⟩⟩))
    go_ret
    exact ⟨by first | rfl | (simp [errW_none, errW_some] <;> rfl) | (simp [*, errW_none, errW_some] <;> rfl), by repeat (first | (with_reducible first | exact HB.out | apply below_alloc | apply pw_below_drewN | apply below_drew1) | exact HB.out)⟩
  ·replace c6 := Bool.eq_false_iff.mpr c6
   subst c6
   have H1 : (some false) = some r := by rw [if_neg (show ¬ (false = true) by decide)] at H; exact H
   clear H
   have H := H1
   clear H1
   obtain rfl := Option.some.inj H
   go_enter Try.func4, Try.ntmps4
   go_wp2_with (first | ((with_reducible refine gate_callee (f := 14) rfl ?_); refine goesL_ (some 6) rfl rfl Try.func14 (by kernel_rfl) rfl #[.slice A0 l0.length c0] rfl (by (try simp only [List.map_toArray, List.map_cons, List.map_nil]); first | done | rfl | (simp only [List.length_drop, List.length_take]; rfl)) ?_; (with_reducible refine (proteanlaw12_small.calls k _ _ l0 true _ ?side1 ?side2 A3.out).mono ?_); (case side1 => repeat (first | exact HR0.out | (with_reducible refine Kd.C_alloc ?_ _) | (with_reducible refine Kd.C_drewN ?_ _) | (with_reducible refine Kd.C_drew ?_))); (case side2 => exact HC0.out); rintro e w' ⟨rfl, ⟨nd, rfl⟩⟩; refine ⟨_, rfl, ?_⟩) | ((with_reducible refine gate_callee (f := 9) rfl ?_); refine goesL_ (some 9) rfl rfl Try.func9 (by kernel_rfl) rfl #[] rfl (by (try simp only [List.map_toArray, List.map_cons, List.map_nil]); first | done | rfl | (simp only [List.length_drop, List.length_take]; rfl)) ?_; (with_reducible refine (proteanlaw12_fixed.calls  false _ A5.out).mono ?_); rintro e w32 ⟨rfl, hb⟩; refine ⟨_, rfl, ?_⟩; have n0_ := Aside0.mk (below_step (by repeat (first | (with_reducible first | exact HB.out | apply below_alloc | apply pw_below_drewN | apply below_drew1) | exact HB.out)) hb); clear HB; have HB := n0_; clear n0_; (try clear hb); (try clear hb2); (try clear hk); (try clear hi)))
   go_ret
   exact ⟨by first | rfl | (simp [errW_none, errW_some] <;> rfl) | (simp [*, errW_none, errW_some] <;> rfl), by repeat (first | (with_reducible first | exact HB.out | apply below_alloc | apply pw_below_drewN | apply below_drew1) | exact HB.out)⟩
 ·replace c4 := Bool.eq_false_iff.mpr c4
  subst c4
  have H1 : ((proteanlaw12_fixed.f).bind fun t288 => (some t288)) = some r := by rw [if_neg (show ¬ (false = true) by decide)] at H; exact H
  clear H
  have H := H1
  clear H1
  replace H := Option.bind_eq_some_iff.mp H
  obtain ⟨t288, A330, H⟩ := H
  replace H : (some t288) = some r := H
  have A33 := Aside0.mk A330
  clear A330
  obtain rfl := Option.some.inj H
  go_enter Try.func4, Try.ntmps4
  go_wp2_with (first | ((with_reducible refine gate_callee (f := 14) rfl ?_); refine goesL_ (some 6) rfl rfl Try.func14 (by kernel_rfl) rfl #[.slice A0 l0.length c0] rfl (by (try simp only [List.map_toArray, List.map_cons, List.map_nil]); first | done | rfl | (simp only [List.length_drop, List.length_take]; rfl)) ?_; (with_reducible refine (proteanlaw12_small.calls k _ _ l0 false _ ?side1 ?side2 A3.out).mono ?_); (case side1 => repeat (first | exact HR0.out | (with_reducible refine Kd.C_alloc ?_ _) | (with_reducible refine Kd.C_drewN ?_ _) | (with_reducible refine Kd.C_drew ?_))); (case side2 => exact HC0.out); rintro e w' ⟨rfl, ⟨nd, rfl⟩⟩; refine ⟨_, rfl, ?_⟩) | ((with_reducible refine gate_callee (f := 9) rfl ?_); refine goesL_ (some 8) rfl rfl Try.func9 (by kernel_rfl) rfl #[] rfl (by (try simp only [List.map_toArray, List.map_cons, List.map_nil]); first | done | rfl | (simp only [List.length_drop, List.length_take]; rfl)) ?_; (with_reducible refine (proteanlaw12_fixed.calls  t288 _ A33.out).mono ?_); rintro e w34 ⟨rfl, hb⟩; refine ⟨_, rfl, ?_⟩; have n0_ := Aside0.mk (below_step (by repeat (first | (with_reducible first | exact HB.out | apply below_alloc | apply pw_below_drewN | apply below_drew1) | exact HB.out)) hb); clear HB; have HB := n0_; clear n0_; (try clear hb); (try clear hb2); (try clear hk); (try clear hi)))
  go_ret
  exact ⟨by first | rfl | (simp [errW_none, errW_some] <;> rfl) | (simp [*, errW_none, errW_some] <;> rfl), by repeat (first | (with_reducible first | exact HB.out | apply below_alloc | apply pw_below_drewN | apply below_drew1) | exact HB.out)⟩

/-! ### proteanlaw12_GraphTurned: function 5 -/
/-! ### proteanlaw12_GraphReached: function 6 -/
end Go.Proofs.Ytdbngbmokgeeiaa.Pr

namespace Go.Proofs.Ytdbngbmokgeeiaa.Man
open Go.RowKit Go.Proofs.Ytdbngbmokgeeiaa.Pr Go.Proofs.YtdbngbmokgeeiaaW.PrintWords
set_option linter.unusedVariables false
set_option linter.unusedSimpArgs false

theorem small_ev (g : List (List Int)) (hl : g.length ≤ 9223372036854775807) : ∃ b, Ev (fun k => proteanlaw12_small.f k g) b ∧ (b = true → g.length ≤ 60 ∧ ∀ i : Nat, (g.getD i []).length ≤ 60) := by
  have main : ∀ m i : Nat, i + m = g.length → ∃ b, Ev (fun k => proteanlaw12_small.l0 k g (i : Int)) b ∧ (b = true → g.length ≤ 60 ∧ ∀ v : Nat, i ≤ v → (g.getD v []).length ≤ 60) := by
    intro m
    induction m with
    | zero =>
      intro i hi
      refine ⟨decide ((g.length : Int) ≤ 60), Ev.step ?_, fun h => ⟨by have := of_decide_eq_true h; omega, fun v hv => ?_⟩⟩
      · have c : ¬ (i : Int) < (g.length : Int) := by omega
        simp only [proteanlaw12_small.l0, if_neg c]
        exact Ev.const _
      · rw [List.getD_eq_getElem?_getD, List.getElem?_eq_none (by omega)]; simp
    | succ m ih =>
      intro i hi
      obtain ⟨b, e, hb⟩ := ih (i + 1) (by omega)
      have c : (i : Int) < (g.length : Int) := by omega
      have c0 : 0 ≤ (i : Int) := Int.natCast_nonneg i
      by_cases hr : ((rd_L9 g (i : Int)).length : Int) > 60
      · refine ⟨false, Ev.step ?_, fun h => by cases h⟩
        simp only [proteanlaw12_small.l0, if_pos c, if_pos c0, if_pos hr]
        exact Ev.const _
      · refine ⟨b, Ev.step ?_, fun h => ⟨(hb h).1, fun v hv => ?_⟩⟩
        · simp only [proteanlaw12_small.l0, if_pos c, if_pos c0, if_neg hr, wz i (Nat.lt_of_lt_of_le (show i < g.length by omega) hl)]
          exact e
        · by_cases ev : v = i
          · subst ev; rw [rd9] at hr; omega
          · exact (hb h).2 v (by omega)
  obtain ⟨b, e, h⟩ := main g.length 0 (by omega)
  exact ⟨b, e, fun hb => ⟨(h hb).1, fun i => (h hb).2 i (Nat.zero_le _)⟩⟩
theorem ints_ev (l : List Int) (hl : l.length ≤ 1000000) : Ev (fun k => proteanref12_Ints.f k l l) true := by
  have main : ∀ m i : Nat, i + m = l.length → Ev (fun k => proteanref12_Ints.l0 k l l (i : Int)) true := by
    intro m
    induction m with
    | zero =>
      intro i hi
      refine Ev.step ?_
      have c : ¬ (i : Int) < (l.length : Int) := by omega
      simp only [proteanref12_Ints.l0, if_neg c]
      exact Ev.const _
    | succ m ih =>
      intro i hi
      have e := ih (i + 1) (by omega)
      refine Ev.step ?_
      have c : (i : Int) < (l.length : Int) := by omega
      have c0 : 0 ≤ (i : Int) := Int.natCast_nonneg i
      simp only [proteanref12_Ints.l0, if_pos c, if_pos c0, if_true, pz i (by omega)]
      exact e
  have := main l.length 0 (by omega)
  simp only [proteanref12_Ints.f, if_true]
  exact this
theorem same_ev (g : List (List Int)) (hs : Sm g) : Ev (fun k => proteanref12_Same.f k g g) true := by
  have hn := hs.1
  have main : ∀ m i : Nat, i + m = g.length → Ev (fun k => proteanref12_Same.l0 k g g (i : Int)) true := by
    intro m
    induction m with
    | zero =>
      intro i hi
      refine Ev.step ?_
      have c : ¬ (i : Int) < (g.length : Int) := by omega
      simp only [proteanref12_Same.l0, if_neg c]
      exact Ev.const _
    | succ m ih =>
      intro i hi
      have e := ih (i + 1) (by omega)
      refine Ev.step ?_
      have c : (i : Int) < (g.length : Int) := by omega
      have c0 : 0 ≤ (i : Int) := Int.natCast_nonneg i
      simp only [proteanref12_Same.l0, if_pos c, if_pos c0, rd9]
      refine Ev.bind (ints_ev _ (hs.2 i)) ?_
      simp only [if_true, pz i (by omega)]
      exact e
  have := main g.length 0 (by omega)
  simp only [proteanref12_Same.f, if_true]
  exact this
theorem turn_sm {g : List (List Int)} (hs : Sm g) : Sm (turnF g) := by
  have hn := hs.1
  unfold turnF
  split
  · refine ⟨by simp; omega, fun i => ?_⟩
    rw [List.getD_eq_getElem?_getD, List.getElem?_map]
    cases h : (List.range g.length)[i]? with
    | none => simp
    | some t => simp; have := col_len g t g.length; omega
  · exact ⟨by simp, fun i => by simp⟩
theorem reach_len {g : List (List Int)} (hs : Sm g) (n : Int) : (reachF g n).length ≤ 1000000 := by
  have hn := hs.1
  unfold reachF reachL
  split
  · rw [List.length_map]; exact Nat.le_trans (List.length_filter_le _ _) (by simp; omega)
  · simp
theorem tells12_ev (g : List (List Int)) (n : Int) (hl : g.length ≤ 9223372036854775807) : Ev (fun k => proteanlaw12_GraphTells.f k g n) true := by
  obtain ⟨b, e, hb⟩ := small_ev g hl
  refine Ev.bind e ?_
  cases b with
  | false =>
    simp only [Bool.false_eq_true, if_false, proteanlaw12_fixed.f, Option.bind_some]
    exact Ev.const _
  | true =>
    obtain ⟨h1, h2⟩ := hb rfl
    have hs : Sm g := ⟨by omega, fun i => by have := h2 i; omega⟩
    simp only [if_true, proteanlaw12_fixed.f, Option.bind_some]
    refine Ev.bind (gmay_ev g hs) ?_
    refine Ev.bind (rmay_ev g hs) ?_
    simp only [beq_self_eq_true, if_true, graph_Reach.f, if_pos hs, Option.bind_some]
    refine Ev.bind (rreach_ev g hs n) ?_
    refine Ev.bind (ints_ev _ (reach_len hs n)) ?_
    simp only [if_true]
    refine Ev.bind (gturn_ev g hs) ?_
    refine Ev.bind (rturn_ev g hs) ?_
    refine Ev.bind (same_ev _ (turn_sm hs)) ?_
    exact Ev.const _
end Go.Proofs.Ytdbngbmokgeeiaa.Man

namespace Go.Proofs.Ytdbngbmokgeeiaa.graphTells
open Go.ChangeShapes Go.WideShapes Go.ChangeAt Go.RowKit Go.Proofs.Ytdbngbmokgeeiaa.Pr Go.Proofs.YtdbngbmokgeeiaaW.PrintWords
open Go.ChangeMaps (open_string shut_string)
set_option linter.unusedVariables false
theorem own : ownKnob Try.prog.godebug = none := by kernel_rfl
theorem laidOut : laidOutB Try.prog = true := by kernel_rfl
/-- The walk, with the law's answer. -/
theorem walk (A0 : Option Addr) (c0 : Nat) (l0 : List (List Int)) (hc0 : l0.length ≤ c0) (a1 : Int) (w : World) (hC0 : Kd.C (Kd.slice 3 (Kd.int .i64)) w A0 l0.length l0) :
    Calls Try.prog 4 #[.slice A0 l0.length c0, .int .i64 a1] w fun e w' => e = .returned (.bool true) ∧ Below w.heap.size w w' := by
  obtain ⟨k, e⟩ := Man.tells12_ev l0 a1 (Kd.C_max hC0)
  exact proteanlaw12_GraphTells.calls k A0 c0 l0 a1 true w hC0 hc0 (e k (Nat.le_refl _))
set_option maxRecDepth 100000 in
set_option maxHeartbeats 4000000 in
theorem lifted (os : Os) (started : os.Started) (H : Type) (enc : TypeId × Value → H) :
    ReturnsInHanded {} Try.checked os 4 .any (Rows.graphTellsSpec.pre6 enc Try.prog Try.f4 Rows.graphTellsRow.domain false) (Rows.graphTellsSpec.post enc Try.prog Try.f4 false true false false) := by
  refine returnsInHanded_of_change_sized (C := Try.checked) own started (by kernel_rfl) Try.func4
    (ChangeSpec.witness6 (enc := enc) (C := Try.checked) false ⟨#[], #[.slice none 0 0, .int .i64 0], []⟩ 8 (by kernel_rfl) (by kernel_rfl) (by kernel_rfl) (by kernel_rfl)) ?_
  intro W base args ds gs before hval0 hW hcnd hsz0 _
  have hval : ∀ (j : Nat) t v, Try.f4.params[j]? = some t → args[j]? = some v → Value.okWide Try.prog W .any base t v := hval0
  have hW' := hW
  obtain ⟨p, q, hA0, hV, rfl, hfz, hnd⟩ := hW
  have hA : DataW.TrodAll enc Try.prog W 0 (fun _ => true) true Try.f4.params.toList args.toList ds p := hA0
  rw [Try.params4] at hA hval
  obtain ⟨v0, vs0, d0, ds0, p0, q0, hargs, rfl, rfl, h0, r0⟩ := trodAll_cons hA
  obtain ⟨v1, vs1, d1, ds1, p1, q1, rfl, rfl, rfl, h1, r1⟩ := trodAll_cons r0
  obtain ⟨rfl, rfl, rfl⟩ := trodAll_nil r1
  obtain rfl : args = #[v0, v1] := by cases args; simp_all
  obtain ⟨rfl, rfl⟩ := trodVars_none hV
  obtain ⟨b0, len0, cap0, rfl⟩ := okWide_slice Try.underlying27 (hval 0 27 v0 rfl rfl)
  have k0 := h0
  have lt0 : ∀ x ∈ p0, x.block < W.heap.size := by obtain ⟨m, hm⟩ := k0; exact DataW.trod_lt m _ _ _ hm
  obtain ⟨fuel0, hf0⟩ := h0
  obtain ⟨a1, rfl, rfl, rfl, w1⟩ := open_int Try.underlying3 (hval 1 3 v1 rfl rfl) h1
  obtain ⟨A0, c0, l0, hv0, hc0, hC0⟩ := Man.bridge_graph fuel0 _ _ _ hf0
  have e0 : Value.slice b0 len0 cap0 = Value.slice A0 l0.length c0 := by simpa [Value.cells] using hv0
  cases e0
  clear hA0 hval0 hsz0
  refine (walk _ _ l0 hc0 a1 W hC0).mono fun e W' ⟨he, bel⟩ => ?_
  subst he
  exact ⟨_, rfl, _, _, _, [], _, [], hW', trodAll_mk1 (shut_bool Try.underlying4 _), (trodAll_cons_mk (Below.trod laidOut (by kernel_rfl) (of_decide_eq_true (by kernel_rfl)) k0 bel lt0) (trodAll_cons_mk (shut_int Try.underlying3 w1) trodAll_mk0)), rfl, bel.frame _, fun h => by cases h⟩
theorem proved : Rows.GraphTellsSaid :=
  OpenClaim.holds_of_wide 4 Try.f4 rfl rfl rfl rfl rfl rfl rfl ⟨rfl, rfl, rfl, rfl, rfl⟩ rfl rfl rfl rfl rfl (by kernel_rfl) Try.func4 (by kernel_rfl)
    (of_decide_eq_true (by kernel_rfl)) (by unfold Func.isWrapper; first | (rw [if_pos (by decide +kernel)]; kernel_rfl) | (rw [if_neg (by decide +kernel)]; exact ⟨rfl, rfl⟩))
    (fun os started H enc _ => lifted os started H enc)
end Go.Proofs.Ytdbngbmokgeeiaa.graphTells
namespace Go.Proofs.Ytdbngbmokgeeiaa
/-- The row, under a short name, for the claim. -/
theorem graphTells_holds : Rows.GraphTellsSaid := graphTells.proved
end Go.Proofs.Ytdbngbmokgeeiaa
