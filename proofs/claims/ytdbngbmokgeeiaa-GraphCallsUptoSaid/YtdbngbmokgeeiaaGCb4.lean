/- A part of the proof that GraphCalls returns true for every argument. Parts: Pr2 GrC PuA GrD PuB FnA PuL RcA Pr3 Pr4 PuC GcA GcB. No conditions beyond the given statement's own. -/
import Derived.Test.YtdbngbmokgeeiaaGCb1
import Derived.Test.YtdbngbmokgeeiaaGCb2
import Derived.Test.YtdbngbmokgeeiaaGCb3
import Derived.RegionTactic
import Derived.ChangeAlike
import Derived.Deep.RegionHeld3
import Derived.WalkMore
import Derived.Says
import Derived.Maps.OwnIn
import Derived.Maps.AppendAt
import Derived.Sort.LoopGhostIn

-- Written by wip/xprint.py (the kit's print, run over this seat with some contracts of my own). Not trusted: Lean checks it.
namespace Go.Proofs.Ytdbngbmokgeeiaa.Pr
open Go.RowKit Go.Proofs.YtdbngbmokgeeiaaW.PrintWords Go.Proofs.YtdbngbmokgeeiaaW.PrintLast Go.Proofs.YtdbngbmokgeeiaaW.PrintMore
attribute [local go_sem] max2_int min2_int max_two min_two max_three min_three max_four min_four   -- for this text's walks alone
set_option linter.unusedVariables false
set_option linter.unusedSimpArgs false
def r12_Same.l0 : Nat → List (List Int) → List (List Int) → Int → Option (Bool)
  | 0, _, _, _ => none
  | k + 1, x0, x1, x5 => if x5 < (x0.length : Int) then (if 0 ≤ x5 then (if x5 < (x1.length : Int) then ((r12_Ints.f k (rd_L9 x0 x5) (rd_L9 x1 x5)).bind fun t166 => (if t166 = true then (r12_Same.l0 k x0 x1 (wrap64 (x5 + 1))) else (some false))) else (none)) else (none)) else (some true)
def r12_Same.f (k : Nat) (l0 : List (List Int)) (l1 : List (List Int)) : Option (Bool) := if (l0.length : Int) = (l1.length : Int) then (r12_Same.l0 k l0 l1 0) else (some false)
set_option maxHeartbeats 8000000 in
set_option maxRecDepth 100000 in
theorem r12_Same.calls (k : Nat) (A0 : Option Addr) (c0 : Nat) (l0 : List (List Int)) (A1 : Option Addr) (c1 : Nat) (l1 : List (List Int)) (r : Bool) (w : World) (hr0 : Kd.C (Kd.slice 3 (Kd.int .i64)) w A0 l0.length l0) (hc0 : l0.length ≤ c0) (hr1 : Kd.C (Kd.slice 3 (Kd.int .i64)) w A1 l1.length l1) (hc1 : l1.length ≤ c1) (h : r12_Same.f k l0 l1 = some r) :
    Calls Try.prog 11 #[.slice A0 l0.length c0, .slice A1 l1.length c1] w fun e w' => e = .returned (.bool r) ∧ Drawn0 w w' := by
 have HR0 := Aside0.mk hr0
 have HC0 := Aside0.mk hc0
 clear hr0 hc0
 have HR1 := Aside0.mk hr1
 have HC1 := Aside0.mk hc1
 clear hr1 hc1
 have H : (if (l0.length : Int) = (l1.length : Int) then (r12_Same.l0 k l0 l1 0) else (some false)) = some r := h
 clear h
 by_cases c3 : (l0.length : Int) = (l1.length : Int)
 ·rw [if_pos c3] at H
  have c3b0 : ((l0.length : Int) == (l1.length : Int)) = true := beq_iff_eq.mpr c3
  have c3b1 : ((l0.length : Int) != (l1.length : Int)) = false := bne_eq_false_iff_eq.mpr c3
  have c3b2 : (l0.length == l1.length) = true := by first | simpa using c3 | (simp at c3 ⊢; omega)
  clear c3
  have H' := Aside0.mk H
  clear H
  go_enter Try.func11, Try.ntmps11
  go_wp2
  repeat (go_quiet (fail); try go_wp2)
  go_loopg [5] k (fun kq v5 w' => ∃ (x5_1 : Int), v5 = .int .i64 x5_1 ∧ Aside0 (r12_Same.l0 kq l0 l1 x5_1 = some r) ∧ Aside0 (kq ≤ k) ∧ Drawn0 w w')
  case atStart => exact ⟨(0), (by first | rfl | (simp; done) | (simp [*]; done)), H', ⟨Nat.le_refl _⟩, by repeat (first | exact Drawn0.refl _ | apply Drawn0.step)⟩
  case round =>
   clear H'
   try clear c1
   try clear p2
   try clear c3
   try clear c3b0
   try clear c3b1
   try clear c3b2
   obtain ⟨x5_1, rfl, HA, HK1, ⟨m1, rfl⟩⟩ := hrel
   cases gk with
   | zero => exact absurd HA.out (by simp [r12_Same.l0])
   | succ k1 =>
    have H := HA.out
    clear HA
    simp only [r12_Same.l0] at H
    by_cases c4 : x5_1 < (l0.length : Int)
    ·rw [if_pos c4] at H
     have c4b0 : decide (x5_1 < (l0.length : Int)) = true := decide_eq_true c4
     clear c4
     by_cases c5 : 0 ≤ x5_1
     ·rw [if_pos c5] at H
      have c5b0 : decide (0 ≤ x5_1) = true := decide_eq_true c5
      clear c5
      by_cases c6 : x5_1 < (l1.length : Int)
      ·rw [if_pos c6] at H
       have c6b0 : decide (x5_1 < (l1.length : Int)) = true := decide_eq_true c6
       clear c6
       replace H := Option.bind_eq_some_iff.mp H
       obtain ⟨t166, A70, H⟩ := H
       replace H : (if t166 = true then (r12_Same.l0 k1 l0 l1 (wrap64 (x5_1 + 1))) else (some false)) = some r := H
       have A7 := Aside0.mk A70
       clear A70
       by_cases c8 : t166 = true
       ·subst c8
        have H1 : (r12_Same.l0 k1 l0 l1 (wrap64 (x5_1 + 1))) = some r := by rw [if_pos rfl] at H; exact H
        clear H
        have H := H1
        clear H1
        have H' := Aside0.mk H
        clear H
        have p164 : 0 ≤ (x5_1 : Int) := of_decide_eq_true (by first | (with_reducible assumption) | assumption)
        have q164 : x5_1 < (l0.length : Int) := of_decide_eq_true (by first | (with_reducible assumption) | assumption)
        obtain ⟨ad164, A164_0, c164_0, e164, hx164_0, hl164_0, hi164_0⟩ := at_L9 HR0.out x5_1 p164 q164
        cases e164
        have HR164_0 := Aside0.mk hi164_0
        have HC164_0 := Aside0.mk hl164_0
        clear hi164_0 hl164_0
        replace p164 := eq_true p164
        replace q164 := eq_true q164
        have p165 : 0 ≤ (x5_1 : Int) := of_decide_eq_true (by first | (with_reducible assumption) | assumption)
        have q165 : x5_1 < (l1.length : Int) := of_decide_eq_true (by first | (with_reducible assumption) | assumption)
        obtain ⟨ad165, A165_0, c165_0, e165, hx165_0, hl165_0, hi165_0⟩ := at_L9 HR1.out x5_1 p165 q165
        cases e165
        have HR165_0 := Aside0.mk hi165_0
        have HC165_0 := Aside0.mk hl165_0
        clear hi165_0 hl165_0
        replace p165 := eq_true p165
        replace q165 := eq_true q165
        go_wp2_with (first | (go_at_call 16; (with_reducible refine (r12_Ints.calls k1 _ _ (rd_L9 l0 x5_1) _ _ (rd_L9 l1 x5_1) true _ ?side1 ?side2 ?side3 ?side4 A7.out).mono ?_); (case side1 => repeat (first | exact HR164_0.out | (with_reducible refine Kd.C_alloc ?_ _) | (with_reducible refine Kd.C_drewN ?_ _) | (with_reducible refine Kd.C_drew ?_))); (case side2 => exact HC164_0.out); (case side3 => repeat (first | exact HR165_0.out | (with_reducible refine Kd.C_alloc ?_ _) | (with_reducible refine Kd.C_drewN ?_ _) | (with_reducible refine Kd.C_drew ?_))); (case side4 => exact HC165_0.out); rintro e w' ⟨rfl, ⟨nd, rfl⟩⟩; (try first | exact ⟨rfl, _, World.drewN_drewN _ _ _⟩ | exact ⟨rfl, _, Eq.trans (World.drewN_drewN _ _ _) (congrArg (World.drewN _) (Nat.add_assoc _ _ _))⟩)))
        repeat (go_quiet (first | (go_at_call 16; (with_reducible refine (r12_Ints.calls k1 _ _ (rd_L9 l0 x5_1) _ _ (rd_L9 l1 x5_1) true _ ?side1 ?side2 ?side3 ?side4 A7.out).mono ?_); (case side1 => repeat (first | exact HR164_0.out | (with_reducible refine Kd.C_alloc ?_ _) | (with_reducible refine Kd.C_drewN ?_ _) | (with_reducible refine Kd.C_drew ?_))); (case side2 => exact HC164_0.out); (case side3 => repeat (first | exact HR165_0.out | (with_reducible refine Kd.C_alloc ?_ _) | (with_reducible refine Kd.C_drewN ?_ _) | (with_reducible refine Kd.C_drew ?_))); (case side4 => exact HC165_0.out); rintro e w' ⟨rfl, ⟨nd, rfl⟩⟩; (try first | exact ⟨rfl, _, World.drewN_drewN _ _ _⟩ | exact ⟨rfl, _, Eq.trans (World.drewN_drewN _ _ _) (congrArg (World.drewN _) (Nat.add_assoc _ _ _))⟩))); try go_wp2_with (first | (go_at_call 16; (with_reducible refine (r12_Ints.calls k1 _ _ (rd_L9 l0 x5_1) _ _ (rd_L9 l1 x5_1) true _ ?side1 ?side2 ?side3 ?side4 A7.out).mono ?_); (case side1 => repeat (first | exact HR164_0.out | (with_reducible refine Kd.C_alloc ?_ _) | (with_reducible refine Kd.C_drewN ?_ _) | (with_reducible refine Kd.C_drew ?_))); (case side2 => exact HC164_0.out); (case side3 => repeat (first | exact HR165_0.out | (with_reducible refine Kd.C_alloc ?_ _) | (with_reducible refine Kd.C_drewN ?_ _) | (with_reducible refine Kd.C_drew ?_))); (case side4 => exact HC165_0.out); rintro e w' ⟨rfl, ⟨nd, rfl⟩⟩; (try first | exact ⟨rfl, _, World.drewN_drewN _ _ _⟩ | exact ⟨rfl, _, Eq.trans (World.drewN_drewN _ _ _) (congrArg (World.drewN _) (Nat.add_assoc _ _ _))⟩))))
        go_roundg k1
        case measure => have := HK1.out; omega
        case rel => exact ⟨(wrap64 (x5_1 + 1)), (by first | rfl | (simp; done) | (simp [*]; done)), H', ⟨by have := HK1.out; omega⟩, by repeat (first | exact Drawn0.refl _ | apply Drawn0.step)⟩
       ·replace c8 := Bool.eq_false_iff.mpr c8
        subst c8
        have H1 : (some false) = some r := by rw [if_neg (show ¬ (false = true) by decide)] at H; exact H
        clear H
        have H := H1
        clear H1
        obtain rfl := Option.some.inj H
        have p164 : 0 ≤ (x5_1 : Int) := of_decide_eq_true (by first | (with_reducible assumption) | assumption)
        have q164 : x5_1 < (l0.length : Int) := of_decide_eq_true (by first | (with_reducible assumption) | assumption)
        obtain ⟨ad164, A164_0, c164_0, e164, hx164_0, hl164_0, hi164_0⟩ := at_L9 HR0.out x5_1 p164 q164
        cases e164
        have HR164_0 := Aside0.mk hi164_0
        have HC164_0 := Aside0.mk hl164_0
        clear hi164_0 hl164_0
        replace p164 := eq_true p164
        replace q164 := eq_true q164
        have p165 : 0 ≤ (x5_1 : Int) := of_decide_eq_true (by first | (with_reducible assumption) | assumption)
        have q165 : x5_1 < (l1.length : Int) := of_decide_eq_true (by first | (with_reducible assumption) | assumption)
        obtain ⟨ad165, A165_0, c165_0, e165, hx165_0, hl165_0, hi165_0⟩ := at_L9 HR1.out x5_1 p165 q165
        cases e165
        have HR165_0 := Aside0.mk hi165_0
        have HC165_0 := Aside0.mk hl165_0
        clear hi165_0 hl165_0
        replace p165 := eq_true p165
        replace q165 := eq_true q165
        go_wp2_with (first | (go_at_call 16; (with_reducible refine (r12_Ints.calls k1 _ _ (rd_L9 l0 x5_1) _ _ (rd_L9 l1 x5_1) false _ ?side1 ?side2 ?side3 ?side4 A7.out).mono ?_); (case side1 => repeat (first | exact HR164_0.out | (with_reducible refine Kd.C_alloc ?_ _) | (with_reducible refine Kd.C_drewN ?_ _) | (with_reducible refine Kd.C_drew ?_))); (case side2 => exact HC164_0.out); (case side3 => repeat (first | exact HR165_0.out | (with_reducible refine Kd.C_alloc ?_ _) | (with_reducible refine Kd.C_drewN ?_ _) | (with_reducible refine Kd.C_drew ?_))); (case side4 => exact HC165_0.out); rintro e w' ⟨rfl, ⟨nd, rfl⟩⟩; (try first | exact ⟨rfl, _, World.drewN_drewN _ _ _⟩ | exact ⟨rfl, _, Eq.trans (World.drewN_drewN _ _ _) (congrArg (World.drewN _) (Nat.add_assoc _ _ _))⟩)))
        repeat (go_quiet (first | (go_at_call 16; (with_reducible refine (r12_Ints.calls k1 _ _ (rd_L9 l0 x5_1) _ _ (rd_L9 l1 x5_1) false _ ?side1 ?side2 ?side3 ?side4 A7.out).mono ?_); (case side1 => repeat (first | exact HR164_0.out | (with_reducible refine Kd.C_alloc ?_ _) | (with_reducible refine Kd.C_drewN ?_ _) | (with_reducible refine Kd.C_drew ?_))); (case side2 => exact HC164_0.out); (case side3 => repeat (first | exact HR165_0.out | (with_reducible refine Kd.C_alloc ?_ _) | (with_reducible refine Kd.C_drewN ?_ _) | (with_reducible refine Kd.C_drew ?_))); (case side4 => exact HC165_0.out); rintro e w' ⟨rfl, ⟨nd, rfl⟩⟩; (try first | exact ⟨rfl, _, World.drewN_drewN _ _ _⟩ | exact ⟨rfl, _, Eq.trans (World.drewN_drewN _ _ _) (congrArg (World.drewN _) (Nat.add_assoc _ _ _))⟩))); try go_wp2_with (first | (go_at_call 16; (with_reducible refine (r12_Ints.calls k1 _ _ (rd_L9 l0 x5_1) _ _ (rd_L9 l1 x5_1) false _ ?side1 ?side2 ?side3 ?side4 A7.out).mono ?_); (case side1 => repeat (first | exact HR164_0.out | (with_reducible refine Kd.C_alloc ?_ _) | (with_reducible refine Kd.C_drewN ?_ _) | (with_reducible refine Kd.C_drew ?_))); (case side2 => exact HC164_0.out); (case side3 => repeat (first | exact HR165_0.out | (with_reducible refine Kd.C_alloc ?_ _) | (with_reducible refine Kd.C_drewN ?_ _) | (with_reducible refine Kd.C_drew ?_))); (case side4 => exact HC165_0.out); rintro e w' ⟨rfl, ⟨nd, rfl⟩⟩; (try first | exact ⟨rfl, _, World.drewN_drewN _ _ _⟩ | exact ⟨rfl, _, Eq.trans (World.drewN_drewN _ _ _) (congrArg (World.drewN _) (Nat.add_assoc _ _ _))⟩))))
        go_ret
        exact ⟨by first | rfl | (simp; done) | (simp [*]; done), by repeat (first | exact Drawn0.refl _ | apply Drawn0.step)⟩
      ·rw [if_neg c6] at H
       exact absurd H (by simp)
     ·rw [if_neg c5] at H
      exact absurd H (by simp)
    ·rw [if_neg c4] at H
     have c4b0 : decide (x5_1 < (l0.length : Int)) = false := decide_eq_false c4
     clear c4
     obtain rfl := Option.some.inj H
     go_wp2
     repeat (go_quiet (fail); try go_wp2)
     go_ret
     exact ⟨by first | rfl | (simp; done) | (simp [*]; done), by repeat (first | exact Drawn0.refl _ | apply Drawn0.step)⟩
 ·rw [if_neg c3] at H
  have c3b0 : ((l0.length : Int) == (l1.length : Int)) = false := beq_eq_false_iff_ne.mpr c3
  have c3b1 : ((l0.length : Int) != (l1.length : Int)) = true := bne_iff_ne.mpr c3
  have c3b2 : (l0.length == l1.length) = false := by first | simpa using c3 | (simp at c3 ⊢; omega)
  obtain rfl := Option.some.inj H
  go_enter Try.func11, Try.ntmps11
  go_wp2
  repeat (go_quiet (fail); try go_wp2)
  go_ret
  exact ⟨by first | rfl | (simp; done) | (simp [*]; done), by repeat (first | exact Drawn0.refl _ | apply Drawn0.step)⟩
mutual
def r12_May.l0 : Nat → List (List Int) → Int → Option (Bool)
  | 0, _, _ => none
  | k + 1, x0, x3 => if x3 < (x0.length : Int) then (r12_May.l1 k x0 x3 0) else (some (decide ((x0.length : Int) ≤ 1000)))
def r12_May.l1 : Nat → List (List Int) → Int → Int → Option (Bool)
  | 0, _, _, _ => none
  | k + 1, x0, x3, x4 => if 0 ≤ x3 then (if x3 < (x0.length : Int) then (if x4 < ((rd_L9 x0 x3).length : Int) then (if 0 ≤ x4 then (if (rd (rd_L9 x0 x3) x4) < 0 then (some false) else (if (rd (rd_L9 x0 x3) x4) ≥ (x0.length : Int) then (some false) else (if x4 > 0 then (if 0 ≤ (wrap64 (x4 - 1)) then (if (wrap64 (x4 - 1)) < ((rd_L9 x0 x3).length : Int) then (if (rd (rd_L9 x0 x3) (wrap64 (x4 - 1))) ≥ (rd (rd_L9 x0 x3) x4) then (some false) else (r12_May.l1 k x0 x3 (wrap64 (x4 + 1)))) else (none)) else (none)) else (r12_May.l1 k x0 x3 (wrap64 (x4 + 1)))))) else (none)) else (r12_May.l0 k x0 (wrap64 (x3 + 1)))) else (none)) else (none)
end
def r12_May.f (k : Nat) (l0 : List (List Int)) : Option (Bool) := r12_May.l0 k l0 0
theorem r12_May.mono_l : ∀ k, (∀ y0 y1, LeO (r12_May.l0 k y0 y1) (r12_May.l0 (k + 1) y0 y1)) ∧ (∀ y0 y1 y2, LeO (r12_May.l1 k y0 y1 y2) (r12_May.l1 (k + 1) y0 y1 y2))
  | 0 => ⟨fun _ _ r h => by simp [r12_May.l0] at h, fun _ _ _ r h => by simp [r12_May.l1] at h⟩
  | k + 1 => by
    obtain ⟨ih0, ih1⟩ := r12_May.mono_l k
    refine ⟨?_, ?_⟩
    · intro y0 y1
      unfold r12_May.l0
      repeat' first
      | (with_reducible exact ih0 _ _)
      | (with_reducible exact ih1 _ _ _)
      | (with_reducible exact LeO.refl _)
      | (with_reducible exact LeO.none _)
      | (with_reducible refine LeO.ite ?_ ?_)
      | (with_reducible refine LeO.bind ?_ (fun _ => ?_))
      | exact ih0 _ _
      | exact ih1 _ _ _
      | exact LeO.none _
      | refine LeO.ite ?_ ?_
      | refine LeO.bind ?_ (fun _ => ?_)
    · intro y0 y1 y2
      unfold r12_May.l1
      repeat' first
      | (with_reducible exact ih0 _ _)
      | (with_reducible exact ih1 _ _ _)
      | (with_reducible exact LeO.refl _)
      | (with_reducible exact LeO.none _)
      | (with_reducible refine LeO.ite ?_ ?_)
      | (with_reducible refine LeO.bind ?_ (fun _ => ?_))
      | exact ih0 _ _
      | exact ih1 _ _ _
      | exact LeO.none _
      | refine LeO.ite ?_ ?_
      | refine LeO.bind ?_ (fun _ => ?_)
theorem r12_May.mono : ∀ a0 k, LeO (r12_May.f k a0) (r12_May.f (k + 1) a0) := by
 intro a0 k
 obtain ⟨ih0, ih1⟩ := r12_May.mono_l k
 unfold r12_May.f
 repeat' first
   | (with_reducible exact ih0 _ _)
   | (with_reducible exact ih1 _ _ _)
   | (with_reducible exact LeO.refl _)
   | (with_reducible exact LeO.none _)
   | (with_reducible refine LeO.ite ?_ ?_)
   | (with_reducible refine LeO.bind ?_ (fun _ => ?_))
   | exact ih0 _ _
   | exact ih1 _ _ _
   | exact LeO.none _
   | refine LeO.ite ?_ ?_
   | refine LeO.bind ?_ (fun _ => ?_)
mutual
def r12_Reach.j0 : Nat → List (List Int) → Int → Bool → Option (List Int)
  | 0, _, _, _ => none
  | k + 1, x0, x1, x25 => if x25 = true then (some ([] : List Int)) else (r12_Reach.l0 k x0 x1 (([] : List Bool)) 0)
def r12_Reach.l0 : Nat → List (List Int) → Int → List Bool → Int → Option (List Int)
  | 0, _, _, _, _ => none
  | k + 1, x0, x1, x5, x6 => if x6 < (x0.length : Int) then (if x5.length < 140737488355328 then (r12_Reach.l0 k x0 x1 (x5 ++ [(x6 == x1)]) (wrap64 (x6 + 1))) else (none)) else (r12_Reach.l1 k x0 x5 0)
def r12_Reach.j5 : Nat → List (List Int) → List Bool → Option (List Int)
  | 0, _, _ => none
  | k + 1, x0, x5 => r12_Reach.l4 k x0 x5 (([] : List Int)) 0
def r12_Reach.l4 : Nat → List (List Int) → List Bool → List Int → Int → Option (List Int)
  | 0, _, _, _, _ => none
  | k + 1, x0, x5, x11, x12 => if x12 < (x0.length : Int) then (if 0 ≤ x12 then (if x12 < (x5.length : Int) then (if rdOf false x5 x12 = true then (if x11.length < 17592186044416 then (r12_Reach.l4 k x0 x5 (x11 ++ [x12]) (wrap64 (x12 + 1))) else (none)) else (r12_Reach.l4 k x0 x5 x11 (wrap64 (x12 + 1)))) else (none)) else (none)) else (some x11)
def r12_Reach.l1 : Nat → List (List Int) → List Bool → Int → Option (List Int)
  | 0, _, _, _ => none
  | k + 1, x0, x5, x7 => if x7 < (x0.length : Int) then (r12_Reach.l2 k x0 x5 x7 false 0) else (r12_Reach.j5 k x0 x5)
def r12_Reach.l2 : Nat → List (List Int) → List Bool → Int → Bool → Int → Option (List Int)
  | 0, _, _, _, _, _ => none
  | k + 1, x0, x5, x7, x8, x9 => if x9 < (x0.length : Int) then (r12_Reach.l3 k x0 x5 x7 x8 x9 0) else (if x8 = true then (r12_Reach.l1 k x0 x5 (wrap64 (x7 + 1))) else (r12_Reach.j5 k x0 x5))
def r12_Reach.l3 : Nat → List (List Int) → List Bool → Int → Bool → Int → Int → Option (List Int)
  | 0, _, _, _, _, _, _ => none
  | k + 1, x0, x5, x7, x8, x9, x10 => if 0 ≤ x9 then (if x9 < (x0.length : Int) then (if x10 < ((rd_L9 x0 x9).length : Int) then (if x9 < (x5.length : Int) then (if rdOf false x5 x9 = true then (if x8 = true then (if 0 ≤ x10 then (if 0 ≤ (rd (rd_L9 x0 x9) x10) then (if (rd (rd_L9 x0 x9) x10) < (x5.length : Int) then (r12_Reach.l3 k x0 (x5.set ((rd (rd_L9 x0 x9) x10) : Int).toNat true) x7 true x9 (wrap64 (x10 + 1))) else (none)) else (none)) else (none)) else (if 0 ≤ x10 then (if 0 ≤ (rd (rd_L9 x0 x9) x10) then (if (rd (rd_L9 x0 x9) x10) < (x5.length : Int) then (r12_Reach.l3 k x0 (x5.set ((rd (rd_L9 x0 x9) x10) : Int).toNat true) x7 (!(rdOf false x5 (rd (rd_L9 x0 x9) x10))) x9 (wrap64 (x10 + 1))) else (none)) else (none)) else (none))) else (r12_Reach.l2 k x0 x5 x7 x8 (wrap64 (x9 + 1)))) else (none)) else (r12_Reach.l2 k x0 x5 x7 x8 (wrap64 (x9 + 1)))) else (none)) else (none)
end
def r12_Reach.f (k : Nat) (l0 : List (List Int)) (a1 : Int) : Option (List Int) := (r12_May.f k l0).bind fun t192 => (if t192 = true then (if a1 < 0 then (r12_Reach.j0 k l0 a1 true) else (r12_Reach.j0 k l0 a1 (decide (a1 ≥ (l0.length : Int))))) else (r12_Reach.j0 k l0 a1 true))
theorem r12_Reach.mono_l : ∀ k, (∀ y0 y1 y2, LeO (r12_Reach.j0 k y0 y1 y2) (r12_Reach.j0 (k + 1) y0 y1 y2)) ∧ (∀ y0 y1 y2 y3, LeO (r12_Reach.l0 k y0 y1 y2 y3) (r12_Reach.l0 (k + 1) y0 y1 y2 y3)) ∧ (∀ y0 y1, LeO (r12_Reach.j5 k y0 y1) (r12_Reach.j5 (k + 1) y0 y1)) ∧ (∀ y0 y1 y2 y3, LeO (r12_Reach.l4 k y0 y1 y2 y3) (r12_Reach.l4 (k + 1) y0 y1 y2 y3)) ∧ (∀ y0 y1 y2, LeO (r12_Reach.l1 k y0 y1 y2) (r12_Reach.l1 (k + 1) y0 y1 y2)) ∧ (∀ y0 y1 y2 y3 y4, LeO (r12_Reach.l2 k y0 y1 y2 y3 y4) (r12_Reach.l2 (k + 1) y0 y1 y2 y3 y4)) ∧ (∀ y0 y1 y2 y3 y4 y5, LeO (r12_Reach.l3 k y0 y1 y2 y3 y4 y5) (r12_Reach.l3 (k + 1) y0 y1 y2 y3 y4 y5))
  | 0 => ⟨fun _ _ _ r h => by simp [r12_Reach.j0] at h, fun _ _ _ _ r h => by simp [r12_Reach.l0] at h, fun _ _ r h => by simp [r12_Reach.j5] at h, fun _ _ _ _ r h => by simp [r12_Reach.l4] at h, fun _ _ _ r h => by simp [r12_Reach.l1] at h, fun _ _ _ _ _ r h => by simp [r12_Reach.l2] at h, fun _ _ _ _ _ _ r h => by simp [r12_Reach.l3] at h⟩
  | k + 1 => by
    obtain ⟨ih0, ih1, ih2, ih3, ih4, ih5, ih6⟩ := r12_Reach.mono_l k
    refine ⟨?_, ?_, ?_, ?_, ?_, ?_, ?_⟩
    · intro y0 y1 y2
      unfold r12_Reach.j0
      repeat' first
      | (with_reducible exact ih0 _ _ _)
      | (with_reducible exact ih1 _ _ _ _)
      | (with_reducible exact ih2 _ _)
      | (with_reducible exact ih3 _ _ _ _)
      | (with_reducible exact ih4 _ _ _)
      | (with_reducible exact ih5 _ _ _ _ _)
      | (with_reducible exact ih6 _ _ _ _ _ _)
      | (with_reducible exact r12_May.mono _ _)
      | (with_reducible exact LeO.refl _)
      | (with_reducible exact LeO.none _)
      | (with_reducible refine LeO.ite ?_ ?_)
      | (with_reducible refine LeO.bind ?_ (fun _ => ?_))
      | exact ih0 _ _ _
      | exact ih1 _ _ _ _
      | exact ih2 _ _
      | exact ih3 _ _ _ _
      | exact ih4 _ _ _
      | exact ih5 _ _ _ _ _
      | exact ih6 _ _ _ _ _ _
      | exact r12_May.mono _ _
      | exact LeO.none _
      | refine LeO.ite ?_ ?_
      | refine LeO.bind ?_ (fun _ => ?_)
    · intro y0 y1 y2 y3
      unfold r12_Reach.l0
      repeat' first
      | (with_reducible exact ih0 _ _ _)
      | (with_reducible exact ih1 _ _ _ _)
      | (with_reducible exact ih2 _ _)
      | (with_reducible exact ih3 _ _ _ _)
      | (with_reducible exact ih4 _ _ _)
      | (with_reducible exact ih5 _ _ _ _ _)
      | (with_reducible exact ih6 _ _ _ _ _ _)
      | (with_reducible exact r12_May.mono _ _)
      | (with_reducible exact LeO.refl _)
      | (with_reducible exact LeO.none _)
      | (with_reducible refine LeO.ite ?_ ?_)
      | (with_reducible refine LeO.bind ?_ (fun _ => ?_))
      | exact ih0 _ _ _
      | exact ih1 _ _ _ _
      | exact ih2 _ _
      | exact ih3 _ _ _ _
      | exact ih4 _ _ _
      | exact ih5 _ _ _ _ _
      | exact ih6 _ _ _ _ _ _
      | exact r12_May.mono _ _
      | exact LeO.none _
      | refine LeO.ite ?_ ?_
      | refine LeO.bind ?_ (fun _ => ?_)
    · intro y0 y1
      unfold r12_Reach.j5
      repeat' first
      | (with_reducible exact ih0 _ _ _)
      | (with_reducible exact ih1 _ _ _ _)
      | (with_reducible exact ih2 _ _)
      | (with_reducible exact ih3 _ _ _ _)
      | (with_reducible exact ih4 _ _ _)
      | (with_reducible exact ih5 _ _ _ _ _)
      | (with_reducible exact ih6 _ _ _ _ _ _)
      | (with_reducible exact r12_May.mono _ _)
      | (with_reducible exact LeO.refl _)
      | (with_reducible exact LeO.none _)
      | (with_reducible refine LeO.ite ?_ ?_)
      | (with_reducible refine LeO.bind ?_ (fun _ => ?_))
      | exact ih0 _ _ _
      | exact ih1 _ _ _ _
      | exact ih2 _ _
      | exact ih3 _ _ _ _
      | exact ih4 _ _ _
      | exact ih5 _ _ _ _ _
      | exact ih6 _ _ _ _ _ _
      | exact r12_May.mono _ _
      | exact LeO.none _
      | refine LeO.ite ?_ ?_
      | refine LeO.bind ?_ (fun _ => ?_)
    · intro y0 y1 y2 y3
      unfold r12_Reach.l4
      repeat' first
      | (with_reducible exact ih0 _ _ _)
      | (with_reducible exact ih1 _ _ _ _)
      | (with_reducible exact ih2 _ _)
      | (with_reducible exact ih3 _ _ _ _)
      | (with_reducible exact ih4 _ _ _)
      | (with_reducible exact ih5 _ _ _ _ _)
      | (with_reducible exact ih6 _ _ _ _ _ _)
      | (with_reducible exact r12_May.mono _ _)
      | (with_reducible exact LeO.refl _)
      | (with_reducible exact LeO.none _)
      | (with_reducible refine LeO.ite ?_ ?_)
      | (with_reducible refine LeO.bind ?_ (fun _ => ?_))
      | exact ih0 _ _ _
      | exact ih1 _ _ _ _
      | exact ih2 _ _
      | exact ih3 _ _ _ _
      | exact ih4 _ _ _
      | exact ih5 _ _ _ _ _
      | exact ih6 _ _ _ _ _ _
      | exact r12_May.mono _ _
      | exact LeO.none _
      | refine LeO.ite ?_ ?_
      | refine LeO.bind ?_ (fun _ => ?_)
    · intro y0 y1 y2
      unfold r12_Reach.l1
      repeat' first
      | (with_reducible exact ih0 _ _ _)
      | (with_reducible exact ih1 _ _ _ _)
      | (with_reducible exact ih2 _ _)
      | (with_reducible exact ih3 _ _ _ _)
      | (with_reducible exact ih4 _ _ _)
      | (with_reducible exact ih5 _ _ _ _ _)
      | (with_reducible exact ih6 _ _ _ _ _ _)
      | (with_reducible exact r12_May.mono _ _)
      | (with_reducible exact LeO.refl _)
      | (with_reducible exact LeO.none _)
      | (with_reducible refine LeO.ite ?_ ?_)
      | (with_reducible refine LeO.bind ?_ (fun _ => ?_))
      | exact ih0 _ _ _
      | exact ih1 _ _ _ _
      | exact ih2 _ _
      | exact ih3 _ _ _ _
      | exact ih4 _ _ _
      | exact ih5 _ _ _ _ _
      | exact ih6 _ _ _ _ _ _
      | exact r12_May.mono _ _
      | exact LeO.none _
      | refine LeO.ite ?_ ?_
      | refine LeO.bind ?_ (fun _ => ?_)
    · intro y0 y1 y2 y3 y4
      unfold r12_Reach.l2
      repeat' first
      | (with_reducible exact ih0 _ _ _)
      | (with_reducible exact ih1 _ _ _ _)
      | (with_reducible exact ih2 _ _)
      | (with_reducible exact ih3 _ _ _ _)
      | (with_reducible exact ih4 _ _ _)
      | (with_reducible exact ih5 _ _ _ _ _)
      | (with_reducible exact ih6 _ _ _ _ _ _)
      | (with_reducible exact r12_May.mono _ _)
      | (with_reducible exact LeO.refl _)
      | (with_reducible exact LeO.none _)
      | (with_reducible refine LeO.ite ?_ ?_)
      | (with_reducible refine LeO.bind ?_ (fun _ => ?_))
      | exact ih0 _ _ _
      | exact ih1 _ _ _ _
      | exact ih2 _ _
      | exact ih3 _ _ _ _
      | exact ih4 _ _ _
      | exact ih5 _ _ _ _ _
      | exact ih6 _ _ _ _ _ _
      | exact r12_May.mono _ _
      | exact LeO.none _
      | refine LeO.ite ?_ ?_
      | refine LeO.bind ?_ (fun _ => ?_)
    · intro y0 y1 y2 y3 y4 y5
      unfold r12_Reach.l3
      repeat' first
      | (with_reducible exact ih0 _ _ _)
      | (with_reducible exact ih1 _ _ _ _)
      | (with_reducible exact ih2 _ _)
      | (with_reducible exact ih3 _ _ _ _)
      | (with_reducible exact ih4 _ _ _)
      | (with_reducible exact ih5 _ _ _ _ _)
      | (with_reducible exact ih6 _ _ _ _ _ _)
      | (with_reducible exact r12_May.mono _ _)
      | (with_reducible exact LeO.refl _)
      | (with_reducible exact LeO.none _)
      | (with_reducible refine LeO.ite ?_ ?_)
      | (with_reducible refine LeO.bind ?_ (fun _ => ?_))
      | exact ih0 _ _ _
      | exact ih1 _ _ _ _
      | exact ih2 _ _
      | exact ih3 _ _ _ _
      | exact ih4 _ _ _
      | exact ih5 _ _ _ _ _
      | exact ih6 _ _ _ _ _ _
      | exact r12_May.mono _ _
      | exact LeO.none _
      | refine LeO.ite ?_ ?_
      | refine LeO.bind ?_ (fun _ => ?_)
theorem r12_Reach.mono : ∀ a0 a1 k, LeO (r12_Reach.f k a0 a1) (r12_Reach.f (k + 1) a0 a1) := by
 intro a0 a1 k
 obtain ⟨ih0, ih1, ih2, ih3, ih4, ih5, ih6⟩ := r12_Reach.mono_l k
 unfold r12_Reach.f
 repeat' first
   | (with_reducible exact ih0 _ _ _)
   | (with_reducible exact ih1 _ _ _ _)
   | (with_reducible exact ih2 _ _)
   | (with_reducible exact ih3 _ _ _ _)
   | (with_reducible exact ih4 _ _ _)
   | (with_reducible exact ih5 _ _ _ _ _)
   | (with_reducible exact ih6 _ _ _ _ _ _)
   | (with_reducible exact r12_May.mono _ _)
   | (with_reducible exact LeO.refl _)
   | (with_reducible exact LeO.none _)
   | (with_reducible refine LeO.ite ?_ ?_)
   | (with_reducible refine LeO.bind ?_ (fun _ => ?_))
   | exact ih0 _ _ _
   | exact ih1 _ _ _ _
   | exact ih2 _ _
   | exact ih3 _ _ _ _
   | exact ih4 _ _ _
   | exact ih5 _ _ _ _ _
   | exact ih6 _ _ _ _ _ _
   | exact r12_May.mono _ _
   | exact LeO.none _
   | refine LeO.ite ?_ ?_
   | refine LeO.bind ?_ (fun _ => ?_)
mutual
def graph_May.l0 : Nat → List (List Int) → List (List Int) → Int → Int → Option (Bool)
  | 0, _, _, _, _ => none
  | k + 1, x0, x7, x8, x9 => if x9 < x8 then (if 0 ≤ x9 then (if x9 < (x7.length : Int) then (graph_May.l1 k x0 (rd_L9 x7 x9) x7 x8 x9 (rd_L9 x7 x9) ((rd_L9 x7 x9).length : Int) 0) else (none)) else (none)) else (some (decide ((x0.length : Int) ≤ 1000)))
def graph_May.l1 : Nat → List (List Int) → List Int → List (List Int) → Int → Int → List Int → Int → Int → Option (Bool)
  | 0, _, _, _, _, _, _, _, _ => none
  | k + 1, x0, x4, x7, x8, x9, x13, x14, x15 => if x15 < x14 then (if 0 ≤ x15 then (if x15 < (x13.length : Int) then (if (rd x13 x15) < 0 then (some false) else (if (rd x13 x15) ≥ (x0.length : Int) then (some false) else (if x15 > 0 then (if 0 ≤ (wrap64 (x15 - 1)) then (if (wrap64 (x15 - 1)) < (x4.length : Int) then (if (rd x4 (wrap64 (x15 - 1))) ≥ (rd x13 x15) then (some false) else (graph_May.l1 k x0 x4 x7 x8 x9 x13 x14 (wrap64 (x15 + 1)))) else (none)) else (none)) else (graph_May.l1 k x0 x4 x7 x8 x9 x13 x14 (wrap64 (x15 + 1)))))) else (none)) else (none)) else (graph_May.l0 k x0 x7 x8 (wrap64 (x9 + 1)))
end
def graph_May.f (k : Nat) (l0 : List (List Int)) : Option (Bool) := graph_May.l0 k l0 l0 (l0.length : Int) 0
set_option maxHeartbeats 8000000 in
set_option maxRecDepth 100000 in
theorem graph_May.calls (k : Nat) (A0 : Option Addr) (c0 : Nat) (l0 : List (List Int)) (r : Bool) (w : World) (hr0 : Kd.C (Kd.slice 3 (Kd.int .i64)) w A0 l0.length l0) (hc0 : l0.length ≤ c0) (h : graph_May.f k l0 = some r) :
    Calls Try.prog 13 #[.slice A0 l0.length c0] w fun e w' => e = .returned (.bool r) ∧ Drawn0 w w' := by
 have HR0 := Aside0.mk hr0
 have HC0 := Aside0.mk hc0
 clear hr0 hc0
 have H : (graph_May.l0 k l0 l0 (l0.length : Int) 0) = some r := h
 clear h
 have H' := Aside0.mk H
 clear H
 go_enter Try.func13, Try.ntmps13
 go_wp2
 go_loopg [9] k (fun kq v9 w' => ∃ (x9_1 : Int), v9 = .int .i64 x9_1 ∧ Aside0 (graph_May.l0 kq l0 l0 (l0.length : Int) x9_1 = some r) ∧ Aside0 (kq ≤ k) ∧ Drawn0 w w')
 case atStart => exact ⟨(0), (by first | rfl | (simp; done) | (simp [*]; done)), H', ⟨Nat.le_refl _⟩, by repeat (first | exact Drawn0.refl _ | apply Drawn0.step)⟩
 case round =>
  clear H'
  try clear c1
  obtain ⟨x9_1, rfl, HA, HK1, ⟨m1, rfl⟩⟩ := hrel
  cases gk with
  | zero => exact absurd HA.out (by simp [graph_May.l0])
  | succ k1 =>
   have H := HA.out
   clear HA
   simp only [graph_May.l0] at H
   by_cases c2 : x9_1 < (l0.length : Int)
   ·rw [if_pos c2] at H
    have c2b0 : decide (x9_1 < (l0.length : Int)) = true := decide_eq_true c2
    clear c2
    by_cases c3 : 0 ≤ x9_1
    ·rw [if_pos c3] at H
     have c3b0 : decide (0 ≤ x9_1) = true := decide_eq_true c3
     clear c3
     by_cases c4 : x9_1 < (l0.length : Int)
     ·rw [if_pos c4] at H
      have c4b0 : decide (x9_1 < (l0.length : Int)) = true := decide_eq_true c4
      clear c4
      have H' := Aside0.mk H
      clear H
      have p217 : 0 ≤ (x9_1 : Int) := of_decide_eq_true (by first | (with_reducible assumption) | assumption)
      have q217 : x9_1 < (l0.length : Int) := of_decide_eq_true (by first | (with_reducible assumption) | assumption)
      obtain ⟨ad217, A217_0, c217_0, e217, hx217_0, hl217_0, hi217_0⟩ := at_L9 HR0.out x9_1 p217 q217
      cases e217
      have HR217_0 := Aside0.mk hi217_0
      have HC217_0 := Aside0.mk hl217_0
      clear hi217_0 hl217_0
      replace p217 := eq_true p217
      replace q217 := eq_true q217
      go_wp2
      go_loopg [15] k1 (fun kq v15 w' => ∃ (x15_2 : Int), v15 = .int .i64 x15_2 ∧ Aside0 (graph_May.l1 kq l0 (rd_L9 l0 x9_1) l0 (l0.length : Int) x9_1 (rd_L9 l0 x9_1) ((rd_L9 l0 x9_1).length : Int) x15_2 = some r) ∧ Aside0 (kq ≤ k1) ∧ Drawn0 w w')
      case atStart => exact ⟨(0), (by first | rfl | (simp; done) | (simp [*]; done)), H', ⟨Nat.le_refl _⟩, by repeat (first | exact Drawn0.refl _ | apply Drawn0.step)⟩
      case round =>
       clear H'
       try clear c1
       try clear c2
       try clear c2b0
       try clear p2
       try clear q2
       try clear hx2
       try clear c3
       try clear c3b0
       try clear c4
       try clear c4b0
       try clear hx217_0
       try clear p217
       try clear q217
       obtain ⟨x15_2, rfl, HA, HK2, ⟨m2, rfl⟩⟩ := hrel
       cases gk with
       | zero => exact absurd HA.out (by simp [graph_May.l1])
       | succ k2 =>
        have H := HA.out
        clear HA
        simp only [graph_May.l1] at H
        by_cases c5 : x15_2 < ((rd_L9 l0 x9_1).length : Int)
        ·rw [if_pos c5] at H
         have c5b0 : decide (x15_2 < ((rd_L9 l0 x9_1).length : Int)) = true := decide_eq_true c5
         clear c5
         by_cases c6 : 0 ≤ x15_2
         ·rw [if_pos c6] at H
          have c6b0 : decide (0 ≤ x15_2) = true := decide_eq_true c6
          clear c6
          by_cases c7 : x15_2 < ((rd_L9 l0 x9_1).length : Int)
          ·rw [if_pos c7] at H
           have c7b0 : decide (x15_2 < ((rd_L9 l0 x9_1).length : Int)) = true := decide_eq_true c7
           clear c7
           by_cases c8 : (rd (rd_L9 l0 x9_1) x15_2) < 0
           ·rw [if_pos c8] at H
            have c8b0 : decide ((rd (rd_L9 l0 x9_1) x15_2) < 0) = true := decide_eq_true c8
            clear c8
            obtain rfl := Option.some.inj H
            have p218 : 0 ≤ (x15_2 : Int) := of_decide_eq_true (by first | (with_reducible assumption) | assumption)
            have q218 : x15_2 < ((rd_L9 l0 x9_1).length : Int) := of_decide_eq_true (by first | (with_reducible assumption) | assumption)
            obtain ⟨ad218, e218, hx218_0⟩ := Kd.at_int HR217_0.out x15_2 p218 q218
            cases e218
            replace p218 := eq_true p218
            replace q218 := eq_true q218
            go_wp2
            go_ret
            exact ⟨by first | rfl | (simp; done) | (simp [*]; done), by repeat (first | exact Drawn0.refl _ | apply Drawn0.step)⟩
           ·rw [if_neg c8] at H
            have c8b0 : decide ((rd (rd_L9 l0 x9_1) x15_2) < 0) = false := decide_eq_false c8
            clear c8
            by_cases c9 : (rd (rd_L9 l0 x9_1) x15_2) ≥ (l0.length : Int)
            ·rw [if_pos c9] at H
             have c9b0 : decide ((l0.length : Int) ≤ (rd (rd_L9 l0 x9_1) x15_2)) = true := decide_eq_true c9
             clear c9
             obtain rfl := Option.some.inj H
             have p218 : 0 ≤ (x15_2 : Int) := of_decide_eq_true (by first | (with_reducible assumption) | assumption)
             have q218 : x15_2 < ((rd_L9 l0 x9_1).length : Int) := of_decide_eq_true (by first | (with_reducible assumption) | assumption)
             obtain ⟨ad218, e218, hx218_0⟩ := Kd.at_int HR217_0.out x15_2 p218 q218
             cases e218
             replace p218 := eq_true p218
             replace q218 := eq_true q218
             go_wp2
             go_ret
             exact ⟨by first | rfl | (simp; done) | (simp [*]; done), by repeat (first | exact Drawn0.refl _ | apply Drawn0.step)⟩
            ·rw [if_neg c9] at H
             have c9b0 : decide ((l0.length : Int) ≤ (rd (rd_L9 l0 x9_1) x15_2)) = false := decide_eq_false c9
             clear c9
             by_cases c10 : x15_2 > 0
             ·rw [if_pos c10] at H
              have c10b0 : decide (0 < x15_2) = true := decide_eq_true c10
              clear c10
              obtain ⟨ji11, hji11⟩ : ∃ j_ : Int, (wrap64 (x15_2 - 1)) = j_ := ⟨_, rfl⟩
              replace H : (if 0 ≤ (ji11) then (if (ji11) < ((rd_L9 l0 x9_1).length : Int) then (if (rd (rd_L9 l0 x9_1) (ji11)) ≥ (rd (rd_L9 l0 x9_1) x15_2) then (some false) else (graph_May.l1 k2 l0 (rd_L9 l0 x9_1) l0 (l0.length : Int) x9_1 (rd_L9 l0 x9_1) ((rd_L9 l0 x9_1).length : Int) (wrap64 (x15_2 + 1)))) else (none)) else (none)) = some r := by first | (rw [hji11] at H; exact H) | (simp only [hji11] at H ⊢; exact H)
              have hji11w : (IntKind.i64.wrap (x15_2 - 1)) = ji11 := (i64_w _).trans hji11
              by_cases c12 : 0 ≤ (ji11)
              ·rw [if_pos c12] at H
               have c12b0 : decide (0 ≤ (ji11)) = true := decide_eq_true c12
               clear c12
               by_cases c13 : (ji11) < ((rd_L9 l0 x9_1).length : Int)
               ·rw [if_pos c13] at H
                have c13b0 : decide ((ji11) < ((rd_L9 l0 x9_1).length : Int)) = true := decide_eq_true c13
                clear c13
                by_cases c14 : (rd (rd_L9 l0 x9_1) (ji11)) ≥ (rd (rd_L9 l0 x9_1) x15_2)
                ·rw [if_pos c14] at H
                 have c14b0 : decide ((rd (rd_L9 l0 x9_1) x15_2) ≤ (rd (rd_L9 l0 x9_1) (ji11))) = true := decide_eq_true c14
                 clear c14
                 obtain rfl := Option.some.inj H
                 have p218 : 0 ≤ (x15_2 : Int) := of_decide_eq_true (by first | (with_reducible assumption) | assumption)
                 have q218 : x15_2 < ((rd_L9 l0 x9_1).length : Int) := of_decide_eq_true (by first | (with_reducible assumption) | assumption)
                 obtain ⟨ad218, e218, hx218_0⟩ := Kd.at_int HR217_0.out x15_2 p218 q218
                 cases e218
                 replace p218 := eq_true p218
                 replace q218 := eq_true q218
                 have p219 : 0 ≤ ((ji11) : Int) := of_decide_eq_true (by first | (with_reducible assumption) | assumption)
                 have q219 : (ji11) < ((rd_L9 l0 x9_1).length : Int) := of_decide_eq_true (by first | (with_reducible assumption) | assumption)
                 obtain ⟨ad219, e219, hx219_0⟩ := Kd.at_int HR217_0.out (ji11) p219 q219
                 obtain rfl : ad218 = ad219 := (by injection e219)
                 replace p219 := eq_true p219
                 replace q219 := eq_true q219
                 go_wp2
                 go_ret
                 exact ⟨by first | rfl | (simp; done) | (simp only [← hji11] <;> (first | rfl | simp)) | (simp [*]; done), by repeat (first | exact Drawn0.refl _ | apply Drawn0.step)⟩
                ·rw [if_neg c14] at H
                 have c14b0 : decide ((rd (rd_L9 l0 x9_1) x15_2) ≤ (rd (rd_L9 l0 x9_1) (ji11))) = false := decide_eq_false c14
                 clear c14
                 have H' := Aside0.mk H
                 clear H
                 have p218 : 0 ≤ (x15_2 : Int) := of_decide_eq_true (by first | (with_reducible assumption) | assumption)
                 have q218 : x15_2 < ((rd_L9 l0 x9_1).length : Int) := of_decide_eq_true (by first | (with_reducible assumption) | assumption)
                 obtain ⟨ad218, e218, hx218_0⟩ := Kd.at_int HR217_0.out x15_2 p218 q218
                 cases e218
                 replace p218 := eq_true p218
                 replace q218 := eq_true q218
                 have p219 : 0 ≤ ((ji11) : Int) := of_decide_eq_true (by first | (with_reducible assumption) | assumption)
                 have q219 : (ji11) < ((rd_L9 l0 x9_1).length : Int) := of_decide_eq_true (by first | (with_reducible assumption) | assumption)
                 obtain ⟨ad219, e219, hx219_0⟩ := Kd.at_int HR217_0.out (ji11) p219 q219
                 obtain rfl : ad218 = ad219 := (by injection e219)
                 replace p219 := eq_true p219
                 replace q219 := eq_true q219
                 go_wp2
                 go_roundg k2
                 case measure => have := HK1.out; have := HK2.out; omega
                 case rel => exact ⟨(wrap64 (x15_2 + 1)), (by first | rfl | (simp; done) | (simp [*]; done)), H', ⟨by have := HK1.out; have := HK2.out; omega⟩, by repeat (first | exact Drawn0.refl _ | apply Drawn0.step)⟩
               ·rw [if_neg c13] at H
                exact absurd H (by simp)
              ·rw [if_neg c12] at H
               exact absurd H (by simp)
             ·rw [if_neg c10] at H
              have c10b0 : decide (0 < x15_2) = false := decide_eq_false c10
              clear c10
              have H' := Aside0.mk H
              clear H
              have p218 : 0 ≤ (x15_2 : Int) := of_decide_eq_true (by first | (with_reducible assumption) | assumption)
              have q218 : x15_2 < ((rd_L9 l0 x9_1).length : Int) := of_decide_eq_true (by first | (with_reducible assumption) | assumption)
              obtain ⟨ad218, e218, hx218_0⟩ := Kd.at_int HR217_0.out x15_2 p218 q218
              cases e218
              replace p218 := eq_true p218
              replace q218 := eq_true q218
              go_wp2
              go_roundg k2
              case measure => have := HK1.out; have := HK2.out; omega
              case rel => exact ⟨(wrap64 (x15_2 + 1)), (by first | rfl | (simp; done) | (simp [*]; done)), H', ⟨by have := HK1.out; have := HK2.out; omega⟩, by repeat (first | exact Drawn0.refl _ | apply Drawn0.step)⟩
          ·rw [if_neg c7] at H
           exact absurd H (by simp)
         ·rw [if_neg c6] at H
          exact absurd H (by simp)
        ·rw [if_neg c5] at H
         have c5b0 : decide (x15_2 < ((rd_L9 l0 x9_1).length : Int)) = false := decide_eq_false c5
         clear c5
         have H' := Aside0.mk H
         clear H
         go_wp2
         go_roundg k2
         case measure => have := HK1.out; have := HK2.out; omega
         case rel => exact ⟨(wrap64 (x9_1 + 1)), (by first | rfl | (simp; done) | (simp [*]; done)), H', ⟨by have := HK1.out; have := HK2.out; omega⟩, by repeat (first | exact Drawn0.refl _ | apply Drawn0.step)⟩
     ·rw [if_neg c4] at H
      exact absurd H (by simp)
    ·rw [if_neg c3] at H
     exact absurd H (by simp)
   ·rw [if_neg c2] at H
    have c2b0 : decide (x9_1 < (l0.length : Int)) = false := decide_eq_false c2
    clear c2
    obtain rfl := Option.some.inj H
    go_wp2
    go_ret
    exact ⟨by first | rfl | (simp; done) | (simp [*]; done), by repeat (first | exact Drawn0.refl _ | apply Drawn0.step)⟩
mutual
def r04_List.l0 : Nat → List (S55) → List (S55) → Int → Option ((List (S55)))
  | 0, _, _, _ => none
  | k + 1, x0, x3, x4 => if x4 < (x0.length : Int) then (if 0 ≤ x4 then (if x3.length < 925904528653 then ((some (x3 ++ [(⟨(rd_T55 x0 x4).f0, (rd_T55 x0 x4).f1, (rd_T55 x0 x4).f2, (rd_T55 x0 x4).f3, (rd_T55 x0 x4).f4, (rd_T55 x0 x4).f5, (rd_T55 x0 x4).f6, (rd_T55 x0 x4).f7⟩ : S55)] : List (S55))).bind fun y230 => ((r04_List.f k ((rd_T55 x0 x4).f6)).bind fun t234 => (if y230.length + t234.length < 925904528653 then ((some (y230 ++ t234 : List (S55))).bind fun y237 => ((r04_List.f k ((rd_T55 x0 x4).f7)).bind fun t241 => (if y237.length + t241.length < 925904528653 then (r04_List.l0 k x0 (y237 ++ t241) (wrap64 (x4 + 1))) else (none)))) else (none)))) else (none)) else (none)) else (some x3)
def r04_List.f : Nat → List (S55) → Option ((List (S55)))
  | 0, _ => none
  | k + 1, l0 => r04_List.l0 k l0 (([] : List (S55))) 0
end
set_option maxHeartbeats 8000000 in
set_option maxRecDepth 100000 in
theorem r04_List.calls (k : Nat) : ∀ (P0_ : Nat → Prop) (A0 : Option Addr) (c0 : Nat) (l0 : List (S55)) (r : List (S55)) (w : World) (hs0 : Kd.V k55 55 w w.heap.size (fun k_ => P0_ k_) (.slice A0 l0.length c0) l0) (h : r04_List.f k l0 = some r),
    Calls Try.prog 40 #[.slice A0 l0.length c0] w fun e w' => ∃ v0_ : Value, e = .returned (v0_) ∧ Kd.N k55 55 w' w.heap.size (fun k_ => (P0_ k_ ∨ w.heap.size ≤ k_)) v0_ r ∧ Below w.heap.size w w' := by
 induction k using Nat.strongRecOn with
 | _ k ih =>
 intro P0_ A0 c0 l0 r w hs0 h
 cases k with
 | zero => exact absurd h (by simp [r04_List.f])
 | succ k =>
 simp only [r04_List.f] at h
 have hu55 := Try.underlying55
 have HO0 := Aside0.mk (show Kd.V k55 55 w w.heap.size (fun k_ => (P0_ k_ ∨ w.heap.size ≤ k_)) (.slice A0 l0.length c0) l0 from Kd.V_mono hs0 (fun k_ hk => .inl hk))
 have HB := Aside0.mk (Below.refl w.heap.size w)
 have H : (r04_List.l0 k l0 (([] : List (S55))) 0) = some r := h
 clear h
 obtain ⟨y226, hy226⟩ : ∃ y_ : List (S55), y_ = (([] : List (S55))) := ⟨_, rfl⟩
 replace H : (r04_List.l0 k l0 y226 0) = some r := by first | (rw [hy226]; with_reducible exact H) | (have H2_ := (Option.bind_some _ _).symm.trans H; rw [hy226]; with_reducible exact H2_) | (have H2_ := (Option.bind_some _ _).symm.trans H; with_reducible exact H2_) | with_reducible exact H | (rw [hy226]; exact H) | exact H
 have Ny226 := Aside0.mk hy226
 clear hy226
 have H' := Aside0.mk H
 clear H
 go_enter Try.func40, Try.ntmps40
 go_wp2_with (first | ((with_reducible refine gate_dst (N := 5) rfl ?_); refine Kd.N_lit k55 _ 55 ?hg (N' := 5) ?hd (xs := ([] : List (S55))) (inner := []) (ok := (fun k_ => (P0_ k_ ∨ w.heap.size ≤ k_))) (okp := (fun k_ => (P0_ k_ ∨ w.heap.size ≤ k_))) ?hr ?hp (fun _ hk => hk) ((show ∀ k_, w.heap.size ≤ k_ → (fun k_ => (P0_ k_ ∨ w.heap.size ≤ k_)) k_ from fun k_ hk => (.inr (Nat.le_trans (below_size (by repeat (first | (with_reducible first | exact HB.out | apply below_alloc | apply pw_below_drewN | apply below_drew1) | exact HB.out))) hk))) _ (Nat.le_refl _)) (Below.refl _ _) (Nat.le_refl _) (by simp) ?_; (case hd => rfl); (case hg => rfl); (case hr => first | (go_simp; done) | (go_simp; rfl)); (case hp => exact (Reps.none _ _)); intro v227 w2 ho3 hb hg_ hnew_; clear hg_ hnew_; (first | rw [← Ny226.out] at ho3 | (simp only [Int.reduceToNat] at ho3; rw [← Ny226.out] at ho3)); have n0_ := Aside0.mk (Kd.V_elder' (by (with_reducible repeat (first | apply Kd.V_alloc | apply Kd.V_drewN | apply Kd.V_drew)); exact HO0.out) (Kd.N_base ho3) hb); have n1_ := Aside0.mk (Kd.N_lower ho3 (below_size (by repeat (first | (with_reducible first | exact HB.out | apply below_alloc | apply pw_below_drewN | apply below_drew1) | exact HB.out)))); have n2_ := Aside0.mk (below_step (by repeat (first | (with_reducible first | exact HB.out | apply below_alloc | apply pw_below_drewN | apply below_drew1) | exact HB.out)) hb); clear HO0; clear HB; have HO0 := n0_; have HO228 := n1_; have HB := n2_; clear n0_ n1_ n2_; clear hb ho3))
 go_loopg [3, 4] k (fun kq v3 v4 w' => ∃ (x3_1 : List (S55)) (x4_1 : Int), v4 = .int .i64 x4_1 ∧ Aside0 (r04_List.l0 kq l0 x3_1 x4_1 = some r) ∧ Aside0 (kq ≤ k) ∧ Aside0 (Kd.V k55 55 w' w.heap.size (fun k_ => (P0_ k_ ∨ w.heap.size ≤ k_) ∧ some k_ ≠ (v3 : Value).ownBlock) (.slice A0 l0.length c0) l0) ∧ Aside0 (Kd.N k55 55 w' w.heap.size (fun k_ => (P0_ k_ ∨ w.heap.size ≤ k_)) v3 x3_1) ∧ Aside0 (Below w.heap.size w w'))
 case atStart => exact ⟨(y226), (0), (by first | rfl | (simp; done) | (simp [*]; done)), H', ⟨Nat.le_refl _⟩, ⟨by (with_reducible repeat (first | apply Kd.V_alloc | apply Kd.V_drewN | apply Kd.V_drew)); exact HO0.out⟩, ⟨by (with_reducible repeat (first | apply Kd.N_alloc | apply Kd.N_drewN | apply Kd.N_drew)); exact HO228.out⟩, ⟨by repeat (first | (with_reducible first | exact HB.out | apply below_alloc | apply pw_below_drewN | apply below_drew1) | exact HB.out)⟩⟩
 case round =>
  clear H'
  try clear p2
  obtain ⟨x3_1, x4_1, rfl, HA, HK1, HO_0, HO_3, HB⟩ := hrel
  cases gk with
  | zero => exact absurd HA.out (by simp [r04_List.l0])
  | succ k1 =>
   have H := HA.out
   clear HA
   simp only [r04_List.l0] at H
   by_cases c4 : x4_1 < (l0.length : Int)
   ·rw [if_pos c4] at H
    have c4b0 : decide (x4_1 < (l0.length : Int)) = true := decide_eq_true c4
    clear c4
    by_cases c5 : 0 ≤ x4_1
    ·rw [if_pos c5] at H
     have c5b0 : decide (0 ≤ x4_1) = true := decide_eq_true c5
     clear c5
     by_cases c6 : x3_1.length < 925904528653
     ·rw [if_pos c6] at H
      have LMc6 := Aside0.mk c6
      clear c6
      obtain ⟨y230, hy230⟩ : ∃ y_ : List (S55), y_ = (x3_1 ++ [(⟨(rd_T55 l0 x4_1).f0, (rd_T55 l0 x4_1).f1, (rd_T55 l0 x4_1).f2, (rd_T55 l0 x4_1).f3, (rd_T55 l0 x4_1).f4, (rd_T55 l0 x4_1).f5, (rd_T55 l0 x4_1).f6, (rd_T55 l0 x4_1).f7⟩ : S55)]) := ⟨_, rfl⟩
      replace H : ((r04_List.f k1 ((rd_T55 l0 x4_1).f6)).bind fun t234 => (if y230.length + t234.length < 925904528653 then ((some (y230 ++ t234 : List (S55))).bind fun y237 => ((r04_List.f k1 ((rd_T55 l0 x4_1).f7)).bind fun t241 => (if y237.length + t241.length < 925904528653 then (r04_List.l0 k1 l0 (y237 ++ t241) (wrap64 (x4_1 + 1))) else (none)))) else (none))) = some r := by first | (rw [hy230]; with_reducible exact H) | (have H2_ := (Option.bind_some _ _).symm.trans H; rw [hy230]; with_reducible exact H2_) | (have H2_ := (Option.bind_some _ _).symm.trans H; with_reducible exact H2_) | with_reducible exact H | (rw [hy230]; exact H) | exact H
      have Ny230 := Aside0.mk hy230
      clear hy230
      replace H := Option.bind_eq_some_iff.mp H
      obtain ⟨t234, A70, H⟩ := H
      replace H : (if y230.length + t234.length < 925904528653 then ((some (y230 ++ t234 : List (S55))).bind fun y237 => ((r04_List.f k1 ((rd_T55 l0 x4_1).f7)).bind fun t241 => (if y237.length + t241.length < 925904528653 then (r04_List.l0 k1 l0 (y237 ++ t241) (wrap64 (x4_1 + 1))) else (none)))) else (none)) = some r := H
      have A7 := Aside0.mk A70
      clear A70
      by_cases c8 : y230.length + t234.length < 925904528653
      ·rw [if_pos c8] at H
       have LMc8 := Aside0.mk c8
       clear c8
       obtain ⟨y237, hy237⟩ : ∃ y_ : List (S55), y_ = (y230 ++ t234) := ⟨_, rfl⟩
       replace H : ((r04_List.f k1 ((rd_T55 l0 x4_1).f7)).bind fun t241 => (if y237.length + t241.length < 925904528653 then (r04_List.l0 k1 l0 (y237 ++ t241) (wrap64 (x4_1 + 1))) else (none))) = some r := by first | (rw [hy237]; with_reducible exact H) | (have H2_ := (Option.bind_some _ _).symm.trans H; rw [hy237]; with_reducible exact H2_) | (have H2_ := (Option.bind_some _ _).symm.trans H; with_reducible exact H2_) | with_reducible exact H | (rw [hy237]; exact H) | exact H
       have Ny237 := Aside0.mk hy237
       clear hy237
       replace H := Option.bind_eq_some_iff.mp H
       obtain ⟨t241, A90, H⟩ := H
       replace H : (if y237.length + t241.length < 925904528653 then (r04_List.l0 k1 l0 (y237 ++ t241) (wrap64 (x4_1 + 1))) else (none)) = some r := H
       have A9 := Aside0.mk A90
       clear A90
       by_cases c10 : y237.length + t241.length < 925904528653
       ·rw [if_pos c10] at H
        have LMc10 := Aside0.mk c10
        clear c10
        obtain ⟨y244, hy244⟩ : ∃ y_ : List (S55), y_ = (y237 ++ t241) := ⟨_, rfl⟩
        replace H : (r04_List.l0 k1 l0 y244 (wrap64 (x4_1 + 1))) = some r := by first | (rw [hy244]; with_reducible exact H) | (have H2_ := (Option.bind_some _ _).symm.trans H; rw [hy244]; with_reducible exact H2_) | (have H2_ := (Option.bind_some _ _).symm.trans H; with_reducible exact H2_) | with_reducible exact H | (rw [hy244]; exact H) | exact H
        have Ny244 := Aside0.mk hy244
        clear hy244
        have H' := Aside0.mk H
        clear H
        have p229 : 0 ≤ (x4_1 : Int) := of_decide_eq_true (by first | (with_reducible assumption) | assumption)
        have q229 : x4_1 < (l0.length : Int) := of_decide_eq_true (by first | (with_reducible assumption) | assumption)
        obtain ⟨ad229, A229_4, c229_4, A229_5, c229_5, A229_6, c229_6, A229_7, c229_7, e229, hx229_0, hx229_1, hx229_2, hx229_3, hx229_4, hx229_5, hx229_6, hx229_7, hl229_4, hi229_4, hl229_5, hi229_5, hl229_6, hi229_6, hl229_7, hi229_7⟩ := at_T55 (Kd.V_reads' HO_0.out).2.2 x4_1 p229 q229
        cases e229
        obtain ⟨ce229, hce229, hMe229, hcc229⟩ := Kd.V_get HO_0.out z55 x4_1 p229 (by first | exact q229 | exact of_decide_eq_true (by first | (with_reducible assumption) | assumption) | (have e_ := (Kd.V_reads' HO_0.out).1; omega))
        obtain ⟨ua229_4, uc229_4, ua229_5, uc229_5, ua229_6, uc229_6, ua229_7, uc229_7, rfl, ul229_4, ge229_4, ul229_5, ge229_5, ul229_6, ge229_6, ul229_7, ge229_7⟩ := k55_openF hMe229
        have hv229_4 := hcc229 4 _ rfl
        rw [add_field _ _ 4 (by omega)] at hv229_4
        replace hv229_4 := Option.some.inj (hv229_4.symm.trans hx229_4)
        injection hv229_4 with hva_ hvn_ hvc_
        rw [hva_] at ge229_4
        rw [hvc_] at ul229_4
        have HL229_4 := Aside0.mk (show Kd.V k114 114 _ w.heap.size _ _ ((rd_T55 l0 x4_1).f4) from Kd.V_mk ul229_4 ge229_4)
        clear hva_ hvn_ hvc_ ge229_4 ul229_4
        have hv229_5 := hcc229 5 _ rfl
        rw [add_field _ _ 5 (by omega)] at hv229_5
        replace hv229_5 := Option.some.inj (hv229_5.symm.trans hx229_5)
        injection hv229_5 with hva_ hvn_ hvc_
        rw [hva_] at ge229_5
        rw [hvc_] at ul229_5
        have HL229_5 := Aside0.mk (show Kd.V Kd.string 9 _ w.heap.size _ _ ((rd_T55 l0 x4_1).f5) from Kd.V_mk ul229_5 ge229_5)
        clear hva_ hvn_ hvc_ ge229_5 ul229_5
        have hv229_6 := hcc229 6 _ rfl
        rw [add_field _ _ 6 (by omega)] at hv229_6
        replace hv229_6 := Option.some.inj (hv229_6.symm.trans hx229_6)
        injection hv229_6 with hva_ hvn_ hvc_
        rw [hva_] at ge229_6
        rw [hvc_] at ul229_6
        have HL229_6 := Aside0.mk (show Kd.V k55 55 _ w.heap.size _ _ ((rd_T55 l0 x4_1).f6) from Kd.V_mk ul229_6 ge229_6)
        clear hva_ hvn_ hvc_ ge229_6 ul229_6
        have hv229_7 := hcc229 7 _ rfl
        rw [add_field _ _ 7 (by omega)] at hv229_7
        replace hv229_7 := Option.some.inj (hv229_7.symm.trans hx229_7)
        injection hv229_7 with hva_ hvn_ hvc_
        rw [hva_] at ge229_7
        rw [hvc_] at ul229_7
        have HL229_7 := Aside0.mk (show Kd.V k55 55 _ w.heap.size _ _ ((rd_T55 l0 x4_1).f7) from Kd.V_mk ul229_7 ge229_7)
        clear hva_ hvn_ hvc_ ge229_7 ul229_7
        clear hcc229 hce229
        have HR229_4 := Aside0.mk hi229_4
        have HC229_4 := Aside0.mk hl229_4
        clear hi229_4 hl229_4
        have HR229_5 := Aside0.mk hi229_5
        have HC229_5 := Aside0.mk hl229_5
        clear hi229_5 hl229_5
        have HR229_6 := Aside0.mk hi229_6
        have HC229_6 := Aside0.mk hl229_6
        clear hi229_6 hl229_6
        have HR229_7 := Aside0.mk hi229_7
        have HC229_7 := Aside0.mk hl229_7
        clear hi229_7 hl229_7
        replace p229 := eq_true p229
        replace q229 := eq_true q229
        go_wp2_with (first | ((with_reducible refine gate_builtin (b := .append) (xs := #[.tmp 12, .tmp 17]) rfl ?_); at_builtin; refine Kd.N_append k55 (w0 := w) w.heap.size rfl (.tmp 12) (.tmp 17) 40 55 (.agg #[(.int .i64 0), (.string ⟨#[]⟩), (.string ⟨#[]⟩), (.string ⟨#[]⟩), (.slice none 0 0), (.slice none 0 0), (.slice none 0 0), (.slice none 0 0)]) 152 rfl Try.underlying40 info55 rfl (by decide) (by omega) u3 x3_1 (⟨(rd_T55 l0 x4_1).f0, (rd_T55 l0 x4_1).f1, (rd_T55 l0 x4_1).f2, (rd_T55 l0 x4_1).f3, (rd_T55 l0 x4_1).f4, (rd_T55 l0 x4_1).f5, (rd_T55 l0 x4_1).f6, (rd_T55 l0 x4_1).f7⟩ : S55) [.int .i64 ((rd_T55 l0 x4_1).f0), .string ((rd_T55 l0 x4_1).f1), .string ((rd_T55 l0 x4_1).f2), .string ((rd_T55 l0 x4_1).f3), .slice A229_4 ((rd_T55 l0 x4_1).f4).length c229_4, .slice A229_5 ((rd_T55 l0 x4_1).f5).length c229_5, .slice A229_6 ((rd_T55 l0 x4_1).f6).length c229_6, .slice A229_7 ((rd_T55 l0 x4_1).f7).length c229_7] (fun k_ => (P0_ k_ ∨ w.heap.size ≤ k_)) (fun k_ => ((fun k_ => (P0_ k_ ∨ w.heap.size ≤ k_))) k_ ∧ some k_ ≠ (u3 : Value).ownBlock) rfl rfl ?aP (fun _ hk => hk) ?aF ?aO ?aB ?aS ?aL ?_; (case aP => exact (k55_mkF _ _ (⟨(rd_T55 l0 x4_1).f0, (rd_T55 l0 x4_1).f1, (rd_T55 l0 x4_1).f2, (rd_T55 l0 x4_1).f3, (rd_T55 l0 x4_1).f4, (rd_T55 l0 x4_1).f5, (rd_T55 l0 x4_1).f6, (rd_T55 l0 x4_1).f7⟩ : S55) (Kd.V_reads' (Kd.V_mono (ok' := (fun k_ => ((fun k_ => (P0_ k_ ∨ w.heap.size ≤ k_))) k_ ∧ some k_ ≠ (u3 : Value).ownBlock)) (HL229_4.out) (fun k_ hk => ⟨hk.1, hk.2⟩))).2.1 (Kd.V_F (Kd.V_mono (ok' := (fun k_ => ((fun k_ => (P0_ k_ ∨ w.heap.size ≤ k_))) k_ ∧ some k_ ≠ (u3 : Value).ownBlock)) (HL229_4.out) (fun k_ hk => ⟨hk.1, hk.2⟩))) (Kd.V_reads' (Kd.V_mono (ok' := (fun k_ => ((fun k_ => (P0_ k_ ∨ w.heap.size ≤ k_))) k_ ∧ some k_ ≠ (u3 : Value).ownBlock)) (HL229_5.out) (fun k_ hk => ⟨hk.1, hk.2⟩))).2.1 (Kd.V_F (Kd.V_mono (ok' := (fun k_ => ((fun k_ => (P0_ k_ ∨ w.heap.size ≤ k_))) k_ ∧ some k_ ≠ (u3 : Value).ownBlock)) (HL229_5.out) (fun k_ hk => ⟨hk.1, hk.2⟩))) (Kd.V_reads' (Kd.V_mono (ok' := (fun k_ => ((fun k_ => (P0_ k_ ∨ w.heap.size ≤ k_))) k_ ∧ some k_ ≠ (u3 : Value).ownBlock)) (HL229_6.out) (fun k_ hk => ⟨hk.1, hk.2⟩))).2.1 (Kd.V_F (Kd.V_mono (ok' := (fun k_ => ((fun k_ => (P0_ k_ ∨ w.heap.size ≤ k_))) k_ ∧ some k_ ≠ (u3 : Value).ownBlock)) (HL229_6.out) (fun k_ hk => ⟨hk.1, hk.2⟩))) (Kd.V_reads' (Kd.V_mono (ok' := (fun k_ => ((fun k_ => (P0_ k_ ∨ w.heap.size ≤ k_))) k_ ∧ some k_ ≠ (u3 : Value).ownBlock)) (HL229_7.out) (fun k_ hk => ⟨hk.1, hk.2⟩))).2.1 (Kd.V_F (Kd.V_mono (ok' := (fun k_ => ((fun k_ => (P0_ k_ ∨ w.heap.size ≤ k_))) k_ ∧ some k_ ≠ (u3 : Value).ownBlock)) (HL229_7.out) (fun k_ hk => ⟨hk.1, hk.2⟩))))); (case aB => exact (by repeat (first | (with_reducible first | exact HB.out | apply below_alloc | apply pw_below_drewN | apply below_drew1) | exact HB.out))); (case aF => exact (fun k_ hk => (.inr (Nat.le_trans (below_size (by repeat (first | (with_reducible first | exact HB.out | apply below_alloc | apply pw_below_drewN | apply below_drew1) | exact HB.out))) hk)))); (case aO => exact (by (with_reducible repeat (first | apply Kd.N_alloc | apply Kd.N_drewN | apply Kd.N_drew)); exact HO_3.out)); (case aS => exact (below_size (by repeat (first | (with_reducible first | exact HB.out | apply below_alloc | apply pw_below_drewN | apply below_drew1) | exact HB.out)))); (case aL => have := LMc6.out; omega); intro v231 w11 ho hb hg hat; rw [← Ny230.out] at ho; have n0_ := Aside0.mk (Kd.V_afterv (ok := (fun k_ => (P0_ k_ ∨ w.heap.size ≤ k_))) (by (with_reducible repeat (first | apply Kd.V_alloc | apply Kd.V_drewN | apply Kd.V_drew)); exact HO_0.out) hg hat); have n1_ := Aside0.mk (Kd.V_afterv (ok := (fun k_ => (P0_ k_ ∨ w.heap.size ≤ k_))) (by (with_reducible repeat (first | apply Kd.V_alloc | apply Kd.V_drewN | apply Kd.V_drew)); exact HL229_4.out) hg hat); have n2_ := Aside0.mk (Kd.V_afterv (ok := (fun k_ => (P0_ k_ ∨ w.heap.size ≤ k_))) (by (with_reducible repeat (first | apply Kd.V_alloc | apply Kd.V_drewN | apply Kd.V_drew)); exact HL229_5.out) hg hat); have n3_ := Aside0.mk (Kd.V_afterv (ok := (fun k_ => (P0_ k_ ∨ w.heap.size ≤ k_))) (by (with_reducible repeat (first | apply Kd.V_alloc | apply Kd.V_drewN | apply Kd.V_drew)); exact HL229_6.out) hg hat); have n4_ := Aside0.mk (Kd.V_afterv (ok := (fun k_ => (P0_ k_ ∨ w.heap.size ≤ k_))) (by (with_reducible repeat (first | apply Kd.V_alloc | apply Kd.V_drewN | apply Kd.V_drew)); exact HL229_7.out) hg hat); have n5_ := Aside0.mk (hb); have n6_ := Aside0.mk (ho); clear HO_0; clear HL229_4; clear HL229_5; clear HL229_6; clear HL229_7; clear HB; clear HO_3; have HO_0 := n0_; have HL229_4 := n1_; have HL229_5 := n2_; have HL229_6 := n3_; have HL229_7 := n4_; have HB := n5_; have HO232 := n6_; clear n0_ n1_ n2_ n3_ n4_ n5_ n6_; clear ho hb hg hat; have p233 : 0 ≤ (x4_1 : Int) := of_decide_eq_true (by first | (with_reducible assumption) | assumption); have q233 : x4_1 < (l0.length : Int) := of_decide_eq_true (by first | (with_reducible assumption) | assumption); obtain ⟨ad233, A233_4, c233_4, A233_5, c233_5, A233_6, c233_6, A233_7, c233_7, e233, hx233_0, hx233_1, hx233_2, hx233_3, hx233_4, hx233_5, hx233_6, hx233_7, hl233_4, hi233_4, hl233_5, hi233_5, hl233_6, hi233_6, hl233_7, hi233_7⟩ := at_T55 (Kd.V_reads' HO_0.out).2.2 x4_1 p233 q233; obtain rfl : ad229 = ad233 := (by injection e233); obtain ⟨ce233, hce233, hMe233, hcc233⟩ := Kd.V_get HO_0.out z55 x4_1 p233 (by first | exact q233 | exact of_decide_eq_true (by first | (with_reducible assumption) | assumption) | (have e_ := (Kd.V_reads' HO_0.out).1; omega)); obtain ⟨ua233_4, uc233_4, ua233_5, uc233_5, ua233_6, uc233_6, ua233_7, uc233_7, rfl, ul233_4, ge233_4, ul233_5, ge233_5, ul233_6, ge233_6, ul233_7, ge233_7⟩ := k55_openF hMe233; have hv233_4 := hcc233 4 _ rfl; rw [add_field _ _ 4 (by omega)] at hv233_4; replace hv233_4 := Option.some.inj (hv233_4.symm.trans hx233_4); injection hv233_4 with hva_ hvn_ hvc_; rw [hva_] at ge233_4; rw [hvc_] at ul233_4; have HL233_4 := Aside0.mk (show Kd.V k114 114 _ w.heap.size _ _ ((rd_T55 l0 x4_1).f4) from Kd.V_mk ul233_4 ge233_4); clear hva_ hvn_ hvc_ ge233_4 ul233_4; have hv233_5 := hcc233 5 _ rfl; rw [add_field _ _ 5 (by omega)] at hv233_5; replace hv233_5 := Option.some.inj (hv233_5.symm.trans hx233_5); injection hv233_5 with hva_ hvn_ hvc_; rw [hva_] at ge233_5; rw [hvc_] at ul233_5; have HL233_5 := Aside0.mk (show Kd.V Kd.string 9 _ w.heap.size _ _ ((rd_T55 l0 x4_1).f5) from Kd.V_mk ul233_5 ge233_5); clear hva_ hvn_ hvc_ ge233_5 ul233_5; have hv233_6 := hcc233 6 _ rfl; rw [add_field _ _ 6 (by omega)] at hv233_6; replace hv233_6 := Option.some.inj (hv233_6.symm.trans hx233_6); injection hv233_6 with hva_ hvn_ hvc_; rw [hva_] at ge233_6; rw [hvc_] at ul233_6; have HL233_6 := Aside0.mk (show Kd.V k55 55 _ w.heap.size _ _ ((rd_T55 l0 x4_1).f6) from Kd.V_mk ul233_6 ge233_6); clear hva_ hvn_ hvc_ ge233_6 ul233_6; have hv233_7 := hcc233 7 _ rfl; rw [add_field _ _ 7 (by omega)] at hv233_7; replace hv233_7 := Option.some.inj (hv233_7.symm.trans hx233_7); injection hv233_7 with hva_ hvn_ hvc_; rw [hva_] at ge233_7; rw [hvc_] at ul233_7; have HL233_7 := Aside0.mk (show Kd.V k55 55 _ w.heap.size _ _ ((rd_T55 l0 x4_1).f7) from Kd.V_mk ul233_7 ge233_7); clear hva_ hvn_ hvc_ ge233_7 ul233_7; clear hcc233 hce233; have HR233_4 := Aside0.mk hi233_4; have HC233_4 := Aside0.mk hl233_4; clear hi233_4 hl233_4; have HR233_5 := Aside0.mk hi233_5; have HC233_5 := Aside0.mk hl233_5; clear hi233_5 hl233_5; have HR233_6 := Aside0.mk hi233_6; have HC233_6 := Aside0.mk hl233_6; clear hi233_6 hl233_6; have HR233_7 := Aside0.mk hi233_7; have HC233_7 := Aside0.mk hl233_7; clear hi233_7 hl233_7; replace p233 := eq_true p233; replace q233 := eq_true q233) | ((with_reducible refine gate_callee (f := 40) rfl ?_); refine goesL_ (some 25) rfl rfl Try.func40 (by kernel_rfl) rfl #[.slice A233_6 ((rd_T55 l0 x4_1).f6).length c233_6] rfl (by (try simp only [List.map_toArray, List.map_cons, List.map_nil]); first | done | rfl | (simp only [List.length_drop, List.length_take]; rfl)) ?_; (with_reducible refine (ih k1 (by have := HK1.out; omega) (fun k_ => ((P0_ k_ ∨ w.heap.size ≤ k_) ∧ some k_ ≠ (v231 : Value).ownBlock)) _ _ ((rd_T55 l0 x4_1).f6) t234 _ ?side1 A7.out).mono ?_); (case side1 => exact HL233_6.out); rintro e w12 ⟨v235, rfl, ho0, hb⟩; refine ⟨_, rfl, ?_⟩; have n0_ := Aside0.mk (Kd.V_elder' (by (with_reducible repeat (first | apply Kd.V_alloc | apply Kd.V_drewN | apply Kd.V_drew)); exact HO_0.out) (Kd.N_base ho0) hb); have n1_ := Aside0.mk (Kd.V_elder' (by (with_reducible repeat (first | apply Kd.V_alloc | apply Kd.V_drewN | apply Kd.V_drew)); exact HL229_4.out) (Kd.N_base ho0) hb); have n2_ := Aside0.mk (Kd.V_elder' (by (with_reducible repeat (first | apply Kd.V_alloc | apply Kd.V_drewN | apply Kd.V_drew)); exact HL229_5.out) (Kd.N_base ho0) hb); have n3_ := Aside0.mk (Kd.V_elder' (by (with_reducible repeat (first | apply Kd.V_alloc | apply Kd.V_drewN | apply Kd.V_drew)); exact HL229_6.out) (Kd.N_base ho0) hb); have n4_ := Aside0.mk (Kd.V_elder' (by (with_reducible repeat (first | apply Kd.V_alloc | apply Kd.V_drewN | apply Kd.V_drew)); exact HL229_7.out) (Kd.N_base ho0) hb); have n5_ := Aside0.mk (Kd.N_elder' (by (with_reducible repeat (first | apply Kd.N_alloc | apply Kd.N_drewN | apply Kd.N_drew)); exact HO232.out) (Kd.N_base ho0) hb); have n6_ := Aside0.mk (Kd.V_elder' (by (with_reducible repeat (first | apply Kd.V_alloc | apply Kd.V_drewN | apply Kd.V_drew)); exact HL233_4.out) (Kd.N_base ho0) hb); have n7_ := Aside0.mk (Kd.V_elder' (by (with_reducible repeat (first | apply Kd.V_alloc | apply Kd.V_drewN | apply Kd.V_drew)); exact HL233_5.out) (Kd.N_base ho0) hb); have n8_ := Aside0.mk (Kd.V_elder' (by (with_reducible repeat (first | apply Kd.V_alloc | apply Kd.V_drewN | apply Kd.V_drew)); exact HL233_6.out) (Kd.N_base ho0) hb); have n9_ := Aside0.mk (Kd.V_elder' (by (with_reducible repeat (first | apply Kd.V_alloc | apply Kd.V_drewN | apply Kd.V_drew)); exact HL233_7.out) (Kd.N_base ho0) hb); have n10_ := Aside0.mk (Kd.N_lower (Kd.N_mono (ok' := fun k_ => (P0_ k_ ∨ w.heap.size ≤ k_) ∧ some k_ ≠ (v231 : Value).ownBlock) ho0 (fun k_ hk_ => ⟨Or.elim hk_ (fun hs_ => hs_.1) (fun hn_ => (.inr (Nat.le_trans (below_size (by repeat (first | (with_reducible first | exact HB.out | apply below_alloc | apply pw_below_drewN | apply below_drew1) | exact HB.out))) hn_))), Or.elim hk_ (fun hs_ => hs_.2) (fun hn_ => (Kd.fresh' (Kd.N_lt (by (with_reducible repeat (first | apply Kd.N_alloc | apply Kd.N_drewN | apply Kd.N_drew)); exact HO232.out)) k_ hn_))⟩)) (below_size (by repeat (first | (with_reducible first | exact HB.out | apply below_alloc | apply pw_below_drewN | apply below_drew1) | exact HB.out)))); have n11_ := Aside0.mk (Kd.C_below (by repeat (first | (with_reducible exact HR233_4.out) | (with_reducible refine Kd.C_alloc ?_ _) | (with_reducible refine Kd.C_drewN ?_ _) | (with_reducible refine Kd.C_drew ?_) | exact HR233_4.out)) hb); have n12_ := Aside0.mk (Kd.C_below (by repeat (first | (with_reducible exact HR233_5.out) | (with_reducible refine Kd.C_alloc ?_ _) | (with_reducible refine Kd.C_drewN ?_ _) | (with_reducible refine Kd.C_drew ?_) | exact HR233_5.out)) hb); have n13_ := Aside0.mk (Kd.C_below (by repeat (first | (with_reducible exact HR233_6.out) | (with_reducible refine Kd.C_alloc ?_ _) | (with_reducible refine Kd.C_drewN ?_ _) | (with_reducible refine Kd.C_drew ?_) | exact HR233_6.out)) hb); have n14_ := Aside0.mk (Kd.C_below (by repeat (first | (with_reducible exact HR233_7.out) | (with_reducible refine Kd.C_alloc ?_ _) | (with_reducible refine Kd.C_drewN ?_ _) | (with_reducible refine Kd.C_drew ?_) | exact HR233_7.out)) hb); have n15_ := Aside0.mk (below_step (by repeat (first | (with_reducible first | exact HB.out | apply below_alloc | apply pw_below_drewN | apply below_drew1) | exact HB.out)) hb); clear HO_0; clear HL229_4; clear HL229_5; clear HL229_6; clear HL229_7; clear HO232; clear HL233_4; clear HL233_5; clear HL233_6; clear HL233_7; clear HR233_4; clear HR233_5; clear HR233_6; clear HR233_7; clear HB; have HO_0 := n0_; have HL229_4 := n1_; have HL229_5 := n2_; have HL229_6 := n3_; have HL229_7 := n4_; have HO232 := n5_; have HL233_4 := n6_; have HL233_5 := n7_; have HL233_6 := n8_; have HL233_7 := n9_; have HO236 := n10_; have HR233_4 := n11_; have HR233_5 := n12_; have HR233_6 := n13_; have HR233_7 := n14_; have HB := n15_; clear n0_ n1_ n2_ n3_ n4_ n5_ n6_ n7_ n8_ n9_ n10_ n11_ n12_ n13_ n14_ n15_; (try clear hb); (try clear hb2); (try clear hk); (try clear hi); (try clear ho0); obtain ⟨Ao14, co14, eo14⟩ := Kd.N_slice HO236.out; subst eo14) | ((with_reducible refine gate_builtin (b := .append) (xs := #[.tmp 19, .tmp 25]) rfl ?_); at_builtin; refine Kd.N_append_rows k55 (w0 := w) w.heap.size rfl (.tmp 19) (.tmp 25) 40 55 (.agg #[(.int .i64 0), (.string ⟨#[]⟩), (.string ⟨#[]⟩), (.string ⟨#[]⟩), (.slice none 0 0), (.slice none 0 0), (.slice none 0 0), (.slice none 0 0)]) 152 rfl Try.underlying40 info55 rfl (by decide) (by omega) v231 y230 t234 _ _ _ (fun k_ => (P0_ k_ ∨ w.heap.size ≤ k_)) (fun k_ => ((fun k_ => (P0_ k_ ∨ w.heap.size ≤ k_))) k_ ∧ some k_ ≠ (v231 : Value).ownBlock) rfl rfl ?aO ?aR (fun _ hk => hk) ?aF ?aB ?aS ?aL ?_; (case aR => exact (by skip; exact Kd.N_F (Kd.N_mono (ok' := (fun k_ => ((fun k_ => (P0_ k_ ∨ w.heap.size ≤ k_))) k_ ∧ some k_ ≠ (v231 : Value).ownBlock)) (HO236.out) (fun k_ hk => ⟨hk.1, hk.2⟩)))); (case aB => exact (by repeat (first | (with_reducible first | exact HB.out | apply below_alloc | apply pw_below_drewN | apply below_drew1) | exact HB.out))); (case aF => exact (fun k_ hk => (.inr (Nat.le_trans (below_size (by repeat (first | (with_reducible first | exact HB.out | apply below_alloc | apply pw_below_drewN | apply below_drew1) | exact HB.out))) hk)))); (case aO => exact (by (with_reducible repeat (first | apply Kd.N_alloc | apply Kd.N_drewN | apply Kd.N_drew)); exact Kd.N_mono HO232.out (fun _ hk => hk.1))); (case aS => exact (below_size (by repeat (first | (with_reducible first | exact HB.out | apply below_alloc | apply pw_below_drewN | apply below_drew1) | exact HB.out)))); (case aL => have := LMc8.out; omega); intro v238 w13 ho hb hg hat; rw [← Ny237.out] at ho; have n0_ := Aside0.mk (Kd.V_afterv (ok := (fun k_ => (P0_ k_ ∨ w.heap.size ≤ k_) ∧ some k_ ≠ (.slice Ao14 t234.length co14 : Value).ownBlock)) (by (with_reducible repeat (first | apply Kd.V_alloc | apply Kd.V_drewN | apply Kd.V_drew)); exact Kd.V_mono HO_0.out (fun _ hk => ⟨⟨hk.1.1, hk.2⟩, hk.1.2⟩)) hg hat); have n1_ := Aside0.mk (Kd.V_afterv (ok := (fun k_ => (P0_ k_ ∨ w.heap.size ≤ k_) ∧ some k_ ≠ (.slice Ao14 t234.length co14 : Value).ownBlock)) (by (with_reducible repeat (first | apply Kd.V_alloc | apply Kd.V_drewN | apply Kd.V_drew)); exact Kd.V_mono HL229_4.out (fun _ hk => ⟨⟨hk.1.1, hk.2⟩, hk.1.2⟩)) hg hat); have n2_ := Aside0.mk (Kd.V_afterv (ok := (fun k_ => (P0_ k_ ∨ w.heap.size ≤ k_) ∧ some k_ ≠ (.slice Ao14 t234.length co14 : Value).ownBlock)) (by (with_reducible repeat (first | apply Kd.V_alloc | apply Kd.V_drewN | apply Kd.V_drew)); exact Kd.V_mono HL229_5.out (fun _ hk => ⟨⟨hk.1.1, hk.2⟩, hk.1.2⟩)) hg hat); have n3_ := Aside0.mk (Kd.V_afterv (ok := (fun k_ => (P0_ k_ ∨ w.heap.size ≤ k_) ∧ some k_ ≠ (.slice Ao14 t234.length co14 : Value).ownBlock)) (by (with_reducible repeat (first | apply Kd.V_alloc | apply Kd.V_drewN | apply Kd.V_drew)); exact Kd.V_mono HL229_6.out (fun _ hk => ⟨⟨hk.1.1, hk.2⟩, hk.1.2⟩)) hg hat); have n4_ := Aside0.mk (Kd.V_afterv (ok := (fun k_ => (P0_ k_ ∨ w.heap.size ≤ k_) ∧ some k_ ≠ (.slice Ao14 t234.length co14 : Value).ownBlock)) (by (with_reducible repeat (first | apply Kd.V_alloc | apply Kd.V_drewN | apply Kd.V_drew)); exact Kd.V_mono HL229_7.out (fun _ hk => ⟨⟨hk.1.1, hk.2⟩, hk.1.2⟩)) hg hat); have n5_ := Aside0.mk (Kd.V_afterv (ok := (fun k_ => (P0_ k_ ∨ w.heap.size ≤ k_) ∧ some k_ ≠ (.slice Ao14 t234.length co14 : Value).ownBlock)) (by (with_reducible repeat (first | apply Kd.V_alloc | apply Kd.V_drewN | apply Kd.V_drew)); exact Kd.V_mono HL233_4.out (fun _ hk => ⟨⟨hk.1.1, hk.2⟩, hk.1.2⟩)) hg hat); have n6_ := Aside0.mk (Kd.V_afterv (ok := (fun k_ => (P0_ k_ ∨ w.heap.size ≤ k_) ∧ some k_ ≠ (.slice Ao14 t234.length co14 : Value).ownBlock)) (by (with_reducible repeat (first | apply Kd.V_alloc | apply Kd.V_drewN | apply Kd.V_drew)); exact Kd.V_mono HL233_5.out (fun _ hk => ⟨⟨hk.1.1, hk.2⟩, hk.1.2⟩)) hg hat); have n7_ := Aside0.mk (Kd.V_afterv (ok := (fun k_ => (P0_ k_ ∨ w.heap.size ≤ k_) ∧ some k_ ≠ (.slice Ao14 t234.length co14 : Value).ownBlock)) (by (with_reducible repeat (first | apply Kd.V_alloc | apply Kd.V_drewN | apply Kd.V_drew)); exact Kd.V_mono HL233_6.out (fun _ hk => ⟨⟨hk.1.1, hk.2⟩, hk.1.2⟩)) hg hat); have n8_ := Aside0.mk (Kd.V_afterv (ok := (fun k_ => (P0_ k_ ∨ w.heap.size ≤ k_) ∧ some k_ ≠ (.slice Ao14 t234.length co14 : Value).ownBlock)) (by (with_reducible repeat (first | apply Kd.V_alloc | apply Kd.V_drewN | apply Kd.V_drew)); exact Kd.V_mono HL233_7.out (fun _ hk => ⟨⟨hk.1.1, hk.2⟩, hk.1.2⟩)) hg hat); have n9_ := Aside0.mk (Kd.N_afterv (ok := (fun k_ => (P0_ k_ ∨ w.heap.size ≤ k_))) (by (with_reducible repeat (first | apply Kd.N_alloc | apply Kd.N_drewN | apply Kd.N_drew)); exact HO236.out) hg hat); have n10_ := Aside0.mk (hb); have n11_ := Aside0.mk (ho); clear HO_0; clear HL229_4; clear HL229_5; clear HL229_6; clear HL229_7; clear HL233_4; clear HL233_5; clear HL233_6; clear HL233_7; clear HO236; clear HB; clear HO232; have HO_0 := n0_; have HL229_4 := n1_; have HL229_5 := n2_; have HL229_6 := n3_; have HL229_7 := n4_; have HL233_4 := n5_; have HL233_5 := n6_; have HL233_6 := n7_; have HL233_7 := n8_; have HO236 := n9_; have HB := n10_; have HO239 := n11_; clear n0_ n1_ n2_ n3_ n4_ n5_ n6_ n7_ n8_ n9_ n10_ n11_; clear ho hb hg hat; have p240 : 0 ≤ (x4_1 : Int) := of_decide_eq_true (by first | (with_reducible assumption) | assumption); have q240 : x4_1 < (l0.length : Int) := of_decide_eq_true (by first | (with_reducible assumption) | assumption); obtain ⟨ad240, A240_4, c240_4, A240_5, c240_5, A240_6, c240_6, A240_7, c240_7, e240, hx240_0, hx240_1, hx240_2, hx240_3, hx240_4, hx240_5, hx240_6, hx240_7, hl240_4, hi240_4, hl240_5, hi240_5, hl240_6, hi240_6, hl240_7, hi240_7⟩ := at_T55 (Kd.V_reads' HO_0.out).2.2 x4_1 p240 q240; obtain rfl : ad229 = ad240 := (by injection e240); obtain ⟨ce240, hce240, hMe240, hcc240⟩ := Kd.V_get HO_0.out z55 x4_1 p240 (by first | exact q240 | exact of_decide_eq_true (by first | (with_reducible assumption) | assumption) | (have e_ := (Kd.V_reads' HO_0.out).1; omega)); obtain ⟨ua240_4, uc240_4, ua240_5, uc240_5, ua240_6, uc240_6, ua240_7, uc240_7, rfl, ul240_4, ge240_4, ul240_5, ge240_5, ul240_6, ge240_6, ul240_7, ge240_7⟩ := k55_openF hMe240; have hv240_4 := hcc240 4 _ rfl; rw [add_field _ _ 4 (by omega)] at hv240_4; replace hv240_4 := Option.some.inj (hv240_4.symm.trans hx240_4); injection hv240_4 with hva_ hvn_ hvc_; rw [hva_] at ge240_4; rw [hvc_] at ul240_4; have HL240_4 := Aside0.mk (show Kd.V k114 114 _ w.heap.size _ _ ((rd_T55 l0 x4_1).f4) from Kd.V_mk ul240_4 ge240_4); clear hva_ hvn_ hvc_ ge240_4 ul240_4; have hv240_5 := hcc240 5 _ rfl; rw [add_field _ _ 5 (by omega)] at hv240_5; replace hv240_5 := Option.some.inj (hv240_5.symm.trans hx240_5); injection hv240_5 with hva_ hvn_ hvc_; rw [hva_] at ge240_5; rw [hvc_] at ul240_5; have HL240_5 := Aside0.mk (show Kd.V Kd.string 9 _ w.heap.size _ _ ((rd_T55 l0 x4_1).f5) from Kd.V_mk ul240_5 ge240_5); clear hva_ hvn_ hvc_ ge240_5 ul240_5; have hv240_6 := hcc240 6 _ rfl; rw [add_field _ _ 6 (by omega)] at hv240_6; replace hv240_6 := Option.some.inj (hv240_6.symm.trans hx240_6); injection hv240_6 with hva_ hvn_ hvc_; rw [hva_] at ge240_6; rw [hvc_] at ul240_6; have HL240_6 := Aside0.mk (show Kd.V k55 55 _ w.heap.size _ _ ((rd_T55 l0 x4_1).f6) from Kd.V_mk ul240_6 ge240_6); clear hva_ hvn_ hvc_ ge240_6 ul240_6; have hv240_7 := hcc240 7 _ rfl; rw [add_field _ _ 7 (by omega)] at hv240_7; replace hv240_7 := Option.some.inj (hv240_7.symm.trans hx240_7); injection hv240_7 with hva_ hvn_ hvc_; rw [hva_] at ge240_7; rw [hvc_] at ul240_7; have HL240_7 := Aside0.mk (show Kd.V k55 55 _ w.heap.size _ _ ((rd_T55 l0 x4_1).f7) from Kd.V_mk ul240_7 ge240_7); clear hva_ hvn_ hvc_ ge240_7 ul240_7; clear hcc240 hce240; have HR240_4 := Aside0.mk hi240_4; have HC240_4 := Aside0.mk hl240_4; clear hi240_4 hl240_4; have HR240_5 := Aside0.mk hi240_5; have HC240_5 := Aside0.mk hl240_5; clear hi240_5 hl240_5; have HR240_6 := Aside0.mk hi240_6; have HC240_6 := Aside0.mk hl240_6; clear hi240_6 hl240_6; have HR240_7 := Aside0.mk hi240_7; have HC240_7 := Aside0.mk hl240_7; clear hi240_7 hl240_7; replace p240 := eq_true p240; replace q240 := eq_true q240) | ((with_reducible refine gate_callee (f := 40) rfl ?_); refine goesL_ (some 33) rfl rfl Try.func40 (by kernel_rfl) rfl #[.slice A240_7 ((rd_T55 l0 x4_1).f7).length c240_7] rfl (by (try simp only [List.map_toArray, List.map_cons, List.map_nil]); first | done | rfl | (simp only [List.length_drop, List.length_take]; rfl)) ?_; (with_reducible refine (ih k1 (by have := HK1.out; omega) (fun k_ => (((P0_ k_ ∨ w.heap.size ≤ k_) ∧ some k_ ≠ (.slice Ao14 t234.length co14 : Value).ownBlock) ∧ some k_ ≠ (v238 : Value).ownBlock)) _ _ ((rd_T55 l0 x4_1).f7) t241 _ ?side1 A9.out).mono ?_); (case side1 => exact HL240_7.out); rintro e w15 ⟨v242, rfl, ho0, hb⟩; refine ⟨_, rfl, ?_⟩; have n0_ := Aside0.mk (Kd.V_elder' (by (with_reducible repeat (first | apply Kd.V_alloc | apply Kd.V_drewN | apply Kd.V_drew)); exact HO_0.out) (Kd.N_base ho0) hb); have n1_ := Aside0.mk (Kd.V_elder' (by (with_reducible repeat (first | apply Kd.V_alloc | apply Kd.V_drewN | apply Kd.V_drew)); exact HL229_4.out) (Kd.N_base ho0) hb); have n2_ := Aside0.mk (Kd.V_elder' (by (with_reducible repeat (first | apply Kd.V_alloc | apply Kd.V_drewN | apply Kd.V_drew)); exact HL229_5.out) (Kd.N_base ho0) hb); have n3_ := Aside0.mk (Kd.V_elder' (by (with_reducible repeat (first | apply Kd.V_alloc | apply Kd.V_drewN | apply Kd.V_drew)); exact HL229_6.out) (Kd.N_base ho0) hb); have n4_ := Aside0.mk (Kd.V_elder' (by (with_reducible repeat (first | apply Kd.V_alloc | apply Kd.V_drewN | apply Kd.V_drew)); exact HL229_7.out) (Kd.N_base ho0) hb); have n5_ := Aside0.mk (Kd.V_elder' (by (with_reducible repeat (first | apply Kd.V_alloc | apply Kd.V_drewN | apply Kd.V_drew)); exact HL233_4.out) (Kd.N_base ho0) hb); have n6_ := Aside0.mk (Kd.V_elder' (by (with_reducible repeat (first | apply Kd.V_alloc | apply Kd.V_drewN | apply Kd.V_drew)); exact HL233_5.out) (Kd.N_base ho0) hb); have n7_ := Aside0.mk (Kd.V_elder' (by (with_reducible repeat (first | apply Kd.V_alloc | apply Kd.V_drewN | apply Kd.V_drew)); exact HL233_6.out) (Kd.N_base ho0) hb); have n8_ := Aside0.mk (Kd.V_elder' (by (with_reducible repeat (first | apply Kd.V_alloc | apply Kd.V_drewN | apply Kd.V_drew)); exact HL233_7.out) (Kd.N_base ho0) hb); have n9_ := Aside0.mk (Kd.N_elder' (by (with_reducible repeat (first | apply Kd.N_alloc | apply Kd.N_drewN | apply Kd.N_drew)); exact HO236.out) (Kd.N_base ho0) hb); have n10_ := Aside0.mk (Kd.N_elder' (by (with_reducible repeat (first | apply Kd.N_alloc | apply Kd.N_drewN | apply Kd.N_drew)); exact HO239.out) (Kd.N_base ho0) hb); have n11_ := Aside0.mk (Kd.V_elder' (by (with_reducible repeat (first | apply Kd.V_alloc | apply Kd.V_drewN | apply Kd.V_drew)); exact HL240_4.out) (Kd.N_base ho0) hb); have n12_ := Aside0.mk (Kd.V_elder' (by (with_reducible repeat (first | apply Kd.V_alloc | apply Kd.V_drewN | apply Kd.V_drew)); exact HL240_5.out) (Kd.N_base ho0) hb); have n13_ := Aside0.mk (Kd.V_elder' (by (with_reducible repeat (first | apply Kd.V_alloc | apply Kd.V_drewN | apply Kd.V_drew)); exact HL240_6.out) (Kd.N_base ho0) hb); have n14_ := Aside0.mk (Kd.V_elder' (by (with_reducible repeat (first | apply Kd.V_alloc | apply Kd.V_drewN | apply Kd.V_drew)); exact HL240_7.out) (Kd.N_base ho0) hb); have n15_ := Aside0.mk (Kd.N_lower (Kd.N_mono (ok' := fun k_ => (P0_ k_ ∨ w.heap.size ≤ k_) ∧ some k_ ≠ (.slice Ao14 t234.length co14 : Value).ownBlock ∧ some k_ ≠ (v238 : Value).ownBlock) ho0 (fun k_ hk_ => ⟨Or.elim hk_ (fun hs_ => hs_.1.1) (fun hn_ => (.inr (Nat.le_trans (below_size (by repeat (first | (with_reducible first | exact HB.out | apply below_alloc | apply pw_below_drewN | apply below_drew1) | exact HB.out))) hn_))), Or.elim hk_ (fun hs_ => hs_.1.2) (fun hn_ => (Kd.fresh' (Kd.N_lt (by (with_reducible repeat (first | apply Kd.N_alloc | apply Kd.N_drewN | apply Kd.N_drew)); exact HO236.out)) k_ hn_)), Or.elim hk_ (fun hs_ => hs_.2) (fun hn_ => (Kd.fresh' (Kd.N_lt (by (with_reducible repeat (first | apply Kd.N_alloc | apply Kd.N_drewN | apply Kd.N_drew)); exact HO239.out)) k_ hn_))⟩)) (below_size (by repeat (first | (with_reducible first | exact HB.out | apply below_alloc | apply pw_below_drewN | apply below_drew1) | exact HB.out)))); have n16_ := Aside0.mk (Kd.C_below (by repeat (first | (with_reducible exact HR240_4.out) | (with_reducible refine Kd.C_alloc ?_ _) | (with_reducible refine Kd.C_drewN ?_ _) | (with_reducible refine Kd.C_drew ?_) | exact HR240_4.out)) hb); have n17_ := Aside0.mk (Kd.C_below (by repeat (first | (with_reducible exact HR240_5.out) | (with_reducible refine Kd.C_alloc ?_ _) | (with_reducible refine Kd.C_drewN ?_ _) | (with_reducible refine Kd.C_drew ?_) | exact HR240_5.out)) hb); have n18_ := Aside0.mk (Kd.C_below (by repeat (first | (with_reducible exact HR240_6.out) | (with_reducible refine Kd.C_alloc ?_ _) | (with_reducible refine Kd.C_drewN ?_ _) | (with_reducible refine Kd.C_drew ?_) | exact HR240_6.out)) hb); have n19_ := Aside0.mk (Kd.C_below (by repeat (first | (with_reducible exact HR240_7.out) | (with_reducible refine Kd.C_alloc ?_ _) | (with_reducible refine Kd.C_drewN ?_ _) | (with_reducible refine Kd.C_drew ?_) | exact HR240_7.out)) hb); have n20_ := Aside0.mk (below_step (by repeat (first | (with_reducible first | exact HB.out | apply below_alloc | apply pw_below_drewN | apply below_drew1) | exact HB.out)) hb); clear HO_0; clear HL229_4; clear HL229_5; clear HL229_6; clear HL229_7; clear HL233_4; clear HL233_5; clear HL233_6; clear HL233_7; clear HO236; clear HO239; clear HL240_4; clear HL240_5; clear HL240_6; clear HL240_7; clear HR240_4; clear HR240_5; clear HR240_6; clear HR240_7; clear HB; have HO_0 := n0_; have HL229_4 := n1_; have HL229_5 := n2_; have HL229_6 := n3_; have HL229_7 := n4_; have HL233_4 := n5_; have HL233_5 := n6_; have HL233_6 := n7_; have HL233_7 := n8_; have HO236 := n9_; have HO239 := n10_; have HL240_4 := n11_; have HL240_5 := n12_; have HL240_6 := n13_; have HL240_7 := n14_; have HO243 := n15_; have HR240_4 := n16_; have HR240_5 := n17_; have HR240_6 := n18_; have HR240_7 := n19_; have HB := n20_; clear n0_ n1_ n2_ n3_ n4_ n5_ n6_ n7_ n8_ n9_ n10_ n11_ n12_ n13_ n14_ n15_ n16_ n17_ n18_ n19_ n20_; (try clear hb); (try clear hb2); (try clear hk); (try clear hi); (try clear ho0); obtain ⟨Ao17, co17, eo17⟩ := Kd.N_slice HO243.out; subst eo17) | ((with_reducible refine gate_builtin (b := .append) (xs := #[.tmp 27, .tmp 33]) rfl ?_); at_builtin; refine Kd.N_append_rows k55 (w0 := w) w.heap.size rfl (.tmp 27) (.tmp 33) 40 55 (.agg #[(.int .i64 0), (.string ⟨#[]⟩), (.string ⟨#[]⟩), (.string ⟨#[]⟩), (.slice none 0 0), (.slice none 0 0), (.slice none 0 0), (.slice none 0 0)]) 152 rfl Try.underlying40 info55 rfl (by decide) (by omega) v238 y237 t241 _ _ _ (fun k_ => (P0_ k_ ∨ w.heap.size ≤ k_)) (fun k_ => ((fun k_ => (P0_ k_ ∨ w.heap.size ≤ k_))) k_ ∧ some k_ ≠ (v238 : Value).ownBlock) rfl rfl ?aO ?aR (fun _ hk => hk) ?aF ?aB ?aS ?aL ?_; (case aR => exact (by skip; exact Kd.N_F (Kd.N_mono (ok' := (fun k_ => ((fun k_ => (P0_ k_ ∨ w.heap.size ≤ k_))) k_ ∧ some k_ ≠ (v238 : Value).ownBlock)) (HO243.out) (fun k_ hk => ⟨hk.1, hk.2.2⟩)))); (case aB => exact (by repeat (first | (with_reducible first | exact HB.out | apply below_alloc | apply pw_below_drewN | apply below_drew1) | exact HB.out))); (case aF => exact (fun k_ hk => (.inr (Nat.le_trans (below_size (by repeat (first | (with_reducible first | exact HB.out | apply below_alloc | apply pw_below_drewN | apply below_drew1) | exact HB.out))) hk)))); (case aO => exact (by (with_reducible repeat (first | apply Kd.N_alloc | apply Kd.N_drewN | apply Kd.N_drew)); exact Kd.N_mono HO239.out (fun _ hk => hk.1))); (case aS => exact (below_size (by repeat (first | (with_reducible first | exact HB.out | apply below_alloc | apply pw_below_drewN | apply below_drew1) | exact HB.out)))); (case aL => have := LMc10.out; omega); intro v245 w16 ho hb hg hat; rw [← Ny244.out] at ho; have n0_ := Aside0.mk (Kd.V_afterv (ok := (fun k_ => (P0_ k_ ∨ w.heap.size ≤ k_) ∧ some k_ ≠ (.slice Ao14 t234.length co14 : Value).ownBlock ∧ some k_ ≠ (.slice Ao17 t241.length co17 : Value).ownBlock)) (by (with_reducible repeat (first | apply Kd.V_alloc | apply Kd.V_drewN | apply Kd.V_drew)); exact Kd.V_mono HO_0.out (fun _ hk => ⟨⟨hk.1.1.1, ⟨hk.1.1.2, hk.2⟩⟩, hk.1.2⟩)) hg hat); have n1_ := Aside0.mk (Kd.V_afterv (ok := (fun k_ => (P0_ k_ ∨ w.heap.size ≤ k_) ∧ some k_ ≠ (.slice Ao14 t234.length co14 : Value).ownBlock ∧ some k_ ≠ (.slice Ao17 t241.length co17 : Value).ownBlock)) (by (with_reducible repeat (first | apply Kd.V_alloc | apply Kd.V_drewN | apply Kd.V_drew)); exact Kd.V_mono HL229_4.out (fun _ hk => ⟨⟨hk.1.1.1, ⟨hk.1.1.2, hk.2⟩⟩, hk.1.2⟩)) hg hat); have n2_ := Aside0.mk (Kd.V_afterv (ok := (fun k_ => (P0_ k_ ∨ w.heap.size ≤ k_) ∧ some k_ ≠ (.slice Ao14 t234.length co14 : Value).ownBlock ∧ some k_ ≠ (.slice Ao17 t241.length co17 : Value).ownBlock)) (by (with_reducible repeat (first | apply Kd.V_alloc | apply Kd.V_drewN | apply Kd.V_drew)); exact Kd.V_mono HL229_5.out (fun _ hk => ⟨⟨hk.1.1.1, ⟨hk.1.1.2, hk.2⟩⟩, hk.1.2⟩)) hg hat); have n3_ := Aside0.mk (Kd.V_afterv (ok := (fun k_ => (P0_ k_ ∨ w.heap.size ≤ k_) ∧ some k_ ≠ (.slice Ao14 t234.length co14 : Value).ownBlock ∧ some k_ ≠ (.slice Ao17 t241.length co17 : Value).ownBlock)) (by (with_reducible repeat (first | apply Kd.V_alloc | apply Kd.V_drewN | apply Kd.V_drew)); exact Kd.V_mono HL229_6.out (fun _ hk => ⟨⟨hk.1.1.1, ⟨hk.1.1.2, hk.2⟩⟩, hk.1.2⟩)) hg hat); have n4_ := Aside0.mk (Kd.V_afterv (ok := (fun k_ => (P0_ k_ ∨ w.heap.size ≤ k_) ∧ some k_ ≠ (.slice Ao14 t234.length co14 : Value).ownBlock ∧ some k_ ≠ (.slice Ao17 t241.length co17 : Value).ownBlock)) (by (with_reducible repeat (first | apply Kd.V_alloc | apply Kd.V_drewN | apply Kd.V_drew)); exact Kd.V_mono HL229_7.out (fun _ hk => ⟨⟨hk.1.1.1, ⟨hk.1.1.2, hk.2⟩⟩, hk.1.2⟩)) hg hat); have n5_ := Aside0.mk (Kd.V_afterv (ok := (fun k_ => (P0_ k_ ∨ w.heap.size ≤ k_) ∧ some k_ ≠ (.slice Ao14 t234.length co14 : Value).ownBlock ∧ some k_ ≠ (.slice Ao17 t241.length co17 : Value).ownBlock)) (by (with_reducible repeat (first | apply Kd.V_alloc | apply Kd.V_drewN | apply Kd.V_drew)); exact Kd.V_mono HL233_4.out (fun _ hk => ⟨⟨hk.1.1.1, ⟨hk.1.1.2, hk.2⟩⟩, hk.1.2⟩)) hg hat); have n6_ := Aside0.mk (Kd.V_afterv (ok := (fun k_ => (P0_ k_ ∨ w.heap.size ≤ k_) ∧ some k_ ≠ (.slice Ao14 t234.length co14 : Value).ownBlock ∧ some k_ ≠ (.slice Ao17 t241.length co17 : Value).ownBlock)) (by (with_reducible repeat (first | apply Kd.V_alloc | apply Kd.V_drewN | apply Kd.V_drew)); exact Kd.V_mono HL233_5.out (fun _ hk => ⟨⟨hk.1.1.1, ⟨hk.1.1.2, hk.2⟩⟩, hk.1.2⟩)) hg hat); have n7_ := Aside0.mk (Kd.V_afterv (ok := (fun k_ => (P0_ k_ ∨ w.heap.size ≤ k_) ∧ some k_ ≠ (.slice Ao14 t234.length co14 : Value).ownBlock ∧ some k_ ≠ (.slice Ao17 t241.length co17 : Value).ownBlock)) (by (with_reducible repeat (first | apply Kd.V_alloc | apply Kd.V_drewN | apply Kd.V_drew)); exact Kd.V_mono HL233_6.out (fun _ hk => ⟨⟨hk.1.1.1, ⟨hk.1.1.2, hk.2⟩⟩, hk.1.2⟩)) hg hat); have n8_ := Aside0.mk (Kd.V_afterv (ok := (fun k_ => (P0_ k_ ∨ w.heap.size ≤ k_) ∧ some k_ ≠ (.slice Ao14 t234.length co14 : Value).ownBlock ∧ some k_ ≠ (.slice Ao17 t241.length co17 : Value).ownBlock)) (by (with_reducible repeat (first | apply Kd.V_alloc | apply Kd.V_drewN | apply Kd.V_drew)); exact Kd.V_mono HL233_7.out (fun _ hk => ⟨⟨hk.1.1.1, ⟨hk.1.1.2, hk.2⟩⟩, hk.1.2⟩)) hg hat); have n9_ := Aside0.mk (Kd.N_afterv (ok := (fun k_ => (P0_ k_ ∨ w.heap.size ≤ k_) ∧ some k_ ≠ (.slice Ao17 t241.length co17 : Value).ownBlock)) (by (with_reducible repeat (first | apply Kd.N_alloc | apply Kd.N_drewN | apply Kd.N_drew)); exact Kd.N_mono HO236.out (fun _ hk => ⟨⟨hk.1.1, hk.2⟩, hk.1.2⟩)) hg hat); have n10_ := Aside0.mk (Kd.V_afterv (ok := (fun k_ => (P0_ k_ ∨ w.heap.size ≤ k_) ∧ some k_ ≠ (.slice Ao14 t234.length co14 : Value).ownBlock ∧ some k_ ≠ (.slice Ao17 t241.length co17 : Value).ownBlock)) (by (with_reducible repeat (first | apply Kd.V_alloc | apply Kd.V_drewN | apply Kd.V_drew)); exact Kd.V_mono HL240_4.out (fun _ hk => ⟨⟨hk.1.1.1, ⟨hk.1.1.2, hk.2⟩⟩, hk.1.2⟩)) hg hat); have n11_ := Aside0.mk (Kd.V_afterv (ok := (fun k_ => (P0_ k_ ∨ w.heap.size ≤ k_) ∧ some k_ ≠ (.slice Ao14 t234.length co14 : Value).ownBlock ∧ some k_ ≠ (.slice Ao17 t241.length co17 : Value).ownBlock)) (by (with_reducible repeat (first | apply Kd.V_alloc | apply Kd.V_drewN | apply Kd.V_drew)); exact Kd.V_mono HL240_5.out (fun _ hk => ⟨⟨hk.1.1.1, ⟨hk.1.1.2, hk.2⟩⟩, hk.1.2⟩)) hg hat); have n12_ := Aside0.mk (Kd.V_afterv (ok := (fun k_ => (P0_ k_ ∨ w.heap.size ≤ k_) ∧ some k_ ≠ (.slice Ao14 t234.length co14 : Value).ownBlock ∧ some k_ ≠ (.slice Ao17 t241.length co17 : Value).ownBlock)) (by (with_reducible repeat (first | apply Kd.V_alloc | apply Kd.V_drewN | apply Kd.V_drew)); exact Kd.V_mono HL240_6.out (fun _ hk => ⟨⟨hk.1.1.1, ⟨hk.1.1.2, hk.2⟩⟩, hk.1.2⟩)) hg hat); have n13_ := Aside0.mk (Kd.V_afterv (ok := (fun k_ => (P0_ k_ ∨ w.heap.size ≤ k_) ∧ some k_ ≠ (.slice Ao14 t234.length co14 : Value).ownBlock ∧ some k_ ≠ (.slice Ao17 t241.length co17 : Value).ownBlock)) (by (with_reducible repeat (first | apply Kd.V_alloc | apply Kd.V_drewN | apply Kd.V_drew)); exact Kd.V_mono HL240_7.out (fun _ hk => ⟨⟨hk.1.1.1, ⟨hk.1.1.2, hk.2⟩⟩, hk.1.2⟩)) hg hat); have n14_ := Aside0.mk (Kd.N_afterv (ok := (fun k_ => (P0_ k_ ∨ w.heap.size ≤ k_) ∧ some k_ ≠ (.slice Ao14 t234.length co14 : Value).ownBlock)) (by (with_reducible repeat (first | apply Kd.N_alloc | apply Kd.N_drewN | apply Kd.N_drew)); exact Kd.N_mono HO243.out (fun _ hk => ⟨⟨hk.1, hk.2.1⟩, hk.2.2⟩)) hg hat); have n15_ := Aside0.mk (hb); have n16_ := Aside0.mk (ho); clear HO_0; clear HL229_4; clear HL229_5; clear HL229_6; clear HL229_7; clear HL233_4; clear HL233_5; clear HL233_6; clear HL233_7; clear HO236; clear HL240_4; clear HL240_5; clear HL240_6; clear HL240_7; clear HO243; clear HB; clear HO239; have HO_0 := n0_; have HL229_4 := n1_; have HL229_5 := n2_; have HL229_6 := n3_; have HL229_7 := n4_; have HL233_4 := n5_; have HL233_5 := n6_; have HL233_6 := n7_; have HL233_7 := n8_; have HO236 := n9_; have HL240_4 := n10_; have HL240_5 := n11_; have HL240_6 := n12_; have HL240_7 := n13_; have HO243 := n14_; have HB := n15_; have HO246 := n16_; clear n0_ n1_ n2_ n3_ n4_ n5_ n6_ n7_ n8_ n9_ n10_ n11_ n12_ n13_ n14_ n15_ n16_; clear ho hb hg hat))
        go_roundg k1
        case measure => have := HK1.out; omega
        case rel => exact ⟨(y244), (wrap64 (x4_1 + 1)), (by first | rfl | (simp; done) | (simp [*]; done)), H', ⟨by have := HK1.out; omega⟩, ⟨by (with_reducible repeat (first | apply Kd.V_alloc | apply Kd.V_drewN | apply Kd.V_drew)); exact Kd.V_mono HO_0.out (fun _ hk => ⟨hk.1.1, hk.2⟩)⟩, ⟨by (with_reducible repeat (first | apply Kd.N_alloc | apply Kd.N_drewN | apply Kd.N_drew)); exact HO246.out⟩, ⟨by repeat (first | (with_reducible first | exact HB.out | apply below_alloc | apply pw_below_drewN | apply below_drew1) | exact HB.out)⟩⟩
       ·rw [if_neg c10] at H
        exact absurd H (by simp)
      ·rw [if_neg c8] at H
       exact absurd H (by simp)
     ·rw [if_neg c6] at H
      exact absurd H (by simp)
    ·rw [if_neg c5] at H
     exact absurd H (by simp)
   ·rw [if_neg c4] at H
    have c4b0 : decide (x4_1 < (l0.length : Int)) = false := decide_eq_false c4
    clear c4
    obtain rfl := Option.some.inj H
    go_wp2
    go_ret
    exact ⟨_, by first | rfl | (simp [errW_none, errW_some] <;> rfl) | (simp [*, errW_none, errW_some] <;> rfl), by (with_reducible repeat (first | apply Kd.N_alloc | apply Kd.N_drewN | apply Kd.N_drew)); exact HO_3.out, by repeat (first | (with_reducible first | exact HB.out | apply below_alloc | apply pw_below_drewN | apply below_drew1) | exact HB.out)⟩
def r05_Fun.l0 : Nat → ByteArray → Int → List (S42) → Option (Int)
  | 0, _, _, _ => none
  | k + 1, x1, x5, x248000 => if x5 < (x248000.length : Int) then (if 0 ≤ x5 then (if ((rd_T42 x248000 x5).f0).toList = x1.toList then (some x5) else (r05_Fun.l0 k x1 (wrap64 (x5 + 1)) x248000)) else (none)) else (some (-1))
def r05_Fun.f (k : Nat) (l0_0 : List (S42)) (a1 : ByteArray) : Option (Int) := r05_Fun.l0 k a1 0 l0_0
set_option maxHeartbeats 8000000 in
set_option maxRecDepth 100000 in
theorem r05_Fun.calls (k : Nat) (A0_0 : Option Addr) (c0_0 : Nat) (l0_0 : List (S42)) (a1 : ByteArray) (r : Int) (w : World) (hr0_0 : Kd.C k42 w A0_0 l0_0.length l0_0) (hc0_0 : l0_0.length ≤ c0_0) (h : r05_Fun.f k l0_0 a1 = some r) :
    Calls Try.prog 41 #[.agg #[.slice A0_0 l0_0.length c0_0], .string a1] w fun e w' => e = .returned (.int .i64 r) ∧ Below w.heap.size w w' := by
 have hu24 := Try.underlying24
 have HR0_0 := Aside0.mk hr0_0
 have HC0_0 := Aside0.mk hc0_0
 clear hr0_0 hc0_0
 have HB := Aside0.mk (Below.refl w.heap.size w)
 have H : (r05_Fun.l0 k a1 0 l0_0) = some r := h
 clear h
 have H' := Aside0.mk H
 clear H
 go_enter Try.func41, Try.ntmps41
 go_wp2_with (first | ((with_reducible refine gate_dst (N := 2) rfl ?_); refine box_event ?hg (N := 2) ?hd (cs := #[.slice A0_0 l0_0.length c0_0]) (t := 24) ?hr ?_; (case hd => rfl); (case hg => rfl); (case hr => first | (go_simp; done) | (go_simp; rfl)); intro gb247 hg w3 hbox hb; have n0_ := Aside0.mk (below_step (by repeat (first | (with_reducible first | exact HB.out | apply below_alloc | apply pw_below_drewN | apply below_drew1) | exact HB.out)) hb); have n1_ := Aside0.mk (hbox); have n2_ := Aside0.mk ((by rw [hg]; exact (below_size (by repeat (first | (with_reducible first | exact HB.out | apply below_alloc | apply pw_below_drewN | apply below_drew1) | exact HB.out))) : w.heap.size ≤ gb247)); have n3_ := Aside0.mk ((by rw [hg]; exact (below_size (by repeat (first | (with_reducible first | exact HB.out | apply below_alloc | apply pw_below_drewN | apply below_drew1) | exact HB.out))) : w.heap.size ≤ gb247)); clear HB; have HB := n0_; have BK247 := n1_; have GW247 := n2_; have GE247 := n3_; clear n0_ n1_ n2_ n3_; clear hb hbox hg))
 go_loopg [5] k (fun kq v5 w' => ∃ (x5_1 : Int), v5 = .int .i64 x5_1 ∧ Aside0 (r05_Fun.l0 kq a1 x5_1 l0_0 = some r) ∧ Aside0 (kq ≤ k) ∧ Aside0 (w'.heap[gb247]? = some (.cells #[(.slice A0_0 l0_0.length c0_0)] 24 (0, 0))) ∧ Aside0 (Below w.heap.size w w'))
 case atStart => exact ⟨(0), (by first | rfl | (simp; done) | (simp [*]; done)), H', ⟨Nat.le_refl _⟩, ⟨by (with_reducible repeat (first | refine blk_drewN ?_ _ | refine blk_drew ?_ | refine blk_alloc ?_ _)); exact BK247.out⟩, ⟨by repeat (first | (with_reducible first | exact HB.out | apply below_alloc | apply pw_below_drewN | apply below_drew1 | refine below_set ?_ GE247.out) | exact HB.out)⟩⟩
 case round =>
  clear H'
  try clear p2
  obtain ⟨x5_1, rfl, HA, HK1, BK247, HB⟩ := hrel
  cases gk with
  | zero => exact absurd HA.out (by simp [r05_Fun.l0])
  | succ k1 =>
   have H := HA.out
   clear HA
   simp only [r05_Fun.l0] at H
   by_cases c4 : x5_1 < (l0_0.length : Int)
   ·rw [if_pos c4] at H
    have c4b0 : decide (x5_1 < (l0_0.length : Int)) = true := decide_eq_true c4
    clear c4
    by_cases c5 : 0 ≤ x5_1
    ·rw [if_pos c5] at H
     have c5b0 : decide (0 ≤ x5_1) = true := decide_eq_true c5
     clear c5
     by_cases c6 : ((rd_T42 l0_0 x5_1).f0).toList = a1.toList
     ·rw [if_pos c6] at H
      have c6b0 : (((rd_T42 l0_0 x5_1).f0).toList == a1.toList) = true := beq_iff_eq.mpr c6
      have c6b1 : (((rd_T42 l0_0 x5_1).f0).toList != a1.toList) = false := bne_eq_false_iff_eq.mpr c6
      clear c6
      obtain rfl := Option.some.inj H
      have hcz7_0 : wr.cell? ⟨gb247, 0, none⟩ = some (.slice A0_0 l0_0.length c0_0) := (blk_cell BK247.out 0).trans rfl
      have hfz7_0 := blk_frozen BK247.out 0
      have p248 : 0 ≤ (x5_1 : Int) := of_decide_eq_true (by first | (with_reducible assumption) | assumption)
      have q248 : x5_1 < (l0_0.length : Int) := of_decide_eq_true (by first | (with_reducible assumption) | assumption)
      obtain ⟨ad248, A248_1, c248_1, A248_2, c248_2, e248, hx248_0, hx248_1, hx248_2, hl248_1, hi248_1, hl248_2, hi248_2⟩ := at_T42 HR0_0.out x5_1 p248 q248
      cases e248
      replace hx248_0 := (HB.out.cell (World.block_lt_of_cell? w _ hx248_0)).trans hx248_0
      replace hx248_1 := (HB.out.cell (World.block_lt_of_cell? w _ hx248_1)).trans hx248_1
      replace hx248_2 := (HB.out.cell (World.block_lt_of_cell? w _ hx248_2)).trans hx248_2
      have HR248_1 := Aside0.mk hi248_1
      have HC248_1 := Aside0.mk hl248_1
      clear hi248_1 hl248_1
      have HR248_2 := Aside0.mk hi248_2
      have HC248_2 := Aside0.mk hl248_2
      clear hi248_2 hl248_2
      replace p248 := eq_true p248
      replace q248 := eq_true q248
      go_wp2
      go_ret
      exact ⟨by first | rfl | (simp [errW_none, errW_some] <;> rfl) | (simp [*, errW_none, errW_some] <;> rfl), by repeat (first | (with_reducible first | exact HB.out | apply below_alloc | apply pw_below_drewN | apply below_drew1 | refine below_set ?_ GE247.out) | exact HB.out)⟩
     ·rw [if_neg c6] at H
      have c6b0 : (((rd_T42 l0_0 x5_1).f0).toList == a1.toList) = false := beq_eq_false_iff_ne.mpr c6
      have c6b1 : (((rd_T42 l0_0 x5_1).f0).toList != a1.toList) = true := bne_iff_ne.mpr c6
      have H' := Aside0.mk H
      clear H
      have hcz8_0 : wr.cell? ⟨gb247, 0, none⟩ = some (.slice A0_0 l0_0.length c0_0) := (blk_cell BK247.out 0).trans rfl
      have hfz8_0 := blk_frozen BK247.out 0
      have p248 : 0 ≤ (x5_1 : Int) := of_decide_eq_true (by first | (with_reducible assumption) | assumption)
      have q248 : x5_1 < (l0_0.length : Int) := of_decide_eq_true (by first | (with_reducible assumption) | assumption)
      obtain ⟨ad248, A248_1, c248_1, A248_2, c248_2, e248, hx248_0, hx248_1, hx248_2, hl248_1, hi248_1, hl248_2, hi248_2⟩ := at_T42 HR0_0.out x5_1 p248 q248
      cases e248
      replace hx248_0 := (HB.out.cell (World.block_lt_of_cell? w _ hx248_0)).trans hx248_0
      replace hx248_1 := (HB.out.cell (World.block_lt_of_cell? w _ hx248_1)).trans hx248_1
      replace hx248_2 := (HB.out.cell (World.block_lt_of_cell? w _ hx248_2)).trans hx248_2
      have HR248_1 := Aside0.mk hi248_1
      have HC248_1 := Aside0.mk hl248_1
      clear hi248_1 hl248_1
      have HR248_2 := Aside0.mk hi248_2
      have HC248_2 := Aside0.mk hl248_2
      clear hi248_2 hl248_2
      replace p248 := eq_true p248
      replace q248 := eq_true q248
      go_wp2
      go_roundg k1
      case measure => have := HK1.out; omega
      case rel => exact ⟨(wrap64 (x5_1 + 1)), (by first | rfl | (simp; done) | (simp [*]; done)), H', ⟨by have := HK1.out; omega⟩, ⟨by (with_reducible repeat (first | refine blk_drewN ?_ _ | refine blk_drew ?_ | refine blk_alloc ?_ _)); exact BK247.out⟩, ⟨by repeat (first | (with_reducible first | exact HB.out | apply below_alloc | apply pw_below_drewN | apply below_drew1 | refine below_set ?_ GE247.out) | exact HB.out)⟩⟩
    ·rw [if_neg c5] at H
     exact absurd H (by simp)
   ·rw [if_neg c4] at H
    have c4b0 : decide (x5_1 < (l0_0.length : Int)) = false := decide_eq_false c4
    clear c4
    obtain rfl := Option.some.inj H
    have hcz9_0 : wr.cell? ⟨gb247, 0, none⟩ = some (.slice A0_0 l0_0.length c0_0) := (blk_cell BK247.out 0).trans rfl
    have hfz9_0 := blk_frozen BK247.out 0
    go_wp2
    go_ret
    exact ⟨by first | rfl | (simp [errW_none, errW_some] <;> rfl) | (simp [*, errW_none, errW_some] <;> rfl), by repeat (first | (with_reducible first | exact HB.out | apply below_alloc | apply pw_below_drewN | apply below_drew1 | refine below_set ?_ GE247.out) | exact HB.out)⟩
end Go.Proofs.Ytdbngbmokgeeiaa.Pr

namespace Go.Proofs.Ytdbngbmokgeeiaa.Man
open Go.RowKit Go.Proofs.Ytdbngbmokgeeiaa.Pr Go.Proofs.YtdbngbmokgeeiaaW.PrintWords
attribute [local go_sem] Oper.semAt_some
set_option linter.unusedVariables false
set_option linter.unusedSimpArgs false
theorem infoB : (Try.prog.info? 4).map (fun i => (i.zero, i.size, i.bytes)) = some (some (.bool false), 1, 1) := by kernel_rfl
theorem info3 : (Try.prog.info? 3).map (fun i => (i.zero, i.size, i.bytes)) = some (some (.int .i64 0), 1, 8) := by kernel_rfl
theorem sizeB1 : (Try.prog.info? 60).map (·.size) = some 1 := by kernel_rfl
theorem sizeFN : (Try.prog.info? 61).map (·.size) = some 1 := by kernel_rfl
theorem OnlyRow.below {w W w' : World} {gs : Nat} (h : OnlyRow W w' gs) (hB : Below w.heap.size w W) (hg : w.heap.size ≤ gs) : Below w.heap.size w w' :=
  hB.trans ⟨h.os, h.tape, h.output, by rw [h.size]; exact Nat.le_refl _, fun k hk => h.far k (by omega)⟩
def pick (s : List Bool) (j : Nat) : List Int := ((List.range j).filter (fun v => s.getD v false)).map Int.ofNat
theorem pick_on {s : List Bool} {j : Nat} (h : s[j]? = some true) : pick s (j + 1) = pick s j ++ [(j : Int)] := by
  unfold pick
  rw [List.range_succ, List.filter_append, List.map_append]
  simp [List.getD_eq_getElem?_getD, h]
theorem pick_off {s : List Bool} {j : Nat} (h : s[j]? = some false) : pick s (j + 1) = pick s j := by
  unfold pick
  rw [List.range_succ, List.filter_append, List.map_append]
  simp [List.getD_eq_getElem?_getD, h]
open Classical in
noncomputable def reachL (g : List (List Int)) (n : Nat) : List Int := ((List.range g.length).filter (fun v => decide (Rch g n v))).map Int.ofNat
theorem reach_pick {g : List (List Int)} {n : Nat} {s' : List Bool} (hv : VisitR g (List.replicate g.length false) n s') : pick s' g.length = reachL g n := by
  have hoff : ∀ v, ¬ On (List.replicate g.length false) v := by
    intro v h
    unfold On at h
    rw [List.getElem?_replicate] at h
    split at h <;> simp at h
  have hon : ∀ v, On s' v ↔ Rch g n v := by
    intro v
    constructor
    · intro h; exact (hv.clos v h (hoff v)).2
    · intro h
      induction h with
      | refl => exact hv.self
      | step _ hm ih => exact (hv.clos _ ih (hoff _)).1 _ hm
  unfold pick reachL
  congr 1
  apply List.filter_congr
  intro v hv'
  have := hon v
  unfold On at this
  rw [List.getD_eq_getElem?_getD]
  cases hs : s'[v]? with
  | none => rw [hs] at this; simp at this; simp [this]
  | some b => rw [hs] at this; cases b <;> simp at this <;> simp [this]
set_option maxRecDepth 100000 in
set_option maxHeartbeats 16000000 in
theorem reach_in (k : Nat) (g : List (List Int)) (A : Option Addr) (c : Nat) (n : Nat) (w : World) (hc : g.length ≤ c) (hC : Kd.C (Kd.slice 3 (Kd.int .i64)) w A g.length g) (hm : graph_May.f k g = some true) (hN : g.length ≤ 1000) (hn : n < g.length) (hg : ∀ v, v < g.length → ∀ m ∈ g.getD v [], 0 ≤ m ∧ m < g.length) :
    Calls Try.prog 17 #[.slice A g.length c, .int .i64 n] w fun e w' => ∃ v, e = .returned v ∧ Kd.R (Kd.int .i64) 3 w' w.heap.size (fun _ => True) v (reachL g n) ∧ Below w.heap.size w w' := by
  have HB := Lib.hid (Below.refl w.heap.size w)
  have K0 := Lib.hid hC
  clear hC
  have HG := Lib.hid hg
  clear hg
  go_enter Try.func17, Try.ntmps17
  go_wp2_with (first
    | ((with_reducible refine gate_dst (N := 2) rfl ?_); refine box_event ?hg (N := 2) ?hd (cs := #[.slice A g.length c]) (t := 27) ?hr ?_; (case hd => rfl); (case hg => rfl); (case hr => first | (go_simp; done) | (go_simp; rfl)); intro g2 hg w1 hx hb; have G2 := Lib.hid (show w.heap.size ≤ g2 by rw [hg]; exact HB.out.size); have HB := Lib.hid (below_step HB.out hb); have B2 := Lib.hid (One.mk hx); clear hx hb hg; obtain ⟨c2_0, _⟩ := B2.out.c; obtain ⟨f2_0, _⟩ := B2.out.f)
    | (go_at_call 13; with_reducible refine (graph_May.calls k A c g true _ (Kd.C_below K0.out HB.out) hc hm).mono ?_; rintro x w1 ⟨rfl, hd⟩; have hb := hd.below; clear hd; clear c2_0 f2_0; have B2 := Lib.hid (B2.out.below hb); have HB := Lib.hid (below_step HB.out hb); clear hb; obtain ⟨c2_0, _⟩ := B2.out.c; obtain ⟨f2_0, _⟩ := B2.out.f)
    | ((with_reducible refine gate_dst (N := 25) rfl ?_); refine mk_event rfl (N := 25) rfl 60 (.tmp 24) (.tmp 24) rfl (g.length) rfl rfl Try.underlying60 infoB (by omega) ?_; intro g25 hg w1 hx hb; clear c2_0 f2_0; have N2_25 := Lib.hid (ne_of_blk B2.out.b hg); have G25 := Lib.hid (show w.heap.size ≤ g25 by rw [hg]; exact HB.out.size); have B2 := Lib.hid (B2.out.below hb); have HB := Lib.hid (below_step HB.out hb); have B25 := Lib.hid (RowB.mk hx); clear hx hb hg; obtain ⟨c2_0, _⟩ := B2.out.c; obtain ⟨f2_0, _⟩ := B2.out.f)
    | ((with_reducible refine gate_dst (N := 5) rfl ?_); refine box_event ?hg (N := 5) ?hd (cs := #[.slice none 0 0]) (t := 60) ?hr ?_; (case hd => rfl); (case hg => rfl); (case hr => first | (go_simp; done) | (go_simp; rfl)); intro g5 hg w1 hx hb; clear c2_0 f2_0; have N2_5 := Lib.hid (ne_of_blk B2.out.b hg); have N25_5 := Lib.hid (ne_of_blk B25.out.b hg); have G5 := Lib.hid (show w.heap.size ≤ g5 by rw [hg]; exact HB.out.size); have B2 := Lib.hid (B2.out.below hb); have B25 := Lib.hid (B25.out.below hb); have HB := Lib.hid (below_step HB.out hb); have B5 := Lib.hid (One.mk hx); clear hx hb hg; obtain ⟨c2_0, _⟩ := B2.out.c; obtain ⟨f2_0, _⟩ := B2.out.f; obtain ⟨c5_0, _⟩ := B5.out.c; obtain ⟨f5_0, _⟩ := B5.out.f)
    | ((with_reducible refine gate_store (t := 60) (p := 5) rfl ?_); refine st_event rfl rfl rfl [.slice (some ⟨g25, 0, none⟩) g.length g.length] B5.out.b rfl ?hv sizeB1 rfl ?h1 ?_; (case hv => rfl); (case h1 => (intro q hq; simp only [List.mem_cons, List.not_mem_nil, or_false] at hq; rcases hq with rfl <;> rfl)); intro w1 hx hp; clear c2_0 f2_0 c5_0 f5_0; have B2 := Lib.hid (B2.out.far' hp (N2_5.out)); have B25 := Lib.hid (B25.out.far' hp (N25_5.out)); have HB := Lib.hid (hp.below _ G5.out HB.out); have B5 := Lib.hid (One.mk hx); clear hx hp; obtain ⟨c2_0, _⟩ := B2.out.c; obtain ⟨f2_0, _⟩ := B2.out.f; obtain ⟨c5_0, _⟩ := B5.out.c; obtain ⟨f5_0, _⟩ := B5.out.f)
    | ((with_reducible refine gate_dst (N := 6) rfl ?_); refine box_event ?hg (N := 6) ?hd (cs := #[.nilFunc]) (t := 61) ?hr ?_; (case hd => rfl); (case hg => rfl); (case hr => first | (go_simp; done) | (go_simp; rfl)); intro g6 hg w1 hx hb; clear c2_0 f2_0 c5_0 f5_0; have N2_6 := Lib.hid (ne_of_blk B2.out.b hg); have N25_6 := Lib.hid (ne_of_blk B25.out.b hg); have N5_6 := Lib.hid (ne_of_blk B5.out.b hg); have G6 := Lib.hid (show w.heap.size ≤ g6 by rw [hg]; exact HB.out.size); have B2 := Lib.hid (B2.out.below hb); have B25 := Lib.hid (B25.out.below hb); have B5 := Lib.hid (B5.out.below hb); have HB := Lib.hid (below_step HB.out hb); have B6 := Lib.hid (One.mk hx); clear hx hb hg; obtain ⟨c2_0, _⟩ := B2.out.c; obtain ⟨f2_0, _⟩ := B2.out.f; obtain ⟨c5_0, _⟩ := B5.out.c; obtain ⟨f5_0, _⟩ := B5.out.f; obtain ⟨c6_0, _⟩ := B6.out.c; obtain ⟨f6_0, _⟩ := B6.out.f)
    | ((with_reducible refine gate_store (t := 61) (p := 6) rfl ?_); refine st_event rfl rfl rfl [.func (.func 31) #[] #[.pointer (some ⟨g5, 0, none⟩), .pointer (some ⟨g2, 0, none⟩), .pointer (some ⟨g6, 0, none⟩)]] B6.out.b rfl ?hv sizeFN rfl ?h1 ?_; (case hv => rfl); (case h1 => (intro q hq; simp only [List.mem_cons, List.not_mem_nil, or_false] at hq; rcases hq with rfl <;> rfl)); intro w1 hx hp; clear c2_0 f2_0 c5_0 f5_0 c6_0 f6_0; have B2 := Lib.hid (B2.out.far' hp (N2_6.out)); have B25 := Lib.hid (B25.out.far' hp (N25_6.out)); have B5 := Lib.hid (B5.out.far' hp (N5_6.out)); have HB := Lib.hid (hp.below _ G6.out HB.out); have B6 := Lib.hid (One.mk hx); clear hx hp; obtain ⟨c2_0, _⟩ := B2.out.c; obtain ⟨f2_0, _⟩ := B2.out.f; obtain ⟨c5_0, _⟩ := B5.out.c; obtain ⟨f5_0, _⟩ := B5.out.f; obtain ⟨c6_0, _⟩ := B6.out.c; obtain ⟨f6_0, _⟩ := B6.out.f)
    | (go_at_call 31; with_reducible refine (visit_in g A c w.heap.size g25 g5 g2 g6 G25.out (Ne.symm N25_5.out) N2_25.out (Ne.symm N25_6.out) hN HG.out _ (List.replicate g.length false) (Nat.le_refl _) (by simp) n hn w1 B5.out.b B2.out.b B6.out.b B25.out.b (Kd.F_below (Kd.C_F (Kd.heap_slice 3 (Kd.heap_int .i64)) K0.out) HB.out)).mono ?_; rintro x w2 ⟨s', rfl, hv, ht, ho⟩; clear c2_0 f2_0 c5_0 f5_0 c6_0 f6_0; have HV := Lib.hid hv; have HT := Lib.hid ht; have HB := Lib.hid (ho.below HB.out G25.out); have c5_0 := (blk_cell ((ho.far g5 (Ne.symm N25_5.out)).trans B5.out.b) 0).trans (show _ = some (Value.slice (some ⟨g25, 0, none⟩) g.length g.length) from rfl); clear hv ht ho))
  go_loopg [32, 7, 8, 9] g.length (fun kq v32 v7 v8 v9 w' => ∃ (j : Nat) (out : List Int), j + kq = g.length ∧ v32 = .int .i64 j ∧ out.length ≤ j ∧ Hid (out = pick s' j) ∧ Hid (Kd.R (Kd.int .i64) 3 w' w.heap.size (fun _ => True) v7 out) ∧ Hid (w'.heap[g25]? = some (.cells (bools s') 4 (0, 0))) ∧ Hid (Below w.heap.size w w'))
  case atStart => exact ⟨0, [], by omega, rfl, Nat.le_refl _, Lib.hid (by simp [pick]), Lib.hid (Kd.R_nil _ _ _ _ _), HT, HB⟩
  case round =>
    obtain ⟨j, out, hj, rfl, hle, HO, HR, HT, HB⟩ := hrel
    have HL := Lib.hid HV.out.len
    by_cases hlt : j < g.length
    · obtain ⟨b, hsb⟩ : ∃ b, s'[j]? = some b := ⟨_, List.getElem?_eq_getElem (by have := HL.out; simp at this; omega)⟩
      have es := (blk_cell HT.out j).trans (show _ = some (Value.bool b) by simp [bools, hsb])
      have SB := Lib.hid hsb
      clear hsb
      have hw := wz j (by omega)
      have LM := Lib.hid (show (out.length + 1) * 8 ≤ 140737488355328 by omega)
      obtain ⟨k1, rfl⟩ : ∃ k1, gk = k1 + 1 := ⟨gk - 1, by omega⟩
      cases b with
      | true =>
        go_wp2_with ((with_reducible refine gate_builtin (b := .append) (xs := #[.tmp 38, .tmp 40]) rfl ?_); at_builtin; refine Kd.R_append (Kd.int .i64) w.heap.size rfl (.tmp 38) (.tmp 40) 32 3 (.int .i64 0) 8 rfl Try.underlying32 info3 rfl (by decide) (by omega) u7 out (j : Int) [.int .i64 j] (fun _ => True) (fun _ => False) rfl rfl rfl (fun _ h => h.elim) (fun _ _ => trivial) HR.out HB.out HB.out.size LM.out ?_; intro v41 w2 ho hb hg hat; have HT := Lib.hid (blk_grown HT.out hg (Kd.R_ne HR.out HT.out (by decide))); have HR2 := Lib.hid ho; have HB := Lib.hid hb; clear ho hb hg hat)
        go_roundg k1
        case measure => exact Nat.lt_succ_self _
        case rel => exact ⟨j + 1, out ++ [(j : Int)], by rw [Nat.add_assoc, Nat.add_comm 1]; exact hj, by simp, by simpa using hle, Lib.hid (by rw [pick_on SB.out, ← HO.out]), HR2, HT, HB⟩
      | false =>
        go_wp2
        go_roundg k1
        case measure => exact Nat.lt_succ_self _
        case rel => exact ⟨j + 1, out, by rw [Nat.add_assoc, Nat.add_comm 1]; exact hj, by simp, Nat.le_succ_of_le hle, Lib.hid (by rw [pick_off SB.out, ← HO.out]), HR, HT, HB⟩
    · have hje : j = g.length := by omega
      have hfin := Lib.hid (show out = reachL g n by rw [HO.out, hje]; exact reach_pick HV.out)
      go_wp2
      go_ret
      exact ⟨_, rfl, by rw [← hfin.out]; exact HR.out, HB.out⟩
end Go.Proofs.Ytdbngbmokgeeiaa.Man

namespace Go.Proofs.Ytdbngbmokgeeiaa.Man
open Go.RowKit Go.Proofs.Ytdbngbmokgeeiaa.Pr Go.Proofs.YtdbngbmokgeeiaaW.PrintWords
set_option linter.unusedVariables false
set_option linter.unusedSimpArgs false
def Ev {α : Type} (f : Nat → Option α) (r : α) : Prop := ∃ k, ∀ k', k ≤ k' → f k' = some r
theorem Ev.const {α : Type} (r : α) : Ev (fun _ => some r) r := ⟨0, fun _ _ => rfl⟩
theorem Ev.bind {α β : Type} {f : Nat → Option α} {g : Nat → α → Option β} {a : α} {b : β} (h : Ev f a) (h2 : Ev (fun k => g k a) b) : Ev (fun k => (f k).bind (g k)) b := by
  obtain ⟨k1, e1⟩ := h
  obtain ⟨k2, e2⟩ := h2
  exact ⟨max k1 k2, fun k' hk => by show (f k').bind (g k') = some b; rw [e1 k' (by omega)]; exact e2 k' (by omega)⟩
theorem Ev.succ {α : Type} {f g : Nat → Option α} {r : α} (h : Ev g r) (hs : ∀ k, f (k + 1) = g k) : Ev f r := by
  obtain ⟨k, e⟩ := h
  exact ⟨k + 1, fun k' hk => by obtain ⟨j, rfl⟩ : ∃ j, k' = j + 1 := ⟨k' - 1, by omega⟩; rw [hs]; exact e j (by omega)⟩
theorem Ev.step {α : Type} {f : Nat → Option α} {r : α} (h : Ev (fun k => f (k + 1)) r) : Ev f r := h.succ (fun _ => rfl)
theorem pz (n : Nat) (h : n ≤ 1000000) : wrap64 ((n : Int) + 1) = ((n + 1 : Nat) : Int) := by simp only [wrap64]; omega
theorem pm (n : Nat) (h : n ≤ 1000000) : wrap64 (((n + 1 : Nat) : Int) - 1) = (n : Int) := by simp only [wrap64]; omega
def Sm (g : List (List Int)) : Prop := g.length ≤ 1000000 ∧ ∀ i : Nat, (g.getD i []).length ≤ 1000000
def okAt (N : Nat) (r : List Int) (j : Nat) : Bool := !(decide (rd r (j : Int) < 0)) && (!(decide (rd r (j : Int) ≥ (N : Int))) && (decide (j = 0) || !(decide (rd r (((j - 1 : Nat)) : Int) ≥ rd r (j : Int)))))
def rowTail (N : Nat) (r : List Int) : Nat → Nat → Bool
  | 0, _ => true
  | m + 1, j => okAt N r j && rowTail N r m (j + 1)
def allTail (g : List (List Int)) : Nat → Nat → Bool
  | 0, _ => decide ((g.length : Int) ≤ 1000)
  | m + 1, i => rowTail g.length (g.getD i []) (g.getD i []).length 0 && allTail g m (i + 1)
def mayB (g : List (List Int)) : Bool := allTail g g.length 0
theorem rd9 (g : List (List Int)) (i : Nat) : rd_L9 g (i : Int) = g.getD i [] := rfl
theorem rmay_row (g : List (List Int)) (hs : Sm g) (i : Nat) (hi : i < g.length) (b : Bool) (h : Ev (fun k => r12_May.l0 k g ((i + 1 : Nat) : Int)) b) :
    ∀ m j : Nat, j + m = (g.getD i []).length → Ev (fun k => r12_May.l1 k g (i : Int) (j : Int)) (rowTail g.length (g.getD i []) m j && b) := by
  have hr := hs.2 i
  have hn := hs.1
  have c1 : 0 ≤ (i : Int) := Int.natCast_nonneg i
  have c2 : (i : Int) < (g.length : Int) := Int.ofNat_lt.2 hi
  intro m
  induction m with
  | zero =>
    intro j hj
    refine Ev.step ?_
    have c3 : ¬ (j : Int) < ((g.getD i []).length : Int) := by omega
    simp only [r12_May.l1, if_pos c1, if_pos c2, rd9, if_neg c3, pz i (by omega), rowTail, Bool.true_and]
    exact h
  | succ m ih =>
    intro j hj
    have e := ih (j + 1) (by omega)
    refine Ev.step ?_
    have c3 : (j : Int) < ((g.getD i []).length : Int) := by omega
    have c4 : 0 ≤ (j : Int) := Int.natCast_nonneg j
    simp only [r12_May.l1, if_pos c1, if_pos c2, rd9, if_pos c3, if_pos c4, pz j (by omega), rowTail, okAt]
    by_cases d1 : rd (g.getD i []) (j : Int) < 0
    · simp only [if_pos d1, decide_eq_true d1, Bool.not_true, Bool.false_and]; exact Ev.const _
    · by_cases d2 : rd (g.getD i []) (j : Int) ≥ (g.length : Int)
      · simp only [if_neg d1, decide_eq_false d1, if_pos d2, decide_eq_true d2, Bool.not_true, Bool.not_false, Bool.false_and, Bool.and_false]; exact Ev.const _
      · cases j with
        | zero =>
          simp only [if_neg d1, decide_eq_false d1, if_neg d2, decide_eq_false d2, Bool.not_false, Bool.true_and, if_neg (show ¬ ((0 : Nat) : Int) > 0 by decide), decide_true, Bool.true_or]
          exact e
        | succ j' =>
          have c5 : (((j' + 1 : Nat)) : Int) > 0 := by omega
          have c6 : 0 ≤ ((j' : Nat) : Int) := Int.natCast_nonneg j'
          have c7 : ((j' : Nat) : Int) < ((g.getD i []).length : Int) := by omega
          simp only [if_neg d1, decide_eq_false d1, if_neg d2, decide_eq_false d2, Bool.not_false, Bool.true_and, if_pos c5, pm j' (by omega), if_pos c6, if_pos c7, Nat.add_sub_cancel, decide_eq_false (show ¬ j' + 1 = 0 by omega), Bool.false_or]
          by_cases d3 : rd (g.getD i []) (j' : Int) ≥ rd (g.getD i []) (((j' + 1 : Nat)) : Int)
          · simp only [if_pos d3, decide_eq_true d3, Bool.not_true, Bool.false_and]; exact Ev.const _
          · simp only [if_neg d3, decide_eq_false d3, Bool.not_false, Bool.true_and]; exact e
theorem rmay_ev (g : List (List Int)) (hs : Sm g) : Ev (fun k => r12_May.f k g) (mayB g) := by
  have main : ∀ m i : Nat, i + m = g.length → Ev (fun k => r12_May.l0 k g (i : Int)) (allTail g m i) := by
    intro m
    induction m with
    | zero =>
      intro i hi
      refine Ev.step ?_
      have c : ¬ (i : Int) < (g.length : Int) := by omega
      simp only [r12_May.l0, if_neg c, allTail]
      exact Ev.const _
    | succ m ih =>
      intro i hi
      refine Ev.step ?_
      have c : (i : Int) < (g.length : Int) := by omega
      simp only [r12_May.l0, if_pos c, allTail]
      exact rmay_row g hs i (by omega) _ (ih (i + 1) (by omega)) _ 0 (by omega)
  exact main g.length 0 (by omega)
theorem gmay_row (g : List (List Int)) (hs : Sm g) (i : Nat) (hi : i < g.length) (b : Bool) (h : Ev (fun k => graph_May.l0 k g g (g.length : Int) ((i + 1 : Nat) : Int)) b) :
    ∀ m j : Nat, j + m = (g.getD i []).length → Ev (fun k => graph_May.l1 k g (g.getD i []) g (g.length : Int) (i : Int) (g.getD i []) ((g.getD i []).length : Int) (j : Int)) (rowTail g.length (g.getD i []) m j && b) := by
  have hr := hs.2 i
  have hn := hs.1
  intro m
  induction m with
  | zero =>
    intro j hj
    refine Ev.step ?_
    have c3 : ¬ (j : Int) < ((g.getD i []).length : Int) := by omega
    simp only [graph_May.l1, if_neg c3, pz i (by omega), rowTail, Bool.true_and]
    exact h
  | succ m ih =>
    intro j hj
    have e := ih (j + 1) (by omega)
    refine Ev.step ?_
    have c3 : (j : Int) < ((g.getD i []).length : Int) := by omega
    have c4 : 0 ≤ (j : Int) := Int.natCast_nonneg j
    simp only [graph_May.l1, if_pos c3, if_pos c4, pz j (by omega), rowTail, okAt]
    by_cases d1 : rd (g.getD i []) (j : Int) < 0
    · simp only [if_pos d1, decide_eq_true d1, Bool.not_true, Bool.false_and]; exact Ev.const _
    · by_cases d2 : rd (g.getD i []) (j : Int) ≥ (g.length : Int)
      · simp only [if_neg d1, decide_eq_false d1, if_pos d2, decide_eq_true d2, Bool.not_true, Bool.not_false, Bool.false_and, Bool.and_false]; exact Ev.const _
      · cases j with
        | zero =>
          simp only [if_neg d1, decide_eq_false d1, if_neg d2, decide_eq_false d2, Bool.not_false, Bool.true_and, if_neg (show ¬ ((0 : Nat) : Int) > 0 by decide), decide_true, Bool.true_or]
          exact e
        | succ j' =>
          have c5 : (((j' + 1 : Nat)) : Int) > 0 := by omega
          have c6 : 0 ≤ ((j' : Nat) : Int) := Int.natCast_nonneg j'
          have c7 : ((j' : Nat) : Int) < ((g.getD i []).length : Int) := by omega
          simp only [if_neg d1, decide_eq_false d1, if_neg d2, decide_eq_false d2, Bool.not_false, Bool.true_and, if_pos c5, pm j' (by omega), if_pos c6, if_pos c7, Nat.add_sub_cancel, decide_eq_false (show ¬ j' + 1 = 0 by omega), Bool.false_or]
          by_cases d3 : rd (g.getD i []) (j' : Int) ≥ rd (g.getD i []) (((j' + 1 : Nat)) : Int)
          · simp only [if_pos d3, decide_eq_true d3, Bool.not_true, Bool.false_and]; exact Ev.const _
          · simp only [if_neg d3, decide_eq_false d3, Bool.not_false, Bool.true_and]; exact e
theorem gmay_ev (g : List (List Int)) (hs : Sm g) : Ev (fun k => graph_May.f k g) (mayB g) := by
  have main : ∀ m i : Nat, i + m = g.length → Ev (fun k => graph_May.l0 k g g (g.length : Int) (i : Int)) (allTail g m i) := by
    intro m
    induction m with
    | zero =>
      intro i hi
      refine Ev.step ?_
      have c : ¬ (i : Int) < (g.length : Int) := by omega
      simp only [graph_May.l0, if_neg c, allTail]
      exact Ev.const _
    | succ m ih =>
      intro i hi
      refine Ev.step ?_
      have c : (i : Int) < (g.length : Int) := by omega
      have c0 : 0 ≤ (i : Int) := Int.natCast_nonneg i
      simp only [graph_May.l0, if_pos c, if_pos c0, rd9, allTail]
      exact gmay_row g hs i (by omega) _ (ih (i + 1) (by omega)) _ 0 (by omega)
  exact main g.length 0 (by omega)
end Go.Proofs.Ytdbngbmokgeeiaa.Man

namespace Go.Proofs.Ytdbngbmokgeeiaa.Man
open Go.RowKit Go.Proofs.Ytdbngbmokgeeiaa.Pr Go.Proofs.YtdbngbmokgeeiaaW.PrintWords
attribute [local go_sem] Oper.semAt_some
set_option linter.unusedVariables false
set_option linter.unusedSimpArgs false
set_option maxRecDepth 100000 in
set_option maxHeartbeats 8000000 in
theorem reach_no (k : Nat) (g : List (List Int)) (A : Option Addr) (c : Nat) (n : Int) (w : World) (hc : g.length ≤ c) (hC : Kd.C (Kd.slice 3 (Kd.int .i64)) w A g.length g) (hm : graph_May.f k g = some false)  :
    Calls Try.prog 17 #[.slice A g.length c, .int .i64 n] w fun e w' => e = .returned (.slice none 0 0) ∧ Below w.heap.size w w' := by
  have HB := Lib.hid (Below.refl w.heap.size w)
  have K0 := Lib.hid hC
  clear hC
  go_enter Try.func17, Try.ntmps17
  go_wp2_with (first
    | ((with_reducible refine gate_dst (N := 2) rfl ?_); refine box_event ?hg (N := 2) ?hd (cs := #[.slice A g.length c]) (t := 27) ?hr ?_; (case hd => rfl); (case hg => rfl); (case hr => first | (go_simp; done) | (go_simp; rfl)); intro g2 hg w1 hx hb; have G2 := Lib.hid (show w.heap.size ≤ g2 by rw [hg]; exact HB.out.size); have HB := Lib.hid (below_step HB.out hb); have B2 := Lib.hid (One.mk hx); clear hx hb hg; obtain ⟨c2_0, _⟩ := B2.out.c; obtain ⟨f2_0, _⟩ := B2.out.f)
    | (go_at_call 13; with_reducible refine (graph_May.calls k A c g false _ (Kd.C_below K0.out HB.out) hc hm).mono ?_; rintro x w1 ⟨rfl, hd⟩; have hb := hd.below; clear hd; clear c2_0 f2_0; have B2 := Lib.hid (B2.out.below hb); have HB := Lib.hid (below_step HB.out hb); clear hb; obtain ⟨c2_0, _⟩ := B2.out.c; obtain ⟨f2_0, _⟩ := B2.out.f))
  go_ret
  exact ⟨rfl, HB.out⟩
set_option maxRecDepth 100000 in
set_option maxHeartbeats 8000000 in
theorem reach_low (k : Nat) (g : List (List Int)) (A : Option Addr) (c : Nat) (n : Int) (w : World) (hc : g.length ≤ c) (hC : Kd.C (Kd.slice 3 (Kd.int .i64)) w A g.length g) (hm : graph_May.f k g = some true) (hn : n < 0) :
    Calls Try.prog 17 #[.slice A g.length c, .int .i64 n] w fun e w' => e = .returned (.slice none 0 0) ∧ Below w.heap.size w w' := by
  have HB := Lib.hid (Below.refl w.heap.size w)
  have K0 := Lib.hid hC
  clear hC
  go_enter Try.func17, Try.ntmps17
  go_wp2_with (first
    | ((with_reducible refine gate_dst (N := 2) rfl ?_); refine box_event ?hg (N := 2) ?hd (cs := #[.slice A g.length c]) (t := 27) ?hr ?_; (case hd => rfl); (case hg => rfl); (case hr => first | (go_simp; done) | (go_simp; rfl)); intro g2 hg w1 hx hb; have G2 := Lib.hid (show w.heap.size ≤ g2 by rw [hg]; exact HB.out.size); have HB := Lib.hid (below_step HB.out hb); have B2 := Lib.hid (One.mk hx); clear hx hb hg; obtain ⟨c2_0, _⟩ := B2.out.c; obtain ⟨f2_0, _⟩ := B2.out.f)
    | (go_at_call 13; with_reducible refine (graph_May.calls k A c g true _ (Kd.C_below K0.out HB.out) hc hm).mono ?_; rintro x w1 ⟨rfl, hd⟩; have hb := hd.below; clear hd; clear c2_0 f2_0; have B2 := Lib.hid (B2.out.below hb); have HB := Lib.hid (below_step HB.out hb); clear hb; obtain ⟨c2_0, _⟩ := B2.out.c; obtain ⟨f2_0, _⟩ := B2.out.f))
  go_ret
  exact ⟨rfl, HB.out⟩
set_option maxRecDepth 100000 in
set_option maxHeartbeats 8000000 in
theorem reach_high (k : Nat) (g : List (List Int)) (A : Option Addr) (c : Nat) (n : Int) (w : World) (hc : g.length ≤ c) (hC : Kd.C (Kd.slice 3 (Kd.int .i64)) w A g.length g) (hm : graph_May.f k g = some true) (hn0 : ¬ n < 0) (hn : (g.length : Int) ≤ n) :
    Calls Try.prog 17 #[.slice A g.length c, .int .i64 n] w fun e w' => e = .returned (.slice none 0 0) ∧ Below w.heap.size w w' := by
  have HB := Lib.hid (Below.refl w.heap.size w)
  have K0 := Lib.hid hC
  clear hC
  go_enter Try.func17, Try.ntmps17
  go_wp2_with (first
    | ((with_reducible refine gate_dst (N := 2) rfl ?_); refine box_event ?hg (N := 2) ?hd (cs := #[.slice A g.length c]) (t := 27) ?hr ?_; (case hd => rfl); (case hg => rfl); (case hr => first | (go_simp; done) | (go_simp; rfl)); intro g2 hg w1 hx hb; have G2 := Lib.hid (show w.heap.size ≤ g2 by rw [hg]; exact HB.out.size); have HB := Lib.hid (below_step HB.out hb); have B2 := Lib.hid (One.mk hx); clear hx hb hg; obtain ⟨c2_0, _⟩ := B2.out.c; obtain ⟨f2_0, _⟩ := B2.out.f)
    | (go_at_call 13; with_reducible refine (graph_May.calls k A c g true _ (Kd.C_below K0.out HB.out) hc hm).mono ?_; rintro x w1 ⟨rfl, hd⟩; have hb := hd.below; clear hd; clear c2_0 f2_0; have B2 := Lib.hid (B2.out.below hb); have HB := Lib.hid (below_step HB.out hb); clear hb; obtain ⟨c2_0, _⟩ := B2.out.c; obtain ⟨f2_0, _⟩ := B2.out.f))
  go_ret
  exact ⟨rfl, HB.out⟩
theorem rowTail_spec {N : Nat} {r : List Int} : ∀ (m j : Nat), rowTail N r m j = true → ∀ i, j ≤ i → i < j + m → 0 ≤ rd r (i : Int) ∧ rd r (i : Int) < N ∧ (i ≠ 0 → rd r ((i - 1 : Nat) : Int) < rd r (i : Int)) := by
  intro m
  induction m with
  | zero => intro j _ i h1 h2; omega
  | succ m ih =>
    intro j h i h1 h2
    simp only [rowTail, Bool.and_eq_true] at h
    by_cases e : i = j
    · subst e
      have h3 := h.1
      simp only [okAt, Bool.and_eq_true, Bool.or_eq_true, Bool.not_eq_true', decide_eq_true_eq, decide_eq_false_iff_not] at h3
      exact ⟨by omega, by omega, fun h0 => by rcases h3.2.2 with h4 | h4 <;> omega⟩
    · exact ih (j + 1) h.2 i (by omega) (by omega)
theorem allTail_spec {g : List (List Int)} : ∀ (m i : Nat), i + m = g.length → allTail g m i = true → g.length ≤ 1000 ∧ ∀ v, i ≤ v → v < g.length → rowTail g.length (g.getD v []) (g.getD v []).length 0 = true := by
  intro m
  induction m with
  | zero =>
    intro i hi h
    simp only [allTail, decide_eq_true_eq] at h
    exact ⟨by omega, fun v h1 h2 => by omega⟩
  | succ m ih =>
    intro i hi h
    simp only [allTail, Bool.and_eq_true] at h
    obtain ⟨q1, q2⟩ := ih (i + 1) (by omega) h.2
    refine ⟨q1, fun v h1 h2 => ?_⟩
    by_cases e : v = i
    · subst e; exact h.1
    · exact q2 v (by omega) h2
theorem mayB_spec {g : List (List Int)} (h : mayB g = true) : g.length ≤ 1000 ∧ (∀ v, v < g.length → ∀ j, j < (g.getD v []).length → 0 ≤ rd (g.getD v []) (j : Int) ∧ rd (g.getD v []) (j : Int) < g.length ∧ (j ≠ 0 → rd (g.getD v []) ((j - 1 : Nat) : Int) < rd (g.getD v []) (j : Int))) := by
  obtain ⟨q1, q2⟩ := allTail_spec g.length 0 (by omega) h
  exact ⟨q1, fun v hv j hj => rowTail_spec _ 0 (q2 v (Nat.zero_le _) hv) j (Nat.zero_le _) (by omega)⟩
theorem rd_of_mem {r : List Int} {m : Int} (h : m ∈ r) : ∃ j, j < r.length ∧ rd r (j : Int) = m := by
  obtain ⟨j, hj, e⟩ := List.getElem_of_mem h
  exact ⟨j, hj, by unfold rd; rw [Int.toNat_natCast, List.getD_eq_getElem?_getD, List.getElem?_eq_getElem hj]; simpa using e⟩
theorem mayB_in {g : List (List Int)} (h : mayB g = true) : ∀ v, v < g.length → ∀ m ∈ g.getD v [], 0 ≤ m ∧ m < g.length := by
  intro v hv m hm
  obtain ⟨j, hj, rfl⟩ := rd_of_mem hm
  have := (mayB_spec h).2 v hv j hj
  exact ⟨this.1, this.2.1⟩
noncomputable def reachF (g : List (List Int)) (n : Int) : List Int := if mayB g = true ∧ 0 ≤ n ∧ n < g.length then reachL g n.toNat else []
theorem reach_any (g : List (List Int)) (hs : Sm g) (A : Option Addr) (c : Nat) (n : Int) (w : World) (hc : g.length ≤ c) (hC : Kd.C (Kd.slice 3 (Kd.int .i64)) w A g.length g) :
    Calls Try.prog 17 #[.slice A g.length c, .int .i64 n] w fun e w' => ∃ v, e = .returned v ∧ Kd.R (Kd.int .i64) 3 w' w.heap.size (fun _ => True) v (reachF g n) ∧ Below w.heap.size w w' := by
  obtain ⟨k, hk⟩ := gmay_ev g hs
  have hm := hk k (Nat.le_refl _)
  have nil : ∀ {w' : World}, Kd.R (Kd.int .i64) 3 w' w.heap.size (fun _ => True) (.slice none 0 0) [] := Kd.R_nil _ _ _ _ _
  cases hb : mayB g with
  | false =>
    rw [hb] at hm
    refine (reach_no k g A c n w hc hC hm).mono ?_
    rintro e w' ⟨rfl, hb'⟩
    exact ⟨_, rfl, by unfold reachF; rw [if_neg (by rw [hb]; simp)]; exact nil, hb'⟩
  | true =>
    rw [hb] at hm
    by_cases h0 : n < 0
    · refine (reach_low k g A c n w hc hC hm h0).mono ?_
      rintro e w' ⟨rfl, hb'⟩
      exact ⟨_, rfl, by unfold reachF; rw [if_neg (by omega)]; exact nil, hb'⟩
    · by_cases h1 : (g.length : Int) ≤ n
      · refine (reach_high k g A c n w hc hC hm h0 h1).mono ?_
        rintro e w' ⟨rfl, hb'⟩
        exact ⟨_, rfl, by unfold reachF; rw [if_neg (by omega)]; exact nil, hb'⟩
      · obtain ⟨m, rfl⟩ : ∃ m : Nat, n = (m : Int) := ⟨n.toNat, by omega⟩
        refine (reach_in k g A c m w hc hC hm (mayB_spec hb).1 (by omega) (mayB_in hb)).mono ?_
        rintro e w' ⟨v, rfl, hR, hb'⟩
        exact ⟨_, rfl, by unfold reachF; rw [if_pos ⟨hb, by omega, by omega⟩, Int.toNat_natCast]; exact hR, hb'⟩
end Go.Proofs.Ytdbngbmokgeeiaa.Man

namespace Go.Proofs.Ytdbngbmokgeeiaa.Man
open Go.RowKit Go.Proofs.Ytdbngbmokgeeiaa.Pr Go.Proofs.YtdbngbmokgeeiaaW.PrintWords
set_option linter.unusedVariables false
set_option linter.unusedSimpArgs false
def off (s : List Bool) : Nat := (s.filter (fun b => !b)).length
theorem rdOf_on {s : List Bool} {v : Nat} : rdOf false s (v : Int) = true ↔ On s v := by
  unfold rdOf On
  rw [Int.toNat_natCast, List.getD_eq_getElem?_getD]
  cases s[v]? with
  | none => simp
  | some b => simp
structure St (g : List (List Int)) (n : Nat) (s0 s : List Bool) (more : Bool) : Prop where
  len : s.length = g.length
  self : On s n
  rch : ∀ v, On s v → Rch g n v
  le : off s ≤ off s0
  same : more = false → s = s0
  less : more = true → off s < off s0
theorem St.step {g : List (List Int)} {n : Nat} {s0 s : List Bool} {more : Bool} (h : St g n s0 s more) {i m : Nat} (hi : On s i) (hm : (m : Int) ∈ g.getD i []) (hN : m < g.length) : St g n s0 (s.set m true) (more || !(rdOf false s (m : Int))) := by
  by_cases hon : On s m
  · have e : s.set m true = s := by
      apply List.ext_getElem?
      intro k
      rw [List.getElem?_set]
      split
      · rename_i ek; subst ek
        unfold On at hon
        rw [hon]; simp [(List.getElem?_eq_some_iff.1 hon).1]
      · rfl
    rw [e, rdOf_on.2 hon]
    simpa using h
  · have hf : s[m]? = some false := by
      have hl : m < s.length := by rw [h.len]; exact hN
      rw [List.getElem?_eq_getElem hl]
      cases hb : s[m] with
      | false => rfl
      | true => exact absurd (by unfold On; rw [List.getElem?_eq_getElem hl, hb]) hon
    have ho := off_set s m hf
    have hle := h.le
    have hr : rdOf false s (m : Int) = false := by
      cases hb : rdOf false s (m : Int) with
      | false => rfl
      | true => exact absurd (rdOf_on.1 hb) hon
    have h1 : off (s.set m true) < off s0 := by unfold off at *; omega
    rw [hr]
    refine ⟨by rw [List.length_set]; exact h.len, on_set h.self, fun v hv => ?_, Nat.le_of_lt h1, fun e => by simp at e, fun _ => h1⟩
    rcases on_of_set hv with rfl | hv
    · have := Rch.step (h.rch i hi) hm
      rwa [Int.toNat_natCast] at this
    · exact h.rch v hv
def Shut (g : List (List Int)) (s : List Bool) (i : Nat) : Prop := ∀ v, v < i → On s v → ∀ m ∈ g.getD v [], On s m.toNat
section
variable {g : List (List Int)} {n : Nat} {res : List Int} {x7 : Int}
theorem rr_row (hs : Sm g) (hg : ∀ v, v < g.length → ∀ m ∈ g.getD v [], 0 ≤ m ∧ m < g.length) (s0 : List Bool) (i : Nat) (hi : i < g.length)
    (hnext : ∀ s more, St g n s0 s more → (more = false → Shut g s (i + 1)) → Ev (fun k => r12_Reach.l2 k g s x7 more ((i + 1 : Nat) : Int)) res) :
    ∀ m j : Nat, j + m = (g.getD i []).length → ∀ s more, St g n s0 s more → (more = false → Shut g s i ∧ ∀ x ∈ (g.getD i []).take j, On s i → On s x.toNat) → Ev (fun k => r12_Reach.l3 k g s x7 more (i : Int) (j : Int)) res := by
  have hr := hs.2 i
  have hn := hs.1
  have c1 : 0 ≤ (i : Int) := Int.natCast_nonneg i
  have c2 : (i : Int) < (g.length : Int) := Int.ofNat_lt.2 hi
  have fin : ∀ s more, St g n s0 s more → (more = false → Shut g s i ∧ (On s i → ∀ x ∈ g.getD i [], On s x.toNat)) → Ev (fun k => r12_Reach.l2 k g s x7 more ((i + 1 : Nat) : Int)) res := by
    intro s more h hc
    refine hnext s more h (fun e => ?_)
    obtain ⟨q1, q2⟩ := hc e
    intro v hv hon m hm
    by_cases ev : v = i
    · subst ev; exact q2 hon m hm
    · exact q1 v (by omega) hon m hm
  intro m
  induction m with
  | zero =>
    intro j hj s more h hc
    refine Ev.step ?_
    have c3 : ¬ (j : Int) < ((g.getD i []).length : Int) := by omega
    simp only [r12_Reach.l3, if_pos c1, if_pos c2, rd9, if_neg c3, pz i (by omega)]
    exact fin s more h (fun e => ⟨(hc e).1, fun hon x hx => (hc e).2 x (by rw [List.take_of_length_le (by omega)]; exact hx) hon⟩)
  | succ m ih =>
    intro j hj s more h hc
    refine Ev.step ?_
    have hjl : j < (g.getD i []).length := by omega
    have c3 : (j : Int) < ((g.getD i []).length : Int) := by omega
    have c4 : (i : Int) < (s.length : Int) := by rw [h.len]; exact c2
    have c5 : 0 ≤ (j : Int) := Int.natCast_nonneg j
    by_cases hon : On s i
    · have hmem : (g.getD i [])[j] ∈ g.getD i [] := List.getElem_mem hjl
      obtain ⟨m0, m1⟩ := hg i hi _ hmem
      obtain ⟨x, hx⟩ : ∃ x : Nat, (g.getD i [])[j] = (x : Int) := ⟨((g.getD i [])[j]).toNat, by omega⟩
      have hrd : rd (g.getD i []) (j : Int) = (x : Int) := by
        unfold rd; rw [Int.toNat_natCast, List.getD_eq_getElem?_getD (l := g.getD i []), List.getElem?_eq_getElem hjl]; exact hx
      rw [hx] at hmem m1
      have hxN : x < g.length := by omega
      have d1 : 0 ≤ (x : Int) := Int.natCast_nonneg x
      have d2 : (x : Int) < (s.length : Int) := by rw [h.len]; exact m1
      have hst := h.step hon hmem hxN
      have e := ih (j + 1) (by omega) (s.set x true) (more || !(rdOf false s (x : Int))) hst (fun em => by
        simp only [Bool.or_eq_false_iff, Bool.not_eq_false'] at em
        obtain ⟨e1, e2⟩ := em
        have hsx := rdOf_on.1 e2
        obtain ⟨q1, q2⟩ := hc e1
        refine ⟨fun v hv ho y hy => ?_, fun y hy ho => ?_⟩
        · rcases on_of_set ho with rfl | ho
          · exact on_set (q1 _ hv hsx y hy)
          · exact on_set (q1 v hv ho y hy)
        · rw [List.take_succ_eq_append_getElem hjl, List.mem_append] at hy
          rcases hy with hy | hy
          · exact on_set (q2 y hy hon)
          · simp only [List.mem_singleton] at hy
            rw [hy, hx, Int.toNat_natCast]; exact on_set hsx)
      simp only [r12_Reach.l3, if_pos c1, if_pos c2, rd9, if_pos c3, if_pos c4, if_pos (rdOf_on.2 hon), if_pos c5, hrd, if_pos d1, if_pos d2, Int.toNat_natCast, pz j (by omega)]
      cases more with
      | true => simp only [if_true]; simpa using e
      | false => simp only [Bool.false_eq_true, if_false]; simpa using e
    · have hoff : ¬ rdOf false s (i : Int) = true := fun e => hon (rdOf_on.1 e)
      simp only [r12_Reach.l3, if_pos c1, if_pos c2, rd9, if_pos c3, if_pos c4, if_neg hoff, pz i (by omega)]
      exact fin s more h (fun e => ⟨(hc e).1, fun h1 => absurd h1 hon⟩)
theorem rr_round (hs : Sm g) (hg : ∀ v, v < g.length → ∀ m ∈ g.getD v [], 0 ≤ m ∧ m < g.length) (s0 : List Bool)
    (hmore : ∀ s, St g n s0 s true → Ev (fun k => r12_Reach.l1 k g s (wrap64 (x7 + 1))) res) (hdone : St g n s0 s0 false → Shut g s0 g.length → Ev (fun k => r12_Reach.j5 k g s0) res) :
    ∀ m i : Nat, i + m = g.length → ∀ s more, St g n s0 s more → (more = false → Shut g s i) → Ev (fun k => r12_Reach.l2 k g s x7 more (i : Int)) res := by
  intro m
  induction m with
  | zero =>
    intro i hi s more h hc
    refine Ev.step ?_
    have c : ¬ (i : Int) < (g.length : Int) := by omega
    simp only [r12_Reach.l2, if_neg c]
    cases more with
    | true => simp only [if_true]; exact hmore s h
    | false =>
      simp only [Bool.false_eq_true, if_false]
      have e := h.same rfl
      subst e
      exact hdone h (by rw [show g.length = i by omega]; exact hc rfl)
  | succ m ih =>
    intro i hi s more h hc
    refine Ev.step ?_
    have c : (i : Int) < (g.length : Int) := by omega
    simp only [r12_Reach.l2, if_pos c]
    exact rr_row hs hg s0 i (by omega) (fun s' more' h' hc' => ih (i + 1) (by omega) s' more' h' hc') (g.getD i []).length 0 (by omega) s more h (fun e => ⟨hc e, fun x hx => by simp at hx⟩)
end
theorem rr_out (g : List (List Int)) (hs : Sm g) (s : List Bool) (hl : s.length = g.length) : Ev (fun k => r12_Reach.j5 k g s) (pick s g.length) := by
  have hn := hs.1
  have main : ∀ m j : Nat, j + m = g.length → Ev (fun k => r12_Reach.l4 k g s (pick s j) (j : Int)) (pick s g.length) := by
    intro m
    induction m with
    | zero =>
      intro j hj
      refine Ev.step ?_
      have c : ¬ (j : Int) < (g.length : Int) := by omega
      simp only [r12_Reach.l4, if_neg c]
      rw [show j = g.length by omega]; exact Ev.const _
    | succ m ih =>
      intro j hj
      have e := ih (j + 1) (by omega)
      refine Ev.step ?_
      have c : (j : Int) < (g.length : Int) := by omega
      have c0 : 0 ≤ (j : Int) := Int.natCast_nonneg j
      have c1 : (j : Int) < (s.length : Int) := by rw [hl]; exact c
      have hpl : (pick s j).length < 17592186044416 := by
        have : (pick s j).length ≤ j := by
          unfold pick; rw [List.length_map]
          exact Nat.le_trans (List.length_filter_le _ _) (by simp)
        omega
      simp only [r12_Reach.l4, if_pos c, if_pos c0, if_pos c1, if_pos hpl, pz j (by omega)]
      have hj2 : j < s.length := by omega
      by_cases h : On s j
      · rw [pick_on h] at e
        simp only [if_pos (rdOf_on.2 h)]; exact e
      · have hf : s[j]? = some false := by
          rw [List.getElem?_eq_getElem hj2]
          cases hb : s[j] with
          | false => rfl
          | true => exact absurd (by unfold On; rw [List.getElem?_eq_getElem hj2, hb]) h
        rw [pick_off hf] at e
        simp only [if_neg (fun e' => h (rdOf_on.1 e'))]; exact e
  refine Ev.step ?_
  simp only [r12_Reach.j5]
  have := main g.length 0 (by omega)
  simpa [pick] using this
theorem shut_reach {g : List (List Int)} {n : Nat} {s : List Bool} (hr : ∀ v, On s v → Rch g n v) (hn : On s n) (hg : ∀ v, v < g.length → ∀ m ∈ g.getD v [], 0 ≤ m ∧ m < g.length) (hl : s.length = g.length) (hc : Shut g s g.length) : pick s g.length = reachL g n := by
  have hlt : ∀ v, On s v → v < g.length := fun v hv => by
    have := (List.getElem?_eq_some_iff.1 hv).1; omega
  have hon : ∀ v, On s v ↔ Rch g n v := by
    intro v
    constructor
    · exact hr v
    · intro h
      induction h with
      | refl => exact hn
      | step _ hm ih => exact hc _ (hlt _ ih) ih _ hm
  unfold pick reachL
  congr 1
  apply List.filter_congr
  intro v hv'
  have := hon v
  unfold On at this
  rw [List.getD_eq_getElem?_getD]
  cases hs : s[v]? with
  | none => rw [hs] at this; simp at this; simp [this]
  | some b => rw [hs] at this; cases b <;> simp at this <;> simp [this]
theorem rr_rounds (g : List (List Int)) (n : Nat) (hs : Sm g) (hg : ∀ v, v < g.length → ∀ m ∈ g.getD v [], 0 ≤ m ∧ m < g.length) : ∀ (u : Nat) (s : List Bool) (r : Nat), off s ≤ u → s.length = g.length → On s n → (∀ v, On s v → Rch g n v) → r + off s < g.length → Ev (fun k => r12_Reach.l1 k g s (r : Int)) (reachL g n) := by
  have hn := hs.1
  intro u
  induction u using Nat.strongRecOn with
  | _ u ih =>
    intro s r hu hl hself hr hro
    refine Ev.step ?_
    have c : (r : Int) < (g.length : Int) := by omega
    simp only [r12_Reach.l1, if_pos c]
    refine rr_round hs hg s (fun s' h' => ?_) (fun _ hsh => ?_) g.length 0 (by omega) s false ⟨hl, hself, hr, Nat.le_refl _, fun _ => rfl, fun e => by cases e⟩ (fun _ v hv => by omega)
    · rw [pz r (by omega)]
      have hls := h'.less rfl
      exact ih (off s') (by omega) s' (r + 1) (Nat.le_refl _) h'.len h'.self h'.rch (by omega)
    · rw [← shut_reach hr hself hg hl hsh]
      exact rr_out g hs s hl
theorem rr_begin (g : List (List Int)) (n : Nat) (hs : Sm g) (hg : ∀ v, v < g.length → ∀ m ∈ g.getD v [], 0 ≤ m ∧ m < g.length) (hn : n < g.length) : ∀ m i : Nat, i + m = g.length → Ev (fun k => r12_Reach.l0 k g (n : Int) (((List.replicate g.length false).set n true).take i) (i : Int)) (reachL g n) := by
  have hN := hs.1
  obtain ⟨full, hf⟩ : ∃ f, f = (List.replicate g.length false).set n true := ⟨_, rfl⟩
  have hl : full.length = g.length := by rw [hf]; simp
  have hget : ∀ v, v < g.length → full[v]? = some ((v : Int) == (n : Int)) := by
    intro v hv
    rw [hf, List.getElem?_set]
    split
    · rename_i e; subst e; simp [hn]
    · rename_i e
      rw [List.getElem?_replicate, if_pos hv]
      have : ¬ (v : Int) = (n : Int) := by omega
      simp [this]
  have hself : On full n := by unfold On; rw [hget n hn]; simp
  have hr : ∀ v, On full v → Rch g n v := by
    intro v hv
    have hlt : v < g.length := by have := (List.getElem?_eq_some_iff.1 hv).1; omega
    unfold On at hv
    rw [hget v hlt] at hv
    simp at hv
    have : v = n := by omega
    rw [this]; exact .refl
  have hoff : off full + 1 = g.length := by
    have h1 : (List.replicate g.length false)[n]? = some false := by rw [List.getElem?_replicate, if_pos hn]
    have h2 := off_set _ n h1
    rw [← hf] at h2
    unfold off
    rw [h2]
    simp
  rw [← hf]
  intro m
  induction m with
  | zero =>
    intro i hi
    refine Ev.step ?_
    have c : ¬ (i : Int) < (g.length : Int) := by omega
    simp only [r12_Reach.l0, if_neg c]
    rw [List.take_of_length_le (by omega)]
    exact rr_rounds g n hs hg _ full 0 (Nat.le_refl _) hl hself hr (by omega)
  | succ m ih =>
    intro i hi
    have e := ih (i + 1) (by omega)
    refine Ev.step ?_
    have c : (i : Int) < (g.length : Int) := by omega
    have c1 : (full.take i).length < 140737488355328 := by rw [List.length_take]; omega
    simp only [r12_Reach.l0, if_pos c, if_pos c1, pz i (by omega)]
    have ht : full.take (i + 1) = full.take i ++ [((i : Int) == (n : Int))] := by
      rw [List.take_add_one, hget i (by omega)]; rfl
    rw [ht] at e
    exact e
theorem rreach_ev (g : List (List Int)) (hs : Sm g) (n : Int) : Ev (fun k => r12_Reach.f k g n) (reachF g n) := by
  have jt : reachF g n = [] → Ev (fun k => r12_Reach.j0 k g n true) (reachF g n) := by
    intro h
    rw [h]
    refine Ev.step ?_
    simp only [r12_Reach.j0, if_true]
    exact Ev.const _
  refine Ev.bind (rmay_ev g hs) ?_
  cases hb : mayB g with
  | false =>
    simp only [Bool.false_eq_true, if_false]
    exact jt (by unfold reachF; rw [if_neg (by rw [hb]; simp)])
  | true =>
    simp only [if_true]
    by_cases h0 : n < 0
    · simp only [if_pos h0]
      exact jt (by unfold reachF; rw [if_neg (by omega)])
    · simp only [if_neg h0]
      by_cases h1 : n ≥ (g.length : Int)
      · simp only [decide_eq_true h1]
        exact jt (by unfold reachF; rw [if_neg (by omega)])
      · simp only [decide_eq_false h1]
        obtain ⟨m, rfl⟩ : ∃ m : Nat, n = (m : Int) := ⟨n.toNat, by omega⟩
        have e : reachF g (m : Int) = reachL g m := by unfold reachF; rw [if_pos ⟨hb, by omega, by omega⟩, Int.toNat_natCast]
        rw [e]
        refine Ev.step ?_
        simp only [r12_Reach.j0, Bool.false_eq_true, if_false]
        have := rr_begin g m hs (mayB_in hb) (by omega) g.length 0 (by omega)
        simpa using this
end Go.Proofs.Ytdbngbmokgeeiaa.Man

namespace Go.Proofs.Ytdbngbmokgeeiaa.Man
open Go.RowKit Go.Proofs.Ytdbngbmokgeeiaa.Pr Go.Proofs.YtdbngbmokgeeiaaW.PrintWords
attribute [local go_sem] Oper.semAt_some
set_option linter.unusedVariables false
set_option linter.unusedSimpArgs false
theorem same_name (s nm : ByteArray) (A1 A2 : Option Addr) (n1 c1 n2 c2 b : Nat) (w : World) (hb : w.cell? ⟨b, 0, none⟩ = some (.string nm)) :
    Calls Try.prog 37 #[.agg #[.string s, .slice A1 n1 c1, .slice A2 n2 c2], .pointer (some ⟨b, 0, none⟩)] w fun e w' => e = .returned (.bool (s.toList == nm.toList)) ∧ Below w.heap.size w w' := by
  have hlt := World.block_lt_of_cell? _ _ hb
  have hne : ¬ b = w.heap.size := Nat.ne_of_lt hlt
  have hb' : (w.alloc (.cells #[.string s, .slice A1 n1 c1, .slice A2 n2 c2] 42)).cell? ⟨b, 0, none⟩ = some (.string nm) := ((below_alloc (Below.refl _ w) _).cell hlt).trans hb
  go_enter Try.func37, Try.ntmps37
  go_wp2
  go_ret
  exact ⟨rfl, below_alloc (Below.refl _ _) _⟩
def firstIx (nm : ByteArray) : List S42 → Nat → Int
  | [], _ => -1
  | f :: r, i => if (f.f0.toList == nm.toList) = true then (i : Int) else firstIx nm r (i + 1)
def funIx (l : List S42) (nm : ByteArray) : Int := firstIx nm l 0
theorem drop_T42 (l : List S42) (j : Nat) (h : j < l.length) : l.drop j = rd_T42 l (j : Int) :: l.drop (j + 1) := by
  rw [List.drop_eq_getElem_cons h]
  congr 1
  unfold rd_T42; rw [Int.toNat_natCast, List.getD_eq_getElem?_getD, List.getElem?_eq_getElem h]; rfl
set_option maxRecDepth 100000 in
set_option maxHeartbeats 8000000 in
theorem index_any (l : List S42) (A : Option Addr) (c b : Nat) (nm : ByteArray) (w : World) (hc : l.length ≤ c) (hC : Kd.C k42 w A l.length l) (hb : w.cell? ⟨b, 0, none⟩ = some (.string nm)) (hl : l.length ≤ 1000000) :
    Calls Try.prog 36 #[.slice A l.length c, .func (.func 37) #[] #[.pointer (some ⟨b, 0, none⟩)]] w fun e w' => e = .returned (.int .i64 (funIx l nm)) ∧ Below w.heap.size w w' := by
  have HB := Lib.hid (Below.refl w.heap.size w)
  have K0 := Lib.hid hC
  have HN := Lib.hid hb
  have hlt := World.block_lt_of_cell? _ _ hb
  clear hC hb
  go_enter Try.func36, Try.ntmps36
  go_wp2
  go_loopg [8, 5] l.length (fun kq v8 v5 w' => ∃ j : Nat, j + kq = l.length ∧ v8 = .int .i64 j ∧ Hid (firstIx nm (l.drop j) j = funIx l nm) ∧ Hid (Below w.heap.size w w'))
  case atStart => exact ⟨0, by omega, rfl, Lib.hid rfl, HB⟩
  case round =>
    obtain ⟨j, hj, rfl, HI, HB⟩ := hrel
    by_cases hjl : j < l.length
    · obtain ⟨ad, A1, c1, A2, c2, eA, x0, x1, x2, _⟩ := at_T42 (Kd.C_below K0.out HB.out) (j : Int) (by omega) (by omega)
      subst eA
      rw [Int.toNat_natCast] at x0 x1 x2
      have hw := pz j (by omega)
      obtain ⟨k1, rfl⟩ : ∃ k1, gk = k1 + 1 := ⟨gk - 1, by omega⟩
      have hcall := Lib.hid (same_name (rd_T42 l (j : Int)).f0 nm A1 A2 (rd_T42 l (j : Int)).f1.length c1 (rd_T42 l (j : Int)).f2.length c2 b wr ((HB.out.cell hlt).trans HN.out))
      have hd := drop_T42 l j hjl
      have HD := Lib.hid hd
      clear hd
      cases hbb : ((rd_T42 l (j : Int)).f0.toList == nm.toList) with
      | true =>
        rw [hbb] at hcall
        have hres := Lib.hid (show funIx l nm = (j : Int) by rw [← HI.out, HD.out]; simp only [firstIx, hbb, if_true])
        clear hbb
        go_wp2_with (first
          | (go_at_call 37; with_reducible refine hcall.out.mono ?_; rintro x w1 ⟨rfl, hb1⟩; have HB := Lib.hid (below_step HB.out hb1); clear hb1))
        go_ret
        exact ⟨by rw [hres.out]; rfl, HB.out⟩
      | false =>
        rw [hbb] at hcall
        have hres := Lib.hid (show firstIx nm (l.drop (j + 1)) (j + 1) = funIx l nm by rw [← HI.out, HD.out]; simp only [firstIx, hbb, Bool.false_eq_true, if_false])
        clear hbb
        go_wp2_with (first
          | (go_at_call 37; with_reducible refine hcall.out.mono ?_; rintro x w1 ⟨rfl, hb1⟩; have HB := Lib.hid (below_step HB.out hb1); clear hb1))
        go_roundg k1
        case measure => exact Nat.lt_succ_self _
        case rel => exact ⟨j + 1, by rw [Nat.add_assoc, Nat.add_comm 1]; exact hj, by first | rw [hw] | simp, hres, HB⟩
    · have hje : j = l.length := by omega
      have hres := Lib.hid (show funIx l nm = -1 by rw [← HI.out, hje, List.drop_of_length_le (Nat.le_refl _)]; rfl)
      go_wp2
      go_ret
      exact ⟨by rw [hres.out]; rfl, HB.out⟩
theorem fun_any (l : List S42) (A : Option Addr) (c : Nat) (nm : ByteArray) (w : World) (hc : l.length ≤ c) (hC : Kd.C k42 w A l.length l) (hl : l.length ≤ 1000000) :
    Calls Try.prog 27 #[.agg #[.slice A l.length c], .string nm] w fun e w' => e = .returned (.int .i64 (funIx l nm)) ∧ Below w.heap.size w w' := by
  have K0 := Lib.hid hC
  clear hC
  go_enter Try.func27, Try.ntmps27
  go_wp2_with (first
    | (go_at_call 36; have hb := below_alloc (below_alloc (Below.refl w.heap.size w) (.cells #[.slice A l.length c] 24)) (.cells #[.string nm] 9); with_reducible refine (index_any l A c (w.heap.size + 1) nm _ hc (Kd.C_below K0.out hb) (by have := blk_new (w.alloc (.cells #[.slice A l.length c] 24)) (.cells #[.string nm] 9); exact (blk_cell (by simpa using this) 0).trans rfl) hl).mono ?_; rintro x w1 ⟨rfl, hb1⟩; have HB := Lib.hid (below_step hb hb1); clear hb hb1))
  go_ret
  exact ⟨rfl, HB.out⟩
end Go.Proofs.Ytdbngbmokgeeiaa.Man

namespace Go.Proofs.Ytdbngbmokgeeiaa.Man
open Go.RowKit Go.Proofs.Ytdbngbmokgeeiaa.Pr Go.Proofs.YtdbngbmokgeeiaaW.PrintWords
set_option linter.unusedVariables false
set_option linter.unusedSimpArgs false
theorem pz2 (n : Nat) (h : n ≤ 1000000000) : wrap64 ((n : Int) + 1) = ((n + 1 : Nat) : Int) := by simp only [wrap64]; omega
def Low (l : List S55) : Prop := l.length ≤ 2000000 ∧ ∀ s ∈ flat l, s.f6.length ≤ 2000000 ∧ s.f7.length ≤ 2000000
theorem flat_mem6 (l : List S55) (k : Nat) (h : k < l.length) (s : S55) (hs : s ∈ flat (rd_T55 l k).f6) : s ∈ flat l := flat_mem l k h s (by simp [hs])
theorem flat_mem7 (l : List S55) (k : Nat) (h : k < l.length) (s : S55) (hs : s ∈ flat (rd_T55 l k).f7) : s ∈ flat l := flat_mem l k h s (by simp [hs])
theorem Low.sub {l : List S55} (h : Low l) (k : Nat) (hk : k < l.length) : Low (rd_T55 l (k : Int)).f6 ∧ Low (rd_T55 l (k : Int)).f7 := by
  have h0 := h.2 _ (flat_mem l k hk (rd_T55 l k) (by simp))
  exact ⟨⟨h0.1, fun s hs => h.2 s (flat_mem6 l k hk s hs)⟩, ⟨h0.2, fun s hs => h.2 s (flat_mem7 l k hk s hs)⟩⟩
theorem deep_ev : ∀ (m : Nat) (l : List S55), SizeOf.sizeOf l < m → Low l → ∀ a : Int, ∃ r, Ev (fun k => r03_Deep.f k l a) r := by
  intro m
  induction m with
  | zero => intro l h; omega
  | succ m ih =>
    intro l hm hl a
    have hlen := hl.1
    have main : ∀ d i : Nat, i + d = l.length → ∀ x5 : Int, ∃ r, Ev (fun k => r03_Deep.l0 k l a x5 (i : Int)) r := by
      intro d
      induction d with
      | zero =>
        intro i hi x5
        have c : ¬ (i : Int) < (l.length : Int) := by omega
        refine ⟨x5, Ev.step ?_⟩
        simp only [r03_Deep.l0, if_neg c]
        refine Ev.step ?_
        simp only [r03_Deep.j1, Bool.false_eq_true, if_false]
        exact Ev.const _
      | succ d ihd =>
        intro i hi x5
        have c : (i : Int) < (l.length : Int) := by omega
        have c0 : 0 ≤ (i : Int) := Int.natCast_nonneg i
        by_cases ha : a > 0
        · obtain ⟨h6, h7⟩ := hl.sub i (by omega)
          obtain ⟨s6, s7⟩ := size_mem l i (by omega)
          obtain ⟨r6, e6⟩ := ih _ (by omega) h6 (wrap64 (a - 1))
          obtain ⟨r7, e7⟩ := ih _ (by omega) h7 (wrap64 (a - 1))
          obtain ⟨r, e⟩ := ihd (i + 1) (by omega) (mx x5 (wrap64 (1 + (mx r6 r7))))
          refine ⟨r, Ev.step ?_⟩
          simp only [r03_Deep.l0, if_pos c, decide_eq_true ha]
          refine Ev.step ?_
          simp only [r03_Deep.j1, if_true, if_pos c0, if_pos c]
          refine Ev.bind e6 (Ev.bind e7 ?_)
          rw [pz2 i (by omega)]
          exact e
        · refine ⟨x5, Ev.step ?_⟩
          simp only [r03_Deep.l0, if_pos c, decide_eq_false ha]
          refine Ev.step ?_
          simp only [r03_Deep.j1, Bool.false_eq_true, if_false]
          exact Ev.const _
    obtain ⟨r, e⟩ := main l.length 0 (by omega) 0
    refine ⟨r, Ev.step ?_⟩
    simp only [r03_Deep.f]
    exact e
theorem count_ev : ∀ (m : Nat) (l : List S55), SizeOf.sizeOf l < m → Low l → ∃ r, Ev (fun k => r03_Count.f k l) r := by
  intro m
  induction m with
  | zero => intro l h; omega
  | succ m ih =>
    intro l hm hl
    have hlen := hl.1
    have main : ∀ d i : Nat, i + d = l.length → ∀ x : Int, ∃ r, Ev (fun k => r03_Count.l0 k l x (i : Int)) r := by
      intro d
      induction d with
      | zero =>
        intro i hi x
        have c : ¬ (i : Int) < (l.length : Int) := by omega
        refine ⟨x, Ev.step ?_⟩
        simp only [r03_Count.l0, if_neg c]
        exact Ev.const _
      | succ d ihd =>
        intro i hi x
        have c : (i : Int) < (l.length : Int) := by omega
        have c0 : 0 ≤ (i : Int) := Int.natCast_nonneg i
        obtain ⟨h6, h7⟩ := hl.sub i (by omega)
        obtain ⟨s6, s7⟩ := size_mem l i (by omega)
        obtain ⟨r6, e6⟩ := ih _ (by omega) h6
        obtain ⟨r7, e7⟩ := ih _ (by omega) h7
        obtain ⟨r, e⟩ := ihd (i + 1) (by omega) (wrap64 (x + (wrap64 (r6 + r7))))
        refine ⟨r, Ev.step ?_⟩
        simp only [r03_Count.l0, if_pos c, if_pos c0]
        refine Ev.bind e6 (Ev.bind e7 ?_)
        rw [pz2 i (by omega)]
        exact e
    obtain ⟨r, e⟩ := main l.length 0 (by omega) (l.length : Int)
    refine ⟨r, Ev.step ?_⟩
    simp only [r03_Count.f]
    exact e
def LowP (fs : List S42) : Prop := fs.length ≤ 2000000 ∧ ∀ f ∈ fs, f.f1.length ≤ 2000000 ∧ (flat f.f2).length ≤ 2000000 ∧ Low f.f2
theorem rdF_mem {fs : List S42} {i : Nat} (h : i < fs.length) : rd_T42 fs (i : Int) ∈ fs := by
  unfold rd_T42; rw [Int.toNat_natCast, List.getD_eq_getElem?_getD, List.getElem?_eq_getElem h]; exact List.getElem_mem h
theorem rdF_get {fs : List S42} {i : Nat} (h : i < fs.length) : rd_T42 fs (i : Int) = fs[i] := by
  unfold rd_T42; rw [Int.toNat_natCast, List.getD_eq_getElem?_getD, List.getElem?_eq_getElem h]; rfl
theorem big_ev (fs : List S42) (hl : LowP fs) : ∃ b, Ev (fun k => r03_Big.f k fs) b := by
  have hlen := hl.1
  have main : ∀ d i : Nat, i + d = fs.length → ∀ x : Int, ∃ b, Ev (fun k => r03_Big.l0 k x (i : Int) fs) b := by
    intro d
    induction d with
    | zero =>
      intro i hi x
      have c : ¬ (i : Int) < (fs.length : Int) := by omega
      by_cases hx : x > 3000
      · exact ⟨true, Ev.step (by simp only [r03_Big.l0, if_neg c, if_pos hx]; exact Ev.const _)⟩
      · exact ⟨_, Ev.step (by simp only [r03_Big.l0, if_neg c, if_neg hx]; exact Ev.const _)⟩
    | succ d ihd =>
      intro i hi x
      have c : (i : Int) < (fs.length : Int) := by omega
      have c0 : 0 ≤ (i : Int) := Int.natCast_nonneg i
      have hf := hl.2 _ (rdF_mem (fs := fs) (i := i) (by omega))
      obtain ⟨rd, ed⟩ := deep_ev _ _ (Nat.lt_succ_self _) hf.2.2 60
      obtain ⟨rc, ec⟩ := count_ev _ _ (Nat.lt_succ_self _) hf.2.2
      by_cases hd : rd ≥ 60
      · refine ⟨true, Ev.step ?_⟩
        simp only [r03_Big.l0, if_pos c, if_pos c0]
        refine Ev.bind ed ?_
        simp only [if_pos hd]
        exact Ev.const _
      · obtain ⟨b, e⟩ := ihd (i + 1) (by omega) (wrap64 (x + (wrap64 (rc + (((rd_T42 fs (i : Int)).f1).length : Int)))))
        refine ⟨b, Ev.step ?_⟩
        simp only [r03_Big.l0, if_pos c, if_pos c0]
        refine Ev.bind ed ?_
        simp only [if_neg hd]
        refine Ev.bind ec ?_
        rw [pz2 i (by omega)]
        exact e
  exact main fs.length 0 (by omega) 0
theorem eta_stmt (s : S55) : (⟨s.f0, s.f1, s.f2, s.f3, s.f4, s.f5, s.f6, s.f7⟩ : S55) = s := by cases s; rfl
theorem list_ev : ∀ (m : Nat) (l : List S55), SizeOf.sizeOf l < m → Low l → (flat l).length ≤ 2000000 → Ev (fun k => r04_List.f k l) (flat l) := by
  intro m
  induction m with
  | zero => intro l h; omega
  | succ m ih =>
    intro l hm hl hn
    have hlen := hl.1
    have main : ∀ d i : Nat, i + d = l.length → Ev (fun k => r04_List.l0 k l (flat (l.take i)) (i : Int)) (flat l) := by
      intro d
      induction d with
      | zero =>
        intro i hi
        have c : ¬ (i : Int) < (l.length : Int) := by omega
        refine Ev.step ?_
        simp only [r04_List.l0, if_neg c]
        rw [show l.take i = l from List.take_of_length_le (by omega)]
        exact Ev.const _
      | succ d ihd =>
        intro i hi
        have hil : i < l.length := by omega
        have c : (i : Int) < (l.length : Int) := by omega
        have c0 : 0 ≤ (i : Int) := Int.natCast_nonneg i
        obtain ⟨h6, h7⟩ := hl.sub i hil
        obtain ⟨s6, s7⟩ := size_mem l i hil
        have hfl := flat_len l i hil
        have e6 := ih _ (by omega) h6 (by omega)
        have e7 := ih _ (by omega) h7 (by omega)
        have e := ihd (i + 1) (by omega)
        have ht := flat_take_succ l i hil
        have hg : l[i] = rd_T55 l (i : Int) := by unfold rd_T55; simp [List.getD, hil]
        rw [hg] at ht
        refine Ev.step ?_
        have c1 : (flat (l.take i)).length < 925904528653 := by omega
        have c2 : (flat (l.take i) ++ [rd_T55 l (i : Int)]).length + (flat (rd_T55 l (i : Int)).f6).length < 925904528653 := by simp; omega
        have c3 : (flat (l.take i) ++ [rd_T55 l (i : Int)] ++ flat (rd_T55 l (i : Int)).f6).length + (flat (rd_T55 l (i : Int)).f7).length < 925904528653 := by simp; omega
        simp only [r04_List.l0, if_pos c, if_pos c0, if_pos c1, eta_stmt, Option.bind_some]
        refine Ev.bind e6 ?_
        simp only [if_pos c2, Option.bind_some]
        refine Ev.bind e7 ?_
        simp only [if_pos c3]
        rw [pz2 i (by omega)]
        rw [ht] at e
        simpa [List.append_assoc] using e
    have := main l.length 0 (by omega)
    refine Ev.step ?_
    simp only [r04_List.f]
    simpa [flat] using this
theorem fun_ev (fs : List S42) (hl : fs.length ≤ 2000000) (nm : ByteArray) : Ev (fun k => r05_Fun.f k fs nm) (funIx fs nm) := by
  have main : ∀ d i : Nat, i + d = fs.length → Ev (fun k => r05_Fun.l0 k nm (i : Int) fs) (firstIx nm (fs.drop i) i) := by
    intro d
    induction d with
    | zero =>
      intro i hi
      have c : ¬ (i : Int) < (fs.length : Int) := by omega
      refine Ev.step ?_
      simp only [r05_Fun.l0, if_neg c]
      rw [List.drop_of_length_le (by omega)]
      exact Ev.const _
    | succ d ihd =>
      intro i hi
      have c : (i : Int) < (fs.length : Int) := by omega
      have c0 : 0 ≤ (i : Int) := Int.natCast_nonneg i
      have e := ihd (i + 1) (by omega)
      rw [drop_T42 fs i (by omega)]
      refine Ev.step ?_
      simp only [r05_Fun.l0, if_pos c, if_pos c0, firstIx]
      by_cases h : (rd_T42 fs (i : Int)).f0.toList = nm.toList
      · have h' : ((rd_T42 fs (i : Int)).f0.toList == nm.toList) = true := by simpa using h
        simp only [if_pos h, h', if_true]
        exact Ev.const _
      · have h' : ((rd_T42 fs (i : Int)).f0.toList == nm.toList) = false := by simpa using h
        simp only [if_neg h, h', Bool.false_eq_true, if_false]
        rw [pz2 i (by omega)]
        exact e
  exact main fs.length 0 (by omega)
def leads (fs : List S42) (L : List S55) (g : Int) : Bool := L.any fun s => s.f0 == 6 || (s.f0 == 5 && funIx fs s.f3 == g)
theorem rd_drop (L : List S55) (i : Nat) (h : i < L.length) : L.drop i = rd_T55 L (i : Int) :: L.drop (i + 1) := by
  rw [List.drop_eq_getElem_cons h]
  congr 1
  unfold rd_T55; simp [List.getD, h]
end Go.Proofs.Ytdbngbmokgeeiaa.Man

namespace Go.Proofs.Ytdbngbmokgeeiaa.Man
open Go.RowKit Go.Proofs.Ytdbngbmokgeeiaa.Pr Go.Proofs.YtdbngbmokgeeiaaW.PrintWords
attribute [local go_sem] Oper.semAt_some
set_option linter.unusedVariables false
set_option linter.unusedSimpArgs false
set_option maxRecDepth 100000 in
set_option maxHeartbeats 8000000 in
theorem rcalls_any (w : World) (fs : List S42) (A : Option Addr) (c : Nat) (hc : fs.length ≤ c) (hC : Kd.C k42 w A fs.length fs) (hl : LowP fs) (i : Nat) (hi : i < fs.length) (g : Int) :
    Calls Try.prog 30 #[.agg #[.slice A fs.length c], .int .i64 (i : Int), .int .i64 g] w fun e w' => e = .returned (.bool (leads fs (flat (rd_T42 fs (i : Int)).f2) g)) ∧ Below w.heap.size w w' := by
  have hf := hl.2 _ (rdF_mem hi)
  obtain ⟨kl, ekl⟩ := list_ev _ _ (Nat.lt_succ_self _) hf.2.2 hf.2.1
  have HL := Lib.hid (ekl kl (Nat.le_refl _))
  have hfun : ∀ nm, ∃ k, r05_Fun.f k fs nm = some (funIx fs nm) := fun nm => by obtain ⟨k, e⟩ := fun_ev fs hl.1 nm; exact ⟨k, e k (Nat.le_refl _)⟩
  have HFUN := Lib.hid hfun
  obtain ⟨ad, A1, c1, A2, c2, eA, y0, y1, y2, _, _, l2, g2⟩ := at_T42 hC (i : Int) (by omega) (by omega)
  subst eA
  rw [Int.toNat_natCast] at y0 y1 y2
  have hLn := Lib.hid hf.2.1
  have HB := Lib.hid (Below.refl w.heap.size w)
  have K0 := Lib.hid hC
  have G2 := Lib.hid g2
  have Y2 := Lib.hid y2
  obtain ⟨F, hF⟩ : ∃ F, F = rd_T42 fs (i : Int) := ⟨_, rfl⟩
  rw [← hF] at y0 y1 y2 l2 G2 Y2 HL hLn ⊢
  have HI := Lib.hid hi
  have lt2 := World.block_lt_of_cell? _ _ y2
  have c_i : (0 : Int) ≤ (i : Int) := Int.natCast_nonneg i
  have c_l : (i : Int) < (fs.length : Int) := by omega
  clear hfun hf ekl hF y0 y1 g2 hC hi
  go_enter Try.func30, Try.ntmps30
  go_wp2_with (first
    | ((with_reducible refine gate_dst (N := 3) rfl ?_); refine box_event ?hg (N := 3) ?hd (cs := #[.slice (some ad) fs.length c]) (t := 24) ?hr ?_; (case hd => rfl); (case hg => rfl); (case hr => first | (go_simp; done) | (go_simp; rfl)); intro g3 hg w1 hx hb; have y2 := (hb.cell lt2).trans Y2.out; have HB := Lib.hid (below_step HB.out hb); have B3 := Lib.hid (One.mk hx); clear hx hb hg; obtain ⟨c3_0, _⟩ := B3.out.c)
    | (go_at_call 40; ((with_reducible refine (r04_List.calls kl _ A2 c2 F.f2 _ _ (Kd.V_mk l2 (Kd.F_below (Kd.C_F k55_heap G2.out) HB.out)) HL.out).mono ?_)); rintro e w2 ⟨v, rfl, hN, hb⟩; obtain ⟨AL, cL, rfl⟩ := Kd.N_slice hN; have HCL := Lib.hid (Kd.N_reads' hN).2.1; have KL := Lib.hid (Kd.N_reads' hN).2.2; clear c3_0 y2; have B3 := Lib.hid (B3.out.below hb); have HB := Lib.hid (below_step HB.out hb); clear hb hN; obtain ⟨c3_0, _⟩ := B3.out.c))
  obtain ⟨L, hL⟩ : ∃ L, L = flat F.f2 := ⟨_, rfl⟩
  rw [← hL] at hLn HCL KL ⊢
  have HLL := Lib.hid hL
  clear hL HL
  go_loopg [8] L.length (fun kq v8 w' => ∃ j : Nat, j + kq = L.length ∧ v8 = .int .i64 j ∧ Hid (leads fs (L.drop j) g = leads fs L g) ∧ Hid (Below w.heap.size w w') ∧ Hid (One w' g3 (.slice (some ad) fs.length c) 24) ∧ Hid (Kd.C k55 w' AL L.length L))
  case atStart => exact ⟨0, Nat.zero_add _, rfl, Lib.hid rfl, HB, B3, KL⟩
  case round =>
    obtain ⟨j, hj, rfl, HI2, HB, B3, KL⟩ := hrel
    clear c3_0 y2
    by_cases hlt : j < L.length
    · obtain ⟨ae, A4, c4, A5, c5, A6, c6, A7, c7, eA, x0, x1, x2, x3, _⟩ := at_T55 KL.out (j : Int) (Int.natCast_nonneg j) (Int.ofNat_lt.2 hlt)
      subst eA
      rw [Int.toNat_natCast] at x0 x1 x2 x3
      have ltx := World.block_lt_of_cell? _ _ x0
      have lty := World.block_lt_of_cell? _ _ x3
      obtain ⟨c3_0, _⟩ := B3.out.c
      have lt3 := World.block_lt_of_cell? _ _ c3_0
      have K0r := Lib.hid (Kd.C_below K0.out HB.out)
      have hw := pz2 j (Nat.le_trans (Nat.le_of_lt hlt) (Nat.le_trans hLn.out (by decide)))
      have c_j : (0 : Int) ≤ (j : Int) := Int.natCast_nonneg j
      have c_n : (j : Int) < (L.length : Int) := Int.ofNat_lt.2 hlt
      have hd := Lib.hid (rd_drop L j hlt)
      have hB0 : Below wr.heap.size wr wr := Below.refl _ _
      obtain ⟨k1, rfl⟩ : ∃ k1, gk = k1 + 1 := Nat.exists_eq_add_one_of_ne_zero (by rintro rfl; exact absurd hj (Nat.ne_of_lt hlt))
      clear x1 x2
      by_cases h6 : (rd_T55 L (j : Int)).f0 = 6
      · have b6 : ((rd_T55 L (j : Int)).f0 == 6) = true := by simpa using h6
        have hres := Lib.hid (show leads fs L g = true by rw [← HI2.out, hd.out]; unfold leads; rw [List.any_cons, b6]; rfl)
        clear h6
        go_wp2
        go_quiet (fail)
        go_wp2
        go_ret
        exact ⟨by rw [← HLL.out, hres.out]; rfl, below_step HB.out (by first | assumption | exact pw_below_drewN (Below.refl _ _) _ | exact Below.trans (Below.drew hB0) (hb.mono (Nat.le_refl _)))⟩
      · have b6 : ((rd_T55 L (j : Int)).f0 == 6) = false := by simpa using h6
        clear h6
        by_cases h5 : (rd_T55 L (j : Int)).f0 = 5
        · have b5 : ((rd_T55 L (j : Int)).f0 == 5) = true := by simpa using h5
          obtain ⟨kf, hkf⟩ := HFUN.out (rd_T55 L (j : Int)).f3
          obtain ⟨q, hq⟩ : ∃ q, q = funIx fs (rd_T55 L (j : Int)).f3 := ⟨_, rfl⟩
          rw [← hq] at hkf
          have HKF := Lib.hid hkf
          have HQ := Lib.hid hq
          clear hkf hq h5
          by_cases hg : q = g
          · have bg : (q == g) = true := by simpa using hg
            have hres := Lib.hid (show leads fs L g = true by rw [← HI2.out, hd.out]; unfold leads; rw [List.any_cons, b6, b5, ← HQ.out, bg]; rfl)
            clear hg
            go_wp2
            go_region_held3 (fun w' => w'.cell? (ae.add (j * 8)) = some (.int .i64 (rd_T55 L (j : Int)).f0) ∧ w'.cell? ⟨(ae.add (j * 8)).block, (ae.add (j * 8)).off + 3, none⟩ = some (.string (rd_T55 L (j : Int)).f3) ∧ w'.cell? ⟨g3, 0, none⟩ = some (.slice (some ad) fs.length c) ∧ Below wr.heap.size wr w') (first | exact ⟨x0, x3, c3_0, Below.drew hB0⟩ | exact ⟨(hb.cell ltx).trans x0, (hb.cell (p := ⟨(ae.add (j * 8)).block, (ae.add (j * 8)).off + 3, none⟩) ltx).trans x3, (hb.cell (p := ⟨g3, 0, none⟩) lt3).trans c3_0, Below.trans (Below.drew hB0) (hb.mono (Nat.le_refl _))⟩ | go_keep | (go_split_ands; exact ⟨(hb.cell (Nat.lt_of_lt_of_le ltx (Below.size (by assumption)))).trans (by assumption), (hb.cell (Nat.lt_of_lt_of_le ltx (Below.size (by assumption)))).trans (by assumption), (hb.cell (Nat.lt_of_lt_of_le lt3 (Below.size (by assumption)))).trans (by assumption), Below.trans (by assumption) (hb.mono (Below.size (by assumption)))⟩) | (go_split_ands; exact ⟨by assumption, by assumption, by assumption, Below.drew (by assumption)⟩)) (first | (go_split_ands; go_at_call 41; refine (r05_Fun.calls kf (some ad) c fs (rd_T55 L (j : Int)).f3 q _ (Kd.C_below K0r.out (by assumption)) hc HKF.out).mono ?_; rintro e w3 ⟨rfl, hb⟩))
            go_wp2
            go_ret
            exact ⟨by rw [← HLL.out, hres.out]; rfl, below_step HB.out (by first | assumption | exact pw_below_drewN (Below.refl _ _) _ | exact Below.trans (Below.drew hB0) (hb.mono (Nat.le_refl _)))⟩
          · have bg : (q == g) = false := by simpa using hg
            have hres := Lib.hid (show leads fs (L.drop (j + 1)) g = leads fs L g by rw [← HI2.out, hd.out]; unfold leads; rw [List.any_cons, b6, b5, ← HQ.out, bg]; rfl)
            clear hg
            go_wp2
            go_region_held3 (fun w' => w'.cell? (ae.add (j * 8)) = some (.int .i64 (rd_T55 L (j : Int)).f0) ∧ w'.cell? ⟨(ae.add (j * 8)).block, (ae.add (j * 8)).off + 3, none⟩ = some (.string (rd_T55 L (j : Int)).f3) ∧ w'.cell? ⟨g3, 0, none⟩ = some (.slice (some ad) fs.length c) ∧ Below wr.heap.size wr w') (first | exact ⟨x0, x3, c3_0, Below.drew hB0⟩ | exact ⟨(hb.cell ltx).trans x0, (hb.cell (p := ⟨(ae.add (j * 8)).block, (ae.add (j * 8)).off + 3, none⟩) ltx).trans x3, (hb.cell (p := ⟨g3, 0, none⟩) lt3).trans c3_0, Below.trans (Below.drew hB0) (hb.mono (Nat.le_refl _))⟩ | go_keep | (go_split_ands; exact ⟨(hb.cell (Nat.lt_of_lt_of_le ltx (Below.size (by assumption)))).trans (by assumption), (hb.cell (Nat.lt_of_lt_of_le ltx (Below.size (by assumption)))).trans (by assumption), (hb.cell (Nat.lt_of_lt_of_le lt3 (Below.size (by assumption)))).trans (by assumption), Below.trans (by assumption) (hb.mono (Below.size (by assumption)))⟩) | (go_split_ands; exact ⟨by assumption, by assumption, by assumption, Below.drew (by assumption)⟩)) (first | (go_split_ands; go_at_call 41; refine (r05_Fun.calls kf (some ad) c fs (rd_T55 L (j : Int)).f3 q _ (Kd.C_below K0r.out (by assumption)) hc HKF.out).mono ?_; rintro e w3 ⟨rfl, hb⟩))
            go_wp2
            go_roundg k1
            case measure => exact Nat.lt_succ_self _
            case rel => exact ⟨j + 1, by rw [Nat.add_assoc, Nat.add_comm 1]; exact hj, by first | rw [hw] | simp, hres, Lib.hid (below_step HB.out (by first | assumption | exact pw_below_drewN (Below.refl _ _) _ | exact Below.trans (Below.drew hB0) (hb.mono (Nat.le_refl _)))), Lib.hid (B3.out.below (by first | assumption | exact pw_below_drewN (Below.refl _ _) _ | exact Below.trans (Below.drew hB0) (hb.mono (Nat.le_refl _)))), Lib.hid (Kd.C_below KL.out (by first | assumption | exact pw_below_drewN (Below.refl _ _) _ | exact Below.trans (Below.drew hB0) (hb.mono (Nat.le_refl _))))⟩
        · have b5 : ((rd_T55 L (j : Int)).f0 == 5) = false := by simpa using h5
          have hres := Lib.hid (show leads fs (L.drop (j + 1)) g = leads fs L g by rw [← HI2.out, hd.out]; unfold leads; rw [List.any_cons, b6, b5]; rfl)
          clear h5
          go_wp2
          go_quiet (fail)
          go_wp2
          go_roundg k1
          case measure => exact Nat.lt_succ_self _
          case rel => exact ⟨j + 1, by rw [Nat.add_assoc, Nat.add_comm 1]; exact hj, by first | rw [hw] | simp, hres, Lib.hid (below_step HB.out (by first | assumption | exact pw_below_drewN (Below.refl _ _) _ | exact Below.trans (Below.drew hB0) (hb.mono (Nat.le_refl _)))), Lib.hid (B3.out.below (by first | assumption | exact pw_below_drewN (Below.refl _ _) _ | exact Below.trans (Below.drew hB0) (hb.mono (Nat.le_refl _)))), Lib.hid (Kd.C_below KL.out (by first | assumption | exact pw_below_drewN (Below.refl _ _) _ | exact Below.trans (Below.drew hB0) (hb.mono (Nat.le_refl _))))⟩
    · have hje : j = L.length := Nat.le_antisymm (by rw [← hj]; exact Nat.le_add_right _ _) (Nat.le_of_not_lt hlt)
      have hres := Lib.hid (show leads fs L g = false by rw [← HI2.out, hje, List.drop_of_length_le (Nat.le_refl _)]; rfl)
      go_wp2
      go_ret
      exact ⟨by rw [← HLL.out, hres.out]; rfl, HB.out⟩
end Go.Proofs.Ytdbngbmokgeeiaa.Man

-- Written by wip/xprint.py (the kit's print, run over this seat with some contracts of my own). Not trusted: Lean checks it.
namespace Go.Proofs.Ytdbngbmokgeeiaa.Pr
open Go.RowKit Go.Proofs.YtdbngbmokgeeiaaW.PrintWords Go.Proofs.YtdbngbmokgeeiaaW.PrintLast Go.Proofs.YtdbngbmokgeeiaaW.PrintMore
attribute [local go_sem] max2_int min2_int max_two min_two max_three min_three max_four min_four   -- for this text's walks alone
set_option linter.unusedVariables false
set_option linter.unusedSimpArgs false
open Classical in
noncomputable def r12_calls.f (l0_0 : List (S42)) (a1 : Int) (a2 : Int) : Option (Bool) := if Man.LowP l0_0 ∧ 0 ≤ a1 ∧ a1 < (l0_0.length : Int) then some (Man.leads l0_0 (Man.flat (rd_T42 l0_0 a1).f2) a2) else none
theorem r12_calls.calls (A0_0 : Option Addr) (c0_0 : Nat) (l0_0 : List (S42)) (a1 : Int) (a2 : Int) (r : Bool) (w : World) (hr0_0 : Kd.C k42 w A0_0 l0_0.length l0_0) (hc0_0 : l0_0.length ≤ c0_0) (h : r12_calls.f l0_0 a1 a2 = some r) :
    Calls Try.prog 30 #[.agg #[.slice A0_0 l0_0.length c0_0], .int .i64 a1, .int .i64 a2] w fun e w' => e = .returned (.bool r) ∧ Below w.heap.size w w' :=
  by
  unfold r12_calls.f at h
  split at h
  · next hN =>
    cases h
    obtain ⟨n, rfl⟩ : ∃ n : Nat, a1 = (n : Int) := ⟨a1.toNat, by omega⟩
    exact Man.rcalls_any w l0_0 A0_0 c0_0 hc0_0 hr0_0 hN.1 n (by omega) a2
  · cases h
end Go.Proofs.Ytdbngbmokgeeiaa.Pr

-- Written by wip/xprint.py (the kit's print, run over this seat with some contracts of my own). Not trusted: Lean checks it.
namespace Go.Proofs.Ytdbngbmokgeeiaa.Pr
open Go.RowKit Go.Proofs.YtdbngbmokgeeiaaW.PrintWords Go.Proofs.YtdbngbmokgeeiaaW.PrintLast Go.Proofs.YtdbngbmokgeeiaaW.PrintMore
attribute [local go_sem] max2_int min2_int max_two min_two max_three min_three max_four min_four   -- for this text's walks alone
set_option linter.unusedVariables false
set_option linter.unusedSimpArgs false
mutual
noncomputable def r12_Calls.l0 : Nat → List (List Int) → Int → List (S42) → Option ((List (List Int)))
  | 0, _, _, _ => none
  | k + 1, x3, x4, x251000 => if x4 < (x251000.length : Int) then (r12_Calls.l1 k x3 x4 (([] : List Int)) 0 x251000) else (some x3)
noncomputable def r12_Calls.l1 : Nat → List (List Int) → Int → List Int → Int → List (S42) → Option ((List (List Int)))
  | 0, _, _, _, _, _ => none
  | k + 1, x3, x4, x5, x6, x251000 => if x6 < (x251000.length : Int) then ((r12_calls.f x251000 x4 x6).bind fun t257 => (if t257 = true then (if x5.length < 17592186044416 then (r12_Calls.l1 k x3 x4 (x5 ++ [x6]) (wrap64 (x6 + 1)) x251000) else (none)) else (r12_Calls.l1 k x3 x4 x5 (wrap64 (x6 + 1)) x251000))) else (if x3.length < 5864062014805 then (r12_Calls.l0 k (x3 ++ [x5]) (wrap64 (x4 + 1)) x251000) else (none))
end
noncomputable def r12_Calls.f (k : Nat) (l0_0 : List (S42)) : Option ((List (List Int))) := r12_Calls.l0 k (([] : List (List Int))) 0 l0_0
set_option maxHeartbeats 8000000 in
set_option maxRecDepth 100000 in
theorem r12_Calls.calls (k : Nat) (A0_0 : Option Addr) (c0_0 : Nat) (l0_0 : List (S42)) (r : List (List Int)) (w : World) (hr0_0 : Kd.C k42 w A0_0 l0_0.length l0_0) (hc0_0 : l0_0.length ≤ c0_0) (h : r12_Calls.f k l0_0 = some r) :
    Calls Try.prog 12 #[.agg #[.slice A0_0 l0_0.length c0_0]] w fun e w' => ∃ v0_ : Value, e = .returned (v0_) ∧ Kd.S (Kd.slice 3 (Kd.int .i64)) 32 w' w.heap.size (fun _ => True) v0_ r ∧ Below w.heap.size w w' := by
 have hu24 := Try.underlying24
 have HR0_0 := Aside0.mk hr0_0
 have HC0_0 := Aside0.mk hc0_0
 clear hr0_0 hc0_0
 have HB := Aside0.mk (Below.refl w.heap.size w)
 have H : (r12_Calls.l0 k (([] : List (List Int))) 0 l0_0) = some r := h
 clear h
 obtain ⟨y251, hy251⟩ : ∃ y_ : List (List Int), y_ = (([] : List (List Int))) := ⟨_, rfl⟩
 replace H : (r12_Calls.l0 k y251 0 l0_0) = some r := by first | (rw [hy251]; with_reducible exact H) | (have H2_ := (Option.bind_some _ _).symm.trans H; rw [hy251]; with_reducible exact H2_) | (have H2_ := (Option.bind_some _ _).symm.trans H; with_reducible exact H2_) | with_reducible exact H | (rw [hy251]; exact H) | exact H
 have Ny251 := Aside0.mk hy251
 clear hy251
 have H' := Aside0.mk H
 clear H
 go_enter Try.func12, Try.ntmps12
 go_wp2_with (first | ((with_reducible refine gate_dst (N := 1) rfl ?_); refine box_event ?hg (N := 1) ?hd (cs := #[.slice A0_0 l0_0.length c0_0]) (t := 24) ?hr ?_; (case hd => rfl); (case hg => rfl); (case hr => first | (go_simp; done) | (go_simp; rfl)); intro gb250 hg w2 hbox hb; have n0_ := Aside0.mk (below_step (by repeat (first | (with_reducible first | exact HB.out | apply below_alloc | apply pw_below_drewN | apply below_drew1) | exact HB.out)) hb); have n1_ := Aside0.mk (hbox); have n2_ := Aside0.mk ((by rw [hg]; exact (below_size (by repeat (first | (with_reducible first | exact HB.out | apply below_alloc | apply pw_below_drewN | apply below_drew1) | exact HB.out))) : w.heap.size ≤ gb250)); have n3_ := Aside0.mk ((by rw [hg]; exact (below_size (by repeat (first | (with_reducible first | exact HB.out | apply below_alloc | apply pw_below_drewN | apply below_drew1) | exact HB.out))) : w.heap.size ≤ gb250)); clear HB; have HB := n0_; have BK250 := n1_; have GW250 := n2_; have GE250 := n3_; clear n0_ n1_ n2_ n3_; clear hb hbox hg) | ((with_reducible refine gate_dst (N := 7) rfl ?_); refine Kd.S_lit (Kd.slice 3 (Kd.int .i64)) _ 32 ?hg (N := 7) ?hd (xs := ([] : List (List Int))) (inner := []) (ok := fun _ => True) (okp := fun _ => True) ?hr ?hp (fun _ hk => hk) trivial (Below.refl _ _) (Nat.le_refl _) (by simp) ?_; (case hd => rfl); (case hg => rfl); (case hr => first | (go_simp; done) | (go_simp; rfl)); (case hp => exact (Reps.none _ _)); intro v252 w3 ho4 hb hg_ hnew_; clear hg_ hnew_; (first | rw [← Ny251.out] at ho4 | (simp only [Int.reduceToNat] at ho4; rw [← Ny251.out] at ho4)); have n0_ := Aside0.mk (Kd.S_lower ho4 (below_size (by repeat (first | (with_reducible first | exact HB.out | apply below_alloc | apply pw_below_drewN | apply below_drew1 | refine below_set ?_ GE250.out) | exact HB.out)))); have n1_ := Aside0.mk (blk_below (g := gb250) (o := .cells #[.slice A0_0 l0_0.length c0_0] 24 (0, 0)) (by (with_reducible repeat (first | refine blk_drewN ?_ _ | refine blk_drew ?_ | refine blk_alloc ?_ _)); exact BK250.out) hb); have n2_ := Aside0.mk (below_step (by repeat (first | (with_reducible first | exact HB.out | apply below_alloc | apply pw_below_drewN | apply below_drew1 | refine below_set ?_ GE250.out) | exact HB.out)) hb); clear BK250; clear HB; have HO253 := n0_; have BK250 := n1_; have HB := n2_; clear n0_ n1_ n2_; clear hb ho4))
 go_loopg [3, 4] k (fun kq v3 v4 w' => ∃ (x3_1 : List (List Int)) (x4_1 : Int), v4 = .int .i64 x4_1 ∧ Aside0 (r12_Calls.l0 kq x3_1 x4_1 l0_0 = some r) ∧ Aside0 (kq ≤ k) ∧ Aside0 (Kd.S (Kd.slice 3 (Kd.int .i64)) 32 w' w.heap.size (fun _ => True) v3 x3_1) ∧ Aside0 (w'.heap[gb250]? = some (.cells #[(.slice A0_0 l0_0.length c0_0)] 24 (0, 0))) ∧ Aside0 (Below w.heap.size w w'))
 case atStart => exact ⟨(y251), (0), (by first | rfl | (simp; done) | (simp [*]; done)), H', ⟨Nat.le_refl _⟩, ⟨by (with_reducible repeat (first | apply Kd.S_alloc | apply Kd.S_drewN | apply Kd.S_drew)); exact HO253.out⟩, ⟨by (with_reducible repeat (first | refine blk_drewN ?_ _ | refine blk_drew ?_ | refine blk_alloc ?_ _)); exact BK250.out⟩, ⟨by repeat (first | (with_reducible first | exact HB.out | apply below_alloc | apply pw_below_drewN | apply below_drew1 | refine below_set ?_ GE250.out) | exact HB.out)⟩⟩
 case round =>
  clear H'
  try clear c1
  try clear p2
  obtain ⟨x3_1, x4_1, rfl, HA, HK1, HO_3, BK250, HB⟩ := hrel
  cases gk with
  | zero => exact absurd HA.out (by simp [r12_Calls.l0])
  | succ k1 =>
   have H := HA.out
   clear HA
   simp only [r12_Calls.l0] at H
   by_cases c5 : x4_1 < (l0_0.length : Int)
   ·rw [if_pos c5] at H
    have c5b0 : decide (x4_1 < (l0_0.length : Int)) = true := decide_eq_true c5
    clear c5
    obtain ⟨y254, hy254⟩ : ∃ y_ : List Int, y_ = (([] : List Int)) := ⟨_, rfl⟩
    replace H : (r12_Calls.l1 k1 x3_1 x4_1 y254 0 l0_0) = some r := by first | (rw [hy254]; with_reducible exact H) | (have H2_ := (Option.bind_some _ _).symm.trans H; rw [hy254]; with_reducible exact H2_) | (have H2_ := (Option.bind_some _ _).symm.trans H; with_reducible exact H2_) | with_reducible exact H | (rw [hy254]; exact H) | exact H
    have Ny254 := Aside0.mk hy254
    clear hy254
    have H' := Aside0.mk H
    clear H
    have hcz6_0 : wr.cell? ⟨gb250, 0, none⟩ = some (.slice A0_0 l0_0.length c0_0) := (blk_cell BK250.out 0).trans rfl
    have hfz6_0 := blk_frozen BK250.out 0
    go_wp2_with (first | ((with_reducible refine gate_dst (N := 15) rfl ?_); refine Kd.R_lit (Kd.int .i64) _ 3 ?hg (N := 15) ?hd (xs := ([] : List Int)) (inner := []) (ok := fun _ => True) (okp := fun _ => True) ?hr ?hp (fun _ hk => hk) trivial (Below.refl _ _) (Nat.le_refl _) (by simp) ?_; (case hd => rfl); (case hg => rfl); (case hr => first | (go_simp; done) | (go_simp; rfl)); (case hp => exact (Reps.none _ _)); intro v255 w7 ho8 hb hg_ hnew_; clear hg_ hnew_; (first | rw [← Ny254.out] at ho8 | (simp only [Int.reduceToNat] at ho8; rw [← Ny254.out] at ho8)); have n0_ := Aside0.mk (Kd.S_elder' (by (with_reducible repeat (first | apply Kd.S_alloc | apply Kd.S_drewN | apply Kd.S_drew)); exact HO_3.out) (Kd.R_base ho8) hb); have n1_ := Aside0.mk (Kd.R_lower ho8 (below_size (by repeat (first | (with_reducible first | exact HB.out | apply below_alloc | apply pw_below_drewN | apply below_drew1 | refine below_set ?_ GE250.out) | exact HB.out)))); have n2_ := Aside0.mk (blk_below (g := gb250) (o := .cells #[.slice A0_0 l0_0.length c0_0] 24 (0, 0)) (by (with_reducible repeat (first | refine blk_drewN ?_ _ | refine blk_drew ?_ | refine blk_alloc ?_ _)); exact BK250.out) hb); have n3_ := Aside0.mk (below_step (by repeat (first | (with_reducible first | exact HB.out | apply below_alloc | apply pw_below_drewN | apply below_drew1 | refine below_set ?_ GE250.out) | exact HB.out)) hb); clear HO_3; clear BK250; clear HB; have HO_3 := n0_; have HO256 := n1_; have BK250 := n2_; have HB := n3_; clear n0_ n1_ n2_ n3_; clear hb ho8))
    go_loopg [5, 6] k1 (fun kq v5 v6 w' => ∃ (x5_2 : List Int) (x6_2 : Int), v6 = .int .i64 x6_2 ∧ Aside0 (r12_Calls.l1 kq x3_1 x4_1 x5_2 x6_2 l0_0 = some r) ∧ Aside0 (kq ≤ k1) ∧ Aside0 (Kd.S (Kd.slice 3 (Kd.int .i64)) 32 w' w.heap.size (fun k_ => some k_ ≠ (v5 : Value).ownBlock) u3 x3_1) ∧ Aside0 (Kd.R (Kd.int .i64) 3 w' w.heap.size (fun _ => True) v5 x5_2) ∧ Aside0 (w'.heap[gb250]? = some (.cells #[(.slice A0_0 l0_0.length c0_0)] 24 (0, 0))) ∧ Aside0 (Below w.heap.size w w'))
    case atStart => exact ⟨(y254), (0), (by first | rfl | (simp; done) | (simp [*]; done)), H', ⟨Nat.le_refl _⟩, ⟨by (with_reducible repeat (first | apply Kd.S_alloc | apply Kd.S_drewN | apply Kd.S_drew)); exact Kd.S_mono HO_3.out (fun _ hk => hk.2)⟩, ⟨by (with_reducible repeat (first | apply Kd.R_alloc | apply Kd.R_drewN | apply Kd.R_drew)); exact HO256.out⟩, ⟨by (with_reducible repeat (first | refine blk_drewN ?_ _ | refine blk_drew ?_ | refine blk_alloc ?_ _)); exact BK250.out⟩, ⟨by repeat (first | (with_reducible first | exact HB.out | apply below_alloc | apply pw_below_drewN | apply below_drew1 | refine below_set ?_ GE250.out) | exact HB.out)⟩⟩
    case round =>
     clear H'
     try clear c1
     try clear p2
     try clear c5
     try clear c5b0
     try clear hcz6_0
     try clear hfz6_0
     try clear p2
     obtain ⟨x5_2, x6_2, rfl, HA, HK2, HO_3, HO_5, BK250, HB⟩ := hrel
     cases gk with
     | zero => exact absurd HA.out (by simp [r12_Calls.l1])
     | succ k2 =>
      have H := HA.out
      clear HA
      simp only [r12_Calls.l1] at H
      by_cases c9 : x6_2 < (l0_0.length : Int)
      ·rw [if_pos c9] at H
       have c9b0 : decide (x6_2 < (l0_0.length : Int)) = true := decide_eq_true c9
       clear c9
       replace H := Option.bind_eq_some_iff.mp H
       obtain ⟨t257, A100, H⟩ := H
       replace H : (if t257 = true then (if x5_2.length < 17592186044416 then (r12_Calls.l1 k2 x3_1 x4_1 (x5_2 ++ [x6_2]) (wrap64 (x6_2 + 1)) l0_0) else (none)) else (r12_Calls.l1 k2 x3_1 x4_1 x5_2 (wrap64 (x6_2 + 1)) l0_0)) = some r := H
       have A10 := Aside0.mk A100
       clear A100
       by_cases c11 : t257 = true
       ·subst c11
        have H1 : (if x5_2.length < 17592186044416 then (r12_Calls.l1 k2 x3_1 x4_1 (x5_2 ++ [x6_2]) (wrap64 (x6_2 + 1)) l0_0) else (none)) = some r := by rw [if_pos rfl] at H; exact H
        clear H
        have H := H1
        clear H1
        by_cases c12 : x5_2.length < 17592186044416
        ·rw [if_pos c12] at H
         have LMc12 := Aside0.mk c12
         clear c12
         obtain ⟨y258, hy258⟩ : ∃ y_ : List Int, y_ = (x5_2 ++ [x6_2]) := ⟨_, rfl⟩
         replace H : (r12_Calls.l1 k2 x3_1 x4_1 y258 (wrap64 (x6_2 + 1)) l0_0) = some r := by first | (rw [hy258]; with_reducible exact H) | (have H2_ := (Option.bind_some _ _).symm.trans H; rw [hy258]; with_reducible exact H2_) | (have H2_ := (Option.bind_some _ _).symm.trans H; with_reducible exact H2_) | with_reducible exact H | (rw [hy258]; exact H) | exact H
         have Ny258 := Aside0.mk hy258
         clear hy258
         have H' := Aside0.mk H
         clear H
         have hcz13_0 : wr.cell? ⟨gb250, 0, none⟩ = some (.slice A0_0 l0_0.length c0_0) := (blk_cell BK250.out 0).trans rfl
         have hfz13_0 := blk_frozen BK250.out 0
         go_wp2_with (first | ((with_reducible refine gate_callee (f := 30) rfl ?_); refine goesL_ (some 26) rfl rfl Try.func30 (by kernel_rfl) rfl #[.agg #[.slice A0_0 l0_0.length c0_0], .int .i64 x4_1, .int .i64 x6_2] rfl (by (try simp only [List.map_toArray, List.map_cons, List.map_nil]); first | done | rfl | (simp only [List.length_drop, List.length_take]; rfl)) ?_; (with_reducible refine (r12_calls.calls _ _ l0_0 x4_1 x6_2 true _ ?side1 ?side2 A10.out).mono ?_); (case side1 => repeat (first | exact (Kd.C_below HR0_0.out HB.out) | (with_reducible refine Kd.C_alloc ?_ _) | (with_reducible refine Kd.C_drewN ?_ _) | (with_reducible refine Kd.C_drew ?_))); (case side2 => exact HC0_0.out); rintro e w14 ⟨rfl, hb⟩; refine ⟨_, rfl, ?_⟩; have n0_ := Aside0.mk (Kd.S_below (by (with_reducible repeat (first | apply Kd.S_alloc | apply Kd.S_drewN | apply Kd.S_drew)); exact HO_3.out) hb); have n1_ := Aside0.mk (Kd.R_below (by (with_reducible repeat (first | apply Kd.R_alloc | apply Kd.R_drewN | apply Kd.R_drew)); exact HO_5.out) hb); have n2_ := Aside0.mk (blk_below (g := gb250) (o := .cells #[.slice A0_0 l0_0.length c0_0] 24 (0, 0)) (by (with_reducible repeat (first | refine blk_drewN ?_ _ | refine blk_drew ?_ | refine blk_alloc ?_ _)); exact BK250.out) hb); have n3_ := Aside0.mk (below_step (by repeat (first | (with_reducible first | exact HB.out | apply below_alloc | apply pw_below_drewN | apply below_drew1 | refine below_set ?_ GE250.out) | exact HB.out)) hb); clear HO_3; clear HO_5; clear BK250; clear HB; have HO_3 := n0_; have HO_5 := n1_; have BK250 := n2_; have HB := n3_; clear n0_ n1_ n2_ n3_; (try clear hb); (try clear hb2); (try clear hk); (try clear hi)) | ((with_reducible refine gate_builtin (b := .append) (xs := #[.tmp 27, .tmp 29]) rfl ?_); at_builtin; refine Kd.R_append (Kd.int .i64) (w0 := w) w.heap.size rfl (.tmp 27) (.tmp 29) 32 3 (.int .i64 0) 8 rfl Try.underlying32 info3 rfl (by decide) (by omega) u5 x5_2 x6_2 [.int .i64 x6_2] (fun _ => True) (fun _ => False) rfl rfl ?aP (fun _ hk => hk.elim) ?aF ?aO ?aB ?aS ?aL ?_; (case aP => exact rfl); (case aB => exact (by repeat (first | (with_reducible first | exact HB.out | apply below_alloc | apply pw_below_drewN | apply below_drew1 | refine below_set ?_ GE250.out) | exact HB.out))); (case aF => exact (fun _ _ => trivial)); (case aO => exact (by (with_reducible repeat (first | apply Kd.R_alloc | apply Kd.R_drewN | apply Kd.R_drew)); exact HO_5.out)); (case aS => exact (below_size (by repeat (first | (with_reducible first | exact HB.out | apply below_alloc | apply pw_below_drewN | apply below_drew1 | refine below_set ?_ GE250.out) | exact HB.out)))); (case aL => have := LMc12.out; omega); intro v259 w15 ho hb hg hat; rw [← Ny258.out] at ho; have n0_ := Aside0.mk (Kd.S_after (ok := (fun _ => True)) (by (with_reducible repeat (first | apply Kd.S_alloc | apply Kd.S_drewN | apply Kd.S_drew)); exact Kd.S_mono HO_3.out (fun _ hk => ⟨trivial, hk⟩)) hg hat); have n1_ := Aside0.mk (blk_grown (g := gb250) (o := .cells #[.slice A0_0 l0_0.length c0_0] 24 (0, 0)) (by (with_reducible repeat (first | refine blk_drewN ?_ _ | refine blk_drew ?_ | refine blk_alloc ?_ _)); exact BK250.out) hg (Kd.R_ne HO_5.out BK250.out (by decide))); have n2_ := Aside0.mk (hb); have n3_ := Aside0.mk (ho); clear HO_3; clear BK250; clear HB; clear HO_5; have HO_3 := n0_; have BK250 := n1_; have HB := n2_; have HO260 := n3_; clear n0_ n1_ n2_ n3_; clear ho hb hg hat))
         go_roundg k2
         case measure => have := HK1.out; have := HK2.out; omega
         case rel => exact ⟨(y258), (wrap64 (x6_2 + 1)), (by first | rfl | (simp; done) | (simp [*]; done)), H', ⟨by have := HK1.out; have := HK2.out; omega⟩, ⟨by (with_reducible repeat (first | apply Kd.S_alloc | apply Kd.S_drewN | apply Kd.S_drew)); exact Kd.S_mono HO_3.out (fun _ hk => hk.2)⟩, ⟨by (with_reducible repeat (first | apply Kd.R_alloc | apply Kd.R_drewN | apply Kd.R_drew)); exact HO260.out⟩, ⟨by (with_reducible repeat (first | refine blk_drewN ?_ _ | refine blk_drew ?_ | refine blk_alloc ?_ _)); exact BK250.out⟩, ⟨by repeat (first | (with_reducible first | exact HB.out | apply below_alloc | apply pw_below_drewN | apply below_drew1 | refine below_set ?_ GE250.out) | exact HB.out)⟩⟩
        ·rw [if_neg c12] at H
         exact absurd H (by simp)
       ·replace c11 := Bool.eq_false_iff.mpr c11
        subst c11
        have H1 : (r12_Calls.l1 k2 x3_1 x4_1 x5_2 (wrap64 (x6_2 + 1)) l0_0) = some r := by rw [if_neg (show ¬ (false = true) by decide)] at H; exact H
        clear H
        have H := H1
        clear H1
        have H' := Aside0.mk H
        clear H
        have hcz16_0 : wr.cell? ⟨gb250, 0, none⟩ = some (.slice A0_0 l0_0.length c0_0) := (blk_cell BK250.out 0).trans rfl
        have hfz16_0 := blk_frozen BK250.out 0
        go_wp2_with (first | ((with_reducible refine gate_callee (f := 30) rfl ?_); refine goesL_ (some 26) rfl rfl Try.func30 (by kernel_rfl) rfl #[.agg #[.slice A0_0 l0_0.length c0_0], .int .i64 x4_1, .int .i64 x6_2] rfl (by (try simp only [List.map_toArray, List.map_cons, List.map_nil]); first | done | rfl | (simp only [List.length_drop, List.length_take]; rfl)) ?_; (with_reducible refine (r12_calls.calls _ _ l0_0 x4_1 x6_2 false _ ?side1 ?side2 A10.out).mono ?_); (case side1 => repeat (first | exact (Kd.C_below HR0_0.out HB.out) | (with_reducible refine Kd.C_alloc ?_ _) | (with_reducible refine Kd.C_drewN ?_ _) | (with_reducible refine Kd.C_drew ?_))); (case side2 => exact HC0_0.out); rintro e w17 ⟨rfl, hb⟩; refine ⟨_, rfl, ?_⟩; have n0_ := Aside0.mk (Kd.S_below (by (with_reducible repeat (first | apply Kd.S_alloc | apply Kd.S_drewN | apply Kd.S_drew)); exact HO_3.out) hb); have n1_ := Aside0.mk (Kd.R_below (by (with_reducible repeat (first | apply Kd.R_alloc | apply Kd.R_drewN | apply Kd.R_drew)); exact HO_5.out) hb); have n2_ := Aside0.mk (blk_below (g := gb250) (o := .cells #[.slice A0_0 l0_0.length c0_0] 24 (0, 0)) (by (with_reducible repeat (first | refine blk_drewN ?_ _ | refine blk_drew ?_ | refine blk_alloc ?_ _)); exact BK250.out) hb); have n3_ := Aside0.mk (below_step (by repeat (first | (with_reducible first | exact HB.out | apply below_alloc | apply pw_below_drewN | apply below_drew1 | refine below_set ?_ GE250.out) | exact HB.out)) hb); clear HO_3; clear HO_5; clear BK250; clear HB; have HO_3 := n0_; have HO_5 := n1_; have BK250 := n2_; have HB := n3_; clear n0_ n1_ n2_ n3_; (try clear hb); (try clear hb2); (try clear hk); (try clear hi)))
        go_roundg k2
        case measure => have := HK1.out; have := HK2.out; omega
        case rel => exact ⟨(x5_2), (wrap64 (x6_2 + 1)), (by first | rfl | (simp; done) | (simp [*]; done)), H', ⟨by have := HK1.out; have := HK2.out; omega⟩, ⟨by (with_reducible repeat (first | apply Kd.S_alloc | apply Kd.S_drewN | apply Kd.S_drew)); exact HO_3.out⟩, ⟨by (with_reducible repeat (first | apply Kd.R_alloc | apply Kd.R_drewN | apply Kd.R_drew)); exact HO_5.out⟩, ⟨by (with_reducible repeat (first | refine blk_drewN ?_ _ | refine blk_drew ?_ | refine blk_alloc ?_ _)); exact BK250.out⟩, ⟨by repeat (first | (with_reducible first | exact HB.out | apply below_alloc | apply pw_below_drewN | apply below_drew1 | refine below_set ?_ GE250.out) | exact HB.out)⟩⟩
      ·rw [if_neg c9] at H
       have c9b0 : decide (x6_2 < (l0_0.length : Int)) = false := decide_eq_false c9
       clear c9
       by_cases c18 : x3_1.length < 5864062014805
       ·rw [if_pos c18] at H
        have LMc18 := Aside0.mk c18
        clear c18
        obtain ⟨y261, hy261⟩ : ∃ y_ : List (List Int), y_ = (x3_1 ++ [x5_2]) := ⟨_, rfl⟩
        replace H : (r12_Calls.l0 k2 y261 (wrap64 (x4_1 + 1)) l0_0) = some r := by first | (rw [hy261]; with_reducible exact H) | (have H2_ := (Option.bind_some _ _).symm.trans H; rw [hy261]; with_reducible exact H2_) | (have H2_ := (Option.bind_some _ _).symm.trans H; with_reducible exact H2_) | with_reducible exact H | (rw [hy261]; exact H) | exact H
        have Ny261 := Aside0.mk hy261
        clear hy261
        have H' := Aside0.mk H
        clear H
        have hcz19_0 : wr.cell? ⟨gb250, 0, none⟩ = some (.slice A0_0 l0_0.length c0_0) := (blk_cell BK250.out 0).trans rfl
        have hfz19_0 := blk_frozen BK250.out 0
        obtain ⟨Ao21, co21, eo21⟩ := Kd.R_slice HO_5.out
        subst eo21
        go_wp2_with (first | ((with_reducible refine gate_builtin (b := .append) (xs := #[.tmp 31, .tmp 33]) rfl ?_); at_builtin; refine Kd.S_append (Kd.slice 3 (Kd.int .i64)) (w0 := w) w.heap.size rfl (.tmp 31) (.tmp 33) 27 32 (.slice none 0 0) 24 rfl Try.underlying27 info32 rfl (by decide) (by omega) u3 x3_1 x5_2 [.slice Ao21 x5_2.length co21] (fun _ => True) (fun k_ => some k_ = (.slice Ao21 x5_2.length co21 : Value).ownBlock) rfl rfl ?aP (fun k_ hk_ => ((Kd.R_mono (ok' := fun k_ => ((fun _ => True)) k_ ∧ some k_ ≠ (u3 : Value).ownBlock) (Kd.R_apart' (HO_5.out) (Kd.S_typed HO_3.out) (by decide)) (fun k_ hk => ⟨trivial, hk.2⟩))).1 k_ hk_.symm) ?aF ?aO ?aB ?aS ?aL ?_; (case aP => exact Kd.M_row (Kd.R_mono (Kd.R_tight rfl (Kd.R_mono (ok' := fun k_ => ((fun _ => True)) k_ ∧ some k_ ≠ (u3 : Value).ownBlock) (Kd.R_apart' (HO_5.out) (Kd.S_typed HO_3.out) (by decide)) (fun k_ hk => ⟨trivial, hk.2⟩))) (fun _ h_ => h_))); (case aB => exact (by repeat (first | (with_reducible first | exact HB.out | apply below_alloc | apply pw_below_drewN | apply below_drew1 | refine below_set ?_ GE250.out) | exact HB.out))); (case aF => exact (fun _ _ => trivial)); (case aO => exact (by (with_reducible repeat (first | apply Kd.S_alloc | apply Kd.S_drewN | apply Kd.S_drew)); exact Kd.S_mono HO_3.out (fun k_ hk => ⟨trivial, fun e_ => hk e_⟩))); (case aS => exact (below_size (by repeat (first | (with_reducible first | exact HB.out | apply below_alloc | apply pw_below_drewN | apply below_drew1 | refine below_set ?_ GE250.out) | exact HB.out)))); (case aL => have := LMc18.out; omega); intro v262 w20 ho hb hg hat; rw [← Ny261.out] at ho; have n0_ := Aside0.mk (blk_grown (g := gb250) (o := .cells #[.slice A0_0 l0_0.length c0_0] 24 (0, 0)) (by (with_reducible repeat (first | refine blk_drewN ?_ _ | refine blk_drew ?_ | refine blk_alloc ?_ _)); exact BK250.out) hg (Kd.S_ne HO_3.out BK250.out (by decide))); have n1_ := Aside0.mk (hb); have n2_ := Aside0.mk (ho); clear BK250; clear HB; clear HO_3; clear HO_5; have BK250 := n0_; have HB := n1_; have HO263 := n2_; clear n0_ n1_ n2_; clear ho hb hg hat))
        go_roundg k2
        case measure => have := HK1.out; have := HK2.out; omega
        case rel => exact ⟨(y261), (wrap64 (x4_1 + 1)), (by first | rfl | (simp; done) | (simp [*]; done)), H', ⟨by have := HK1.out; have := HK2.out; omega⟩, ⟨by (with_reducible repeat (first | apply Kd.S_alloc | apply Kd.S_drewN | apply Kd.S_drew)); exact HO263.out⟩, ⟨by (with_reducible repeat (first | refine blk_drewN ?_ _ | refine blk_drew ?_ | refine blk_alloc ?_ _)); exact BK250.out⟩, ⟨by repeat (first | (with_reducible first | exact HB.out | apply below_alloc | apply pw_below_drewN | apply below_drew1 | refine below_set ?_ GE250.out) | exact HB.out)⟩⟩
       ·rw [if_neg c18] at H
        exact absurd H (by simp)
   ·rw [if_neg c5] at H
    have c5b0 : decide (x4_1 < (l0_0.length : Int)) = false := decide_eq_false c5
    clear c5
    obtain rfl := Option.some.inj H
    have hcz22_0 : wr.cell? ⟨gb250, 0, none⟩ = some (.slice A0_0 l0_0.length c0_0) := (blk_cell BK250.out 0).trans rfl
    have hfz22_0 := blk_frozen BK250.out 0
    go_wp2
    go_ret
    exact ⟨_, by first | rfl | (simp [errW_none, errW_some] <;> rfl) | (simp [*, errW_none, errW_some] <;> rfl), by (with_reducible repeat (first | apply Kd.S_alloc | apply Kd.S_drewN | apply Kd.S_drew)); exact HO_3.out, by repeat (first | (with_reducible first | exact HB.out | apply below_alloc | apply pw_below_drewN | apply below_drew1 | refine below_set ?_ GE250.out) | exact HB.out)⟩
mutual
def graph_Turn.l0 : Nat → List (List Int) → List (List Int) → Int → Int → Option ((List (List Int)))
  | 0, _, _, _, _ => none
  | k + 1, x3, x14, x15, x16 => if x16 < x15 then (if 0 ≤ x16 then (if x16 < (x14.length : Int) then (graph_Turn.l1 k x3 x16 x14 x15 x16 (rd_L9 x14 x16) ((rd_L9 x14 x16).length : Int) 0) else (none)) else (none)) else (some x3)
def graph_Turn.l1 : Nat → List (List Int) → Int → List (List Int) → Int → Int → List Int → Int → Int → Option ((List (List Int)))
  | 0, _, _, _, _, _, _, _, _ => none
  | k + 1, x3, x4, x14, x15, x16, x21, x22, x23 => if x23 < x22 then (if 0 ≤ x23 then (if x23 < (x21.length : Int) then (if 0 ≤ (rd x21 x23) then (if (rd x21 x23) < (x3.length : Int) then (if (rd_L9 x3 (rd x21 x23)).length < 17592186044416 then (graph_Turn.l1 k (x3.set ((rd x21 x23) : Int).toNat ((rd_L9 x3 (rd x21 x23)) ++ [x4])) x4 x14 x15 x16 x21 x22 (wrap64 (x23 + 1))) else (none)) else (none)) else (none)) else (none)) else (none)) else (graph_Turn.l0 k x3 x14 x15 (wrap64 (x16 + 1)))
end
def graph_Turn.f (k : Nat) (l0 : List (List Int)) : Option ((List (List Int))) := (graph_May.f k l0).bind fun t264 => (if t264 = true then (if 0 ≤ (l0.length : Int) then (if ((l0.length : Int) : Int).toNat ≤ 11728124029610 then (graph_Turn.l0 k (List.replicate ((l0.length : Int) : Int).toNat []) l0 (l0.length : Int) 0) else (none)) else (none)) else (some ([] : List (List Int))))
set_option maxHeartbeats 8000000 in
set_option maxRecDepth 100000 in
theorem graph_Turn.calls (k : Nat) (A0 : Option Addr) (c0 : Nat) (l0 : List (List Int)) (r : List (List Int)) (w : World) (hr0 : Kd.C (Kd.slice 3 (Kd.int .i64)) w A0 l0.length l0) (hc0 : l0.length ≤ c0) (h : graph_Turn.f k l0 = some r) :
    Calls Try.prog 19 #[.slice A0 l0.length c0] w fun e w' => ∃ v0_ : Value, e = .returned (v0_) ∧ Kd.S (Kd.slice 3 (Kd.int .i64)) 32 w' w.heap.size (fun _ => True) v0_ r ∧ Below w.heap.size w w' := by
 have HR0 := Aside0.mk hr0
 have HC0 := Aside0.mk hc0
 clear hr0 hc0
 have HB := Aside0.mk (Below.refl w.heap.size w)
 have H : ((graph_May.f k l0).bind fun t264 => (if t264 = true then (if 0 ≤ (l0.length : Int) then (if ((l0.length : Int) : Int).toNat ≤ 11728124029610 then (graph_Turn.l0 k (List.replicate ((l0.length : Int) : Int).toNat []) l0 (l0.length : Int) 0) else (none)) else (none)) else (some ([] : List (List Int))))) = some r := h
 clear h
 replace H := Option.bind_eq_some_iff.mp H
 obtain ⟨t264, A20, H⟩ := H
 replace H : (if t264 = true then (if 0 ≤ (l0.length : Int) then (if ((l0.length : Int) : Int).toNat ≤ 11728124029610 then (graph_Turn.l0 k (List.replicate ((l0.length : Int) : Int).toNat []) l0 (l0.length : Int) 0) else (none)) else (none)) else (some ([] : List (List Int)))) = some r := H
 have A2 := Aside0.mk A20
 clear A20
 by_cases c3 : t264 = true
 ·subst c3
  have H1 : (if 0 ≤ (l0.length : Int) then (if ((l0.length : Int) : Int).toNat ≤ 11728124029610 then (graph_Turn.l0 k (List.replicate ((l0.length : Int) : Int).toNat []) l0 (l0.length : Int) 0) else (none)) else (none)) = some r := by rw [if_pos rfl] at H; exact H
  clear H
  have H := H1
  clear H1
  by_cases c4 : 0 ≤ (l0.length : Int)
  ·rw [if_pos c4] at H
   have c4b0 := eq_true c4
   have c4b1 : decide (0 ≤ (l0.length : Int)) = true := decide_eq_true c4
   clear c4
   by_cases c5 : ((l0.length : Int) : Int).toNat ≤ 11728124029610
   ·rw [if_pos c5] at H
    have c5b0 := eq_true c5
    have c5b1 : decide (((l0.length : Int) : Int).toNat ≤ 11728124029610) = true := decide_eq_true c5
    clear c5
    obtain ⟨y265, hy265⟩ : ∃ y_ : List (List Int), y_ = (List.replicate ((l0.length : Int) : Int).toNat []) := ⟨_, rfl⟩
    replace H : (graph_Turn.l0 k y265 l0 (l0.length : Int) 0) = some r := by first | (rw [hy265]; with_reducible exact H) | (have H2_ := (Option.bind_some _ _).symm.trans H; rw [hy265]; with_reducible exact H2_) | (have H2_ := (Option.bind_some _ _).symm.trans H; with_reducible exact H2_) | with_reducible exact H | (rw [hy265]; exact H) | exact H
    have Ny265 := Aside0.mk hy265
    clear hy265
    have H' := Aside0.mk H
    clear H
    go_enter Try.func19, Try.ntmps19
    go_wp2_with (first | ((with_reducible refine gate_callee (f := 13) rfl ?_); refine goesL_ (some 9) rfl rfl Try.func13 (by kernel_rfl) rfl #[.slice A0 l0.length c0] rfl (by (try simp only [List.map_toArray, List.map_cons, List.map_nil]); first | done | rfl | (simp only [List.length_drop, List.length_take]; rfl)) ?_; (with_reducible refine (graph_May.calls k _ _ l0 true _ ?side1 ?side2 A2.out).mono ?_); (case side1 => repeat (first | exact HR0.out | (with_reducible refine Kd.C_alloc ?_ _) | (with_reducible refine Kd.C_drewN ?_ _) | (with_reducible refine Kd.C_drew ?_))); (case side2 => exact HC0.out); rintro e w' ⟨rfl, ⟨nd, rfl⟩⟩; refine ⟨_, rfl, ?_⟩) | ((with_reducible refine gate_dst (N := 13) rfl ?_); refine Kd.S_make (Kd.slice 3 (Kd.int .i64)) _ 32 rfl (N := 13) rfl 27 _ _ rfl (l0.length : Int) rfl rfl Try.underlying27 (.slice none 0 0) 24 info32 rfl (by decide) (by omega) [] (ok := fun _ => True) (okp := fun _ => True) ⟨_, rfl, Kd.R_nil _ _ _ _ _⟩ (fun _ hk => hk) trivial (of_decide_eq_true (by first | (with_reducible assumption) | assumption)) (Nat.le_trans (Nat.mul_le_mul_right _ (of_decide_eq_true (by first | (with_reducible assumption) | assumption) : (l0.length : Int).toNat ≤ 11728124029610)) (by omega)) (Below.refl _ _) (Nat.le_refl _) ?_; intro v266 w6 ho7 hb hg_ hnew_; clear hg_ hnew_; (first | rw [← Ny265.out] at ho7 | (simp only [Int.reduceToNat] at ho7; rw [← Ny265.out] at ho7)); have n0_ := Aside0.mk (Kd.S_lower ho7 (below_size (by repeat (first | (with_reducible first | exact HB.out | apply below_alloc | apply pw_below_drewN | apply below_drew1) | exact HB.out)))); have n1_ := Aside0.mk (below_step (by repeat (first | (with_reducible first | exact HB.out | apply below_alloc | apply pw_below_drewN | apply below_drew1) | exact HB.out)) hb); clear HB; have HO267 := n0_; have HB := n1_; clear n0_ n1_; clear hb ho7))
    go_loopg [16] k (fun kq v16 w' => ∃ (x3_1 : List (List Int)) (x16_1 : Int), v16 = .int .i64 x16_1 ∧ Aside0 (graph_Turn.l0 kq x3_1 l0 (l0.length : Int) x16_1 = some r) ∧ Aside0 (kq ≤ k) ∧ Aside0 (Kd.S (Kd.slice 3 (Kd.int .i64)) 32 w' w.heap.size (fun _ => True) v266 x3_1) ∧ Aside0 (Below w.heap.size w w'))
    case atStart => exact ⟨(y265), (0), (by first | rfl | (simp; done) | (simp [*]; done)), H', ⟨Nat.le_refl _⟩, ⟨by (with_reducible repeat (first | apply Kd.S_alloc | apply Kd.S_drewN | apply Kd.S_drew)); exact HO267.out⟩, ⟨by repeat (first | (with_reducible first | exact HB.out | apply below_alloc | apply pw_below_drewN | apply below_drew1) | exact HB.out)⟩⟩
    case round =>
     clear H'
     try clear c1
     try clear p2
     try clear c3
     try clear c4
     try clear c4b0
     try clear c4b1
     try clear c5
     try clear c5b0
     try clear c5b1
     obtain ⟨x3_1, x16_1, rfl, HA, HK1, HO_3, HB⟩ := hrel
     cases gk with
     | zero => exact absurd HA.out (by simp [graph_Turn.l0])
     | succ k1 =>
      have H := HA.out
      clear HA
      simp only [graph_Turn.l0] at H
      by_cases c8 : x16_1 < (l0.length : Int)
      ·rw [if_pos c8] at H
       have c8b0 : decide (x16_1 < (l0.length : Int)) = true := decide_eq_true c8
       clear c8
       by_cases c9 : 0 ≤ x16_1
       ·rw [if_pos c9] at H
        have c9b0 : decide (0 ≤ x16_1) = true := decide_eq_true c9
        clear c9
        by_cases c10 : x16_1 < (l0.length : Int)
        ·rw [if_pos c10] at H
         have c10b0 : decide (x16_1 < (l0.length : Int)) = true := decide_eq_true c10
         clear c10
         have H' := Aside0.mk H
         clear H
         have p268 : 0 ≤ (x16_1 : Int) := of_decide_eq_true (by first | (with_reducible assumption) | assumption)
         have q268 : x16_1 < (l0.length : Int) := of_decide_eq_true (by first | (with_reducible assumption) | assumption)
         obtain ⟨ad268, A268_0, c268_0, e268, hx268_0, hl268_0, hi268_0⟩ := at_L9 HR0.out x16_1 p268 q268
         cases e268
         replace hx268_0 := (HB.out.cell (World.block_lt_of_cell? w _ hx268_0)).trans hx268_0
         have HR268_0 := Aside0.mk hi268_0
         have HC268_0 := Aside0.mk hl268_0
         clear hi268_0 hl268_0
         replace p268 := eq_true p268
         replace q268 := eq_true q268
         go_wp2
         go_loopg [23] k1 (fun kq v23 w' => ∃ (x3_2 : List (List Int)) (x23_2 : Int), v23 = .int .i64 x23_2 ∧ Aside0 (graph_Turn.l1 kq x3_2 x16_1 l0 (l0.length : Int) x16_1 (rd_L9 l0 x16_1) ((rd_L9 l0 x16_1).length : Int) x23_2 = some r) ∧ Aside0 (kq ≤ k1) ∧ Aside0 (Kd.S (Kd.slice 3 (Kd.int .i64)) 32 w' w.heap.size (fun _ => True) v266 x3_2) ∧ Aside0 (Below w.heap.size w w'))
         case atStart => exact ⟨(x3_1), (0), (by first | rfl | (simp; done) | (simp [*]; done)), H', ⟨Nat.le_refl _⟩, ⟨by (with_reducible repeat (first | apply Kd.S_alloc | apply Kd.S_drewN | apply Kd.S_drew)); exact HO_3.out⟩, ⟨by repeat (first | (with_reducible first | exact HB.out | apply below_alloc | apply pw_below_drewN | apply below_drew1) | exact HB.out)⟩⟩
         case round =>
          clear H'
          try clear c1
          try clear c2
          try clear p2
          try clear q2
          try clear hx2
          try clear c3
          try clear c4
          try clear c4b0
          try clear c4b1
          try clear c5
          try clear c5b0
          try clear c5b1
          try clear c8
          try clear c8b0
          try clear c9
          try clear c9b0
          try clear c10
          try clear c10b0
          try clear hx268_0
          try clear p2
          try clear p268
          try clear q268
          obtain ⟨x3_2, x23_2, rfl, HA, HK2, HO_3, HB⟩ := hrel
          cases gk with
          | zero => exact absurd HA.out (by simp [graph_Turn.l1])
          | succ k2 =>
           have H := HA.out
           clear HA
           simp only [graph_Turn.l1] at H
           by_cases c11 : x23_2 < ((rd_L9 l0 x16_1).length : Int)
           ·rw [if_pos c11] at H
            have c11b0 : decide (x23_2 < ((rd_L9 l0 x16_1).length : Int)) = true := decide_eq_true c11
            clear c11
            by_cases c12 : 0 ≤ x23_2
            ·rw [if_pos c12] at H
             have c12b0 : decide (0 ≤ x23_2) = true := decide_eq_true c12
             clear c12
             by_cases c13 : x23_2 < ((rd_L9 l0 x16_1).length : Int)
             ·rw [if_pos c13] at H
              have c13b0 : decide (x23_2 < ((rd_L9 l0 x16_1).length : Int)) = true := decide_eq_true c13
              clear c13
              by_cases c14 : 0 ≤ (rd (rd_L9 l0 x16_1) x23_2)
              ·rw [if_pos c14] at H
               have c14b0 : decide (0 ≤ (rd (rd_L9 l0 x16_1) x23_2)) = true := decide_eq_true c14
               clear c14
               by_cases c15 : (rd (rd_L9 l0 x16_1) x23_2) < (x3_2.length : Int)
               ·rw [if_pos c15] at H
                have c15b0 : decide ((rd (rd_L9 l0 x16_1) x23_2) < (x3_2.length : Int)) = true := decide_eq_true c15
                clear c15
                by_cases c16 : (rd_L9 x3_2 (rd (rd_L9 l0 x16_1) x23_2)).length < 17592186044416
                ·rw [if_pos c16] at H
                 have LMc16 := Aside0.mk c16
                 clear c16
                 obtain ⟨y271, hy271⟩ : ∃ y_ : List Int, y_ = ((rd_L9 x3_2 (rd (rd_L9 l0 x16_1) x23_2)) ++ [x16_1]) := ⟨_, rfl⟩
                 replace H : (graph_Turn.l1 k2 (x3_2.set ((rd (rd_L9 l0 x16_1) x23_2) : Int).toNat y271) x16_1 l0 (l0.length : Int) x16_1 (rd_L9 l0 x16_1) ((rd_L9 l0 x16_1).length : Int) (wrap64 (x23_2 + 1))) = some r := by first | (rw [hy271]; with_reducible exact H) | (have H2_ := (Option.bind_some _ _).symm.trans H; rw [hy271]; with_reducible exact H2_) | (have H2_ := (Option.bind_some _ _).symm.trans H; with_reducible exact H2_) | with_reducible exact H | (rw [hy271]; exact H) | exact H
                 have Ny271 := Aside0.mk hy271
                 clear hy271
                 obtain ⟨y274, hy274⟩ : ∃ y_ : List (List Int), y_ = (x3_2.set ((rd (rd_L9 l0 x16_1) x23_2) : Int).toNat y271) := ⟨_, rfl⟩
                 replace H : (graph_Turn.l1 k2 y274 x16_1 l0 (l0.length : Int) x16_1 (rd_L9 l0 x16_1) ((rd_L9 l0 x16_1).length : Int) (wrap64 (x23_2 + 1))) = some r := by first | (rw [hy274]; with_reducible exact H) | (have H2_ := (Option.bind_some _ _).symm.trans H; rw [hy274]; with_reducible exact H2_) | (have H2_ := (Option.bind_some _ _).symm.trans H; with_reducible exact H2_) | with_reducible exact H | (rw [hy274]; exact H) | exact H
                 have Ny274 := Aside0.mk hy274
                 clear hy274
                 have H' := Aside0.mk H
                 clear H
                 have p269 : 0 ≤ (x23_2 : Int) := of_decide_eq_true (by first | (with_reducible assumption) | assumption)
                 have q269 : x23_2 < ((rd_L9 l0 x16_1).length : Int) := of_decide_eq_true (by first | (with_reducible assumption) | assumption)
                 obtain ⟨ad269, e269, hx269_0⟩ := Kd.at_int HR268_0.out x23_2 p269 q269
                 cases e269
                 replace hx269_0 := (HB.out.cell (World.block_lt_of_cell? w _ hx269_0)).trans hx269_0
                 replace p269 := eq_true p269
                 replace q269 := eq_true q269
                 obtain ⟨Ao18, co18, eo18⟩ := Kd.S_slice HO_3.out
                 subst eo18
                 have p270 : 0 ≤ ((rd (rd_L9 l0 x16_1) x23_2) : Int) := of_decide_eq_true (by first | (with_reducible assumption) | assumption)
                 have q270 : (rd (rd_L9 l0 x16_1) x23_2) < (x3_2.length : Int) := of_decide_eq_true (by first | (with_reducible assumption) | assumption)
                 obtain ⟨ad270, A270_0, c270_0, e270, hx270_0, hl270_0, hi270_0⟩ := at_L9 (Kd.S_reads' HO_3.out).2.2 (rd (rd_L9 l0 x16_1) x23_2) p270 q270
                 cases e270
                 obtain ⟨ce270, hce270, hMe270, hcc270⟩ := Kd.S_get HO_3.out [] (rd (rd_L9 l0 x16_1) x23_2) p270 (by first | exact q270 | exact of_decide_eq_true (by first | (with_reducible assumption) | assumption) | (have e_ := (Kd.S_reads' HO_3.out).1; omega))
                 obtain ⟨ve270_0, rfl, ge270_0⟩ := hMe270
                 have hv270_0 := hcc270 0 _ rfl
                 rw [Nat.add_zero, show ((Kd.slice 3 (Kd.int .i64))).sz = 1 from rfl, Nat.mul_one] at hv270_0
                 replace hv270_0 := Option.some.inj (hv270_0.symm.trans hx270_0)
                 rw [hv270_0] at ge270_0
                 have HL270_0 := Aside0.mk (show Kd.R (Kd.int .i64) 3 _ _ _ _ (rd_L9 x3_2 (rd (rd_L9 l0 x16_1) x23_2)) from ge270_0)
                 clear hv270_0 ge270_0
                 have HX270_0 := Aside0.mk hx270_0
                 clear hcc270 hce270
                 have HR270_0 := Aside0.mk hi270_0
                 have HC270_0 := Aside0.mk hl270_0
                 clear hi270_0 hl270_0
                 replace p270 := eq_true p270
                 replace q270 := eq_true q270
                 obtain ⟨go19, co19, eo19, gb19, gl19, cl19, HG19⟩ := Kd.S_form HO_3.out (by have h_ : ((rd (rd_L9 l0 x16_1) x23_2) : Int) < ((x3_2.length : Int) : Int) := of_decide_eq_true (by first | (with_reducible assumption) | assumption); have h2_ : 0 ≤ ((rd (rd_L9 l0 x16_1) x23_2) : Int) := (of_decide_eq_true (by first | (with_reducible assumption) | assumption)); omega)
                 (first | cases eo19 | (injection eo19 with ea_ en_ ec_; (first | subst ea_ | (injection ea_ with ea_; subst ea_)); subst ec_; clear en_))
                 have GB19 := Aside0.mk gb19
                 have GG19 := Aside0.mk HG19
                 clear gb19 gl19 HG19
                 (first | simp only [add_plain] at hx270_0 | skip)
                 obtain ⟨oki19, ce19, hcl19, hM19, hcc19, _, _, hH19⟩ := Kd.S_elem HO_3.out [] ((rd (rd_L9 l0 x16_1) x23_2) : Int) (of_decide_eq_true (by first | (with_reducible assumption) | assumption)) (by have h_ : ((rd (rd_L9 l0 x16_1) x23_2) : Int) < ((x3_2.length : Int) : Int) := of_decide_eq_true (by first | (with_reducible assumption) | assumption); first | exact h_ | (have e_ := (Kd.S_reads' HO_3.out).1; omega) | simpa using h_)
                 obtain ⟨ve19_0, rfl, ge19_0⟩ := hM19
                 have hv19 := hcc19 0 _ rfl
                 have hX19 := HX270_0.out
                 (try simp only [add_plain] at hX19)
                 (try simp only [Nat.add_zero] at hv19)
                 (try rw [show ((Kd.slice 3 (Kd.int .i64))).sz = 1 from rfl, Nat.mul_one] at hv19)
                 replace hv19 := Option.some.inj (hv19.symm.trans hX19)
                 subst hv19
                 clear hX19 hcc19 hcl19
                 have UU19 := Aside0.mk (show Kd.R (Kd.int .i64) 3 _ w.heap.size oki19 (.slice A270_0 (rd_L9 x3_2 (rd (rd_L9 l0 x16_1) x23_2)).length c270_0) (rd_L9 x3_2 (rd (rd_L9 l0 x16_1) x23_2)) from ge19_0)
                 have HH19 := Aside0.mk hH19
                 have HN19 := Aside0.mk (Kd.S_reads' HO_3.out).1
                 clear hH19 ge19_0
                 go_wp2_with (first | ((with_reducible refine gate_builtin (b := .append) (xs := #[.tmp 32, .tmp 34]) rfl ?_); at_builtin; refine Kd.R_append (Kd.int .i64) (w0 := w) w.heap.size rfl (.tmp 32) (.tmp 34) 32 3 (.int .i64 0) 8 rfl Try.underlying32 info3 rfl (by decide) (by omega) (.slice A270_0 (rd_L9 x3_2 (rd (rd_L9 l0 x16_1) x23_2)).length c270_0) (rd_L9 x3_2 (rd (rd_L9 l0 x16_1) x23_2)) x16_1 [.int .i64 x16_1] (fun k_ => oki19 k_ ∨ ((fun _ => True)) k_ ∧ wr.heap.size ≤ k_) (fun _ => False) rfl rfl ?aP (fun _ hk => hk.elim) ?aF ?aO ?aB ?aS ?aL ?_; (case aP => exact rfl); (case aB => exact (by repeat (first | (with_reducible first | exact HB.out | apply below_alloc | apply pw_below_drewN | apply below_drew1) | exact HB.out))); (case aF => exact (fun k_ hk => .inr ⟨trivial, hk⟩)); (case aO => exact (by (with_reducible repeat (first | apply Kd.R_alloc | apply Kd.R_drewN | apply Kd.R_drew)); exact Kd.R_mono UU19.out (fun _ hk => .inl hk))); (case aS => exact (below_size (by repeat (first | (with_reducible first | exact HB.out | apply below_alloc | apply pw_below_drewN | apply below_drew1) | exact HB.out)))); (case aL => have := LMc16.out; omega); intro v272 w20 ho hb hg hat; rw [← Ny271.out] at ho; have n0_ := Aside0.mk (hb); have n1_ := Aside0.mk (Kd.H_grown (Kd.H_widen (by repeat (first | exact HH19.out | refine Kd.H_alloc ?_ _ | refine Kd.H_drewN ?_ _ | refine Kd.H_drew ?_))) hg (fun k_ e_ => .inl (UU19.out.1 k_ e_))); have n2_ := Aside0.mk (ho); clear HB; clear HH19; clear HO_3; clear UU19; clear HL270_0; have HB := n0_; have HH19 := n1_; have HO273 := n2_; clear n0_ n1_ n2_; clear ho hb hg hat; have p17 : 0 ≤ ((rd (rd_L9 l0 x16_1) x23_2) : Int) := of_decide_eq_true (by first | (with_reducible assumption) | assumption); have q17 : ((rd (rd_L9 l0 x16_1) x23_2) : Int) < ((x3_2.length : Int) : Int) := of_decide_eq_true (by first | (with_reducible assumption) | assumption); replace p17 := eq_true p17; replace q17 := eq_true q17; obtain ⟨Ao23, co23, eo23⟩ := Kd.R_slice HO273.out; subst eo23; obtain ⟨_, _, hraw21, _, _, hcc21, _⟩ := Kd.H_raw HH19.out (of_decide_eq_true (by first | (with_reducible assumption) | assumption)) (by have h_ : ((rd (rd_L9 l0 x16_1) x23_2) : Int) < ((x3_2.length : Int) : Int) := of_decide_eq_true (by first | (with_reducible assumption) | assumption); first | exact h_ | (have e_ := (HN19.out); omega) | simpa using h_); obtain ⟨_, hfr21⟩ := Kd.H_at HH19.out (of_decide_eq_true (by first | (with_reducible assumption) | assumption)) (by have h_ : ((rd (rd_L9 l0 x16_1) x23_2) : Int) < ((x3_2.length : Int) : Int) := of_decide_eq_true (by first | (with_reducible assumption) | assumption); first | exact h_ | (have e_ := (HN19.out); omega) | simpa using h_); have hx21_0 := hcc21 0 _ rfl; have hf21_0 := hfr21 0; (try simp only [Nat.add_zero] at hx21_0 hf21_0); (try rw [show ((Kd.slice 3 (Kd.int .i64))).sz = 1 from rfl, Nat.mul_one] at hx21_0); (try rw [show ((Kd.slice 3 (Kd.int .i64))).sz = 1 from rfl, Nat.mul_one] at hf21_0); have HP21 := Kd.S_seg0 HH19.out (of_decide_eq_true (by first | (with_reducible assumption) | assumption)) (by have h_ : ((rd (rd_L9 l0 x16_1) x23_2) : Int) < ((x3_2.length : Int) : Int) := of_decide_eq_true (by first | (with_reducible assumption) | assumption); first | exact h_ | (have e_ := (HN19.out); omega) | simpa using h_) (seg := [.slice Ao23 y271.length co23]) (j := 0) (show 1 ≤ 1 from by decide) (x' := y271) (Kd.M_row HO273.out) (fun _ hk => hk); (try simp only [show ((Kd.slice 3 (Kd.int .i64))).sz = 1 from rfl, Nat.mul_one, Nat.add_zero] at HP21); clear hcc21 hfr21) | ((with_reducible refine gate_store (t := 32) (p := 36) rfl ?_); refine store_event (t := 32) (p := 36) (v := ?vo_w22) (w1 := (w20.setCell ⟨go19, ((rd (rd_L9 l0 x16_1) x23_2) : Int).toNat, none⟩ (.slice Ao23 y271.length co23))) ?hg ?ho ?hn ?hr ?_; (case ho => rfl); (case hg => rfl); (case hn => rfl); (case hr => first | (go_simp; done) | (go_simp; rfl)); intro w22 hw; have hg : w20.grownBy w22 (some go19) := (by rw [hw]; exact HP21.2); have hp_ : Kd.S (Kd.slice 3 (Kd.int .i64)) 32 w22 w.heap.size (fun _ => True) (.slice (some ⟨go19, 0, none⟩) x3_2.length co18) y274 := (by rw [hw, Ny274.out]; exact HP21.1); clear HP21; have n0_ := Aside0.mk ((by rw [hw]; exact below_set HB.out GB19.out : Below w.heap.size w w22)); have n1_ := Aside0.mk (hp_); clear HB; clear HO273; clear HH19; have HB := n0_; have HO_3 := n1_; clear n0_ n1_; clear hg hw hp_ hraw21))
                 go_roundg k2
                 case measure => have := HK1.out; have := HK2.out; omega
                 case rel => exact ⟨(y274), (wrap64 (x23_2 + 1)), (by first | rfl | (simp; done) | (simp [*]; done)), H', ⟨by have := HK1.out; have := HK2.out; omega⟩, ⟨by (with_reducible repeat (first | apply Kd.S_alloc | apply Kd.S_drewN | apply Kd.S_drew)); exact HO_3.out⟩, ⟨by repeat (first | (with_reducible first | exact HB.out | apply below_alloc | apply pw_below_drewN | apply below_drew1) | exact HB.out)⟩⟩
                ·rw [if_neg c16] at H
                 exact absurd H (by simp)
               ·rw [if_neg c15] at H
                exact absurd H (by simp)
              ·rw [if_neg c14] at H
               exact absurd H (by simp)
             ·rw [if_neg c13] at H
              exact absurd H (by simp)
            ·rw [if_neg c12] at H
             exact absurd H (by simp)
           ·rw [if_neg c11] at H
            have c11b0 : decide (x23_2 < ((rd_L9 l0 x16_1).length : Int)) = false := decide_eq_false c11
            clear c11
            have H' := Aside0.mk H
            clear H
            go_wp2
            go_roundg k2
            case measure => have := HK1.out; have := HK2.out; omega
            case rel => exact ⟨(x3_2), (wrap64 (x16_1 + 1)), (by first | rfl | (simp; done) | (simp [*]; done)), H', ⟨by have := HK1.out; have := HK2.out; omega⟩, ⟨by (with_reducible repeat (first | apply Kd.S_alloc | apply Kd.S_drewN | apply Kd.S_drew)); exact HO_3.out⟩, ⟨by repeat (first | (with_reducible first | exact HB.out | apply below_alloc | apply pw_below_drewN | apply below_drew1) | exact HB.out)⟩⟩
        ·rw [if_neg c10] at H
         exact absurd H (by simp)
       ·rw [if_neg c9] at H
        exact absurd H (by simp)
      ·rw [if_neg c8] at H
       have c8b0 : decide (x16_1 < (l0.length : Int)) = false := decide_eq_false c8
       clear c8
       obtain rfl := Option.some.inj H
       go_wp2
       go_ret
       exact ⟨_, by first | rfl | (simp [errW_none, errW_some] <;> rfl) | (simp [*, errW_none, errW_some] <;> rfl), by (with_reducible repeat (first | apply Kd.S_alloc | apply Kd.S_drewN | apply Kd.S_drew)); exact HO_3.out, by repeat (first | (with_reducible first | exact HB.out | apply below_alloc | apply pw_below_drewN | apply below_drew1) | exact HB.out)⟩
   ·rw [if_neg c5] at H
    exact absurd H (by simp)
  ·rw [if_neg c4] at H
   exact absurd H (by simp)
 ·replace c3 := Bool.eq_false_iff.mpr c3
  subst c3
  have H1 : (some ([] : List (List Int))) = some r := by rw [if_neg (show ¬ (false = true) by decide)] at H; exact H
  clear H
  have H := H1
  clear H1
  obtain rfl := Option.some.inj H
  go_enter Try.func19, Try.ntmps19
  go_wp2_with (first | ((with_reducible refine gate_callee (f := 13) rfl ?_); refine goesL_ (some 9) rfl rfl Try.func13 (by kernel_rfl) rfl #[.slice A0 l0.length c0] rfl (by (try simp only [List.map_toArray, List.map_cons, List.map_nil]); first | done | rfl | (simp only [List.length_drop, List.length_take]; rfl)) ?_; (with_reducible refine (graph_May.calls k _ _ l0 false _ ?side1 ?side2 A2.out).mono ?_); (case side1 => repeat (first | exact HR0.out | (with_reducible refine Kd.C_alloc ?_ _) | (with_reducible refine Kd.C_drewN ?_ _) | (with_reducible refine Kd.C_drew ?_))); (case side2 => exact HC0.out); rintro e w' ⟨rfl, ⟨nd, rfl⟩⟩; refine ⟨_, rfl, ?_⟩))
  go_ret
  exact ⟨_, by first | rfl | (simp [errW_none, errW_some] <;> rfl) | (simp [*, errW_none, errW_some] <;> rfl), by first | exact Kd.S_nil _ _ _ _ _ | exact Kd.N_nil _ _ _ _ _ | exact Kd.V_nil _ _ _ _ _ | exact Kd.Q_nil _ _ _ _ _ | exact Kd.R_nil _ _ _ _ _, by repeat (first | (with_reducible first | exact HB.out | apply below_alloc | apply pw_below_drewN | apply below_drew1) | exact HB.out)⟩
end Go.Proofs.Ytdbngbmokgeeiaa.Pr

namespace Go.Proofs.Ytdbngbmokgeeiaa.Man
open Go.RowKit Go.Proofs.Ytdbngbmokgeeiaa.Pr Go.Proofs.YtdbngbmokgeeiaaW.PrintWords
set_option linter.unusedVariables false
set_option linter.unusedSimpArgs false
theorem rd_lt {r : List Int} {j : Nat} (h : j < r.length) : rd r (j : Int) = r[j] := by
  unfold rd; rw [Int.toNat_natCast, List.getD_eq_getElem?_getD, List.getElem?_eq_getElem h]; rfl
end Go.Proofs.Ytdbngbmokgeeiaa.Man

namespace Go.Proofs.Ytdbngbmokgeeiaa.Man
open Go.RowKit Go.Shelf Go.Proofs.Ytdbngbmokgeeiaa.Pr Go.Proofs.YtdbngbmokgeeiaaW.PrintWords
set_option linter.unusedVariables false
set_option linter.unusedSimpArgs false
structure Fr (S : Nat → Prop) (W W' : World) : Prop where
  size : W.heap.size ≤ W'.heap.size
  block : ∀ k, k < W.heap.size → ¬ S k → W'.heap[k]? = W.heap[k]?
theorem Fr.refl (S : Nat → Prop) (W : World) : Fr S W W := ⟨Nat.le_refl _, fun _ _ _ => rfl⟩
theorem Fr.trans {S S' : Nat → Prop} {X Y Z : World} (h : Fr S X Y) (k : Fr S' Y Z) (hs : ∀ i, i < X.heap.size → S' i → S i) : Fr S X Z :=
  ⟨Nat.le_trans h.size k.size, fun i hi hn => (k.block i (Nat.lt_of_lt_of_le hi h.size) (fun e => hn (hs i hi e))).trans (h.block i hi hn)⟩
theorem Fr.of_below {W W' : World} (S : Nat → Prop) (h : Below W.heap.size W W') : Fr S W W' := ⟨h.size, fun k hk _ => h.block k hk⟩
theorem Fr.of_grown {W W' : World} {row : Option Nat} (h : W.grownBy W' row) : Fr (fun k => some k = row) W W' := ⟨h.size, fun k hk hn => h.block k hk hn⟩
theorem Fr.of_set (W : World) (b : Nat) (v : Value) : Fr (fun k => k = b) W (W.setCell ⟨b, 0, none⟩ v) := ⟨(grownBy_setCell' W b v).size, fun k _ hn => Below.heap_setCell W ⟨b, 0, none⟩ v k hn⟩
theorem Fr.mono {S S' : Nat → Prop} {W W' : World} (h : Fr S W W') (hs : ∀ k, S k → S' k) : Fr S' W W' := ⟨h.size, fun k hk hn => h.block k hk (fun e => hn (hs k e))⟩
theorem Fr.others {S : Nat → Prop} {W W' : World} (h : Fr S W W') (hs : ∀ k o, S k → W.heap[k]? = some o → o.isCells = true) : KeepsOthers W W' :=
  ⟨h.size, fun k o hk ho => (h.block k (Array.getElem?_eq_some_iff.1 hk).1 (fun e => by have := hs k o e hk; rw [ho] at this; cases this)).trans hk⟩
structure OS (w : World) (A : Option Addr) (n c : Nat) (ds : List Nat) (W : World) (vo : Value) (outs : List (List Int)) : Prop where
  be : Below w.heap.size w W
  bp : Boxed W w.heap.size 24 (.slice A n c)
  bo : Boxed W (w.heap.size + 1) 27 vo
  ro : Kd.S (Kd.slice 3 (Kd.int .i64)) 32 W w.heap.size (fun _ => True) vo outs
  df : ∀ D, D ∈ ds → w.heap.size ≤ D ∧ W.heap[D]? = some (.deferred (some []))
structure GS (w : World) (A : Option Addr) (n c bL : Nat) (ds : List Nat) (W : World) (vb vl : Value) (xs : List Int) (vo : Value) (outs : List (List Int)) : Prop where
  be : Below w.heap.size w W
  bp : Boxed W w.heap.size 24 (.slice A n c)
  bo : Boxed W (w.heap.size + 1) 27 vo
  bl : Boxed W bL 32 vb
  lb : w.heap.size + 2 ≤ bL
  rl : W.ownsRow w.heap.size 3 1 vl xs.length (xs.map (Value.int .i64))
  ro : Kd.S (Kd.slice 3 (Kd.int .i64)) 32 W w.heap.size (fun k => k ≠ bL ∧ some k ≠ vl.ownBlock) vo outs
  df : ∀ D, D ∈ ds → w.heap.size ≤ D ∧ W.heap[D]? = some (.deferred (some []))
section
variable {w W W' : World} {A : Option Addr} {n c bL : Nat} {ds : List Nat} {vb vl vo : Value} {xs : List Int} {outs : List (List Int)}
theorem OS.below (h : OS w A n c ds W vo outs) (hb : Below W.heap.size W W') : OS w A n c ds W' vo outs :=
  ⟨h.be.trans (hb.mono h.be.size), (hb.block _ h.bp.lt).trans h.bp, (hb.block _ h.bo.lt).trans h.bo, Kd.S_below h.ro hb, fun D hD => ⟨(h.df D hD).1, (hb.block D (Array.getElem?_eq_some_iff.1 (h.df D hD).2).1).trans (h.df D hD).2⟩⟩
theorem GS.below (h : GS w A n c bL ds W vb vl xs vo outs) (hb : Below W.heap.size W W') : GS w A n c bL ds W' vb vl xs vo outs :=
  ⟨h.be.trans (hb.mono h.be.size), (hb.block _ h.bp.lt).trans h.bp, (hb.block _ h.bo.lt).trans h.bo, (hb.block _ h.bl.lt).trans h.bl, h.lb, own_move h.rl (fun k hk => hb.block k (own_lt h.rl k hk)), Kd.S_below h.ro hb,
    fun D hD => ⟨(h.df D hD).1, (hb.block D (Array.getElem?_eq_some_iff.1 (h.df D hD).2).1).trans (h.df D hD).2⟩⟩
theorem GS.alloc (h : GS w A n c bL ds W vb vl xs vo outs) (o : Obj) : GS w A n c bL ds (W.alloc o) vb vl xs vo outs := h.below (below_alloc (Below.refl _ _) o)
theorem GS.nrow (h : GS w A n c bL ds W vb vl xs vo outs) : some w.heap.size ≠ vl.ownBlock ∧ some (w.heap.size + 1) ≠ vl.ownBlock ∧ some bL ≠ vl.ownBlock :=
  ⟨h.bp.not_row (by decide) h.rl, h.bo.not_row (by decide) h.rl, h.bl.not_row (by decide) h.rl⟩
theorem GS.row (h : GS w A n c bL ds W vb vl xs vo outs) {v1 : Value} {ys : List Int} (hr : W'.ownsRow w.heap.size 3 1 v1 ys.length (ys.map (Value.int .i64))) (hg : W.grownBy W' vl.ownBlock)
    (hat : v1.ownBlock = vl.ownBlock ∨ ∃ b, v1.ownBlock = some b ∧ W.heap.size ≤ b) : GS w A n c bL ds W' vb v1 ys vo outs := by
  obtain ⟨n1, n2, n3⟩ := h.nrow
  refine ⟨h.be.grown hg h.be.size (fun k hk => own_base h.rl k hk), h.bp.kept hg n1, h.bo.kept hg n2, h.bl.kept hg n3, h.lb, hr, ?_, fun D hD => ⟨(h.df D hD).1, ?_⟩⟩
  · exact Kd.S_mono (Kd.S_after h.ro hg hat) (fun _ hk => hk)
  · have h1 := (h.df D hD).2
    rw [hg.block D (Array.getElem?_eq_some_iff.1 h1).1 (fun e => by obtain ⟨cs, hc⟩ := own_typed h.rl D e.symm; rw [h1] at hc; cases hc)]
    exact h1
theorem GS.setL (h : GS w A n c bL ds W vb vl xs vo outs) (u : Value) : GS w A n c bL ds (W.setCell ⟨bL, 0, none⟩ u) u vl xs vo outs := by
  have hl := h.lb
  refine ⟨h.be.setCell (p := ⟨bL, 0, none⟩) (by show w.heap.size ≤ bL; omega) u, h.bp.other (by omega) u, h.bo.other (by omega) u, h.bl.set u, h.lb, own_move h.rl (fun k hk => Below.heap_setCell W ⟨bL, 0, none⟩ u k (fun e => h.nrow.2.2 (by rw [hk]; exact congrArg some e.symm))), ?_, fun D hD => ⟨(h.df D hD).1, ?_⟩⟩
  · exact Kd.S_far h.ro (fun k hk => hk.1) u
  · have h1 := (h.df D hD).2
    rw [Below.heap_setCell W ⟨bL, 0, none⟩ u D (fun e => by have h2 : W.heap[bL]? = _ := h.bl; rw [show D = bL from e, h2] at h1; cases h1)]
    exact h1
theorem GS.clear (h : GS w A n c bL ds W vb vl xs vo outs) : GS w A n c bL ds W vb (.slice none 0 0) [] vo outs :=
  ⟨h.be, h.bp, h.bo, h.bl, h.lb, World.ownsRow_nil _ _ _ _, Kd.S_mono h.ro (fun k hk => ⟨hk.1, by simp [Value.ownBlock]⟩), h.df⟩
theorem GS.turn (h : GS w A n c bL ds W vb vl xs vo outs) {B : Nat} {row : Option Nat} (hn : w.heap.size ≤ B) (hd : ∀ D, D ∈ ds → D < B) (hg : W.grownBy W' row) (hr : ∀ r, row = some r → B ≤ r ∧ ∃ o : Obj, W.heap[r]? = some o ∧ o.isCells = false) :
    GS w A n c bL ds W' vb vl xs vo outs := by
  have hc : ∀ k cs t, W.heap[k]? = some (.cells cs t (0, 0)) → some k ≠ row := fun k cs t h1 e => by
    obtain ⟨_, o, ho, hoc⟩ := hr k e.symm
    rw [h1] at ho; cases ho; cases hoc
  refine ⟨h.be.grown hg h.be.size (fun k hk => Nat.le_trans hn (hr k hk).1), h.bp.kept hg (hc _ _ _ h.bp), h.bo.kept hg (hc _ _ _ h.bo), h.bl.kept hg (hc _ _ _ h.bl), h.lb,
    own_move h.rl (fun k hk => hg.block k (own_lt h.rl k hk) (by obtain ⟨cs, hcs⟩ := own_typed h.rl k hk; exact hc _ _ _ hcs)), ?_, fun D hD => ⟨(h.df D hD).1, ?_⟩⟩
  · refine Kd.S_mono (Kd.S_step (Kd.S_bound h.ro) (fun k hk hlt => ?_)) (fun _ hk => hk.1)
    obtain ⟨_, _, _, q, _, cs, hcs⟩ := hk
    exact hg.block k hlt (hc _ _ _ hcs)
  · have h1 := (h.df D hD).2
    rw [hg.block D (Array.getElem?_eq_some_iff.1 h1).1 (fun e => by have := (hr D e.symm).1; have := hd D hD; omega)]
    exact h1
theorem OS.turn (h : OS w A n c ds W vo outs) {B : Nat} {row : Option Nat} (hn : w.heap.size ≤ B) (hd : ∀ D, D ∈ ds → D < B) (hg : W.grownBy W' row) (hr : ∀ r, row = some r → B ≤ r ∧ ∃ o : Obj, W.heap[r]? = some o ∧ o.isCells = false) :
    OS w A n c ds W' vo outs := by
  have hc : ∀ k cs t, W.heap[k]? = some (.cells cs t (0, 0)) → some k ≠ row := fun k cs t h1 e => by
    obtain ⟨_, o, ho, hoc⟩ := hr k e.symm
    rw [h1] at ho; cases ho; cases hoc
  refine ⟨h.be.grown hg h.be.size (fun k hk => Nat.le_trans hn (hr k hk).1), h.bp.kept hg (hc _ _ _ h.bp), h.bo.kept hg (hc _ _ _ h.bo), ?_, fun D hD => ⟨(h.df D hD).1, ?_⟩⟩
  · refine Kd.S_mono (Kd.S_step (Kd.S_bound h.ro) (fun k hk hlt => ?_)) (fun _ hk => hk.1)
    obtain ⟨_, _, _, q, _, cs, hcs⟩ := hk
    exact hg.block k hlt (hc _ _ _ hcs)
  · have h1 := (h.df D hD).2
    rw [hg.block D (Array.getElem?_eq_some_iff.1 h1).1 (fun e => by have := (hr D e.symm).1; have := hd D hD; omega)]
    exact h1
theorem OS.start (h : OS w A n c ds W vo outs) : GS w A n c W.heap.size ds (W.alloc (.cells #[.slice none 0 0] 32)) (.slice none 0 0) (.slice none 0 0) [] vo outs := by
  have h' := h.below (below_alloc (Below.refl _ _) (.cells #[.slice none 0 0] 32))
  refine ⟨h'.be, h'.bp, h'.bo, Boxed.new W _ _, ?_, World.ownsRow_nil _ _ _ _, ?_, h'.df⟩
  · have := h.bo.lt; omega
  · refine Kd.S_mono (Kd.S_below (Kd.S_bound h.ro) (below_alloc (Below.refl _ _) _)) (fun k hk => ⟨?_, by simp [Value.ownBlock]⟩)
    have := hk.2.2.1
    omega
theorem GS.kp {B : Nat} {v1 : Value} {ys : List Int} (h : GS w A n c bL ds W vl vl xs vo outs) (h' : GS w A n c bL ds W' v1 v1 ys vo outs) (hb : bL < B) (hB : Below w.heap.size W W') (hf : Fr (fun k => k = bL ∨ some k = vl.ownBlock) W W')
    (hat : v1.ownBlock = vl.ownBlock ∨ ∃ b, v1.ownBlock = some b ∧ W.heap.size ≤ b) : KeepsFrom B W W' ∧ Kp w.heap.size B (some bL) W W' := by
  have r1 : rowOf (some bL) W = vl.ownBlock := by simp [rowOf, h.bl.cell]
  have r2 : rowOf (some bL) W' = v1.ownBlock := by simp [rowOf, h'.bl.cell]
  refine ⟨(hf.others ?_).from B, hB, fun _ => ⟨fun k hk => ?_, ?_, fun k o hk ho hc hne => ?_⟩⟩
  · rintro k o (rfl | hk) ho
    · have h2 : W.heap[k]? = _ := h.bl
      rw [h2] at ho; cases ho; rfl
    · obtain ⟨cs, hcs⟩ := own_typed h.rl k hk.symm
      rw [hcs] at ho; cases ho; rfl
  · rw [r2] at hk; exact own_lt h'.rl k hk
  · rw [r1, r2]
    rcases hat with hat | ⟨b, hb1, hb2⟩
    · exact .inl hat
    · right; intro k hk; rw [hb1] at hk; cases hk; exact hb2
  · rw [hf.block k (Array.getElem?_eq_some_iff.1 ho).1 (by rintro (e | e); omega; rw [r1] at hne; exact hne e.symm)]
    exact ho
end
section
variable {F : Fence} {nF : Nat} {ops : Array Oper} {rest : List Oper} {o : Oper} {a : Act} {Q : Exit → Act → World → Prop} {w W : World} {A : Option Addr} {n c bL : Nat} {ds : List Nat} {vb vl vo : Value} {xs : List Int} {outs : List (List Int)}
theorem wpListIn_app_int (x : Int) (hgd : o.guard = none) (s y : Operand) (ho : o.op = .call { callee := .builtin .append, args := #[s, y], argTypes := #[32, 32] }) (hs : a.eval s = vl) (hx : a.eval y = .slice (some ⟨W.heap.size, 0, none⟩) 1 1)
    (h : GS w A n c bL ds W vb vl xs vo outs) (hl : xs.length ≤ 1000000000)
    (hK : ∀ v1 W1, GS w A n c bL ds W1 vb v1 (xs ++ [x]) vo outs → Below w.heap.size W W1 → Fr (fun k => some k = vl.ownBlock) W W1 → (v1.ownBlock = vl.ownBlock ∨ ∃ b, v1.ownBlock = some b ∧ W.heap.size ≤ b) → (∃ A' c', v1 = .slice A' (xs.length + 1) c') → wpListIn F nF Try.prog ops Q rest (a.put o.dst v1) W1) :
    wpListIn F nF Try.prog ops Q (o :: rest) a (W.alloc (.cells #[.int .i64 x] 3)) := by
  obtain ⟨i0, hi, hz0, hz1, hz2⟩ := info_parts info3
  have hb := below_alloc (Below.refl W.heap.size W) (.cells #[.int .i64 x] 3)
  refine wpListIn_append_own_at (w := W.alloc (.cells #[.int .i64 x] 3)) hgd s y 32 ho w.heap.size 3 i0 _ 1 8 Try.underlying32 hi hz0 hz1 hz2 rfl (by decide) vl xs.length (xs.map (Value.int .i64)) hs (h.alloc _).rl ⟨W.heap.size, 0, none⟩ 1 1 [.int .i64 x] hx rfl (cell_one_new W _ _)
    (by simp [Value.oneCell']) (by unfold maxLen; omega) (by omega) (by have := h.be.size; simp; omega) ?_
  intro v1 W1 hown hg _ hat
  have hat' : v1.ownBlock = vl.ownBlock ∨ ∃ b, v1.ownBlock = some b ∧ (W.alloc (.cells #[.int .i64 x] 3)).heap.size ≤ b := hat.imp_right fun e => ⟨_, e, Nat.le_refl _⟩
  have h1 := (h.alloc (.cells #[.int .i64 x] 3)).row (ys := xs ++ [x]) (v1 := v1) (by simpa using hown) hg hat'
  obtain ⟨g, cap, hv⟩ := ownsRow_succ hown
  refine hK v1 W1 h1 ?_ ?_ ?_ ⟨_, _, hv⟩
  · exact (hb.mono h.be.size).grown hg (by have := h.be.size; simp; omega) (fun k hk => own_base h.rl k hk)
  · exact (Fr.of_below _ hb).trans (Fr.of_grown hg) (fun i _ e => e)
  · rcases hat' with e | ⟨b, e, e2⟩
    · exact .inl e
    · exact .inr ⟨b, e, by simp at e2; omega⟩
theorem wpListIn_app_row (hgd : o.guard = none) (s y : Operand) (ho : o.op = .call { callee := .builtin .append, args := #[s, y], argTypes := #[27, 27] }) (hs : a.eval s = vo) (hx : a.eval y = .slice (some ⟨W.heap.size, 0, none⟩) 1 1)
    (h : GS w A n c bL ds W vb vl xs vo outs) (hl : outs.length ≤ 1000000000)
    (hK : ∀ v1 W1, (OS w A n c ds (W1.setCell ⟨w.heap.size + 1, 0, none⟩ v1) v1 (outs ++ [xs]) ∧ Below w.heap.size W (W1.setCell ⟨w.heap.size + 1, 0, none⟩ v1) ∧ KeepsOthers W (W1.setCell ⟨w.heap.size + 1, 0, none⟩ v1)) → Boxed W1 (w.heap.size + 1) 27 vo → (∃ A' c', v1 = .slice A' (outs.length + 1) c') → wpListIn F nF Try.prog ops Q rest (a.put o.dst v1) W1) :
    wpListIn F nF Try.prog ops Q (o :: rest) a (W.alloc (.cells #[vl] 32)) := by
  obtain ⟨i0, hi, hz0, hz1, hz2⟩ := info_parts info32
  have hb := below_alloc (Below.refl W.heap.size W) (.cells #[vl] 32)
  obtain ⟨n1, n2, n3⟩ := h.nrow
  obtain ⟨f, hf, h0, inner, hown, hreps⟩ := Kd.S_tag (h.alloc (.cells #[vl] 32)).ro outs.length (fun k => some k = vl.ownBlock) (fun k hk h2 => h2.2 hk)
  rw [List.length_zipIdx] at hown
  have hne : some bL ≠ vo.ownBlock := fun e => (h0 bL e.symm).1 rfl
  have hvr : (Kd.int .i64).R 3 (W.alloc (.cells #[vl] 32)) w.heap.size (fun k => some k = vl.ownBlock ∧ f k = outs.length) vl xs := Kd.R_of_own (by have := (h.alloc (.cells #[vl] 32)).rl; simpa [encs] using this) (fun k hk => ⟨hk.symm, hf k hk.symm⟩)
  have hvv : vl.oneCell' = true := by
    rcases h.rl.2 with ⟨e, _⟩ | ⟨g, cap, cur, e, _⟩ <;> rw [e] <;> rfl
  refine wpListIn_append_own_at (w := W.alloc (.cells #[vl] 32)) hgd s y 27 ho w.heap.size 32 i0 _ 1 24 Try.underlying27 hi hz0 hz1 hz2 rfl (by decide) vo outs.length inner hs hown ⟨W.heap.size, 0, none⟩ 1 1 [vl] hx rfl (cell_one_new W _ _)
    (by simpa using hvv) (by unfold maxLen; omega) (by omega) (by have := h.be.size; simp; omega) ?_
  intro v1 W1 hown1 hg _ hat
  have hat' : v1.ownBlock = vo.ownBlock ∨ ∃ b, v1.ownBlock = some b ∧ (W.alloc (.cells #[vl] 32)).heap.size ≤ b := hat.imp_right fun e => ⟨_, e, Nat.le_refl _⟩
  have hty : ∀ k, vo.ownBlock = some k → ∃ cells, W.heap[k]? = some (.cells cells 32 (0, 0)) := Kd.S_typed h.ro
  have hS : Kd.S (Kd.slice 3 (Kd.int .i64)) 32 W1 w.heap.size (fun _ => True) v1 (outs ++ [xs]) := by
    refine ⟨f, ?_⟩
    rw [Kd.zip_snoc]
    refine Kd.R_appended (d := Kd.tag f (Kd.slice 3 (Kd.int .i64))) (ok := fun _ => True) (okp := fun k => some k = vl.ownBlock) (W := W.alloc (.cells #[vl] 32)) (v := vo) (inner := inner) (cs := [vl]) (fun _ _ => trivial) (hreps.imp_ (fun p cs hp => (Kd.tag f (Kd.slice 3 (Kd.int .i64))).M_mono (fun k hk => ⟨trivial, hk.2⟩) hp)) ?_ ?_ (fun _ _ => trivial) (by rw [List.length_zipIdx]; exact hown1) hg hat'
    · exact ⟨vl, rfl, hvr⟩
    · intro k hk
      refine ⟨trivial, fun e => ?_⟩
      exact (h0 k e.symm).2 hk
  have hnb : ∀ B t v, t ≠ (32 : Nat) → Boxed W B t v → some B ≠ vo.ownBlock := fun B t v ht hB e => by
    obtain ⟨cs, hcs⟩ := hty B e.symm
    have h2 : W.heap[B]? = _ := hB
    rw [h2] at hcs; cases hcs; exact ht rfl
  have bo1 : Boxed W1 (w.heap.size + 1) 27 vo := (h.bo.alloc _).kept hg (hnb _ _ _ (by decide) h.bo)
  have bp1 : Boxed W1 w.heap.size 24 (.slice A n c) := (h.bp.alloc _).kept hg (hnb _ _ _ (by decide) h.bp)
  have hobase : ∀ k, vo.ownBlock = some k → w.heap.size ≤ k := Kd.S_base h.ro
  have be1 : Below w.heap.size W W1 := (hb.mono h.be.size).grown hg (by have := h.be.size; simp; omega) hobase
  have hlt := h.bo.lt
  have ko1 : KeepsOthers W (W1.setCell ⟨w.heap.size + 1, 0, none⟩ v1) := by
    refine Fr.others (S := fun k => some k = vo.ownBlock ∨ k = w.heap.size + 1) (((Fr.of_below _ hb).trans (Fr.of_grown hg) (fun i _ e => .inl e)).trans (Fr.of_set W1 _ v1) (fun i _ e => .inr e)) ?_
    rintro k o (e | rfl) ho
    · obtain ⟨cs, hcs⟩ := hty k e.symm
      rw [hcs] at ho; cases ho; rfl
    · have h2 : W.heap[w.heap.size + 1]? = _ := h.bo
      rw [h2] at ho; cases ho; rfl
  have beS : Below w.heap.size W (W1.setCell ⟨w.heap.size + 1, 0, none⟩ v1) := be1.setCell (p := ⟨w.heap.size + 1, 0, none⟩) (by show w.heap.size ≤ w.heap.size + 1; omega) v1
  obtain ⟨g, cap, hv⟩ := ownsRow_succ hown1
  refine hK v1 W1 ⟨⟨h.be.trans beS, bp1.other (by omega) v1, bo1.set v1, ?_, fun D hD => ⟨(h.df D hD).1, ko1.same D _ (h.df D hD).2 rfl⟩⟩, beS, ko1⟩ bo1 ⟨_, _, hv⟩
  exact Kd.S_mono (Kd.S_far (p := ⟨w.heap.size + 1, 0, none⟩) (Kd.S_types hS bo1 (by decide)) (fun k hk => hk.2) v1) (fun _ hk => hk.1)
end
end Go.Proofs.Ytdbngbmokgeeiaa.Man

namespace Go.Proofs.Ytdbngbmokgeeiaa.Man
open Go.RowKit Go.Shelf Go.Proofs.Ytdbngbmokgeeiaa.Pr Go.Proofs.YtdbngbmokgeeiaaW.PrintWords
attribute [local go_sem] Oper.semAt_some
set_option linter.unusedVariables false
set_option linter.unusedSimpArgs false
def calledBy (fs : List S42) (s : S55) : List Int := if s.f0 = 5 ∧ 0 ≤ funIx fs s.f3 then [funIx fs s.f3] else []
def coll (fs : List S42) (L : List S55) : List Int := L.flatMap (calledBy fs)
def applies (L : List S55) : Bool := L.any fun s => s.f0 == 6
def allIx (n : Nat) : List Int := (List.range n).map Int.ofNat
def callsOf (fs : List S42) (f : S42) : List Int := if applies (flat f.f2) = true then allIx fs.length else Lib.compact (srt (coll fs (flat f.f2)))
def callsF (fs : List S42) : List (List Int) := fs.map (callsOf fs)
theorem allIx_len (n : Nat) : (allIx n).length = n := by simp [allIx]
theorem allIx_succ (n : Nat) : allIx (n + 1) = allIx n ++ [(n : Int)] := by simp [allIx, List.range_succ]
theorem take_row (fs : List S42) (j : Nat) (h : j < fs.length) : (fs.take (j + 1)).map (callsOf fs) = (fs.take j).map (callsOf fs) ++ [callsOf fs (rd_T42 fs (j : Int))] := by
  rw [List.take_succ_eq_append_getElem h, List.map_append]
  congr 2
  unfold rd_T42; rw [Int.toNat_natCast, List.getD_eq_getElem?_getD, List.getElem?_eq_getElem h]; rfl
def SmP (fs : List S42) : Prop := fs.length ≤ 1000000 ∧ ∀ f, f ∈ fs → (flat f.f2).length ≤ 2000000
def mkD (D : Nat) : Deferred := { target := .collected D, args := #[] }
theorem leaves_all {F : Fence} {n : Nat} {P : Program} {fn : Func} {tmps : Array Value} {R : Ending → World → Prop} (B : Nat) (J : World → Prop) (hJ : ∀ W D, J W → B ≤ D → W.heap[D]? = some (.deferred (some [])) → J (W.putObj D (.deferred none)))
    (hend : ∀ W, J W → LeavesIn F n P fn tmps R [] .returning W) : ∀ (ds : List Nat) (W : World), J W → ds.Nodup → (∀ D, D ∈ ds → B ≤ D ∧ W.heap[D]? = some (.deferred (some []))) → LeavesInM F n P fn tmps R (ds.map mkD) .returning W := by
  intro ds
  induction ds with
  | nil => intro W h _ _; exact hend W h
  | cons D ds ih =>
    intro W h hn hd
    obtain ⟨hn1, hn2⟩ := List.nodup_cons.1 hn
    obtain ⟨hB, hD⟩ := hd D List.mem_cons_self
    refine ⟨by simp, .inl ⟨D, _, rfl, run_takeDeferred hD, ih _ (hJ W D h hB hD) hn2 fun E hE => ?_⟩⟩
    obtain ⟨hE1, hE2⟩ := hd E (List.mem_cons_of_mem _ hE)
    have hne : D ≠ E := fun e => hn1 (e ▸ hE)
    exact ⟨hE1, by rw [(grownBy_putObj' W D _).block E (Array.getElem?_eq_some_iff.1 hE2).1 (fun e => hne (by cases e; rfl))]; exact hE2⟩
def VarBx {w : World} {P : Nat → Prop} {T : S55 → Prop} (B : Nat) (act : Nat → Elt w P T → Act) (x : Elt w P T) (a' : Act) (W : World) : Prop :=
  ∃ Bv, B ≤ Bv ∧ W.heap[Bv]? = some (.cells x.1.2.toArray 55 (0, 0)) ∧ a' = act Bv x
theorem VarBx.own {w : World} {P : Nat → Prop} {T : S55 → Prop} (B : Nat) (act : Nat → Elt w P T → Act) (x : Elt w P T) (a' : Act) : OwnFrom B (fun (_ : Unit) W => VarBx B act x a' W) := by
  rintro _ X Y row ⟨Bv, h1, h2, h4⟩ hg hr
  refine ⟨Bv, h1, ?_, h4⟩
  rw [hg.block Bv (Array.getElem?_eq_some_iff.1 h2).1 ?_]
  · exact h2
  · intro e; obtain ⟨_, o, ho, hc⟩ := hr Bv e.symm; rw [h2] at ho; cases ho; cases hc
theorem mixed : Try.prog.follows .mixedOrders = true := by kernel_rfl
theorem wpOpIn_list {F : Fence} {n : Nat} {P : Program} {ops : Array Oper} {Q : Exit → Act → World → Prop} {i : Nat} {K : Act → World → Prop} {a : Act} {w : World} {o : Oper} (ho : ops[i]? = some o)
    (h : wpListIn F n P ops (fun e a w => match e with | .normal => K a w | e => Q e a w) [o] a w) : wpOpIn F n P ops Q i K a w := by
  unfold wpOpIn
  simp only [ho]
  simp only [wpListIn] at h
  split at h
  · rename_i hw
    rw [if_pos hw]
    unfold Oper.wpIn at *
    refine ⟨h.1, ?_⟩
    have hh := h.2
    generalize (o.semAt F.round a.eval).run P w = r at *
    cases r with
    | ok x w' => cases x <;> exact hh
    | halt x w' => cases x <;> exact hh
  · rename_i hw
    rw [if_neg hw]
    exact h
theorem wpOpIn_callL {n : Nat} {P : Program} {ops : Array Oper} {Q : Exit → Act → World → Prop} {a : Act} {w : World} {o : Oper} {rest : List Oper} {f : FuncId} {xs : Array Operand} {ts : Array TypeId} {R : Ending → World → Prop}
    (hg : o.guard = none) (hop : o.op = .call { callee := .value (.func f), args := xs, argTypes := ts }) (eg : ∀ args w, (callFunc f args).run P w = .ok (.enter f args) w)
    (hcall : Calls P f (xs.map a.eval) w R) (hK : ∀ e w', R e w' → ∃ v, e = .returned v ∧ wpListIn Fence.wide n P ops Q rest (a.put o.dst v) w') : wpListIn Fence.wide n P ops Q (o :: rest) a w := by
  simp only [wpListIn, Region.wanted, hg, if_true]
  refine ⟨fun f h => trivial, ?_⟩
  rw [Oper.semAt_eq _ _ _ (by rw [hop]; intro c h; cases h)]
  have hrun : (execOp a.eval o).run P w = .ok (.enter f (xs.map a.eval)) w := by
    simp [execOp, hop, resolve, invoke, go_sem, eg]
  rw [hrun]
  refine ⟨fun h => by simp [Fence.wide] at h, CallsIn.mono (callsIn_wide.2 hcall) fun e w' hr => ?_⟩
  obtain ⟨v, rfl, hk⟩ := hK e w' hr
  exact hk
theorem own_slice {w : World} {base e size n : Nat} {v : Value} {xs : List Value} (h : w.ownsRow base e size v n xs) : ∃ A n' c, v = .slice A n' c := by
  rcases h.2 with ⟨rfl, _⟩ | ⟨g, cap, cur, rfl, _⟩
  · exact ⟨_, _, _, rfl⟩
  · exact ⟨_, _, _, rfl⟩
def CI (w : World) (A : Option Addr) (n c bL : Nat) (ds : List Nat) (vo : Value) (outs : List (List Int)) (B : Nat) (fs : List S42) (L : List S55) (X : World) : Prop :=
  ∃ vl, GS w A n c bL ds X vl vl (coll fs L) vo outs ∧ B ≤ X.heap.size ∧ applies L = false
def CX (w : World) (A : Option Addr) (n c : Nat) (ds : List Nat) (outs : List (List Int)) (B : Nat) (cd : Code) (L : List S55) (X : World) : Prop :=
  cd = .exit 1 ∧ ∃ vo', OS w A n c ds X vo' (outs ++ [allIx n]) ∧ B ≤ X.heap.size ∧ applies L = true
def Post22 (w : World) (A : Option Addr) (n c bL : Nat) (ds : List Nat) (vo : Value) (outs : List (List Int)) (B : Nat) (fs : List S42) (L : List S55) (X : World) : Exit → World → Prop
  | .normal, Z => KeepsFrom B X Z ∧ Kp w.heap.size B (some bL) X Z ∧ CI w A n c bL ds vo outs B fs L Z
  | .exit id, Z => KeepsFrom B X Z ∧ CX w A n c ds outs B (.exit id) L Z
  | _, _ => False
theorem coll_len (fs : List S42) (L : List S55) : (coll fs L).length ≤ L.length := by
  induction L with
  | nil => simp [coll]
  | cons s r ih =>
    have : (calledBy fs s).length ≤ 1 := by unfold calledBy; split <;> simp
    simp only [coll, List.flatMap_cons, List.length_append, List.length_cons] at *
    omega
theorem coll_snoc (fs : List S42) (L : List S55) (s : S55) : coll fs (L ++ [s]) = coll fs L ++ calledBy fs s := by simp [coll]
theorem applies_snoc (L : List S55) (s : S55) : applies (L ++ [s]) = (applies L || (s.f0 == 6)) := by simp [applies]
theorem CI.same {w : World} {A : Option Addr} {n c bL : Nat} {ds : List Nat} {vo vl : Value} {outs : List (List Int)} {B : Nat} {fs : List S42} {L : List S55} {X Z : World} {s : S55} (h : GS w A n c bL ds X vl vl (coll fs L) vo outs) (hb : B ≤ X.heap.size) (ha : applies L = false) (h6 : (s.f0 == 6) = false) (hs : calledBy fs s = [])
    (hbB : bL < B) (hwZ : Below X.heap.size X Z) (hXw : w.heap.size ≤ X.heap.size) : Post22 w A n c bL ds vo outs B fs (L ++ [s]) X .normal Z := by
  have hg := h.below hwZ
  obtain ⟨q1, q2⟩ := h.kp hg hbB (hwZ.mono hXw) (Fr.of_below _ hwZ) (.inl rfl)
  exact ⟨q1, q2, vl, by rw [coll_snoc, hs, List.append_nil]; exact hg, Nat.le_trans hb hwZ.size, by rw [applies_snoc, ha, h6]; rfl⟩
theorem CI.more {w : World} {A : Option Addr} {n c bL : Nat} {ds : List Nat} {vo vl v1 : Value} {outs : List (List Int)} {B : Nat} {fs : List S42} {L : List S55} {X Y Z : World} {s : S55} {q : Int} (h : GS w A n c bL ds X vl vl (coll fs L) vo outs) (hb : B ≤ X.heap.size) (ha : applies L = false) (h6 : (s.f0 == 6) = false) (hs : calledBy fs s = [q])
    (hbB : bL < B) (hXY : Below X.heap.size X Y) (hXw : w.heap.size ≤ X.heap.size) (hg : GS w A n c bL ds Z vl v1 (coll fs L ++ [q]) vo outs) (hf : Fr (fun k => some k = vl.ownBlock) Y Z) (hbe : Below w.heap.size Y Z) (hat : v1.ownBlock = vl.ownBlock ∨ ∃ b, v1.ownBlock = some b ∧ Y.heap.size ≤ b) :
    Post22 w A n c bL ds vo outs B fs (L ++ [s]) X .normal (Z.setCell ⟨bL, 0, none⟩ v1) := by
  have hg2 := hg.setL v1
  have hlb := h.lb
  have hF : Fr (fun k => k = bL ∨ some k = vl.ownBlock) X (Z.setCell ⟨bL, 0, none⟩ v1) := ((Fr.of_below (fun k => k = bL ∨ some k = vl.ownBlock) hXY).trans hf (fun i _ e => .inr e)).trans (Fr.of_set Z bL v1) (fun i _ e => .inl e)
  have hB : Below w.heap.size X (Z.setCell ⟨bL, 0, none⟩ v1) := ((hXY.mono hXw).trans hbe).setCell (p := ⟨bL, 0, none⟩) (by show w.heap.size ≤ bL; omega) v1
  obtain ⟨q1, q2⟩ := h.kp hg2 hbB hB hF (hat.imp_right fun ⟨b, e, hb⟩ => ⟨b, e, Nat.le_trans hXY.size hb⟩)
  exact ⟨q1, q2, v1, by rw [coll_snoc, hs]; exact hg2, Nat.le_trans hb hF.size, by rw [applies_snoc, ha, h6]; rfl⟩
theorem OS.cons {w : World} {A : Option Addr} {n c : Nat} {ds : List Nat} {vo : Value} {outs : List (List Int)} {Z : World} {D : Nat} (h : OS w A n c ds Z vo outs) (hD : w.heap.size ≤ D) (hZ : Z.heap[D]? = some (.deferred (some []))) : OS w A n c (D :: ds) Z vo outs :=
  ⟨h.be, h.bp, h.bo, h.ro, fun E hE => by
    rcases List.mem_cons.1 hE with rfl | hE
    · exact ⟨hD, hZ⟩
    · exact h.df E hE⟩
theorem applies_pre {L p q : List S55} (h : p ++ q = L) (ha : applies p = true) : applies L = true := by
  rw [← h]; unfold applies at *; rw [List.any_append, ha]; rfl
theorem fr_app {X Y Z : World} {bL : Nat} {vl : Value} (h : Fr (fun k => k = bL) X Y) (hn : ∀ k, vl.ownBlock = some k → X.heap.size ≤ k) (h2 : Fr (fun k => some k = vl.ownBlock) Y Z) (u : Value) : Fr (fun k => k = bL) X (Z.setCell ⟨bL, 0, none⟩ u) :=
  (h.trans h2 (fun i hi e => by have := hn i e.symm; omega)).trans (Fr.of_set Z bL u) (fun i _ e => e)
theorem own_app {X Y : World} {vl v1 : Value} (hn : ∀ k, vl.ownBlock = some k → X.heap.size ≤ k) (h : v1.ownBlock = vl.ownBlock ∨ ∃ b, v1.ownBlock = some b ∧ Y.heap.size ≤ b) (hs : X.heap.size ≤ Y.heap.size) : ∀ k, v1.ownBlock = some k → X.heap.size ≤ k := by
  intro k hk
  rcases h with h | ⟨b, h, hb⟩
  · exact hn k (by rw [← h]; exact hk)
  · rw [h] at hk; cases hk; omega
structure S22 (w : World) (A : Option Addr) (n c bL : Nat) (ds : List Nat) (vo vl : Value) (xs zs : List Int) (outs : List (List Int)) (Y : World) (done : Nat → Bool) (val : Nat → Value) (Z : World) : Prop where
  i5 : done 5 = true → done 4 = true
  i4 : done 4 = true → done 0 = true ∧ done 3 = true
  i3 : done 3 = true → done 2 = true
  i2 : done 2 = true → done 1 = true
  v0 : done 0 = true → val 0 = vo
  v1 : done 1 = true → val 1 = vl
  s1 : done 2 = false → GS w A n c bL ds Z vl vl xs vo outs ∧ KeepsOthers Y Z
  s2 : done 2 = true → done 3 = false → GS w A n c bL ds Z vl (val 2) zs vo outs ∧ KeepsOthers Y Z
  s3 : done 3 = true → done 4 = false → ∃ Z0, Z = Z0.alloc (.cells #[val 2] 32) ∧ val 3 = .slice (some ⟨Z0.heap.size, 0, none⟩) 1 1 ∧ GS w A n c bL ds Z0 vl (val 2) zs vo outs ∧ KeepsOthers Y Z0
  s4 : done 4 = true → done 5 = false → (∃ A' c', val 4 = .slice A' (outs.length + 1) c') ∧ OS w A n c ds (Z.setCell ⟨w.heap.size + 1, 0, none⟩ (val 4)) (val 4) (outs ++ [zs]) ∧ KeepsOthers Y (Z.setCell ⟨w.heap.size + 1, 0, none⟩ (val 4)) ∧ Boxed Z (w.heap.size + 1) 27 vo
  s5 : done 5 = true → ∃ v, OS w A n c ds Z v (outs ++ [zs]) ∧ KeepsOthers Y Z
section
variable {w : World} {A : Option Addr} {n c bL : Nat} {ds : List Nat} {vo vl : Value} {xs zs : List Int} {outs : List (List Int)} {Y : World} {done : Nat → Bool} {val : Nat → Value} {Z : World}
theorem S22.bo (h : S22 w A n c bL ds vo vl xs zs outs Y done val Z) (h4 : done 4 = false) : Boxed Z (w.heap.size + 1) 27 vo := by
  cases h2 : done 2 with
  | false => exact (h.s1 h2).1.bo
  | true =>
    cases h3 : done 3 with
    | false => exact (h.s2 h2 h3).1.bo
    | true => obtain ⟨Z0, rfl, _, hg, _⟩ := h.s3 h3 h4; exact hg.bo.alloc _
theorem S22.n4 (h : S22 w A n c bL ds vo vl xs zs outs Y done val Z) (h0 : done 0 = false) : done 4 = false := by
  cases h4 : done 4 with
  | false => rfl
  | true => rw [(h.i4 h4).1] at h0; cases h0
theorem S22.n2 (h : S22 w A n c bL ds vo vl xs zs outs Y done val Z) (h1 : done 1 = false) : done 2 = false := by
  cases h4 : done 2 with
  | false => rfl
  | true => rw [h.i2 h4] at h1; cases h1
theorem S22.n3 (h : S22 w A n c bL ds vo vl xs zs outs Y done val Z) (h1 : done 2 = false) : done 3 = false := by
  cases h4 : done 3 with
  | false => rfl
  | true => rw [h.i3 h4] at h1; cases h1
theorem S22.m4 (h : S22 w A n c bL ds vo vl xs zs outs Y done val Z) (h1 : done 3 = false) : done 4 = false := by
  cases h4 : done 4 with
  | false => rfl
  | true => rw [(h.i4 h4).2] at h1; cases h1
theorem S22.m5 (h : S22 w A n c bL ds vo vl xs zs outs Y done val Z) (h1 : done 4 = false) : done 5 = false := by
  cases h4 : done 5 with
  | false => rfl
  | true => rw [h.i5 h4] at h1; cases h1
theorem S22.do0 (h : S22 w A n c bL ds vo vl xs zs outs Y done val Z) (h0 : done 0 = false) : S22 w A n c bL ds vo vl xs zs outs Y (upd done 0) (setv val 0 vo) Z := by
  have h4 := h.n4 h0
  have h5 := h.m5 h4
  exact ⟨by simpa [upd] using h.i5, by simp [upd, h4], by simpa [upd] using h.i3, by simpa [upd] using h.i2, by simp [setv], by simpa [upd, setv] using h.v1, by simpa [upd] using h.s1, by simpa [upd, setv] using h.s2, by simpa [upd, setv] using h.s3, by simp [upd, h4], by simp [upd, h5]⟩
theorem S22.do1 (h : S22 w A n c bL ds vo vl xs zs outs Y done val Z) (h1 : done 1 = false) : S22 w A n c bL ds vo vl xs zs outs Y (upd done 1) (setv val 1 vl) Z := by
  have h2 := h.n2 h1
  have h3 := h.n3 h2
  have h4 := h.m4 h3
  have h5 := h.m5 h4
  exact ⟨by simp [upd, h5], by simp [upd, h4], by simp [upd, h3], by simp [upd], by simpa [upd, setv] using h.v0, by simp [setv], by simpa [upd] using h.s1, by simp [upd, h2], by simp [upd, h3], by simp [upd, h4], by simp [upd, h5]⟩
theorem S22.do2 (h : S22 w A n c bL ds vo vl xs zs outs Y done val Z) (h2 : done 2 = false) (h1 : done 1 = true) (v2 : Value) (Z' : World) (hg : GS w A n c bL ds Z' vl v2 zs vo outs) (hk : KeepsOthers Y Z') : S22 w A n c bL ds vo vl xs zs outs Y (upd done 2) (setv val 2 v2) Z' := by
  have h3 := h.n3 h2
  have h4 := h.m4 h3
  have h5 := h.m5 h4
  exact ⟨by simp [upd, h5], by simp [upd, h4], by simp [upd], by simp [upd, h1], by simpa [upd, setv] using h.v0, by simpa [upd, setv] using h.v1, by simp [upd], by simp [upd, setv]; exact fun _ => ⟨hg, hk⟩, by simp [upd, h3], by simp [upd, h4], by simp [upd, h5]⟩
theorem S22.do3 (h : S22 w A n c bL ds vo vl xs zs outs Y done val Z) (h3 : done 3 = false) (h2 : done 2 = true) : S22 w A n c bL ds vo vl xs zs outs Y (upd done 3) (setv val 3 (.slice (some ⟨Z.heap.size, 0, none⟩) 1 1)) (Z.alloc (.cells #[val 2] 32)) := by
  have h4 := h.m4 h3
  have h5 := h.m5 h4
  obtain ⟨hg, hk⟩ := h.s2 h2 h3
  exact ⟨by simp [upd, h5], by simp [upd, h4], by simp [upd, h2], by simpa [upd] using h.i2, by simpa [upd, setv] using h.v0, by simpa [upd, setv] using h.v1, by simp [upd, h2], by simp [upd], by simp [upd, setv]; exact fun _ => ⟨Z, rfl, rfl, hg, hk⟩, by simp [upd, h4], by simp [upd, h5]⟩
theorem S22.do4 (h : S22 w A n c bL ds vo vl xs zs outs Y done val Z) (h4 : done 4 = false) (h3 : done 3 = true) (h0 : done 0 = true) (v4 : Value) (Z' : World) (hv : ∃ A' c', v4 = .slice A' (outs.length + 1) c') (ho : OS w A n c ds (Z'.setCell ⟨w.heap.size + 1, 0, none⟩ v4) v4 (outs ++ [zs])) (hk : KeepsOthers Y (Z'.setCell ⟨w.heap.size + 1, 0, none⟩ v4)) (hb : Boxed Z' (w.heap.size + 1) 27 vo) :
    S22 w A n c bL ds vo vl xs zs outs Y (upd done 4) (setv val 4 v4) Z' := by
  have h5 := h.m5 h4
  have h2 := h.i3 h3
  exact ⟨by simp [upd], by simp [upd, h0, h3], by simpa [upd] using h.i3, by simpa [upd] using h.i2, by simpa [upd, setv] using h.v0, by simpa [upd, setv] using h.v1, by simp [upd, h2], by simp [upd, h3], by simp [upd], by simp only [upd, setv, if_true]; exact fun _ _ => ⟨hv, ho, hk, hb⟩, by simp [upd, h5]⟩
theorem S22.do5 (h : S22 w A n c bL ds vo vl xs zs outs Y done val Z) (h5 : done 5 = false) (h4 : done 4 = true) (r : Value) : S22 w A n c bL ds vo vl xs zs outs Y (upd done 5) (setv val 5 r) (Z.setCell ⟨w.heap.size + 1, 0, none⟩ (val 4)) := by
  obtain ⟨hv, ho, hk, hb⟩ := h.s4 h4 h5
  obtain ⟨h0, h3⟩ := h.i4 h4
  have h2 := h.i3 h3
  exact ⟨by simp [upd, h4], by simp [upd, h0, h3], by simpa [upd] using h.i3, by simpa [upd] using h.i2, by simpa [upd, setv] using h.v0, by simpa [upd, setv] using h.v1, by simp [upd, h2], by simp [upd, h3], by simp [upd, h4], by simp [upd], fun _ => ⟨_, ho, hk⟩⟩
end
set_option maxRecDepth 100000 in
set_option maxHeartbeats 4000000 in
theorem calls_any (w : World) (fs : List S42) (A : Option Addr) (c : Nat) (hlc : fs.length ≤ c) (hC : Kd.C k42 w A fs.length fs) (hl : fs.length ≤ 1000000) (hN : ∀ f, f ∈ fs → (flat f.f2).length ≤ 2000000) :
    Calls Try.prog 10 #[.agg #[.slice A fs.length c]] w fun e w' => ∃ v, e = .returned v ∧ Kd.S (Kd.slice 3 (Kd.int .i64)) 32 w' w.heap.size (fun _ => True) v (callsF fs) ∧ Below w.heap.size w w' := by
  refine (callsIn_wide (n := 5)).1 ?_
  refine callsIn_of_wp_marks Try.func10 rfl trivial ?_ rfl
  simp only [Try.ntmps10, List.size_toArray, List.length_cons, List.length_nil, Nat.reduceAdd, Nat.reduceSub, Array.replicate_succ, Array.replicate_zero, List.push_toArray, List.append_toArray, List.nil_append, List.cons_append]
  have hfn : Fence.wide.fn 26 := trivial
  have K0 := Lib.hid hC
  have HN := Lib.hid hN
  clear hC hN
  gi_wp2
  refine wpIn_wide.2 (wp_scope_straight ((wpIn_wide (n := 5)).1 ?_))
  gi_wp2
  refine wpIn_label ?_
  gi_wp2
  obtain ⟨W0, hW0⟩ : ∃ W0, W0 = (w.alloc (Obj.cells #[Value.slice A fs.length c] 24)).alloc (Obj.cells #[Value.slice none 0 0] 27) := ⟨_, rfl⟩
  have hO0 : OS w A fs.length c [] W0 (.slice none 0 0) [] := by
    rw [hW0]
    refine ⟨below_alloc (below_alloc (Below.refl _ _) _) _, (Boxed.new w _ _).alloc _, by simpa using Boxed.new (w.alloc (Obj.cells #[Value.slice A fs.length c] 24)) 27 (.slice none 0 0), Kd.S_nil _ _ _ _ _, by simp⟩
  rw [← hW0]
  clear hW0
  refine wpIn_loop_ghost_k (fun k a W => ∃ (j : Nat) (ds : List Nat) (vo : Value) (v13 u5 u6 u14 u15 u16 u17 u18 u19 u52 u53 u54 u55 u56 u57 u58 u59 : Value), j + k = fs.length ∧ v13 = .int .i64 (j : Nat) ∧ a = { tmps := #[.agg #[.slice A fs.length c], .pointer (some ⟨w.heap.size, 0, none⟩), .slice none 0 0, .pointer (some ⟨w.heap.size + 1, 0, none⟩), undef, u5, u6, undef, undef, undef, .pointer (some ⟨w.heap.size, 0, none⟩), .slice A fs.length c, .int .i64 (fs.length : Nat), v13, u14, u15, u16, u17, u18, u19, undef, undef, undef, undef, undef, undef, undef, undef, undef, undef, undef, undef, undef, undef, undef, undef, undef, undef, undef, undef, undef, undef, undef, undef, undef, undef, undef, undef, undef, undef, undef, undef, u52, u53, u54, u55, u56, u57, u58, u59, undef], defers := ds.map mkD } ∧
    Hid (OS w A fs.length c ds W vo ((fs.take j).map (callsOf fs))) ∧ Hid ds.Nodup) fs.length ?start ?round
  case start => exact ⟨0, [], .slice none 0 0, .int .i64 0, undef, undef, undef, undef, undef, undef, undef, undef, undef, undef, undef, undef, undef, undef, undef, undef, by omega, rfl, rfl, Lib.hid hO0, Lib.hid List.nodup_nil⟩
  case round =>
    rintro k a W ⟨j, ds, vo, v13, u5, u6, u14, u15, u16, u17, u18, u19, u52, u53, u54, u55, u56, u57, u58, u59, hj, rfl, rfl, HO, HD⟩ J K hJ hK
    by_cases hjl : j < fs.length
    · obtain ⟨ad, A1, c1, A2, c2, eA, y0, y1, y2, _, _, l2, g2⟩ := at_T42 K0.out (j : Int) (by omega) (by omega)
      subst eA
      rw [Int.toNat_natCast] at y0 y1 y2
      have x0 := (HO.out.be.cell (World.block_lt_of_cell? _ _ y0)).trans y0
      have x1 := (HO.out.be.cell (World.block_lt_of_cell? _ _ y1)).trans y1
      have x2 := (HO.out.be.cell (World.block_lt_of_cell? _ _ y2)).trans y2
      have hkk := pz j (by omega)
      have G2 := Lib.hid g2
      clear y0 y1 y2 g2
      gi_wp2_with ((try refine ⟨fun _ => by decide, ?_⟩); gi_at_call 26; refine (mkAll_in _ _ rfl _).mono ?_; rintro e w' ⟨rfl, rfl⟩)
      obtain ⟨Wb, hWb⟩ : ∃ Wb, Wb = W.alloc (Obj.cells #[Value.string (rd_T42 fs (j : Int)).f0, Value.slice A1 (rd_T42 fs (j : Int)).f1.length c1, Value.slice A2 (rd_T42 fs (j : Int)).f2.length c2] 42) := ⟨_, rfl⟩
      obtain ⟨w1, hw1⟩ : ∃ w1, w1 = (Wb.alloc (Obj.cells #[Value.slice none 0 0] 32)).alloc (Obj.cells #[Value.slice A2 (rd_T42 fs (j : Int)).f2.length c2] 40) := ⟨_, rfl⟩
      rw [← hWb, ← hw1]
      have hszb : Wb.heap.size = W.heap.size + 1 := by rw [hWb]; simp
      have hs1a : W.heap.size + 3 ≤ w1.heap.size := by rw [hw1]; simp [hszb]
      have hs1b : w1.heap.size ≤ W.heap.size + 3 := by rw [hw1]; simp [hszb]
      have HO0 := HO.out.below (W' := Wb) (by rw [hWb]; exact below_alloc (Below.refl _ _) _)
      have hG0 : GS w (some ad) fs.length c (W.heap.size + 1) ds w1 (.slice none 0 0) (.slice none 0 0) [] vo ((fs.take j).map (callsOf fs)) := by
        rw [hw1]; have := HO0.start.alloc (Obj.cells #[Value.slice A2 (rd_T42 fs (j : Int)).f2.length c2] 40); rw [hszb] at this; exact this
      have hbt : w1.cell? ⟨W.heap.size + 1 + 1, 0, none⟩ = some (.slice A2 (rd_T42 fs (j : Int)).f2.length c2) := by
        rw [hw1]; have := (Boxed.new (Wb.alloc (Obj.cells #[Value.slice none 0 0] 32)) 40 (Value.slice A2 (rd_T42 fs (j : Int)).f2.length c2)).cell; simp only [World.size_alloc, hszb] at this; exact this
      have hdl : ∀ D, D ∈ ds → D < w1.heap.size := fun D hD => (Array.getElem?_eq_some_iff.1 (hG0.df D hD).2).1
      have hWw : Below W.heap.size W w1 := by rw [hw1, hWb]; exact below_alloc (below_alloc (below_alloc (Below.refl _ _) _) _) _
      have hfm : rd_T42 fs (j : Int) ∈ fs := by
        unfold rd_T42; rw [Int.toNat_natCast, List.getD_eq_getElem?_getD, List.getElem?_eq_getElem hjl]; exact List.getElem_mem hjl
      have hflen := HN.out _ hfm
      have htk := take_row fs j hjl
      obtain ⟨F, hF⟩ : ∃ F, F = rd_T42 fs (j : Int) := ⟨_, rfl⟩
      rw [← hF] at htk
      have HTK := Lib.hid htk
      have HF := Lib.hid hF
      have HW := Lib.hid hWw
      obtain ⟨outs, houts⟩ : ∃ outs, outs = (fs.take j).map (callsOf fs) := ⟨_, rfl⟩
      rw [← houts] at hG0 HTK
      have HOU := Lib.hid houts
      have HOL : outs.length ≤ 1000000 := by rw [houts]; simp; omega
      clear hWb hw1 HO0 htk hF hWw houts hfm
      have G0 := Lib.hid hG0
      have hwsz := hG0.be.size
      clear hG0
      refine rangeAll (w := w) (P := fun k => k < w.heap.size) (T := fun s => s ∈ flat (rd_T42 fs (j : Int)).f2) (n := 5) (by decide) (rd_T42 fs (j : Int)).f2 A2 c2 l2 (fun _ h => h) (Kd.C_F k55_heap G2.out) G0.out.be (W.heap.size + 1 + 1) (by omega) hbt rfl (some (W.heap.size + 1)) (fun b e => by cases e; omega) (fun k h => by simp [rowOf, G0.out.bl.cell, Value.ownBlock] at h) rfl
        (fun pre X => CI w (some ad) fs.length c (W.heap.size + 1) ds vo outs w1.heap.size fs (pre.map (·.1.1)) X)
        (fun cd pre X => CX w (some ad) fs.length c ds outs w1.heap.size cd (pre.map (·.1.1)) X)
        ?own1 ?own2 ⟨_, G0.out, Nat.le_refl _, rfl⟩
        (VarBx w1.heap.size fun Bv x => { tmps := #[.agg #[.slice (some ad) fs.length c], .pointer (some ⟨w.heap.size, 0, none⟩), .slice none 0 0, .pointer (some ⟨w.heap.size + 1, 0, none⟩), undef, .pointer (some ⟨W.heap.size, 0, none⟩), .pointer (some ⟨W.heap.size + 1, 0, none⟩), .pointer (some ⟨Bv, 0, none⟩), undef, undef, .pointer (some ⟨w.heap.size, 0, none⟩), .slice (some ad) fs.length c, .int .i64 (fs.length : Nat), .int .i64 (j : Nat), .bool true, .pointer (some (ad.add (j * 3))), .agg #[.string (rd_T42 fs (j : Int)).f0, .slice A1 (rd_T42 fs (j : Int)).f1.length c1, .slice A2 (rd_T42 fs (j : Int)).f2.length c2], .pointer (some ⟨W.heap.size, 2, none⟩), .slice A2 (rd_T42 fs (j : Int)).f2.length c2, .func (.func 34) #[] #[.pointer (some ⟨W.heap.size + 1 + 1, 0, none⟩)], .agg x.1.2.toArray, undef, undef, undef, undef, undef, undef, undef, undef, undef, undef, undef, undef, undef, undef, undef, undef, undef, undef, undef, undef, undef, undef, undef, undef, undef, undef, undef, undef, undef, undef, undef, u52, u53, u54, u55, u56, u57, u58, u59, undef], defers := [] })
        (fun x a' => VarBx.own _ _ _ _) ?assign ?body ?done ?stop
      case own1 =>
        rintro pre X Y row ⟨vl, h, hle, ha⟩ hg hr
        exact ⟨vl, h.turn hwsz hdl hg hr, Nat.le_trans hle hg.size, ha⟩
      case own2 =>
        rintro cd pre X Y row ⟨e, vo', h, hle, ha⟩ hg hr
        exact ⟨e, vo', h.turn hwsz hdl hg hr, Nat.le_trans hle hg.size, ha⟩
      case assign =>
        rintro lp pre ⟨⟨s, cs⟩, hKs, hT⟩ X K2 ⟨vl, hG, hle, ha⟩ hk
        have hk' := Lib.hid (hk ({ tmps := #[.agg #[.slice (some ad) fs.length c], .pointer (some ⟨w.heap.size, 0, none⟩), .slice none 0 0, .pointer (some ⟨w.heap.size + 1, 0, none⟩), undef, .pointer (some ⟨W.heap.size, 0, none⟩), .pointer (some ⟨W.heap.size + 1, 0, none⟩), .pointer (some ⟨X.heap.size, 0, none⟩), undef, undef, .pointer (some ⟨w.heap.size, 0, none⟩), .slice (some ad) fs.length c, .int .i64 (fs.length : Nat), .int .i64 (j : Nat), .bool true, .pointer (some (ad.add (j * 3))), .agg #[.string (rd_T42 fs (j : Int)).f0, .slice A1 (rd_T42 fs (j : Int)).f1.length c1, .slice A2 (rd_T42 fs (j : Int)).f2.length c2], .pointer (some ⟨W.heap.size, 2, none⟩), .slice A2 (rd_T42 fs (j : Int)).f2.length c2, .func (.func 34) #[] #[.pointer (some ⟨W.heap.size + 1 + 1, 0, none⟩)], .agg cs.toArray, undef, undef, undef, undef, undef, undef, undef, undef, undef, undef, undef, undef, undef, undef, undef, undef, undef, undef, undef, undef, undef, undef, undef, undef, undef, undef, undef, undef, undef, undef, undef, u52, u53, u54, u55, u56, u57, u58, u59, undef], defers := [] }) _ ((KeepsOthers.alloc _ _).from _) ((Kp.refl _ _ _ X).alloc _ hG.be.size (fun b e => by cases e; exact hG.bl.lt)) ⟨vl, hG.alloc _, by simp; omega, ha⟩ ⟨X.heap.size, hle, World.alloc_heap_new X (.cells cs.toArray 55), rfl⟩)
        clear hk hG
        have hcs := k55_open (Kd.FK_now hKs)
        dsimp only at hcs hKs hk'
        obtain ⟨A4, c4, A5, c5, A6, c6, A7, c7, rfl, _⟩ := hcs
        rw [show ((#[20] : Array Tmp).zip (encE ⟨(s, _), hKs, hT⟩)) = #[(20, Value.agg #[Value.int IntKind.i64 s.f0, Value.string s.f1, Value.string s.f2, Value.string s.f3, Value.slice A4 s.f4.length c4, Value.slice A5 s.f5.length c5, Value.slice A6 s.f6.length c6, Value.slice A7 s.f7.length c7])] from by simp [encE]]
        gi_wp2
        exact hk'.out
      case body =>
        rintro lp pre ⟨⟨s, cs⟩, hKs, hT⟩ a' X hlp _ ⟨vl, hG, hle, ha⟩ ⟨Bv, hBv, hbv, rfl⟩ hlen
        have hcs := k55_open (Kd.FK_now hKs)
        dsimp only at hcs hKs hbv
        obtain ⟨A4, c4, A5, c5, A6, c6, A7, c7, rfl, _⟩ := hcs
        have b0 : X.cell? ⟨Bv, 0, none⟩ = some (.int .i64 s.f0) := by rw [cell_at_block hbv]; rfl
        have b3 : X.cell? ⟨Bv, 3, none⟩ = some (.string s.f3) := by rw [cell_at_block hbv]; rfl
        have cl := hG.bl.cell
        have fl := hG.bl.frozen
        have hWs := HO.out.be.size
        have npl : ¬ w.heap.size = W.heap.size + 1 := by omega
        have cp := hG.bp.cell
        have HG := Lib.hid hG
        have hXs := hG.be.size
        clear hG
        obtain ⟨L, hL⟩ : ∃ L, L = pre.map (fun x => x.1.1) := ⟨_, rfl⟩
        rw [← hL] at HG ha
        have hLl : L.length ≤ 2000000 := by rw [hL, List.length_map]; omega
        have HL := Lib.hid (show (pre ++ [(⟨(s, _), hKs, hT⟩ : Elt w (fun k => k < w.heap.size) (fun s => s ∈ flat (rd_T42 fs (j : Int)).f2))]).map (fun x => x.1.1) = L ++ [s] from by rw [hL]; simp)
        have hcn : (coll fs L).length ≤ 1000000000 := Nat.le_trans (coll_len fs L) (Nat.le_trans hLl (by decide))
        have HA := Lib.hid ha
        have hpost : ∀ (e : Exit) (a : Act) (Z : World), Post22 w (some ad) fs.length c (W.heap.size + 1) ds vo outs w1.heap.size fs (L ++ [s]) X e Z → ownPostG w1.heap.size (Kp w.heap.size w1.heap.size (some (W.heap.size + 1))) (fun pre X => CI w (some ad) fs.length c (W.heap.size + 1) ds vo outs w1.heap.size fs (pre.map (·.1.1)) X) (fun cd pre X => CX w (some ad) fs.length c ds outs w1.heap.size cd (pre.map (·.1.1)) X) (pre ++ [(⟨(s, _), hKs, hT⟩ : Elt w (fun k => k < w.heap.size) (fun s => s ∈ flat (rd_T42 fs (j : Int)).f2))]) X e a Z := by
          intro e a Z h
          cases e with
          | normal => exact ⟨h.1, h.2.1, by show CI _ _ _ _ _ _ _ _ _ _ (List.map _ _) _; rw [HL.out]; exact h.2.2⟩
          | exit id => exact ⟨h.1, by show CX _ _ _ _ _ _ _ _ (List.map _ _) _; rw [HL.out]; exact h.2⟩
          | ret => exact h.elim
          | goto => exact h.elim
          | panic => exact h.elim
          | outgrown => exact h.elim
        refine wpIn_mono ?_ hpost
        clear hpost hL ha
        by_cases h6 : s.f0 = 6
        · have h6' : (s.f0 == 6) = true := by simpa using h6
          have hap : applies (L ++ [s]) = true := by simp [applies, h6]
          have HAP := Lib.hid hap
          clear h6 hap
          gi_wp2_with (fail)
          have hG1 := HG.out.clear.setL (.slice none 0 0)
          have hF1 := Fr.of_set X (W.heap.size + 1) (.slice none 0 0)
          have hB1 : Below w.heap.size X (X.setCell ⟨W.heap.size + 1, 0, none⟩ (.slice none 0 0)) := (Below.refl _ _).setCell (p := ⟨W.heap.size + 1, 0, none⟩) (by show w.heap.size ≤ W.heap.size + 1; omega) _
          obtain ⟨X1, hX1⟩ : ∃ X1, X1 = X.setCell ⟨W.heap.size + 1, 0, none⟩ (.slice none 0 0) := ⟨_, rfl⟩
          rw [← hX1] at hG1 hF1 hB1 ⊢
          have HG1 := Lib.hid hG1
          have HF1 := Lib.hid hF1
          have HB1 := Lib.hid hB1
          clear hX1 hG1 hF1 hB1 cl fl cp
          gi_loopg [28] fs.length (fun kq v28 Y => ∃ (i : Nat) (A9 : Option Addr) (c9 : Nat), i + kq = fs.length ∧ v28 = .int .i64 i ∧ Hid (GS w (some ad) fs.length c (W.heap.size + 1) ds Y (.slice A9 i c9) (.slice A9 i c9) (allIx i) vo outs) ∧ Hid (Fr (fun k => k = W.heap.size + 1) X Y) ∧ Hid (∀ k, (Value.slice A9 i c9).ownBlock = some k → X.heap.size ≤ k))
          case atStart => exact ⟨0, none, 0, by omega, rfl, HG1, HF1, Lib.hid (fun k h => by simp [Value.ownBlock] at h)⟩
          case round =>
            obtain ⟨i, A9, c9, hi, rfl, HG1, HF1, HN1⟩ := hrel
            have cl := HG1.out.bl.cell
            have fl := HG1.out.bl.frozen
            by_cases hlt : i < fs.length
            · have hw := pz i (by omega)
              obtain ⟨k1, rfl⟩ : ∃ k1, gk = k1 + 1 := ⟨gk - 1, by omega⟩
              have hal : (allIx i).length ≤ 1000000000 := by rw [allIx_len]; exact Nat.le_trans (Nat.le_of_lt hlt) (Nat.le_trans hl (by decide))
              gi_wp2_with (gi_at_builtin; ((refine wpListIn_app_int (i : Int) rfl (.tmp 31) (.tmp 33) rfl rfl rfl HG1.out hal ?_)); rintro v2 W2 hg2 hb2 hf2 ha2 ⟨A8, c8, e9⟩; rw [allIx_len] at e9; subst e9; clear cl fl; have HG2 := Lib.hid hg2; have HF2 := Lib.hid hf2; have HA2 := Lib.hid ha2; have cl := hg2.bl.cell; have fl := hg2.bl.frozen; clear hg2 hb2 hf2 ha2)
              gi_roundg k1
              case measure => exact Nat.lt_succ_self _
              case rel => exact ⟨i + 1, A8, c8, by rw [Nat.add_assoc, Nat.add_comm 1]; exact hi, by first | rw [hw] | simp, Lib.hid (by rw [allIx_succ]; exact HG2.out.setL _), Lib.hid (fr_app HF1.out HN1.out HF2.out _), Lib.hid (own_app HN1.out HA2.out HF1.out.size)⟩
            · have hie : i = fs.length := by omega
              have co := HG1.out.bo.cell
              have fo := HG1.out.bo.frozen
              subst hie
              gi_wp2_with (gi_at_builtin; ((refine wpListIn_app_row rfl (.tmp 36) (.tmp 38) rfl rfl rfl HG1.out (Nat.le_trans HOL (by decide)) ?_)); rintro v2 W2 ⟨ho2, hb2, hk2⟩ hbx ⟨A8, c8, e9⟩; subst e9; clear co fo cl fl; have HO2 := Lib.hid ho2; have HK2 := Lib.hid hk2; have co := hbx.cell; have fo := hbx.frozen; clear ho2 hb2 hk2 hbx)
              have hkf := ((HF1.out.others (by rintro k o rfl ho; have h2 : X.heap[W.heap.size + 1]? = _ := HG.out.bl; rw [h2] at ho; cases ho; rfl)).from w1.heap.size).trans (HK2.out.from _)
              exact ⟨hkf, rfl, _, HO2.out, Nat.le_trans hle hkf.size, HAP.out⟩
        · have h6' : (s.f0 == 6) = false := by simpa using h6
          by_cases h5 : s.f0 = 5
          · have h5' : (s.f0 == 5) = true := by simpa using h5
            obtain ⟨q, hq⟩ : ∃ q, q = funIx fs s.f3 := ⟨_, rfl⟩
            have hcall : ∀ Y, Below w.heap.size w Y → Calls Try.prog 27 #[.agg #[.slice (some ad) fs.length c], .string s.f3] Y fun e Y' => e = .returned (.int .i64 q) ∧ Below Y.heap.size Y Y' := fun Y hY => by
              rw [hq]; exact fun_any fs (some ad) c s.f3 Y hlc (Kd.C_below K0.out hY) hl
            have HC := Lib.hid hcall
            have hfn7 : Fence.wide.fn 27 := trivial
            have hbx : X.heap.size ≤ X.heap.size := Nat.le_refl _
            by_cases h0 : 0 ≤ q
            · have h0' : decide (q ≥ 0) = true := by simpa using h0
              have h0'' : decide (0 ≤ q) = true := by simpa using h0
              have hcb : Hid (calledBy fs s = [q]) := Lib.hid (by unfold calledBy; rw [if_pos ⟨h5, by rw [← hq]; exact h0⟩, hq])
              clear h6 h5 hcall hq
              gi_wp2_with (first
                | ((try refine ⟨fun h => by simp [Fence.wide, Fence.inRound] at h, ?_⟩); gi_at_call 27; ((refine (CallsIn.inRound _ (callsIn_wide.2 (HC.out _ HG.out.be))).mono ?_)); rintro e Y ⟨rfl, hb⟩; clear cl fl cp; have HB := Lib.hid hb; have HGY := Lib.hid (HG.out.below hb); have cl := HGY.out.bl.cell; have fl := HGY.out.bl.frozen; clear hb)
                | (gi_at_builtin; ((refine wpListIn_app_int q rfl (.tmp 48) (.tmp 50) rfl rfl rfl HGY.out hcn ?_)); rintro v2 W2 hg2 hb2 hf2 ha2 ⟨A8, c8, e9⟩; subst e9; clear cl fl; have HG2 := Lib.hid hg2; have HB2 := Lib.hid hb2; have HF2 := Lib.hid hf2; have HA2 := Lib.hid ha2; have cl := hg2.bl.cell; have fl := hg2.bl.frozen; clear hg2 hb2 hf2 ha2))
              exact CI.more HG.out hle HA.out h6' hcb.out (by omega) HB.out hXs HG2.out HF2.out HB2.out HA2.out
            · have h0' : decide (q ≥ 0) = false := by simpa using h0
              have h0'' : decide (0 ≤ q) = false := by simpa using h0
              have hcb : Hid (calledBy fs s = []) := Lib.hid (by unfold calledBy; rw [if_neg (fun e => h0 (by rw [hq]; exact e.2))])
              clear h6 h5 hcall hq
              gi_wp2_with (first
                | ((try refine ⟨fun h => by simp [Fence.wide, Fence.inRound] at h, ?_⟩); gi_at_call 27; ((refine (CallsIn.inRound _ (callsIn_wide.2 (HC.out _ HG.out.be))).mono ?_)); rintro e Y ⟨rfl, hb⟩; clear cl fl cp; have HB := Lib.hid hb; clear hb))
              exact CI.same HG.out hle HA.out h6' hcb.out (by omega) HB.out hXs
          · have h5' : (s.f0 == 5) = false := by simpa using h5
            have hcb : Hid (calledBy fs s = []) := Lib.hid (by unfold calledBy; rw [if_neg (fun e => h5 e.1)])
            clear h6 h5
            gi_wp2
            exact CI.same HG.out hle HA.out h6' hcb.out (by omega) (Below.refl _ _) hXs
      case done =>
        rintro D ys X hD hys ⟨vl, hG, hle, ha⟩ hDX
        rw [hys] at hG ha
        have hco : callsOf fs F = Lib.compact (srt (coll fs (flat (rd_T42 fs (j : Int)).f2))) := by rw [HF.out]; unfold callsOf; rw [if_neg (by rw [ha]; simp)]
        obtain ⟨xs, hxs⟩ : ∃ xs, xs = coll fs (flat (rd_T42 fs (j : Int)).f2) := ⟨_, rfl⟩
        have hxl : xs.length < 4611686018427387904 := by rw [hxs]; exact Nat.lt_of_le_of_lt (coll_len _ _) (Nat.lt_of_le_of_lt hflen (by decide))
        rw [← hxs] at hG hco
        have HCO := Lib.hid hco
        have HG := Lib.hid hG
        have cl := hG.bl.cell
        have hfn8 : Fence.wide.fn 28 := trivial
        have hfn9 : Fence.wide.fn 29 := trivial
        have HDX := Lib.hid hDX
        have HXL := Lib.hid hxl
        clear hG hxs hco hDX ha hys hxl
        gi_wp2_with ((try refine ⟨fun _ => by decide, ?_⟩); gi_at_call 28; ((refine (callsIn_wide.2 (sort_own xs vl w.heap.size X HG.out.rl HXL.out)).mono ?_)); rintro e Y ⟨rfl, hr, hg⟩; have hrs := (srt_len xs); have HGY := Lib.hid (HG.out.row (ys := srt xs) (by rw [srt_len]; exact hr) hg (.inl rfl)); have HGR := Lib.hid hg; clear hr hg hrs cl)
        refine wpIn_region_any mixed ?_
        refine wpAnyIn_flow2 _ (fun _ => undef) (fun done val Z => S22 w (some ad) fs.length c (W.heap.size + 1) ds vo vl (srt xs) (Lib.compact (srt xs)) outs Y done val Z) rfl (by kernel_rfl) _ ?hz ?step22 ?end22
        case hz =>
          have hb : Below Y.heap.size Y { Y with drawn := Y.drawn + 1 } := (Below.refl Y.heap.size Y).drew
          exact ⟨by simp, by simp, by simp, by simp, by simp, by simp, fun _ => ⟨HGY.out.below hb, (Fr.of_below (fun _ => False) hb).others (fun _ _ h => h.elim)⟩, by simp, by simp, by simp, by simp⟩
        case step22 =>
          intro i o done val a Z ho hdn hdep hag hS K2 hK2
          have hi : i < 6 := by
            by_cases h : i < 6
            · exact h
            · rw [Array.getElem?_eq_none (by simp; omega)] at ho; cases ho
          obtain rfl | rfl | rfl | rfl | rfl | rfl : i = 0 ∨ i = 1 ∨ i = 2 ∨ i = 3 ∨ i = 4 ∨ i = 5 := by omega
          · cases ho
            have e : a.eval (.tmp 3) = .pointer (some ⟨w.heap.size + 1, 0, none⟩) := hag.keep 3 rfl
            have hc := (hS.bo (hS.n4 hdn)).cell
            refine wpOpIn_value (i := 0) (r := vo) rfl rfl (fun c h => by cases h) rfl ?_ (hK2 _ _ (hS.do0 hdn))
            generalize a.eval = ev at e
            simp [execOp, e, go_sem, hc]
          · cases ho
            have e : a.eval (.tmp 6) = .pointer (some ⟨W.heap.size + 1, 0, none⟩) := hag.keep 6 rfl
            have hc := (hS.s1 (hS.n2 hdn)).1.bl.cell
            refine wpOpIn_value (i := 1) (r := vl) rfl rfl (fun c h => by cases h) rfl ?_ (hK2 _ _ (hS.do1 hdn))
            generalize a.eval = ev at e
            simp [execOp, e, go_sem, hc]
          · cases ho
            have h1 := hdep ⟨1, .data⟩ (by simp) rfl
            have e : a.eval (.tmp 55) = vl := (hag.val_ (j := 1) (t := 55) rfl h1).trans (hS.v1 h1)
            obtain ⟨hg1, hk1⟩ := hS.s1 hdn
            refine wpOpIn_list rfl ?_
            refine wpOpIn_callL (f := 29) (R := fun e w2 => ∃ v', e = .returned v' ∧ w2.ownsRow w.heap.size 3 1 v' (Lib.compact (srt xs)).length ((Lib.compact (srt xs)).map (Value.int .i64)) ∧ Z.grownBy w2 vl.ownBlock ∧ v'.ownBlock = vl.ownBlock) rfl rfl (fun _ _ => rfl) ?_ ?_
            · simp only [List.map_toArray, List.map_cons, List.map_nil, e]
              exact compact_own (srt xs) vl w.heap.size Z hg1.rl (by rw [srt_len]; exact HXL.out)
            · rintro e' w2 ⟨v', rfl, hr, hg, hob⟩
              have hg2 := hg1.row (ys := Lib.compact (srt xs)) hr hg (.inl hob)
              refine ⟨v', rfl, hK2 _ _ (hS.do2 hdn h1 v' w2 hg2 (hk1.trans ((Fr.of_grown hg).others ?_)))⟩
              intro k o hk ho
              obtain ⟨cs, hcs⟩ := own_typed hg1.rl k hk.symm
              rw [hcs] at ho; cases ho; rfl
          · cases ho
            have h2 := hdep ⟨2, .data⟩ (by simp) rfl
            have e : a.eval (.tmp 56) = val 2 := hag.val_ (j := 2) (t := 56) rfl h2
            obtain ⟨hg1, hk1⟩ := hS.s2 h2 hdn
            obtain ⟨A7, n7, c7, e7⟩ := own_slice hg1.rl
            refine wpOpIn_value (i := 3) (r := .slice (some ⟨Z.heap.size, 0, none⟩) 1 1) (w' := Z.alloc (.cells #[val 2] 32)) rfl rfl (fun c h => by cases h) rfl ?_ (hK2 _ _ (hS.do3 hdn h2))
            rw [e7] at e
            generalize a.eval = ev at e
            simp [execOp, e, go_sem, e7]
          · cases ho
            have h0 := hdep ⟨0, .data⟩ (by simp) rfl
            have h3 := hdep ⟨3, .data⟩ (by simp) rfl
            have e : a.eval (.tmp 54) = vo := (hag.val_ (j := 0) (t := 54) rfl h0).trans (hS.v0 h0)
            obtain ⟨Z0, rfl, e3, hg1, hk1⟩ := hS.s3 h3 hdn
            have e4 : a.eval (.tmp 57) = .slice (some ⟨Z0.heap.size, 0, none⟩) 1 1 := (hag.val_ (j := 3) (t := 57) rfl h3).trans e3
            refine wpOpIn_list rfl ?_
            refine wpListIn_app_row rfl (.tmp 54) (.tmp 57) rfl e e4 hg1 (Nat.le_trans HOL (by decide)) ?_
            rintro v2 W2 ⟨ho2, hb2, hk2⟩ hbx hv
            exact hK2 _ _ (hS.do4 hdn h3 h0 v2 W2 hv ho2 (hk1.trans hk2) hbx)
          · cases ho
            have h4 := hdep ⟨4, .data⟩ (by simp) rfl
            have e : a.eval (.tmp 3) = .pointer (some ⟨w.heap.size + 1, 0, none⟩) := hag.keep 3 rfl
            have e4 : a.eval (.tmp 58) = val 4 := hag.val_ (j := 4) (t := 58) rfl h4
            obtain ⟨⟨A', c', hv⟩, ho4, hk4, hb4⟩ := hS.s4 h4 hdn
            have hc := hb4.cell
            have hf := hb4.frozen
            refine wpOpIn_skip (i := 5) rfl rfl (fun c h => by cases h) rfl (w' := Z.setCell ⟨w.heap.size + 1, 0, none⟩ (val 4)) ?_ (hK2 _ _ (hS.do5 hdn h4 _))
            rw [hv] at e4 ⊢
            generalize a.eval = ev at e e4
            simp [execOp, e, e4, go_sem, hc, hf]
        case end22 =>
          intro Z done val hdn hS
          obtain ⟨v9, hO9, hk9⟩ := hS.s5 (hdn 5 (by decide))
          have hDZ : Z.heap[D]? = some (.deferred (some [])) := by
            refine hk9.same D _ ?_ rfl
            rw [HGR.out.block D (Array.getElem?_eq_some_iff.1 HDX.out).1 (fun e => by obtain ⟨cs, hcs⟩ := own_typed HG.out.rl D e.symm; rw [HDX.out] at hcs; cases hcs)]
            exact HDX.out
          have HO9 := Lib.hid (hO9.cons (Nat.le_trans hwsz hD) hDZ)
          clear hO9 hk9 hDZ hS
          simp only [putTmps, dstOf, List.size_toArray, List.length_cons, List.length_nil, Nat.reduceAdd, List.getElem?_toArray, List.getElem?_cons_zero, List.getElem?_cons_succ, Option.bind_some, List.setIfInBounds_toArray, List.set_cons_zero, List.set_cons_succ]
          obtain ⟨k1, rfl⟩ : ∃ k1, k = k1 + 1 := ⟨k - 1, by omega⟩
          gi_wp2
          refine ⟨k1, Nat.lt_succ_self _, hJ _ _ _ ⟨j + 1, D :: ds, v9, _, _, _, _, _, _, _, _, _, _, _, _, _, _, _, _, _, by omega, ?_, rfl, ?_, ?_⟩⟩
          · first | rfl | rw [hkk] | simp [hkk]
          · rw [HTK.out, HCO.out]; exact HO9
          · exact Lib.hid (List.nodup_cons.2 ⟨fun h => by have := hdl D h; omega, HD.out⟩)
      case stop =>
        rintro D cd pre X hD ⟨q, hq⟩ ⟨rfl, vo', hO, hle, ha⟩ hDX
        have hap := applies_pre hq ha
        have hco : callsOf fs F = allIx fs.length := by rw [HF.out]; unfold callsOf; rw [if_pos hap]
        have HO9 := Lib.hid (hO.cons (Nat.le_trans hwsz hD) hDX)
        have HCO := Lib.hid hco
        clear hO hco hap hq ha hDX
        obtain ⟨k1, rfl⟩ : ∃ k1, k = k1 + 1 := ⟨k - 1, by omega⟩
        gi_wp2
        refine ⟨k1, Nat.lt_succ_self _, hJ _ _ _ ⟨j + 1, D :: ds, vo', _, _, _, _, _, _, _, _, _, _, _, _, _, _, _, _, _, by omega, ?_, rfl, ?_, ?_⟩⟩
        · first | rfl | rw [hkk] | simp [hkk]
        · rw [HTK.out, HCO.out]; exact HO9
        · exact Lib.hid (List.nodup_cons.2 ⟨fun h => by have := hdl D h; omega, HD.out⟩)
    · have hje : j = fs.length := by omega
      have co := HO.out.bo.cell
      have hout : (fs.take j).map (callsOf fs) = callsF fs := by rw [hje, List.take_length]; rfl
      rw [hout] at HO
      have HO9 := HO
      clear hout hJ hK
      gi_wp2
      refine leaves_all w.heap.size (fun Z => OS w A fs.length c [] Z vo (callsF fs)) ?_ ?_ ds W ⟨HO9.out.be, HO9.out.bp, HO9.out.bo, HO9.out.ro, fun _ h => by cases h⟩ HD.out HO9.out.df
      · intro Z D hZ hB hD
        exact hZ.turn (Nat.le_refl _) (fun _ h => by cases h) (grownBy_putObj' Z D _) (fun r e => by cases e; exact ⟨hB, _, hD, rfl⟩)
      · intro Z hZ
        exact ⟨_, results_tmp rfl _ _ _, vo, rfl, hZ.ro, hZ.be⟩
end Go.Proofs.Ytdbngbmokgeeiaa.Man
