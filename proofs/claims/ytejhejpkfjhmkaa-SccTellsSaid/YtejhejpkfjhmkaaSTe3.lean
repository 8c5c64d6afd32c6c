/- A part of the proof that SccTells returns true for every argument. Parts: Pr1 PgA PgB PgC. No conditions beyond the given statement's own. -/
import Derived.Test.YtejhejpkfjhmkaaSTe2

-- Written by wip/xprint.py (the kit's print, run over this seat with some contracts of my own). Not trusted: Lean checks it.
namespace Go.Proofs.Ytejhejpkfjhmkaa.Pr
open Go.RowKit Go.Proofs.YtejhejpkfjhmkaaW.PrintWords Go.Proofs.YtejhejpkfjhmkaaW.PrintLast Go.Proofs.YtejhejpkfjhmkaaW.PrintMore
attribute [local go_sem] max2_int min2_int max_two min_two max_three min_three max_four min_four   -- for this text's walks alone
set_option linter.unusedVariables false
set_option linter.unusedSimpArgs false
def r12_Ints.l0 : Nat → List Int → List Int → Int → Option (Bool)
  | 0, _, _, _ => none
  | k + 1, x0, x1, x5 => if x5 < (x0.length : Int) then (if 0 ≤ x5 then (if x5 < (x1.length : Int) then (if (rd x0 x5) = (rd x1 x5) then (r12_Ints.l0 k x0 x1 (wrap64 (x5 + 1))) else (some false)) else (none)) else (none)) else (some true)
def r12_Ints.f (k : Nat) (l0 : List Int) (l1 : List Int) : Option (Bool) := if (l0.length : Int) = (l1.length : Int) then (r12_Ints.l0 k l0 l1 0) else (some false)
set_option maxHeartbeats 8000000 in
set_option maxRecDepth 100000 in
theorem r12_Ints.calls (k : Nat) (A0 : Option Addr) (c0 : Nat) (l0 : List Int) (A1 : Option Addr) (c1 : Nat) (l1 : List Int) (r : Bool) (w : World) (hr0 : Kd.C (Kd.int .i64) w A0 l0.length l0) (hc0 : l0.length ≤ c0) (hr1 : Kd.C (Kd.int .i64) w A1 l1.length l1) (hc1 : l1.length ≤ c1) (h : r12_Ints.f k l0 l1 = some r) :
    Calls Try.prog 9 #[.slice A0 l0.length c0, .slice A1 l1.length c1] w fun e w' => e = .returned (.bool r) ∧ Drawn0 w w' := by
 have HR0 := Aside0.mk hr0
 have HC0 := Aside0.mk hc0
 clear hr0 hc0
 have HR1 := Aside0.mk hr1
 have HC1 := Aside0.mk hc1
 clear hr1 hc1
 have H : (if (l0.length : Int) = (l1.length : Int) then (r12_Ints.l0 k l0 l1 0) else (some false)) = some r := h
 clear h
 by_cases c3 : (l0.length : Int) = (l1.length : Int)
 ·rw [if_pos c3] at H
  have c3b0 : ((l0.length : Int) == (l1.length : Int)) = true := beq_iff_eq.mpr c3
  have c3b1 : ((l0.length : Int) != (l1.length : Int)) = false := bne_eq_false_iff_eq.mpr c3
  have c3b2 : (l0.length == l1.length) = true := by first | simpa using c3 | (simp at c3 ⊢; omega)
  clear c3
  have H' := Aside0.mk H
  clear H
  go_enter Try.func9, Try.ntmps9
  go_wp2
  repeat (go_quiet (fail); try go_wp2)
  go_loopg [5] k (fun kq v5 w' => ∃ (x5_1 : Int), v5 = .int .i64 x5_1 ∧ Aside0 (r12_Ints.l0 kq l0 l1 x5_1 = some r) ∧ Aside0 (kq ≤ k) ∧ Drawn0 w w')
  case atStart => exact ⟨(0), (by first | rfl | (simp; done) | (simp [*]; done)), H', ⟨Nat.le_refl _⟩, by repeat (first | exact Drawn0.refl _ | apply Drawn0.step)⟩
  case round =>
   clear H'
   try clear c1
   try clear p2
   try clear c3
   try clear c3b0
   try clear c3b1
   try clear c3b2
   obtain ⟨x5_1, rfl, HA, HK1, ⟨m1, rfl⟩⟩ := hrel
   cases gk with
   | zero => exact absurd HA.out (by simp [r12_Ints.l0])
   | succ k1 =>
    have H := HA.out
    clear HA
    simp only [r12_Ints.l0] at H
    by_cases c4 : x5_1 < (l0.length : Int)
    ·rw [if_pos c4] at H
     have c4b0 : decide (x5_1 < (l0.length : Int)) = true := decide_eq_true c4
     clear c4
     by_cases c5 : 0 ≤ x5_1
     ·rw [if_pos c5] at H
      have c5b0 : decide (0 ≤ x5_1) = true := decide_eq_true c5
      clear c5
      by_cases c6 : x5_1 < (l1.length : Int)
      ·rw [if_pos c6] at H
       have c6b0 : decide (x5_1 < (l1.length : Int)) = true := decide_eq_true c6
       clear c6
       by_cases c7 : (rd l0 x5_1) = (rd l1 x5_1)
       ·rw [if_pos c7] at H
        have c7b0 : ((rd l0 x5_1) == (rd l1 x5_1)) = true := beq_iff_eq.mpr c7
        have c7b1 : ((rd l0 x5_1) != (rd l1 x5_1)) = false := bne_eq_false_iff_eq.mpr c7
        clear c7
        have H' := Aside0.mk H
        clear H
        have p101 : 0 ≤ (x5_1 : Int) := of_decide_eq_true (by first | (with_reducible assumption) | assumption)
        have q101 : x5_1 < (l0.length : Int) := of_decide_eq_true (by first | (with_reducible assumption) | assumption)
        obtain ⟨ad101, e101, hx101_0⟩ := Kd.at_int HR0.out x5_1 p101 q101
        cases e101
        replace p101 := eq_true p101
        replace q101 := eq_true q101
        have p102 : 0 ≤ (x5_1 : Int) := of_decide_eq_true (by first | (with_reducible assumption) | assumption)
        have q102 : x5_1 < (l1.length : Int) := of_decide_eq_true (by first | (with_reducible assumption) | assumption)
        obtain ⟨ad102, e102, hx102_0⟩ := Kd.at_int HR1.out x5_1 p102 q102
        cases e102
        replace p102 := eq_true p102
        replace q102 := eq_true q102
        go_wp2
        repeat (go_quiet (fail); try go_wp2)
        go_roundg k1
        case measure => have := HK1.out; omega
        case rel => exact ⟨(wrap64 (x5_1 + 1)), (by first | rfl | (simp; done) | (simp [*]; done)), H', ⟨by have := HK1.out; omega⟩, by repeat (first | exact Drawn0.refl _ | apply Drawn0.step)⟩
       ·rw [if_neg c7] at H
        have c7b0 : ((rd l0 x5_1) == (rd l1 x5_1)) = false := beq_eq_false_iff_ne.mpr c7
        have c7b1 : ((rd l0 x5_1) != (rd l1 x5_1)) = true := bne_iff_ne.mpr c7
        obtain rfl := Option.some.inj H
        have p101 : 0 ≤ (x5_1 : Int) := of_decide_eq_true (by first | (with_reducible assumption) | assumption)
        have q101 : x5_1 < (l0.length : Int) := of_decide_eq_true (by first | (with_reducible assumption) | assumption)
        obtain ⟨ad101, e101, hx101_0⟩ := Kd.at_int HR0.out x5_1 p101 q101
        cases e101
        replace p101 := eq_true p101
        replace q101 := eq_true q101
        have p102 : 0 ≤ (x5_1 : Int) := of_decide_eq_true (by first | (with_reducible assumption) | assumption)
        have q102 : x5_1 < (l1.length : Int) := of_decide_eq_true (by first | (with_reducible assumption) | assumption)
        obtain ⟨ad102, e102, hx102_0⟩ := Kd.at_int HR1.out x5_1 p102 q102
        cases e102
        replace p102 := eq_true p102
        replace q102 := eq_true q102
        go_wp2
        repeat (go_quiet (fail); try go_wp2)
        go_ret
        exact ⟨by first | rfl | (simp; done) | (simp [*]; done), by repeat (first | exact Drawn0.refl _ | apply Drawn0.step)⟩
      ·rw [if_neg c6] at H
       exact absurd H (by simp)
     ·rw [if_neg c5] at H
      exact absurd H (by simp)
    ·rw [if_neg c4] at H
     have c4b0 : decide (x5_1 < (l0.length : Int)) = false := decide_eq_false c4
     clear c4
     obtain rfl := Option.some.inj H
     go_wp2
     repeat (go_quiet (fail); try go_wp2)
     go_ret
     exact ⟨by first | rfl | (simp; done) | (simp [*]; done), by repeat (first | exact Drawn0.refl _ | apply Drawn0.step)⟩
 ·rw [if_neg c3] at H
  have c3b0 : ((l0.length : Int) == (l1.length : Int)) = false := beq_eq_false_iff_ne.mpr c3
  have c3b1 : ((l0.length : Int) != (l1.length : Int)) = true := bne_iff_ne.mpr c3
  have c3b2 : (l0.length == l1.length) = false := by first | simpa using c3 | (simp at c3 ⊢; omega)
  obtain rfl := Option.some.inj H
  go_enter Try.func9, Try.ntmps9
  go_wp2
  repeat (go_quiet (fail); try go_wp2)
  go_ret
  exact ⟨by first | rfl | (simp; done) | (simp [*]; done), by repeat (first | exact Drawn0.refl _ | apply Drawn0.step)⟩
def r12_Same.l0 : Nat → List (List Int) → List (List Int) → Int → Option (Bool)
  | 0, _, _, _ => none
  | k + 1, x0, x1, x5 => if x5 < (x0.length : Int) then (if 0 ≤ x5 then (if x5 < (x1.length : Int) then ((r12_Ints.f k (rd_L1 x0 x5) (rd_L1 x1 x5)).bind fun t105 => (if t105 = true then (r12_Same.l0 k x0 x1 (wrap64 (x5 + 1))) else (some false))) else (none)) else (none)) else (some true)
def r12_Same.f (k : Nat) (l0 : List (List Int)) (l1 : List (List Int)) : Option (Bool) := if (l0.length : Int) = (l1.length : Int) then (r12_Same.l0 k l0 l1 0) else (some false)
set_option maxHeartbeats 8000000 in
set_option maxRecDepth 100000 in
theorem r12_Same.calls (k : Nat) (A0 : Option Addr) (c0 : Nat) (l0 : List (List Int)) (A1 : Option Addr) (c1 : Nat) (l1 : List (List Int)) (r : Bool) (w : World) (hr0 : Kd.C (Kd.slice 3 (Kd.int .i64)) w A0 l0.length l0) (hc0 : l0.length ≤ c0) (hr1 : Kd.C (Kd.slice 3 (Kd.int .i64)) w A1 l1.length l1) (hc1 : l1.length ≤ c1) (h : r12_Same.f k l0 l1 = some r) :
    Calls Try.prog 14 #[.slice A0 l0.length c0, .slice A1 l1.length c1] w fun e w' => e = .returned (.bool r) ∧ Drawn0 w w' := by
 have HR0 := Aside0.mk hr0
 have HC0 := Aside0.mk hc0
 clear hr0 hc0
 have HR1 := Aside0.mk hr1
 have HC1 := Aside0.mk hc1
 clear hr1 hc1
 have H : (if (l0.length : Int) = (l1.length : Int) then (r12_Same.l0 k l0 l1 0) else (some false)) = some r := h
 clear h
 by_cases c3 : (l0.length : Int) = (l1.length : Int)
 ·rw [if_pos c3] at H
  have c3b0 : ((l0.length : Int) == (l1.length : Int)) = true := beq_iff_eq.mpr c3
  have c3b1 : ((l0.length : Int) != (l1.length : Int)) = false := bne_eq_false_iff_eq.mpr c3
  have c3b2 : (l0.length == l1.length) = true := by first | simpa using c3 | (simp at c3 ⊢; omega)
  clear c3
  have H' := Aside0.mk H
  clear H
  go_enter Try.func14, Try.ntmps14
  go_wp2
  repeat (go_quiet (fail); try go_wp2)
  go_loopg [5] k (fun kq v5 w' => ∃ (x5_1 : Int), v5 = .int .i64 x5_1 ∧ Aside0 (r12_Same.l0 kq l0 l1 x5_1 = some r) ∧ Aside0 (kq ≤ k) ∧ Drawn0 w w')
  case atStart => exact ⟨(0), (by first | rfl | (simp; done) | (simp [*]; done)), H', ⟨Nat.le_refl _⟩, by repeat (first | exact Drawn0.refl _ | apply Drawn0.step)⟩
  case round =>
   clear H'
   try clear c1
   try clear p2
   try clear c3
   try clear c3b0
   try clear c3b1
   try clear c3b2
   obtain ⟨x5_1, rfl, HA, HK1, ⟨m1, rfl⟩⟩ := hrel
   cases gk with
   | zero => exact absurd HA.out (by simp [r12_Same.l0])
   | succ k1 =>
    have H := HA.out
    clear HA
    simp only [r12_Same.l0] at H
    by_cases c4 : x5_1 < (l0.length : Int)
    ·rw [if_pos c4] at H
     have c4b0 : decide (x5_1 < (l0.length : Int)) = true := decide_eq_true c4
     clear c4
     by_cases c5 : 0 ≤ x5_1
     ·rw [if_pos c5] at H
      have c5b0 : decide (0 ≤ x5_1) = true := decide_eq_true c5
      clear c5
      by_cases c6 : x5_1 < (l1.length : Int)
      ·rw [if_pos c6] at H
       have c6b0 : decide (x5_1 < (l1.length : Int)) = true := decide_eq_true c6
       clear c6
       replace H := Option.bind_eq_some_iff.mp H
       obtain ⟨t105, A70, H⟩ := H
       replace H : (if t105 = true then (r12_Same.l0 k1 l0 l1 (wrap64 (x5_1 + 1))) else (some false)) = some r := H
       have A7 := Aside0.mk A70
       clear A70
       by_cases c8 : t105 = true
       ·subst c8
        have H1 : (r12_Same.l0 k1 l0 l1 (wrap64 (x5_1 + 1))) = some r := by rw [if_pos rfl] at H; exact H
        clear H
        have H := H1
        clear H1
        have H' := Aside0.mk H
        clear H
        have p103 : 0 ≤ (x5_1 : Int) := of_decide_eq_true (by first | (with_reducible assumption) | assumption)
        have q103 : x5_1 < (l0.length : Int) := of_decide_eq_true (by first | (with_reducible assumption) | assumption)
        obtain ⟨ad103, A103_0, c103_0, e103, hx103_0, hl103_0, hi103_0⟩ := at_L1 HR0.out x5_1 p103 q103
        cases e103
        have HR103_0 := Aside0.mk hi103_0
        have HC103_0 := Aside0.mk hl103_0
        clear hi103_0 hl103_0
        replace p103 := eq_true p103
        replace q103 := eq_true q103
        have p104 : 0 ≤ (x5_1 : Int) := of_decide_eq_true (by first | (with_reducible assumption) | assumption)
        have q104 : x5_1 < (l1.length : Int) := of_decide_eq_true (by first | (with_reducible assumption) | assumption)
        obtain ⟨ad104, A104_0, c104_0, e104, hx104_0, hl104_0, hi104_0⟩ := at_L1 HR1.out x5_1 p104 q104
        cases e104
        have HR104_0 := Aside0.mk hi104_0
        have HC104_0 := Aside0.mk hl104_0
        clear hi104_0 hl104_0
        replace p104 := eq_true p104
        replace q104 := eq_true q104
        go_wp2_with (first | (go_at_call 9; (with_reducible refine (r12_Ints.calls k1 _ _ (rd_L1 l0 x5_1) _ _ (rd_L1 l1 x5_1) true _ ?side1 ?side2 ?side3 ?side4 A7.out).mono ?_); (case side1 => repeat (first | exact HR103_0.out | (with_reducible refine Kd.C_alloc ?_ _) | (with_reducible refine Kd.C_drewN ?_ _) | (with_reducible refine Kd.C_drew ?_))); (case side2 => exact HC103_0.out); (case side3 => repeat (first | exact HR104_0.out | (with_reducible refine Kd.C_alloc ?_ _) | (with_reducible refine Kd.C_drewN ?_ _) | (with_reducible refine Kd.C_drew ?_))); (case side4 => exact HC104_0.out); rintro e w' ⟨rfl, ⟨nd, rfl⟩⟩; (try first | exact ⟨rfl, _, World.drewN_drewN _ _ _⟩ | exact ⟨rfl, _, Eq.trans (World.drewN_drewN _ _ _) (congrArg (World.drewN _) (Nat.add_assoc _ _ _))⟩)))
        repeat (go_quiet (first | (go_at_call 9; (with_reducible refine (r12_Ints.calls k1 _ _ (rd_L1 l0 x5_1) _ _ (rd_L1 l1 x5_1) true _ ?side1 ?side2 ?side3 ?side4 A7.out).mono ?_); (case side1 => repeat (first | exact HR103_0.out | (with_reducible refine Kd.C_alloc ?_ _) | (with_reducible refine Kd.C_drewN ?_ _) | (with_reducible refine Kd.C_drew ?_))); (case side2 => exact HC103_0.out); (case side3 => repeat (first | exact HR104_0.out | (with_reducible refine Kd.C_alloc ?_ _) | (with_reducible refine Kd.C_drewN ?_ _) | (with_reducible refine Kd.C_drew ?_))); (case side4 => exact HC104_0.out); rintro e w' ⟨rfl, ⟨nd, rfl⟩⟩; (try first | exact ⟨rfl, _, World.drewN_drewN _ _ _⟩ | exact ⟨rfl, _, Eq.trans (World.drewN_drewN _ _ _) (congrArg (World.drewN _) (Nat.add_assoc _ _ _))⟩))); try go_wp2_with (first | (go_at_call 9; (with_reducible refine (r12_Ints.calls k1 _ _ (rd_L1 l0 x5_1) _ _ (rd_L1 l1 x5_1) true _ ?side1 ?side2 ?side3 ?side4 A7.out).mono ?_); (case side1 => repeat (first | exact HR103_0.out | (with_reducible refine Kd.C_alloc ?_ _) | (with_reducible refine Kd.C_drewN ?_ _) | (with_reducible refine Kd.C_drew ?_))); (case side2 => exact HC103_0.out); (case side3 => repeat (first | exact HR104_0.out | (with_reducible refine Kd.C_alloc ?_ _) | (with_reducible refine Kd.C_drewN ?_ _) | (with_reducible refine Kd.C_drew ?_))); (case side4 => exact HC104_0.out); rintro e w' ⟨rfl, ⟨nd, rfl⟩⟩; (try first | exact ⟨rfl, _, World.drewN_drewN _ _ _⟩ | exact ⟨rfl, _, Eq.trans (World.drewN_drewN _ _ _) (congrArg (World.drewN _) (Nat.add_assoc _ _ _))⟩))))
        go_roundg k1
        case measure => have := HK1.out; omega
        case rel => exact ⟨(wrap64 (x5_1 + 1)), (by first | rfl | (simp; done) | (simp [*]; done)), H', ⟨by have := HK1.out; omega⟩, by repeat (first | exact Drawn0.refl _ | apply Drawn0.step)⟩
       ·replace c8 := Bool.eq_false_iff.mpr c8
        subst c8
        have H1 : (some false) = some r := by rw [if_neg (show ¬ (false = true) by decide)] at H; exact H
        clear H
        have H := H1
        clear H1
        obtain rfl := Option.some.inj H
        have p103 : 0 ≤ (x5_1 : Int) := of_decide_eq_true (by first | (with_reducible assumption) | assumption)
        have q103 : x5_1 < (l0.length : Int) := of_decide_eq_true (by first | (with_reducible assumption) | assumption)
        obtain ⟨ad103, A103_0, c103_0, e103, hx103_0, hl103_0, hi103_0⟩ := at_L1 HR0.out x5_1 p103 q103
        cases e103
        have HR103_0 := Aside0.mk hi103_0
        have HC103_0 := Aside0.mk hl103_0
        clear hi103_0 hl103_0
        replace p103 := eq_true p103
        replace q103 := eq_true q103
        have p104 : 0 ≤ (x5_1 : Int) := of_decide_eq_true (by first | (with_reducible assumption) | assumption)
        have q104 : x5_1 < (l1.length : Int) := of_decide_eq_true (by first | (with_reducible assumption) | assumption)
        obtain ⟨ad104, A104_0, c104_0, e104, hx104_0, hl104_0, hi104_0⟩ := at_L1 HR1.out x5_1 p104 q104
        cases e104
        have HR104_0 := Aside0.mk hi104_0
        have HC104_0 := Aside0.mk hl104_0
        clear hi104_0 hl104_0
        replace p104 := eq_true p104
        replace q104 := eq_true q104
        go_wp2_with (first | (go_at_call 9; (with_reducible refine (r12_Ints.calls k1 _ _ (rd_L1 l0 x5_1) _ _ (rd_L1 l1 x5_1) false _ ?side1 ?side2 ?side3 ?side4 A7.out).mono ?_); (case side1 => repeat (first | exact HR103_0.out | (with_reducible refine Kd.C_alloc ?_ _) | (with_reducible refine Kd.C_drewN ?_ _) | (with_reducible refine Kd.C_drew ?_))); (case side2 => exact HC103_0.out); (case side3 => repeat (first | exact HR104_0.out | (with_reducible refine Kd.C_alloc ?_ _) | (with_reducible refine Kd.C_drewN ?_ _) | (with_reducible refine Kd.C_drew ?_))); (case side4 => exact HC104_0.out); rintro e w' ⟨rfl, ⟨nd, rfl⟩⟩; (try first | exact ⟨rfl, _, World.drewN_drewN _ _ _⟩ | exact ⟨rfl, _, Eq.trans (World.drewN_drewN _ _ _) (congrArg (World.drewN _) (Nat.add_assoc _ _ _))⟩)))
        repeat (go_quiet (first | (go_at_call 9; (with_reducible refine (r12_Ints.calls k1 _ _ (rd_L1 l0 x5_1) _ _ (rd_L1 l1 x5_1) false _ ?side1 ?side2 ?side3 ?side4 A7.out).mono ?_); (case side1 => repeat (first | exact HR103_0.out | (with_reducible refine Kd.C_alloc ?_ _) | (with_reducible refine Kd.C_drewN ?_ _) | (with_reducible refine Kd.C_drew ?_))); (case side2 => exact HC103_0.out); (case side3 => repeat (first | exact HR104_0.out | (with_reducible refine Kd.C_alloc ?_ _) | (with_reducible refine Kd.C_drewN ?_ _) | (with_reducible refine Kd.C_drew ?_))); (case side4 => exact HC104_0.out); rintro e w' ⟨rfl, ⟨nd, rfl⟩⟩; (try first | exact ⟨rfl, _, World.drewN_drewN _ _ _⟩ | exact ⟨rfl, _, Eq.trans (World.drewN_drewN _ _ _) (congrArg (World.drewN _) (Nat.add_assoc _ _ _))⟩))); try go_wp2_with (first | (go_at_call 9; (with_reducible refine (r12_Ints.calls k1 _ _ (rd_L1 l0 x5_1) _ _ (rd_L1 l1 x5_1) false _ ?side1 ?side2 ?side3 ?side4 A7.out).mono ?_); (case side1 => repeat (first | exact HR103_0.out | (with_reducible refine Kd.C_alloc ?_ _) | (with_reducible refine Kd.C_drewN ?_ _) | (with_reducible refine Kd.C_drew ?_))); (case side2 => exact HC103_0.out); (case side3 => repeat (first | exact HR104_0.out | (with_reducible refine Kd.C_alloc ?_ _) | (with_reducible refine Kd.C_drewN ?_ _) | (with_reducible refine Kd.C_drew ?_))); (case side4 => exact HC104_0.out); rintro e w' ⟨rfl, ⟨nd, rfl⟩⟩; (try first | exact ⟨rfl, _, World.drewN_drewN _ _ _⟩ | exact ⟨rfl, _, Eq.trans (World.drewN_drewN _ _ _) (congrArg (World.drewN _) (Nat.add_assoc _ _ _))⟩))))
        go_ret
        exact ⟨by first | rfl | (simp; done) | (simp [*]; done), by repeat (first | exact Drawn0.refl _ | apply Drawn0.step)⟩
      ·rw [if_neg c6] at H
       exact absurd H (by simp)
     ·rw [if_neg c5] at H
      exact absurd H (by simp)
    ·rw [if_neg c4] at H
     have c4b0 : decide (x5_1 < (l0.length : Int)) = false := decide_eq_false c4
     clear c4
     obtain rfl := Option.some.inj H
     go_wp2
     repeat (go_quiet (fail); try go_wp2)
     go_ret
     exact ⟨by first | rfl | (simp; done) | (simp [*]; done), by repeat (first | exact Drawn0.refl _ | apply Drawn0.step)⟩
 ·rw [if_neg c3] at H
  have c3b0 : ((l0.length : Int) == (l1.length : Int)) = false := beq_eq_false_iff_ne.mpr c3
  have c3b1 : ((l0.length : Int) != (l1.length : Int)) = true := bne_iff_ne.mpr c3
  have c3b2 : (l0.length == l1.length) = false := by first | simpa using c3 | (simp at c3 ⊢; omega)
  obtain rfl := Option.some.inj H
  go_enter Try.func14, Try.ntmps14
  go_wp2
  repeat (go_quiet (fail); try go_wp2)
  go_ret
  exact ⟨by first | rfl | (simp; done) | (simp [*]; done), by repeat (first | exact Drawn0.refl _ | apply Drawn0.step)⟩
def r12_Has.l0 : Nat → List Int → Int → Int → Option (Bool)
  | 0, _, _, _ => none
  | k + 1, x0, x1, x5 => if x5 < (x0.length : Int) then (if 0 ≤ x5 then (if (rd x0 x5) = x1 then (some true) else (r12_Has.l0 k x0 x1 (wrap64 (x5 + 1)))) else (none)) else (some false)
def r12_Has.f (k : Nat) (l0 : List Int) (a1 : Int) : Option (Bool) := r12_Has.l0 k l0 a1 0
set_option maxHeartbeats 8000000 in
set_option maxRecDepth 100000 in
theorem r12_Has.calls (k : Nat) (A0 : Option Addr) (c0 : Nat) (l0 : List Int) (a1 : Int) (r : Bool) (w : World) (hr0 : Kd.C (Kd.int .i64) w A0 l0.length l0) (hc0 : l0.length ≤ c0) (h : r12_Has.f k l0 a1 = some r) :
    Calls Try.prog 18 #[.slice A0 l0.length c0, .int .i64 a1] w fun e w' => e = .returned (.bool r) ∧ Drawn0 w w' := by
 have HR0 := Aside0.mk hr0
 have HC0 := Aside0.mk hc0
 clear hr0 hc0
 have H : (r12_Has.l0 k l0 a1 0) = some r := h
 clear h
 have H' := Aside0.mk H
 clear H
 go_enter Try.func18, Try.ntmps18
 go_wp2
 go_loopg [5] k (fun kq v5 w' => ∃ (x5_1 : Int), v5 = .int .i64 x5_1 ∧ Aside0 (r12_Has.l0 kq l0 a1 x5_1 = some r) ∧ Aside0 (kq ≤ k) ∧ Drawn0 w w')
 case atStart => exact ⟨(0), (by first | rfl | (simp; done) | (simp [*]; done)), H', ⟨Nat.le_refl _⟩, by repeat (first | exact Drawn0.refl _ | apply Drawn0.step)⟩
 case round =>
  clear H'
  try clear c1
  try clear p2
  obtain ⟨x5_1, rfl, HA, HK1, ⟨m1, rfl⟩⟩ := hrel
  cases gk with
  | zero => exact absurd HA.out (by simp [r12_Has.l0])
  | succ k1 =>
   have H := HA.out
   clear HA
   simp only [r12_Has.l0] at H
   by_cases c3 : x5_1 < (l0.length : Int)
   ·rw [if_pos c3] at H
    have c3b0 : decide (x5_1 < (l0.length : Int)) = true := decide_eq_true c3
    clear c3
    by_cases c4 : 0 ≤ x5_1
    ·rw [if_pos c4] at H
     have c4b0 : decide (0 ≤ x5_1) = true := decide_eq_true c4
     clear c4
     by_cases c5 : (rd l0 x5_1) = a1
     ·rw [if_pos c5] at H
      have c5b0 : ((rd l0 x5_1) == a1) = true := beq_iff_eq.mpr c5
      have c5b1 : ((rd l0 x5_1) != a1) = false := bne_eq_false_iff_eq.mpr c5
      clear c5
      obtain rfl := Option.some.inj H
      have p106 : 0 ≤ (x5_1 : Int) := of_decide_eq_true (by first | (with_reducible assumption) | assumption)
      have q106 : x5_1 < (l0.length : Int) := of_decide_eq_true (by first | (with_reducible assumption) | assumption)
      obtain ⟨ad106, e106, hx106_0⟩ := Kd.at_int HR0.out x5_1 p106 q106
      cases e106
      replace p106 := eq_true p106
      replace q106 := eq_true q106
      go_wp2
      go_ret
      exact ⟨by first | rfl | (simp; done) | (simp [*]; done), by repeat (first | exact Drawn0.refl _ | apply Drawn0.step)⟩
     ·rw [if_neg c5] at H
      have c5b0 : ((rd l0 x5_1) == a1) = false := beq_eq_false_iff_ne.mpr c5
      have c5b1 : ((rd l0 x5_1) != a1) = true := bne_iff_ne.mpr c5
      have H' := Aside0.mk H
      clear H
      have p106 : 0 ≤ (x5_1 : Int) := of_decide_eq_true (by first | (with_reducible assumption) | assumption)
      have q106 : x5_1 < (l0.length : Int) := of_decide_eq_true (by first | (with_reducible assumption) | assumption)
      obtain ⟨ad106, e106, hx106_0⟩ := Kd.at_int HR0.out x5_1 p106 q106
      cases e106
      replace p106 := eq_true p106
      replace q106 := eq_true q106
      go_wp2
      go_roundg k1
      case measure => have := HK1.out; omega
      case rel => exact ⟨(wrap64 (x5_1 + 1)), (by first | rfl | (simp; done) | (simp [*]; done)), H', ⟨by have := HK1.out; omega⟩, by repeat (first | exact Drawn0.refl _ | apply Drawn0.step)⟩
    ·rw [if_neg c4] at H
     exact absurd H (by simp)
   ·rw [if_neg c3] at H
    have c3b0 : decide (x5_1 < (l0.length : Int)) = false := decide_eq_false c3
    clear c3
    obtain rfl := Option.some.inj H
    go_wp2
    go_ret
    exact ⟨by first | rfl | (simp; done) | (simp [*]; done), by repeat (first | exact Drawn0.refl _ | apply Drawn0.step)⟩
mutual
def r12_May.l0 : Nat → List (List Int) → Int → Option (Bool)
  | 0, _, _ => none
  | k + 1, x0, x3 => if x3 < (x0.length : Int) then (r12_May.l1 k x0 x3 0) else (some (decide ((x0.length : Int) ≤ 1000)))
def r12_May.l1 : Nat → List (List Int) → Int → Int → Option (Bool)
  | 0, _, _, _ => none
  | k + 1, x0, x3, x4 => if 0 ≤ x3 then (if x3 < (x0.length : Int) then (if x4 < ((rd_L1 x0 x3).length : Int) then (if 0 ≤ x4 then (if (rd (rd_L1 x0 x3) x4) < 0 then (some false) else (if (rd (rd_L1 x0 x3) x4) ≥ (x0.length : Int) then (some false) else (if x4 > 0 then (if 0 ≤ (wrap64 (x4 - 1)) then (if (wrap64 (x4 - 1)) < ((rd_L1 x0 x3).length : Int) then (if (rd (rd_L1 x0 x3) (wrap64 (x4 - 1))) ≥ (rd (rd_L1 x0 x3) x4) then (some false) else (r12_May.l1 k x0 x3 (wrap64 (x4 + 1)))) else (none)) else (none)) else (r12_May.l1 k x0 x3 (wrap64 (x4 + 1)))))) else (none)) else (r12_May.l0 k x0 (wrap64 (x3 + 1)))) else (none)) else (none)
end
def r12_May.f (k : Nat) (l0 : List (List Int)) : Option (Bool) := r12_May.l0 k l0 0
set_option maxHeartbeats 8000000 in
set_option maxRecDepth 100000 in
theorem r12_May.calls (k : Nat) (A0 : Option Addr) (c0 : Nat) (l0 : List (List Int)) (r : Bool) (w : World) (hr0 : Kd.C (Kd.slice 3 (Kd.int .i64)) w A0 l0.length l0) (hc0 : l0.length ≤ c0) (h : r12_May.f k l0 = some r) :
    Calls Try.prog 17 #[.slice A0 l0.length c0] w fun e w' => e = .returned (.bool r) ∧ Drawn0 w w' := by
 have HR0 := Aside0.mk hr0
 have HC0 := Aside0.mk hc0
 clear hr0 hc0
 have H : (r12_May.l0 k l0 0) = some r := h
 clear h
 have H' := Aside0.mk H
 clear H
 go_enter Try.func17, Try.ntmps17
 go_wp2
 repeat (go_quiet (fail); try go_wp2)
 go_loopg [3] k (fun kq v3 w' => ∃ (x3_1 : Int), v3 = .int .i64 x3_1 ∧ Aside0 (r12_May.l0 kq l0 x3_1 = some r) ∧ Aside0 (kq ≤ k) ∧ Drawn0 w w')
 case atStart => exact ⟨(0), (by first | rfl | (simp; done) | (simp [*]; done)), H', ⟨Nat.le_refl _⟩, by repeat (first | exact Drawn0.refl _ | apply Drawn0.step)⟩
 case round =>
  clear H'
  try clear c1
  obtain ⟨x3_1, rfl, HA, HK1, ⟨m1, rfl⟩⟩ := hrel
  cases gk with
  | zero => exact absurd HA.out (by simp [r12_May.l0])
  | succ k1 =>
   have H := HA.out
   clear HA
   simp only [r12_May.l0] at H
   by_cases c2 : x3_1 < (l0.length : Int)
   ·rw [if_pos c2] at H
    have c2b0 : decide (x3_1 < (l0.length : Int)) = true := decide_eq_true c2
    clear c2
    have H' := Aside0.mk H
    clear H
    go_wp2
    repeat (go_quiet (fail); try go_wp2)
    go_loopg [4] k1 (fun kq v4 w' => ∃ (x4_2 : Int), v4 = .int .i64 x4_2 ∧ Aside0 (r12_May.l1 kq l0 x3_1 x4_2 = some r) ∧ Aside0 (kq ≤ k1) ∧ Drawn0 w w')
    case atStart => exact ⟨(0), (by first | rfl | (simp; done) | (simp [*]; done)), H', ⟨Nat.le_refl _⟩, by repeat (first | exact Drawn0.refl _ | apply Drawn0.step)⟩
    case round =>
     clear H'
     try clear c1
     try clear c2
     try clear c2b0
     try clear p2
     obtain ⟨x4_2, rfl, HA, HK2, ⟨m2, rfl⟩⟩ := hrel
     cases gk with
     | zero => exact absurd HA.out (by simp [r12_May.l1])
     | succ k2 =>
      have H := HA.out
      clear HA
      simp only [r12_May.l1] at H
      by_cases c3 : 0 ≤ x3_1
      ·rw [if_pos c3] at H
       have c3b0 : decide (0 ≤ x3_1) = true := decide_eq_true c3
       clear c3
       by_cases c4 : x3_1 < (l0.length : Int)
       ·rw [if_pos c4] at H
        have c4b0 : decide (x3_1 < (l0.length : Int)) = true := decide_eq_true c4
        clear c4
        by_cases c5 : x4_2 < ((rd_L1 l0 x3_1).length : Int)
        ·rw [if_pos c5] at H
         have c5b0 : decide (x4_2 < ((rd_L1 l0 x3_1).length : Int)) = true := decide_eq_true c5
         clear c5
         by_cases c6 : 0 ≤ x4_2
         ·rw [if_pos c6] at H
          have c6b0 : decide (0 ≤ x4_2) = true := decide_eq_true c6
          clear c6
          by_cases c7 : (rd (rd_L1 l0 x3_1) x4_2) < 0
          ·rw [if_pos c7] at H
           have c7b0 : decide ((rd (rd_L1 l0 x3_1) x4_2) < 0) = true := decide_eq_true c7
           clear c7
           obtain rfl := Option.some.inj H
           have p107 : 0 ≤ (x3_1 : Int) := of_decide_eq_true (by first | (with_reducible assumption) | assumption)
           have q107 : x3_1 < (l0.length : Int) := of_decide_eq_true (by first | (with_reducible assumption) | assumption)
           obtain ⟨ad107, A107_0, c107_0, e107, hx107_0, hl107_0, hi107_0⟩ := at_L1 HR0.out x3_1 p107 q107
           cases e107
           have HR107_0 := Aside0.mk hi107_0
           have HC107_0 := Aside0.mk hl107_0
           clear hi107_0 hl107_0
           replace p107 := eq_true p107
           replace q107 := eq_true q107
           have p108 : 0 ≤ (x3_1 : Int) := of_decide_eq_true (by first | (with_reducible assumption) | assumption)
           have q108 : x3_1 < (l0.length : Int) := of_decide_eq_true (by first | (with_reducible assumption) | assumption)
           obtain ⟨ad108, A108_0, c108_0, e108, hx108_0, hl108_0, hi108_0⟩ := at_L1 HR0.out x3_1 p108 q108
           obtain rfl : ad107 = ad108 := (by injection e108)
           have HR108_0 := Aside0.mk hi108_0
           have HC108_0 := Aside0.mk hl108_0
           clear hi108_0 hl108_0
           replace p108 := eq_true p108
           replace q108 := eq_true q108
           have ea_ := Option.some.inj (hx107_0.symm.trans hx108_0)
           injection ea_ with ea_ en_ ec_
           subst ea_
           subst ec_
           clear en_
           have p109 : 0 ≤ (x4_2 : Int) := of_decide_eq_true (by first | (with_reducible assumption) | assumption)
           have q109 : x4_2 < ((rd_L1 l0 x3_1).length : Int) := of_decide_eq_true (by first | (with_reducible assumption) | assumption)
           obtain ⟨ad109, e109, hx109_0⟩ := Kd.at_int HR108_0.out x4_2 p109 q109
           cases e109
           replace p109 := eq_true p109
           replace q109 := eq_true q109
           go_wp2
           repeat (go_quiet (fail); try go_wp2)
           go_ret
           exact ⟨by first | rfl | (simp; done) | (simp [*]; done), by repeat (first | exact Drawn0.refl _ | apply Drawn0.step)⟩
          ·rw [if_neg c7] at H
           have c7b0 : decide ((rd (rd_L1 l0 x3_1) x4_2) < 0) = false := decide_eq_false c7
           clear c7
           by_cases c8 : (rd (rd_L1 l0 x3_1) x4_2) ≥ (l0.length : Int)
           ·rw [if_pos c8] at H
            have c8b0 : decide ((l0.length : Int) ≤ (rd (rd_L1 l0 x3_1) x4_2)) = true := decide_eq_true c8
            clear c8
            obtain rfl := Option.some.inj H
            have p107 : 0 ≤ (x3_1 : Int) := of_decide_eq_true (by first | (with_reducible assumption) | assumption)
            have q107 : x3_1 < (l0.length : Int) := of_decide_eq_true (by first | (with_reducible assumption) | assumption)
            obtain ⟨ad107, A107_0, c107_0, e107, hx107_0, hl107_0, hi107_0⟩ := at_L1 HR0.out x3_1 p107 q107
            cases e107
            have HR107_0 := Aside0.mk hi107_0
            have HC107_0 := Aside0.mk hl107_0
            clear hi107_0 hl107_0
            replace p107 := eq_true p107
            replace q107 := eq_true q107
            have p108 : 0 ≤ (x3_1 : Int) := of_decide_eq_true (by first | (with_reducible assumption) | assumption)
            have q108 : x3_1 < (l0.length : Int) := of_decide_eq_true (by first | (with_reducible assumption) | assumption)
            obtain ⟨ad108, A108_0, c108_0, e108, hx108_0, hl108_0, hi108_0⟩ := at_L1 HR0.out x3_1 p108 q108
            obtain rfl : ad107 = ad108 := (by injection e108)
            have HR108_0 := Aside0.mk hi108_0
            have HC108_0 := Aside0.mk hl108_0
            clear hi108_0 hl108_0
            replace p108 := eq_true p108
            replace q108 := eq_true q108
            have ea_ := Option.some.inj (hx107_0.symm.trans hx108_0)
            injection ea_ with ea_ en_ ec_
            subst ea_
            subst ec_
            clear en_
            have p109 : 0 ≤ (x4_2 : Int) := of_decide_eq_true (by first | (with_reducible assumption) | assumption)
            have q109 : x4_2 < ((rd_L1 l0 x3_1).length : Int) := of_decide_eq_true (by first | (with_reducible assumption) | assumption)
            obtain ⟨ad109, e109, hx109_0⟩ := Kd.at_int HR108_0.out x4_2 p109 q109
            cases e109
            replace p109 := eq_true p109
            replace q109 := eq_true q109
            have p110 : 0 ≤ (x3_1 : Int) := of_decide_eq_true (by first | (with_reducible assumption) | assumption)
            have q110 : x3_1 < (l0.length : Int) := of_decide_eq_true (by first | (with_reducible assumption) | assumption)
            obtain ⟨ad110, A110_0, c110_0, e110, hx110_0, hl110_0, hi110_0⟩ := at_L1 HR0.out x3_1 p110 q110
            obtain rfl : ad107 = ad110 := (by injection e110)
            have HR110_0 := Aside0.mk hi110_0
            have HC110_0 := Aside0.mk hl110_0
            clear hi110_0 hl110_0
            replace p110 := eq_true p110
            replace q110 := eq_true q110
            have ea_ := Option.some.inj (hx107_0.symm.trans hx110_0)
            injection ea_ with ea_ en_ ec_
            subst ea_
            subst ec_
            clear en_
            have p111 : 0 ≤ (x4_2 : Int) := of_decide_eq_true (by first | (with_reducible assumption) | assumption)
            have q111 : x4_2 < ((rd_L1 l0 x3_1).length : Int) := of_decide_eq_true (by first | (with_reducible assumption) | assumption)
            obtain ⟨ad111, e111, hx111_0⟩ := Kd.at_int HR110_0.out x4_2 p111 q111
            cases e111
            replace p111 := eq_true p111
            replace q111 := eq_true q111
            go_wp2
            repeat (go_quiet (fail); try go_wp2)
            go_ret
            exact ⟨by first | rfl | (simp; done) | (simp [*]; done), by repeat (first | exact Drawn0.refl _ | apply Drawn0.step)⟩
           ·rw [if_neg c8] at H
            have c8b0 : decide ((l0.length : Int) ≤ (rd (rd_L1 l0 x3_1) x4_2)) = false := decide_eq_false c8
            clear c8
            by_cases c9 : x4_2 > 0
            ·rw [if_pos c9] at H
             have c9b0 : decide (0 < x4_2) = true := decide_eq_true c9
             clear c9
             obtain ⟨ji10, hji10⟩ : ∃ j_ : Int, (wrap64 (x4_2 - 1)) = j_ := ⟨_, rfl⟩
             replace H : (if 0 ≤ (ji10) then (if (ji10) < ((rd_L1 l0 x3_1).length : Int) then (if (rd (rd_L1 l0 x3_1) (ji10)) ≥ (rd (rd_L1 l0 x3_1) x4_2) then (some false) else (r12_May.l1 k2 l0 x3_1 (wrap64 (x4_2 + 1)))) else (none)) else (none)) = some r := by first | (rw [hji10] at H; exact H) | (simp only [hji10] at H ⊢; exact H)
             have hji10w : (IntKind.i64.wrap (x4_2 - 1)) = ji10 := (i64_w _).trans hji10
             by_cases c11 : 0 ≤ (ji10)
             ·rw [if_pos c11] at H
              have c11b0 : decide (0 ≤ (ji10)) = true := decide_eq_true c11
              clear c11
              by_cases c12 : (ji10) < ((rd_L1 l0 x3_1).length : Int)
              ·rw [if_pos c12] at H
               have c12b0 : decide ((ji10) < ((rd_L1 l0 x3_1).length : Int)) = true := decide_eq_true c12
               clear c12
               by_cases c13 : (rd (rd_L1 l0 x3_1) (ji10)) ≥ (rd (rd_L1 l0 x3_1) x4_2)
               ·rw [if_pos c13] at H
                have c13b0 : decide ((rd (rd_L1 l0 x3_1) x4_2) ≤ (rd (rd_L1 l0 x3_1) (ji10))) = true := decide_eq_true c13
                clear c13
                obtain rfl := Option.some.inj H
                have p107 : 0 ≤ (x3_1 : Int) := of_decide_eq_true (by first | (with_reducible assumption) | assumption)
                have q107 : x3_1 < (l0.length : Int) := of_decide_eq_true (by first | (with_reducible assumption) | assumption)
                obtain ⟨ad107, A107_0, c107_0, e107, hx107_0, hl107_0, hi107_0⟩ := at_L1 HR0.out x3_1 p107 q107
                cases e107
                have HR107_0 := Aside0.mk hi107_0
                have HC107_0 := Aside0.mk hl107_0
                clear hi107_0 hl107_0
                replace p107 := eq_true p107
                replace q107 := eq_true q107
                have p108 : 0 ≤ (x3_1 : Int) := of_decide_eq_true (by first | (with_reducible assumption) | assumption)
                have q108 : x3_1 < (l0.length : Int) := of_decide_eq_true (by first | (with_reducible assumption) | assumption)
                obtain ⟨ad108, A108_0, c108_0, e108, hx108_0, hl108_0, hi108_0⟩ := at_L1 HR0.out x3_1 p108 q108
                obtain rfl : ad107 = ad108 := (by injection e108)
                have HR108_0 := Aside0.mk hi108_0
                have HC108_0 := Aside0.mk hl108_0
                clear hi108_0 hl108_0
                replace p108 := eq_true p108
                replace q108 := eq_true q108
                have ea_ := Option.some.inj (hx107_0.symm.trans hx108_0)
                injection ea_ with ea_ en_ ec_
                subst ea_
                subst ec_
                clear en_
                have p109 : 0 ≤ (x4_2 : Int) := of_decide_eq_true (by first | (with_reducible assumption) | assumption)
                have q109 : x4_2 < ((rd_L1 l0 x3_1).length : Int) := of_decide_eq_true (by first | (with_reducible assumption) | assumption)
                obtain ⟨ad109, e109, hx109_0⟩ := Kd.at_int HR108_0.out x4_2 p109 q109
                cases e109
                replace p109 := eq_true p109
                replace q109 := eq_true q109
                have p110 : 0 ≤ (x3_1 : Int) := of_decide_eq_true (by first | (with_reducible assumption) | assumption)
                have q110 : x3_1 < (l0.length : Int) := of_decide_eq_true (by first | (with_reducible assumption) | assumption)
                obtain ⟨ad110, A110_0, c110_0, e110, hx110_0, hl110_0, hi110_0⟩ := at_L1 HR0.out x3_1 p110 q110
                obtain rfl : ad107 = ad110 := (by injection e110)
                have HR110_0 := Aside0.mk hi110_0
                have HC110_0 := Aside0.mk hl110_0
                clear hi110_0 hl110_0
                replace p110 := eq_true p110
                replace q110 := eq_true q110
                have ea_ := Option.some.inj (hx107_0.symm.trans hx110_0)
                injection ea_ with ea_ en_ ec_
                subst ea_
                subst ec_
                clear en_
                have p111 : 0 ≤ (x4_2 : Int) := of_decide_eq_true (by first | (with_reducible assumption) | assumption)
                have q111 : x4_2 < ((rd_L1 l0 x3_1).length : Int) := of_decide_eq_true (by first | (with_reducible assumption) | assumption)
                obtain ⟨ad111, e111, hx111_0⟩ := Kd.at_int HR110_0.out x4_2 p111 q111
                cases e111
                replace p111 := eq_true p111
                replace q111 := eq_true q111
                have p112 : 0 ≤ (x3_1 : Int) := of_decide_eq_true (by first | (with_reducible assumption) | assumption)
                have q112 : x3_1 < (l0.length : Int) := of_decide_eq_true (by first | (with_reducible assumption) | assumption)
                obtain ⟨ad112, A112_0, c112_0, e112, hx112_0, hl112_0, hi112_0⟩ := at_L1 HR0.out x3_1 p112 q112
                obtain rfl : ad107 = ad112 := (by injection e112)
                have HR112_0 := Aside0.mk hi112_0
                have HC112_0 := Aside0.mk hl112_0
                clear hi112_0 hl112_0
                replace p112 := eq_true p112
                replace q112 := eq_true q112
                have ea_ := Option.some.inj (hx107_0.symm.trans hx112_0)
                injection ea_ with ea_ en_ ec_
                subst ea_
                subst ec_
                clear en_
                have p113 : 0 ≤ ((ji10) : Int) := of_decide_eq_true (by first | (with_reducible assumption) | assumption)
                have q113 : (ji10) < ((rd_L1 l0 x3_1).length : Int) := of_decide_eq_true (by first | (with_reducible assumption) | assumption)
                obtain ⟨ad113, e113, hx113_0⟩ := Kd.at_int HR112_0.out (ji10) p113 q113
                cases e113
                replace p113 := eq_true p113
                replace q113 := eq_true q113
                have p114 : 0 ≤ (x3_1 : Int) := of_decide_eq_true (by first | (with_reducible assumption) | assumption)
                have q114 : x3_1 < (l0.length : Int) := of_decide_eq_true (by first | (with_reducible assumption) | assumption)
                obtain ⟨ad114, A114_0, c114_0, e114, hx114_0, hl114_0, hi114_0⟩ := at_L1 HR0.out x3_1 p114 q114
                obtain rfl : ad107 = ad114 := (by injection e114)
                have HR114_0 := Aside0.mk hi114_0
                have HC114_0 := Aside0.mk hl114_0
                clear hi114_0 hl114_0
                replace p114 := eq_true p114
                replace q114 := eq_true q114
                have ea_ := Option.some.inj (hx107_0.symm.trans hx114_0)
                injection ea_ with ea_ en_ ec_
                subst ea_
                subst ec_
                clear en_
                have p115 : 0 ≤ (x4_2 : Int) := of_decide_eq_true (by first | (with_reducible assumption) | assumption)
                have q115 : x4_2 < ((rd_L1 l0 x3_1).length : Int) := of_decide_eq_true (by first | (with_reducible assumption) | assumption)
                obtain ⟨ad115, e115, hx115_0⟩ := Kd.at_int HR114_0.out x4_2 p115 q115
                cases e115
                replace p115 := eq_true p115
                replace q115 := eq_true q115
                go_wp2
                repeat (go_quiet (fail); try go_wp2)
                go_ret
                exact ⟨by first | rfl | (simp; done) | (simp only [← hji10] <;> (first | rfl | simp)) | (simp [*]; done), by repeat (first | exact Drawn0.refl _ | apply Drawn0.step)⟩
               ·rw [if_neg c13] at H
                have c13b0 : decide ((rd (rd_L1 l0 x3_1) x4_2) ≤ (rd (rd_L1 l0 x3_1) (ji10))) = false := decide_eq_false c13
                clear c13
                have H' := Aside0.mk H
                clear H
                have p107 : 0 ≤ (x3_1 : Int) := of_decide_eq_true (by first | (with_reducible assumption) | assumption)
                have q107 : x3_1 < (l0.length : Int) := of_decide_eq_true (by first | (with_reducible assumption) | assumption)
                obtain ⟨ad107, A107_0, c107_0, e107, hx107_0, hl107_0, hi107_0⟩ := at_L1 HR0.out x3_1 p107 q107
                cases e107
                have HR107_0 := Aside0.mk hi107_0
                have HC107_0 := Aside0.mk hl107_0
                clear hi107_0 hl107_0
                replace p107 := eq_true p107
                replace q107 := eq_true q107
                have p108 : 0 ≤ (x3_1 : Int) := of_decide_eq_true (by first | (with_reducible assumption) | assumption)
                have q108 : x3_1 < (l0.length : Int) := of_decide_eq_true (by first | (with_reducible assumption) | assumption)
                obtain ⟨ad108, A108_0, c108_0, e108, hx108_0, hl108_0, hi108_0⟩ := at_L1 HR0.out x3_1 p108 q108
                obtain rfl : ad107 = ad108 := (by injection e108)
                have HR108_0 := Aside0.mk hi108_0
                have HC108_0 := Aside0.mk hl108_0
                clear hi108_0 hl108_0
                replace p108 := eq_true p108
                replace q108 := eq_true q108
                have ea_ := Option.some.inj (hx107_0.symm.trans hx108_0)
                injection ea_ with ea_ en_ ec_
                subst ea_
                subst ec_
                clear en_
                have p109 : 0 ≤ (x4_2 : Int) := of_decide_eq_true (by first | (with_reducible assumption) | assumption)
                have q109 : x4_2 < ((rd_L1 l0 x3_1).length : Int) := of_decide_eq_true (by first | (with_reducible assumption) | assumption)
                obtain ⟨ad109, e109, hx109_0⟩ := Kd.at_int HR108_0.out x4_2 p109 q109
                cases e109
                replace p109 := eq_true p109
                replace q109 := eq_true q109
                have p110 : 0 ≤ (x3_1 : Int) := of_decide_eq_true (by first | (with_reducible assumption) | assumption)
                have q110 : x3_1 < (l0.length : Int) := of_decide_eq_true (by first | (with_reducible assumption) | assumption)
                obtain ⟨ad110, A110_0, c110_0, e110, hx110_0, hl110_0, hi110_0⟩ := at_L1 HR0.out x3_1 p110 q110
                obtain rfl : ad107 = ad110 := (by injection e110)
                have HR110_0 := Aside0.mk hi110_0
                have HC110_0 := Aside0.mk hl110_0
                clear hi110_0 hl110_0
                replace p110 := eq_true p110
                replace q110 := eq_true q110
                have ea_ := Option.some.inj (hx107_0.symm.trans hx110_0)
                injection ea_ with ea_ en_ ec_
                subst ea_
                subst ec_
                clear en_
                have p111 : 0 ≤ (x4_2 : Int) := of_decide_eq_true (by first | (with_reducible assumption) | assumption)
                have q111 : x4_2 < ((rd_L1 l0 x3_1).length : Int) := of_decide_eq_true (by first | (with_reducible assumption) | assumption)
                obtain ⟨ad111, e111, hx111_0⟩ := Kd.at_int HR110_0.out x4_2 p111 q111
                cases e111
                replace p111 := eq_true p111
                replace q111 := eq_true q111
                have p112 : 0 ≤ (x3_1 : Int) := of_decide_eq_true (by first | (with_reducible assumption) | assumption)
                have q112 : x3_1 < (l0.length : Int) := of_decide_eq_true (by first | (with_reducible assumption) | assumption)
                obtain ⟨ad112, A112_0, c112_0, e112, hx112_0, hl112_0, hi112_0⟩ := at_L1 HR0.out x3_1 p112 q112
                obtain rfl : ad107 = ad112 := (by injection e112)
                have HR112_0 := Aside0.mk hi112_0
                have HC112_0 := Aside0.mk hl112_0
                clear hi112_0 hl112_0
                replace p112 := eq_true p112
                replace q112 := eq_true q112
                have ea_ := Option.some.inj (hx107_0.symm.trans hx112_0)
                injection ea_ with ea_ en_ ec_
                subst ea_
                subst ec_
                clear en_
                have p113 : 0 ≤ ((ji10) : Int) := of_decide_eq_true (by first | (with_reducible assumption) | assumption)
                have q113 : (ji10) < ((rd_L1 l0 x3_1).length : Int) := of_decide_eq_true (by first | (with_reducible assumption) | assumption)
                obtain ⟨ad113, e113, hx113_0⟩ := Kd.at_int HR112_0.out (ji10) p113 q113
                cases e113
                replace p113 := eq_true p113
                replace q113 := eq_true q113
                have p114 : 0 ≤ (x3_1 : Int) := of_decide_eq_true (by first | (with_reducible assumption) | assumption)
                have q114 : x3_1 < (l0.length : Int) := of_decide_eq_true (by first | (with_reducible assumption) | assumption)
                obtain ⟨ad114, A114_0, c114_0, e114, hx114_0, hl114_0, hi114_0⟩ := at_L1 HR0.out x3_1 p114 q114
                obtain rfl : ad107 = ad114 := (by injection e114)
                have HR114_0 := Aside0.mk hi114_0
                have HC114_0 := Aside0.mk hl114_0
                clear hi114_0 hl114_0
                replace p114 := eq_true p114
                replace q114 := eq_true q114
                have ea_ := Option.some.inj (hx107_0.symm.trans hx114_0)
                injection ea_ with ea_ en_ ec_
                subst ea_
                subst ec_
                clear en_
                have p115 : 0 ≤ (x4_2 : Int) := of_decide_eq_true (by first | (with_reducible assumption) | assumption)
                have q115 : x4_2 < ((rd_L1 l0 x3_1).length : Int) := of_decide_eq_true (by first | (with_reducible assumption) | assumption)
                obtain ⟨ad115, e115, hx115_0⟩ := Kd.at_int HR114_0.out x4_2 p115 q115
                cases e115
                replace p115 := eq_true p115
                replace q115 := eq_true q115
                go_wp2
                repeat (go_quiet (fail); try go_wp2)
                go_roundg k2
                case measure => have := HK1.out; have := HK2.out; omega
                case rel => exact ⟨(wrap64 (x4_2 + 1)), (by first | rfl | (simp; done) | (simp [*]; done)), H', ⟨by have := HK1.out; have := HK2.out; omega⟩, by repeat (first | exact Drawn0.refl _ | apply Drawn0.step)⟩
              ·rw [if_neg c12] at H
               exact absurd H (by simp)
             ·rw [if_neg c11] at H
              exact absurd H (by simp)
            ·rw [if_neg c9] at H
             have c9b0 : decide (0 < x4_2) = false := decide_eq_false c9
             clear c9
             have H' := Aside0.mk H
             clear H
             have p107 : 0 ≤ (x3_1 : Int) := of_decide_eq_true (by first | (with_reducible assumption) | assumption)
             have q107 : x3_1 < (l0.length : Int) := of_decide_eq_true (by first | (with_reducible assumption) | assumption)
             obtain ⟨ad107, A107_0, c107_0, e107, hx107_0, hl107_0, hi107_0⟩ := at_L1 HR0.out x3_1 p107 q107
             cases e107
             have HR107_0 := Aside0.mk hi107_0
             have HC107_0 := Aside0.mk hl107_0
             clear hi107_0 hl107_0
             replace p107 := eq_true p107
             replace q107 := eq_true q107
             have p108 : 0 ≤ (x3_1 : Int) := of_decide_eq_true (by first | (with_reducible assumption) | assumption)
             have q108 : x3_1 < (l0.length : Int) := of_decide_eq_true (by first | (with_reducible assumption) | assumption)
             obtain ⟨ad108, A108_0, c108_0, e108, hx108_0, hl108_0, hi108_0⟩ := at_L1 HR0.out x3_1 p108 q108
             obtain rfl : ad107 = ad108 := (by injection e108)
             have HR108_0 := Aside0.mk hi108_0
             have HC108_0 := Aside0.mk hl108_0
             clear hi108_0 hl108_0
             replace p108 := eq_true p108
             replace q108 := eq_true q108
             have ea_ := Option.some.inj (hx107_0.symm.trans hx108_0)
             injection ea_ with ea_ en_ ec_
             subst ea_
             subst ec_
             clear en_
             have p109 : 0 ≤ (x4_2 : Int) := of_decide_eq_true (by first | (with_reducible assumption) | assumption)
             have q109 : x4_2 < ((rd_L1 l0 x3_1).length : Int) := of_decide_eq_true (by first | (with_reducible assumption) | assumption)
             obtain ⟨ad109, e109, hx109_0⟩ := Kd.at_int HR108_0.out x4_2 p109 q109
             cases e109
             replace p109 := eq_true p109
             replace q109 := eq_true q109
             have p110 : 0 ≤ (x3_1 : Int) := of_decide_eq_true (by first | (with_reducible assumption) | assumption)
             have q110 : x3_1 < (l0.length : Int) := of_decide_eq_true (by first | (with_reducible assumption) | assumption)
             obtain ⟨ad110, A110_0, c110_0, e110, hx110_0, hl110_0, hi110_0⟩ := at_L1 HR0.out x3_1 p110 q110
             obtain rfl : ad107 = ad110 := (by injection e110)
             have HR110_0 := Aside0.mk hi110_0
             have HC110_0 := Aside0.mk hl110_0
             clear hi110_0 hl110_0
             replace p110 := eq_true p110
             replace q110 := eq_true q110
             have ea_ := Option.some.inj (hx107_0.symm.trans hx110_0)
             injection ea_ with ea_ en_ ec_
             subst ea_
             subst ec_
             clear en_
             have p111 : 0 ≤ (x4_2 : Int) := of_decide_eq_true (by first | (with_reducible assumption) | assumption)
             have q111 : x4_2 < ((rd_L1 l0 x3_1).length : Int) := of_decide_eq_true (by first | (with_reducible assumption) | assumption)
             obtain ⟨ad111, e111, hx111_0⟩ := Kd.at_int HR110_0.out x4_2 p111 q111
             cases e111
             replace p111 := eq_true p111
             replace q111 := eq_true q111
             go_wp2
             repeat (go_quiet (fail); try go_wp2)
             go_roundg k2
             case measure => have := HK1.out; have := HK2.out; omega
             case rel => exact ⟨(wrap64 (x4_2 + 1)), (by first | rfl | (simp; done) | (simp [*]; done)), H', ⟨by have := HK1.out; have := HK2.out; omega⟩, by repeat (first | exact Drawn0.refl _ | apply Drawn0.step)⟩
         ·rw [if_neg c6] at H
          exact absurd H (by simp)
        ·rw [if_neg c5] at H
         have c5b0 : decide (x4_2 < ((rd_L1 l0 x3_1).length : Int)) = false := decide_eq_false c5
         clear c5
         have H' := Aside0.mk H
         clear H
         have p107 : 0 ≤ (x3_1 : Int) := of_decide_eq_true (by first | (with_reducible assumption) | assumption)
         have q107 : x3_1 < (l0.length : Int) := of_decide_eq_true (by first | (with_reducible assumption) | assumption)
         obtain ⟨ad107, A107_0, c107_0, e107, hx107_0, hl107_0, hi107_0⟩ := at_L1 HR0.out x3_1 p107 q107
         cases e107
         have HR107_0 := Aside0.mk hi107_0
         have HC107_0 := Aside0.mk hl107_0
         clear hi107_0 hl107_0
         replace p107 := eq_true p107
         replace q107 := eq_true q107
         go_wp2
         repeat (go_quiet (fail); try go_wp2)
         go_roundg k2
         case measure => have := HK1.out; have := HK2.out; omega
         case rel => exact ⟨(wrap64 (x3_1 + 1)), (by first | rfl | (simp; done) | (simp [*]; done)), H', ⟨by have := HK1.out; have := HK2.out; omega⟩, by repeat (first | exact Drawn0.refl _ | apply Drawn0.step)⟩
       ·rw [if_neg c4] at H
        exact absurd H (by simp)
      ·rw [if_neg c3] at H
       exact absurd H (by simp)
   ·rw [if_neg c2] at H
    have c2b0 : decide (x3_1 < (l0.length : Int)) = false := decide_eq_false c2
    clear c2
    obtain rfl := Option.some.inj H
    go_wp2
    repeat (go_quiet (fail); try go_wp2)
    go_ret
    exact ⟨by first | rfl | (simp; done) | (simp [*]; done), by repeat (first | exact Drawn0.refl _ | apply Drawn0.step)⟩
mutual
def r12_Reach.j0 : Nat → List (List Int) → Int → Bool → Option (List Int)
  | 0, _, _, _ => none
  | k + 1, x0, x1, x25 => if x25 = true then (some ([] : List Int)) else (r12_Reach.l0 k x0 x1 (([] : List Bool)) 0)
def r12_Reach.l0 : Nat → List (List Int) → Int → List Bool → Int → Option (List Int)
  | 0, _, _, _, _ => none
  | k + 1, x0, x1, x5, x6 => if x6 < (x0.length : Int) then (if x5.length < 140737488355328 then (r12_Reach.l0 k x0 x1 (x5 ++ [(x6 == x1)]) (wrap64 (x6 + 1))) else (none)) else (r12_Reach.l1 k x0 x5 0)
def r12_Reach.j5 : Nat → List (List Int) → List Bool → Option (List Int)
  | 0, _, _ => none
  | k + 1, x0, x5 => r12_Reach.l4 k x0 x5 (([] : List Int)) 0
def r12_Reach.l4 : Nat → List (List Int) → List Bool → List Int → Int → Option (List Int)
  | 0, _, _, _, _ => none
  | k + 1, x0, x5, x11, x12 => if x12 < (x0.length : Int) then (if 0 ≤ x12 then (if x12 < (x5.length : Int) then (if rdOf false x5 x12 = true then (if x11.length < 17592186044416 then (r12_Reach.l4 k x0 x5 (x11 ++ [x12]) (wrap64 (x12 + 1))) else (none)) else (r12_Reach.l4 k x0 x5 x11 (wrap64 (x12 + 1)))) else (none)) else (none)) else (some x11)
def r12_Reach.l1 : Nat → List (List Int) → List Bool → Int → Option (List Int)
  | 0, _, _, _ => none
  | k + 1, x0, x5, x7 => if x7 < (x0.length : Int) then (r12_Reach.l2 k x0 x5 x7 false 0) else (r12_Reach.j5 k x0 x5)
def r12_Reach.l2 : Nat → List (List Int) → List Bool → Int → Bool → Int → Option (List Int)
  | 0, _, _, _, _, _ => none
  | k + 1, x0, x5, x7, x8, x9 => if x9 < (x0.length : Int) then (r12_Reach.l3 k x0 x5 x7 x8 x9 0) else (if x8 = true then (r12_Reach.l1 k x0 x5 (wrap64 (x7 + 1))) else (r12_Reach.j5 k x0 x5))
def r12_Reach.l3 : Nat → List (List Int) → List Bool → Int → Bool → Int → Int → Option (List Int)
  | 0, _, _, _, _, _, _ => none
  | k + 1, x0, x5, x7, x8, x9, x10 => if 0 ≤ x9 then (if x9 < (x0.length : Int) then (if x10 < ((rd_L1 x0 x9).length : Int) then (if x9 < (x5.length : Int) then (if rdOf false x5 x9 = true then (if x8 = true then (if 0 ≤ x10 then (if 0 ≤ (rd (rd_L1 x0 x9) x10) then (if (rd (rd_L1 x0 x9) x10) < (x5.length : Int) then (r12_Reach.l3 k x0 (x5.set ((rd (rd_L1 x0 x9) x10) : Int).toNat true) x7 true x9 (wrap64 (x10 + 1))) else (none)) else (none)) else (none)) else (if 0 ≤ x10 then (if 0 ≤ (rd (rd_L1 x0 x9) x10) then (if (rd (rd_L1 x0 x9) x10) < (x5.length : Int) then (r12_Reach.l3 k x0 (x5.set ((rd (rd_L1 x0 x9) x10) : Int).toNat true) x7 (!(rdOf false x5 (rd (rd_L1 x0 x9) x10))) x9 (wrap64 (x10 + 1))) else (none)) else (none)) else (none))) else (r12_Reach.l2 k x0 x5 x7 x8 (wrap64 (x9 + 1)))) else (none)) else (r12_Reach.l2 k x0 x5 x7 x8 (wrap64 (x9 + 1)))) else (none)) else (none)
end
def r12_Reach.f (k : Nat) (l0 : List (List Int)) (a1 : Int) : Option (List Int) := (r12_May.f k l0).bind fun t131 => (if t131 = true then (if a1 < 0 then (r12_Reach.j0 k l0 a1 true) else (r12_Reach.j0 k l0 a1 (decide (a1 ≥ (l0.length : Int))))) else (r12_Reach.j0 k l0 a1 true))
set_option maxHeartbeats 8000000 in
set_option maxRecDepth 100000 in
theorem r12_Reach.calls (k : Nat) (A0 : Option Addr) (c0 : Nat) (l0 : List (List Int)) (a1 : Int) (r : List Int) (w : World) (hr0 : Kd.C (Kd.slice 3 (Kd.int .i64)) w A0 l0.length l0) (hc0 : l0.length ≤ c0) (h : r12_Reach.f k l0 a1 = some r) :
    Calls Try.prog 19 #[.slice A0 l0.length c0, .int .i64 a1] w fun e w' => ∃ v0_ : Value, e = .returned (v0_) ∧ Kd.R (Kd.int .i64) 3 w' w.heap.size (fun _ => True) v0_ r ∧ Below w.heap.size w w' := by
 have HR0 := Aside0.mk hr0
 have HC0 := Aside0.mk hc0
 clear hr0 hc0
 have HB := Aside0.mk (Below.refl w.heap.size w)
 have H : ((r12_May.f k l0).bind fun t131 => (if t131 = true then (if a1 < 0 then (r12_Reach.j0 k l0 a1 true) else (r12_Reach.j0 k l0 a1 (decide (a1 ≥ (l0.length : Int))))) else (r12_Reach.j0 k l0 a1 true))) = some r := h
 clear h
 have HC3 := Aside0.mk H
 clear H
 go_enter Try.func19, Try.ntmps19
 go_upto_region 1 with (fail)
 go_cut [25] (fun v25 wc => ∃ (kq : Nat) (x25_2 : Bool), v25 = .bool x25_2 ∧ Aside0 (r12_Reach.j0 kq l0 a1 x25_2 = some r) ∧ Aside0 (kq ≤ k) ∧ Aside0 (Below w.heap.size w wc))
 case first =>
  have H := HC3.out
  clear HC3
  replace H := Option.bind_eq_some_iff.mp H
  obtain ⟨t131, A40, H⟩ := H
  replace H : (if t131 = true then (if a1 < 0 then (r12_Reach.j0 k l0 a1 true) else (r12_Reach.j0 k l0 a1 (decide (a1 ≥ (l0.length : Int))))) else (r12_Reach.j0 k l0 a1 true)) = some r := H
  have A4 := Aside0.mk A40
  clear A40
  by_cases c5 : t131 = true
  ·subst c5
   have H1 : (if a1 < 0 then (r12_Reach.j0 k l0 a1 true) else (r12_Reach.j0 k l0 a1 (decide (a1 ≥ (l0.length : Int))))) = some r := by rw [if_pos rfl] at H; exact H
   clear H
   have H := H1
   clear H1
   by_cases c6 : a1 < 0
   ·rw [if_pos c6] at H
    have c6b0 : decide (a1 < 0) = true := decide_eq_true c6
    clear c6
    (first | rw [c6b0] | (simp only [i64_w, i32_w]; rw [c6b0]) | skip)
    have H' := Aside0.mk H
    clear H
    go_wp2_with (first | ((with_reducible refine gate_callee (f := 17) rfl ?_); refine goesL_ (some 14) rfl rfl Try.func17 (by kernel_rfl) rfl #[.slice A0 l0.length c0] rfl (by (try simp only [List.map_toArray, List.map_cons, List.map_nil]); first | done | rfl | (simp only [List.length_drop, List.length_take]; rfl)) ?_; (with_reducible refine (r12_May.calls k _ _ l0 true _ ?side1 ?side2 A4.out).mono ?_); (case side1 => repeat (first | exact (Kd.C_below HR0.out HB.out) | (with_reducible refine Kd.C_alloc ?_ _) | (with_reducible refine Kd.C_drewN ?_ _) | (with_reducible refine Kd.C_drew ?_))); (case side2 => exact HC0.out); rintro e w' ⟨rfl, ⟨nd, rfl⟩⟩; refine ⟨_, rfl, ?_⟩))
    go_meet
    case rel => exact ⟨_, (true), (by first | rfl | (simp; done) | (simp [*]; done)), H', ⟨by first | omega | exact Nat.le_refl _⟩, ⟨by repeat (first | (with_reducible first | exact HB.out | apply below_alloc | apply pw_below_drewN | apply below_drew1) | exact HB.out)⟩⟩
   ·rw [if_neg c6] at H
    have c6b0 : decide (a1 < 0) = false := decide_eq_false c6
    clear c6
    (first | rw [c6b0] | (simp only [i64_w, i32_w]; rw [c6b0]) | skip)
    have H' := Aside0.mk H
    clear H
    go_wp2_with (first | ((with_reducible refine gate_callee (f := 17) rfl ?_); refine goesL_ (some 14) rfl rfl Try.func17 (by kernel_rfl) rfl #[.slice A0 l0.length c0] rfl (by (try simp only [List.map_toArray, List.map_cons, List.map_nil]); first | done | rfl | (simp only [List.length_drop, List.length_take]; rfl)) ?_; (with_reducible refine (r12_May.calls k _ _ l0 true _ ?side1 ?side2 A4.out).mono ?_); (case side1 => repeat (first | exact (Kd.C_below HR0.out HB.out) | (with_reducible refine Kd.C_alloc ?_ _) | (with_reducible refine Kd.C_drewN ?_ _) | (with_reducible refine Kd.C_drew ?_))); (case side2 => exact HC0.out); rintro e w' ⟨rfl, ⟨nd, rfl⟩⟩; refine ⟨_, rfl, ?_⟩))
    go_meet
    case rel => exact ⟨_, (decide (a1 ≥ (l0.length : Int))), (by first | rfl | (simp; done) | (simp [*]; done)), H', ⟨by first | omega | exact Nat.le_refl _⟩, ⟨by repeat (first | (with_reducible first | exact HB.out | apply below_alloc | apply pw_below_drewN | apply below_drew1) | exact HB.out)⟩⟩
  ·replace c5 := Bool.eq_false_iff.mpr c5
   subst c5
   have H1 : (r12_Reach.j0 k l0 a1 true) = some r := by rw [if_neg (show ¬ (false = true) by decide)] at H; exact H
   clear H
   have H := H1
   clear H1
   have H' := Aside0.mk H
   clear H
   go_wp2_with (first | ((with_reducible refine gate_callee (f := 17) rfl ?_); refine goesL_ (some 14) rfl rfl Try.func17 (by kernel_rfl) rfl #[.slice A0 l0.length c0] rfl (by (try simp only [List.map_toArray, List.map_cons, List.map_nil]); first | done | rfl | (simp only [List.length_drop, List.length_take]; rfl)) ?_; (with_reducible refine (r12_May.calls k _ _ l0 false _ ?side1 ?side2 A4.out).mono ?_); (case side1 => repeat (first | exact (Kd.C_below HR0.out HB.out) | (with_reducible refine Kd.C_alloc ?_ _) | (with_reducible refine Kd.C_drewN ?_ _) | (with_reducible refine Kd.C_drew ?_))); (case side2 => exact HC0.out); rintro e w' ⟨rfl, ⟨nd, rfl⟩⟩; refine ⟨_, rfl, ?_⟩))
   go_meet
   case rel => exact ⟨_, (true), (by first | rfl | (simp; done) | (simp [*]; done)), H', ⟨by first | omega | exact Nat.le_refl _⟩, ⟨by repeat (first | (with_reducible first | exact HB.out | apply below_alloc | apply pw_below_drewN | apply below_drew1) | exact HB.out)⟩⟩
 case rest =>
  clear HC3
  try clear c1
  try clear p2
  try clear c5
  try clear c6
  try clear c6b0
  obtain ⟨kq, x25_2, rfl, HA, HJ2, HB⟩ := hcut
  cases kq with
  | zero => exact absurd HA.out (by simp [r12_Reach.j0])
  | succ kj2 =>
   have H := HA.out
   clear HA
   simp only [r12_Reach.j0] at H
   by_cases c7 : x25_2 = true
   ·subst c7
    have H1 : (some ([] : List Int)) = some r := by rw [if_pos rfl] at H; exact H
    clear H
    have H := H1
    clear H1
    obtain rfl := Option.some.inj H
    go_wp2
    go_ret
    exact ⟨_, by first | rfl | (simp [errW_none, errW_some] <;> rfl) | (simp [*, errW_none, errW_some] <;> rfl), by first | exact Kd.R_nil _ _ _ _ _ | exact Kd.N_nil _ _ _ _ _ | exact Kd.V_nil _ _ _ _ _ | exact Kd.Q_nil _ _ _ _ _ | exact Kd.S_nil _ _ _ _ _, by repeat (first | (with_reducible first | exact HB.out | apply below_alloc | apply pw_below_drewN | apply below_drew1) | exact HB.out)⟩
   ·replace c7 := Bool.eq_false_iff.mpr c7
    subst c7
    have H1 : (r12_Reach.l0 kj2 l0 a1 (([] : List Bool)) 0) = some r := by rw [if_neg (show ¬ (false = true) by decide)] at H; exact H
    clear H
    have H := H1
    clear H1
    obtain ⟨y132, hy132⟩ : ∃ y_ : List Bool, y_ = (([] : List Bool)) := ⟨_, rfl⟩
    replace H : (r12_Reach.l0 kj2 l0 a1 y132 0) = some r := by first | (rw [hy132]; with_reducible exact H) | (have H2_ := (Option.bind_some _ _).symm.trans H; rw [hy132]; with_reducible exact H2_) | (have H2_ := (Option.bind_some _ _).symm.trans H; with_reducible exact H2_) | with_reducible exact H | (rw [hy132]; exact H) | exact H
    have Ny132 := Aside0.mk hy132
    clear hy132
    have H' := Aside0.mk H
    clear H
    go_wp2_with (first | ((with_reducible refine gate_dst (N := 26) rfl ?_); (try (refine gate_guard (by rfl) ?_; dsimp only)); refine Kd.R_lit Kd.bool _ 4 ?hg (N := 26) ?hd (xs := ([] : List Bool)) (inner := []) (ok := fun _ => True) (okp := fun _ => True) ?hr ?hp (fun _ hk => hk) trivial (Below.refl _ _) (Nat.le_refl _) (by simp) ?_; (case hd => rfl); (case hg => rfl); (case hr => first | (go_simp; done) | (go_simp; rfl)); (case hp => exact (Reps.none _ _)); intro v133 w8 ho9 hb hg_ hnew_; clear hg_ hnew_; (first | rw [← Ny132.out] at ho9 | (simp only [Int.reduceToNat] at ho9; rw [← Ny132.out] at ho9)); have n0_ := Aside0.mk (Kd.R_lower ho9 (below_size (by repeat (first | (with_reducible first | exact HB.out | apply below_alloc | apply pw_below_drewN | apply below_drew1) | exact HB.out)))); have n1_ := Aside0.mk (below_step (by repeat (first | (with_reducible first | exact HB.out | apply below_alloc | apply pw_below_drewN | apply below_drew1) | exact HB.out)) hb); clear HB; have HO134 := n0_; have HB := n1_; clear n0_ n1_; clear hb ho9))
    go_loopg [5, 6] kj2 (fun kq v5 v6 w' => ∃ (x5_2 : List Bool) (x6_2 : Int), v6 = .int .i64 x6_2 ∧ Aside0 (r12_Reach.l0 kq l0 a1 x5_2 x6_2 = some r) ∧ Aside0 (kq ≤ kj2) ∧ Aside0 (Kd.R Kd.bool 4 w' w.heap.size (fun _ => True) v5 x5_2) ∧ Aside0 (Below w.heap.size w w'))
    case atStart => exact ⟨(y132), (0), (by first | rfl | (simp; done) | (simp [*]; done)), H', ⟨Nat.le_refl _⟩, ⟨by (with_reducible repeat (first | apply Kd.R_alloc | apply Kd.R_drewN | apply Kd.R_drew)); exact HO134.out⟩, ⟨by repeat (first | (with_reducible first | exact HB.out | apply below_alloc | apply pw_below_drewN | apply below_drew1) | exact HB.out)⟩⟩
    case round =>
     clear H'
     try clear c1
     try clear p2
     try clear c5
     try clear c6
     try clear c6b0
     try clear c7
     try clear p2
     obtain ⟨x5_2, x6_2, rfl, HA, HK2, HO_5, HB⟩ := hrel
     cases gk with
     | zero => exact absurd HA.out (by simp [r12_Reach.l0])
     | succ k2 =>
      have H := HA.out
      clear HA
      simp only [r12_Reach.l0] at H
      by_cases c10 : x6_2 < (l0.length : Int)
      ·rw [if_pos c10] at H
       have c10b0 : decide (x6_2 < (l0.length : Int)) = true := decide_eq_true c10
       clear c10
       by_cases c11 : x5_2.length < 140737488355328
       ·rw [if_pos c11] at H
        have LMc11 := Aside0.mk c11
        clear c11
        obtain ⟨y135, hy135⟩ : ∃ y_ : List Bool, y_ = (x5_2 ++ [(x6_2 == a1)]) := ⟨_, rfl⟩
        replace H : (r12_Reach.l0 k2 l0 a1 y135 (wrap64 (x6_2 + 1))) = some r := by first | (rw [hy135]; with_reducible exact H) | (have H2_ := (Option.bind_some _ _).symm.trans H; rw [hy135]; with_reducible exact H2_) | (have H2_ := (Option.bind_some _ _).symm.trans H; with_reducible exact H2_) | with_reducible exact H | (rw [hy135]; exact H) | exact H
        have Ny135 := Aside0.mk hy135
        clear hy135
        have H' := Aside0.mk H
        clear H
        go_wp2_with (first | ((with_reducible refine gate_builtin (b := .append) (xs := #[.tmp 33, .tmp 37]) rfl ?_); (try (refine gate_guard (by rfl) ?_; dsimp only)); at_builtin; refine Kd.R_append Kd.bool (w0 := w) w.heap.size rfl (.tmp 33) (.tmp 37) 36 4 (.bool false) 1 rfl Try.underlying36 info4 rfl (by decide) (by omega) u5 x5_2 (x6_2 == a1) [.bool (x6_2 == a1)] (fun _ => True) (fun _ => False) rfl rfl ?aP (fun _ hk => hk.elim) ?aF ?aO ?aB ?aS ?aL ?_; (case aP => exact rfl); (case aB => exact (by repeat (first | (with_reducible first | exact HB.out | apply below_alloc | apply pw_below_drewN | apply below_drew1) | exact HB.out))); (case aF => exact (fun _ _ => trivial)); (case aO => exact (by (with_reducible repeat (first | apply Kd.R_alloc | apply Kd.R_drewN | apply Kd.R_drew)); exact HO_5.out)); (case aS => exact (below_size (by repeat (first | (with_reducible first | exact HB.out | apply below_alloc | apply pw_below_drewN | apply below_drew1) | exact HB.out)))); (case aL => have := LMc11.out; omega); intro v136 w12 ho hb hg hat; rw [← Ny135.out] at ho; have n0_ := Aside0.mk (hb); have n1_ := Aside0.mk (ho); clear HB; clear HO_5; have HB := n0_; have HO137 := n1_; clear n0_ n1_; clear ho hb hg hat))
        go_roundg k2
        case measure => have := HJ2.out; have := HK2.out; omega
        case rel => exact ⟨(y135), (wrap64 (x6_2 + 1)), (by first | rfl | (simp; done) | (simp [*]; done)), H', ⟨by have := HJ2.out; have := HK2.out; omega⟩, ⟨by (with_reducible repeat (first | apply Kd.R_alloc | apply Kd.R_drewN | apply Kd.R_drew)); exact HO137.out⟩, ⟨by repeat (first | (with_reducible first | exact HB.out | apply below_alloc | apply pw_below_drewN | apply below_drew1) | exact HB.out)⟩⟩
       ·rw [if_neg c11] at H
        exact absurd H (by simp)
      ·rw [if_neg c10] at H
       have c10b0 : decide (x6_2 < (l0.length : Int)) = false := decide_eq_false c10
       clear c10
       have HC13 := Aside0.mk H
       clear H
       go_upto_block 2 with (fail)
       go_cut [] (fun wc => ∃ (kq : Nat) (x5_12 : List Bool), Aside0 (r12_Reach.j5 kq l0 x5_12 = some r) ∧ Aside0 (kq ≤ k2) ∧ Aside0 (Kd.R Kd.bool 4 wc w.heap.size (fun _ => True) u5 x5_12) ∧ Aside0 (Below w.heap.size w wc))
       case first =>
        have H := HC13.out
        clear HC13
        have H' := Aside0.mk H
        clear H
        go_wp2
        go_loopg [7] k2 (fun kq v7 w' => ∃ (x5_3 : List Bool) (x7_3 : Int), v7 = .int .i64 x7_3 ∧ Aside0 (r12_Reach.l1 kq l0 x5_3 x7_3 = some r) ∧ Aside0 (kq ≤ k2) ∧ Aside0 (Kd.R Kd.bool 4 w' w.heap.size (fun _ => True) u5 x5_3) ∧ Aside0 (Below w.heap.size w w'))
        case atStart => exact ⟨(x5_2), (0), (by first | rfl | (simp; done) | (simp [*]; done)), H', ⟨Nat.le_refl _⟩, ⟨by (with_reducible repeat (first | apply Kd.R_alloc | apply Kd.R_drewN | apply Kd.R_drew)); exact HO_5.out⟩, ⟨by repeat (first | (with_reducible first | exact HB.out | apply below_alloc | apply pw_below_drewN | apply below_drew1) | exact HB.out)⟩⟩
        case round =>
         clear H'
         try clear c1
         try clear p2
         try clear c5
         try clear c6
         try clear c6b0
         try clear p6
         try clear c7
         try clear c10
         try clear c10b0
         try clear c11
         try clear p2
         obtain ⟨x5_3, x7_3, rfl, HA, HK3, HO_5, HB⟩ := hrel
         cases gk with
         | zero => exact absurd HA.out (by simp [r12_Reach.l1])
         | succ k3 =>
          have H := HA.out
          clear HA
          simp only [r12_Reach.l1] at H
          by_cases c14 : x7_3 < (l0.length : Int)
          ·rw [if_pos c14] at H
           have c14b0 : decide (x7_3 < (l0.length : Int)) = true := decide_eq_true c14
           clear c14
           (first | rw [c14b0] | (simp only [i64_w, i32_w]; rw [c14b0]) | skip)
           have H' := Aside0.mk H
           clear H
           go_wp2
           go_loopg [8, 9] k3 (fun kq v8 v9 w' => ∃ (x5_4 : List Bool) (x8_4 : Bool) (x9_4 : Int), v8 = .bool x8_4 ∧ v9 = .int .i64 x9_4 ∧ Aside0 (r12_Reach.l2 kq l0 x5_4 x7_3 x8_4 x9_4 = some r) ∧ Aside0 (kq ≤ k3) ∧ Aside0 (Kd.R Kd.bool 4 w' w.heap.size (fun _ => True) u5 x5_4) ∧ Aside0 (Below w.heap.size w w'))
           case atStart => exact ⟨(x5_3), (false), (0), (by first | rfl | (simp; done) | (simp [*]; done)), (by first | rfl | (simp; done) | (simp [*]; done)), H', ⟨Nat.le_refl _⟩, ⟨by (with_reducible repeat (first | apply Kd.R_alloc | apply Kd.R_drewN | apply Kd.R_drew)); exact HO_5.out⟩, ⟨by repeat (first | (with_reducible first | exact HB.out | apply below_alloc | apply pw_below_drewN | apply below_drew1) | exact HB.out)⟩⟩
           case round =>
            clear H'
            try clear c1
            try clear p2
            try clear c5
            try clear c6
            try clear c6b0
            try clear p6
            try clear c7
            try clear c10
            try clear c10b0
            try clear c11
            try clear c14
            try clear c14b0
            try clear p2
            try clear p6
            obtain ⟨x5_4, x8_4, x9_4, rfl, rfl, HA, HK4, HO_5, HB⟩ := hrel
            cases gk with
            | zero => exact absurd HA.out (by simp [r12_Reach.l2])
            | succ k4 =>
             have H := HA.out
             clear HA
             simp only [r12_Reach.l2] at H
             by_cases c15 : x9_4 < (l0.length : Int)
             ·rw [if_pos c15] at H
              have c15b0 : decide (x9_4 < (l0.length : Int)) = true := decide_eq_true c15
              clear c15
              have H' := Aside0.mk H
              clear H
              go_wp2
              go_loopg [8, 10] k4 (fun kq v8 v10 w' => ∃ (x5_5 : List Bool) (x8_5 : Bool) (x10_5 : Int), v8 = .bool x8_5 ∧ v10 = .int .i64 x10_5 ∧ Aside0 (r12_Reach.l3 kq l0 x5_5 x7_3 x8_5 x9_4 x10_5 = some r) ∧ Aside0 (kq ≤ k4) ∧ Aside0 (Kd.R Kd.bool 4 w' w.heap.size (fun _ => True) u5 x5_5) ∧ Aside0 (Below w.heap.size w w'))
              case atStart => exact ⟨(x5_4), (x8_4), (0), (by first | rfl | (simp; done) | (simp [*]; done)), (by first | rfl | (simp; done) | (simp [*]; done)), H', ⟨Nat.le_refl _⟩, ⟨by (with_reducible repeat (first | apply Kd.R_alloc | apply Kd.R_drewN | apply Kd.R_drew)); exact HO_5.out⟩, ⟨by repeat (first | (with_reducible first | exact HB.out | apply below_alloc | apply pw_below_drewN | apply below_drew1) | exact HB.out)⟩⟩
              case round =>
               clear H'
               try clear c1
               try clear p2
               try clear c5
               try clear c6
               try clear c6b0
               try clear p6
               try clear c7
               try clear c10
               try clear c10b0
               try clear c11
               try clear c14
               try clear c14b0
               try clear c15
               try clear c15b0
               try clear p2
               try clear p6
               obtain ⟨x5_5, x8_5, x10_5, rfl, rfl, HA, HK5, HO_5, HB⟩ := hrel
               cases gk with
               | zero => exact absurd HA.out (by simp [r12_Reach.l3])
               | succ k5 =>
                have H := HA.out
                clear HA
                simp only [r12_Reach.l3] at H
                by_cases c16 : 0 ≤ x9_4
                ·rw [if_pos c16] at H
                 have c16b0 : decide (0 ≤ x9_4) = true := decide_eq_true c16
                 clear c16
                 by_cases c17 : x9_4 < (l0.length : Int)
                 ·rw [if_pos c17] at H
                  have c17b0 : decide (x9_4 < (l0.length : Int)) = true := decide_eq_true c17
                  clear c17
                  by_cases c18 : x10_5 < ((rd_L1 l0 x9_4).length : Int)
                  ·rw [if_pos c18] at H
                   have c18b0 : decide (x10_5 < ((rd_L1 l0 x9_4).length : Int)) = true := decide_eq_true c18
                   clear c18
                   by_cases c19 : x9_4 < (x5_5.length : Int)
                   ·rw [if_pos c19] at H
                    have c19b0 : decide (x9_4 < (x5_5.length : Int)) = true := decide_eq_true c19
                    clear c19
                    obtain ⟨bq20, hbq20⟩ : ∃ b_ : Bool, b_ = (rdOf false x5_5 x9_4) := ⟨_, rfl⟩
                    replace H : (if bq20 = true then (if x8_5 = true then (if 0 ≤ x10_5 then (if 0 ≤ (rd (rd_L1 l0 x9_4) x10_5) then (if (rd (rd_L1 l0 x9_4) x10_5) < (x5_5.length : Int) then (r12_Reach.l3 k5 l0 (x5_5.set ((rd (rd_L1 l0 x9_4) x10_5) : Int).toNat true) x7_3 true x9_4 (wrap64 (x10_5 + 1))) else (none)) else (none)) else (none)) else (if 0 ≤ x10_5 then (if 0 ≤ (rd (rd_L1 l0 x9_4) x10_5) then (if (rd (rd_L1 l0 x9_4) x10_5) < (x5_5.length : Int) then (r12_Reach.l3 k5 l0 (x5_5.set ((rd (rd_L1 l0 x9_4) x10_5) : Int).toNat true) x7_3 (!(rdOf false x5_5 (rd (rd_L1 l0 x9_4) x10_5))) x9_4 (wrap64 (x10_5 + 1))) else (none)) else (none)) else (none))) else (r12_Reach.l2 k5 l0 x5_5 x7_3 x8_5 (wrap64 (x9_4 + 1)))) = some r := by rw [← hbq20] at H; exact H
                    have Nbq20 := Aside0.mk hbq20
                    clear hbq20
                    by_cases c21 : bq20 = true
                    ·subst c21
                     have H1 : (if x8_5 = true then (if 0 ≤ x10_5 then (if 0 ≤ (rd (rd_L1 l0 x9_4) x10_5) then (if (rd (rd_L1 l0 x9_4) x10_5) < (x5_5.length : Int) then (r12_Reach.l3 k5 l0 (x5_5.set ((rd (rd_L1 l0 x9_4) x10_5) : Int).toNat true) x7_3 true x9_4 (wrap64 (x10_5 + 1))) else (none)) else (none)) else (none)) else (if 0 ≤ x10_5 then (if 0 ≤ (rd (rd_L1 l0 x9_4) x10_5) then (if (rd (rd_L1 l0 x9_4) x10_5) < (x5_5.length : Int) then (r12_Reach.l3 k5 l0 (x5_5.set ((rd (rd_L1 l0 x9_4) x10_5) : Int).toNat true) x7_3 (!(rdOf false x5_5 (rd (rd_L1 l0 x9_4) x10_5))) x9_4 (wrap64 (x10_5 + 1))) else (none)) else (none)) else (none))) = some r := by rw [if_pos rfl] at H; exact H
                     clear H
                     have H := H1
                     clear H1
                     by_cases c22 : x8_5 = true
                     ·subst c22
                      have H1 : (if 0 ≤ x10_5 then (if 0 ≤ (rd (rd_L1 l0 x9_4) x10_5) then (if (rd (rd_L1 l0 x9_4) x10_5) < (x5_5.length : Int) then (r12_Reach.l3 k5 l0 (x5_5.set ((rd (rd_L1 l0 x9_4) x10_5) : Int).toNat true) x7_3 true x9_4 (wrap64 (x10_5 + 1))) else (none)) else (none)) else (none)) = some r := by rw [if_pos rfl] at H; exact H
                      clear H
                      have H := H1
                      clear H1
                      by_cases c23 : 0 ≤ x10_5
                      ·rw [if_pos c23] at H
                       have c23b0 : decide (0 ≤ x10_5) = true := decide_eq_true c23
                       clear c23
                       by_cases c24 : 0 ≤ (rd (rd_L1 l0 x9_4) x10_5)
                       ·rw [if_pos c24] at H
                        have c24b0 : decide (0 ≤ (rd (rd_L1 l0 x9_4) x10_5)) = true := decide_eq_true c24
                        clear c24
                        by_cases c25 : (rd (rd_L1 l0 x9_4) x10_5) < (x5_5.length : Int)
                        ·rw [if_pos c25] at H
                         have c25b0 : decide ((rd (rd_L1 l0 x9_4) x10_5) < (x5_5.length : Int)) = true := decide_eq_true c25
                         clear c25
                         obtain ⟨y142, hy142⟩ : ∃ y_ : List Bool, y_ = (x5_5.set ((rd (rd_L1 l0 x9_4) x10_5) : Int).toNat true) := ⟨_, rfl⟩
                         replace H : (r12_Reach.l3 k5 l0 y142 x7_3 true x9_4 (wrap64 (x10_5 + 1))) = some r := by first | (rw [hy142]; with_reducible exact H) | (have H2_ := (Option.bind_some _ _).symm.trans H; rw [hy142]; with_reducible exact H2_) | (have H2_ := (Option.bind_some _ _).symm.trans H; with_reducible exact H2_) | with_reducible exact H | (rw [hy142]; exact H) | exact H
                         have Ny142 := Aside0.mk hy142
                         clear hy142
                         have H' := Aside0.mk H
                         clear H
                         have p138 : 0 ≤ (x9_4 : Int) := of_decide_eq_true (by first | (with_reducible assumption) | assumption)
                         have q138 : x9_4 < (l0.length : Int) := of_decide_eq_true (by first | (with_reducible assumption) | assumption)
                         obtain ⟨ad138, A138_0, c138_0, e138, hx138_0, hl138_0, hi138_0⟩ := at_L1 HR0.out x9_4 p138 q138
                         cases e138
                         replace hx138_0 := (HB.out.cell (World.block_lt_of_cell? w _ hx138_0)).trans hx138_0
                         have HR138_0 := Aside0.mk hi138_0
                         have HC138_0 := Aside0.mk hl138_0
                         clear hi138_0 hl138_0
                         replace p138 := eq_true p138
                         replace q138 := eq_true q138
                         obtain ⟨Ao27, co27, eo27⟩ := Kd.R_slice HO_5.out
                         subst eo27
                         have p139 : 0 ≤ (x9_4 : Int) := of_decide_eq_true (by first | (with_reducible assumption) | assumption)
                         have q139 : x9_4 < (x5_5.length : Int) := of_decide_eq_true (by first | (with_reducible assumption) | assumption)
                         obtain ⟨ad139, e139, hx139_0⟩ := Kd.at_bool (Kd.R_reads' HO_5.out).2.2 x9_4 p139 q139
                         (try rw [← Nbq20.out] at hx139_0)
                         cases e139
                         replace p139 := eq_true p139
                         replace q139 := eq_true q139
                         have p140 : 0 ≤ (x9_4 : Int) := of_decide_eq_true (by first | (with_reducible assumption) | assumption)
                         have q140 : x9_4 < (l0.length : Int) := of_decide_eq_true (by first | (with_reducible assumption) | assumption)
                         obtain ⟨ad140, A140_0, c140_0, e140, hx140_0, hl140_0, hi140_0⟩ := at_L1 HR0.out x9_4 p140 q140
                         obtain rfl : ad138 = ad140 := (by injection e140)
                         replace hx140_0 := (HB.out.cell (World.block_lt_of_cell? w _ hx140_0)).trans hx140_0
                         have HR140_0 := Aside0.mk hi140_0
                         have HC140_0 := Aside0.mk hl140_0
                         clear hi140_0 hl140_0
                         replace p140 := eq_true p140
                         replace q140 := eq_true q140
                         have ea_ := Option.some.inj (hx138_0.symm.trans hx140_0)
                         injection ea_ with ea_ en_ ec_
                         subst ea_
                         subst ec_
                         clear en_
                         have p141 : 0 ≤ (x10_5 : Int) := of_decide_eq_true (by first | (with_reducible assumption) | assumption)
                         have q141 : x10_5 < ((rd_L1 l0 x9_4).length : Int) := of_decide_eq_true (by first | (with_reducible assumption) | assumption)
                         obtain ⟨ad141, e141, hx141_0⟩ := Kd.at_int HR140_0.out x10_5 p141 q141
                         cases e141
                         replace hx141_0 := (HB.out.cell (World.block_lt_of_cell? w _ hx141_0)).trans hx141_0
                         replace p141 := eq_true p141
                         replace q141 := eq_true q141
                         have p26 : 0 ≤ ((rd (rd_L1 l0 x9_4) x10_5) : Int) := of_decide_eq_true (by first | (with_reducible assumption) | assumption)
                         have q26 : ((rd (rd_L1 l0 x9_4) x10_5) : Int) < ((x5_5.length : Int) : Int) := of_decide_eq_true (by first | (with_reducible assumption) | assumption)
                         obtain ⟨go26, co26, eo26, gb26, gl26, cl26, HG26⟩ := Kd.R_form HO_5.out (by omega)
                         (first | cases eo26 | (injection eo26 with ea_ en_ ec_; (first | subst ea_ | (injection ea_ with ea_; subst ea_)); subst ec_; clear en_))
                         have GB26 := Aside0.mk gb26
                         have GG26 := Aside0.mk HG26
                         clear gb26 gl26 HG26
                         (first | simp only [add_plain] at hx139_0 | skip)
                         obtain ⟨hx26_0, hf26_0⟩ := Kd.R_celln false HO_5.out ((rd (rd_L1 l0 x9_4) x10_5) : Int) p26 q26
                         replace p26 := eq_true p26
                         replace q26 := eq_true q26
                         have HP28 := Kd.R_putg HO_5.out ((rd (rd_L1 l0 x9_4) x10_5) : Int) true
                         go_wp2_with (first | ((with_reducible refine gate_store (t := 4) (p := 88) rfl ?_); refine store_event (t := 4) (p := 88) (v := ?vo_w29) (w1 := (wr.setCell ⟨go26, ((rd (rd_L1 l0 x9_4) x10_5) : Int).toNat, none⟩ (.bool true))) ?hg ?ho ?hn ?hr ?_; (case ho => rfl); (case hg => rfl); (case hn => rfl); (case hr => first | (go_simp; done) | (go_simp; rfl)); intro w29 hw; have hg : wr.grownBy w29 (some go26) := (by rw [hw]; exact HP28.2); have hp_ : Kd.R Kd.bool 4 w29 w.heap.size (fun _ => True) (.slice (some ⟨go26, 0, none⟩) x5_5.length co27) y142 := (by rw [hw, Ny142.out]; exact HP28.1); clear HP28; have n0_ := Aside0.mk (hp_); have n1_ := Aside0.mk ((by rw [hw]; exact below_set (HB.out) GB26.out : Below w.heap.size w w29)); clear HO_5; clear HB; have HO_5 := n0_; have HB := n1_; clear n0_ n1_; clear hg hw hp_))
                         go_roundg k5
                         case measure => have := HJ2.out; have := HK2.out; have := HK3.out; have := HK4.out; have := HK5.out; omega
                         case rel => exact ⟨(y142), (true), (wrap64 (x10_5 + 1)), (by first | rfl | (simp; done) | (simp [*]; done)), (by first | rfl | (simp; done) | (simp [*]; done)), H', ⟨by have := HJ2.out; have := HK2.out; have := HK3.out; have := HK4.out; have := HK5.out; omega⟩, ⟨by (with_reducible repeat (first | apply Kd.R_alloc | apply Kd.R_drewN | apply Kd.R_drew)); exact HO_5.out⟩, ⟨by repeat (first | (with_reducible first | exact HB.out | apply below_alloc | apply pw_below_drewN | apply below_drew1) | exact HB.out)⟩⟩
                        ·rw [if_neg c25] at H
                         exact absurd H (by simp)
                       ·rw [if_neg c24] at H
                        exact absurd H (by simp)
                      ·rw [if_neg c23] at H
                       exact absurd H (by simp)
                     ·replace c22 := Bool.eq_false_iff.mpr c22
                      subst c22
                      have H1 : (if 0 ≤ x10_5 then (if 0 ≤ (rd (rd_L1 l0 x9_4) x10_5) then (if (rd (rd_L1 l0 x9_4) x10_5) < (x5_5.length : Int) then (r12_Reach.l3 k5 l0 (x5_5.set ((rd (rd_L1 l0 x9_4) x10_5) : Int).toNat true) x7_3 (!(rdOf false x5_5 (rd (rd_L1 l0 x9_4) x10_5))) x9_4 (wrap64 (x10_5 + 1))) else (none)) else (none)) else (none)) = some r := by rw [if_neg (show ¬ (false = true) by decide)] at H; exact H
                      clear H
                      have H := H1
                      clear H1
                      by_cases c30 : 0 ≤ x10_5
                      ·rw [if_pos c30] at H
                       have c30b0 : decide (0 ≤ x10_5) = true := decide_eq_true c30
                       clear c30
                       by_cases c31 : 0 ≤ (rd (rd_L1 l0 x9_4) x10_5)
                       ·rw [if_pos c31] at H
                        have c31b0 : decide (0 ≤ (rd (rd_L1 l0 x9_4) x10_5)) = true := decide_eq_true c31
                        clear c31
                        by_cases c32 : (rd (rd_L1 l0 x9_4) x10_5) < (x5_5.length : Int)
                        ·rw [if_pos c32] at H
                         have c32b0 : decide ((rd (rd_L1 l0 x9_4) x10_5) < (x5_5.length : Int)) = true := decide_eq_true c32
                         clear c32
                         obtain ⟨y148, hy148⟩ : ∃ y_ : List Bool, y_ = (x5_5.set ((rd (rd_L1 l0 x9_4) x10_5) : Int).toNat true) := ⟨_, rfl⟩
                         replace H : (r12_Reach.l3 k5 l0 y148 x7_3 (!(rdOf false x5_5 (rd (rd_L1 l0 x9_4) x10_5))) x9_4 (wrap64 (x10_5 + 1))) = some r := by first | (rw [hy148]; with_reducible exact H) | (have H2_ := (Option.bind_some _ _).symm.trans H; rw [hy148]; with_reducible exact H2_) | (have H2_ := (Option.bind_some _ _).symm.trans H; with_reducible exact H2_) | with_reducible exact H | (rw [hy148]; exact H) | exact H
                         have Ny148 := Aside0.mk hy148
                         clear hy148
                         have H' := Aside0.mk H
                         clear H
                         have p138 : 0 ≤ (x9_4 : Int) := of_decide_eq_true (by first | (with_reducible assumption) | assumption)
                         have q138 : x9_4 < (l0.length : Int) := of_decide_eq_true (by first | (with_reducible assumption) | assumption)
                         obtain ⟨ad138, A138_0, c138_0, e138, hx138_0, hl138_0, hi138_0⟩ := at_L1 HR0.out x9_4 p138 q138
                         cases e138
                         replace hx138_0 := (HB.out.cell (World.block_lt_of_cell? w _ hx138_0)).trans hx138_0
                         have HR138_0 := Aside0.mk hi138_0
                         have HC138_0 := Aside0.mk hl138_0
                         clear hi138_0 hl138_0
                         replace p138 := eq_true p138
                         replace q138 := eq_true q138
                         obtain ⟨Ao34, co34, eo34⟩ := Kd.R_slice HO_5.out
                         subst eo34
                         have p139 : 0 ≤ (x9_4 : Int) := of_decide_eq_true (by first | (with_reducible assumption) | assumption)
                         have q139 : x9_4 < (x5_5.length : Int) := of_decide_eq_true (by first | (with_reducible assumption) | assumption)
                         obtain ⟨ad139, e139, hx139_0⟩ := Kd.at_bool (Kd.R_reads' HO_5.out).2.2 x9_4 p139 q139
                         (try rw [← Nbq20.out] at hx139_0)
                         cases e139
                         replace p139 := eq_true p139
                         replace q139 := eq_true q139
                         have p143 : 0 ≤ (x9_4 : Int) := of_decide_eq_true (by first | (with_reducible assumption) | assumption)
                         have q143 : x9_4 < (l0.length : Int) := of_decide_eq_true (by first | (with_reducible assumption) | assumption)
                         obtain ⟨ad143, A143_0, c143_0, e143, hx143_0, hl143_0, hi143_0⟩ := at_L1 HR0.out x9_4 p143 q143
                         obtain rfl : ad138 = ad143 := (by injection e143)
                         replace hx143_0 := (HB.out.cell (World.block_lt_of_cell? w _ hx143_0)).trans hx143_0
                         have HR143_0 := Aside0.mk hi143_0
                         have HC143_0 := Aside0.mk hl143_0
                         clear hi143_0 hl143_0
                         replace p143 := eq_true p143
                         replace q143 := eq_true q143
                         have ea_ := Option.some.inj (hx138_0.symm.trans hx143_0)
                         injection ea_ with ea_ en_ ec_
                         subst ea_
                         subst ec_
                         clear en_
                         have p144 : 0 ≤ (x10_5 : Int) := of_decide_eq_true (by first | (with_reducible assumption) | assumption)
                         have q144 : x10_5 < ((rd_L1 l0 x9_4).length : Int) := of_decide_eq_true (by first | (with_reducible assumption) | assumption)
                         obtain ⟨ad144, e144, hx144_0⟩ := Kd.at_int HR143_0.out x10_5 p144 q144
                         cases e144
                         replace hx144_0 := (HB.out.cell (World.block_lt_of_cell? w _ hx144_0)).trans hx144_0
                         replace p144 := eq_true p144
                         replace q144 := eq_true q144
                         have p145 : 0 ≤ ((rd (rd_L1 l0 x9_4) x10_5) : Int) := of_decide_eq_true (by first | (with_reducible assumption) | assumption)
                         have q145 : (rd (rd_L1 l0 x9_4) x10_5) < (x5_5.length : Int) := of_decide_eq_true (by first | (with_reducible assumption) | assumption)
                         obtain ⟨ad145, e145, hx145_0⟩ := Kd.at_bool (Kd.R_reads' HO_5.out).2.2 (rd (rd_L1 l0 x9_4) x10_5) p145 q145
                         (try rw [← Nbq20.out] at hx145_0)
                         obtain rfl : ad139 = ad145 := (by injection e145)
                         replace p145 := eq_true p145
                         replace q145 := eq_true q145
                         have p146 : 0 ≤ (x9_4 : Int) := of_decide_eq_true (by first | (with_reducible assumption) | assumption)
                         have q146 : x9_4 < (l0.length : Int) := of_decide_eq_true (by first | (with_reducible assumption) | assumption)
                         obtain ⟨ad146, A146_0, c146_0, e146, hx146_0, hl146_0, hi146_0⟩ := at_L1 HR0.out x9_4 p146 q146
                         obtain rfl : ad138 = ad146 := (by injection e146)
                         replace hx146_0 := (HB.out.cell (World.block_lt_of_cell? w _ hx146_0)).trans hx146_0
                         have HR146_0 := Aside0.mk hi146_0
                         have HC146_0 := Aside0.mk hl146_0
                         clear hi146_0 hl146_0
                         replace p146 := eq_true p146
                         replace q146 := eq_true q146
                         have ea_ := Option.some.inj (hx138_0.symm.trans hx146_0)
                         injection ea_ with ea_ en_ ec_
                         subst ea_
                         subst ec_
                         clear en_
                         have p147 : 0 ≤ (x10_5 : Int) := of_decide_eq_true (by first | (with_reducible assumption) | assumption)
                         have q147 : x10_5 < ((rd_L1 l0 x9_4).length : Int) := of_decide_eq_true (by first | (with_reducible assumption) | assumption)
                         obtain ⟨ad147, e147, hx147_0⟩ := Kd.at_int HR146_0.out x10_5 p147 q147
                         cases e147
                         replace hx147_0 := (HB.out.cell (World.block_lt_of_cell? w _ hx147_0)).trans hx147_0
                         replace p147 := eq_true p147
                         replace q147 := eq_true q147
                         have p33 : 0 ≤ ((rd (rd_L1 l0 x9_4) x10_5) : Int) := of_decide_eq_true (by first | (with_reducible assumption) | assumption)
                         have q33 : ((rd (rd_L1 l0 x9_4) x10_5) : Int) < ((x5_5.length : Int) : Int) := of_decide_eq_true (by first | (with_reducible assumption) | assumption)
                         obtain ⟨go33, co33, eo33, gb33, gl33, cl33, HG33⟩ := Kd.R_form HO_5.out (by omega)
                         (first | cases eo33 | (injection eo33 with ea_ en_ ec_; (first | subst ea_ | (injection ea_ with ea_; subst ea_)); subst ec_; clear en_))
                         have GB33 := Aside0.mk gb33
                         have GG33 := Aside0.mk HG33
                         clear gb33 gl33 HG33
                         (first | simp only [add_plain] at hx139_0 | skip)
                         (first | simp only [add_plain] at hx145_0 | skip)
                         obtain ⟨hx33_0, hf33_0⟩ := Kd.R_celln false HO_5.out ((rd (rd_L1 l0 x9_4) x10_5) : Int) p33 q33
                         replace p33 := eq_true p33
                         replace q33 := eq_true q33
                         have HP35 := Kd.R_putg HO_5.out ((rd (rd_L1 l0 x9_4) x10_5) : Int) true
                         go_wp2_with (first | ((with_reducible refine gate_store (t := 4) (p := 88) rfl ?_); refine store_event (t := 4) (p := 88) (v := ?vo_w36) (w1 := (wr.setCell ⟨go33, ((rd (rd_L1 l0 x9_4) x10_5) : Int).toNat, none⟩ (.bool true))) ?hg ?ho ?hn ?hr ?_; (case ho => rfl); (case hg => rfl); (case hn => rfl); (case hr => first | (go_simp; done) | (go_simp; rfl)); intro w36 hw; have hg : wr.grownBy w36 (some go33) := (by rw [hw]; exact HP35.2); have hp_ : Kd.R Kd.bool 4 w36 w.heap.size (fun _ => True) (.slice (some ⟨go33, 0, none⟩) x5_5.length co34) y148 := (by rw [hw, Ny148.out]; exact HP35.1); clear HP35; have n0_ := Aside0.mk (hp_); have n1_ := Aside0.mk ((by rw [hw]; exact below_set (HB.out) GB33.out : Below w.heap.size w w36)); clear HO_5; clear HB; have HO_5 := n0_; have HB := n1_; clear n0_ n1_; clear hg hw hp_))
                         go_roundg k5
                         case measure => have := HJ2.out; have := HK2.out; have := HK3.out; have := HK4.out; have := HK5.out; omega
                         case rel => exact ⟨(y148), (!(rdOf false x5_5 (rd (rd_L1 l0 x9_4) x10_5))), (wrap64 (x10_5 + 1)), (by first | rfl | (simp; done) | (simp [*]; done)), (by first | rfl | (simp; done) | (simp [*]; done)), H', ⟨by have := HJ2.out; have := HK2.out; have := HK3.out; have := HK4.out; have := HK5.out; omega⟩, ⟨by (with_reducible repeat (first | apply Kd.R_alloc | apply Kd.R_drewN | apply Kd.R_drew)); exact HO_5.out⟩, ⟨by repeat (first | (with_reducible first | exact HB.out | apply below_alloc | apply pw_below_drewN | apply below_drew1) | exact HB.out)⟩⟩
                        ·rw [if_neg c32] at H
                         exact absurd H (by simp)
                       ·rw [if_neg c31] at H
                        exact absurd H (by simp)
                      ·rw [if_neg c30] at H
                       exact absurd H (by simp)
                    ·replace c21 := Bool.eq_false_iff.mpr c21
                     subst c21
                     have H1 : (r12_Reach.l2 k5 l0 x5_5 x7_3 x8_5 (wrap64 (x9_4 + 1))) = some r := by rw [if_neg (show ¬ (false = true) by decide)] at H; exact H
                     clear H
                     have H := H1
                     clear H1
                     have H' := Aside0.mk H
                     clear H
                     have p138 : 0 ≤ (x9_4 : Int) := of_decide_eq_true (by first | (with_reducible assumption) | assumption)
                     have q138 : x9_4 < (l0.length : Int) := of_decide_eq_true (by first | (with_reducible assumption) | assumption)
                     obtain ⟨ad138, A138_0, c138_0, e138, hx138_0, hl138_0, hi138_0⟩ := at_L1 HR0.out x9_4 p138 q138
                     cases e138
                     replace hx138_0 := (HB.out.cell (World.block_lt_of_cell? w _ hx138_0)).trans hx138_0
                     have HR138_0 := Aside0.mk hi138_0
                     have HC138_0 := Aside0.mk hl138_0
                     clear hi138_0 hl138_0
                     replace p138 := eq_true p138
                     replace q138 := eq_true q138
                     obtain ⟨Ao37, co37, eo37⟩ := Kd.R_slice HO_5.out
                     subst eo37
                     have p139 : 0 ≤ (x9_4 : Int) := of_decide_eq_true (by first | (with_reducible assumption) | assumption)
                     have q139 : x9_4 < (x5_5.length : Int) := of_decide_eq_true (by first | (with_reducible assumption) | assumption)
                     obtain ⟨ad139, e139, hx139_0⟩ := Kd.at_bool (Kd.R_reads' HO_5.out).2.2 x9_4 p139 q139
                     (try rw [← Nbq20.out] at hx139_0)
                     cases e139
                     replace p139 := eq_true p139
                     replace q139 := eq_true q139
                     go_wp2
                     go_roundg k5
                     case measure => have := HJ2.out; have := HK2.out; have := HK3.out; have := HK4.out; have := HK5.out; omega
                     case rel => exact ⟨(x5_5), (x8_5), (wrap64 (x9_4 + 1)), (by first | rfl | (simp; done) | (simp [*]; done)), (by first | rfl | (simp; done) | (simp [*]; done)), H', ⟨by have := HJ2.out; have := HK2.out; have := HK3.out; have := HK4.out; have := HK5.out; omega⟩, ⟨by (with_reducible repeat (first | apply Kd.R_alloc | apply Kd.R_drewN | apply Kd.R_drew)); exact HO_5.out⟩, ⟨by repeat (first | (with_reducible first | exact HB.out | apply below_alloc | apply pw_below_drewN | apply below_drew1) | exact HB.out)⟩⟩
                   ·rw [if_neg c19] at H
                    exact absurd H (by simp)
                  ·rw [if_neg c18] at H
                   have c18b0 : decide (x10_5 < ((rd_L1 l0 x9_4).length : Int)) = false := decide_eq_false c18
                   clear c18
                   have H' := Aside0.mk H
                   clear H
                   have p138 : 0 ≤ (x9_4 : Int) := of_decide_eq_true (by first | (with_reducible assumption) | assumption)
                   have q138 : x9_4 < (l0.length : Int) := of_decide_eq_true (by first | (with_reducible assumption) | assumption)
                   obtain ⟨ad138, A138_0, c138_0, e138, hx138_0, hl138_0, hi138_0⟩ := at_L1 HR0.out x9_4 p138 q138
                   cases e138
                   replace hx138_0 := (HB.out.cell (World.block_lt_of_cell? w _ hx138_0)).trans hx138_0
                   have HR138_0 := Aside0.mk hi138_0
                   have HC138_0 := Aside0.mk hl138_0
                   clear hi138_0 hl138_0
                   replace p138 := eq_true p138
                   replace q138 := eq_true q138
                   go_wp2
                   go_roundg k5
                   case measure => have := HJ2.out; have := HK2.out; have := HK3.out; have := HK4.out; have := HK5.out; omega
                   case rel => exact ⟨(x5_5), (x8_5), (wrap64 (x9_4 + 1)), (by first | rfl | (simp; done) | (simp [*]; done)), (by first | rfl | (simp; done) | (simp [*]; done)), H', ⟨by have := HJ2.out; have := HK2.out; have := HK3.out; have := HK4.out; have := HK5.out; omega⟩, ⟨by (with_reducible repeat (first | apply Kd.R_alloc | apply Kd.R_drewN | apply Kd.R_drew)); exact HO_5.out⟩, ⟨by repeat (first | (with_reducible first | exact HB.out | apply below_alloc | apply pw_below_drewN | apply below_drew1) | exact HB.out)⟩⟩
                 ·rw [if_neg c17] at H
                  exact absurd H (by simp)
                ·rw [if_neg c16] at H
                 exact absurd H (by simp)
             ·rw [if_neg c15] at H
              have c15b0 : decide (x9_4 < (l0.length : Int)) = false := decide_eq_false c15
              clear c15
              by_cases c38 : x8_4 = true
              ·subst c38
               have H1 : (r12_Reach.l1 k4 l0 x5_4 (wrap64 (x7_3 + 1))) = some r := by rw [if_pos rfl] at H; exact H
               clear H
               have H := H1
               clear H1
               have H' := Aside0.mk H
               clear H
               go_wp2
               go_roundg k4
               case measure => have := HJ2.out; have := HK2.out; have := HK3.out; have := HK4.out; omega
               case rel => exact ⟨(x5_4), (wrap64 (x7_3 + 1)), (by first | rfl | (simp; done) | (simp [*]; done)), H', ⟨by have := HJ2.out; have := HK2.out; have := HK3.out; have := HK4.out; omega⟩, ⟨by (with_reducible repeat (first | apply Kd.R_alloc | apply Kd.R_drewN | apply Kd.R_drew)); exact HO_5.out⟩, ⟨by repeat (first | (with_reducible first | exact HB.out | apply below_alloc | apply pw_below_drewN | apply below_drew1) | exact HB.out)⟩⟩
              ·replace c38 := Bool.eq_false_iff.mpr c38
               subst c38
               have H1 : (r12_Reach.j5 k4 l0 x5_4) = some r := by rw [if_neg (show ¬ (false = true) by decide)] at H; exact H
               clear H
               have H := H1
               clear H1
               have H' := Aside0.mk H
               clear H
               go_wp2
               go_meet
               case rel => exact ⟨_, (x5_4), H', ⟨by have := HJ2.out; have := HK2.out; have := HK3.out; have := HK4.out; first | omega | exact Nat.le_refl _⟩, ⟨by (with_reducible repeat (first | apply Kd.R_alloc | apply Kd.R_drewN | apply Kd.R_drew)); exact HO_5.out⟩, ⟨by repeat (first | (with_reducible first | exact HB.out | apply below_alloc | apply pw_below_drewN | apply below_drew1) | exact HB.out)⟩⟩
          ·rw [if_neg c14] at H
           have c14b0 : decide (x7_3 < (l0.length : Int)) = false := decide_eq_false c14
           clear c14
           (first | rw [c14b0] | (simp only [i64_w, i32_w]; rw [c14b0]) | skip)
           have H' := Aside0.mk H
           clear H
           go_wp2
           go_meet
           case rel => exact ⟨_, (x5_3), H', ⟨by have := HJ2.out; have := HK2.out; have := HK3.out; first | omega | exact Nat.le_refl _⟩, ⟨by (with_reducible repeat (first | apply Kd.R_alloc | apply Kd.R_drewN | apply Kd.R_drew)); exact HO_5.out⟩, ⟨by repeat (first | (with_reducible first | exact HB.out | apply below_alloc | apply pw_below_drewN | apply below_drew1) | exact HB.out)⟩⟩
       case rest =>
        clear HC13
        try clear c1
        try clear p1
        try clear q1
        try clear hx1
        try clear c2
        try clear p2
        try clear q2
        try clear hx2
        try clear hf2
        try clear c3
        try clear p3
        try clear q3
        try clear hx3
        try clear hf3
        try clear c5
        try clear c6
        try clear c6b0
        try clear p6
        try clear c7
        try clear c10
        try clear c10b0
        try clear c11
        try clear c13
        try clear p13
        try clear q13
        try clear hx13
        try clear c14
        try clear c14b0
        try clear p14
        try clear q14
        try clear hx14
        try clear c15
        try clear c15b0
        try clear c16
        try clear c16b0
        try clear c17
        try clear c17b0
        try clear c18
        try clear c18b0
        try clear c19
        try clear c19b0
        try clear q20
        try clear c21
        try clear c22
        try clear c23
        try clear c23b0
        try clear c24
        try clear c24b0
        try clear c25
        try clear c25b0
        try clear p26
        try clear q26
        try clear hx26
        try clear hf26
        try clear c30
        try clear c30b0
        try clear c31
        try clear c31b0
        try clear c32
        try clear c32b0
        try clear p33
        try clear q33
        try clear hx33
        try clear hf33
        try clear c38
        try clear hx138_0
        try clear hx139_0
        try clear hx140_0
        try clear hx141_0
        try clear hx143_0
        try clear hx144_0
        try clear hx145_0
        try clear hx146_0
        try clear hx147_0
        try clear hx26_0
        try clear hx33_0
        try clear p138
        try clear p139
        try clear p140
        try clear p141
        try clear p143
        try clear p144
        try clear p145
        try clear p146
        try clear p147
        try clear p2
        try clear p26
        try clear p33
        try clear p6
        try clear q138
        try clear q139
        try clear q140
        try clear q141
        try clear q143
        try clear q144
        try clear q145
        try clear q146
        try clear q147
        try clear q26
        try clear q33
        obtain ⟨kq, x5_12, HA, HJ12, HO_5, HB⟩ := hcut
        cases kq with
        | zero => exact absurd HA.out (by simp [r12_Reach.j5])
        | succ kj12 =>
         have H := HA.out
         clear HA
         simp only [r12_Reach.j5] at H
         obtain ⟨y149, hy149⟩ : ∃ y_ : List Int, y_ = (([] : List Int)) := ⟨_, rfl⟩
         replace H : (r12_Reach.l4 kj12 l0 x5_12 y149 0) = some r := by first | (rw [hy149]; with_reducible exact H) | (have H2_ := (Option.bind_some _ _).symm.trans H; rw [hy149]; with_reducible exact H2_) | (have H2_ := (Option.bind_some _ _).symm.trans H; with_reducible exact H2_) | with_reducible exact H | (rw [hy149]; exact H) | exact H
         have Ny149 := Aside0.mk hy149
         clear hy149
         have H' := Aside0.mk H
         clear H
         go_wp2_with (first | ((with_reducible refine gate_dst (N := 91) rfl ?_); (try (refine gate_guard (by rfl) ?_; dsimp only)); refine Kd.R_lit (Kd.int .i64) _ 3 ?hg (N := 91) ?hd (xs := ([] : List Int)) (inner := []) (ok := fun _ => True) (okp := fun _ => True) ?hr ?hp (fun _ hk => hk) trivial (Below.refl _ _) (Nat.le_refl _) (by simp) ?_; (case hd => rfl); (case hg => rfl); (case hr => first | (go_simp; done) | (go_simp; rfl)); (case hp => exact (Reps.none _ _)); intro v150 w39 ho40 hb hg_ hnew_; clear hg_ hnew_; (first | rw [← Ny149.out] at ho40 | (simp only [Int.reduceToNat] at ho40; rw [← Ny149.out] at ho40)); have n0_ := Aside0.mk (Kd.R_below (by (with_reducible repeat (first | apply Kd.R_alloc | apply Kd.R_drewN | apply Kd.R_drew)); exact HO_5.out) hb); have n1_ := Aside0.mk (Kd.R_lower ho40 (below_size (by repeat (first | (with_reducible first | exact HB.out | apply below_alloc | apply pw_below_drewN | apply below_drew1) | exact HB.out)))); have n2_ := Aside0.mk (below_step (by repeat (first | (with_reducible first | exact HB.out | apply below_alloc | apply pw_below_drewN | apply below_drew1) | exact HB.out)) hb); clear HO_5; clear HB; have HO_5 := n0_; have HO151 := n1_; have HB := n2_; clear n0_ n1_ n2_; clear hb ho40))
         go_loopg [11, 12] kj12 (fun kq v11 v12 w' => ∃ (x11_4 : List Int) (x12_4 : Int), v12 = .int .i64 x12_4 ∧ Aside0 (r12_Reach.l4 kq l0 x5_12 x11_4 x12_4 = some r) ∧ Aside0 (kq ≤ kj12) ∧ Aside0 (Kd.R Kd.bool 4 w' w.heap.size (fun _ => True) u5 x5_12) ∧ Aside0 (Kd.R (Kd.int .i64) 3 w' w.heap.size (fun _ => True) v11 x11_4) ∧ Aside0 (Below w.heap.size w w'))
         case atStart => exact ⟨(y149), (0), (by first | rfl | (simp; done) | (simp [*]; done)), H', ⟨Nat.le_refl _⟩, ⟨by (with_reducible repeat (first | apply Kd.R_alloc | apply Kd.R_drewN | apply Kd.R_drew)); exact HO_5.out⟩, ⟨by (with_reducible repeat (first | apply Kd.R_alloc | apply Kd.R_drewN | apply Kd.R_drew)); exact HO151.out⟩, ⟨by repeat (first | (with_reducible first | exact HB.out | apply below_alloc | apply pw_below_drewN | apply below_drew1) | exact HB.out)⟩⟩
         case round =>
          clear H'
          try clear c1
          try clear p1
          try clear q1
          try clear hx1
          try clear c2
          try clear p2
          try clear q2
          try clear hx2
          try clear hf2
          try clear c3
          try clear p3
          try clear q3
          try clear hx3
          try clear hf3
          try clear c5
          try clear c6
          try clear c6b0
          try clear p6
          try clear c7
          try clear c10
          try clear c10b0
          try clear c11
          try clear c13
          try clear p13
          try clear q13
          try clear hx13
          try clear c14
          try clear c14b0
          try clear p14
          try clear q14
          try clear hx14
          try clear c15
          try clear c15b0
          try clear c16
          try clear c16b0
          try clear c17
          try clear c17b0
          try clear c18
          try clear c18b0
          try clear c19
          try clear c19b0
          try clear q20
          try clear c21
          try clear c22
          try clear c23
          try clear c23b0
          try clear c24
          try clear c24b0
          try clear c25
          try clear c25b0
          try clear p26
          try clear q26
          try clear hx26
          try clear hf26
          try clear c30
          try clear c30b0
          try clear c31
          try clear c31b0
          try clear c32
          try clear c32b0
          try clear p33
          try clear q33
          try clear hx33
          try clear hf33
          try clear c38
          try clear hx138_0
          try clear hx139_0
          try clear hx140_0
          try clear hx141_0
          try clear hx143_0
          try clear hx144_0
          try clear hx145_0
          try clear hx146_0
          try clear hx147_0
          try clear hx26_0
          try clear hx33_0
          try clear p1
          try clear p13
          try clear p138
          try clear p139
          try clear p14
          try clear p140
          try clear p141
          try clear p143
          try clear p144
          try clear p145
          try clear p146
          try clear p147
          try clear p2
          try clear p26
          try clear p3
          try clear p33
          try clear p6
          try clear q1
          try clear q13
          try clear q138
          try clear q139
          try clear q14
          try clear q140
          try clear q141
          try clear q143
          try clear q144
          try clear q145
          try clear q146
          try clear q147
          try clear q2
          try clear q20
          try clear q26
          try clear q3
          try clear q33
          obtain ⟨x11_4, x12_4, rfl, HA, HK4, HO_5, HO_11, HB⟩ := hrel
          cases gk with
          | zero => exact absurd HA.out (by simp [r12_Reach.l4])
          | succ k4 =>
           have H := HA.out
           clear HA
           simp only [r12_Reach.l4] at H
           by_cases c41 : x12_4 < (l0.length : Int)
           ·rw [if_pos c41] at H
            have c41b0 : decide (x12_4 < (l0.length : Int)) = true := decide_eq_true c41
            clear c41
            by_cases c42 : 0 ≤ x12_4
            ·rw [if_pos c42] at H
             have c42b0 : decide (0 ≤ x12_4) = true := decide_eq_true c42
             clear c42
             by_cases c43 : x12_4 < (x5_12.length : Int)
             ·rw [if_pos c43] at H
              have c43b0 : decide (x12_4 < (x5_12.length : Int)) = true := decide_eq_true c43
              clear c43
              obtain ⟨bq44, hbq44⟩ : ∃ b_ : Bool, b_ = (rdOf false x5_12 x12_4) := ⟨_, rfl⟩
              replace H : (if bq44 = true then (if x11_4.length < 17592186044416 then (r12_Reach.l4 k4 l0 x5_12 (x11_4 ++ [x12_4]) (wrap64 (x12_4 + 1))) else (none)) else (r12_Reach.l4 k4 l0 x5_12 x11_4 (wrap64 (x12_4 + 1)))) = some r := by rw [← hbq44] at H; exact H
              have Nbq44 := Aside0.mk hbq44
              clear hbq44
              by_cases c45 : bq44 = true
              ·subst c45
               have H1 : (if x11_4.length < 17592186044416 then (r12_Reach.l4 k4 l0 x5_12 (x11_4 ++ [x12_4]) (wrap64 (x12_4 + 1))) else (none)) = some r := by rw [if_pos rfl] at H; exact H
               clear H
               have H := H1
               clear H1
               by_cases c46 : x11_4.length < 17592186044416
               ·rw [if_pos c46] at H
                have LMc46 := Aside0.mk c46
                clear c46
                obtain ⟨y153, hy153⟩ : ∃ y_ : List Int, y_ = (x11_4 ++ [x12_4]) := ⟨_, rfl⟩
                replace H : (r12_Reach.l4 k4 l0 x5_12 y153 (wrap64 (x12_4 + 1))) = some r := by first | (rw [hy153]; with_reducible exact H) | (have H2_ := (Option.bind_some _ _).symm.trans H; rw [hy153]; with_reducible exact H2_) | (have H2_ := (Option.bind_some _ _).symm.trans H; with_reducible exact H2_) | with_reducible exact H | (rw [hy153]; exact H) | exact H
                have Ny153 := Aside0.mk hy153
                clear hy153
                have H' := Aside0.mk H
                clear H
                obtain ⟨Ao47, co47, eo47⟩ := Kd.R_slice HO_5.out
                subst eo47
                have p152 : 0 ≤ (x12_4 : Int) := of_decide_eq_true (by first | (with_reducible assumption) | assumption)
                have q152 : x12_4 < (x5_12.length : Int) := of_decide_eq_true (by first | (with_reducible assumption) | assumption)
                obtain ⟨ad152, e152, hx152_0⟩ := Kd.at_bool (Kd.R_reads' HO_5.out).2.2 x12_4 p152 q152
                (try rw [← Nbq44.out] at hx152_0)
                cases e152
                replace p152 := eq_true p152
                replace q152 := eq_true q152
                go_wp2_with (first | ((with_reducible refine gate_builtin (b := .append) (xs := #[.tmp 102, .tmp 104]) rfl ?_); (try (refine gate_guard (by rfl) ?_; dsimp only)); at_builtin; refine Kd.R_append (Kd.int .i64) (w0 := w) w.heap.size rfl (.tmp 102) (.tmp 104) 26 3 (.int .i64 0) 8 rfl Try.underlying26 info3 rfl (by decide) (by omega) u11 x11_4 x12_4 [.int .i64 x12_4] (fun _ => True) (fun _ => False) rfl rfl ?aP (fun _ hk => hk.elim) ?aF ?aO ?aB ?aS ?aL ?_; (case aP => exact rfl); (case aB => exact (by repeat (first | (with_reducible first | exact HB.out | apply below_alloc | apply pw_below_drewN | apply below_drew1) | exact HB.out))); (case aF => exact (fun _ _ => trivial)); (case aO => exact (by (with_reducible repeat (first | apply Kd.R_alloc | apply Kd.R_drewN | apply Kd.R_drew)); exact HO_11.out)); (case aS => exact (below_size (by repeat (first | (with_reducible first | exact HB.out | apply below_alloc | apply pw_below_drewN | apply below_drew1) | exact HB.out)))); (case aL => have := LMc46.out; omega); intro v154 w48 ho hb hg hat; rw [← Ny153.out] at ho; have n0_ := Aside0.mk (Kd.R_over' (by (with_reducible repeat (first | apply Kd.R_alloc | apply Kd.R_drewN | apply Kd.R_drew)); exact HO_5.out) (Kd.R_typed (by (with_reducible repeat (first | apply Kd.R_alloc | apply Kd.R_drewN | apply Kd.R_drew)); exact HO_11.out)) (by decide) hg); have n1_ := Aside0.mk (hb); have n2_ := Aside0.mk (ho); clear HO_5; clear HB; clear HO_11; have HO_5 := n0_; have HB := n1_; have HO155 := n2_; clear n0_ n1_ n2_; clear ho hb hg hat))
                go_roundg k4
                case measure => have := HJ2.out; have := HK2.out; have := HJ12.out; have := HK4.out; omega
                case rel => exact ⟨(y153), (wrap64 (x12_4 + 1)), (by first | rfl | (simp; done) | (simp [*]; done)), H', ⟨by have := HJ2.out; have := HK2.out; have := HJ12.out; have := HK4.out; omega⟩, ⟨by (with_reducible repeat (first | apply Kd.R_alloc | apply Kd.R_drewN | apply Kd.R_drew)); exact HO_5.out⟩, ⟨by (with_reducible repeat (first | apply Kd.R_alloc | apply Kd.R_drewN | apply Kd.R_drew)); exact HO155.out⟩, ⟨by repeat (first | (with_reducible first | exact HB.out | apply below_alloc | apply pw_below_drewN | apply below_drew1) | exact HB.out)⟩⟩
               ·rw [if_neg c46] at H
                exact absurd H (by simp)
              ·replace c45 := Bool.eq_false_iff.mpr c45
               subst c45
               have H1 : (r12_Reach.l4 k4 l0 x5_12 x11_4 (wrap64 (x12_4 + 1))) = some r := by rw [if_neg (show ¬ (false = true) by decide)] at H; exact H
               clear H
               have H := H1
               clear H1
               have H' := Aside0.mk H
               clear H
               obtain ⟨Ao49, co49, eo49⟩ := Kd.R_slice HO_5.out
               subst eo49
               have p152 : 0 ≤ (x12_4 : Int) := of_decide_eq_true (by first | (with_reducible assumption) | assumption)
               have q152 : x12_4 < (x5_12.length : Int) := of_decide_eq_true (by first | (with_reducible assumption) | assumption)
               obtain ⟨ad152, e152, hx152_0⟩ := Kd.at_bool (Kd.R_reads' HO_5.out).2.2 x12_4 p152 q152
               (try rw [← Nbq44.out] at hx152_0)
               cases e152
               replace p152 := eq_true p152
               replace q152 := eq_true q152
               go_wp2
               go_roundg k4
               case measure => have := HJ2.out; have := HK2.out; have := HJ12.out; have := HK4.out; omega
               case rel => exact ⟨(x11_4), (wrap64 (x12_4 + 1)), (by first | rfl | (simp; done) | (simp [*]; done)), H', ⟨by have := HJ2.out; have := HK2.out; have := HJ12.out; have := HK4.out; omega⟩, ⟨by (with_reducible repeat (first | apply Kd.R_alloc | apply Kd.R_drewN | apply Kd.R_drew)); exact HO_5.out⟩, ⟨by (with_reducible repeat (first | apply Kd.R_alloc | apply Kd.R_drewN | apply Kd.R_drew)); exact HO_11.out⟩, ⟨by repeat (first | (with_reducible first | exact HB.out | apply below_alloc | apply pw_below_drewN | apply below_drew1) | exact HB.out)⟩⟩
             ·rw [if_neg c43] at H
              exact absurd H (by simp)
            ·rw [if_neg c42] at H
             exact absurd H (by simp)
           ·rw [if_neg c41] at H
            have c41b0 : decide (x12_4 < (l0.length : Int)) = false := decide_eq_false c41
            clear c41
            obtain rfl := Option.some.inj H
            go_wp2
            go_ret
            exact ⟨_, by first | rfl | (simp [errW_none, errW_some] <;> rfl) | (simp [*, errW_none, errW_some] <;> rfl), by (with_reducible repeat (first | apply Kd.R_alloc | apply Kd.R_drewN | apply Kd.R_drew)); exact HO_11.out, by repeat (first | (with_reducible first | exact HB.out | apply below_alloc | apply pw_below_drewN | apply below_drew1) | exact HB.out)⟩
mutual
def graph_May.l0 : Nat → List (List Int) → List (List Int) → Int → Int → Option (Bool)
  | 0, _, _, _, _ => none
  | k + 1, x0, x7, x8, x9 => if x9 < x8 then (if 0 ≤ x9 then (if x9 < (x7.length : Int) then (graph_May.l1 k x0 (rd_L1 x7 x9) x7 x8 x9 (rd_L1 x7 x9) ((rd_L1 x7 x9).length : Int) 0) else (none)) else (none)) else (some (decide ((x0.length : Int) ≤ 1000)))
def graph_May.l1 : Nat → List (List Int) → List Int → List (List Int) → Int → Int → List Int → Int → Int → Option (Bool)
  | 0, _, _, _, _, _, _, _, _ => none
  | k + 1, x0, x4, x7, x8, x9, x13, x14, x15 => if x15 < x14 then (if 0 ≤ x15 then (if x15 < (x13.length : Int) then (if (rd x13 x15) < 0 then (some false) else (if (rd x13 x15) ≥ (x0.length : Int) then (some false) else (if x15 > 0 then (if 0 ≤ (wrap64 (x15 - 1)) then (if (wrap64 (x15 - 1)) < (x4.length : Int) then (if (rd x4 (wrap64 (x15 - 1))) ≥ (rd x13 x15) then (some false) else (graph_May.l1 k x0 x4 x7 x8 x9 x13 x14 (wrap64 (x15 + 1)))) else (none)) else (none)) else (graph_May.l1 k x0 x4 x7 x8 x9 x13 x14 (wrap64 (x15 + 1)))))) else (none)) else (none)) else (graph_May.l0 k x0 x7 x8 (wrap64 (x9 + 1)))
end
def graph_May.f (k : Nat) (l0 : List (List Int)) : Option (Bool) := graph_May.l0 k l0 l0 (l0.length : Int) 0
set_option maxHeartbeats 8000000 in
set_option maxRecDepth 100000 in
theorem graph_May.calls (k : Nat) (A0 : Option Addr) (c0 : Nat) (l0 : List (List Int)) (r : Bool) (w : World) (hr0 : Kd.C (Kd.slice 3 (Kd.int .i64)) w A0 l0.length l0) (hc0 : l0.length ≤ c0) (h : graph_May.f k l0 = some r) :
    Calls Try.prog 21 #[.slice A0 l0.length c0] w fun e w' => e = .returned (.bool r) ∧ Drawn0 w w' := by
 have HR0 := Aside0.mk hr0
 have HC0 := Aside0.mk hc0
 clear hr0 hc0
 have H : (graph_May.l0 k l0 l0 (l0.length : Int) 0) = some r := h
 clear h
 have H' := Aside0.mk H
 clear H
 go_enter Try.func21, Try.ntmps21
 go_wp2
 go_loopg [9] k (fun kq v9 w' => ∃ (x9_1 : Int), v9 = .int .i64 x9_1 ∧ Aside0 (graph_May.l0 kq l0 l0 (l0.length : Int) x9_1 = some r) ∧ Aside0 (kq ≤ k) ∧ Drawn0 w w')
 case atStart => exact ⟨(0), (by first | rfl | (simp; done) | (simp [*]; done)), H', ⟨Nat.le_refl _⟩, by repeat (first | exact Drawn0.refl _ | apply Drawn0.step)⟩
 case round =>
  clear H'
  obtain ⟨x9_1, rfl, HA, HK1, ⟨m1, rfl⟩⟩ := hrel
  cases gk with
  | zero => exact absurd HA.out (by simp [graph_May.l0])
  | succ k1 =>
   have H := HA.out
   clear HA
   simp only [graph_May.l0] at H
   by_cases c2 : x9_1 < (l0.length : Int)
   ·rw [if_pos c2] at H
    have c2b0 : decide (x9_1 < (l0.length : Int)) = true := decide_eq_true c2
    clear c2
    by_cases c3 : 0 ≤ x9_1
    ·rw [if_pos c3] at H
     have c3b0 : decide (0 ≤ x9_1) = true := decide_eq_true c3
     clear c3
     by_cases c4 : x9_1 < (l0.length : Int)
     ·rw [if_pos c4] at H
      have c4b0 : decide (x9_1 < (l0.length : Int)) = true := decide_eq_true c4
      clear c4
      have H' := Aside0.mk H
      clear H
      have p156 : 0 ≤ (x9_1 : Int) := of_decide_eq_true (by first | (with_reducible assumption) | assumption)
      have q156 : x9_1 < (l0.length : Int) := of_decide_eq_true (by first | (with_reducible assumption) | assumption)
      obtain ⟨ad156, A156_0, c156_0, e156, hx156_0, hl156_0, hi156_0⟩ := at_L1 HR0.out x9_1 p156 q156
      cases e156
      have HR156_0 := Aside0.mk hi156_0
      have HC156_0 := Aside0.mk hl156_0
      clear hi156_0 hl156_0
      replace p156 := eq_true p156
      replace q156 := eq_true q156
      go_wp2
      go_loopg [15] k1 (fun kq v15 w' => ∃ (x15_2 : Int), v15 = .int .i64 x15_2 ∧ Aside0 (graph_May.l1 kq l0 (rd_L1 l0 x9_1) l0 (l0.length : Int) x9_1 (rd_L1 l0 x9_1) ((rd_L1 l0 x9_1).length : Int) x15_2 = some r) ∧ Aside0 (kq ≤ k1) ∧ Drawn0 w w')
      case atStart => exact ⟨(0), (by first | rfl | (simp; done) | (simp [*]; done)), H', ⟨Nat.le_refl _⟩, by repeat (first | exact Drawn0.refl _ | apply Drawn0.step)⟩
      case round =>
       clear H'
       try clear c1
       try clear p1
       try clear q1
       try clear hx1
       try clear c2
       try clear c2b0
       try clear p2
       try clear c3
       try clear c3b0
       try clear c4
       try clear c4b0
       try clear hx156_0
       try clear p156
       try clear q156
       obtain ⟨x15_2, rfl, HA, HK2, ⟨m2, rfl⟩⟩ := hrel
       cases gk with
       | zero => exact absurd HA.out (by simp [graph_May.l1])
       | succ k2 =>
        have H := HA.out
        clear HA
        simp only [graph_May.l1] at H
        by_cases c5 : x15_2 < ((rd_L1 l0 x9_1).length : Int)
        ·rw [if_pos c5] at H
         have c5b0 : decide (x15_2 < ((rd_L1 l0 x9_1).length : Int)) = true := decide_eq_true c5
         clear c5
         by_cases c6 : 0 ≤ x15_2
         ·rw [if_pos c6] at H
          have c6b0 : decide (0 ≤ x15_2) = true := decide_eq_true c6
          clear c6
          by_cases c7 : x15_2 < ((rd_L1 l0 x9_1).length : Int)
          ·rw [if_pos c7] at H
           have c7b0 : decide (x15_2 < ((rd_L1 l0 x9_1).length : Int)) = true := decide_eq_true c7
           clear c7
           by_cases c8 : (rd (rd_L1 l0 x9_1) x15_2) < 0
           ·rw [if_pos c8] at H
            have c8b0 : decide ((rd (rd_L1 l0 x9_1) x15_2) < 0) = true := decide_eq_true c8
            clear c8
            obtain rfl := Option.some.inj H
            have p157 : 0 ≤ (x15_2 : Int) := of_decide_eq_true (by first | (with_reducible assumption) | assumption)
            have q157 : x15_2 < ((rd_L1 l0 x9_1).length : Int) := of_decide_eq_true (by first | (with_reducible assumption) | assumption)
            obtain ⟨ad157, e157, hx157_0⟩ := Kd.at_int HR156_0.out x15_2 p157 q157
            cases e157
            replace p157 := eq_true p157
            replace q157 := eq_true q157
            go_wp2
            go_ret
            exact ⟨by first | rfl | (simp; done) | (simp [*]; done), by repeat (first | exact Drawn0.refl _ | apply Drawn0.step)⟩
           ·rw [if_neg c8] at H
            have c8b0 : decide ((rd (rd_L1 l0 x9_1) x15_2) < 0) = false := decide_eq_false c8
            clear c8
            by_cases c9 : (rd (rd_L1 l0 x9_1) x15_2) ≥ (l0.length : Int)
            ·rw [if_pos c9] at H
             have c9b0 : decide ((l0.length : Int) ≤ (rd (rd_L1 l0 x9_1) x15_2)) = true := decide_eq_true c9
             clear c9
             obtain rfl := Option.some.inj H
             have p157 : 0 ≤ (x15_2 : Int) := of_decide_eq_true (by first | (with_reducible assumption) | assumption)
             have q157 : x15_2 < ((rd_L1 l0 x9_1).length : Int) := of_decide_eq_true (by first | (with_reducible assumption) | assumption)
             obtain ⟨ad157, e157, hx157_0⟩ := Kd.at_int HR156_0.out x15_2 p157 q157
             cases e157
             replace p157 := eq_true p157
             replace q157 := eq_true q157
             go_wp2
             go_ret
             exact ⟨by first | rfl | (simp; done) | (simp [*]; done), by repeat (first | exact Drawn0.refl _ | apply Drawn0.step)⟩
            ·rw [if_neg c9] at H
             have c9b0 : decide ((l0.length : Int) ≤ (rd (rd_L1 l0 x9_1) x15_2)) = false := decide_eq_false c9
             clear c9
             by_cases c10 : x15_2 > 0
             ·rw [if_pos c10] at H
              have c10b0 : decide (0 < x15_2) = true := decide_eq_true c10
              clear c10
              obtain ⟨ji11, hji11⟩ : ∃ j_ : Int, (wrap64 (x15_2 - 1)) = j_ := ⟨_, rfl⟩
              replace H : (if 0 ≤ (ji11) then (if (ji11) < ((rd_L1 l0 x9_1).length : Int) then (if (rd (rd_L1 l0 x9_1) (ji11)) ≥ (rd (rd_L1 l0 x9_1) x15_2) then (some false) else (graph_May.l1 k2 l0 (rd_L1 l0 x9_1) l0 (l0.length : Int) x9_1 (rd_L1 l0 x9_1) ((rd_L1 l0 x9_1).length : Int) (wrap64 (x15_2 + 1)))) else (none)) else (none)) = some r := by first | (rw [hji11] at H; exact H) | (simp only [hji11] at H ⊢; exact H)
              have hji11w : (IntKind.i64.wrap (x15_2 - 1)) = ji11 := (i64_w _).trans hji11
              by_cases c12 : 0 ≤ (ji11)
              ·rw [if_pos c12] at H
               have c12b0 : decide (0 ≤ (ji11)) = true := decide_eq_true c12
               clear c12
               by_cases c13 : (ji11) < ((rd_L1 l0 x9_1).length : Int)
               ·rw [if_pos c13] at H
                have c13b0 : decide ((ji11) < ((rd_L1 l0 x9_1).length : Int)) = true := decide_eq_true c13
                clear c13
                by_cases c14 : (rd (rd_L1 l0 x9_1) (ji11)) ≥ (rd (rd_L1 l0 x9_1) x15_2)
                ·rw [if_pos c14] at H
                 have c14b0 : decide ((rd (rd_L1 l0 x9_1) x15_2) ≤ (rd (rd_L1 l0 x9_1) (ji11))) = true := decide_eq_true c14
                 clear c14
                 obtain rfl := Option.some.inj H
                 have p157 : 0 ≤ (x15_2 : Int) := of_decide_eq_true (by first | (with_reducible assumption) | assumption)
                 have q157 : x15_2 < ((rd_L1 l0 x9_1).length : Int) := of_decide_eq_true (by first | (with_reducible assumption) | assumption)
                 obtain ⟨ad157, e157, hx157_0⟩ := Kd.at_int HR156_0.out x15_2 p157 q157
                 cases e157
                 replace p157 := eq_true p157
                 replace q157 := eq_true q157
                 have p158 : 0 ≤ ((ji11) : Int) := of_decide_eq_true (by first | (with_reducible assumption) | assumption)
                 have q158 : (ji11) < ((rd_L1 l0 x9_1).length : Int) := of_decide_eq_true (by first | (with_reducible assumption) | assumption)
                 obtain ⟨ad158, e158, hx158_0⟩ := Kd.at_int HR156_0.out (ji11) p158 q158
                 obtain rfl : ad157 = ad158 := (by injection e158)
                 replace p158 := eq_true p158
                 replace q158 := eq_true q158
                 go_wp2
                 go_ret
                 exact ⟨by first | rfl | (simp; done) | (simp only [← hji11] <;> (first | rfl | simp)) | (simp [*]; done), by repeat (first | exact Drawn0.refl _ | apply Drawn0.step)⟩
                ·rw [if_neg c14] at H
                 have c14b0 : decide ((rd (rd_L1 l0 x9_1) x15_2) ≤ (rd (rd_L1 l0 x9_1) (ji11))) = false := decide_eq_false c14
                 clear c14
                 have H' := Aside0.mk H
                 clear H
                 have p157 : 0 ≤ (x15_2 : Int) := of_decide_eq_true (by first | (with_reducible assumption) | assumption)
                 have q157 : x15_2 < ((rd_L1 l0 x9_1).length : Int) := of_decide_eq_true (by first | (with_reducible assumption) | assumption)
                 obtain ⟨ad157, e157, hx157_0⟩ := Kd.at_int HR156_0.out x15_2 p157 q157
                 cases e157
                 replace p157 := eq_true p157
                 replace q157 := eq_true q157
                 have p158 : 0 ≤ ((ji11) : Int) := of_decide_eq_true (by first | (with_reducible assumption) | assumption)
                 have q158 : (ji11) < ((rd_L1 l0 x9_1).length : Int) := of_decide_eq_true (by first | (with_reducible assumption) | assumption)
                 obtain ⟨ad158, e158, hx158_0⟩ := Kd.at_int HR156_0.out (ji11) p158 q158
                 obtain rfl : ad157 = ad158 := (by injection e158)
                 replace p158 := eq_true p158
                 replace q158 := eq_true q158
                 go_wp2
                 go_roundg k2
                 case measure => have := HK1.out; have := HK2.out; omega
                 case rel => exact ⟨(wrap64 (x15_2 + 1)), (by first | rfl | (simp; done) | (simp [*]; done)), H', ⟨by have := HK1.out; have := HK2.out; omega⟩, by repeat (first | exact Drawn0.refl _ | apply Drawn0.step)⟩
               ·rw [if_neg c13] at H
                exact absurd H (by simp)
              ·rw [if_neg c12] at H
               exact absurd H (by simp)
             ·rw [if_neg c10] at H
              have c10b0 : decide (0 < x15_2) = false := decide_eq_false c10
              clear c10
              have H' := Aside0.mk H
              clear H
              have p157 : 0 ≤ (x15_2 : Int) := of_decide_eq_true (by first | (with_reducible assumption) | assumption)
              have q157 : x15_2 < ((rd_L1 l0 x9_1).length : Int) := of_decide_eq_true (by first | (with_reducible assumption) | assumption)
              obtain ⟨ad157, e157, hx157_0⟩ := Kd.at_int HR156_0.out x15_2 p157 q157
              cases e157
              replace p157 := eq_true p157
              replace q157 := eq_true q157
              go_wp2
              go_roundg k2
              case measure => have := HK1.out; have := HK2.out; omega
              case rel => exact ⟨(wrap64 (x15_2 + 1)), (by first | rfl | (simp; done) | (simp [*]; done)), H', ⟨by have := HK1.out; have := HK2.out; omega⟩, by repeat (first | exact Drawn0.refl _ | apply Drawn0.step)⟩
          ·rw [if_neg c7] at H
           exact absurd H (by simp)
         ·rw [if_neg c6] at H
          exact absurd H (by simp)
        ·rw [if_neg c5] at H
         have c5b0 : decide (x15_2 < ((rd_L1 l0 x9_1).length : Int)) = false := decide_eq_false c5
         clear c5
         have H' := Aside0.mk H
         clear H
         go_wp2
         go_roundg k2
         case measure => have := HK1.out; have := HK2.out; omega
         case rel => exact ⟨(wrap64 (x9_1 + 1)), (by first | rfl | (simp; done) | (simp [*]; done)), H', ⟨by have := HK1.out; have := HK2.out; omega⟩, by repeat (first | exact Drawn0.refl _ | apply Drawn0.step)⟩
     ·rw [if_neg c4] at H
      exact absurd H (by simp)
    ·rw [if_neg c3] at H
     exact absurd H (by simp)
   ·rw [if_neg c2] at H
    have c2b0 : decide (x9_1 < (l0.length : Int)) = false := decide_eq_false c2
    clear c2
    obtain rfl := Option.some.inj H
    go_wp2
    go_ret
    exact ⟨by first | rfl | (simp; done) | (simp [*]; done), by repeat (first | exact Drawn0.refl _ | apply Drawn0.step)⟩
mutual
def graph_Turn.l0 : Nat → List (List Int) → List (List Int) → Int → Int → Option ((List (List Int)))
  | 0, _, _, _, _ => none
  | k + 1, x3, x14, x15, x16 => if x16 < x15 then (if 0 ≤ x16 then (if x16 < (x14.length : Int) then (graph_Turn.l1 k x3 x16 x14 x15 x16 (rd_L1 x14 x16) ((rd_L1 x14 x16).length : Int) 0) else (none)) else (none)) else (some x3)
def graph_Turn.l1 : Nat → List (List Int) → Int → List (List Int) → Int → Int → List Int → Int → Int → Option ((List (List Int)))
  | 0, _, _, _, _, _, _, _, _ => none
  | k + 1, x3, x4, x14, x15, x16, x21, x22, x23 => if x23 < x22 then (if 0 ≤ x23 then (if x23 < (x21.length : Int) then (if 0 ≤ (rd x21 x23) then (if (rd x21 x23) < (x3.length : Int) then (if (rd_L1 x3 (rd x21 x23)).length < 17592186044416 then (graph_Turn.l1 k (x3.set ((rd x21 x23) : Int).toNat ((rd_L1 x3 (rd x21 x23)) ++ [x4])) x4 x14 x15 x16 x21 x22 (wrap64 (x23 + 1))) else (none)) else (none)) else (none)) else (none)) else (none)) else (graph_Turn.l0 k x3 x14 x15 (wrap64 (x16 + 1)))
end
def graph_Turn.f (k : Nat) (l0 : List (List Int)) : Option ((List (List Int))) := (graph_May.f k l0).bind fun t159 => (if t159 = true then (if 0 ≤ (l0.length : Int) then (if ((l0.length : Int) : Int).toNat ≤ 11728124029610 then (graph_Turn.l0 k (List.replicate ((l0.length : Int) : Int).toNat []) l0 (l0.length : Int) 0) else (none)) else (none)) else (some ([] : List (List Int))))
set_option maxHeartbeats 8000000 in
set_option maxRecDepth 100000 in
theorem graph_Turn.calls (k : Nat) (A0 : Option Addr) (c0 : Nat) (l0 : List (List Int)) (r : List (List Int)) (w : World) (hr0 : Kd.C (Kd.slice 3 (Kd.int .i64)) w A0 l0.length l0) (hc0 : l0.length ≤ c0) (h : graph_Turn.f k l0 = some r) :
    Calls Try.prog 24 #[.slice A0 l0.length c0] w fun e w' => ∃ v0_ : Value, e = .returned (v0_) ∧ Kd.S (Kd.slice 3 (Kd.int .i64)) 26 w' w.heap.size (fun _ => True) v0_ r ∧ Below w.heap.size w w' := by
 have HR0 := Aside0.mk hr0
 have HC0 := Aside0.mk hc0
 clear hr0 hc0
 have HB := Aside0.mk (Below.refl w.heap.size w)
 have H : ((graph_May.f k l0).bind fun t159 => (if t159 = true then (if 0 ≤ (l0.length : Int) then (if ((l0.length : Int) : Int).toNat ≤ 11728124029610 then (graph_Turn.l0 k (List.replicate ((l0.length : Int) : Int).toNat []) l0 (l0.length : Int) 0) else (none)) else (none)) else (some ([] : List (List Int))))) = some r := h
 clear h
 replace H := Option.bind_eq_some_iff.mp H
 obtain ⟨t159, A20, H⟩ := H
 replace H : (if t159 = true then (if 0 ≤ (l0.length : Int) then (if ((l0.length : Int) : Int).toNat ≤ 11728124029610 then (graph_Turn.l0 k (List.replicate ((l0.length : Int) : Int).toNat []) l0 (l0.length : Int) 0) else (none)) else (none)) else (some ([] : List (List Int)))) = some r := H
 have A2 := Aside0.mk A20
 clear A20
 by_cases c3 : t159 = true
 ·subst c3
  have H1 : (if 0 ≤ (l0.length : Int) then (if ((l0.length : Int) : Int).toNat ≤ 11728124029610 then (graph_Turn.l0 k (List.replicate ((l0.length : Int) : Int).toNat []) l0 (l0.length : Int) 0) else (none)) else (none)) = some r := by rw [if_pos rfl] at H; exact H
  clear H
  have H := H1
  clear H1
  by_cases c4 : 0 ≤ (l0.length : Int)
  ·rw [if_pos c4] at H
   have c4b0 := eq_true c4
   have c4b1 : decide (0 ≤ (l0.length : Int)) = true := decide_eq_true c4
   clear c4
   by_cases c5 : ((l0.length : Int) : Int).toNat ≤ 11728124029610
   ·rw [if_pos c5] at H
    have c5b0 := eq_true c5
    have c5b1 : decide (((l0.length : Int) : Int).toNat ≤ 11728124029610) = true := decide_eq_true c5
    clear c5
    obtain ⟨y160, hy160⟩ : ∃ y_ : List (List Int), y_ = (List.replicate ((l0.length : Int) : Int).toNat []) := ⟨_, rfl⟩
    replace H : (graph_Turn.l0 k y160 l0 (l0.length : Int) 0) = some r := by first | (rw [hy160]; with_reducible exact H) | (have H2_ := (Option.bind_some _ _).symm.trans H; rw [hy160]; with_reducible exact H2_) | (have H2_ := (Option.bind_some _ _).symm.trans H; with_reducible exact H2_) | with_reducible exact H | (rw [hy160]; exact H) | exact H
    have Ny160 := Aside0.mk hy160
    clear hy160
    have H' := Aside0.mk H
    clear H
    go_enter Try.func24, Try.ntmps24
    go_wp2_with (first | ((with_reducible refine gate_callee (f := 21) rfl ?_); refine goesL_ (some 9) rfl rfl Try.func21 (by kernel_rfl) rfl #[.slice A0 l0.length c0] rfl (by (try simp only [List.map_toArray, List.map_cons, List.map_nil]); first | done | rfl | (simp only [List.length_drop, List.length_take]; rfl)) ?_; (with_reducible refine (graph_May.calls k _ _ l0 true _ ?side1 ?side2 A2.out).mono ?_); (case side1 => repeat (first | exact HR0.out | (with_reducible refine Kd.C_alloc ?_ _) | (with_reducible refine Kd.C_drewN ?_ _) | (with_reducible refine Kd.C_drew ?_))); (case side2 => exact HC0.out); rintro e w' ⟨rfl, ⟨nd, rfl⟩⟩; refine ⟨_, rfl, ?_⟩) | ((with_reducible refine gate_dst (N := 13) rfl ?_); refine Kd.S_make (Kd.slice 3 (Kd.int .i64)) _ 26 rfl (N := 13) rfl 22 _ _ rfl (l0.length : Int) rfl rfl Try.underlying22 (.slice none 0 0) 24 info26 rfl (by decide) (by omega) [] (ok := fun _ => True) (okp := fun _ => True) ⟨_, rfl, Kd.R_nil _ _ _ _ _⟩ (fun _ hk => hk) trivial (of_decide_eq_true (by first | (with_reducible assumption) | assumption)) (Nat.le_trans (Nat.mul_le_mul_right _ (of_decide_eq_true (by first | (with_reducible assumption) | assumption) : (l0.length : Int).toNat ≤ 11728124029610)) (by omega)) (Below.refl _ _) (Nat.le_refl _) ?_; intro v161 w6 ho7 hb hg_ hnew_; clear hg_ hnew_; (first | rw [← Ny160.out] at ho7 | (simp only [Int.reduceToNat] at ho7; rw [← Ny160.out] at ho7)); have n0_ := Aside0.mk (Kd.S_lower ho7 (below_size (by repeat (first | (with_reducible first | exact HB.out | apply below_alloc | apply pw_below_drewN | apply below_drew1) | exact HB.out)))); have n1_ := Aside0.mk (below_step (by repeat (first | (with_reducible first | exact HB.out | apply below_alloc | apply pw_below_drewN | apply below_drew1) | exact HB.out)) hb); clear HB; have HO162 := n0_; have HB := n1_; clear n0_ n1_; clear hb ho7))
    go_loopg [16] k (fun kq v16 w' => ∃ (x3_1 : List (List Int)) (x16_1 : Int), v16 = .int .i64 x16_1 ∧ Aside0 (graph_Turn.l0 kq x3_1 l0 (l0.length : Int) x16_1 = some r) ∧ Aside0 (kq ≤ k) ∧ Aside0 (Kd.S (Kd.slice 3 (Kd.int .i64)) 26 w' w.heap.size (fun _ => True) v161 x3_1) ∧ Aside0 (Below w.heap.size w w'))
    case atStart => exact ⟨(y160), (0), (by first | rfl | (simp; done) | (simp [*]; done)), H', ⟨Nat.le_refl _⟩, ⟨by (with_reducible repeat (first | apply Kd.S_alloc | apply Kd.S_drewN | apply Kd.S_drew)); exact HO162.out⟩, ⟨by repeat (first | (with_reducible first | exact HB.out | apply below_alloc | apply pw_below_drewN | apply below_drew1) | exact HB.out)⟩⟩
    case round =>
     clear H'
     try clear c2
     try clear p2
     try clear c3
     try clear c4
     try clear c4b0
     try clear c4b1
     try clear c5
     try clear c5b0
     try clear c5b1
     obtain ⟨x3_1, x16_1, rfl, HA, HK1, HO_3, HB⟩ := hrel
     cases gk with
     | zero => exact absurd HA.out (by simp [graph_Turn.l0])
     | succ k1 =>
      have H := HA.out
      clear HA
      simp only [graph_Turn.l0] at H
      by_cases c8 : x16_1 < (l0.length : Int)
      ·rw [if_pos c8] at H
       have c8b0 : decide (x16_1 < (l0.length : Int)) = true := decide_eq_true c8
       clear c8
       by_cases c9 : 0 ≤ x16_1
       ·rw [if_pos c9] at H
        have c9b0 : decide (0 ≤ x16_1) = true := decide_eq_true c9
        clear c9
        by_cases c10 : x16_1 < (l0.length : Int)
        ·rw [if_pos c10] at H
         have c10b0 : decide (x16_1 < (l0.length : Int)) = true := decide_eq_true c10
         clear c10
         have H' := Aside0.mk H
         clear H
         have p163 : 0 ≤ (x16_1 : Int) := of_decide_eq_true (by first | (with_reducible assumption) | assumption)
         have q163 : x16_1 < (l0.length : Int) := of_decide_eq_true (by first | (with_reducible assumption) | assumption)
         obtain ⟨ad163, A163_0, c163_0, e163, hx163_0, hl163_0, hi163_0⟩ := at_L1 HR0.out x16_1 p163 q163
         cases e163
         replace hx163_0 := (HB.out.cell (World.block_lt_of_cell? w _ hx163_0)).trans hx163_0
         have HR163_0 := Aside0.mk hi163_0
         have HC163_0 := Aside0.mk hl163_0
         clear hi163_0 hl163_0
         replace p163 := eq_true p163
         replace q163 := eq_true q163
         go_wp2
         go_loopg [23] k1 (fun kq v23 w' => ∃ (x3_2 : List (List Int)) (x23_2 : Int), v23 = .int .i64 x23_2 ∧ Aside0 (graph_Turn.l1 kq x3_2 x16_1 l0 (l0.length : Int) x16_1 (rd_L1 l0 x16_1) ((rd_L1 l0 x16_1).length : Int) x23_2 = some r) ∧ Aside0 (kq ≤ k1) ∧ Aside0 (Kd.S (Kd.slice 3 (Kd.int .i64)) 26 w' w.heap.size (fun _ => True) v161 x3_2) ∧ Aside0 (Below w.heap.size w w'))
         case atStart => exact ⟨(x3_1), (0), (by first | rfl | (simp; done) | (simp [*]; done)), H', ⟨Nat.le_refl _⟩, ⟨by (with_reducible repeat (first | apply Kd.S_alloc | apply Kd.S_drewN | apply Kd.S_drew)); exact HO_3.out⟩, ⟨by repeat (first | (with_reducible first | exact HB.out | apply below_alloc | apply pw_below_drewN | apply below_drew1) | exact HB.out)⟩⟩
         case round =>
          clear H'
          try clear c1
          try clear p1
          try clear q1
          try clear hx1
          try clear c2
          try clear p2
          try clear c3
          try clear c4
          try clear c4b0
          try clear c4b1
          try clear c5
          try clear c5b0
          try clear c5b1
          try clear c8
          try clear c8b0
          try clear c9
          try clear c9b0
          try clear c10
          try clear c10b0
          try clear hx163_0
          try clear p163
          try clear p2
          try clear q163
          obtain ⟨x3_2, x23_2, rfl, HA, HK2, HO_3, HB⟩ := hrel
          cases gk with
          | zero => exact absurd HA.out (by simp [graph_Turn.l1])
          | succ k2 =>
           have H := HA.out
           clear HA
           simp only [graph_Turn.l1] at H
           by_cases c11 : x23_2 < ((rd_L1 l0 x16_1).length : Int)
           ·rw [if_pos c11] at H
            have c11b0 : decide (x23_2 < ((rd_L1 l0 x16_1).length : Int)) = true := decide_eq_true c11
            clear c11
            by_cases c12 : 0 ≤ x23_2
            ·rw [if_pos c12] at H
             have c12b0 : decide (0 ≤ x23_2) = true := decide_eq_true c12
             clear c12
             by_cases c13 : x23_2 < ((rd_L1 l0 x16_1).length : Int)
             ·rw [if_pos c13] at H
              have c13b0 : decide (x23_2 < ((rd_L1 l0 x16_1).length : Int)) = true := decide_eq_true c13
              clear c13
              by_cases c14 : 0 ≤ (rd (rd_L1 l0 x16_1) x23_2)
              ·rw [if_pos c14] at H
               have c14b0 : decide (0 ≤ (rd (rd_L1 l0 x16_1) x23_2)) = true := decide_eq_true c14
               clear c14
               by_cases c15 : (rd (rd_L1 l0 x16_1) x23_2) < (x3_2.length : Int)
               ·rw [if_pos c15] at H
                have c15b0 : decide ((rd (rd_L1 l0 x16_1) x23_2) < (x3_2.length : Int)) = true := decide_eq_true c15
                clear c15
                by_cases c16 : (rd_L1 x3_2 (rd (rd_L1 l0 x16_1) x23_2)).length < 17592186044416
                ·rw [if_pos c16] at H
                 have LMc16 := Aside0.mk c16
                 clear c16
                 obtain ⟨y166, hy166⟩ : ∃ y_ : List Int, y_ = ((rd_L1 x3_2 (rd (rd_L1 l0 x16_1) x23_2)) ++ [x16_1]) := ⟨_, rfl⟩
                 replace H : (graph_Turn.l1 k2 (x3_2.set ((rd (rd_L1 l0 x16_1) x23_2) : Int).toNat y166) x16_1 l0 (l0.length : Int) x16_1 (rd_L1 l0 x16_1) ((rd_L1 l0 x16_1).length : Int) (wrap64 (x23_2 + 1))) = some r := by first | (rw [hy166]; with_reducible exact H) | (have H2_ := (Option.bind_some _ _).symm.trans H; rw [hy166]; with_reducible exact H2_) | (have H2_ := (Option.bind_some _ _).symm.trans H; with_reducible exact H2_) | with_reducible exact H | (rw [hy166]; exact H) | exact H
                 have Ny166 := Aside0.mk hy166
                 clear hy166
                 obtain ⟨y169, hy169⟩ : ∃ y_ : List (List Int), y_ = (x3_2.set ((rd (rd_L1 l0 x16_1) x23_2) : Int).toNat y166) := ⟨_, rfl⟩
                 replace H : (graph_Turn.l1 k2 y169 x16_1 l0 (l0.length : Int) x16_1 (rd_L1 l0 x16_1) ((rd_L1 l0 x16_1).length : Int) (wrap64 (x23_2 + 1))) = some r := by first | (rw [hy169]; with_reducible exact H) | (have H2_ := (Option.bind_some _ _).symm.trans H; rw [hy169]; with_reducible exact H2_) | (have H2_ := (Option.bind_some _ _).symm.trans H; with_reducible exact H2_) | with_reducible exact H | (rw [hy169]; exact H) | exact H
                 have Ny169 := Aside0.mk hy169
                 clear hy169
                 have H' := Aside0.mk H
                 clear H
                 have p164 : 0 ≤ (x23_2 : Int) := of_decide_eq_true (by first | (with_reducible assumption) | assumption)
                 have q164 : x23_2 < ((rd_L1 l0 x16_1).length : Int) := of_decide_eq_true (by first | (with_reducible assumption) | assumption)
                 obtain ⟨ad164, e164, hx164_0⟩ := Kd.at_int HR163_0.out x23_2 p164 q164
                 cases e164
                 replace hx164_0 := (HB.out.cell (World.block_lt_of_cell? w _ hx164_0)).trans hx164_0
                 replace p164 := eq_true p164
                 replace q164 := eq_true q164
                 obtain ⟨Ao18, co18, eo18⟩ := Kd.S_slice HO_3.out
                 subst eo18
                 have p165 : 0 ≤ ((rd (rd_L1 l0 x16_1) x23_2) : Int) := of_decide_eq_true (by first | (with_reducible assumption) | assumption)
                 have q165 : (rd (rd_L1 l0 x16_1) x23_2) < (x3_2.length : Int) := of_decide_eq_true (by first | (with_reducible assumption) | assumption)
                 obtain ⟨ad165, A165_0, c165_0, e165, hx165_0, hl165_0, hi165_0⟩ := at_L1 (Kd.S_reads' HO_3.out).2.2 (rd (rd_L1 l0 x16_1) x23_2) p165 q165
                 cases e165
                 obtain ⟨ce165, hce165, hMe165, hcc165⟩ := Kd.S_get HO_3.out [] (rd (rd_L1 l0 x16_1) x23_2) p165 (by first | exact q165 | exact of_decide_eq_true (by first | (with_reducible assumption) | assumption) | (have e_ := (Kd.S_reads' HO_3.out).1; omega))
                 obtain ⟨ve165_0, rfl, ge165_0⟩ := hMe165
                 have hv165_0 := hcc165 0 _ rfl
                 rw [Nat.add_zero, show ((Kd.slice 3 (Kd.int .i64))).sz = 1 from rfl, Nat.mul_one] at hv165_0
                 replace hv165_0 := Option.some.inj (hv165_0.symm.trans hx165_0)
                 rw [hv165_0] at ge165_0
                 have HL165_0 := Aside0.mk (show Kd.R (Kd.int .i64) 3 _ _ _ _ (rd_L1 x3_2 (rd (rd_L1 l0 x16_1) x23_2)) from ge165_0)
                 clear hv165_0 ge165_0
                 have HX165_0 := Aside0.mk hx165_0
                 clear hcc165 hce165
                 have HR165_0 := Aside0.mk hi165_0
                 have HC165_0 := Aside0.mk hl165_0
                 clear hi165_0 hl165_0
                 replace p165 := eq_true p165
                 replace q165 := eq_true q165
                 obtain ⟨go19, co19, eo19, gb19, gl19, cl19, HG19⟩ := Kd.S_form HO_3.out (by have h_ : ((rd (rd_L1 l0 x16_1) x23_2) : Int) < ((x3_2.length : Int) : Int) := of_decide_eq_true (by first | (with_reducible assumption) | assumption); have h2_ : 0 ≤ ((rd (rd_L1 l0 x16_1) x23_2) : Int) := (of_decide_eq_true (by first | (with_reducible assumption) | assumption)); omega)
                 (first | cases eo19 | (injection eo19 with ea_ en_ ec_; (first | subst ea_ | (injection ea_ with ea_; subst ea_)); subst ec_; clear en_))
                 have GB19 := Aside0.mk gb19
                 have GG19 := Aside0.mk HG19
                 clear gb19 gl19 HG19
                 (first | simp only [add_plain] at hx165_0 | skip)
                 obtain ⟨oki19, ce19, hcl19, hM19, hcc19, _, _, hH19⟩ := Kd.S_elem HO_3.out [] ((rd (rd_L1 l0 x16_1) x23_2) : Int) (of_decide_eq_true (by first | (with_reducible assumption) | assumption)) (by have h_ : ((rd (rd_L1 l0 x16_1) x23_2) : Int) < ((x3_2.length : Int) : Int) := of_decide_eq_true (by first | (with_reducible assumption) | assumption); first | exact h_ | (have e_ := (Kd.S_reads' HO_3.out).1; omega) | simpa using h_)
                 obtain ⟨ve19_0, rfl, ge19_0⟩ := hM19
                 have hv19 := hcc19 0 _ rfl
                 have hX19 := HX165_0.out
                 (try simp only [add_plain] at hX19)
                 (try simp only [Nat.add_zero] at hv19)
                 (try rw [show ((Kd.slice 3 (Kd.int .i64))).sz = 1 from rfl, Nat.mul_one] at hv19)
                 replace hv19 := Option.some.inj (hv19.symm.trans hX19)
                 subst hv19
                 clear hX19 hcc19 hcl19
                 have UU19 := Aside0.mk (show Kd.R (Kd.int .i64) 3 _ w.heap.size oki19 (.slice A165_0 (rd_L1 x3_2 (rd (rd_L1 l0 x16_1) x23_2)).length c165_0) (rd_L1 x3_2 (rd (rd_L1 l0 x16_1) x23_2)) from ge19_0)
                 have HH19 := Aside0.mk hH19
                 have HN19 := Aside0.mk (Kd.S_reads' HO_3.out).1
                 clear hH19 ge19_0
                 go_wp2_with (first | ((with_reducible refine gate_builtin (b := .append) (xs := #[.tmp 32, .tmp 34]) rfl ?_); at_builtin; refine Kd.R_append (Kd.int .i64) (w0 := w) w.heap.size rfl (.tmp 32) (.tmp 34) 26 3 (.int .i64 0) 8 rfl Try.underlying26 info3 rfl (by decide) (by omega) (.slice A165_0 (rd_L1 x3_2 (rd (rd_L1 l0 x16_1) x23_2)).length c165_0) (rd_L1 x3_2 (rd (rd_L1 l0 x16_1) x23_2)) x16_1 [.int .i64 x16_1] (fun k_ => oki19 k_ ∨ ((fun _ => True)) k_ ∧ wr.heap.size ≤ k_) (fun _ => False) rfl rfl ?aP (fun _ hk => hk.elim) ?aF ?aO ?aB ?aS ?aL ?_; (case aP => exact rfl); (case aB => exact (by repeat (first | (with_reducible first | exact HB.out | apply below_alloc | apply pw_below_drewN | apply below_drew1) | exact HB.out))); (case aF => exact (fun k_ hk => .inr ⟨trivial, hk⟩)); (case aO => exact (by (with_reducible repeat (first | apply Kd.R_alloc | apply Kd.R_drewN | apply Kd.R_drew)); exact Kd.R_mono UU19.out (fun _ hk => .inl hk))); (case aS => exact (below_size (by repeat (first | (with_reducible first | exact HB.out | apply below_alloc | apply pw_below_drewN | apply below_drew1) | exact HB.out)))); (case aL => have := LMc16.out; omega); intro v167 w20 ho hb hg hat; rw [← Ny166.out] at ho; have n0_ := Aside0.mk (hb); have n1_ := Aside0.mk (Kd.H_grown (Kd.H_widen (by repeat (first | exact HH19.out | refine Kd.H_alloc ?_ _ | refine Kd.H_drewN ?_ _ | refine Kd.H_drew ?_))) hg (fun k_ e_ => .inl (UU19.out.1 k_ e_))); have n2_ := Aside0.mk (ho); clear HB; clear HH19; clear HO_3; clear UU19; clear HL165_0; have HB := n0_; have HH19 := n1_; have HO168 := n2_; clear n0_ n1_ n2_; clear ho hb hg hat; have p17 : 0 ≤ ((rd (rd_L1 l0 x16_1) x23_2) : Int) := of_decide_eq_true (by first | (with_reducible assumption) | assumption); have q17 : ((rd (rd_L1 l0 x16_1) x23_2) : Int) < ((x3_2.length : Int) : Int) := of_decide_eq_true (by first | (with_reducible assumption) | assumption); replace p17 := eq_true p17; replace q17 := eq_true q17; obtain ⟨Ao23, co23, eo23⟩ := Kd.R_slice HO168.out; subst eo23; obtain ⟨_, _, hraw21, _, _, hcc21, _⟩ := Kd.H_raw HH19.out (of_decide_eq_true (by first | (with_reducible assumption) | assumption)) (by have h_ : ((rd (rd_L1 l0 x16_1) x23_2) : Int) < ((x3_2.length : Int) : Int) := of_decide_eq_true (by first | (with_reducible assumption) | assumption); first | exact h_ | (have e_ := (HN19.out); omega) | simpa using h_); obtain ⟨_, hfr21⟩ := Kd.H_at HH19.out (of_decide_eq_true (by first | (with_reducible assumption) | assumption)) (by have h_ : ((rd (rd_L1 l0 x16_1) x23_2) : Int) < ((x3_2.length : Int) : Int) := of_decide_eq_true (by first | (with_reducible assumption) | assumption); first | exact h_ | (have e_ := (HN19.out); omega) | simpa using h_); have hx21_0 := hcc21 0 _ rfl; have hf21_0 := hfr21 0; (try simp only [Nat.add_zero] at hx21_0 hf21_0); (try rw [show ((Kd.slice 3 (Kd.int .i64))).sz = 1 from rfl, Nat.mul_one] at hx21_0); (try rw [show ((Kd.slice 3 (Kd.int .i64))).sz = 1 from rfl, Nat.mul_one] at hf21_0); have HP21 := Kd.S_seg0 HH19.out (of_decide_eq_true (by first | (with_reducible assumption) | assumption)) (by have h_ : ((rd (rd_L1 l0 x16_1) x23_2) : Int) < ((x3_2.length : Int) : Int) := of_decide_eq_true (by first | (with_reducible assumption) | assumption); first | exact h_ | (have e_ := (HN19.out); omega) | simpa using h_) (seg := [.slice Ao23 y166.length co23]) (j := 0) (show 1 ≤ 1 from by decide) (x' := y166) (Kd.M_row HO168.out) (fun _ hk => hk); (try simp only [show ((Kd.slice 3 (Kd.int .i64))).sz = 1 from rfl, Nat.mul_one, Nat.add_zero] at HP21); clear hcc21 hfr21) | ((with_reducible refine gate_store (t := 26) (p := 36) rfl ?_); refine store_event (t := 26) (p := 36) (v := ?vo_w22) (w1 := (w20.setCell ⟨go19, ((rd (rd_L1 l0 x16_1) x23_2) : Int).toNat, none⟩ (.slice Ao23 y166.length co23))) ?hg ?ho ?hn ?hr ?_; (case ho => rfl); (case hg => rfl); (case hn => rfl); (case hr => first | (go_simp; done) | (go_simp; rfl)); intro w22 hw; have hg : w20.grownBy w22 (some go19) := (by rw [hw]; exact HP21.2); have hp_ : Kd.S (Kd.slice 3 (Kd.int .i64)) 26 w22 w.heap.size (fun _ => True) (.slice (some ⟨go19, 0, none⟩) x3_2.length co18) y169 := (by rw [hw, Ny169.out]; exact HP21.1); clear HP21; have n0_ := Aside0.mk ((by rw [hw]; exact below_set HB.out GB19.out : Below w.heap.size w w22)); have n1_ := Aside0.mk (hp_); clear HB; clear HO168; clear HH19; have HB := n0_; have HO_3 := n1_; clear n0_ n1_; clear hg hw hp_ hraw21))
                 go_roundg k2
                 case measure => have := HK1.out; have := HK2.out; omega
                 case rel => exact ⟨(y169), (wrap64 (x23_2 + 1)), (by first | rfl | (simp; done) | (simp [*]; done)), H', ⟨by have := HK1.out; have := HK2.out; omega⟩, ⟨by (with_reducible repeat (first | apply Kd.S_alloc | apply Kd.S_drewN | apply Kd.S_drew)); exact HO_3.out⟩, ⟨by repeat (first | (with_reducible first | exact HB.out | apply below_alloc | apply pw_below_drewN | apply below_drew1) | exact HB.out)⟩⟩
                ·rw [if_neg c16] at H
                 exact absurd H (by simp)
               ·rw [if_neg c15] at H
                exact absurd H (by simp)
              ·rw [if_neg c14] at H
               exact absurd H (by simp)
             ·rw [if_neg c13] at H
              exact absurd H (by simp)
            ·rw [if_neg c12] at H
             exact absurd H (by simp)
           ·rw [if_neg c11] at H
            have c11b0 : decide (x23_2 < ((rd_L1 l0 x16_1).length : Int)) = false := decide_eq_false c11
            clear c11
            have H' := Aside0.mk H
            clear H
            go_wp2
            go_roundg k2
            case measure => have := HK1.out; have := HK2.out; omega
            case rel => exact ⟨(x3_2), (wrap64 (x16_1 + 1)), (by first | rfl | (simp; done) | (simp [*]; done)), H', ⟨by have := HK1.out; have := HK2.out; omega⟩, ⟨by (with_reducible repeat (first | apply Kd.S_alloc | apply Kd.S_drewN | apply Kd.S_drew)); exact HO_3.out⟩, ⟨by repeat (first | (with_reducible first | exact HB.out | apply below_alloc | apply pw_below_drewN | apply below_drew1) | exact HB.out)⟩⟩
        ·rw [if_neg c10] at H
         exact absurd H (by simp)
       ·rw [if_neg c9] at H
        exact absurd H (by simp)
      ·rw [if_neg c8] at H
       have c8b0 : decide (x16_1 < (l0.length : Int)) = false := decide_eq_false c8
       clear c8
       obtain rfl := Option.some.inj H
       go_wp2
       go_ret
       exact ⟨_, by first | rfl | (simp [errW_none, errW_some] <;> rfl) | (simp [*, errW_none, errW_some] <;> rfl), by (with_reducible repeat (first | apply Kd.S_alloc | apply Kd.S_drewN | apply Kd.S_drew)); exact HO_3.out, by repeat (first | (with_reducible first | exact HB.out | apply below_alloc | apply pw_below_drewN | apply below_drew1) | exact HB.out)⟩
   ·rw [if_neg c5] at H
    exact absurd H (by simp)
  ·rw [if_neg c4] at H
   exact absurd H (by simp)
 ·replace c3 := Bool.eq_false_iff.mpr c3
  subst c3
  have H1 : (some ([] : List (List Int))) = some r := by rw [if_neg (show ¬ (false = true) by decide)] at H; exact H
  clear H
  have H := H1
  clear H1
  obtain rfl := Option.some.inj H
  go_enter Try.func24, Try.ntmps24
  go_wp2_with (first | ((with_reducible refine gate_callee (f := 21) rfl ?_); refine goesL_ (some 9) rfl rfl Try.func21 (by kernel_rfl) rfl #[.slice A0 l0.length c0] rfl (by (try simp only [List.map_toArray, List.map_cons, List.map_nil]); first | done | rfl | (simp only [List.length_drop, List.length_take]; rfl)) ?_; (with_reducible refine (graph_May.calls k _ _ l0 false _ ?side1 ?side2 A2.out).mono ?_); (case side1 => repeat (first | exact HR0.out | (with_reducible refine Kd.C_alloc ?_ _) | (with_reducible refine Kd.C_drewN ?_ _) | (with_reducible refine Kd.C_drew ?_))); (case side2 => exact HC0.out); rintro e w' ⟨rfl, ⟨nd, rfl⟩⟩; refine ⟨_, rfl, ?_⟩))
  go_ret
  exact ⟨_, by first | rfl | (simp [errW_none, errW_some] <;> rfl) | (simp [*, errW_none, errW_some] <;> rfl), by first | exact Kd.S_nil _ _ _ _ _ | exact Kd.N_nil _ _ _ _ _ | exact Kd.V_nil _ _ _ _ _ | exact Kd.Q_nil _ _ _ _ _ | exact Kd.R_nil _ _ _ _ _, by repeat (first | (with_reducible first | exact HB.out | apply below_alloc | apply pw_below_drewN | apply below_drew1) | exact HB.out)⟩
def r13_Knot.f (k : Nat) (l0 : List (List Int)) (a1 : Int) (a2 : Int) : Option (Bool) := if 0 ≤ a1 then (if a1 < (l0.length : Int) then ((r12_Has.f k (rd_L1 l0 a1) a2).bind fun t171 => (if t171 = true then (if 0 ≤ a2 then (if a2 < (l0.length : Int) then ((r12_Has.f k (rd_L1 l0 a2) a1).bind fun t173 => (some t173)) else (none)) else (none)) else (some false))) else (none)) else (none)
set_option maxHeartbeats 8000000 in
set_option maxRecDepth 100000 in
theorem r13_Knot.calls (k : Nat) (A0 : Option Addr) (c0 : Nat) (l0 : List (List Int)) (a1 : Int) (a2 : Int) (r : Bool) (w : World) (hr0 : Kd.C (Kd.slice 3 (Kd.int .i64)) w A0 l0.length l0) (hc0 : l0.length ≤ c0) (h : r13_Knot.f k l0 a1 a2 = some r) :
    Calls Try.prog 30 #[.slice A0 l0.length c0, .int .i64 a1, .int .i64 a2] w fun e w' => e = .returned (.bool r) ∧ Drawn0 w w' := by
 have HR0 := Aside0.mk hr0
 have HC0 := Aside0.mk hc0
 clear hr0 hc0
 have H : (if 0 ≤ a1 then (if a1 < (l0.length : Int) then ((r12_Has.f k (rd_L1 l0 a1) a2).bind fun t171 => (if t171 = true then (if 0 ≤ a2 then (if a2 < (l0.length : Int) then ((r12_Has.f k (rd_L1 l0 a2) a1).bind fun t173 => (some t173)) else (none)) else (none)) else (some false))) else (none)) else (none)) = some r := h
 clear h
 by_cases c4 : 0 ≤ a1
 ·rw [if_pos c4] at H
  have c4b0 : decide (0 ≤ a1) = true := decide_eq_true c4
  clear c4
  by_cases c5 : a1 < (l0.length : Int)
  ·rw [if_pos c5] at H
   have c5b0 : decide (a1 < (l0.length : Int)) = true := decide_eq_true c5
   clear c5
   replace H := Option.bind_eq_some_iff.mp H
   obtain ⟨t171, A60, H⟩ := H
   replace H : (if t171 = true then (if 0 ≤ a2 then (if a2 < (l0.length : Int) then ((r12_Has.f k (rd_L1 l0 a2) a1).bind fun t173 => (some t173)) else (none)) else (none)) else (some false)) = some r := H
   have A6 := Aside0.mk A60
   clear A60
   by_cases c7 : t171 = true
   ·subst c7
    have H1 : (if 0 ≤ a2 then (if a2 < (l0.length : Int) then ((r12_Has.f k (rd_L1 l0 a2) a1).bind fun t173 => (some t173)) else (none)) else (none)) = some r := by rw [if_pos rfl] at H; exact H
    clear H
    have H := H1
    clear H1
    by_cases c8 : 0 ≤ a2
    ·rw [if_pos c8] at H
     have c8b0 : decide (0 ≤ a2) = true := decide_eq_true c8
     clear c8
     by_cases c9 : a2 < (l0.length : Int)
     ·rw [if_pos c9] at H
      have c9b0 : decide (a2 < (l0.length : Int)) = true := decide_eq_true c9
      clear c9
      replace H := Option.bind_eq_some_iff.mp H
      obtain ⟨t173, A100, H⟩ := H
      replace H : (some t173) = some r := H
      have A10 := Aside0.mk A100
      clear A100
      obtain rfl := Option.some.inj H
      have p170 : 0 ≤ (a1 : Int) := of_decide_eq_true (by first | (with_reducible assumption) | assumption)
      have q170 : a1 < (l0.length : Int) := of_decide_eq_true (by first | (with_reducible assumption) | assumption)
      obtain ⟨ad170, A170_0, c170_0, e170, hx170_0, hl170_0, hi170_0⟩ := at_L1 HR0.out a1 p170 q170
      cases e170
      have HR170_0 := Aside0.mk hi170_0
      have HC170_0 := Aside0.mk hl170_0
      clear hi170_0 hl170_0
      replace p170 := eq_true p170
      replace q170 := eq_true q170
      go_enter Try.func30, Try.ntmps30
      go_wp2_with (first | ((with_reducible refine gate_callee (f := 18) rfl ?_); refine goesL_ (some 12) rfl rfl Try.func18 (by kernel_rfl) rfl #[.slice A170_0 (rd_L1 l0 a1).length c170_0, .int .i64 a2] rfl (by (try simp only [List.map_toArray, List.map_cons, List.map_nil]); first | done | rfl | (simp only [List.length_drop, List.length_take]; rfl)) ?_; (with_reducible refine (r12_Has.calls k _ _ (rd_L1 l0 a1) a2 true _ ?side1 ?side2 A6.out).mono ?_); (case side1 => repeat (first | exact HR170_0.out | (with_reducible refine Kd.C_alloc ?_ _) | (with_reducible refine Kd.C_drewN ?_ _) | (with_reducible refine Kd.C_drew ?_))); (case side2 => exact HC170_0.out); rintro e w' ⟨rfl, ⟨nd, rfl⟩⟩; refine ⟨_, rfl, ?_⟩; have p172 : 0 ≤ (a2 : Int) := of_decide_eq_true (by first | (with_reducible assumption) | assumption); have q172 : a2 < (l0.length : Int) := of_decide_eq_true (by first | (with_reducible assumption) | assumption); obtain ⟨ad172, A172_0, c172_0, e172, hx172_0, hl172_0, hi172_0⟩ := at_L1 HR0.out a2 p172 q172; obtain rfl : ad170 = ad172 := (by injection e172); have HR172_0 := Aside0.mk hi172_0; have HC172_0 := Aside0.mk hl172_0; clear hi172_0 hl172_0; replace p172 := eq_true p172; replace q172 := eq_true q172) | (go_at_call 18; (with_reducible refine (r12_Has.calls k _ _ (rd_L1 l0 a2) a1 t173 _ ?side1 ?side2 A10.out).mono ?_); (case side1 => repeat (first | exact HR172_0.out | (with_reducible refine Kd.C_alloc ?_ _) | (with_reducible refine Kd.C_drewN ?_ _) | (with_reducible refine Kd.C_drew ?_))); (case side2 => exact HC172_0.out); rintro e w' ⟨rfl, ⟨nd, rfl⟩⟩))
      go_ret
      exact ⟨by first | rfl | (simp; done) | (simp [*]; done), by repeat (first | exact Drawn0.refl _ | apply Drawn0.step)⟩
     ·rw [if_neg c9] at H
      exact absurd H (by simp)
    ·rw [if_neg c8] at H
     exact absurd H (by simp)
   ·replace c7 := Bool.eq_false_iff.mpr c7
    subst c7
    have H1 : (some false) = some r := by rw [if_neg (show ¬ (false = true) by decide)] at H; exact H
    clear H
    have H := H1
    clear H1
    obtain rfl := Option.some.inj H
    have p170 : 0 ≤ (a1 : Int) := of_decide_eq_true (by first | (with_reducible assumption) | assumption)
    have q170 : a1 < (l0.length : Int) := of_decide_eq_true (by first | (with_reducible assumption) | assumption)
    obtain ⟨ad170, A170_0, c170_0, e170, hx170_0, hl170_0, hi170_0⟩ := at_L1 HR0.out a1 p170 q170
    cases e170
    have HR170_0 := Aside0.mk hi170_0
    have HC170_0 := Aside0.mk hl170_0
    clear hi170_0 hl170_0
    replace p170 := eq_true p170
    replace q170 := eq_true q170
    go_enter Try.func30, Try.ntmps30
    go_wp2_with (first | ((with_reducible refine gate_callee (f := 18) rfl ?_); refine goesL_ (some 12) rfl rfl Try.func18 (by kernel_rfl) rfl #[.slice A170_0 (rd_L1 l0 a1).length c170_0, .int .i64 a2] rfl (by (try simp only [List.map_toArray, List.map_cons, List.map_nil]); first | done | rfl | (simp only [List.length_drop, List.length_take]; rfl)) ?_; (with_reducible refine (r12_Has.calls k _ _ (rd_L1 l0 a1) a2 false _ ?side1 ?side2 A6.out).mono ?_); (case side1 => repeat (first | exact HR170_0.out | (with_reducible refine Kd.C_alloc ?_ _) | (with_reducible refine Kd.C_drewN ?_ _) | (with_reducible refine Kd.C_drew ?_))); (case side2 => exact HC170_0.out); rintro e w' ⟨rfl, ⟨nd, rfl⟩⟩; refine ⟨_, rfl, ?_⟩))
    go_ret
    exact ⟨by first | rfl | (simp; done) | (simp [*]; done), by repeat (first | exact Drawn0.refl _ | apply Drawn0.step)⟩
  ·rw [if_neg c5] at H
   exact absurd H (by simp)
 ·rw [if_neg c4] at H
  exact absurd H (by simp)
def r13_Reaches.l0 : Nat → List (List Int) → List (List Int) → Int → Option ((List (List Int)))
  | 0, _, _, _ => none
  | k + 1, x0, x3, x4 => if x4 < (x0.length : Int) then ((r12_Reach.f k x0 x4).bind fun t177 => (if x3.length < 5864062014805 then (r13_Reaches.l0 k x0 (x3 ++ [t177]) (wrap64 (x4 + 1))) else (none))) else (some x3)
def r13_Reaches.f (k : Nat) (l0 : List (List Int)) : Option ((List (List Int))) := r13_Reaches.l0 k l0 (([] : List (List Int))) 0
set_option maxHeartbeats 8000000 in
set_option maxRecDepth 100000 in
theorem r13_Reaches.calls (k : Nat) (A0 : Option Addr) (c0 : Nat) (l0 : List (List Int)) (r : List (List Int)) (w : World) (hr0 : Kd.C (Kd.slice 3 (Kd.int .i64)) w A0 l0.length l0) (hc0 : l0.length ≤ c0) (h : r13_Reaches.f k l0 = some r) :
    Calls Try.prog 28 #[.slice A0 l0.length c0] w fun e w' => ∃ v0_ : Value, e = .returned (v0_) ∧ Kd.S (Kd.slice 3 (Kd.int .i64)) 26 w' w.heap.size (fun _ => True) v0_ r ∧ Below w.heap.size w w' := by
 have HR0 := Aside0.mk hr0
 have HC0 := Aside0.mk hc0
 clear hr0 hc0
 have HB := Aside0.mk (Below.refl w.heap.size w)
 have H : (r13_Reaches.l0 k l0 (([] : List (List Int))) 0) = some r := h
 clear h
 obtain ⟨y174, hy174⟩ : ∃ y_ : List (List Int), y_ = (([] : List (List Int))) := ⟨_, rfl⟩
 replace H : (r13_Reaches.l0 k l0 y174 0) = some r := by first | (rw [hy174]; with_reducible exact H) | (have H2_ := (Option.bind_some _ _).symm.trans H; rw [hy174]; with_reducible exact H2_) | (have H2_ := (Option.bind_some _ _).symm.trans H; with_reducible exact H2_) | with_reducible exact H | (rw [hy174]; exact H) | exact H
 have Ny174 := Aside0.mk hy174
 clear hy174
 have H' := Aside0.mk H
 clear H
 go_enter Try.func28, Try.ntmps28
 go_wp2_with (first | ((with_reducible refine gate_dst (N := 5) rfl ?_); refine Kd.S_lit (Kd.slice 3 (Kd.int .i64)) _ 26 ?hg (N := 5) ?hd (xs := ([] : List (List Int))) (inner := []) (ok := fun _ => True) (okp := fun _ => True) ?hr ?hp (fun _ hk => hk) trivial (Below.refl _ _) (Nat.le_refl _) (by simp) ?_; (case hd => rfl); (case hg => rfl); (case hr => first | (go_simp; done) | (go_simp; rfl)); (case hp => exact (Reps.none _ _)); intro v175 w2 ho3 hb hg_ hnew_; clear hg_ hnew_; (first | rw [← Ny174.out] at ho3 | (simp only [Int.reduceToNat] at ho3; rw [← Ny174.out] at ho3)); have n0_ := Aside0.mk (Kd.S_lower ho3 (below_size (by repeat (first | (with_reducible first | exact HB.out | apply below_alloc | apply pw_below_drewN | apply below_drew1) | exact HB.out)))); have n1_ := Aside0.mk (below_step (by repeat (first | (with_reducible first | exact HB.out | apply below_alloc | apply pw_below_drewN | apply below_drew1) | exact HB.out)) hb); clear HB; have HO176 := n0_; have HB := n1_; clear n0_ n1_; clear hb ho3))
 go_loopg [3, 4] k (fun kq v3 v4 w' => ∃ (x3_1 : List (List Int)) (x4_1 : Int), v4 = .int .i64 x4_1 ∧ Aside0 (r13_Reaches.l0 kq l0 x3_1 x4_1 = some r) ∧ Aside0 (kq ≤ k) ∧ Aside0 (Kd.S (Kd.slice 3 (Kd.int .i64)) 26 w' w.heap.size (fun _ => True) v3 x3_1) ∧ Aside0 (Below w.heap.size w w'))
 case atStart => exact ⟨(y174), (0), (by first | rfl | (simp; done) | (simp [*]; done)), H', ⟨Nat.le_refl _⟩, ⟨by (with_reducible repeat (first | apply Kd.S_alloc | apply Kd.S_drewN | apply Kd.S_drew)); exact HO176.out⟩, ⟨by repeat (first | (with_reducible first | exact HB.out | apply below_alloc | apply pw_below_drewN | apply below_drew1) | exact HB.out)⟩⟩
 case round =>
  clear H'
  try clear c2
  try clear p2
  obtain ⟨x3_1, x4_1, rfl, HA, HK1, HO_3, HB⟩ := hrel
  cases gk with
  | zero => exact absurd HA.out (by simp [r13_Reaches.l0])
  | succ k1 =>
   have H := HA.out
   clear HA
   simp only [r13_Reaches.l0] at H
   by_cases c4 : x4_1 < (l0.length : Int)
   ·rw [if_pos c4] at H
    have c4b0 : decide (x4_1 < (l0.length : Int)) = true := decide_eq_true c4
    clear c4
    replace H := Option.bind_eq_some_iff.mp H
    obtain ⟨t177, A50, H⟩ := H
    replace H : (if x3_1.length < 5864062014805 then (r13_Reaches.l0 k1 l0 (x3_1 ++ [t177]) (wrap64 (x4_1 + 1))) else (none)) = some r := H
    have A5 := Aside0.mk A50
    clear A50
    by_cases c6 : x3_1.length < 5864062014805
    ·rw [if_pos c6] at H
     have LMc6 := Aside0.mk c6
     clear c6
     obtain ⟨y180, hy180⟩ : ∃ y_ : List (List Int), y_ = (x3_1 ++ [t177]) := ⟨_, rfl⟩
     replace H : (r13_Reaches.l0 k1 l0 y180 (wrap64 (x4_1 + 1))) = some r := by first | (rw [hy180]; with_reducible exact H) | (have H2_ := (Option.bind_some _ _).symm.trans H; rw [hy180]; with_reducible exact H2_) | (have H2_ := (Option.bind_some _ _).symm.trans H; with_reducible exact H2_) | with_reducible exact H | (rw [hy180]; exact H) | exact H
     have Ny180 := Aside0.mk hy180
     clear hy180
     have H' := Aside0.mk H
     clear H
     go_wp2_with (first | ((with_reducible refine gate_callee (f := 19) rfl ?_); refine goesL_ (some 15) rfl rfl Try.func19 (by kernel_rfl) rfl #[.slice A0 l0.length c0, .int .i64 x4_1] rfl (by (try simp only [List.map_toArray, List.map_cons, List.map_nil]); first | done | rfl | (simp only [List.length_drop, List.length_take]; rfl)) ?_; (with_reducible refine (r12_Reach.calls k1 _ _ l0 x4_1 t177 _ ?side1 ?side2 A5.out).mono ?_); (case side1 => repeat (first | exact (Kd.C_below HR0.out HB.out) | (with_reducible refine Kd.C_alloc ?_ _) | (with_reducible refine Kd.C_drewN ?_ _) | (with_reducible refine Kd.C_drew ?_))); (case side2 => exact HC0.out); rintro e w7 ⟨v178, rfl, ho0, hb⟩; refine ⟨_, rfl, ?_⟩; have n0_ := Aside0.mk (Kd.S_elder' (by (with_reducible repeat (first | apply Kd.S_alloc | apply Kd.S_drewN | apply Kd.S_drew)); exact HO_3.out) (Kd.R_base ho0) hb); have n1_ := Aside0.mk (Kd.R_lower ho0 (below_size (by repeat (first | (with_reducible first | exact HB.out | apply below_alloc | apply pw_below_drewN | apply below_drew1) | exact HB.out)))); have n2_ := Aside0.mk (below_step (by repeat (first | (with_reducible first | exact HB.out | apply below_alloc | apply pw_below_drewN | apply below_drew1) | exact HB.out)) hb); clear HO_3; clear HB; have HO_3 := n0_; have HO179 := n1_; have HB := n2_; clear n0_ n1_ n2_; (try clear hb); (try clear hb2); (try clear hk); (try clear hi); (try clear ho0); obtain ⟨Ao9, co9, eo9⟩ := Kd.R_slice HO179.out; subst eo9) | ((with_reducible refine gate_builtin (b := .append) (xs := #[.tmp 12, .tmp 16]) rfl ?_); at_builtin; refine Kd.S_append (Kd.slice 3 (Kd.int .i64)) (w0 := w) w.heap.size rfl (.tmp 12) (.tmp 16) 22 26 (.slice none 0 0) 24 rfl Try.underlying22 info26 rfl (by decide) (by omega) u3 x3_1 t177 [.slice Ao9 t177.length co9] (fun _ => True) (fun k_ => some k_ = (.slice Ao9 t177.length co9 : Value).ownBlock) rfl rfl ?aP (fun k_ hk_ => ((Kd.R_mono (ok' := fun k_ => ((fun _ => True)) k_ ∧ some k_ ≠ (u3 : Value).ownBlock) (Kd.R_apart' (HO179.out) (Kd.S_typed HO_3.out) (by decide)) (fun k_ hk => ⟨trivial, hk.2⟩))).1 k_ hk_.symm) ?aF ?aO ?aB ?aS ?aL ?_; (case aP => exact Kd.M_row (Kd.R_mono (Kd.R_tight rfl (Kd.R_mono (ok' := fun k_ => ((fun _ => True)) k_ ∧ some k_ ≠ (u3 : Value).ownBlock) (Kd.R_apart' (HO179.out) (Kd.S_typed HO_3.out) (by decide)) (fun k_ hk => ⟨trivial, hk.2⟩))) (fun _ h_ => h_))); (case aB => exact (by repeat (first | (with_reducible first | exact HB.out | apply below_alloc | apply pw_below_drewN | apply below_drew1) | exact HB.out))); (case aF => exact (fun _ _ => trivial)); (case aO => exact (by (with_reducible repeat (first | apply Kd.S_alloc | apply Kd.S_drewN | apply Kd.S_drew)); exact Kd.S_mono HO_3.out (fun k_ hk => ⟨trivial, fun e_ => hk.2 e_⟩))); (case aS => exact (below_size (by repeat (first | (with_reducible first | exact HB.out | apply below_alloc | apply pw_below_drewN | apply below_drew1) | exact HB.out)))); (case aL => have := LMc6.out; omega); intro v181 w8 ho hb hg hat; rw [← Ny180.out] at ho; have n0_ := Aside0.mk (hb); have n1_ := Aside0.mk (ho); clear HB; clear HO_3; clear HO179; have HB := n0_; have HO182 := n1_; clear n0_ n1_; clear ho hb hg hat))
     go_roundg k1
     case measure => have := HK1.out; omega
     case rel => exact ⟨(y180), (wrap64 (x4_1 + 1)), (by first | rfl | (simp; done) | (simp [*]; done)), H', ⟨by have := HK1.out; omega⟩, ⟨by (with_reducible repeat (first | apply Kd.S_alloc | apply Kd.S_drewN | apply Kd.S_drew)); exact HO182.out⟩, ⟨by repeat (first | (with_reducible first | exact HB.out | apply below_alloc | apply pw_below_drewN | apply below_drew1) | exact HB.out)⟩⟩
    ·rw [if_neg c6] at H
     exact absurd H (by simp)
   ·rw [if_neg c4] at H
    have c4b0 : decide (x4_1 < (l0.length : Int)) = false := decide_eq_false c4
    clear c4
    obtain rfl := Option.some.inj H
    go_wp2
    go_ret
    exact ⟨_, by first | rfl | (simp [errW_none, errW_some] <;> rfl) | (simp [*, errW_none, errW_some] <;> rfl), by (with_reducible repeat (first | apply Kd.S_alloc | apply Kd.S_drewN | apply Kd.S_drew)); exact HO_3.out, by repeat (first | (with_reducible first | exact HB.out | apply below_alloc | apply pw_below_drewN | apply below_drew1) | exact HB.out)⟩
def r13_ready.l0 : Nat → List (List Int) → List Int → Int → Int → Option (Bool)
  | 0, _, _, _, _ => none
  | k + 1, x0, x1, x2, x7 => if 0 ≤ x2 then (if x2 < (x0.length : Int) then (if x7 < ((rd_L1 x0 x2).length : Int) then (if 0 ≤ x7 then (if 0 ≤ (rd (rd_L1 x0 x2) x7) then (if (rd (rd_L1 x0 x2) x7) < (x1.length : Int) then (if (rd x1 (rd (rd_L1 x0 x2) x7)) < 0 then ((r13_Knot.f k x0 x2 (rd (rd_L1 x0 x2) x7)).bind fun t187 => (if t187 = true then (r13_ready.l0 k x0 x1 x2 (wrap64 (x7 + 1))) else (some false))) else (r13_ready.l0 k x0 x1 x2 (wrap64 (x7 + 1)))) else (none)) else (none)) else (none)) else (some true)) else (none)) else (none)
def r13_ready.f (k : Nat) (l0 : List (List Int)) (l1 : List Int) (a2 : Int) : Option (Bool) := r13_ready.l0 k l0 l1 a2 0
set_option maxHeartbeats 8000000 in
set_option maxRecDepth 100000 in
theorem r13_ready.calls (k : Nat) (A0 : Option Addr) (c0 : Nat) (l0 : List (List Int)) (A1 : Option Addr) (c1 : Nat) (l1 : List Int) (a2 : Int) (r : Bool) (w : World) (hr0 : Kd.C (Kd.slice 3 (Kd.int .i64)) w A0 l0.length l0) (hc0 : l0.length ≤ c0) (hr1 : Kd.C (Kd.int .i64) w A1 l1.length l1) (hc1 : l1.length ≤ c1) (h : r13_ready.f k l0 l1 a2 = some r) :
    Calls Try.prog 29 #[.slice A0 l0.length c0, .slice A1 l1.length c1, .int .i64 a2] w fun e w' => e = .returned (.bool r) ∧ Drawn0 w w' := by
 have HR0 := Aside0.mk hr0
 have HC0 := Aside0.mk hc0
 clear hr0 hc0
 have HR1 := Aside0.mk hr1
 have HC1 := Aside0.mk hc1
 clear hr1 hc1
 have H : (r13_ready.l0 k l0 l1 a2 0) = some r := h
 clear h
 have H' := Aside0.mk H
 clear H
 go_enter Try.func29, Try.ntmps29
 go_wp2
 go_loopg [7] k (fun kq v7 w' => ∃ (x7_1 : Int), v7 = .int .i64 x7_1 ∧ Aside0 (r13_ready.l0 kq l0 l1 a2 x7_1 = some r) ∧ Aside0 (kq ≤ k) ∧ Drawn0 w w')
 case atStart => exact ⟨(0), (by first | rfl | (simp; done) | (simp [*]; done)), H', ⟨Nat.le_refl _⟩, by repeat (first | exact Drawn0.refl _ | apply Drawn0.step)⟩
 case round =>
  clear H'
  try clear c1
  try clear c2
  try clear p2
  obtain ⟨x7_1, rfl, HA, HK1, ⟨m1, rfl⟩⟩ := hrel
  cases gk with
  | zero => exact absurd HA.out (by simp [r13_ready.l0])
  | succ k1 =>
   have H := HA.out
   clear HA
   simp only [r13_ready.l0] at H
   by_cases c4 : 0 ≤ a2
   ·rw [if_pos c4] at H
    have c4b0 : decide (0 ≤ a2) = true := decide_eq_true c4
    clear c4
    by_cases c5 : a2 < (l0.length : Int)
    ·rw [if_pos c5] at H
     have c5b0 : decide (a2 < (l0.length : Int)) = true := decide_eq_true c5
     clear c5
     by_cases c6 : x7_1 < ((rd_L1 l0 a2).length : Int)
     ·rw [if_pos c6] at H
      have c6b0 : decide (x7_1 < ((rd_L1 l0 a2).length : Int)) = true := decide_eq_true c6
      clear c6
      by_cases c7 : 0 ≤ x7_1
      ·rw [if_pos c7] at H
       have c7b0 : decide (0 ≤ x7_1) = true := decide_eq_true c7
       clear c7
       by_cases c8 : 0 ≤ (rd (rd_L1 l0 a2) x7_1)
       ·rw [if_pos c8] at H
        have c8b0 : decide (0 ≤ (rd (rd_L1 l0 a2) x7_1)) = true := decide_eq_true c8
        clear c8
        by_cases c9 : (rd (rd_L1 l0 a2) x7_1) < (l1.length : Int)
        ·rw [if_pos c9] at H
         have c9b0 : decide ((rd (rd_L1 l0 a2) x7_1) < (l1.length : Int)) = true := decide_eq_true c9
         clear c9
         by_cases c10 : (rd l1 (rd (rd_L1 l0 a2) x7_1)) < 0
         ·rw [if_pos c10] at H
          have c10b0 : decide ((rd l1 (rd (rd_L1 l0 a2) x7_1)) < 0) = true := decide_eq_true c10
          clear c10
          replace H := Option.bind_eq_some_iff.mp H
          obtain ⟨t187, A110, H⟩ := H
          replace H : (if t187 = true then (r13_ready.l0 k1 l0 l1 a2 (wrap64 (x7_1 + 1))) else (some false)) = some r := H
          have A11 := Aside0.mk A110
          clear A110
          by_cases c12 : t187 = true
          ·subst c12
           have H1 : (r13_ready.l0 k1 l0 l1 a2 (wrap64 (x7_1 + 1))) = some r := by rw [if_pos rfl] at H; exact H
           clear H
           have H := H1
           clear H1
           have H' := Aside0.mk H
           clear H
           have p183 : 0 ≤ (a2 : Int) := of_decide_eq_true (by first | (with_reducible assumption) | assumption)
           have q183 : a2 < (l0.length : Int) := of_decide_eq_true (by first | (with_reducible assumption) | assumption)
           obtain ⟨ad183, A183_0, c183_0, e183, hx183_0, hl183_0, hi183_0⟩ := at_L1 HR0.out a2 p183 q183
           cases e183
           have HR183_0 := Aside0.mk hi183_0
           have HC183_0 := Aside0.mk hl183_0
           clear hi183_0 hl183_0
           replace p183 := eq_true p183
           replace q183 := eq_true q183
           have p184 : 0 ≤ (a2 : Int) := of_decide_eq_true (by first | (with_reducible assumption) | assumption)
           have q184 : a2 < (l0.length : Int) := of_decide_eq_true (by first | (with_reducible assumption) | assumption)
           obtain ⟨ad184, A184_0, c184_0, e184, hx184_0, hl184_0, hi184_0⟩ := at_L1 HR0.out a2 p184 q184
           obtain rfl : ad183 = ad184 := (by injection e184)
           have HR184_0 := Aside0.mk hi184_0
           have HC184_0 := Aside0.mk hl184_0
           clear hi184_0 hl184_0
           replace p184 := eq_true p184
           replace q184 := eq_true q184
           have ea_ := Option.some.inj (hx183_0.symm.trans hx184_0)
           injection ea_ with ea_ en_ ec_
           subst ea_
           subst ec_
           clear en_
           have p185 : 0 ≤ (x7_1 : Int) := of_decide_eq_true (by first | (with_reducible assumption) | assumption)
           have q185 : x7_1 < ((rd_L1 l0 a2).length : Int) := of_decide_eq_true (by first | (with_reducible assumption) | assumption)
           obtain ⟨ad185, e185, hx185_0⟩ := Kd.at_int HR184_0.out x7_1 p185 q185
           cases e185
           replace p185 := eq_true p185
           replace q185 := eq_true q185
           have p186 : 0 ≤ ((rd (rd_L1 l0 a2) x7_1) : Int) := of_decide_eq_true (by first | (with_reducible assumption) | assumption)
           have q186 : (rd (rd_L1 l0 a2) x7_1) < (l1.length : Int) := of_decide_eq_true (by first | (with_reducible assumption) | assumption)
           obtain ⟨ad186, e186, hx186_0⟩ := Kd.at_int HR1.out (rd (rd_L1 l0 a2) x7_1) p186 q186
           cases e186
           replace p186 := eq_true p186
           replace q186 := eq_true q186
           go_wp2_with (first | (go_at_call 30; (with_reducible refine (r13_Knot.calls k1 _ _ l0 a2 (rd (rd_L1 l0 a2) x7_1) true _ ?side1 ?side2 A11.out).mono ?_); (case side1 => repeat (first | exact HR0.out | (with_reducible refine Kd.C_alloc ?_ _) | (with_reducible refine Kd.C_drewN ?_ _) | (with_reducible refine Kd.C_drew ?_))); (case side2 => exact HC0.out); rintro e w' ⟨rfl, ⟨nd, rfl⟩⟩))
           go_roundg k1
           case measure => have := HK1.out; omega
           case rel => exact ⟨(wrap64 (x7_1 + 1)), (by first | rfl | (simp; done) | (simp [*]; done)), H', ⟨by have := HK1.out; omega⟩, by repeat (first | exact Drawn0.refl _ | apply Drawn0.step)⟩
          ·replace c12 := Bool.eq_false_iff.mpr c12
           subst c12
           have H1 : (some false) = some r := by rw [if_neg (show ¬ (false = true) by decide)] at H; exact H
           clear H
           have H := H1
           clear H1
           obtain rfl := Option.some.inj H
           have p183 : 0 ≤ (a2 : Int) := of_decide_eq_true (by first | (with_reducible assumption) | assumption)
           have q183 : a2 < (l0.length : Int) := of_decide_eq_true (by first | (with_reducible assumption) | assumption)
           obtain ⟨ad183, A183_0, c183_0, e183, hx183_0, hl183_0, hi183_0⟩ := at_L1 HR0.out a2 p183 q183
           cases e183
           have HR183_0 := Aside0.mk hi183_0
           have HC183_0 := Aside0.mk hl183_0
           clear hi183_0 hl183_0
           replace p183 := eq_true p183
           replace q183 := eq_true q183
           have p184 : 0 ≤ (a2 : Int) := of_decide_eq_true (by first | (with_reducible assumption) | assumption)
           have q184 : a2 < (l0.length : Int) := of_decide_eq_true (by first | (with_reducible assumption) | assumption)
           obtain ⟨ad184, A184_0, c184_0, e184, hx184_0, hl184_0, hi184_0⟩ := at_L1 HR0.out a2 p184 q184
           obtain rfl : ad183 = ad184 := (by injection e184)
           have HR184_0 := Aside0.mk hi184_0
           have HC184_0 := Aside0.mk hl184_0
           clear hi184_0 hl184_0
           replace p184 := eq_true p184
           replace q184 := eq_true q184
           have ea_ := Option.some.inj (hx183_0.symm.trans hx184_0)
           injection ea_ with ea_ en_ ec_
           subst ea_
           subst ec_
           clear en_
           have p185 : 0 ≤ (x7_1 : Int) := of_decide_eq_true (by first | (with_reducible assumption) | assumption)
           have q185 : x7_1 < ((rd_L1 l0 a2).length : Int) := of_decide_eq_true (by first | (with_reducible assumption) | assumption)
           obtain ⟨ad185, e185, hx185_0⟩ := Kd.at_int HR184_0.out x7_1 p185 q185
           cases e185
           replace p185 := eq_true p185
           replace q185 := eq_true q185
           have p186 : 0 ≤ ((rd (rd_L1 l0 a2) x7_1) : Int) := of_decide_eq_true (by first | (with_reducible assumption) | assumption)
           have q186 : (rd (rd_L1 l0 a2) x7_1) < (l1.length : Int) := of_decide_eq_true (by first | (with_reducible assumption) | assumption)
           obtain ⟨ad186, e186, hx186_0⟩ := Kd.at_int HR1.out (rd (rd_L1 l0 a2) x7_1) p186 q186
           cases e186
           replace p186 := eq_true p186
           replace q186 := eq_true q186
           go_wp2_with (first | (go_at_call 30; (with_reducible refine (r13_Knot.calls k1 _ _ l0 a2 (rd (rd_L1 l0 a2) x7_1) false _ ?side1 ?side2 A11.out).mono ?_); (case side1 => repeat (first | exact HR0.out | (with_reducible refine Kd.C_alloc ?_ _) | (with_reducible refine Kd.C_drewN ?_ _) | (with_reducible refine Kd.C_drew ?_))); (case side2 => exact HC0.out); rintro e w' ⟨rfl, ⟨nd, rfl⟩⟩))
           go_ret
           exact ⟨by first | rfl | (simp; done) | (simp [*]; done), by repeat (first | exact Drawn0.refl _ | apply Drawn0.step)⟩
         ·rw [if_neg c10] at H
          have c10b0 : decide ((rd l1 (rd (rd_L1 l0 a2) x7_1)) < 0) = false := decide_eq_false c10
          clear c10
          have H' := Aside0.mk H
          clear H
          have p183 : 0 ≤ (a2 : Int) := of_decide_eq_true (by first | (with_reducible assumption) | assumption)
          have q183 : a2 < (l0.length : Int) := of_decide_eq_true (by first | (with_reducible assumption) | assumption)
          obtain ⟨ad183, A183_0, c183_0, e183, hx183_0, hl183_0, hi183_0⟩ := at_L1 HR0.out a2 p183 q183
          cases e183
          have HR183_0 := Aside0.mk hi183_0
          have HC183_0 := Aside0.mk hl183_0
          clear hi183_0 hl183_0
          replace p183 := eq_true p183
          replace q183 := eq_true q183
          have p184 : 0 ≤ (a2 : Int) := of_decide_eq_true (by first | (with_reducible assumption) | assumption)
          have q184 : a2 < (l0.length : Int) := of_decide_eq_true (by first | (with_reducible assumption) | assumption)
          obtain ⟨ad184, A184_0, c184_0, e184, hx184_0, hl184_0, hi184_0⟩ := at_L1 HR0.out a2 p184 q184
          obtain rfl : ad183 = ad184 := (by injection e184)
          have HR184_0 := Aside0.mk hi184_0
          have HC184_0 := Aside0.mk hl184_0
          clear hi184_0 hl184_0
          replace p184 := eq_true p184
          replace q184 := eq_true q184
          have ea_ := Option.some.inj (hx183_0.symm.trans hx184_0)
          injection ea_ with ea_ en_ ec_
          subst ea_
          subst ec_
          clear en_
          have p185 : 0 ≤ (x7_1 : Int) := of_decide_eq_true (by first | (with_reducible assumption) | assumption)
          have q185 : x7_1 < ((rd_L1 l0 a2).length : Int) := of_decide_eq_true (by first | (with_reducible assumption) | assumption)
          obtain ⟨ad185, e185, hx185_0⟩ := Kd.at_int HR184_0.out x7_1 p185 q185
          cases e185
          replace p185 := eq_true p185
          replace q185 := eq_true q185
          have p186 : 0 ≤ ((rd (rd_L1 l0 a2) x7_1) : Int) := of_decide_eq_true (by first | (with_reducible assumption) | assumption)
          have q186 : (rd (rd_L1 l0 a2) x7_1) < (l1.length : Int) := of_decide_eq_true (by first | (with_reducible assumption) | assumption)
          obtain ⟨ad186, e186, hx186_0⟩ := Kd.at_int HR1.out (rd (rd_L1 l0 a2) x7_1) p186 q186
          cases e186
          replace p186 := eq_true p186
          replace q186 := eq_true q186
          go_wp2
          go_roundg k1
          case measure => have := HK1.out; omega
          case rel => exact ⟨(wrap64 (x7_1 + 1)), (by first | rfl | (simp; done) | (simp [*]; done)), H', ⟨by have := HK1.out; omega⟩, by repeat (first | exact Drawn0.refl _ | apply Drawn0.step)⟩
        ·rw [if_neg c9] at H
         exact absurd H (by simp)
       ·rw [if_neg c8] at H
        exact absurd H (by simp)
      ·rw [if_neg c7] at H
       exact absurd H (by simp)
     ·rw [if_neg c6] at H
      have c6b0 : decide (x7_1 < ((rd_L1 l0 a2).length : Int)) = false := decide_eq_false c6
      clear c6
      obtain rfl := Option.some.inj H
      have p183 : 0 ≤ (a2 : Int) := of_decide_eq_true (by first | (with_reducible assumption) | assumption)
      have q183 : a2 < (l0.length : Int) := of_decide_eq_true (by first | (with_reducible assumption) | assumption)
      obtain ⟨ad183, A183_0, c183_0, e183, hx183_0, hl183_0, hi183_0⟩ := at_L1 HR0.out a2 p183 q183
      cases e183
      have HR183_0 := Aside0.mk hi183_0
      have HC183_0 := Aside0.mk hl183_0
      clear hi183_0 hl183_0
      replace p183 := eq_true p183
      replace q183 := eq_true q183
      go_wp2
      go_ret
      exact ⟨by first | rfl | (simp; done) | (simp [*]; done), by repeat (first | exact Drawn0.refl _ | apply Drawn0.step)⟩
    ·rw [if_neg c5] at H
     exact absurd H (by simp)
   ·rw [if_neg c4] at H
    exact absurd H (by simp)
mutual
def r13_Of.l0 : Nat → List (List Int) → List (List Int) → List Int → Int → Option (List Int)
  | 0, _, _, _, _ => none
  | k + 1, x0, x3, x4, x5 => if x5 < (x0.length : Int) then (if x4.length < 17592186044416 then (r13_Of.l0 k x0 x3 (x4 ++ [(-1)]) (wrap64 (x5 + 1))) else (none)) else (r13_Of.l1 k x0 x3 x4 0)
def r13_Of.l1 : Nat → List (List Int) → List (List Int) → List Int → Int → Option (List Int)
  | 0, _, _, _, _ => none
  | k + 1, x0, x3, x4, x6 => if x6 < (x0.length : Int) then (r13_Of.l2 k x0 x3 x4 x6 0) else (some x4)
def r13_Of.j3 : Nat → List (List Int) → List (List Int) → List Int → Int → Int → Option (List Int)
  | 0, _, _, _, _, _ => none
  | k + 1, x0, x3, x4, x6, x7 => if x7 = (x0.length : Int) then (some x4) else (r13_Of.l3 k x0 x3 x4 x6 x7 0)
def r13_Of.l3 : Nat → List (List Int) → List (List Int) → List Int → Int → Int → Int → Option (List Int)
  | 0, _, _, _, _, _, _ => none
  | k + 1, x0, x3, x4, x6, x7, x8 => if x8 < (x0.length : Int) then ((r13_Knot.f k x3 x7 x8).bind fun t200 => (if t200 = true then (if 0 ≤ x8 then (if x8 < (x4.length : Int) then (r13_Of.l3 k x0 x3 (x4.set (x8 : Int).toNat x6) x6 x7 (wrap64 (x8 + 1))) else (none)) else (none)) else (r13_Of.l3 k x0 x3 x4 x6 x7 (wrap64 (x8 + 1))))) else (r13_Of.l1 k x0 x3 x4 (wrap64 (x6 + 1)))
def r13_Of.l2 : Nat → List (List Int) → List (List Int) → List Int → Int → Int → Option (List Int)
  | 0, _, _, _, _, _ => none
  | k + 1, x0, x3, x4, x6, x7 => if x7 < (x0.length : Int) then (if 0 ≤ x7 then (if x7 < (x4.length : Int) then (if (rd x4 x7) ≥ 0 then (r13_Of.l2 k x0 x3 x4 x6 (wrap64 (x7 + 1))) else ((r13_ready.f k x3 x4 x7).bind fun t199 => (if t199 = true then (r13_Of.j3 k x0 x3 x4 x6 x7) else (r13_Of.l2 k x0 x3 x4 x6 (wrap64 (x7 + 1)))))) else (none)) else (none)) else (r13_Of.j3 k x0 x3 x4 x6 x7)
end
def r13_Of.f (k : Nat) (l0 : List (List Int)) : Option (List Int) := (r12_May.f k l0).bind fun t188 => (if t188 = true then ((r13_Reaches.f k l0).bind fun t189 => (r13_Of.l0 k l0 t189 (([] : List Int)) 0)) else (some ([] : List Int)))
set_option maxHeartbeats 8000000 in
set_option maxRecDepth 100000 in
theorem r13_Of.calls (k : Nat) (A0 : Option Addr) (c0 : Nat) (l0 : List (List Int)) (r : List Int) (w : World) (hr0 : Kd.C (Kd.slice 3 (Kd.int .i64)) w A0 l0.length l0) (hc0 : l0.length ≤ c0) (h : r13_Of.f k l0 = some r) :
    Calls Try.prog 11 #[.slice A0 l0.length c0] w fun e w' => ∃ v0_ : Value, e = .returned (v0_) ∧ Kd.R (Kd.int .i64) 3 w' w.heap.size (fun _ => True) v0_ r ∧ Below w.heap.size w w' := by
 have HR0 := Aside0.mk hr0
 have HC0 := Aside0.mk hc0
 clear hr0 hc0
 have HB := Aside0.mk (Below.refl w.heap.size w)
 have H : ((r12_May.f k l0).bind fun t188 => (if t188 = true then ((r13_Reaches.f k l0).bind fun t189 => (r13_Of.l0 k l0 t189 (([] : List Int)) 0)) else (some ([] : List Int)))) = some r := h
 clear h
 replace H := Option.bind_eq_some_iff.mp H
 obtain ⟨t188, A20, H⟩ := H
 replace H : (if t188 = true then ((r13_Reaches.f k l0).bind fun t189 => (r13_Of.l0 k l0 t189 (([] : List Int)) 0)) else (some ([] : List Int))) = some r := H
 have A2 := Aside0.mk A20
 clear A20
 by_cases c3 : t188 = true
 ·subst c3
  have H1 : ((r13_Reaches.f k l0).bind fun t189 => (r13_Of.l0 k l0 t189 (([] : List Int)) 0)) = some r := by rw [if_pos rfl] at H; exact H
  clear H
  have H := H1
  clear H1
  replace H := Option.bind_eq_some_iff.mp H
  obtain ⟨t189, A40, H⟩ := H
  replace H : (r13_Of.l0 k l0 t189 (([] : List Int)) 0) = some r := H
  have A4 := Aside0.mk A40
  clear A40
  obtain ⟨y192, hy192⟩ : ∃ y_ : List Int, y_ = (([] : List Int)) := ⟨_, rfl⟩
  replace H : (r13_Of.l0 k l0 t189 y192 0) = some r := by first | (rw [hy192]; with_reducible exact H) | (have H2_ := (Option.bind_some _ _).symm.trans H; rw [hy192]; with_reducible exact H2_) | (have H2_ := (Option.bind_some _ _).symm.trans H; with_reducible exact H2_) | with_reducible exact H | (rw [hy192]; exact H) | exact H
  have Ny192 := Aside0.mk hy192
  clear hy192
  have H' := Aside0.mk H
  clear H
  go_enter Try.func11, Try.ntmps11
  go_wp2_with (first | ((with_reducible refine gate_callee (f := 17) rfl ?_); refine goesL_ (some 10) rfl rfl Try.func17 (by kernel_rfl) rfl #[.slice A0 l0.length c0] rfl (by (try simp only [List.map_toArray, List.map_cons, List.map_nil]); first | done | rfl | (simp only [List.length_drop, List.length_take]; rfl)) ?_; (with_reducible refine (r12_May.calls k _ _ l0 true _ ?side1 ?side2 A2.out).mono ?_); (case side1 => repeat (first | exact HR0.out | (with_reducible refine Kd.C_alloc ?_ _) | (with_reducible refine Kd.C_drewN ?_ _) | (with_reducible refine Kd.C_drew ?_))); (case side2 => exact HC0.out); rintro e w' ⟨rfl, ⟨nd, rfl⟩⟩; refine ⟨_, rfl, ?_⟩) | ((with_reducible refine gate_callee (f := 28) rfl ?_); refine goesL_ (some 13) rfl rfl Try.func28 (by kernel_rfl) rfl #[.slice A0 l0.length c0] rfl (by (try simp only [List.map_toArray, List.map_cons, List.map_nil]); first | done | rfl | (simp only [List.length_drop, List.length_take]; rfl)) ?_; (with_reducible refine (r13_Reaches.calls k _ _ l0 t189 _ ?side1 ?side2 A4.out).mono ?_); (case side1 => repeat (first | exact HR0.out | (with_reducible refine Kd.C_alloc ?_ _) | (with_reducible refine Kd.C_drewN ?_ _) | (with_reducible refine Kd.C_drew ?_))); (case side2 => exact HC0.out); rintro e w5 ⟨v190, rfl, ho0, hb⟩; refine ⟨_, rfl, ?_⟩; have n0_ := Aside0.mk (Kd.S_lower ho0 (below_size (by repeat (first | (with_reducible first | exact HB.out | apply below_alloc | apply pw_below_drewN | apply below_drew1) | exact HB.out)))); have n1_ := Aside0.mk (below_step (by repeat (first | (with_reducible first | exact HB.out | apply below_alloc | apply pw_below_drewN | apply below_drew1) | exact HB.out)) hb); clear HB; have HO191 := n0_; have HB := n1_; clear n0_ n1_; (try clear hb); (try clear hb2); (try clear hk); (try clear hi); (try clear ho0)) | ((with_reducible refine gate_dst (N := 14) rfl ?_); refine Kd.R_lit (Kd.int .i64) _ 3 ?hg (N := 14) ?hd (xs := ([] : List Int)) (inner := []) (ok := fun _ => True) (okp := fun _ => True) ?hr ?hp (fun _ hk => hk) trivial (Below.refl _ _) (Nat.le_refl _) (by simp) ?_; (case hd => rfl); (case hg => rfl); (case hr => first | (go_simp; done) | (go_simp; rfl)); (case hp => exact (Reps.none _ _)); intro v193 w6 ho7 hb hg_ hnew_; clear hg_ hnew_; (first | rw [← Ny192.out] at ho7 | (simp only [Int.reduceToNat] at ho7; rw [← Ny192.out] at ho7)); have n0_ := Aside0.mk (Kd.S_elder' (by (with_reducible repeat (first | apply Kd.S_alloc | apply Kd.S_drewN | apply Kd.S_drew)); exact HO191.out) (Kd.R_base ho7) hb); have n1_ := Aside0.mk (Kd.R_lower ho7 (below_size (by repeat (first | (with_reducible first | exact HB.out | apply below_alloc | apply pw_below_drewN | apply below_drew1) | exact HB.out)))); have n2_ := Aside0.mk (below_step (by repeat (first | (with_reducible first | exact HB.out | apply below_alloc | apply pw_below_drewN | apply below_drew1) | exact HB.out)) hb); clear HO191; clear HB; have HO191 := n0_; have HO194 := n1_; have HB := n2_; clear n0_ n1_ n2_; clear hb ho7))
  go_loopg [4, 5] k (fun kq v4 v5 w' => ∃ (x4_1 : List Int) (x5_1 : Int), v5 = .int .i64 x5_1 ∧ Aside0 (r13_Of.l0 kq l0 t189 x4_1 x5_1 = some r) ∧ Aside0 (kq ≤ k) ∧ Aside0 (Kd.S (Kd.slice 3 (Kd.int .i64)) 26 w' w.heap.size (fun k_ => some k_ ≠ (v4 : Value).ownBlock) v190 t189) ∧ Aside0 (Kd.R (Kd.int .i64) 3 w' w.heap.size (fun _ => True) v4 x4_1) ∧ Aside0 (Below w.heap.size w w'))
  case atStart => exact ⟨(y192), (0), (by first | rfl | (simp; done) | (simp [*]; done)), H', ⟨Nat.le_refl _⟩, ⟨by (with_reducible repeat (first | apply Kd.S_alloc | apply Kd.S_drewN | apply Kd.S_drew)); exact Kd.S_mono HO191.out (fun _ hk => hk.2)⟩, ⟨by (with_reducible repeat (first | apply Kd.R_alloc | apply Kd.R_drewN | apply Kd.R_drew)); exact HO194.out⟩, ⟨by repeat (first | (with_reducible first | exact HB.out | apply below_alloc | apply pw_below_drewN | apply below_drew1) | exact HB.out)⟩⟩
  case round =>
   clear H'
   try clear c1
   try clear c2
   try clear p2
   try clear c3
   obtain ⟨x4_1, x5_1, rfl, HA, HK1, HO_3, HO_4, HB⟩ := hrel
   cases gk with
   | zero => exact absurd HA.out (by simp [r13_Of.l0])
   | succ k1 =>
    have H := HA.out
    clear HA
    simp only [r13_Of.l0] at H
    by_cases c8 : x5_1 < (l0.length : Int)
    ·rw [if_pos c8] at H
     have c8b0 : decide (x5_1 < (l0.length : Int)) = true := decide_eq_true c8
     clear c8
     by_cases c9 : x4_1.length < 17592186044416
     ·rw [if_pos c9] at H
      have LMc9 := Aside0.mk c9
      clear c9
      obtain ⟨y195, hy195⟩ : ∃ y_ : List Int, y_ = (x4_1 ++ [(-1)]) := ⟨_, rfl⟩
      replace H : (r13_Of.l0 k1 l0 t189 y195 (wrap64 (x5_1 + 1))) = some r := by first | (rw [hy195]; with_reducible exact H) | (have H2_ := (Option.bind_some _ _).symm.trans H; rw [hy195]; with_reducible exact H2_) | (have H2_ := (Option.bind_some _ _).symm.trans H; with_reducible exact H2_) | with_reducible exact H | (rw [hy195]; exact H) | exact H
      have Ny195 := Aside0.mk hy195
      clear hy195
      have H' := Aside0.mk H
      clear H
      go_wp2_with (first | ((with_reducible refine gate_builtin (b := .append) (xs := #[.tmp 21, .tmp 22]) rfl ?_); at_builtin; refine Kd.R_append (Kd.int .i64) (w0 := w) w.heap.size rfl (.tmp 21) (.tmp 22) 26 3 (.int .i64 0) 8 rfl Try.underlying26 info3 rfl (by decide) (by omega) u4 x4_1 (-1) [.int .i64 (-1)] (fun _ => True) (fun _ => False) rfl rfl ?aP (fun _ hk => hk.elim) ?aF ?aO ?aB ?aS ?aL ?_; (case aP => exact rfl); (case aB => exact (by repeat (first | (with_reducible first | exact HB.out | apply below_alloc | apply pw_below_drewN | apply below_drew1) | exact HB.out))); (case aF => exact (fun _ _ => trivial)); (case aO => exact (by (with_reducible repeat (first | apply Kd.R_alloc | apply Kd.R_drewN | apply Kd.R_drew)); exact HO_4.out)); (case aS => exact (below_size (by repeat (first | (with_reducible first | exact HB.out | apply below_alloc | apply pw_below_drewN | apply below_drew1) | exact HB.out)))); (case aL => have := LMc9.out; omega); intro v196 w10 ho hb hg hat; rw [← Ny195.out] at ho; have n0_ := Aside0.mk (Kd.S_after (ok := (fun _ => True)) (by (with_reducible repeat (first | apply Kd.S_alloc | apply Kd.S_drewN | apply Kd.S_drew)); exact Kd.S_mono HO_3.out (fun _ hk => ⟨trivial, hk⟩)) hg hat); have n1_ := Aside0.mk (hb); have n2_ := Aside0.mk (ho); clear HO_3; clear HB; clear HO_4; have HO_3 := n0_; have HB := n1_; have HO197 := n2_; clear n0_ n1_ n2_; clear ho hb hg hat))
      go_roundg k1
      case measure => have := HK1.out; omega
      case rel => exact ⟨(y195), (wrap64 (x5_1 + 1)), (by first | rfl | (simp; done) | (simp [*]; done)), H', ⟨by have := HK1.out; omega⟩, ⟨by (with_reducible repeat (first | apply Kd.S_alloc | apply Kd.S_drewN | apply Kd.S_drew)); exact Kd.S_mono HO_3.out (fun _ hk => hk.2)⟩, ⟨by (with_reducible repeat (first | apply Kd.R_alloc | apply Kd.R_drewN | apply Kd.R_drew)); exact HO197.out⟩, ⟨by repeat (first | (with_reducible first | exact HB.out | apply below_alloc | apply pw_below_drewN | apply below_drew1) | exact HB.out)⟩⟩
     ·rw [if_neg c9] at H
      exact absurd H (by simp)
    ·rw [if_neg c8] at H
     have c8b0 : decide (x5_1 < (l0.length : Int)) = false := decide_eq_false c8
     clear c8
     have H' := Aside0.mk H
     clear H
     go_wp2
     go_loopg [6] k1 (fun kq v6 w' => ∃ (x4_2 : List Int) (x6_2 : Int), v6 = .int .i64 x6_2 ∧ Aside0 (r13_Of.l1 kq l0 t189 x4_2 x6_2 = some r) ∧ Aside0 (kq ≤ k1) ∧ Aside0 (Kd.S (Kd.slice 3 (Kd.int .i64)) 26 w' w.heap.size (fun k_ => some k_ ≠ (u4 : Value).ownBlock) v190 t189) ∧ Aside0 (Kd.R (Kd.int .i64) 3 w' w.heap.size (fun _ => True) u4 x4_2) ∧ Aside0 (Below w.heap.size w w'))
     case atStart => exact ⟨(x4_1), (0), (by first | rfl | (simp; done) | (simp [*]; done)), H', ⟨Nat.le_refl _⟩, ⟨by (with_reducible repeat (first | apply Kd.S_alloc | apply Kd.S_drewN | apply Kd.S_drew)); exact HO_3.out⟩, ⟨by (with_reducible repeat (first | apply Kd.R_alloc | apply Kd.R_drewN | apply Kd.R_drew)); exact HO_4.out⟩, ⟨by repeat (first | (with_reducible first | exact HB.out | apply below_alloc | apply pw_below_drewN | apply below_drew1) | exact HB.out)⟩⟩
     case round =>
      clear H'
      try clear c1
      try clear c2
      try clear p2
      try clear c3
      try clear p6
      try clear c8
      try clear c8b0
      try clear c9
      try clear p2
      obtain ⟨x4_2, x6_2, rfl, HA, HK2, HO_3, HO_4, HB⟩ := hrel
      cases gk with
      | zero => exact absurd HA.out (by simp [r13_Of.l1])
      | succ k2 =>
       have H := HA.out
       clear HA
       simp only [r13_Of.l1] at H
       by_cases c11 : x6_2 < (l0.length : Int)
       ·rw [if_pos c11] at H
        have c11b0 : decide (x6_2 < (l0.length : Int)) = true := decide_eq_true c11
        clear c11
        have HC12 := Aside0.mk H
        clear H
        go_upto_block 4 with (fail)
        go_cut [7] (fun v7 wc => ∃ (kq : Nat) (x7_11 : Int), v7 = .int .i64 x7_11 ∧ Aside0 (r13_Of.j3 kq l0 t189 x4_2 x6_2 x7_11 = some r) ∧ Aside0 (kq ≤ k2) ∧ Aside0 (Kd.S (Kd.slice 3 (Kd.int .i64)) 26 wc w.heap.size (fun k_ => some k_ ≠ (u4 : Value).ownBlock) v190 t189) ∧ Aside0 (Kd.R (Kd.int .i64) 3 wc w.heap.size (fun _ => True) u4 x4_2) ∧ Aside0 (Below w.heap.size w wc))
        case first =>
         have H := HC12.out
         clear HC12
         have H' := Aside0.mk H
         clear H
         go_wp2
         go_loopg [7] k2 (fun kq v7 w' => ∃ (x7_3 : Int), v7 = .int .i64 x7_3 ∧ Aside0 (r13_Of.l2 kq l0 t189 x4_2 x6_2 x7_3 = some r) ∧ Aside0 (kq ≤ k2) ∧ Aside0 (Kd.S (Kd.slice 3 (Kd.int .i64)) 26 w' w.heap.size (fun k_ => some k_ ≠ (u4 : Value).ownBlock) v190 t189) ∧ Aside0 (Kd.R (Kd.int .i64) 3 w' w.heap.size (fun _ => True) u4 x4_2) ∧ Aside0 (Below w.heap.size w w'))
         case atStart => exact ⟨(0), (by first | rfl | (simp; done) | (simp [*]; done)), H', ⟨Nat.le_refl _⟩, ⟨by (with_reducible repeat (first | apply Kd.S_alloc | apply Kd.S_drewN | apply Kd.S_drew)); exact HO_3.out⟩, ⟨by (with_reducible repeat (first | apply Kd.R_alloc | apply Kd.R_drewN | apply Kd.R_drew)); exact HO_4.out⟩, ⟨by repeat (first | (with_reducible first | exact HB.out | apply below_alloc | apply pw_below_drewN | apply below_drew1) | exact HB.out)⟩⟩
         case round =>
          clear H'
          try clear c1
          try clear c2
          try clear p2
          try clear c3
          try clear p6
          try clear c8
          try clear c8b0
          try clear c9
          try clear c11
          try clear c11b0
          try clear p2
          try clear p6
          obtain ⟨x7_3, rfl, HA, HK3, HO_3, HO_4, HB⟩ := hrel
          cases gk with
          | zero => exact absurd HA.out (by simp [r13_Of.l2])
          | succ k3 =>
           have H := HA.out
           clear HA
           simp only [r13_Of.l2] at H
           by_cases c13 : x7_3 < (l0.length : Int)
           ·rw [if_pos c13] at H
            have c13b0 : decide (x7_3 < (l0.length : Int)) = true := decide_eq_true c13
            clear c13
            (first | rw [c13b0] | (simp only [i64_w, i32_w]; rw [c13b0]) | skip)
            by_cases c14 : 0 ≤ x7_3
            ·rw [if_pos c14] at H
             have c14b0 : decide (0 ≤ x7_3) = true := decide_eq_true c14
             clear c14
             by_cases c15 : x7_3 < (x4_2.length : Int)
             ·rw [if_pos c15] at H
              have c15b0 : decide (x7_3 < (x4_2.length : Int)) = true := decide_eq_true c15
              clear c15
              by_cases c16 : (rd x4_2 x7_3) ≥ 0
              ·rw [if_pos c16] at H
               have c16b0 : decide (0 ≤ (rd x4_2 x7_3)) = true := decide_eq_true c16
               clear c16
               have H' := Aside0.mk H
               clear H
               obtain ⟨Ao17, co17, eo17⟩ := Kd.R_slice HO_4.out
               subst eo17
               have p198 : 0 ≤ (x7_3 : Int) := of_decide_eq_true (by first | (with_reducible assumption) | assumption)
               have q198 : x7_3 < (x4_2.length : Int) := of_decide_eq_true (by first | (with_reducible assumption) | assumption)
               obtain ⟨ad198, e198, hx198_0⟩ := Kd.at_int (Kd.R_reads' HO_4.out).2.2 x7_3 p198 q198
               cases e198
               replace p198 := eq_true p198
               replace q198 := eq_true q198
               go_wp2
               go_roundg k3
               case measure => have := HK1.out; have := HK2.out; have := HK3.out; omega
               case rel => exact ⟨(wrap64 (x7_3 + 1)), (by first | rfl | (simp; done) | (simp [*]; done)), H', ⟨by have := HK1.out; have := HK2.out; have := HK3.out; omega⟩, ⟨by (with_reducible repeat (first | apply Kd.S_alloc | apply Kd.S_drewN | apply Kd.S_drew)); exact HO_3.out⟩, ⟨by (with_reducible repeat (first | apply Kd.R_alloc | apply Kd.R_drewN | apply Kd.R_drew)); exact HO_4.out⟩, ⟨by repeat (first | (with_reducible first | exact HB.out | apply below_alloc | apply pw_below_drewN | apply below_drew1) | exact HB.out)⟩⟩
              ·rw [if_neg c16] at H
               have c16b0 : decide (0 ≤ (rd x4_2 x7_3)) = false := decide_eq_false c16
               clear c16
               replace H := Option.bind_eq_some_iff.mp H
               obtain ⟨t199, A180, H⟩ := H
               replace H : (if t199 = true then (r13_Of.j3 k3 l0 t189 x4_2 x6_2 x7_3) else (r13_Of.l2 k3 l0 t189 x4_2 x6_2 (wrap64 (x7_3 + 1)))) = some r := H
               have A18 := Aside0.mk A180
               clear A180
               by_cases c19 : t199 = true
               ·subst c19
                have H1 : (r13_Of.j3 k3 l0 t189 x4_2 x6_2 x7_3) = some r := by rw [if_pos rfl] at H; exact H
                clear H
                have H := H1
                clear H1
                have H' := Aside0.mk H
                clear H
                obtain ⟨Ao20, co20, eo20⟩ := Kd.R_slice HO_4.out
                subst eo20
                have p198 : 0 ≤ (x7_3 : Int) := of_decide_eq_true (by first | (with_reducible assumption) | assumption)
                have q198 : x7_3 < (x4_2.length : Int) := of_decide_eq_true (by first | (with_reducible assumption) | assumption)
                obtain ⟨ad198, e198, hx198_0⟩ := Kd.at_int (Kd.R_reads' HO_4.out).2.2 x7_3 p198 q198
                cases e198
                replace p198 := eq_true p198
                replace q198 := eq_true q198
                obtain ⟨Ao21, co21, eo21⟩ := Kd.S_slice HO_3.out
                subst eo21
                go_wp2_with (first | (go_at_call 29; (with_reducible refine (r13_ready.calls k3 _ _ t189 _ _ x4_2 x7_3 true _ ?side1 ?side2 ?side3 ?side4 A18.out).mono ?_); (case side1 => repeat (first | exact (Kd.S_reads' HO_3.out).2.2 | (with_reducible refine Kd.C_alloc ?_ _) | (with_reducible refine Kd.C_drewN ?_ _) | (with_reducible refine Kd.C_drew ?_))); (case side2 => exact (Kd.S_reads' HO_3.out).2.1); (case side3 => repeat (first | exact (Kd.R_reads' HO_4.out).2.2 | (with_reducible refine Kd.C_alloc ?_ _) | (with_reducible refine Kd.C_drewN ?_ _) | (with_reducible refine Kd.C_drew ?_))); (case side4 => exact (Kd.R_reads' HO_4.out).2.1); rintro e w' ⟨rfl, ⟨nd, rfl⟩⟩))
                go_meet
                case rel => exact ⟨_, (x7_3), (by first | rfl | (simp; done) | (simp [*]; done)), H', ⟨by have := HK1.out; have := HK2.out; have := HK3.out; first | omega | exact Nat.le_refl _⟩, ⟨by (with_reducible repeat (first | apply Kd.S_alloc | apply Kd.S_drewN | apply Kd.S_drew)); exact HO_3.out⟩, ⟨by (with_reducible repeat (first | apply Kd.R_alloc | apply Kd.R_drewN | apply Kd.R_drew)); exact HO_4.out⟩, ⟨by repeat (first | (with_reducible first | exact HB.out | apply below_alloc | apply pw_below_drewN | apply below_drew1) | exact HB.out)⟩⟩
               ·replace c19 := Bool.eq_false_iff.mpr c19
                subst c19
                have H1 : (r13_Of.l2 k3 l0 t189 x4_2 x6_2 (wrap64 (x7_3 + 1))) = some r := by rw [if_neg (show ¬ (false = true) by decide)] at H; exact H
                clear H
                have H := H1
                clear H1
                have H' := Aside0.mk H
                clear H
                obtain ⟨Ao22, co22, eo22⟩ := Kd.R_slice HO_4.out
                subst eo22
                have p198 : 0 ≤ (x7_3 : Int) := of_decide_eq_true (by first | (with_reducible assumption) | assumption)
                have q198 : x7_3 < (x4_2.length : Int) := of_decide_eq_true (by first | (with_reducible assumption) | assumption)
                obtain ⟨ad198, e198, hx198_0⟩ := Kd.at_int (Kd.R_reads' HO_4.out).2.2 x7_3 p198 q198
                cases e198
                replace p198 := eq_true p198
                replace q198 := eq_true q198
                obtain ⟨Ao23, co23, eo23⟩ := Kd.S_slice HO_3.out
                subst eo23
                go_wp2_with (first | (go_at_call 29; (with_reducible refine (r13_ready.calls k3 _ _ t189 _ _ x4_2 x7_3 false _ ?side1 ?side2 ?side3 ?side4 A18.out).mono ?_); (case side1 => repeat (first | exact (Kd.S_reads' HO_3.out).2.2 | (with_reducible refine Kd.C_alloc ?_ _) | (with_reducible refine Kd.C_drewN ?_ _) | (with_reducible refine Kd.C_drew ?_))); (case side2 => exact (Kd.S_reads' HO_3.out).2.1); (case side3 => repeat (first | exact (Kd.R_reads' HO_4.out).2.2 | (with_reducible refine Kd.C_alloc ?_ _) | (with_reducible refine Kd.C_drewN ?_ _) | (with_reducible refine Kd.C_drew ?_))); (case side4 => exact (Kd.R_reads' HO_4.out).2.1); rintro e w' ⟨rfl, ⟨nd, rfl⟩⟩))
                go_roundg k3
                case measure => have := HK1.out; have := HK2.out; have := HK3.out; omega
                case rel => exact ⟨(wrap64 (x7_3 + 1)), (by first | rfl | (simp; done) | (simp [*]; done)), H', ⟨by have := HK1.out; have := HK2.out; have := HK3.out; omega⟩, ⟨by (with_reducible repeat (first | apply Kd.S_alloc | apply Kd.S_drewN | apply Kd.S_drew)); exact HO_3.out⟩, ⟨by (with_reducible repeat (first | apply Kd.R_alloc | apply Kd.R_drewN | apply Kd.R_drew)); exact HO_4.out⟩, ⟨by repeat (first | (with_reducible first | exact HB.out | apply below_alloc | apply pw_below_drewN | apply below_drew1) | exact HB.out)⟩⟩
             ·rw [if_neg c15] at H
              exact absurd H (by simp)
            ·rw [if_neg c14] at H
             exact absurd H (by simp)
           ·rw [if_neg c13] at H
            have c13b0 : decide (x7_3 < (l0.length : Int)) = false := decide_eq_false c13
            clear c13
            (first | rw [c13b0] | (simp only [i64_w, i32_w]; rw [c13b0]) | skip)
            have H' := Aside0.mk H
            clear H
            go_wp2
            go_meet
            case rel => exact ⟨_, (x7_3), (by first | rfl | (simp; done) | (simp [*]; done)), H', ⟨by have := HK1.out; have := HK2.out; have := HK3.out; first | omega | exact Nat.le_refl _⟩, ⟨by (with_reducible repeat (first | apply Kd.S_alloc | apply Kd.S_drewN | apply Kd.S_drew)); exact HO_3.out⟩, ⟨by (with_reducible repeat (first | apply Kd.R_alloc | apply Kd.R_drewN | apply Kd.R_drew)); exact HO_4.out⟩, ⟨by repeat (first | (with_reducible first | exact HB.out | apply below_alloc | apply pw_below_drewN | apply below_drew1) | exact HB.out)⟩⟩
        case rest =>
         clear HC12
         try clear c1
         try clear p1
         try clear q1
         try clear hx1
         try clear c2
         try clear p2
         try clear c3
         try clear p6
         try clear c8
         try clear c8b0
         try clear c9
         try clear c11
         try clear c11b0
         try clear c13
         try clear c13b0
         try clear c14
         try clear c14b0
         try clear c15
         try clear c15b0
         try clear c16
         try clear c16b0
         try clear c17
         try clear c19
         try clear p19
         try clear q19
         try clear hx19
         try clear hx198_0
         try clear p198
         try clear p2
         try clear p6
         try clear q198
         obtain ⟨kq, x7_11, rfl, HA, HJ11, HO_3, HO_4, HB⟩ := hcut
         cases kq with
         | zero => exact absurd HA.out (by simp [r13_Of.j3])
         | succ kj11 =>
          have H := HA.out
          clear HA
          simp only [r13_Of.j3] at H
          by_cases c24 : x7_11 = (l0.length : Int)
          ·rw [if_pos c24] at H
           have c24b0 : (x7_11 == (l0.length : Int)) = true := beq_iff_eq.mpr c24
           have c24b1 : (x7_11 != (l0.length : Int)) = false := bne_eq_false_iff_eq.mpr c24
           clear c24
           obtain rfl := Option.some.inj H
           go_wp2
           go_ret
           exact ⟨_, by first | rfl | (simp [errW_none, errW_some] <;> rfl) | (simp [*, errW_none, errW_some] <;> rfl), by (with_reducible repeat (first | apply Kd.R_alloc | apply Kd.R_drewN | apply Kd.R_drew)); exact HO_4.out, by repeat (first | (with_reducible first | exact HB.out | apply below_alloc | apply pw_below_drewN | apply below_drew1) | exact HB.out)⟩
          ·rw [if_neg c24] at H
           have c24b0 : (x7_11 == (l0.length : Int)) = false := beq_eq_false_iff_ne.mpr c24
           have c24b1 : (x7_11 != (l0.length : Int)) = true := bne_iff_ne.mpr c24
           have H' := Aside0.mk H
           clear H
           go_wp2
           go_loopg [8] kj11 (fun kq v8 w' => ∃ (x4_4 : List Int) (x8_4 : Int), v8 = .int .i64 x8_4 ∧ Aside0 (r13_Of.l3 kq l0 t189 x4_4 x6_2 x7_11 x8_4 = some r) ∧ Aside0 (kq ≤ kj11) ∧ Aside0 (Kd.S (Kd.slice 3 (Kd.int .i64)) 26 w' w.heap.size (fun k_ => some k_ ≠ (u4 : Value).ownBlock) v190 t189) ∧ Aside0 (Kd.R (Kd.int .i64) 3 w' w.heap.size (fun _ => True) u4 x4_4) ∧ Aside0 (Below w.heap.size w w'))
           case atStart => exact ⟨(x4_2), (0), (by first | rfl | (simp; done) | (simp [*]; done)), H', ⟨Nat.le_refl _⟩, ⟨by (with_reducible repeat (first | apply Kd.S_alloc | apply Kd.S_drewN | apply Kd.S_drew)); exact HO_3.out⟩, ⟨by (with_reducible repeat (first | apply Kd.R_alloc | apply Kd.R_drewN | apply Kd.R_drew)); exact HO_4.out⟩, ⟨by repeat (first | (with_reducible first | exact HB.out | apply below_alloc | apply pw_below_drewN | apply below_drew1) | exact HB.out)⟩⟩
           case round =>
            clear H'
            try clear c1
            try clear p1
            try clear q1
            try clear hx1
            try clear c2
            try clear p2
            try clear c3
            try clear p6
            try clear c8
            try clear c8b0
            try clear c9
            try clear c11
            try clear c11b0
            try clear c13
            try clear c13b0
            try clear c14
            try clear c14b0
            try clear c15
            try clear c15b0
            try clear c16
            try clear c16b0
            try clear c17
            try clear c19
            try clear p19
            try clear q19
            try clear hx19
            try clear c24
            try clear c24b0
            try clear c24b1
            try clear hx198_0
            try clear p1
            try clear p19
            try clear p198
            try clear p2
            try clear p6
            try clear q1
            try clear q19
            try clear q198
            obtain ⟨x4_4, x8_4, rfl, HA, HK4, HO_3, HO_4, HB⟩ := hrel
            cases gk with
            | zero => exact absurd HA.out (by simp [r13_Of.l3])
            | succ k4 =>
             have H := HA.out
             clear HA
             simp only [r13_Of.l3] at H
             by_cases c25 : x8_4 < (l0.length : Int)
             ·rw [if_pos c25] at H
              have c25b0 : decide (x8_4 < (l0.length : Int)) = true := decide_eq_true c25
              clear c25
              replace H := Option.bind_eq_some_iff.mp H
              obtain ⟨t200, A260, H⟩ := H
              replace H : (if t200 = true then (if 0 ≤ x8_4 then (if x8_4 < (x4_4.length : Int) then (r13_Of.l3 k4 l0 t189 (x4_4.set (x8_4 : Int).toNat x6_2) x6_2 x7_11 (wrap64 (x8_4 + 1))) else (none)) else (none)) else (r13_Of.l3 k4 l0 t189 x4_4 x6_2 x7_11 (wrap64 (x8_4 + 1)))) = some r := H
              have A26 := Aside0.mk A260
              clear A260
              by_cases c27 : t200 = true
              ·subst c27
               have H1 : (if 0 ≤ x8_4 then (if x8_4 < (x4_4.length : Int) then (r13_Of.l3 k4 l0 t189 (x4_4.set (x8_4 : Int).toNat x6_2) x6_2 x7_11 (wrap64 (x8_4 + 1))) else (none)) else (none)) = some r := by rw [if_pos rfl] at H; exact H
               clear H
               have H := H1
               clear H1
               by_cases c28 : 0 ≤ x8_4
               ·rw [if_pos c28] at H
                have c28b0 : decide (0 ≤ x8_4) = true := decide_eq_true c28
                clear c28
                by_cases c29 : x8_4 < (x4_4.length : Int)
                ·rw [if_pos c29] at H
                 have c29b0 : decide (x8_4 < (x4_4.length : Int)) = true := decide_eq_true c29
                 clear c29
                 obtain ⟨y201, hy201⟩ : ∃ y_ : List Int, y_ = (x4_4.set (x8_4 : Int).toNat x6_2) := ⟨_, rfl⟩
                 replace H : (r13_Of.l3 k4 l0 t189 y201 x6_2 x7_11 (wrap64 (x8_4 + 1))) = some r := by first | (rw [hy201]; with_reducible exact H) | (have H2_ := (Option.bind_some _ _).symm.trans H; rw [hy201]; with_reducible exact H2_) | (have H2_ := (Option.bind_some _ _).symm.trans H; with_reducible exact H2_) | with_reducible exact H | (rw [hy201]; exact H) | exact H
                 have Ny201 := Aside0.mk hy201
                 clear hy201
                 have H' := Aside0.mk H
                 clear H
                 obtain ⟨Ao31, co31, eo31⟩ := Kd.S_slice HO_3.out
                 subst eo31
                 go_wp2_with (first | ((with_reducible refine gate_callee (f := 30) rfl ?_); refine goesL_ (some 63) rfl rfl Try.func30 (by kernel_rfl) rfl #[.slice Ao31 t189.length co31, .int .i64 x7_11, .int .i64 x8_4] rfl (by (try simp only [List.map_toArray, List.map_cons, List.map_nil]); first | done | rfl | (simp only [List.length_drop, List.length_take]; rfl)) ?_; (with_reducible refine (r13_Knot.calls k4 _ _ t189 x7_11 x8_4 true _ ?side1 ?side2 A26.out).mono ?_); (case side1 => repeat (first | exact (Kd.S_reads' HO_3.out).2.2 | (with_reducible refine Kd.C_alloc ?_ _) | (with_reducible refine Kd.C_drewN ?_ _) | (with_reducible refine Kd.C_drew ?_))); (case side2 => exact (Kd.S_reads' HO_3.out).2.1); rintro e w' ⟨rfl, ⟨nd, rfl⟩⟩; refine ⟨_, rfl, ?_⟩; (try (rw [drewN_self wr]; generalize hq_ : World.drewN wr _ = wr; have n0_ : Aside0 (Kd.S (Kd.slice 3 (Kd.int .i64)) 26 wr w.heap.size (fun k_ => some k_ ≠ (u4 : Value).ownBlock) (.slice Ao31 t189.length co31) t189) := ⟨by rw [← hq_]; exact (by (with_reducible repeat (first | apply Kd.S_alloc | apply Kd.S_drewN | apply Kd.S_drew)); exact HO_3.out)⟩; have n1_ : Aside0 (Kd.R (Kd.int .i64) 3 wr w.heap.size (fun _ => True) u4 x4_4) := ⟨by rw [← hq_]; exact (by (with_reducible repeat (first | apply Kd.R_alloc | apply Kd.R_drewN | apply Kd.R_drew)); exact HO_4.out)⟩; have n2_ : Aside0 (Below w.heap.size w wr) := ⟨by rw [← hq_]; exact (by repeat (first | (with_reducible first | exact HB.out | apply below_alloc | apply pw_below_drewN | apply below_drew1) | exact HB.out))⟩; clear HO_3 HO_4 HB hq_; have HO_3 := n0_; have HO_4 := n1_; have HB := n2_; clear n0_ n1_ n2_)); have p30 : 0 ≤ (x8_4 : Int) := of_decide_eq_true (by first | (with_reducible assumption) | assumption); have q30 : (x8_4 : Int) < ((x4_4.length : Int) : Int) := of_decide_eq_true (by first | (with_reducible assumption) | assumption); obtain ⟨go30, co30, eo30, gb30, gl30, cl30, HG30⟩ := Kd.R_form HO_4.out (by omega); (first | cases eo30 | (injection eo30 with ea_ en_ ec_; (first | subst ea_ | (injection ea_ with ea_; subst ea_)); subst ec_; clear en_)); have GB30 := Aside0.mk gb30; have GG30 := Aside0.mk HG30; clear gb30 gl30 HG30; obtain ⟨hx30_0, hf30_0⟩ := Kd.R_celln 0 HO_4.out (x8_4 : Int) p30 q30; replace p30 := eq_true p30; replace q30 := eq_true q30; obtain ⟨hy32_, hz32_⟩ := Kd.R_celln 0 HO_4.out (x8_4 : Int) (of_decide_eq_true (by first | (with_reducible assumption) | assumption)) (of_decide_eq_true (by first | (with_reducible assumption) | assumption)); have HP32 := Kd.R_putg HO_4.out (x8_4 : Int) x6_2) | ((with_reducible refine gate_store (t := 3) (p := 67) rfl ?_); refine store_event (t := 3) (p := 67) (v := ?vo_w33) (w1 := (wr.setCell ⟨go30, (x8_4 : Int).toNat, none⟩ (.int .i64 x6_2))) ?hg ?ho ?hn ?hr ?_; (case ho => rfl); (case hg => rfl); (case hn => rfl); (case hr => first | (go_simp; done) | (go_simp; rfl)); intro w33 hw; have hg : wr.grownBy w33 (some go30) := (by rw [hw]; exact HP32.2); have hp_ : Kd.R (Kd.int .i64) 3 w33 w.heap.size (fun _ => True) (.slice (some ⟨go30, 0, none⟩) x4_4.length co30) y201 := (by rw [hw, Ny201.out]; exact HP32.1); clear HP32; have n0_ := Aside0.mk (Kd.S_after (v := (.slice (some ⟨go30, 0, none⟩) x4_4.length co30)) (v1 := (.slice (some ⟨go30, 0, none⟩) x4_4.length co30)) (ok := (fun _ => True)) (by (with_reducible repeat (first | apply Kd.S_alloc | apply Kd.S_drewN | apply Kd.S_drew)); exact Kd.S_mono HO_3.out (fun _ hk => ⟨trivial, hk⟩)) hg (.inl rfl)); have n1_ := Aside0.mk (hp_); have n2_ := Aside0.mk ((by rw [hw]; exact below_set (HB.out) GB30.out : Below w.heap.size w w33)); clear HO_3; clear HO_4; clear HB; have HO_3 := n0_; have HO_4 := n1_; have HB := n2_; clear n0_ n1_ n2_; clear hg hw hp_))
                 go_roundg k4
                 case measure => have := HK1.out; have := HK2.out; have := HJ11.out; have := HK4.out; omega
                 case rel => exact ⟨(y201), (wrap64 (x8_4 + 1)), (by first | rfl | (simp; done) | (simp [*]; done)), H', ⟨by have := HK1.out; have := HK2.out; have := HJ11.out; have := HK4.out; omega⟩, ⟨by (with_reducible repeat (first | apply Kd.S_alloc | apply Kd.S_drewN | apply Kd.S_drew)); exact Kd.S_mono HO_3.out (fun _ hk => hk.2)⟩, ⟨by (with_reducible repeat (first | apply Kd.R_alloc | apply Kd.R_drewN | apply Kd.R_drew)); exact HO_4.out⟩, ⟨by repeat (first | (with_reducible first | exact HB.out | apply below_alloc | apply pw_below_drewN | apply below_drew1) | exact HB.out)⟩⟩
                ·rw [if_neg c29] at H
                 exact absurd H (by simp)
               ·rw [if_neg c28] at H
                exact absurd H (by simp)
              ·replace c27 := Bool.eq_false_iff.mpr c27
               subst c27
               have H1 : (r13_Of.l3 k4 l0 t189 x4_4 x6_2 x7_11 (wrap64 (x8_4 + 1))) = some r := by rw [if_neg (show ¬ (false = true) by decide)] at H; exact H
               clear H
               have H := H1
               clear H1
               have H' := Aside0.mk H
               clear H
               obtain ⟨Ao34, co34, eo34⟩ := Kd.S_slice HO_3.out
               subst eo34
               go_wp2_with (first | ((with_reducible refine gate_callee (f := 30) rfl ?_); refine goesL_ (some 63) rfl rfl Try.func30 (by kernel_rfl) rfl #[.slice Ao34 t189.length co34, .int .i64 x7_11, .int .i64 x8_4] rfl (by (try simp only [List.map_toArray, List.map_cons, List.map_nil]); first | done | rfl | (simp only [List.length_drop, List.length_take]; rfl)) ?_; (with_reducible refine (r13_Knot.calls k4 _ _ t189 x7_11 x8_4 false _ ?side1 ?side2 A26.out).mono ?_); (case side1 => repeat (first | exact (Kd.S_reads' HO_3.out).2.2 | (with_reducible refine Kd.C_alloc ?_ _) | (with_reducible refine Kd.C_drewN ?_ _) | (with_reducible refine Kd.C_drew ?_))); (case side2 => exact (Kd.S_reads' HO_3.out).2.1); rintro e w' ⟨rfl, ⟨nd, rfl⟩⟩; refine ⟨_, rfl, ?_⟩))
               go_roundg k4
               case measure => have := HK1.out; have := HK2.out; have := HJ11.out; have := HK4.out; omega
               case rel => exact ⟨(x4_4), (wrap64 (x8_4 + 1)), (by first | rfl | (simp; done) | (simp [*]; done)), H', ⟨by have := HK1.out; have := HK2.out; have := HJ11.out; have := HK4.out; omega⟩, ⟨by (with_reducible repeat (first | apply Kd.S_alloc | apply Kd.S_drewN | apply Kd.S_drew)); exact HO_3.out⟩, ⟨by (with_reducible repeat (first | apply Kd.R_alloc | apply Kd.R_drewN | apply Kd.R_drew)); exact HO_4.out⟩, ⟨by repeat (first | (with_reducible first | exact HB.out | apply below_alloc | apply pw_below_drewN | apply below_drew1) | exact HB.out)⟩⟩
             ·rw [if_neg c25] at H
              have c25b0 : decide (x8_4 < (l0.length : Int)) = false := decide_eq_false c25
              clear c25
              have H' := Aside0.mk H
              clear H
              go_wp2
              go_roundg k4
              case measure => have := HK1.out; have := HK2.out; have := HJ11.out; have := HK4.out; omega
              case rel => exact ⟨(x4_4), (wrap64 (x6_2 + 1)), (by first | rfl | (simp; done) | (simp [*]; done)), H', ⟨by have := HK1.out; have := HK2.out; have := HJ11.out; have := HK4.out; omega⟩, ⟨by (with_reducible repeat (first | apply Kd.S_alloc | apply Kd.S_drewN | apply Kd.S_drew)); exact HO_3.out⟩, ⟨by (with_reducible repeat (first | apply Kd.R_alloc | apply Kd.R_drewN | apply Kd.R_drew)); exact HO_4.out⟩, ⟨by repeat (first | (with_reducible first | exact HB.out | apply below_alloc | apply pw_below_drewN | apply below_drew1) | exact HB.out)⟩⟩
       ·rw [if_neg c11] at H
        have c11b0 : decide (x6_2 < (l0.length : Int)) = false := decide_eq_false c11
        clear c11
        obtain rfl := Option.some.inj H
        go_wp2
        go_ret
        exact ⟨_, by first | rfl | (simp [errW_none, errW_some] <;> rfl) | (simp [*, errW_none, errW_some] <;> rfl), by (with_reducible repeat (first | apply Kd.R_alloc | apply Kd.R_drewN | apply Kd.R_drew)); exact HO_4.out, by repeat (first | (with_reducible first | exact HB.out | apply below_alloc | apply pw_below_drewN | apply below_drew1) | exact HB.out)⟩
 ·replace c3 := Bool.eq_false_iff.mpr c3
  subst c3
  have H1 : (some ([] : List Int)) = some r := by rw [if_neg (show ¬ (false = true) by decide)] at H; exact H
  clear H
  have H := H1
  clear H1
  obtain rfl := Option.some.inj H
  go_enter Try.func11, Try.ntmps11
  go_wp2_with (first | ((with_reducible refine gate_callee (f := 17) rfl ?_); refine goesL_ (some 10) rfl rfl Try.func17 (by kernel_rfl) rfl #[.slice A0 l0.length c0] rfl (by (try simp only [List.map_toArray, List.map_cons, List.map_nil]); first | done | rfl | (simp only [List.length_drop, List.length_take]; rfl)) ?_; (with_reducible refine (r12_May.calls k _ _ l0 false _ ?side1 ?side2 A2.out).mono ?_); (case side1 => repeat (first | exact HR0.out | (with_reducible refine Kd.C_alloc ?_ _) | (with_reducible refine Kd.C_drewN ?_ _) | (with_reducible refine Kd.C_drew ?_))); (case side2 => exact HC0.out); rintro e w' ⟨rfl, ⟨nd, rfl⟩⟩; refine ⟨_, rfl, ?_⟩))
  go_ret
  exact ⟨_, by first | rfl | (simp [errW_none, errW_some] <;> rfl) | (simp [*, errW_none, errW_some] <;> rfl), by first | exact Kd.R_nil _ _ _ _ _ | exact Kd.N_nil _ _ _ _ _ | exact Kd.V_nil _ _ _ _ _ | exact Kd.Q_nil _ _ _ _ _ | exact Kd.S_nil _ _ _ _ _, by repeat (first | (with_reducible first | exact HB.out | apply below_alloc | apply pw_below_drewN | apply below_drew1) | exact HB.out)⟩
def r13_Many.l0 : Nat → List Int → Int → Int → Option (Int)
  | 0, _, _, _ => none
  | k + 1, x3, x4, x5 => if x5 < (x3.length : Int) then (if 0 ≤ x5 then (r13_Many.l0 k x3 (mx x4 (wrap64 ((rd x3 x5) + 1))) (wrap64 (x5 + 1))) else (none)) else (some x4)
def r13_Many.f (k : Nat) (l0 : List (List Int)) : Option (Int) := (r13_Of.f k l0).bind fun t202 => (r13_Many.l0 k t202 0 0)
set_option maxHeartbeats 8000000 in
set_option maxRecDepth 100000 in
theorem r13_Many.calls (k : Nat) (A0 : Option Addr) (c0 : Nat) (l0 : List (List Int)) (r : Int) (w : World) (hr0 : Kd.C (Kd.slice 3 (Kd.int .i64)) w A0 l0.length l0) (hc0 : l0.length ≤ c0) (h : r13_Many.f k l0 = some r) :
    Calls Try.prog 13 #[.slice A0 l0.length c0] w fun e w' => e = .returned (.int .i64 r) ∧ Below w.heap.size w w' := by
 have HR0 := Aside0.mk hr0
 have HC0 := Aside0.mk hc0
 clear hr0 hc0
 have HB := Aside0.mk (Below.refl w.heap.size w)
 have H : ((r13_Of.f k l0).bind fun t202 => (r13_Many.l0 k t202 0 0)) = some r := h
 clear h
 replace H := Option.bind_eq_some_iff.mp H
 obtain ⟨t202, A20, H⟩ := H
 replace H : (r13_Many.l0 k t202 0 0) = some r := H
 have A2 := Aside0.mk A20
 clear A20
 have H' := Aside0.mk H
 clear H
 go_enter Try.func13, Try.ntmps13
 go_wp2_with (first | ((with_reducible refine gate_callee (f := 11) rfl ?_); refine goesL_ (some 7) rfl rfl Try.func11 (by kernel_rfl) rfl #[.slice A0 l0.length c0] rfl (by (try simp only [List.map_toArray, List.map_cons, List.map_nil]); first | done | rfl | (simp only [List.length_drop, List.length_take]; rfl)) ?_; (with_reducible refine (r13_Of.calls k _ _ l0 t202 _ ?side1 ?side2 A2.out).mono ?_); (case side1 => repeat (first | exact HR0.out | (with_reducible refine Kd.C_alloc ?_ _) | (with_reducible refine Kd.C_drewN ?_ _) | (with_reducible refine Kd.C_drew ?_))); (case side2 => exact HC0.out); rintro e w3 ⟨v203, rfl, ho0, hb⟩; refine ⟨_, rfl, ?_⟩; have n0_ := Aside0.mk (Kd.R_lower ho0 (below_size (by repeat (first | (with_reducible first | exact HB.out | apply below_alloc | apply pw_below_drewN | apply below_drew1) | exact HB.out)))); have n1_ := Aside0.mk (below_step (by repeat (first | (with_reducible first | exact HB.out | apply below_alloc | apply pw_below_drewN | apply below_drew1) | exact HB.out)) hb); clear HB; have HO204 := n0_; have HB := n1_; clear n0_ n1_; (try clear hb); (try clear hb2); (try clear hk); (try clear hi); (try clear ho0)))
 go_loopg [4, 5] k (fun kq v4 v5 w' => ∃ (x4_1 : Int) (x5_1 : Int), v4 = .int .i64 x4_1 ∧ v5 = .int .i64 x5_1 ∧ Aside0 (r13_Many.l0 kq t202 x4_1 x5_1 = some r) ∧ Aside0 (kq ≤ k) ∧ Aside0 (Kd.R (Kd.int .i64) 3 w' w.heap.size (fun _ => True) v203 t202) ∧ Aside0 (Below w.heap.size w w'))
 case atStart => exact ⟨(0), (0), (by first | rfl | (simp; done) | (simp [*]; done)), (by first | rfl | (simp; done) | (simp [*]; done)), H', ⟨Nat.le_refl _⟩, ⟨by (with_reducible repeat (first | apply Kd.R_alloc | apply Kd.R_drewN | apply Kd.R_drew)); exact HO204.out⟩, ⟨by repeat (first | (with_reducible first | exact HB.out | apply below_alloc | apply pw_below_drewN | apply below_drew1) | exact HB.out)⟩⟩
 case round =>
  clear H'
  try clear c1
  try clear p2
  obtain ⟨x4_1, x5_1, rfl, rfl, HA, HK1, HO_3, HB⟩ := hrel
  cases gk with
  | zero => exact absurd HA.out (by simp [r13_Many.l0])
  | succ k1 =>
   have H := HA.out
   clear HA
   simp only [r13_Many.l0] at H
   by_cases c4 : x5_1 < (t202.length : Int)
   ·rw [if_pos c4] at H
    have c4b0 : decide (x5_1 < (t202.length : Int)) = true := decide_eq_true c4
    clear c4
    by_cases c5 : 0 ≤ x5_1
    ·rw [if_pos c5] at H
     have c5b0 : decide (0 ≤ x5_1) = true := decide_eq_true c5
     clear c5
     obtain ⟨ji6, hji6⟩ : ∃ j_ : Int, (mx x4_1 (wrap64 ((rd t202 x5_1) + 1))) = j_ := ⟨_, rfl⟩
     replace H : (r13_Many.l0 k1 t202 ji6 (wrap64 (x5_1 + 1))) = some r := by first | (rw [hji6] at H; exact H) | (simp only [hji6] at H ⊢; exact H)
     have hji6_ : (if x4_1 < (wrap64 ((rd t202 x5_1) + 1)) then (wrap64 ((rd t202 x5_1) + 1)) else x4_1) = ji6 := hji6
     have H' := Aside0.mk H
     clear H
     obtain ⟨Ao7, co7, eo7⟩ := Kd.R_slice HO_3.out
     subst eo7
     have p205 : 0 ≤ (x5_1 : Int) := of_decide_eq_true (by first | (with_reducible assumption) | assumption)
     have q205 : x5_1 < (t202.length : Int) := of_decide_eq_true (by first | (with_reducible assumption) | assumption)
     obtain ⟨ad205, e205, hx205_0⟩ := Kd.at_int (Kd.R_reads' HO_3.out).2.2 x5_1 p205 q205
     cases e205
     replace p205 := eq_true p205
     replace q205 := eq_true q205
     go_wp2
     go_roundg k1
     case measure => have := HK1.out; omega
     case rel => exact ⟨(ji6), (wrap64 (x5_1 + 1)), (by first | rfl | (simp; done) | (simp only [← hji6] <;> (first | rfl | simp)) | (simp [*]; done)), (by first | rfl | (simp; done) | (simp [*]; done)), H', ⟨by have := HK1.out; omega⟩, ⟨by (with_reducible repeat (first | apply Kd.R_alloc | apply Kd.R_drewN | apply Kd.R_drew)); exact HO_3.out⟩, ⟨by repeat (first | (with_reducible first | exact HB.out | apply below_alloc | apply pw_below_drewN | apply below_drew1) | exact HB.out)⟩⟩
    ·rw [if_neg c5] at H
     exact absurd H (by simp)
   ·rw [if_neg c4] at H
    have c4b0 : decide (x5_1 < (t202.length : Int)) = false := decide_eq_false c4
    clear c4
    obtain rfl := Option.some.inj H
    obtain ⟨Ao8, co8, eo8⟩ := Kd.R_slice HO_3.out
    subst eo8
    go_wp2
    go_ret
    exact ⟨by first | rfl | (simp [errW_none, errW_some] <;> rfl) | (simp [*, errW_none, errW_some] <;> rfl), by repeat (first | (with_reducible first | exact HB.out | apply below_alloc | apply pw_below_drewN | apply below_drew1) | exact HB.out)⟩
end Go.Proofs.Ytejhejpkfjhmkaa.Pr

namespace Go.Proofs.Ytejhejpkfjhmkaa.Man
open Go.RowKit Go.Proofs.Ytejhejpkfjhmkaa.Pr Go.Proofs.YtejhejpkfjhmkaaW.PrintWords
set_option linter.unusedVariables false
set_option linter.unusedSimpArgs false
theorem wz (n : Nat) (h : n < 9223372036854775807) : wrap64 ((n : Int) + 1) = ((n + 1 : Nat) : Int) := by simp only [wrap64]; omega
inductive GRch (g : List (List Int)) (a : Nat) : Nat → Prop
  | refl : GRch g a a
  | step {b : Nat} {m : Int} : GRch g a b → m ∈ g.getD b [] → GRch g a m.toNat
theorem GRch.trans {g : List (List Int)} {a b c : Nat} (h : GRch g a b) (k : GRch g b c) : GRch g a c := by
  induction k with
  | refl => exact h
  | step _ hm ih => exact .step ih hm
def On (seen : List Bool) (v : Nat) : Prop := seen[v]? = some true
theorem on_set {l : List Bool} {n v : Nat} (h : On l v) : On (l.set n true) v := by
  unfold On at *
  rw [List.getElem?_set]
  split
  · rename_i e; subst e
    rw [if_pos (by have := (List.getElem?_eq_some_iff.1 h).1; exact this)]
  · exact h
theorem on_of_set {l : List Bool} {n v : Nat} (h : On (l.set n true) v) : v = n ∨ On l v := by
  unfold On at *
  rw [List.getElem?_set] at h
  split at h
  · rename_i e; exact .inl e.symm
  · exact .inr h
theorem off_set : ∀ (l : List Bool) (n : Nat), l[n]? = some false → ((l.set n true).filter (fun x => !x)).length + 1 = (l.filter (fun x => !x)).length := by
  intro l
  induction l with
  | nil => intro n h; simp at h
  | cons x r ih =>
    intro n h
    cases n with
    | zero => simp at h; subst h; simp
    | succ n =>
      have h2 := ih n (by simpa using h)
      cases x <;> simp_all <;> omega
def pick (s : List Bool) (j : Nat) : List Int := ((List.range j).filter (fun v => s.getD v false)).map Int.ofNat
theorem pick_on {s : List Bool} {j : Nat} (h : s[j]? = some true) : pick s (j + 1) = pick s j ++ [(j : Int)] := by
  unfold pick
  rw [List.range_succ, List.filter_append, List.map_append]
  simp [List.getD_eq_getElem?_getD, h]
theorem pick_off {s : List Bool} {j : Nat} (h : s[j]? = some false) : pick s (j + 1) = pick s j := by
  unfold pick
  rw [List.range_succ, List.filter_append, List.map_append]
  simp [List.getD_eq_getElem?_getD, h]
open Classical in
noncomputable def reachL (g : List (List Int)) (n : Nat) : List Int := ((List.range g.length).filter (fun v => decide (GRch g n v))).map Int.ofNat
theorem pm (n : Nat) (h : n ≤ 1050000) : wrap64 (((n + 1 : Nat) : Int) - 1) = (n : Int) := by simp only [wrap64]; omega
def Sm (g : List (List Int)) : Prop := g.length ≤ 1050000 ∧ ∀ i : Nat, (g.getD i []).length ≤ 1050000
def okAt (N : Nat) (r : List Int) (j : Nat) : Bool := !(decide (rd r (j : Int) < 0)) && (!(decide (rd r (j : Int) ≥ (N : Int))) && (decide (j = 0) || !(decide (rd r (((j - 1 : Nat)) : Int) ≥ rd r (j : Int)))))
def rowTail (N : Nat) (r : List Int) : Nat → Nat → Bool
  | 0, _ => true
  | m + 1, j => okAt N r j && rowTail N r m (j + 1)
def allTail (g : List (List Int)) : Nat → Nat → Bool
  | 0, _ => decide ((g.length : Int) ≤ 1000)
  | m + 1, i => rowTail g.length (g.getD i []) (g.getD i []).length 0 && allTail g m (i + 1)
def mayB (g : List (List Int)) : Bool := allTail g g.length 0
theorem rdLg (g : List (List Int)) (i : Nat) : rd_L1 g (i : Int) = g.getD i [] := rfl
theorem rmay_row (g : List (List Int)) (hs : Sm g) (i : Nat) (hi : i < g.length) (b : Bool) (h : Ev (fun k => r12_May.l0 k g ((i + 1 : Nat) : Int)) b) :
    ∀ m j : Nat, j + m = (g.getD i []).length → Ev (fun k => r12_May.l1 k g (i : Int) (j : Int)) (rowTail g.length (g.getD i []) m j && b) := by
  have hr := hs.2 i
  have hn := hs.1
  have c1 : 0 ≤ (i : Int) := Int.natCast_nonneg i
  have c2 : (i : Int) < (g.length : Int) := Int.ofNat_lt.2 hi
  intro m
  induction m with
  | zero =>
    intro j hj
    refine Ev.step ?_
    have c3 : ¬ (j : Int) < ((g.getD i []).length : Int) := by omega
    simp only [r12_May.l1, if_pos c1, if_pos c2, rdLg, if_neg c3, pz i (by omega), rowTail, Bool.true_and]
    exact h
  | succ m ih =>
    intro j hj
    have e := ih (j + 1) (by omega)
    refine Ev.step ?_
    have c3 : (j : Int) < ((g.getD i []).length : Int) := by omega
    have c4 : 0 ≤ (j : Int) := Int.natCast_nonneg j
    simp only [r12_May.l1, if_pos c1, if_pos c2, rdLg, if_pos c3, if_pos c4, pz j (by omega), rowTail, okAt]
    by_cases d1 : rd (g.getD i []) (j : Int) < 0
    · simp only [if_pos d1, decide_eq_true d1, Bool.not_true, Bool.false_and]; exact Ev.const _
    · by_cases d2 : rd (g.getD i []) (j : Int) ≥ (g.length : Int)
      · simp only [if_neg d1, decide_eq_false d1, if_pos d2, decide_eq_true d2, Bool.not_true, Bool.not_false, Bool.false_and, Bool.and_false]; exact Ev.const _
      · cases j with
        | zero =>
          simp only [if_neg d1, decide_eq_false d1, if_neg d2, decide_eq_false d2, Bool.not_false, Bool.true_and, if_neg (show ¬ ((0 : Nat) : Int) > 0 by decide), decide_true, Bool.true_or]
          exact e
        | succ j' =>
          have c5 : (((j' + 1 : Nat)) : Int) > 0 := by omega
          have c6 : 0 ≤ ((j' : Nat) : Int) := Int.natCast_nonneg j'
          have c7 : ((j' : Nat) : Int) < ((g.getD i []).length : Int) := by omega
          simp only [if_neg d1, decide_eq_false d1, if_neg d2, decide_eq_false d2, Bool.not_false, Bool.true_and, if_pos c5, pm j' (by omega), if_pos c6, if_pos c7, Nat.add_sub_cancel, decide_eq_false (show ¬ j' + 1 = 0 by omega), Bool.false_or]
          by_cases d3 : rd (g.getD i []) (j' : Int) ≥ rd (g.getD i []) (((j' + 1 : Nat)) : Int)
          · simp only [if_pos d3, decide_eq_true d3, Bool.not_true, Bool.false_and]; exact Ev.const _
          · simp only [if_neg d3, decide_eq_false d3, Bool.not_false, Bool.true_and]; exact e
theorem rmay_ev (g : List (List Int)) (hs : Sm g) : Ev (fun k => r12_May.f k g) (mayB g) := by
  have main : ∀ m i : Nat, i + m = g.length → Ev (fun k => r12_May.l0 k g (i : Int)) (allTail g m i) := by
    intro m
    induction m with
    | zero =>
      intro i hi
      refine Ev.step ?_
      have c : ¬ (i : Int) < (g.length : Int) := by omega
      simp only [r12_May.l0, if_neg c, allTail]
      exact Ev.const _
    | succ m ih =>
      intro i hi
      refine Ev.step ?_
      have c : (i : Int) < (g.length : Int) := by omega
      simp only [r12_May.l0, if_pos c, allTail]
      exact rmay_row g hs i (by omega) _ (ih (i + 1) (by omega)) _ 0 (by omega)
  exact main g.length 0 (by omega)
theorem gmay_row (g : List (List Int)) (hs : Sm g) (i : Nat) (hi : i < g.length) (b : Bool) (h : Ev (fun k => graph_May.l0 k g g (g.length : Int) ((i + 1 : Nat) : Int)) b) :
    ∀ m j : Nat, j + m = (g.getD i []).length → Ev (fun k => graph_May.l1 k g (g.getD i []) g (g.length : Int) (i : Int) (g.getD i []) ((g.getD i []).length : Int) (j : Int)) (rowTail g.length (g.getD i []) m j && b) := by
  have hr := hs.2 i
  have hn := hs.1
  intro m
  induction m with
  | zero =>
    intro j hj
    refine Ev.step ?_
    have c3 : ¬ (j : Int) < ((g.getD i []).length : Int) := by omega
    simp only [graph_May.l1, if_neg c3, pz i (by omega), rowTail, Bool.true_and]
    exact h
  | succ m ih =>
    intro j hj
    have e := ih (j + 1) (by omega)
    refine Ev.step ?_
    have c3 : (j : Int) < ((g.getD i []).length : Int) := by omega
    have c4 : 0 ≤ (j : Int) := Int.natCast_nonneg j
    simp only [graph_May.l1, if_pos c3, if_pos c4, pz j (by omega), rowTail, okAt]
    by_cases d1 : rd (g.getD i []) (j : Int) < 0
    · simp only [if_pos d1, decide_eq_true d1, Bool.not_true, Bool.false_and]; exact Ev.const _
    · by_cases d2 : rd (g.getD i []) (j : Int) ≥ (g.length : Int)
      · simp only [if_neg d1, decide_eq_false d1, if_pos d2, decide_eq_true d2, Bool.not_true, Bool.not_false, Bool.false_and, Bool.and_false]; exact Ev.const _
      · cases j with
        | zero =>
          simp only [if_neg d1, decide_eq_false d1, if_neg d2, decide_eq_false d2, Bool.not_false, Bool.true_and, if_neg (show ¬ ((0 : Nat) : Int) > 0 by decide), decide_true, Bool.true_or]
          exact e
        | succ j' =>
          have c5 : (((j' + 1 : Nat)) : Int) > 0 := by omega
          have c6 : 0 ≤ ((j' : Nat) : Int) := Int.natCast_nonneg j'
          have c7 : ((j' : Nat) : Int) < ((g.getD i []).length : Int) := by omega
          simp only [if_neg d1, decide_eq_false d1, if_neg d2, decide_eq_false d2, Bool.not_false, Bool.true_and, if_pos c5, pm j' (by omega), if_pos c6, if_pos c7, Nat.add_sub_cancel, decide_eq_false (show ¬ j' + 1 = 0 by omega), Bool.false_or]
          by_cases d3 : rd (g.getD i []) (j' : Int) ≥ rd (g.getD i []) (((j' + 1 : Nat)) : Int)
          · simp only [if_pos d3, decide_eq_true d3, Bool.not_true, Bool.false_and]; exact Ev.const _
          · simp only [if_neg d3, decide_eq_false d3, Bool.not_false, Bool.true_and]; exact e
theorem gmay_ev (g : List (List Int)) (hs : Sm g) : Ev (fun k => graph_May.f k g) (mayB g) := by
  have main : ∀ m i : Nat, i + m = g.length → Ev (fun k => graph_May.l0 k g g (g.length : Int) (i : Int)) (allTail g m i) := by
    intro m
    induction m with
    | zero =>
      intro i hi
      refine Ev.step ?_
      have c : ¬ (i : Int) < (g.length : Int) := by omega
      simp only [graph_May.l0, if_neg c, allTail]
      exact Ev.const _
    | succ m ih =>
      intro i hi
      refine Ev.step ?_
      have c : (i : Int) < (g.length : Int) := by omega
      have c0 : 0 ≤ (i : Int) := Int.natCast_nonneg i
      simp only [graph_May.l0, if_pos c, if_pos c0, rdLg, allTail]
      exact gmay_row g hs i (by omega) _ (ih (i + 1) (by omega)) _ 0 (by omega)
  exact main g.length 0 (by omega)
theorem rowTail_spec {N : Nat} {r : List Int} : ∀ (m j : Nat), rowTail N r m j = true → ∀ i, j ≤ i → i < j + m → 0 ≤ rd r (i : Int) ∧ rd r (i : Int) < N ∧ (i ≠ 0 → rd r ((i - 1 : Nat) : Int) < rd r (i : Int)) := by
  intro m
  induction m with
  | zero => intro j _ i h1 h2; omega
  | succ m ih =>
    intro j h i h1 h2
    simp only [rowTail, Bool.and_eq_true] at h
    by_cases e : i = j
    · subst e
      have h3 := h.1
      simp only [okAt, Bool.and_eq_true, Bool.or_eq_true, Bool.not_eq_true', decide_eq_true_eq, decide_eq_false_iff_not] at h3
      exact ⟨by omega, by omega, fun h0 => by rcases h3.2.2 with h4 | h4 <;> omega⟩
    · exact ih (j + 1) h.2 i (by omega) (by omega)
theorem allTail_spec {g : List (List Int)} : ∀ (m i : Nat), i + m = g.length → allTail g m i = true → g.length ≤ 1000 ∧ ∀ v, i ≤ v → v < g.length → rowTail g.length (g.getD v []) (g.getD v []).length 0 = true := by
  intro m
  induction m with
  | zero =>
    intro i hi h
    simp only [allTail, decide_eq_true_eq] at h
    exact ⟨by omega, fun v h1 h2 => by omega⟩
  | succ m ih =>
    intro i hi h
    simp only [allTail, Bool.and_eq_true] at h
    obtain ⟨q1, q2⟩ := ih (i + 1) (by omega) h.2
    refine ⟨q1, fun v h1 h2 => ?_⟩
    by_cases e : v = i
    · subst e; exact h.1
    · exact q2 v (by omega) h2
theorem mayB_spec {g : List (List Int)} (h : mayB g = true) : g.length ≤ 1000 ∧ (∀ v, v < g.length → ∀ j, j < (g.getD v []).length → 0 ≤ rd (g.getD v []) (j : Int) ∧ rd (g.getD v []) (j : Int) < g.length ∧ (j ≠ 0 → rd (g.getD v []) ((j - 1 : Nat) : Int) < rd (g.getD v []) (j : Int))) := by
  obtain ⟨q1, q2⟩ := allTail_spec g.length 0 (by omega) h
  exact ⟨q1, fun v hv j hj => rowTail_spec _ 0 (q2 v (Nat.zero_le _) hv) j (Nat.zero_le _) (by omega)⟩
theorem rd_of_mem {r : List Int} {m : Int} (h : m ∈ r) : ∃ j, j < r.length ∧ rd r (j : Int) = m := by
  obtain ⟨j, hj, e⟩ := List.getElem_of_mem h
  exact ⟨j, hj, by unfold rd; rw [Int.toNat_natCast, List.getD_eq_getElem?_getD, List.getElem?_eq_getElem hj]; simpa using e⟩
theorem mayB_in {g : List (List Int)} (h : mayB g = true) : ∀ v, v < g.length → ∀ m ∈ g.getD v [], 0 ≤ m ∧ m < g.length := by
  intro v hv m hm
  obtain ⟨j, hj, rfl⟩ := rd_of_mem hm
  have := (mayB_spec h).2 v hv j hj
  exact ⟨this.1, this.2.1⟩
noncomputable def reachF (g : List (List Int)) (n : Int) : List Int := if mayB g = true ∧ 0 ≤ n ∧ n < g.length then reachL g n.toNat else []
end Go.Proofs.Ytejhejpkfjhmkaa.Man

namespace Go.Proofs.Ytejhejpkfjhmkaa.Man
open Go.RowKit Go.Proofs.Ytejhejpkfjhmkaa.Pr Go.Proofs.YtejhejpkfjhmkaaW.PrintWords
set_option linter.unusedVariables false
set_option linter.unusedSimpArgs false
def off (s : List Bool) : Nat := (s.filter (fun b => !b)).length
theorem rdOf_on {s : List Bool} {v : Nat} : rdOf false s (v : Int) = true ↔ On s v := by
  unfold rdOf On
  rw [Int.toNat_natCast, List.getD_eq_getElem?_getD]
  cases s[v]? with
  | none => simp
  | some b => simp
structure RSt (g : List (List Int)) (n : Nat) (s0 s : List Bool) (more : Bool) : Prop where
  len : s.length = g.length
  self : On s n
  rch : ∀ v, On s v → GRch g n v
  le : off s ≤ off s0
  same : more = false → s = s0
  less : more = true → off s < off s0
theorem RSt.step {g : List (List Int)} {n : Nat} {s0 s : List Bool} {more : Bool} (h : RSt g n s0 s more) {i m : Nat} (hi : On s i) (hm : (m : Int) ∈ g.getD i []) (hN : m < g.length) : RSt g n s0 (s.set m true) (more || !(rdOf false s (m : Int))) := by
  by_cases hon : On s m
  · have e : s.set m true = s := by
      apply List.ext_getElem?
      intro k
      rw [List.getElem?_set]
      split
      · rename_i ek; subst ek
        unfold On at hon
        rw [hon]; simp [(List.getElem?_eq_some_iff.1 hon).1]
      · rfl
    rw [e, rdOf_on.2 hon]
    simpa using h
  · have hf : s[m]? = some false := by
      have hl : m < s.length := by rw [h.len]; exact hN
      rw [List.getElem?_eq_getElem hl]
      cases hb : s[m] with
      | false => rfl
      | true => exact absurd (by unfold On; rw [List.getElem?_eq_getElem hl, hb]) hon
    have ho := off_set s m hf
    have hle := h.le
    have hr : rdOf false s (m : Int) = false := by
      cases hb : rdOf false s (m : Int) with
      | false => rfl
      | true => exact absurd (rdOf_on.1 hb) hon
    have h1 : off (s.set m true) < off s0 := by unfold off at *; omega
    rw [hr]
    refine ⟨by rw [List.length_set]; exact h.len, on_set h.self, fun v hv => ?_, Nat.le_of_lt h1, fun e => by simp at e, fun _ => h1⟩
    rcases on_of_set hv with rfl | hv
    · have := GRch.step (h.rch i hi) hm
      rwa [Int.toNat_natCast] at this
    · exact h.rch v hv
def Shut (g : List (List Int)) (s : List Bool) (i : Nat) : Prop := ∀ v, v < i → On s v → ∀ m ∈ g.getD v [], On s m.toNat
section
variable {g : List (List Int)} {n : Nat} {res : List Int} {x7 : Int}
theorem rr_row (hs : Sm g) (hg : ∀ v, v < g.length → ∀ m ∈ g.getD v [], 0 ≤ m ∧ m < g.length) (s0 : List Bool) (i : Nat) (hi : i < g.length)
    (hnext : ∀ s more, RSt g n s0 s more → (more = false → Shut g s (i + 1)) → Ev (fun k => r12_Reach.l2 k g s x7 more ((i + 1 : Nat) : Int)) res) :
    ∀ m j : Nat, j + m = (g.getD i []).length → ∀ s more, RSt g n s0 s more → (more = false → Shut g s i ∧ ∀ x ∈ (g.getD i []).take j, On s i → On s x.toNat) → Ev (fun k => r12_Reach.l3 k g s x7 more (i : Int) (j : Int)) res := by
  have hr := hs.2 i
  have hn := hs.1
  have c1 : 0 ≤ (i : Int) := Int.natCast_nonneg i
  have c2 : (i : Int) < (g.length : Int) := Int.ofNat_lt.2 hi
  have fin : ∀ s more, RSt g n s0 s more → (more = false → Shut g s i ∧ (On s i → ∀ x ∈ g.getD i [], On s x.toNat)) → Ev (fun k => r12_Reach.l2 k g s x7 more ((i + 1 : Nat) : Int)) res := by
    intro s more h hc
    refine hnext s more h (fun e => ?_)
    obtain ⟨q1, q2⟩ := hc e
    intro v hv hon m hm
    by_cases ev : v = i
    · subst ev; exact q2 hon m hm
    · exact q1 v (by omega) hon m hm
  intro m
  induction m with
  | zero =>
    intro j hj s more h hc
    refine Ev.step ?_
    have c3 : ¬ (j : Int) < ((g.getD i []).length : Int) := by omega
    simp only [r12_Reach.l3, if_pos c1, if_pos c2, rdLg, if_neg c3, pz i (by omega)]
    exact fin s more h (fun e => ⟨(hc e).1, fun hon x hx => (hc e).2 x (by rw [List.take_of_length_le (by omega)]; exact hx) hon⟩)
  | succ m ih =>
    intro j hj s more h hc
    refine Ev.step ?_
    have hjl : j < (g.getD i []).length := by omega
    have c3 : (j : Int) < ((g.getD i []).length : Int) := by omega
    have c4 : (i : Int) < (s.length : Int) := by rw [h.len]; exact c2
    have c5 : 0 ≤ (j : Int) := Int.natCast_nonneg j
    by_cases hon : On s i
    · have hmem : (g.getD i [])[j] ∈ g.getD i [] := List.getElem_mem hjl
      obtain ⟨m0, m1⟩ := hg i hi _ hmem
      obtain ⟨x, hx⟩ : ∃ x : Nat, (g.getD i [])[j] = (x : Int) := ⟨((g.getD i [])[j]).toNat, by omega⟩
      have hrd : rd (g.getD i []) (j : Int) = (x : Int) := by
        unfold rd; rw [Int.toNat_natCast, List.getD_eq_getElem?_getD (l := g.getD i []), List.getElem?_eq_getElem hjl]; exact hx
      rw [hx] at hmem m1
      have hxN : x < g.length := by omega
      have d1 : 0 ≤ (x : Int) := Int.natCast_nonneg x
      have d2 : (x : Int) < (s.length : Int) := by rw [h.len]; exact m1
      have hst := h.step hon hmem hxN
      have e := ih (j + 1) (by omega) (s.set x true) (more || !(rdOf false s (x : Int))) hst (fun em => by
        simp only [Bool.or_eq_false_iff, Bool.not_eq_false'] at em
        obtain ⟨e1, e2⟩ := em
        have hsx := rdOf_on.1 e2
        obtain ⟨q1, q2⟩ := hc e1
        refine ⟨fun v hv ho y hy => ?_, fun y hy ho => ?_⟩
        · rcases on_of_set ho with rfl | ho
          · exact on_set (q1 _ hv hsx y hy)
          · exact on_set (q1 v hv ho y hy)
        · rw [List.take_succ_eq_append_getElem hjl, List.mem_append] at hy
          rcases hy with hy | hy
          · exact on_set (q2 y hy hon)
          · simp only [List.mem_singleton] at hy
            rw [hy, hx, Int.toNat_natCast]; exact on_set hsx)
      simp only [r12_Reach.l3, if_pos c1, if_pos c2, rdLg, if_pos c3, if_pos c4, if_pos (rdOf_on.2 hon), if_pos c5, hrd, if_pos d1, if_pos d2, Int.toNat_natCast, pz j (by omega)]
      cases more with
      | true => simp only [if_true]; simpa using e
      | false => simp only [Bool.false_eq_true, if_false]; simpa using e
    · have hoff : ¬ rdOf false s (i : Int) = true := fun e => hon (rdOf_on.1 e)
      simp only [r12_Reach.l3, if_pos c1, if_pos c2, rdLg, if_pos c3, if_pos c4, if_neg hoff, pz i (by omega)]
      exact fin s more h (fun e => ⟨(hc e).1, fun h1 => absurd h1 hon⟩)
theorem rr_round (hs : Sm g) (hg : ∀ v, v < g.length → ∀ m ∈ g.getD v [], 0 ≤ m ∧ m < g.length) (s0 : List Bool)
    (hmore : ∀ s, RSt g n s0 s true → Ev (fun k => r12_Reach.l1 k g s (wrap64 (x7 + 1))) res) (hdone : RSt g n s0 s0 false → Shut g s0 g.length → Ev (fun k => r12_Reach.j5 k g s0) res) :
    ∀ m i : Nat, i + m = g.length → ∀ s more, RSt g n s0 s more → (more = false → Shut g s i) → Ev (fun k => r12_Reach.l2 k g s x7 more (i : Int)) res := by
  intro m
  induction m with
  | zero =>
    intro i hi s more h hc
    refine Ev.step ?_
    have c : ¬ (i : Int) < (g.length : Int) := by omega
    simp only [r12_Reach.l2, if_neg c]
    cases more with
    | true => simp only [if_true]; exact hmore s h
    | false =>
      simp only [Bool.false_eq_true, if_false]
      have e := h.same rfl
      subst e
      exact hdone h (by rw [show g.length = i by omega]; exact hc rfl)
  | succ m ih =>
    intro i hi s more h hc
    refine Ev.step ?_
    have c : (i : Int) < (g.length : Int) := by omega
    simp only [r12_Reach.l2, if_pos c]
    exact rr_row hs hg s0 i (by omega) (fun s' more' h' hc' => ih (i + 1) (by omega) s' more' h' hc') (g.getD i []).length 0 (by omega) s more h (fun e => ⟨hc e, fun x hx => by simp at hx⟩)
end
theorem rr_out (g : List (List Int)) (hs : Sm g) (s : List Bool) (hl : s.length = g.length) : Ev (fun k => r12_Reach.j5 k g s) (pick s g.length) := by
  have hn := hs.1
  have main : ∀ m j : Nat, j + m = g.length → Ev (fun k => r12_Reach.l4 k g s (pick s j) (j : Int)) (pick s g.length) := by
    intro m
    induction m with
    | zero =>
      intro j hj
      refine Ev.step ?_
      have c : ¬ (j : Int) < (g.length : Int) := by omega
      simp only [r12_Reach.l4, if_neg c]
      rw [show j = g.length by omega]; exact Ev.const _
    | succ m ih =>
      intro j hj
      have e := ih (j + 1) (by omega)
      refine Ev.step ?_
      have c : (j : Int) < (g.length : Int) := by omega
      have c0 : 0 ≤ (j : Int) := Int.natCast_nonneg j
      have c1 : (j : Int) < (s.length : Int) := by rw [hl]; exact c
      have hpl : (pick s j).length < 17592186044416 := by
        have : (pick s j).length ≤ j := by
          unfold pick; rw [List.length_map]
          exact Nat.le_trans (List.length_filter_le _ _) (by simp)
        omega
      simp only [r12_Reach.l4, if_pos c, if_pos c0, if_pos c1, if_pos hpl, pz j (by omega)]
      have hj2 : j < s.length := by omega
      by_cases h : On s j
      · rw [pick_on h] at e
        simp only [if_pos (rdOf_on.2 h)]; exact e
      · have hf : s[j]? = some false := by
          rw [List.getElem?_eq_getElem hj2]
          cases hb : s[j] with
          | false => rfl
          | true => exact absurd (by unfold On; rw [List.getElem?_eq_getElem hj2, hb]) h
        rw [pick_off hf] at e
        simp only [if_neg (fun e' => h (rdOf_on.1 e'))]; exact e
  refine Ev.step ?_
  simp only [r12_Reach.j5]
  have := main g.length 0 (by omega)
  simpa [pick] using this
theorem shut_reach {g : List (List Int)} {n : Nat} {s : List Bool} (hr : ∀ v, On s v → GRch g n v) (hn : On s n) (hg : ∀ v, v < g.length → ∀ m ∈ g.getD v [], 0 ≤ m ∧ m < g.length) (hl : s.length = g.length) (hc : Shut g s g.length) : pick s g.length = reachL g n := by
  have hlt : ∀ v, On s v → v < g.length := fun v hv => by
    have := (List.getElem?_eq_some_iff.1 hv).1; omega
  have hon : ∀ v, On s v ↔ GRch g n v := by
    intro v
    constructor
    · exact hr v
    · intro h
      induction h with
      | refl => exact hn
      | step _ hm ih => exact hc _ (hlt _ ih) ih _ hm
  unfold pick reachL
  congr 1
  apply List.filter_congr
  intro v hv'
  have := hon v
  unfold On at this
  rw [List.getD_eq_getElem?_getD]
  cases hs : s[v]? with
  | none => rw [hs] at this; simp at this; simp [this]
  | some b => rw [hs] at this; cases b <;> simp at this <;> simp [this]
theorem rr_rounds (g : List (List Int)) (n : Nat) (hs : Sm g) (hg : ∀ v, v < g.length → ∀ m ∈ g.getD v [], 0 ≤ m ∧ m < g.length) : ∀ (u : Nat) (s : List Bool) (r : Nat), off s ≤ u → s.length = g.length → On s n → (∀ v, On s v → GRch g n v) → r + off s < g.length → Ev (fun k => r12_Reach.l1 k g s (r : Int)) (reachL g n) := by
  have hn := hs.1
  intro u
  induction u using Nat.strongRecOn with
  | _ u ih =>
    intro s r hu hl hself hr hro
    refine Ev.step ?_
    have c : (r : Int) < (g.length : Int) := by omega
    simp only [r12_Reach.l1, if_pos c]
    refine rr_round hs hg s (fun s' h' => ?_) (fun _ hsh => ?_) g.length 0 (by omega) s false ⟨hl, hself, hr, Nat.le_refl _, fun _ => rfl, fun e => by cases e⟩ (fun _ v hv => by omega)
    · rw [pz r (by omega)]
      have hls := h'.less rfl
      exact ih (off s') (by omega) s' (r + 1) (Nat.le_refl _) h'.len h'.self h'.rch (by omega)
    · rw [← shut_reach hr hself hg hl hsh]
      exact rr_out g hs s hl
theorem rr_begin (g : List (List Int)) (n : Nat) (hs : Sm g) (hg : ∀ v, v < g.length → ∀ m ∈ g.getD v [], 0 ≤ m ∧ m < g.length) (hn : n < g.length) : ∀ m i : Nat, i + m = g.length → Ev (fun k => r12_Reach.l0 k g (n : Int) (((List.replicate g.length false).set n true).take i) (i : Int)) (reachL g n) := by
  have hN := hs.1
  obtain ⟨full, hf⟩ : ∃ f, f = (List.replicate g.length false).set n true := ⟨_, rfl⟩
  have hl : full.length = g.length := by rw [hf]; simp
  have hget : ∀ v, v < g.length → full[v]? = some ((v : Int) == (n : Int)) := by
    intro v hv
    rw [hf, List.getElem?_set]
    split
    · rename_i e; subst e; simp [hn]
    · rename_i e
      rw [List.getElem?_replicate, if_pos hv]
      have : ¬ (v : Int) = (n : Int) := by omega
      simp [this]
  have hself : On full n := by unfold On; rw [hget n hn]; simp
  have hr : ∀ v, On full v → GRch g n v := by
    intro v hv
    have hlt : v < g.length := by have := (List.getElem?_eq_some_iff.1 hv).1; omega
    unfold On at hv
    rw [hget v hlt] at hv
    simp at hv
    have : v = n := by omega
    rw [this]; exact .refl
  have hoff : off full + 1 = g.length := by
    have h1 : (List.replicate g.length false)[n]? = some false := by rw [List.getElem?_replicate, if_pos hn]
    have h2 := off_set _ n h1
    rw [← hf] at h2
    unfold off
    rw [h2]
    simp
  rw [← hf]
  intro m
  induction m with
  | zero =>
    intro i hi
    refine Ev.step ?_
    have c : ¬ (i : Int) < (g.length : Int) := by omega
    simp only [r12_Reach.l0, if_neg c]
    rw [List.take_of_length_le (by omega)]
    exact rr_rounds g n hs hg _ full 0 (Nat.le_refl _) hl hself hr (by omega)
  | succ m ih =>
    intro i hi
    have e := ih (i + 1) (by omega)
    refine Ev.step ?_
    have c : (i : Int) < (g.length : Int) := by omega
    have c1 : (full.take i).length < 140737488355328 := by rw [List.length_take]; omega
    simp only [r12_Reach.l0, if_pos c, if_pos c1, pz i (by omega)]
    have ht : full.take (i + 1) = full.take i ++ [((i : Int) == (n : Int))] := by
      rw [List.take_add_one, hget i (by omega)]; rfl
    rw [ht] at e
    exact e
theorem rreach_ev (g : List (List Int)) (hs : Sm g) (n : Int) : Ev (fun k => r12_Reach.f k g n) (reachF g n) := by
  have jt : reachF g n = [] → Ev (fun k => r12_Reach.j0 k g n true) (reachF g n) := by
    intro h
    rw [h]
    refine Ev.step ?_
    simp only [r12_Reach.j0, if_true]
    exact Ev.const _
  refine Ev.bind (rmay_ev g hs) ?_
  cases hb : mayB g with
  | false =>
    simp only [Bool.false_eq_true, if_false]
    exact jt (by unfold reachF; rw [if_neg (by rw [hb]; simp)])
  | true =>
    simp only [if_true]
    by_cases h0 : n < 0
    · simp only [if_pos h0]
      exact jt (by unfold reachF; rw [if_neg (by omega)])
    · simp only [if_neg h0]
      by_cases h1 : n ≥ (g.length : Int)
      · simp only [decide_eq_true h1]
        exact jt (by unfold reachF; rw [if_neg (by omega)])
      · simp only [decide_eq_false h1]
        obtain ⟨m, rfl⟩ : ∃ m : Nat, n = (m : Int) := ⟨n.toNat, by omega⟩
        have e : reachF g (m : Int) = reachL g m := by unfold reachF; rw [if_pos ⟨hb, by omega, by omega⟩, Int.toNat_natCast]
        rw [e]
        refine Ev.step ?_
        simp only [r12_Reach.j0, Bool.false_eq_true, if_false]
        have := rr_begin g m hs (mayB_in hb) (by omega) g.length 0 (by omega)
        simpa using this
end Go.Proofs.Ytejhejpkfjhmkaa.Man

namespace Go.Proofs.Ytejhejpkfjhmkaa.Man
open Go.RowKit Go.Proofs.Ytejhejpkfjhmkaa.Pr Go.Proofs.YtejhejpkfjhmkaaW.PrintWords
set_option linter.unusedVariables false
set_option linter.unusedSimpArgs false
theorem rd_lt {r : List Int} {j : Nat} (h : j < r.length) : rd r (j : Int) = r[j] := by
  unfold rd; rw [Int.toNat_natCast, List.getD_eq_getElem?_getD, List.getElem?_eq_getElem h]; rfl
theorem has_ev (l : List Int) (x : Int) (hl : l.length ≤ 1050000) : Ev (fun k => r12_Has.f k l x) (decide (x ∈ l)) := by
  have main : ∀ m i : Nat, i + m = l.length → Ev (fun k => r12_Has.l0 k l x (i : Int)) (decide (x ∈ l.drop i)) := by
    intro m
    induction m with
    | zero =>
      intro i hi
      refine Ev.step ?_
      have c : ¬ (i : Int) < (l.length : Int) := by omega
      simp only [r12_Has.l0, if_neg c]
      rw [List.drop_of_length_le (by omega)]
      exact Ev.const _
    | succ m ih =>
      intro i hi
      have e := ih (i + 1) (by omega)
      refine Ev.step ?_
      have hi2 : i < l.length := by omega
      have c : (i : Int) < (l.length : Int) := by omega
      have c0 : 0 ≤ (i : Int) := Int.natCast_nonneg i
      simp only [r12_Has.l0, if_pos c, if_pos c0, rd_lt hi2, pz i (by omega)]
      rw [List.drop_eq_getElem_cons hi2]
      by_cases h : l[i] = x
      · simp only [if_pos h]
        rw [show decide (x ∈ l[i] :: l.drop (i + 1)) = true by simp [h]]
        exact Ev.const _
      · simp only [if_neg h]
        have hiff : (x ∈ l[i] :: l.drop (i + 1)) ↔ x ∈ l.drop (i + 1) := by
          rw [List.mem_cons]; exact ⟨fun h' => h'.resolve_left (Ne.symm h), .inr⟩
        simp only [hiff]
        exact e
  have := main l.length 0 (by omega)
  rw [List.drop_zero] at this
  exact this
def col (g : List (List Int)) (t : Nat) (i : Nat) : List Int := ((List.range i).filter (fun k => decide ((t : Int) ∈ g.getD k []))).map Int.ofNat
def turnF (g : List (List Int)) : List (List Int) := if mayB g = true then (List.range g.length).map (fun t => col g t g.length) else []
theorem col_succ (g : List (List Int)) (t i : Nat) : col g t (i + 1) = col g t i ++ (if (t : Int) ∈ g.getD i [] then [(i : Int)] else []) := by
  unfold col
  rw [List.range_succ, List.filter_append, List.map_append]
  by_cases h : (t : Int) ∈ g.getD i []
  · simp only [List.filter_cons, h, decide_true, if_true, List.filter_nil, List.map_cons, List.map_nil]; rfl
  · simp only [List.filter_cons, h, decide_false, if_false, List.filter_nil, List.map_nil, Bool.false_eq_true]
theorem col_len (g : List (List Int)) (t i : Nat) : (col g t i).length ≤ i := by
  unfold col; rw [List.length_map]; exact Nat.le_trans (List.length_filter_le _ _) (by simp)
theorem row_rises {g : List (List Int)} (hm : mayB g = true) {i : Nat} (hi : i < g.length) : ∀ b a : Nat, a < b → b < (g.getD i []).length → rd (g.getD i []) (a : Int) < rd (g.getD i []) (b : Int) := by
  intro b
  induction b with
  | zero => intro a h; omega
  | succ b ih =>
    intro a h1 h2
    have h3 := ((mayB_spec hm).2 i hi (b + 1) h2).2.2 (by omega)
    simp only [Nat.add_sub_cancel] at h3
    by_cases e : a = b
    · subst e; exact h3
    · have := ih a (by omega) (by omega); omega
theorem row_new {g : List (List Int)} (hm : mayB g = true) {i j : Nat} (hi : i < g.length) (hj : j < (g.getD i []).length) : ¬ (g.getD i [])[j] ∈ (g.getD i []).take j := by
  intro h
  obtain ⟨a, ha, e⟩ := List.getElem_of_mem h
  rw [List.length_take] at ha
  rw [List.getElem_take] at e
  have h1 := row_rises hm hi j a (by omega) hj
  rw [rd_lt (by omega), rd_lt hj] at h1
  omega
def part (g : List (List Int)) (i j : Nat) : List (List Int) := (List.range g.length).map (fun t => col g t i ++ (if (t : Int) ∈ (g.getD i []).take j then [(i : Int)] else []))
theorem part_get (g : List (List Int)) (i j t : Nat) (ht : t < g.length) : (part g i j).getD t [] = col g t i ++ (if (t : Int) ∈ (g.getD i []).take j then [(i : Int)] else []) := by
  unfold part
  rw [List.getD_eq_getElem?_getD, List.getElem?_map, List.getElem?_range ht]; rfl
theorem part_step {g : List (List Int)} (hm : mayB g = true) {i j x : Nat} (hi : i < g.length) (hj : j < (g.getD i []).length) (hx : (g.getD i [])[j] = (x : Int)) (hxN : x < g.length) : (part g i j).set x ((part g i j).getD x [] ++ [(i : Int)]) = part g i (j + 1) := by
  have hnew := row_new hm hi hj
  rw [hx] at hnew
  apply List.ext_getElem?
  intro t
  rw [List.getElem?_set]
  have hlen : (part g i j).length = g.length := by unfold part; simp
  by_cases ht : t < g.length
  · have hr : (part g i (j + 1))[t]? = some (col g t i ++ (if (t : Int) ∈ (g.getD i []).take (j + 1) then [(i : Int)] else [])) := by
      unfold part; rw [List.getElem?_map, List.getElem?_range ht]; rfl
    rw [hr, List.take_succ_eq_append_getElem hj, hx]
    split
    · rename_i e; subst e
      rw [if_pos (by rw [hlen]; exact ht), part_get g i j x ht, if_neg hnew, if_pos (by simp), List.append_nil]
    · rename_i e
      have hr2 : (part g i j)[t]? = some (col g t i ++ (if (t : Int) ∈ (g.getD i []).take j then [(i : Int)] else [])) := by
        unfold part; rw [List.getElem?_map, List.getElem?_range ht]; rfl
      rw [hr2]
      have hne : ¬ (t : Int) = (x : Int) := by omega
      by_cases hin : (t : Int) ∈ (g.getD i []).take j
      · rw [if_pos hin, if_pos (List.mem_append.2 (.inl hin))]
      · rw [if_neg hin, if_neg (fun h' => (List.mem_append.1 h').elim hin (fun h'' => hne (List.mem_singleton.1 h'')))]
  · have h1 : (part g i (j + 1))[t]? = none := by rw [List.getElem?_eq_none]; unfold part; simp; omega
    have h2 : (part g i j)[t]? = none := by rw [List.getElem?_eq_none]; rw [hlen]; omega
    rw [h1, if_neg (by omega), h2]
theorem part_next (g : List (List Int)) (i : Nat) : part g i (g.getD i []).length = part g (i + 1) 0 := by
  unfold part
  apply List.map_congr_left
  intro t _
  rw [List.take_length, col_succ]
  simp
theorem gturn_row (g : List (List Int)) (hs : Sm g) (hm : mayB g = true) (i : Nat) (hi : i < g.length) (res : List (List Int)) (h : Ev (fun k => graph_Turn.l0 k (part g (i + 1) 0) g (g.length : Int) ((i + 1 : Nat) : Int)) res) :
    ∀ m j : Nat, j + m = (g.getD i []).length → Ev (fun k => graph_Turn.l1 k (part g i j) (i : Int) g (g.length : Int) (i : Int) (g.getD i []) ((g.getD i []).length : Int) (j : Int)) res := by
  have hr := hs.2 i
  have hn := hs.1
  intro m
  induction m with
  | zero =>
    intro j hj
    refine Ev.step ?_
    have c3 : ¬ (j : Int) < ((g.getD i []).length : Int) := by omega
    simp only [graph_Turn.l1, if_neg c3, pz i (by omega)]
    rw [show j = (g.getD i []).length by omega, part_next]; exact h
  | succ m ih =>
    intro j hj
    have e := ih (j + 1) (by omega)
    refine Ev.step ?_
    have hjl : j < (g.getD i []).length := by omega
    have c3 : (j : Int) < ((g.getD i []).length : Int) := by omega
    have c4 : 0 ≤ (j : Int) := Int.natCast_nonneg j
    obtain ⟨m0, m1⟩ := mayB_in hm i hi _ (List.getElem_mem hjl)
    obtain ⟨x, hx⟩ : ∃ x : Nat, (g.getD i [])[j] = (x : Int) := ⟨((g.getD i [])[j]).toNat, by omega⟩
    rw [hx] at m1
    have hxN : x < g.length := by omega
    have hrd : rd (g.getD i []) (j : Int) = (x : Int) := by rw [rd_lt hjl]; exact hx
    have d1 : 0 ≤ (x : Int) := Int.natCast_nonneg x
    have hlen : (part g i j).length = g.length := by unfold part; simp
    have d2 : (x : Int) < ((part g i j).length : Int) := by rw [hlen]; exact m1
    have d3 : ((part g i j).getD x []).length < 17592186044416 := by
      rw [part_get g i j x hxN, List.length_append]
      have := col_len g x i
      split <;> simp <;> omega
    simp only [graph_Turn.l1, if_pos c3, if_pos c4, hrd, if_pos d1, if_pos d2, rdLg, if_pos d3, Int.toNat_natCast, pz j (by omega), part_step hm hi hjl hx hxN]
    exact e
theorem gturn_ev (g : List (List Int)) (hs : Sm g) : Ev (fun k => graph_Turn.f k g) (turnF g) := by
  have hn := hs.1
  refine Ev.bind (gmay_ev g hs) ?_
  unfold turnF
  cases hb : mayB g with
  | false => simp only [Bool.false_eq_true, if_false]; exact Ev.const _
  | true =>
    have main : ∀ m i : Nat, i + m = g.length → Ev (fun k => graph_Turn.l0 k (part g i 0) g (g.length : Int) (i : Int)) ((List.range g.length).map (fun t => col g t g.length)) := by
      intro m
      induction m with
      | zero =>
        intro i hi
        refine Ev.step ?_
        have c : ¬ (i : Int) < (g.length : Int) := by omega
        simp only [graph_Turn.l0, if_neg c]
        rw [show i = g.length by omega, show part g g.length 0 = (List.range g.length).map (fun t => col g t g.length) by unfold part; simp]
        exact Ev.const _
      | succ m ih =>
        intro i hi
        refine Ev.step ?_
        have c : (i : Int) < (g.length : Int) := by omega
        have c0 : 0 ≤ (i : Int) := Int.natCast_nonneg i
        simp only [graph_Turn.l0, if_pos c, if_pos c0, rdLg]
        exact gturn_row g hs hb i (by omega) _ (ih (i + 1) (by omega)) (g.getD i []).length 0 (by omega)
    have c1 : 0 ≤ (g.length : Int) := Int.natCast_nonneg _
    have c2 : g.length ≤ 11728124029610 := by omega
    simp only [if_true, if_pos c1, Int.toNat_natCast, if_pos c2]
    have e := main g.length 0 (by omega)
    rw [show part g 0 0 = List.replicate g.length [] by
      unfold part; apply List.ext_getElem?; intro t
      rw [List.getElem?_map, List.getElem?_replicate]
      by_cases ht : t < g.length
      · rw [List.getElem?_range ht, if_pos ht]; simp [col]
      · rw [List.getElem?_eq_none (by simp; omega), if_neg ht]; rfl] at e
    exact e
theorem ints_ev (l : List Int) (hl : l.length ≤ 1050000) : Ev (fun k => r12_Ints.f k l l) true := by
  have main : ∀ m i : Nat, i + m = l.length → Ev (fun k => r12_Ints.l0 k l l (i : Int)) true := by
    intro m
    induction m with
    | zero =>
      intro i hi
      refine Ev.step ?_
      have c : ¬ (i : Int) < (l.length : Int) := by omega
      simp only [r12_Ints.l0, if_neg c]
      exact Ev.const _
    | succ m ih =>
      intro i hi
      have e := ih (i + 1) (by omega)
      refine Ev.step ?_
      have c : (i : Int) < (l.length : Int) := by omega
      have c0 : 0 ≤ (i : Int) := Int.natCast_nonneg i
      simp only [r12_Ints.l0, if_pos c, if_pos c0, if_true, pz i (by omega)]
      exact e
  have := main l.length 0 (by omega)
  simp only [r12_Ints.f, if_true]
  exact this
theorem same_ev (g : List (List Int)) (hs : Sm g) : Ev (fun k => r12_Same.f k g g) true := by
  have hn := hs.1
  have main : ∀ m i : Nat, i + m = g.length → Ev (fun k => r12_Same.l0 k g g (i : Int)) true := by
    intro m
    induction m with
    | zero =>
      intro i hi
      refine Ev.step ?_
      have c : ¬ (i : Int) < (g.length : Int) := by omega
      simp only [r12_Same.l0, if_neg c]
      exact Ev.const _
    | succ m ih =>
      intro i hi
      have e := ih (i + 1) (by omega)
      refine Ev.step ?_
      have c : (i : Int) < (g.length : Int) := by omega
      have c0 : 0 ≤ (i : Int) := Int.natCast_nonneg i
      simp only [r12_Same.l0, if_pos c, if_pos c0, rdLg]
      refine Ev.bind (ints_ev _ (hs.2 i)) ?_
      simp only [if_true, pz i (by omega)]
      exact e
  have := main g.length 0 (by omega)
  simp only [r12_Same.f, if_true]
  exact this
end Go.Proofs.Ytejhejpkfjhmkaa.Man
