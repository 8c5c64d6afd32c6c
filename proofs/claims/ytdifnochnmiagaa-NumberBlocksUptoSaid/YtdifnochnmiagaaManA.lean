import Derived.RangeFuncNested
import Derived.RangeFuncBound
import Derived.RangeFuncCalls
import Derived.RangeFuncLeaves
import Derived.Shelf.Abstract
import Derived.Shelf.RegionOpen
import Derived.WalkKit
import Derived.OwnWalkIn
import Derived.TacticsInMore
import Derived.LoopNIn
import Derived.LoopIn
import Derived.Test.YtdifnochnmiagaaPr0
namespace Go.Proofs.Ytdifnochnmiagaa.Man
open Go.RowKit Go.Shelf Go.Proofs.Ytdifnochnmiagaa.Pr Go.Proofs.YtdifnochnmiagaaW.PrintWords
attribute [local go_sem] Oper.semAt_some
set_option linter.unusedVariables false
set_option linter.unusedSimpArgs false

/-- The statements in the order of their numbers. -/
def flat : List S36 → List S36
  | [] => []
  | s :: r => s :: (flat s.f6 ++ (flat s.f7 ++ flat r))
termination_by l => SizeOf.sizeOf l
decreasing_by
  all_goals (obtain ⟨f0, f1, f2, f3, f4, f5, f6, f7⟩ := s; simp; omega)

/-- The row's block that a slice variable (in box bx) holds. -/
def rowOf (bx : Option Nat) (W : World) : Option Nat := bx.bind fun b => (W.cell? ⟨b, 0, none⟩).bind Value.ownBlock
def Good (bx : Option Nat) (W : World) : Prop := ∀ k, rowOf bx W = some k → k < W.heap.size
def Kp (n0 B : Nat) (bx : Option Nat) (W W' : World) : Prop :=
  Below n0 W W' ∧ (Good bx W → Good bx W' ∧ (rowOf bx W' = rowOf bx W ∨ ∀ k, rowOf bx W' = some k → W.heap.size ≤ k) ∧
    ∀ k c, B ≤ k → W.heap[k]? = some c → c.isCells = true → rowOf bx W ≠ some k → W'.heap[k]? = some c)

theorem Kp.refl (n0 B : Nat) (bx : Option Nat) (W : World) : Kp n0 B bx W W :=
  ⟨Below.refl _ _, fun h => ⟨h, .inl rfl, fun _ _ _ h _ _ => h⟩⟩
theorem Kp.trans {n0 B : Nat} {bx : Option Nat} {X Y Z : World} (h : Kp n0 B bx X Y) (k : Kp n0 B bx Y Z) : Kp n0 B bx X Z := by
  refine ⟨h.1.trans k.1, fun hg => ?_⟩
  obtain ⟨g1, r1, c1⟩ := h.2 hg
  obtain ⟨g2, r2, c2⟩ := k.2 g1
  have hs : X.heap.size ≤ Y.heap.size := h.1.size
  refine ⟨g2, ?_, ?_⟩
  · rcases r2 with r2 | r2
    · rw [r2]; exact r1
    · exact .inr fun j hj => Nat.le_trans hs (r2 j hj)
  · intro j c hB hc hcc hne
    have hlt : j < X.heap.size := (Array.getElem?_eq_some_iff.1 hc).1
    refine c2 j c hB (c1 j c hB hc hcc hne) hcc ?_
    rcases r1 with r1 | r1
    · rw [r1]; exact hne
    · intro e; have := r1 j e; omega
theorem Kp.putObj {n0 B : Nat} {bx : Option Nat} (hn : n0 ≤ B) (hb : ∀ b, bx = some b → b < B) (W : World) (l : Nat) (o o' : Obj) (hl : B ≤ l) (h : W.heap[l]? = some o) (ho : o.isCells = false) (_ : o.isWalk = false) : Kp n0 B bx W (W.putObj l o') := by
  have hlt : l < W.heap.size := (Array.getElem?_eq_some_iff.1 h).1
  have hoth : ∀ j, j ≠ l → (W.putObj l o').heap[j]? = W.heap[j]? := fun j hj => World.putObj_heap_other hj
  have hrow : rowOf bx (W.putObj l o') = rowOf bx W := by
    unfold rowOf
    cases bx with
    | none => rfl
    | some b =>
      have hb' := hb b rfl
      simp only [Option.bind_some]
      rw [show (W.putObj l o').cell? ⟨b, 0, none⟩ = W.cell? ⟨b, 0, none⟩ from World.cell?_of_block (hoth b (by omega))]
  have hsz : W.heap.size ≤ (W.putObj l o').heap.size := (grownBy_putObj' W l o').size
  refine ⟨(Below.refl n0 W).grown (grownBy_putObj' W l o') (by omega) (fun k e => by cases e; omega), fun hg => ⟨fun k hk => ?_, .inl hrow, fun k c hB hc hcc _ => ?_⟩⟩
  · rw [hrow] at hk; exact Nat.lt_of_lt_of_le (hg k hk) hsz
  · rw [hoth k ?_]; exact hc
    intro e; subst e; rw [h] at hc; cases hc; rw [ho] at hcc; cases hcc
theorem rowOf_alloc (bx : Option Nat) (W : World) (o : Obj) (hb : ∀ b, bx = some b → b < W.heap.size) : rowOf bx (W.alloc o) = rowOf bx W := by
  unfold rowOf
  cases bx with
  | none => rfl
  | some b => simp only [Option.bind_some]; rw [World.cell?_of_block (Below.heap_alloc W o b (hb b rfl))]
theorem Kp.alloc {n0 B : Nat} {bx : Option Nat} {X W : World} (h : Kp n0 B bx X W) (o : Obj) (hn : n0 ≤ W.heap.size) (hb : ∀ b, bx = some b → b < W.heap.size) : Kp n0 B bx X (W.alloc o) := by
  refine h.trans ⟨(Below.refl _ _).alloc hn o, fun hg => ⟨fun k hk => ?_, .inl (rowOf_alloc bx W o hb), fun k c hB hc _ _ => ?_⟩⟩
  · rw [rowOf_alloc bx W o hb] at hk; have := hg k hk; simp; omega
  · rw [Below.heap_alloc W o k (Array.getElem?_eq_some_iff.1 hc).1]; exact hc

/-- A statement and its cells, as they lie in w. -/
abbrev Elt (w : World) (P : Nat → Prop) (T : S36 → Prop) : Type := { p : S36 × List Value // Kd.FK k36 w P p.1 p.2 ∧ T p.1 }
def encE {w : World} {P : Nat → Prop} {T : S36 → Prop} (x : Elt w P T) : Array Value := #[.agg x.1.2.toArray]

end Go.Proofs.Ytdifnochnmiagaa.Man
