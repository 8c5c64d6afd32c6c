import Derived.Test.YtdifnochnmiagaaManK
import Derived.Test.YtdifnochnmiagaaManD
namespace Go.Proofs.Ytdifnochnmiagaa.Man
open Go.RowKit Go.Shelf Go.Proofs.Ytdifnochnmiagaa.Pr Go.Proofs.YtdifnochnmiagaaW.PrintWords
attribute [local go_sem] Oper.semAt_some
set_option linter.unusedVariables false
set_option linter.unusedSimpArgs false

theorem Agrees.keep {ops : Array Oper} {base : Act} {val : Nat → Value} {done : Nat → Bool} {a : Act} (h : Agrees ops base val done a) (t : Tmp) (hc : ((List.range ops.size).all fun j => !(dstOf ops j == some t)) = true) : a.eval (.tmp t) = base.eval (.tmp t) :=
  h.other t (fun j hj => by
    have hlt : j < ops.size := by
      by_cases hlt : j < ops.size
      · exact hlt
      · simp [dstOf, Array.getElem?_eq_none (Nat.le_of_not_lt hlt)] at hj
    have := List.all_eq_true.1 hc j (List.mem_range.2 hlt)
    rw [hj] at this
    simp at this)
theorem Agrees.val_ {ops : Array Oper} {base : Act} {val : Nat → Value} {done : Nat → Bool} {a : Act} (h : Agrees ops base val done a) {j t : Nat} (hj : dstOf ops j = some t) (hd : done j = true) : a.eval (.tmp t) = val j := h.has j t hj hd
/-- A call of a function of one's own in a round. -/
theorem wpOpIn_call {n l : Nat} {P : Program} {ops : Array Oper} {Q : Exit → Act → World → Prop} {i : Nat} {K : Act → World → Prop} {a : Act} {w : World} {o : Oper} {f : FuncId} {xs : Array Operand} {ts : Array TypeId} {R : Ending → World → Prop}
    (ho : ops[i]? = some o) (hg : o.guard = none) (hop : o.op = .call { callee := .value (.func f), args := xs, argTypes := ts }) (eg : ∀ args w, (callFunc f args).run P w = .ok (.enter f args) w)
    (hcall : Calls P f (xs.map a.eval) w R) (hK : ∀ e w', R e w' → ∃ v, e = .returned v ∧ K (a.put o.dst v) w') : wpOpIn (Fence.wide.inRound l) n P ops Q i K a w := by
  unfold wpOpIn
  simp only [ho, Region.wanted, hg, if_true]
  refine ⟨fun f h => trivial, ?_⟩
  rw [Oper.semAt_eq _ _ _ (by rw [hop]; intro c h; cases h)]
  have hrun : (execOp a.eval o).run P w = .ok (.enter f (xs.map a.eval)) w := by
    simp [execOp, hop, resolve, invoke, go_sem, eg]
  rw [hrun]
  refine ⟨fun h => by simp [Fence.wide, Fence.inRound] at h, CallsIn.mono (CallsIn.inRound l (callsIn_wide.2 hcall)) fun e w' hr => ?_⟩
  obtain ⟨v, rfl, hk⟩ := hK e w' hr
  exact hk
/-- What is new alone keeps all that a round owes. -/
theorem below_round {w w1 W W' : World} (h : Below W.heap.size W W') (hn : w.heap.size ≤ W.heap.size) : KeepsFrom w1.heap.size W W' ∧ Kp w.heap.size w1.heap.size none W W' ∧ Below w.heap.size W W' :=
  ⟨⟨h.size, fun k o _ hk _ => (h.block k (Array.getElem?_eq_some_iff.1 hk).1).trans hk⟩, ⟨h.mono hn, fun _ => ⟨Good.none _, .inl rfl, fun k c _ hk _ _ => (h.block k (Array.getElem?_eq_some_iff.1 hk).1).trans hk⟩⟩, h.mono hn⟩
theorem boxed_below {W W' : World} {B : Nat} {t : TypeId} {v : Value} (h : Boxed W B t v) (hb : Below W.heap.size W W') : Boxed W' B t v := (hb.block B h.lt).trans h

def blocksOf (L : List S36) (n : Int) : Int × Int × Int := if 0 ≤ n ∧ n < L.length then (n + 1, n + 1 + (flat (rd_T36 L n).f6).length, n + 1 + (flat (rd_T36 L n).f6).length + (flat (rd_T36 L n).f7).length) else (-1, -1, -1)
/-- What the round that finds the statement has told. -/
structure BkS (w w1 W : World) (r4 r5 r6 : Value) (w' : World) : Prop where
  kf : KeepsFrom w1.heap.size W w'
  kp : Kp w.heap.size w1.heap.size none W w'
  be : Below w.heap.size W w'
  b4 : Boxed w' (w.heap.size + 1) 3 r4
  b5 : Boxed w' (w.heap.size + 2) 3 r5
  b6 : Boxed w' (w.heap.size + 3) 3 r6
  n0 : w'.cell? ⟨w.heap.size, 0, none⟩ = W.cell? ⟨w.heap.size, 0, none⟩
theorem BkS.below {w w1 W : World} {r4 r5 r6 : Value} {X Y : World} (h : BkS w w1 W r4 r5 r6 X) (hb : Below X.heap.size X Y) (hn : w.heap.size ≤ X.heap.size) : BkS w w1 W r4 r5 r6 Y := by
  obtain ⟨k, p, b⟩ := below_round (w := w) (w1 := w1) hb hn
  exact ⟨h.kf.trans k, h.kp.trans p, h.be.trans b, boxed_below h.b4 hb, boxed_below h.b5 hb, boxed_below h.b6 hb, (hb.cell (p := ⟨w.heap.size, 0, none⟩) (by have := h.b4.lt; show w.heap.size < _; omega)).trans h.n0⟩
end Go.Proofs.Ytdifnochnmiagaa.Man
