import Derived.Test.YtdifnochnmiagaaManE
import Derived.Deep.MidRow
import Derived.OwnWalk
namespace Go.Proofs.Ytdifnochnmiagaa.Man
open Go.RowKit Go.Shelf Go.Proofs.Ytdifnochnmiagaa.Pr Go.Proofs.YtdifnochnmiagaaW.PrintWords
attribute [local go_sem] Oper.semAt_some
set_option linter.unusedVariables false
set_option linter.unusedSimpArgs false

theorem wpOpIn_value {F : Fence} {n : Nat} {P : Program} {ops : Array Oper} {Q : Exit → Act → World → Prop} {i : Nat} {K : Act → World → Prop} {a : Act} {w w' : World} {o : Oper} {r : Value}
    (ho : ops[i]? = some o) (hg : o.guard = none) (hd : ∀ c, o.op ≠ .defer c) (hab : o.about P w a.eval = none)
    (hrun : (execOp a.eval o).run P w = .ok (.value r) w') (hK : K (a.put o.dst r) w') : wpOpIn F n P ops Q i K a w := by
  unfold wpOpIn
  simp only [ho, Region.wanted, hg, if_true]
  refine ⟨fun f h => (by rw [hab] at h; cases h), ?_⟩
  rw [Oper.semAt_eq _ _ _ hd, hrun]
  exact hK
theorem wpOpIn_skip {F : Fence} {n : Nat} {P : Program} {ops : Array Oper} {Q : Exit → Act → World → Prop} {i : Nat} {K : Act → World → Prop} {a : Act} {w w' : World} {o : Oper}
    (ho : ops[i]? = some o) (hg : o.guard = none) (hd : ∀ c, o.op ≠ .defer c) (hab : o.about P w a.eval = none)
    (hrun : (execOp a.eval o).run P w = .ok .skip w') (hK : K (a.put o.dst undef) w') : wpOpIn F n P ops Q i K a w := by
  unfold wpOpIn
  simp only [ho, Region.wanted, hg, if_true]
  refine ⟨fun f h => (by rw [hab] at h; cases h), ?_⟩
  rw [Oper.semAt_eq _ _ _ hd, hrun]
  exact hK

/-- The last element of a row of one's own is written. -/
theorem own_put {W : World} {base e size g k cap : Nat} {xs zs cs : List Value} (h : W.ownsRow base e size (.slice (some ⟨g, 0, none⟩) (k + 1) cap) (k + 1) (xs ++ zs)) (hx : xs.length = k * size) (hz : zs.length = size)
    (hc : cs.length = size) (h1 : ∀ u ∈ cs, u.oneCell' = true) :
    W.there g (k * size) size ∧ (W.setCells g (k * size) cs).ownsRow base e size (.slice (some ⟨g, 0, none⟩) (k + 1) cap) (k + 1) (xs ++ cs) ∧
      (∀ j, j ≠ g → (W.setCells g (k * size) cs).heap[j]? = W.heap[j]?) ∧ (W.setCells g (k * size) cs).heap.size = W.heap.size ∧ (W.setCells g (k * size) cs).os = W.os ∧ (W.setCells g (k * size) cs).tape = W.tape ∧ (W.setCells g (k * size) cs).output = W.output := by
  obtain ⟨hl, h2⟩ := h
  rcases h2 with ⟨h2, _⟩ | ⟨g', cap', cur, hv, hb, hh, hnc, hcm, hcs, htk⟩
  · simp at h2
  · simp only [Value.slice.injEq, Option.some.injEq, Addr.mk.injEq, and_true, true_and] at hv
    obtain ⟨rfl, rfl⟩ := hv
    have hsz : k * size + size ≤ cur.size := by rw [hcs, ← Nat.succ_mul]; exact Nat.mul_le_mul_right _ hnc
    have hcell : ∀ j, W.cell? ⟨g, j, none⟩ = cur[j]? := fun j => by simp [World.cell?, hh]
    have hth : W.there g (k * size) size := fun j hj => by
      refine ⟨?_, by simp [World.frozen?, hh]⟩
      rw [hcell, Array.getElem?_eq_getElem (by omega)]; rfl
    have e1 := run_storeCells_cells (P := Try.prog) g (k * size) cs 0 W (fun j hj => by simpa using (hth j (by omega)).1) (fun j hj => by simpa using (hth j (by omega)).2) h1
    have e2 := run_storeCells_at (P := Try.prog) g (k * size) e cs 0 cur W hh (by omega) h1
    have e3 : W.setCells g (k * size) cs = W.setRow g (cur.toList.take (k * size) ++ cs ++ cur.toList.drop (k * size + size)).toArray := by
      have := e1.symm.trans e2
      simp only [Nat.add_zero, Result.ok.injEq, true_and] at this
      rw [this, hc]
    have htake : cur.toList.take (k * size) = xs := by
      have e : cur.toList.take (k * size) = (cur.toList.take ((k + 1) * size)).take (k * size) := by rw [List.take_take, Nat.min_eq_left (by rw [Nat.succ_mul]; omega)]
      rw [e, htk, List.take_append_of_le_length (by omega), List.take_of_length_le (by omega)]
    refine ⟨hth, ?_, fun j hj => by rw [e3]; exact setRow_other W g j _ hj, by rw [e3]; simp, by rw [e3]; rfl, by rw [e3]; rfl, by rw [e3]; rfl⟩
    rw [e3]
    refine ⟨by rw [List.length_append, hx, hc, Nat.succ_mul], .inr ⟨g, cap, _, rfl, hb, setRow_heap W g cur _ e _ hh, hnc, hcm, ?_, ?_⟩⟩
    · simp only [List.size_toArray, List.length_append, List.length_take, List.length_drop, Array.length_toList, hc]
      omega
    · simp only
      rw [htake, List.take_append_of_le_length (by simp [hx, hc, Nat.succ_mul]), List.take_of_length_le (by simp [hx, hc, Nat.succ_mul])]
end Go.Proofs.Ytdifnochnmiagaa.Man
