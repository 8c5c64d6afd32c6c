import Derived.Test.YtdifnochnmiagaaManC
namespace Go.Proofs.Ytdifnochnmiagaa.Man
open Go.RowKit Go.Shelf Go.Proofs.Ytdifnochnmiagaa.Pr Go.Proofs.YtdifnochnmiagaaW.PrintWords
attribute [local go_sem] Oper.semAt_some
set_option linter.unusedVariables false
set_option linter.unusedSimpArgs false

theorem Good.none (W : World) : Good none W := fun k h => by simp [rowOf] at h

/-- A store into a caller's own box keeps what an iterator asks. -/
theorem Kp.setBox {n0 B : Nat} (W : World) (b : Nat) (v : Value) (hn : n0 ≤ b) (hb : b < B) : Kp n0 B Option.none W (W.setCell ⟨b, 0, Option.none⟩ v) := by
  refine ⟨(Below.refl _ _).setCell (p := ⟨b, 0, Option.none⟩) hn _, fun _ => ⟨Good.none _, .inl rfl, fun k c hB hc _ _ => ?_⟩⟩
  rw [Below.heap_setCell W ⟨b, 0, Option.none⟩ v k (by intro e; simp at e; omega)]; exact hc

set_option maxRecDepth 100000 in
set_option maxHeartbeats 2000000 in
theorem count_in (w : World) (l : List S36) (A : Option Addr) (c : Nat) (hlc : l.length ≤ c) (hC : k36.C w A l.length l) (hN : (flat l).length ≤ 4611686018427387904) :
    Calls Try.prog 17 #[.slice A l.length c] w fun e w' => e = .returned (.int .i64 ((flat l).length : Nat)) ∧ Below w.heap.size w w' := by
  refine (callsIn_wide (n := 5)).1 ?_
  refine callsIn_of_wp_marks Try.func17 rfl trivial ?_ rfl
  simp only [Try.ntmps17, List.size_toArray, List.length_cons, List.length_nil, Nat.reduceAdd, Nat.reduceSub, Array.replicate_succ, Array.replicate_zero, List.push_toArray, List.append_toArray, List.nil_append, List.cons_append]
  have h22 : Fence.wide.fn 22 := trivial
  have HC := Lib.hid hC
  clear hC
  gi_wp2_with ((try refine ⟨fun _ => by decide, ?_⟩); gi_at_call 22; refine (mkAll_in _ _ rfl _).mono ?_; rintro e w' ⟨rfl, rfl⟩)
  obtain ⟨w1, hw1⟩ : ∃ w1, w1 = ((w.alloc (Obj.cells #[Value.int IntKind.i64 0] 3)).alloc (Obj.cells #[Value.slice A l.length c] 22)) := ⟨_, rfl⟩
  have hs1 : w1.heap.size = w.heap.size + 2 := by rw [hw1]; simp
  have hb1 : Below w.heap.size w w1 := by rw [hw1]; exact ((Below.refl _ w).alloc (Nat.le_refl _) _).alloc (by simp) _
  have hbox : Boxed w1 w.heap.size 3 (.int .i64 0) := by rw [hw1]; exact (Boxed.new w 3 _).alloc _
  have hbt : w1.cell? ⟨w.heap.size + 1, 0, none⟩ = some (.slice A l.length c) := by
    rw [hw1]; have := (Boxed.new (w.alloc (Obj.cells #[Value.int IntKind.i64 0] 3)) 22 (Value.slice A l.length c)).cell; rw [World.size_alloc] at this; exact this
  rw [← hw1]
  refine wpIn_rangeFunc_ownF (F := Fence.wide) (n := 5) rfl (by decide) (gf := 28) (lb := #[.pointer (some ⟨w.heap.size + 1, 0, none⟩)]) rfl trivial (enters_of Try.func28 (by kernel_rfl) rfl)
    (all_stops w w1 (fun k => k < w.heap.size) (fun _ => True) _ none l A c hlc (fun _ _ => trivial) (Kd.C_F k36_heap HC.out) hb1 (w.heap.size + 1) (by omega) hbt (fun _ h => by cases h) (Good.none _))
    (fun h k => Kp.trans h k) (Kp.putObj hb1.size (fun _ h => by cases h)) (Below.refl _ _) (fun _ => rfl)
    (fun pre W => Boxed W w.heap.size 3 (.int .i64 (pre.length : Nat)) ∧ Below w.heap.size w W)
    (fun _ _ _ => False)
    (OwnFrom.and (Own.from (boxed_own _ _ _) _) (ownFrom_below (Nat.le_refl _) hb1.size)) (fun _ _ _ _ _ hs _ _ => hs) ⟨hbox, hb1⟩
    (fun x => { tmps := #[Value.slice A l.length c, undef, Value.int IntKind.i64 0,
          Value.pointer (some { block := w.heap.size, off := 0 }), Value.slice A l.length c,
          Value.func (Fn.func 28) #[] #[Value.pointer (some { block := w.heap.size + 1, off := 0 })], .agg x.1.2.toArray, undef,
          undef, undef], defers := [] }) ?assign ?body ?done ?stop
  case assign =>
    intro l x W K hK
    rw [show ((#[6] : Array Tmp).zip (encE x)) = #[(6, Value.agg x.1.2.toArray)] from by simp [encE]]
    gi_wp2
    exact hK
  case body =>
    rintro lp pre x W ⟨hv, hB⟩ hlen
    have hc := hv.cell
    have hf := hv.frozen
    gi_wp2
    refine ⟨KeepsOthers.setCell _ _ _, Kp.setBox W w.heap.size _ (Nat.le_refl _) (by omega), ?_, hB.setCell (p := ⟨w.heap.size, 0, none⟩) (Nat.le_refl _) _⟩
    have := hv.set (.int .i64 (pre.length + 1))
    simpa using this
  case done =>
    rintro D ys W hD hys ⟨hv, hB⟩ hK
    have hc := hv.cell
    have hyl : ys.length = (flat l).length := by rw [← hys]; simp
    rw [hyl] at hc
    gi_wp2
    refine ⟨by simp, .inl ⟨_, _, rfl, run_takeDeferred hK, ?_⟩⟩
    exact ⟨_, results_tmp rfl _ _ _, rfl, hB.trans (belowK_b (w := w) (Nat.le_refl _) W D _ _ (by omega) hK rfl rfl)⟩
  case stop =>
    rintro D c pre W _ _ h _
    exact h.elim
end Go.Proofs.Ytdifnochnmiagaa.Man
