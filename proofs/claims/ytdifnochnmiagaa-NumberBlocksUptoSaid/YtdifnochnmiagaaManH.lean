import Derived.Test.YtdifnochnmiagaaManG
namespace Go.Proofs.Ytdifnochnmiagaa.Man
open Go.RowKit Go.Shelf Go.Proofs.Ytdifnochnmiagaa.Pr Go.Proofs.YtdifnochnmiagaaW.PrintWords
attribute [local go_sem] Oper.semAt_some
set_option linter.unusedVariables false
set_option linter.unusedSimpArgs false

theorem reps_cells {w : World} {P : Nat → Prop} {T : S36 → Prop} (R : List Value → List Value → Prop) (hR : ∀ x : Elt w P T, R x.1.2 x.1.2) (es : List (Elt w P T)) : Reps R 8 (es.map (·.1.2)) (cellsOf es) := by
  induction es with
  | nil => exact Reps.none _ _
  | cons x es ih => exact Reps.front (hR x) (elt_len x) ih (by simp [cellsOf])
theorem own_N {w W : World} {P : Nat → Prop} {b : Nat} {v : Value} {T : S36 → Prop} {es : List (Elt w P T)} (h : W.ownsRow b 36 8 v es.length (cellsOf es)) (hb : w.heap.size ≤ b) (hBe : Below w.heap.size w W) :
    Kd.N k36 36 W w.heap.size (fun k => P k ∨ w.heap.size ≤ k) v (es.map (·.1.1)) := by
  have hown : ∀ k, v.ownBlock = some k → w.heap.size ≤ k := fun k hk => by
    rcases h.2 with ⟨rfl, _⟩ | ⟨g, cap, cur, rfl, hg, _⟩
    · simp [Value.ownBlock] at hk
    · simp [Value.ownBlock] at hk; omega
  have h' : W.ownsRow w.heap.size 36 8 v es.length (cellsOf es) := by
    refine ⟨h.1, ?_⟩
    rcases h.2 with h2 | ⟨g, cap, cur, hv, hg, r⟩
    · exact .inl h2
    · exact .inr ⟨g, cap, cur, hv, Nat.le_trans hb hg, r⟩
  refine ⟨fun k hk => .inr (hown k hk), es.map (·.1.2), by simp, ⟨fun k hk => hk.symm, cellsOf es, by rw [List.length_map]; exact h', ?_⟩, ?_⟩
  · exact reps_cells _ (fun x => ⟨rfl, elt_len x, k36.K_one (Kd.FK_now x.2.1)⟩) es
  · intro j x c hx hc
    rw [List.getElem?_map] at hx hc
    cases he : es[j]? with
    | none => rw [he] at hx; simp at hx
    | some e =>
      rw [he] at hx hc
      simp only [Option.map_some, Option.some.injEq] at hx hc
      subst hx; subst hc
      exact Kd.FK_mono (Kd.FK_below (Kd.FK_bound e.2.1) hBe) (fun k hk => ⟨.inl hk.1, fun he => by have := hown k he.symm; have := hk.2; omega⟩)

set_option maxHeartbeats 1000000 in
theorem collect_any (w w1 : World) (P : Nat → Prop) (l : List S36) (A : Option Addr) (c : Nat) (hlc : l.length ≤ c) (hC : Kd.F k36 w P A l.length l) (hN : (flat l).length ≤ 900000000000) (hBe : Below w.heap.size w w1) (Bt : Nat) (hlt : Bt < w1.heap.size)
    (hBt : w1.cell? ⟨Bt, 0, none⟩ = some (.slice A l.length c)) :
    Calls Try.prog 24 #[.func (.func 28) #[] #[.pointer (some ⟨Bt, 0, none⟩)]] w1 fun e w' =>
      ∃ (v : Value) (es : List (Elt w P (fun _ => True))), e = .returned v ∧ es.map (·.1.1) = flat l ∧ w'.ownsRow w1.heap.size 36 8 v es.length (cellsOf es) ∧ Below w1.heap.size w1 w' := by
  have hp := Lib.hid (appendSeq_in w w1 P l A c hlc hC hN hBe Bt hlt hBt)
  clear hC hBt
  go_enter Try.func24, Try.ntmps24
  go_wp2_with (go_at_call 30; refine hp.out.mono ?_; rintro e w2 ⟨v, es, rfl, hes, ho, hb⟩)
  go_ret
  exact ⟨v, es, rfl, hes, ho, hb⟩

set_option maxHeartbeats 1000000 in
theorem list_any (w : World) (P : Nat → Prop) (l : List S36) (A : Option Addr) (c : Nat) (hlc : l.length ≤ c) (hC : Kd.F k36 w P A l.length l) (hN : (flat l).length ≤ 900000000000) :
    Calls Try.prog 16 #[.slice A l.length c] w fun e w' => ∃ v : Value, e = .returned v ∧ Kd.N k36 36 w' w.heap.size (fun k => (P k ∨ w.heap.size ≤ k)) v (flat l) ∧ Below w.heap.size w w' := by
  have hp := Lib.hid (collect_any w (w.alloc (.cells #[.slice A l.length c] 22)) P l A c hlc hC hN ((Below.refl _ w).alloc (Nat.le_refl _) _) w.heap.size (by simp) (Boxed.new w 22 _).cell)
  clear hC
  go_enter Try.func16, Try.ntmps16
  go_wp2_with (first
    | (go_at_call 22; refine ((callsIn_wide (n := 5)).1 (mkAll_in _ _ rfl _)).mono ?_; rintro e w' ⟨rfl, rfl⟩)
    | (go_at_call 24; refine hp.out.mono ?_; rintro e w2 ⟨v, es, rfl, hes, ho, hb⟩))
  go_ret
  have hb1 : Below w.heap.size w w2 := ((Below.refl _ w).alloc (Nat.le_refl _) _).trans (hb.mono (by simp))
  refine ⟨v, rfl, ?_, hb1⟩
  rw [← hes]
  exact own_N ho (by simp) hb1
end Go.Proofs.Ytdifnochnmiagaa.Man
