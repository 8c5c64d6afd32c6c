import Derived.Test.YtdifnochnmiagaaManM
namespace Go.Proofs.Ytdifnochnmiagaa.Man
open Go.RowKit Go.Shelf Go.Proofs.Ytdifnochnmiagaa.Pr Go.Proofs.YtdifnochnmiagaaW.PrintWords
set_option linter.unusedVariables false
set_option linter.unusedSimpArgs false

def setv (val : Nat → Value) (i : Nat) (r : Value) : Nat → Value := fun j => if j = i then r else val j
theorem Agrees.put2 {ops : Array Oper} {base : Act} {val : Nat → Value} {done : Nat → Bool} {a : Act} (hok : flowOk ops base.tmps.size = true) (h : Agrees ops base val done a) (i : Nat) {o : Oper} (ho : ops[i]? = some o) (hd : done i = false) (r : Value) :
    Agrees ops base (setv val i r) (upd done i) (a.put o.dst r) := by
  have h2 : Agrees ops base (setv val i r) done a := ⟨h.defers, h.size, fun j d hj hdn => by
    rw [h.has j d hj hdn]; unfold setv; rw [if_neg (fun e => by subst e; rw [hd] at hdn; cases hdn)], h.other⟩
  have h3 := h2.put hok i ho
  have e : setv val i r i = r := by simp [setv]
  rw [e] at h3; exact h3
/-- **The same, where a value may hang on the order (an address that is made).** -/
theorem wpAnyIn_flow2 {F : Fence} {n : Nat} {P : Program} {ops : Array Oper} {Q : Exit → Act → World → Prop} (base : Act) (v0 : Nat → Value) (S : (Nat → Bool) → (Nat → Value) → World → Prop) (hok : flowOk ops base.tmps.size = true) (hwt : waitsOk ops = true) (w0 : World)
    (h0 : S (fun _ => false) v0 w0)
    (hstep : ∀ i o done val a w, ops[i]? = some o → done i = false → (∀ e ∈ o.after, Region.binds .any e = true → done e.on = true) → Agrees ops base val done a → S done val w →
      ∀ K : Act → World → Prop, (∀ r w', S (upd done i) (setv val i r) w' → K (a.put o.dst r) w') → wpOpIn F n P ops Q i K a w)
    (hend : ∀ w done val, (∀ j, j < ops.size → done j = true) → S done val w → Q .normal { tmps := putTmps ops val base.tmps ops.size, defers := base.defers } w) :
    wpAnyIn F n P .any ops Q ops.size (Array.replicate ops.size false) base w0 := by
  refine wpAnyIn_inv (fun listed a w => listed.size = ops.size ∧ ∃ done val, (∀ j, j < ops.size → listed[j]? = some (done j)) ∧ Agrees ops base val done a ∧ S done val w) ?_ ?_ _ _ _ _ (by simp [leftOf]) ⟨by simp, fun _ => false, v0, fun j hj => by simp [hj], ⟨rfl, rfl, fun _ _ _ h => (by cases h), fun _ _ => rfl⟩, h0⟩
  · rintro listed a w i ⟨hs, done, val, hl, ha, hS⟩ hr
    have hmem := ready_mem hr
    have hlt : i < ops.size := by
      rw [Array.getElem?_toList] at hmem
      have := (Array.getElem?_eq_some_iff.1 hmem).1
      omega
    have hdi : done i = false := by
      rw [Array.getElem?_toList, hl i hlt] at hmem; simpa using hmem
    have ho : ops[i]? = some ops[i] := Array.getElem?_eq_getElem hlt
    refine hstep i ops[i] done val a w ho hdi (fun e he hb => ?_) ha hS _ (fun r w' hw' => ⟨by simp [hs], upd done i, setv val i r, fun j hj => ?_, ha.put2 hok i ho hdi r, hw'⟩)
    · have := (List.mem_filter.1 hr).2
      simp only [Bool.and_eq_true, ho, Option.map_some, Option.getD_some] at this
      have h2 := Array.all_eq_true_iff_forall_mem.1 this.2 e he
      rw [hb] at h2
      simp only [Bool.not_true, Bool.false_or] at h2
      rw [Array.getD_eq_getD_getElem?] at h2
      by_cases hlt2 : e.on < ops.size
      · rw [hl e.on hlt2] at h2; simpa using h2
      · rw [Array.getElem?_eq_none (by omega)] at h2; simp at h2
    · rw [Array.getElem?_setIfInBounds]
      by_cases e : i = j
      · subst e; rw [if_pos rfl, if_pos (by omega)]; simp [upd]
      · rw [if_neg e, hl j hj]; simp [upd, Ne.symm e]
  · rintro listed a w ⟨hs, done, val, hl, ha, hS⟩ hr
    -- nothing is ready, so all have been done (or some wait for ever: then ready would not be empty for the least one)
    have hall : ∀ j, j < ops.size → done j = true := by
      intro j
      induction j using Nat.strongRecOn with
      | _ j ih =>
      intro hj
      cases hdj : done j with
      | true => rfl
      | false =>
        exfalso
        have : j ∈ Region.ready .any ops listed := by
          unfold Region.ready
          refine List.mem_filter.2 ⟨List.mem_range.2 hj, ?_⟩
          simp only [Bool.and_eq_true]
          refine ⟨by rw [Array.getD_eq_getD_getElem?, hl j hj, hdj]; rfl, ?_⟩
          rw [Array.getElem?_eq_getElem hj]
          simp only [Option.map_some, Option.getD_some]
          refine Array.all_eq_true_iff_forall_mem.2 fun e he => ?_
          have hw := List.all_eq_true.1 hwt j (List.mem_range.2 hj)
          rw [Array.getElem?_eq_getElem hj] at hw
          have hw2 := Array.all_eq_true_iff_forall_mem.1 hw e he
          cases hb : Region.binds .any e with
          | false => simp
          | true =>
            rw [hb] at hw2
            simp only [Bool.not_true, Bool.false_or, decide_eq_true_eq] at hw2
            have hlt : e.on < ops.size := by omega
            simp only [Bool.not_true, Bool.false_or]
            rw [Array.getD_eq_getD_getElem?, hl e.on hlt, ih e.on hw2 hlt]; rfl
        rw [hr] at this; cases this
    rw [ha.all hok hall]
    exact hend w done val hall hS
end Go.Proofs.Ytdifnochnmiagaa.Man
