import Derived.Test.YtdifnochnmiagaaManD
import Derived.OrdersIn
namespace Go.Proofs.Ytdifnochnmiagaa.Man
open Go.RowKit Go.Shelf Go.Proofs.Ytdifnochnmiagaa.Pr Go.Proofs.YtdifnochnmiagaaW.PrintWords
attribute [local go_sem] Oper.semAt_some
set_option linter.unusedVariables false
set_option linter.unusedSimpArgs false

/-- How many operations are still to come. -/
def leftOf (listed : Array Bool) : Nat := (listed.toList.filter (fun b => !b)).length
theorem left_set (l : List Bool) (i : Nat) (h : l[i]? = some false) : ((l.set i true).filter (fun b => !b)).length + 1 = (l.filter (fun b => !b)).length := by
  induction l generalizing i with
  | nil => simp at h
  | cons b r ih =>
    cases i with
    | zero => obtain rfl : b = false := by simpa using h
              simp
    | succ i =>
      have := ih i (by simpa using h)
      cases b <;> simp <;> omega
theorem ready_mem {md : Region.Mode} {ops : Array Oper} {listed : Array Bool} {i : Nat} (h : i ∈ Region.ready md ops listed) : listed.toList[i]? = some false := by
  unfold Region.ready at h
  have := (List.mem_filter.1 h).2
  simp only [Bool.and_eq_true, Bool.not_eq_true'] at this
  have h1 := this.1
  rw [Array.getD_eq_getD_getElem?] at h1
  rw [Array.getElem?_toList]
  cases hh : listed[i]? with
  | none => rw [hh] at h1; simp at h1
  | some b => rw [hh] at h1; simp at h1; rw [h1]
/-- A region in whatever order: by what holds of each set of operations that have been done. -/
theorem wpAnyIn_inv {F : Fence} {n : Nat} {P : Program} {md : Region.Mode} {ops : Array Oper} {Q : Exit → Act → World → Prop} (I : Array Bool → Act → World → Prop)
    (hstep : ∀ listed a w i, I listed a w → i ∈ Region.ready md ops listed → wpOpIn F n P ops Q i (fun a w => I (listed.setIfInBounds i true) a w) a w)
    (hend : ∀ listed a w, I listed a w → Region.ready md ops listed = [] → Q .normal a w) :
    ∀ fuel listed a w, leftOf listed ≤ fuel → I listed a w → wpAnyIn F n P md ops Q fuel listed a w := by
  intro fuel
  induction fuel with
  | zero =>
    intro listed a w hf hi
    have hr : Region.ready md ops listed = [] := by
      cases hh : Region.ready md ops listed with
      | nil => rfl
      | cons i r =>
        have h1 := ready_mem (md := md) (ops := ops) (listed := listed) (i := i) (by rw [hh]; simp)
        have := left_set _ _ h1
        unfold leftOf at hf; omega
    exact ⟨hr, hend _ _ _ hi hr⟩
  | succ fuel ih =>
    intro listed a w hf hi
    refine ⟨fun hr => hend _ _ _ hi hr, fun i hi' => wpOpIn_mono (fun a' w' h => ih _ a' w' ?_ h) (hstep _ _ _ i hi hi')⟩
    have h1 := ready_mem hi'
    have := left_set _ _ h1
    unfold leftOf at hf ⊢
    simp only [Array.toList_setIfInBounds]
    omega

/-- A loop over number.All: the law, at a list that is read. -/
theorem rangeAll {w w1 : World} {P : Nat → Prop} {T : S36 → Prop} {g : Operand} {ps : Array Tmp} {assign body : Code} {Q : Exit → Act → World → Prop} {a : Act} {n : Nat} (hn : 1 ≤ n)
    (l : List S36) (A : Option Addr) (c : Nat) (hlc : l.length ≤ c) (hT : ∀ s, s ∈ flat l → T s) (hC : Kd.F k36 w P A l.length l) (hBe : Below w.heap.size w w1) (Bt : Nat) (hlt : Bt < w1.heap.size)
    (hBt : w1.cell? ⟨Bt, 0, none⟩ = some (.slice A l.length c)) (hg : a.eval g = .func (.func 28) #[] #[.pointer (some ⟨Bt, 0, none⟩)])
    (bx : Option Nat) (hb : ∀ b, bx = some b → b < w1.heap.size) (hG : Good bx w1) (hps : ps.size = 1)
    (I : List (Elt w P T) → World → Prop) (Ix : Code → List (Elt w P T) → World → Prop) (hI : OwnFrom w1.heap.size I) (hIx : ∀ c, OwnFrom w1.heap.size (Ix c)) (h0 : I [] w1) (Ax : Elt w P T → Act → World → Prop) (hAx : ∀ x a', OwnFrom w1.heap.size (fun (_ : Unit) W => Ax x a' W))
    (hassign : ∀ (l : Nat) (pre : List (Elt w P T)) (x : Elt w P T) (W : World) (K : Act → World → Prop), I pre W → (∀ a' W', KeepsFrom w1.heap.size W W' → Kp w.heap.size w1.heap.size bx W W' → I pre W' → Ax x a' W' → K a' W') →
      assign.wpIn (Fence.wide.inRound l) (n - 1 - 1) Try.prog (Exit.then K (fun _ _ _ => False)) { tmps := (ps.zip (encE x)).foldl (fun t (p, v) => t.setIfInBounds p v) a.tmps, defers := [] } W)
    (hbody : ∀ (l' : Nat) (pre : List (Elt w P T)) (x : Elt w P T) (a' : Act) (W : World), w1.heap.size ≤ l' → (∃ r, W.heap[l']? = some (.loop r)) → I pre W → Ax x a' W → pre.length < (flat l).length → body.wpIn (Fence.wide.inRound l') (n - 1 - 1) Try.prog (ownPostG w1.heap.size (Kp w.heap.size w1.heap.size bx) I Ix (pre ++ [x]) W) a' W)
    (hdone : ∀ (D : Nat) (es : List (Elt w P T)) (W : World), w1.heap.size ≤ D → es.map (·.1.1) = flat l → I es W → W.heap[D]? = some (.deferred (some [])) → Q .normal { a with defers := { target := .collected D, args := #[] } :: a.defers } W)
    (hstop : ∀ (D : Nat) (c : Code) (pre : List (Elt w P T)) (W : World), w1.heap.size ≤ D → (∃ q, pre.map (·.1.1) ++ q = flat l) → Ix c pre W → W.heap[D]? = some (.deferred (some [])) → c.wpIn Fence.wide n Try.prog Q { a with defers := { target := .collected D, args := #[] } :: a.defers } W) :
    (Code.rangeFunc g ps assign body).wpIn Fence.wide n Try.prog Q a w1 :=
  wpIn_rangeFunc_ownH (F := Fence.wide) rfl hn (gf := 28) (lb := #[.pointer (some ⟨Bt, 0, none⟩)]) hg trivial (enters_of Try.func28 (by kernel_rfl) rfl)
    (all_stops w w1 P T _ bx l A c hlc hT hC hBe Bt hlt hBt hb hG) (fun h k => Kp.trans h k) (Kp.putObj hBe.size hb) (Below.refl _ _) (fun _ => by simp [encE, hps])
    I Ix hI hIx h0 Ax hAx hassign hbody hdone hstop
end Go.Proofs.Ytdifnochnmiagaa.Man
