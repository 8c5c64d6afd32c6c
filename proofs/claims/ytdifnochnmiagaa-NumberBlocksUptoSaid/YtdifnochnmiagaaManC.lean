import Derived.Test.YtdifnochnmiagaaManB
namespace Go.Proofs.Ytdifnochnmiagaa.Man
open Go.RowKit Go.Shelf Go.Proofs.Ytdifnochnmiagaa.Pr Go.Proofs.YtdifnochnmiagaaW.PrintWords
attribute [local go_sem] Oper.semAt_some
set_option linter.unusedVariables false
set_option linter.unusedSimpArgs false

theorem room_of_none {F : Fence} (hd : F.depth = none) (k : Nat) : F.room k := fun d h => by rw [hd] at h; cases h
theorem roundIn_anyDepth {F : Fence} (hd : F.depth = none) {m m' : Nat} {P : Program} {l : Nat} {f : FuncId} {tmps : Array Value} {assign body : Code} {w : World} {R : Ending → World → Prop}
    (h : RoundIn F m P l f tmps assign body w R) : RoundIn F m' P l f tmps assign body w R := ⟨h.1, fun c cs _ => h.2 c cs (room_of_none hd _)⟩
theorem yieldAt_anyDepth {F : Fence} (hd : F.depth = none) {m : Nat} (m' : Nat) {P : Program} {l : Nat} {args : Array Value} {W : World} {R : Ending → World → Prop} (h : YieldAt F m P l args W R) : YieldAt F m' P l args W R := by
  obtain ⟨fn, tmps, assign, body, hy, hR⟩ := h
  exact ⟨fn, tmps, assign, body, hy, roundIn_anyDepth hd hR⟩

set_option maxHeartbeats 1000000 in
theorem all1_in (w : World) (P : Nat → Prop) (T : S36 → Prop) (n l : Nat) (B : Nat) (bx : Option Nat) (hn : w.heap.size ≤ B) (hb : ∀ b, bx = some b → b < B) (J Jx : List (Elt w P T) → World → Prop) (xs : List S36) (A : Option Addr) (c : Nat) (hlc : xs.length ≤ c) (hT : ∀ s, s ∈ flat xs → T s) (hC : Kd.F k36 w P A xs.length xs)
    (hY : ∀ pre x W, J pre W → pre.length < (flat xs).length → YieldAt Fence.wide (n - 1) Try.prog l (encE x) W fun e W' =>
      (e = .returned (.bool true) ∧ J (pre ++ [x]) W' ∧ Kp w.heap.size B bx W W') ∨ (e = .returned (.bool false) ∧ Jx (pre ++ [x]) W'))
    (hJ : ∀ pre W W', J pre W → W.grownBy W' none → J pre W') (W : World) (hJ0 : J [] W) (hBe : Below w.heap.size w W) (hG : Good bx W) (hBW : B ≤ W.heap.size) (Bt : Nat) (hBt : W.cell? ⟨Bt, 0, none⟩ = some (.slice A xs.length c)) :
    CallsIn Fence.wide n Try.prog 28 #[.func (.yield l) #[] #[], .pointer (some ⟨Bt, 0, none⟩)] W fun e W' => (∃ v, e = .returned v) ∧
      ((∃ es : List (Elt w P T), es.map (·.1.1) = flat xs ∧ J es W') ∨ (∃ es : List (Elt w P T), (∃ q, es.map (·.1.1) ++ q = flat xs) ∧ Jx es W')) := by
  have hdd : ∀ k : Nat, (Fence.wide.depth.isSome = true → 1 ≤ k) := fun k h => by simp [Fence.wide] at h
  have hp := all_in w P T l B (flat xs).length bx hn hb J Jx (fun m pre x W hj hl => yieldAt_anyDepth rfl m (hY pre x W hj hl)) hJ _ xs (Nat.lt_succ_self _) (n - 1) A c [] W hlc hT hC hJ0 hBe hG hBW (by simp)
  have h29 : Fence.wide.fn 29 := trivial
  clear hY hJ hC hT
  refine callsIn_of_wp Try.func28 rfl trivial ?_ rfl
  simp only [Try.ntmps28, List.size_toArray, List.length_cons, List.length_nil, Nat.reduceAdd, Nat.reduceSub, Array.replicate_succ, Array.replicate_zero, List.push_toArray, List.append_toArray, List.nil_append, List.cons_append]
  gi_wp2_with ((try refine ⟨hdd _, ?_⟩); gi_at_call 29; refine hp.mono ?_; clear hp; rintro e W1 (⟨rfl, es, hes, hJ1, _⟩ | ⟨rfl, es, q, hq, hx⟩))
  · go_end0
    exact ⟨⟨_, rfl⟩, .inl ⟨es, hes, by simpa using hJ1⟩⟩
  · go_end0
    exact ⟨⟨_, rfl⟩, .inr ⟨es, ⟨q, hq⟩, by simpa using hx⟩⟩

/-- What number.All hands back, called by whatever loop: the statements in the order of their numbers, or a beginning of them. -/
theorem all_stops (w w1 : World) (P : Nat → Prop) (T : S36 → Prop) (n : Nat) (bx : Option Nat) (xs : List S36) (A : Option Addr) (c : Nat) (hlc : xs.length ≤ c) (hT : ∀ s, s ∈ flat xs → T s) (hC : Kd.F k36 w P A xs.length xs) (hBe : Below w.heap.size w w1) (Bt : Nat) (hlt : Bt < w1.heap.size)
    (hBt : w1.cell? ⟨Bt, 0, none⟩ = some (.slice A xs.length c)) (hb : ∀ b, bx = some b → b < w1.heap.size) (hG : Good bx w1) :
    SeqStopsK Fence.wide n Try.prog 28 #[.pointer (some ⟨Bt, 0, none⟩)] (encE (w := w) (P := P) (T := T)) (Kp w.heap.size w1.heap.size bx) (fun es => es.map (·.1.1) = flat xs) (fun es => ∃ q, es.map (·.1.1) ++ q = flat xs) (flat xs).length w1 := by
  intro l J Jx W hW hJ _ hY h0
  refine all1_in w P T n l w1.heap.size bx hBe.size hb J Jx xs A c hlc hT hC hY (fun pre X Y hj hg => hJ pre X Y none hj hg (fun r e => by cases e)) W h0 (hBe.trans (hW.mono hBe.size)) ?_ hW.size Bt ((hW.cell (p := ⟨Bt, 0, none⟩) hlt).trans hBt)
  intro k hk
  have hr : rowOf bx W = rowOf bx w1 := by
    unfold rowOf
    cases bx with
    | none => rfl
    | some b => simp only [Option.bind_some]; rw [hW.cell (p := ⟨b, 0, none⟩) (hb b rfl)]
  rw [hr] at hk
  exact Nat.lt_of_lt_of_le (hG k hk) hW.size

set_option maxHeartbeats 1000000 in
/-- number.All: the list is boxed; the function value captures the box. -/
theorem mkAll_in (n : Nat) (v : Value) (hv : v.oneCell' = true) (w : World) :
    CallsIn Fence.wide n Try.prog 22 #[v] w fun e w' => e = .returned (.func (.func 28) #[] #[.pointer (some ⟨w.heap.size, 0, none⟩)]) ∧ w' = w.alloc (.cells #[v] 22) := by
  refine callsIn_of_wp Try.func22 rfl trivial ?_ rfl
  simp only [Try.ntmps22, List.size_toArray, List.length_cons, List.length_nil, Nat.reduceAdd, Nat.reduceSub, Array.replicate_succ, Array.replicate_zero, List.push_toArray, List.append_toArray, List.nil_append, List.cons_append]
  gi_wp2
  go_ret
  exact ⟨rfl, rfl⟩
end Go.Proofs.Ytdifnochnmiagaa.Man
