import Derived.Test.YtdifnochnmiagaaManH
namespace Go.Proofs.Ytdifnochnmiagaa.Man
open Go.RowKit Go.Shelf Go.Proofs.Ytdifnochnmiagaa.Pr Go.Proofs.YtdifnochnmiagaaW.PrintWords
attribute [local go_sem] Oper.semAt_some
set_option linter.unusedVariables false
set_option linter.unusedSimpArgs false

/-- The loop variable's box. -/
def VarBox {w : World} {P : Nat → Prop} {T : S36 → Prop} (B : Nat) (act : Nat → Elt w P T → Act) (x : Elt w P T) (a' : Act) (W : World) : Prop :=
  ∃ Bv, B ≤ Bv ∧ W.heap[Bv]? = some (.cells x.1.2.toArray 36 (0, 0)) ∧ a' = act Bv x
theorem VarBox.own {w : World} {P : Nat → Prop} {T : S36 → Prop} (B : Nat) (act : Nat → Elt w P T → Act) (x : Elt w P T) (a' : Act) : OwnFrom B (fun (_ : Unit) W => VarBox B act x a' W) := by
  rintro _ X Y row ⟨Bv, h1, h2, h4⟩ hg hr
  refine ⟨Bv, h1, ?_, h4⟩
  rw [hg.block Bv (Array.getElem?_eq_some_iff.1 h2).1 ?_]
  · exact h2
  · intro e; obtain ⟨_, o, ho, hc⟩ := hr Bv e.symm; rw [h2] at ho; cases ho; cases hc
/-- What the assignment of a boxed loop variable leaves. -/
theorem varBox_new {w w1 : World} {P : Nat → Prop} {T : S36 → Prop} {act : Nat → Elt w P T → Act} {I : List (Elt w P T) → World → Prop} {pre : List (Elt w P T)} {x : Elt w P T} {W : World} {K : Act → World → Prop}
    (hI : OwnFrom w1.heap.size I) (hi : I pre W) (hn : w.heap.size ≤ W.heap.size) (hle : w1.heap.size ≤ W.heap.size)
    (hk : ∀ a' W', KeepsFrom w1.heap.size W W' → Kp w.heap.size w1.heap.size none W W' → I pre W' → VarBox w1.heap.size act x a' W' → K a' W') : K (act W.heap.size x) (W.alloc (.cells x.1.2.toArray 36)) :=
  hk _ _ ((KeepsOthers.alloc _ _).from _) ((Kp.refl _ _ _ W).alloc _ hn (fun b e => by cases e)) (hI.alloc _ hi) ⟨W.heap.size, hle, World.alloc_heap_new W _, rfl⟩

def news (l : List S36) : Nat := (l.filter fun s => s.f0 == 4).length
theorem news_snoc (l : List S36) (s : S36) : news (l ++ [s]) = news l + (if s.f0 = 4 then 1 else 0) := by
  unfold news
  rw [List.filter_append]
  by_cases h : s.f0 = 4 <;> simp [h]
theorem news_le (l : List S36) : news l ≤ l.length := List.length_filter_le _ _

set_option maxRecDepth 100000 in
set_option maxHeartbeats 2000000 in
theorem sites_any (w : World) (l : List S36) (A : Option Addr) (c : Nat) (hlc : l.length ≤ c) (hC : k36.C w A l.length l) (hN : (flat l).length ≤ 4611686018427387904) :
    Calls Try.prog 18 #[.slice A l.length c] w fun e w' => e = .returned (.int .i64 (news (flat l) : Nat)) ∧ Below w.heap.size w w' := by
  refine (callsIn_wide (n := 5)).1 ?_
  refine callsIn_of_wp_marks Try.func18 rfl trivial ?_ rfl
  simp only [Try.ntmps18, List.size_toArray, List.length_cons, List.length_nil, Nat.reduceAdd, Nat.reduceSub, Array.replicate_succ, Array.replicate_zero, List.push_toArray, List.append_toArray, List.nil_append, List.cons_append]
  have hfn : Fence.wide.fn 22 := trivial
  have HC := Lib.hid hC
  clear hC
  gi_wp2_with ((try refine ⟨fun _ => by decide, ?_⟩); gi_at_call 22; refine (mkAll_in _ _ rfl _).mono ?_; rintro e w' ⟨rfl, rfl⟩)
  obtain ⟨w1, hw1⟩ : ∃ w1, w1 = ((w.alloc (Obj.cells #[Value.int IntKind.i64 0] 3)).alloc (Obj.cells #[Value.slice A l.length c] 22)) := ⟨_, rfl⟩
  have hs1 : w1.heap.size = w.heap.size + 2 := by rw [hw1]; simp
  have hb1 : Below w.heap.size w w1 := by rw [hw1]; exact ((Below.refl _ w).alloc (Nat.le_refl _) _).alloc (by simp) _
  have hbox : Boxed w1 w.heap.size 3 (.int .i64 0) := by rw [hw1]; exact (Boxed.new w 3 _).alloc _
  have hbt : w1.cell? ⟨w.heap.size + 1, 0, none⟩ = some (.slice A l.length c) := by
    rw [hw1]; have := (Boxed.new (w.alloc (Obj.cells #[Value.int IntKind.i64 0] 3)) 22 (Value.slice A l.length c)).cell; rw [World.size_alloc] at this; exact this
  rw [← hw1]
  have hOwn : OwnFrom w1.heap.size (fun (pre : List (Elt w (fun k => k < w.heap.size) (fun s => s ∈ flat l))) W => Boxed W w.heap.size 3 (.int .i64 (news (pre.map (·.1.1)) : Nat)) ∧ Below w.heap.size w W ∧ w1.heap.size ≤ W.heap.size) :=
    OwnFrom.and (Own.from (boxed_own _ _ _) _) (OwnFrom.and (ownFrom_below (Nat.le_refl _) hb1.size) (fun _ _ _ _ hs hg _ => Nat.le_trans hs hg.size))
  refine rangeAll (w := w) (P := fun k => k < w.heap.size) (T := fun s => s ∈ flat l) (n := 5) (by decide) l A c hlc (fun _ h => h) (Kd.C_F k36_heap HC.out) hb1 (w.heap.size + 1) (by omega) hbt rfl none (fun _ h => by cases h) (Good.none _) rfl
    (fun pre W => Boxed W w.heap.size 3 (.int .i64 (news (pre.map (·.1.1)) : Nat)) ∧ Below w.heap.size w W ∧ w1.heap.size ≤ W.heap.size)
    (fun _ _ _ => False) hOwn (fun _ _ _ _ _ hs _ _ => hs) ⟨hbox, hb1, Nat.le_refl _⟩
    (VarBox w1.heap.size fun Bv x => { tmps := #[.slice A l.length c, undef, .int .i64 0, .pointer (some ⟨w.heap.size, 0, none⟩), .pointer (some ⟨Bv, 0, none⟩), .slice A l.length c,
      .func (.func 28) #[] #[.pointer (some ⟨w.heap.size + 1, 0, none⟩)], .agg x.1.2.toArray, undef, undef, undef, undef, undef, undef], defers := [] })
    (fun x a' => VarBox.own _ _ _ _) ?assign ?body ?done ?stop
  case assign =>
    rintro lp pre ⟨⟨s, cs⟩, hK, hT⟩ W K hi hk
    have hk' := Lib.hid (varBox_new hOwn hi (hi.2.1.size) hi.2.2 hk)
    clear hk hi
    have hcs := k36_open (Kd.FK_now hK)
    dsimp only at hcs hK hk'
    obtain ⟨A4, c4, A5, c5, A6, c6, A7, c7, rfl, _⟩ := hcs
    rw [show ((#[7] : Array Tmp).zip (encE ⟨(s, _), hK, hT⟩)) = #[(7, Value.agg #[Value.int IntKind.i64 s.f0, Value.string s.f1, Value.string s.f2, Value.string s.f3, Value.slice A4 s.f4.length c4, Value.slice A5 s.f5.length c5, Value.slice A6 s.f6.length c6, Value.slice A7 s.f7.length c7])] from by simp [encE]]
    gi_wp2
    exact hk'.out
  case body =>
    rintro lp pre ⟨⟨s, cs⟩, hK, hT⟩ a' W hlp _ ⟨hv, hB, hW⟩ ⟨Bv, hBv, hbv, rfl⟩ hlen
    have hcs := k36_open (Kd.FK_now hK)
    dsimp only at hcs hK hbv
    obtain ⟨A4, c4, A5, c5, A6, c6, A7, c7, rfl, _⟩ := hcs
    have hc := hv.cell
    have hf := hv.frozen
    have hs0 : W.cell? ⟨Bv, 0, none⟩ = some (.int .i64 s.f0) := by rw [cell_at_block hbv]; rfl
    have hne : Bv ≠ w.heap.size := by omega
    have hnl := news_le (pre.map (·.1.1))
    rw [List.length_map] at hnl
    have hsn := Lib.hid (news_snoc (pre.map (·.1.1)) s)
    have HV := Lib.hid hv
    have HB := Lib.hid hB
    clear hv hB hbv
    by_cases h4 : s.f0 = 4
    · have h4b : (s.f0 == 4) = true := by simpa using h4
      have H4 := Lib.hid h4
      clear h4
      gi_wp2
      refine ⟨(KeepsOthers.setCell _ _ _).from _, Kp.setBox W w.heap.size _ (Nat.le_refl _) (by omega), ?_, HB.out.setCell (p := ⟨w.heap.size, 0, none⟩) (Nat.le_refl _) _, by have := (grownBy_setCell' W w.heap.size (.int .i64 ((news (pre.map (·.1.1)) : Nat) + 1))).size; omega⟩
      have := HV.out.set (.int .i64 ((news (pre.map (·.1.1)) : Nat) + 1))
      rw [List.map_append]
      show Boxed _ _ _ (Value.int .i64 ((news (pre.map (·.1.1) ++ [s]) : Nat) : Int))
      rw [hsn.out, if_pos H4.out]
      simpa using this
    · have h4b : (s.f0 == 4) = false := by simpa using h4
      have H4 := Lib.hid h4
      clear h4
      gi_wp2
      refine ⟨KeepsFrom.refl _ _, Kp.refl _ _ _ _, ?_, HB.out, by omega⟩
      rw [List.map_append]
      show Boxed _ _ _ (Value.int .i64 ((news (pre.map (·.1.1) ++ [s]) : Nat) : Int))
      rw [hsn.out, if_neg H4.out]
      exact HV.out
  case done =>
    rintro D ys W hD hys ⟨hv, hB, _⟩ hK
    have hc := hv.cell
    rw [hys] at hc
    gi_wp2
    refine ⟨by simp, .inl ⟨_, _, rfl, run_takeDeferred hK, ?_⟩⟩
    exact ⟨_, results_tmp rfl _ _ _, rfl, hB.trans (belowK_b (w := w) (Nat.le_refl _) W D _ _ (by omega) hK rfl rfl)⟩
  case stop => exact fun _ _ _ _ _ _ h _ => h.elim
end Go.Proofs.Ytdifnochnmiagaa.Man
