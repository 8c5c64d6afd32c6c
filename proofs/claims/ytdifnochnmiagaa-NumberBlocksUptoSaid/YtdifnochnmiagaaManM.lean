import Derived.Test.YtdifnochnmiagaaManL
namespace Go.Proofs.Ytdifnochnmiagaa.Man
open Go.RowKit Go.Shelf Go.Proofs.Ytdifnochnmiagaa.Pr Go.Proofs.YtdifnochnmiagaaW.PrintWords
attribute [local go_sem] Oper.semAt_some
set_option linter.unusedVariables false
set_option linter.unusedSimpArgs false

theorem flat_sub (l : List S36) (s : S36) (h : s ∈ flat l) : (flat s.f6).length + (flat s.f7).length ≤ (flat l).length := by
  fun_induction flat l with
  | case1 => cases h
  | case2 x r ih1 ih2 ih3 =>
    simp only [List.mem_cons, List.mem_append] at h
    simp only [List.length_cons, List.length_append]
    rcases h with rfl | h | h | h
    · omega
    · have := ih1 h; omega
    · have := ih2 h; omega
    · have := ih3 h; omega

theorem BkS.put {w w1 W : World} {r4 r5 r6 : Value} {X : World} (h : BkS w w1 W r4 r5 r6 X) (h6 : w.heap.size + 6 ≤ w1.heap.size) (j : Nat) (v : Value) (s4 s5 s6 : Value)
    (hj : (j = 1 ∧ s4 = v ∧ s5 = r5 ∧ s6 = r6) ∨ (j = 2 ∧ s4 = r4 ∧ s5 = v ∧ s6 = r6) ∨ (j = 3 ∧ s4 = r4 ∧ s5 = r5 ∧ s6 = v)) : BkS w w1 W s4 s5 s6 (X.setCell ⟨w.heap.size + j, 0, none⟩ v) := by
  obtain ⟨k, p, q, z⟩ := set_round (w := w) (w1 := w1) (W := X) (w.heap.size + j) v (by omega) (by omega)
  refine ⟨h.kf.trans k, h.kp.trans p, h.be.trans q, ?_, ?_, ?_, ?_⟩
  · rcases hj with ⟨rfl, rfl, rfl, rfl⟩ | ⟨rfl, rfl, rfl, rfl⟩ | ⟨rfl, rfl, rfl, rfl⟩
    · exact h.b4.set _
    · exact h.b4.other (by omega) _
    · exact h.b4.other (by omega) _
  · rcases hj with ⟨rfl, rfl, rfl, rfl⟩ | ⟨rfl, rfl, rfl, rfl⟩ | ⟨rfl, rfl, rfl, rfl⟩
    · exact h.b5.other (by omega) _
    · exact h.b5.set _
    · exact h.b5.other (by omega) _
  · rcases hj with ⟨rfl, rfl, rfl, rfl⟩ | ⟨rfl, rfl, rfl, rfl⟩ | ⟨rfl, rfl, rfl, rfl⟩
    · exact h.b6.other (by omega) _
    · exact h.b6.other (by omega) _
    · exact h.b6.set _
  · refine Eq.trans ?_ h.n0
    exact ((Below.refl (w.heap.size + 1) X).setCell (p := ⟨w.heap.size + j, 0, none⟩) (by show w.heap.size + 1 ≤ w.heap.size + j; omega) v).cell (p := ⟨w.heap.size, 0, none⟩) (by show w.heap.size < w.heap.size + 1; omega)

set_option maxRecDepth 100000 in
set_option maxHeartbeats 4000000 in
theorem blocks_any (w : World) (l : List S36) (A : Option Addr) (c : Nat) (n : Int) (hlc : l.length ≤ c) (hC : k36.C w A l.length l) (hN : (flat l).length ≤ 1152921504606846976) :
    Calls Try.prog 12 #[.slice A l.length c, .int .i64 n] w fun e w' => e = .returned (.tuple #[.int .i64 (blocksOf (flat l) n).1, .int .i64 (blocksOf (flat l) n).2.1, .int .i64 (blocksOf (flat l) n).2.2]) ∧ Below w.heap.size w w' := by
  refine (callsIn_wide (n := 5)).1 ?_
  refine callsIn_of_wp_marks Try.func12 rfl trivial ?_ rfl
  simp only [Try.ntmps12, List.size_toArray, List.length_cons, List.length_nil, Nat.reduceAdd, Nat.reduceSub, Array.replicate_succ, Array.replicate_zero, List.push_toArray, List.append_toArray, List.nil_append, List.cons_append]
  have hfn : Fence.wide.fn 22 := trivial
  have HC := Lib.hid hC
  clear hC
  gi_wp2_with ((try refine ⟨fun _ => by decide, ?_⟩); gi_at_call 22; refine (mkAll_in _ _ rfl _).mono ?_; rintro e w' ⟨rfl, rfl⟩)
  obtain ⟨wa, hwa⟩ : ∃ wa, wa = ((((((w.alloc (Obj.cells #[.int .i64 n] 3)).alloc (Obj.cells #[Value.int IntKind.i64 0] 3)).alloc (Obj.cells #[Value.int IntKind.i64 0] 3)).alloc (Obj.cells #[Value.int IntKind.i64 0] 3)).alloc (Obj.cells #[Value.int IntKind.i64 0] 3))) := ⟨_, rfl⟩
  obtain ⟨w1, hw1⟩ : ∃ w1, w1 = wa.alloc (Obj.cells #[Value.slice A l.length c] 22) := ⟨_, rfl⟩
  rw [← hwa, ← hw1]
  have hsa : wa.heap.size = w.heap.size + 5 := by rw [hwa]; simp
  have hs1 : w1.heap.size = w.heap.size + 6 := by rw [hw1]; simp [hsa]
  have hba : Below w.heap.size w wa := by rw [hwa]; exact (((((Below.refl _ w).alloc (Nat.le_refl _) _).alloc (by simp) _).alloc (by simp; omega) _).alloc (by simp; omega) _).alloc (by simp; omega) _
  have hb1 : Below w.heap.size w w1 := by rw [hw1]; exact hba.alloc (by omega) _
  have b0 : Boxed w1 w.heap.size 3 (.int .i64 n) := by rw [hw1, hwa]; exact (((((Boxed.new w 3 _).alloc _).alloc _).alloc _).alloc _).alloc _
  have b1 : Boxed w1 (w.heap.size + 1) 3 (.int .i64 0) := by rw [hw1, hwa]; simpa using ((((Boxed.new (w.alloc (Obj.cells #[.int .i64 n] 3)) 3 (.int .i64 0)).alloc _).alloc _).alloc _).alloc _
  have b2 : Boxed w1 (w.heap.size + 2) 3 (.int .i64 0) := by rw [hw1, hwa]; simpa using (((Boxed.new ((w.alloc (Obj.cells #[.int .i64 n] 3)).alloc (Obj.cells #[Value.int IntKind.i64 0] 3)) 3 (.int .i64 0)).alloc _).alloc _).alloc _
  have b3 : Boxed w1 (w.heap.size + 3) 3 (.int .i64 0) := by rw [hw1, hwa]; simpa using ((Boxed.new (((w.alloc (Obj.cells #[.int .i64 n] 3)).alloc (Obj.cells #[Value.int IntKind.i64 0] 3)).alloc (Obj.cells #[Value.int IntKind.i64 0] 3)) 3 (.int .i64 0)).alloc _).alloc _
  have b4 : Boxed w1 (w.heap.size + 4) 3 (.int .i64 0) := by rw [hw1, hwa]; simpa using (Boxed.new ((((w.alloc (Obj.cells #[.int .i64 n] 3)).alloc (Obj.cells #[Value.int IntKind.i64 0] 3)).alloc (Obj.cells #[Value.int IntKind.i64 0] 3)).alloc (Obj.cells #[Value.int IntKind.i64 0] 3)) 3 (.int .i64 0)).alloc _
  have hbt : w1.cell? ⟨w.heap.size + 5, 0, none⟩ = some (.slice A l.length c) := by
    rw [hw1]; have := (Boxed.new wa 22 (Value.slice A l.length c)).cell; rw [hsa] at this; exact this
  have hs1a : w.heap.size + 6 ≤ w1.heap.size := by omega
  have hs1b : w1.heap.size ≤ w.heap.size + 6 := by omega
  clear hwa hw1 hs1 hsa
  have hOB : OwnFrom (β := List (Elt w (fun k => k < w.heap.size) (fun s => s ∈ flat l))) w1.heap.size (fun _ W => Below w.heap.size w W ∧ w1.heap.size ≤ W.heap.size) := OwnFrom.and (ownFrom_below (Nat.le_refl _) hb1.size) (fun _ _ _ _ hs hg _ => Nat.le_trans hs hg.size)
  have hOwn : OwnFrom w1.heap.size (fun (pre : List (Elt w (fun k => k < w.heap.size) (fun s => s ∈ flat l))) W => Boxed W w.heap.size 3 (.int .i64 n) ∧ Boxed W (w.heap.size + 1) 3 (.int .i64 0) ∧ Boxed W (w.heap.size + 2) 3 (.int .i64 0) ∧ Boxed W (w.heap.size + 3) 3 (.int .i64 0) ∧
      Boxed W (w.heap.size + 4) 3 (.int .i64 (pre.length : Nat)) ∧ Hid (n < 0 ∨ (pre.length : Int) ≤ n) ∧ Below w.heap.size w W ∧ w1.heap.size ≤ W.heap.size) :=
    OwnFrom.and (Own.from (boxed_own _ _ (fun _ => _)) _) (OwnFrom.and (Own.from (boxed_own _ _ (fun _ => _)) _) (OwnFrom.and (Own.from (boxed_own _ _ (fun _ => _)) _) (OwnFrom.and (Own.from (boxed_own _ _ (fun _ => _)) _) (OwnFrom.and (Own.from (boxed_own _ _ _) _) (OwnFrom.and (fun _ _ _ _ h _ _ => h) hOB)))))
  refine rangeAll (w := w) (P := fun k => k < w.heap.size) (T := fun s => s ∈ flat l) (n := 5) (by decide) l A c hlc (fun _ h => h) (Kd.C_F k36_heap HC.out) hb1 (w.heap.size + 5) (by omega) hbt rfl none (fun _ h => by cases h) (Good.none _) rfl
    _
    (fun cd pre W => cd = .ret ∧ ∃ (r4 r5 r6 : Int), Hid (∃ (p0 : List S36) (x : S36), pre.map (·.1.1) = p0 ++ [x] ∧ (p0.length : Int) = n ∧ r4 = n + 1 ∧ r5 = n + 1 + (flat x.f6).length ∧ r6 = n + 1 + (flat x.f6).length + (flat x.f7).length) ∧
      Boxed W (w.heap.size + 1) 3 (.int .i64 r4) ∧ Boxed W (w.heap.size + 2) 3 (.int .i64 r5) ∧ Boxed W (w.heap.size + 3) 3 (.int .i64 r6) ∧ Below w.heap.size w W ∧ w1.heap.size ≤ W.heap.size)
    hOwn ?own ⟨b0, b1, b2, b3, b4, by by_cases h : n < 0; exact .inl h; exact .inr (by simp; omega), hb1, Nat.le_refl _⟩
    (VarBox w1.heap.size fun Bv x => { tmps := #[.slice A l.length c, .int .i64 n, undef, .pointer (some ⟨w.heap.size, 0, none⟩), .pointer (some ⟨w.heap.size + 1, 0, none⟩), .pointer (some ⟨w.heap.size + 2, 0, none⟩), .pointer (some ⟨w.heap.size + 3, 0, none⟩), .pointer (some ⟨w.heap.size + 4, 0, none⟩), .pointer (some ⟨Bv, 0, none⟩), undef, .slice A l.length c,
      .func (.func 28) #[] #[.pointer (some ⟨w.heap.size + 5, 0, none⟩)], .agg x.1.2.toArray, undef, undef, undef, undef, undef, undef, undef, undef, undef, undef, undef, undef, undef, undef, undef, undef, undef, undef, undef], defers := [] })
    (fun x a' => VarBox.own _ _ _ _) ?assign ?body ?done ?stop
  case own =>
    rintro cd pre X Y row ⟨e, r4, r5, r6, h, h1, h2, h2', h3⟩ hg hr
    exact ⟨e, r4, r5, r6, h, Own.from (boxed_own (β := Unit) _ _ (fun _ => _)) w1.heap.size () X Y row h1 hg hr, Own.from (boxed_own (β := Unit) _ _ (fun _ => _)) w1.heap.size () X Y row h2 hg hr, Own.from (boxed_own (β := Unit) _ _ (fun _ => _)) w1.heap.size () X Y row h2' hg hr, hOB pre X Y row h3 hg hr⟩
  case assign =>
    rintro lp pre ⟨⟨s, cs⟩, hK, hT⟩ W K hi hk
    have hk' := Lib.hid (varBox_new hOwn hi (hi.2.2.2.2.2.2.1.size) hi.2.2.2.2.2.2.2 hk)
    clear hk hi
    have hcs := k36_open (Kd.FK_now hK)
    dsimp only at hcs hK hk'
    obtain ⟨A4, c4, A5, c5, A6, c6, A7, c7, rfl, _⟩ := hcs
    rw [show ((#[12] : Array Tmp).zip (encE ⟨(s, _), hK, hT⟩)) = #[(12, Value.agg #[Value.int IntKind.i64 s.f0, Value.string s.f1, Value.string s.f2, Value.string s.f3, Value.slice A4 s.f4.length c4, Value.slice A5 s.f5.length c5, Value.slice A6 s.f6.length c6, Value.slice A7 s.f7.length c7])] from by simp [encE]]
    gi_wp2
    exact hk'.out
  case body =>
    rintro lp pre ⟨⟨s, cs⟩, hK, hT⟩ a' W hlp _ ⟨v0, v1, v2, v3, v4, hnp, hB, hW⟩ ⟨Bv, hBv, hbv, rfl⟩ hlen
    have hcs := k36_open (Kd.FK_now hK)
    dsimp only at hcs hK hbv
    obtain ⟨A4, c4, A5, c5, A6, c6, A7, c7, rfl, l4, g4, l5, g5, l6, g6, l7, g7⟩ := hcs
    have c0 := v0.cell
    have c4' := v4.cell
    have f4' := v4.frozen
    have n4 : Bv ≠ w.heap.size + 4 := by omega
    have hs6 : W.cell? ⟨Bv, 6, none⟩ = some (.slice A6 s.f6.length c6) := by rw [cell_at_block hbv]; rfl
    have hs7 : W.cell? ⟨Bv, 7, none⟩ = some (.slice A7 s.f7.length c7) := by rw [cell_at_block hbv]; rfl
    by_cases hat : (pre.length : Int) = n
    · have hab : ((pre.length : Int) == n) = true := by simpa using hat
      have hfl : (flat s.f6).length + (flat s.f7).length ≤ (flat l).length := flat_sub l s hT
      have HA := Lib.hid hat
      have HF := Lib.hid hfl
      have HN := Lib.hid hN
      have V0 := Lib.hid v0
      have V1 := Lib.hid v1
      have V2 := Lib.hid v2
      have V3 := Lib.hid v3
      have V4 := Lib.hid v4
      have HB := Lib.hid hB
      have G6 := Lib.hid g6
      have G7 := Lib.hid g7
      clear hat v0 v1 v2 v3 v4 hB g4 g5 l4 l5 hfl hN g6 g7
      have hS0 : BkS w w1 W (.int .i64 0) (.int .i64 0) (.int .i64 0) W := ⟨KeepsFrom.refl _ _, Kp.refl _ _ _ _, Below.refl _ _, V1.out, V2.out, V3.out, rfl⟩
      have hS1 : BkS w w1 W (.int .i64 0) (.int .i64 0) (.int .i64 0) { W with drawn := W.drawn + 1 } := hS0.below (Below.refl W.heap.size W).drew (by have := HB.out.size; omega)
      have hn0 : n = (pre.length : Int) := HA.out.symm
      have hpl : (pre.length : Int) < 1152921504606846976 := by have := HN.out; omega
      have hc6 := Lib.hid (count_in w s.f6 A6 c6 l6 G6.out (by have := HN.out; have := HF.out; omega))
      have hc7 := Lib.hid (count_in w s.f7 A7 c7 l7 G7.out (by have := HN.out; have := HF.out; omega))
      have H6 : ∀ X, Below w.heap.size w X → Calls Try.prog 17 #[.slice A6 s.f6.length c6] X fun e w' => e = .returned (.int .i64 ((flat s.f6).length : Nat)) ∧ Below X.heap.size X w' := fun X hX =>
        count_in X s.f6 A6 c6 l6 (Kd.C_below G6.out hX) (by have := HN.out; have := HF.out; omega)
      have H7 : ∀ X, Below w.heap.size w X → Calls Try.prog 17 #[.slice A7 s.f7.length c7] X fun e w' => e = .returned (.int .i64 ((flat s.f7).length : Nat)) ∧ Below X.heap.size X w' := fun X hX =>
        count_in X s.f7 A7 c7 l7 (Kd.C_below G7.out hX) (by have := HN.out; have := HF.out; omega)
      clear hc6 hc7
      have HH6 := Lib.hid H6
      have HH7 := Lib.hid H7
      clear H6 H7
      have HS1 := Lib.hid hS1
      have HN0 := Lib.hid hn0
      clear hS0 hS1 hn0
      gi_wp2
      refine wpIn_region_any mixed ?_
      refine wpAnyIn_flow _ (fun i => match i with | 0 => .int .i64 n | 1 => .int .i64 (n + 1) | 2 => .pointer (some ⟨Bv, 6, none⟩) | 3 => .slice A6 s.f6.length c6 | 4 => .int .i64 ((flat s.f6).length : Nat) | 5 => .int .i64 (n + 1 + (flat s.f6).length) | 6 => .int .i64 (n + 1 + (flat s.f6).length) | _ => undef)
        (fun _ w' => BkS w w1 W (.int .i64 0) (.int .i64 0) (.int .i64 0) w') rfl (by kernel_rfl) _ HS1.out ?step5 ?end5
      case step5 =>
        intro i o done a w' ho hdn hdep hag hS K hK
        have hi : i < 7 := by
          by_cases h : i < 7
          · exact h
          · rw [Array.getElem?_eq_none (by simp; omega)] at ho; cases ho
        have hcn : w'.cell? ⟨w.heap.size, 0, none⟩ = some (.int .i64 n) := hS.n0.trans V0.out.cell
        have hcb : w'.cell? ⟨Bv, 6, none⟩ = some (.slice A6 s.f6.length c6) := by
          have hb := (hS.kp.2 (Good.none _)).2.2 Bv _ hBv hbv rfl (by simp [rowOf])
          rw [cell_at_block hb]; rfl
        obtain rfl | rfl | rfl | rfl | rfl | rfl | rfl : i = 0 ∨ i = 1 ∨ i = 2 ∨ i = 3 ∨ i = 4 ∨ i = 5 ∨ i = 6 := by omega
        · cases ho
          have e : a.eval (.tmp 3) = .pointer (some ⟨w.heap.size, 0, none⟩) := hag.keep 3 rfl
          refine wpOpIn_value (i := 0) rfl rfl (fun c h => by cases h) rfl ?_ (hK _ hS)
          generalize a.eval = ev at e
          simp [execOp, e, go_sem, hcn]
        · cases ho
          have e : a.eval (.tmp 16) = .int .i64 n := hag.val_ (j := 0) (t := 16) rfl (hdep ⟨0, .data⟩ (by simp) rfl)
          have ec : a.eval (.const (.int .i64 1)) = .int .i64 1 := rfl
          refine wpOpIn_value (i := 1) rfl rfl (fun c h => by cases h) rfl ?_ (hK _ hS)
          generalize a.eval = ev at e ec
          have := HN0.out
          have hw : IntKind.i64.wrap (n + 1) = n + 1 := by rw [IntKind.wrap_i64]; omega
          simp [execOp, e, ec, go_sem, hw]
        · cases ho
          have e : a.eval (.tmp 8) = .pointer (some ⟨Bv, 0, none⟩) := hag.keep 8 rfl
          refine wpOpIn_value (i := 2) rfl rfl (fun c h => by cases h) rfl ?_ (hK _ hS)
          generalize a.eval = ev at e
          simp [execOp, e, go_sem]
        · cases ho
          have e : a.eval (.tmp 18) = .pointer (some ⟨Bv, 6, none⟩) := hag.val_ (j := 2) (t := 18) rfl (hdep ⟨2, .data⟩ (by simp) rfl)
          refine wpOpIn_value (i := 3) rfl rfl (fun c h => by cases h) rfl ?_ (hK _ hS)
          generalize a.eval = ev at e
          simp [execOp, e, go_sem, hcb]
        · cases ho
          have e : a.eval (.tmp 19) = .slice A6 s.f6.length c6 := hag.val_ (j := 3) (t := 19) rfl (hdep ⟨3, .data⟩ (by simp) rfl)
          refine wpOpIn_call (i := 4) (R := fun e w2 => e = .returned (.int .i64 ((flat s.f6).length : Nat)) ∧ Below w'.heap.size w' w2) rfl rfl rfl (fun _ _ => rfl) ?_ ?_
          · simp only [List.map_toArray, List.map_cons, List.map_nil, e]
            exact HH6.out w' ((HB.out.trans hS.be))
          · rintro e' w2 ⟨rfl, hb⟩
            exact ⟨_, rfl, hK _ (hS.below hb (by have := hS.be.size; omega))⟩
        · cases ho
          have e : a.eval (.tmp 17) = .int .i64 (n + 1) := hag.val_ (j := 1) (t := 17) rfl (hdep ⟨1, .data⟩ (by simp) rfl)
          have e2 : a.eval (.tmp 20) = .int .i64 ((flat s.f6).length : Nat) := hag.val_ (j := 4) (t := 20) rfl (hdep ⟨4, .data⟩ (by simp) rfl)
          refine wpOpIn_value (i := 5) rfl rfl (fun c h => by cases h) rfl ?_ (hK _ hS)
          generalize a.eval = ev at e e2
          have := HN0.out
          have := HN.out
          have := HF.out
          have hw : IntKind.i64.wrap (n + 1 + (flat s.f6).length) = n + 1 + (flat s.f6).length := by rw [IntKind.wrap_i64]; omega
          simp [execOp, e, e2, go_sem, hw]
        · cases ho
          have e : a.eval (.tmp 21) = .int .i64 (n + 1 + (flat s.f6).length) := hag.val_ (j := 5) (t := 21) rfl (hdep ⟨5, .data⟩ (by simp) rfl)
          refine wpOpIn_value (i := 6) rfl rfl (fun c h => by cases h) rfl ?_ (hK _ hS)
          generalize a.eval = ev at e
          simp [execOp, e, go_sem]
      case end5 =>
        intro w5 done hdn hS
        have HS5 := Lib.hid hS
        clear hS
        simp only [putTmps, dstOf, List.size_toArray, List.length_cons, List.length_nil, Nat.reduceAdd, List.getElem?_toArray, List.getElem?_cons_zero, List.getElem?_cons_succ, Option.bind_some, List.setIfInBounds_toArray, List.set_cons_zero, List.set_cons_succ]
        gi_wp2
        refine wpIn_region_any mixed ?_
        refine wpAnyIn_flow _ (fun i => match i with | 0 => .int .i64 n | 1 => .int .i64 (n + 1) | 2 => .int .i64 (n + 1 + (flat s.f6).length) | 3 => .int .i64 (n + 1 + (flat s.f6).length) | 4 => .pointer (some ⟨Bv, 7, none⟩) | 5 => .slice A7 s.f7.length c7 | 6 => .int .i64 ((flat s.f7).length : Nat) | 7 => .int .i64 (n + 1 + (flat s.f6).length + (flat s.f7).length) | _ => undef)
          (fun done w' => BkS w w1 W (if done 8 then .int .i64 (n + 1) else .int .i64 0) (if done 9 then .int .i64 (n + 1 + (flat s.f6).length) else .int .i64 0) (if done 10 then .int .i64 (n + 1 + (flat s.f6).length + (flat s.f7).length) else .int .i64 0) w') rfl (by kernel_rfl) _ ?_ ?step6 ?end6
        · exact HS5.out.below (Below.refl _ _).drew (by have := HS5.out.be.size; have := HB.out.size; omega)
        case step6 =>
          intro i o done a w' ho hdn hdep hag hS K hK
          have hi : i < 11 := by
            by_cases h : i < 11
            · exact h
            · rw [Array.getElem?_eq_none (by simp; omega)] at ho; cases ho
          have hcn : w'.cell? ⟨w.heap.size, 0, none⟩ = some (.int .i64 n) := hS.n0.trans V0.out.cell
          have hcb : w'.cell? ⟨Bv, 7, none⟩ = some (.slice A7 s.f7.length c7) := by
            have hb := (hS.kp.2 (Good.none _)).2.2 Bv _ hBv hbv rfl (by simp [rowOf])
            rw [cell_at_block hb]; rfl
          obtain rfl | rfl | rfl | rfl | rfl | rfl | rfl | rfl | rfl | rfl | rfl : i = 0 ∨ i = 1 ∨ i = 2 ∨ i = 3 ∨ i = 4 ∨ i = 5 ∨ i = 6 ∨ i = 7 ∨ i = 8 ∨ i = 9 ∨ i = 10 := by omega
          · cases ho
            have e : a.eval (.tmp 3) = .pointer (some ⟨w.heap.size, 0, none⟩) := hag.keep 3 rfl
            refine wpOpIn_value (i := 0) rfl rfl (fun c h => by cases h) rfl ?_ (hK _ hS)
            generalize a.eval = ev at e
            simp [execOp, e, go_sem, hcn]
          · cases ho
            have e : a.eval (.tmp 22) = .int .i64 n := hag.val_ (j := 0) (t := 22) rfl (hdep ⟨0, .data⟩ (by simp) rfl)
            have ec : a.eval (.const (.int .i64 1)) = .int .i64 1 := rfl
            refine wpOpIn_value (i := 1) rfl rfl (fun c h => by cases h) rfl ?_ (hK _ hS)
            generalize a.eval = ev at e ec
            have := HN0.out
            have hw : IntKind.i64.wrap (n + 1) = n + 1 := by rw [IntKind.wrap_i64]; omega
            simp [execOp, e, ec, go_sem, hw]
          · cases ho
            have e : a.eval (.tmp 9) = .int .i64 (n + 1 + (flat s.f6).length) := hag.keep 9 rfl
            refine wpOpIn_value (i := 2) rfl rfl (fun c h => by cases h) rfl ?_ (hK _ hS)
            generalize a.eval = ev at e
            simp [execOp, e, go_sem]
          · cases ho
            have e : a.eval (.tmp 9) = .int .i64 (n + 1 + (flat s.f6).length) := hag.keep 9 rfl
            refine wpOpIn_value (i := 3) rfl rfl (fun c h => by cases h) rfl ?_ (hK _ hS)
            generalize a.eval = ev at e
            simp [execOp, e, go_sem]
          · cases ho
            have e : a.eval (.tmp 8) = .pointer (some ⟨Bv, 0, none⟩) := hag.keep 8 rfl
            refine wpOpIn_value (i := 4) rfl rfl (fun c h => by cases h) rfl ?_ (hK _ hS)
            generalize a.eval = ev at e
            simp [execOp, e, go_sem]
          · cases ho
            have e : a.eval (.tmp 26) = .pointer (some ⟨Bv, 7, none⟩) := hag.val_ (j := 4) (t := 26) rfl (hdep ⟨4, .data⟩ (by simp) rfl)
            refine wpOpIn_value (i := 5) rfl rfl (fun c h => by cases h) rfl ?_ (hK _ hS)
            generalize a.eval = ev at e
            simp [execOp, e, go_sem, hcb]
          · cases ho
            have e : a.eval (.tmp 27) = .slice A7 s.f7.length c7 := hag.val_ (j := 5) (t := 27) rfl (hdep ⟨5, .data⟩ (by simp) rfl)
            refine wpOpIn_call (i := 6) (R := fun e w2 => e = .returned (.int .i64 ((flat s.f7).length : Nat)) ∧ Below w'.heap.size w' w2) rfl rfl rfl (fun _ _ => rfl) ?_ ?_
            · simp only [List.map_toArray, List.map_cons, List.map_nil, e]
              exact HH7.out w' ((HB.out.trans hS.be))
            · rintro e' w2 ⟨rfl, hb⟩
              exact ⟨_, rfl, hK _ (hS.below hb (by have := hS.be.size; omega))⟩
          · cases ho
            have e : a.eval (.tmp 25) = .int .i64 (n + 1 + (flat s.f6).length) := hag.val_ (j := 3) (t := 25) rfl (hdep ⟨3, .data⟩ (by simp) rfl)
            have e2 : a.eval (.tmp 28) = .int .i64 ((flat s.f7).length : Nat) := hag.val_ (j := 6) (t := 28) rfl (hdep ⟨6, .data⟩ (by simp) rfl)
            refine wpOpIn_value (i := 7) rfl rfl (fun c h => by cases h) rfl ?_ (hK _ hS)
            generalize a.eval = ev at e e2
            have := HN0.out
            have := HN.out
            have := HF.out
            have hw : IntKind.i64.wrap (n + 1 + (flat s.f6).length + (flat s.f7).length) = n + 1 + (flat s.f6).length + (flat s.f7).length := by rw [IntKind.wrap_i64]; omega
            simp [execOp, e, e2, go_sem, hw]
          · cases ho
            have e : a.eval (.tmp 4) = .pointer (some ⟨w.heap.size + 1, 0, none⟩) := hag.keep 4 rfl
            have e2 : a.eval (.tmp 23) = .int .i64 (n + 1) := hag.val_ (j := 1) (t := 23) rfl (hdep ⟨1, .data⟩ (by simp) rfl)
            have hc := hS.b4.cell
            have hf := hS.b4.frozen
            refine wpOpIn_skip (i := 8) rfl rfl (fun c h => by cases h) rfl (w' := w'.setCell ⟨w.heap.size + 1, 0, none⟩ (.int .i64 (n + 1))) ?_ (hK _ ?_)
            · generalize a.eval = ev at e e2
              simp [execOp, e, e2, go_sem, hc, hf]
            · exact hS.put hs1a 1 _ _ _ _ (.inl ⟨rfl, by simp [upd], by simp [upd], by simp [upd]⟩)
          · cases ho
            have e : a.eval (.tmp 5) = .pointer (some ⟨w.heap.size + 2, 0, none⟩) := hag.keep 5 rfl
            have e2 : a.eval (.tmp 24) = .int .i64 (n + 1 + (flat s.f6).length) := hag.val_ (j := 2) (t := 24) rfl (hdep ⟨2, .data⟩ (by simp) rfl)
            have hc := hS.b5.cell
            have hf := hS.b5.frozen
            refine wpOpIn_skip (i := 9) rfl rfl (fun c h => by cases h) rfl (w' := w'.setCell ⟨w.heap.size + 2, 0, none⟩ (.int .i64 (n + 1 + (flat s.f6).length))) ?_ (hK _ ?_)
            · generalize a.eval = ev at e e2
              simp [execOp, e, e2, go_sem, hc, hf]
            · exact hS.put hs1a 2 _ _ _ _ (.inr (.inl ⟨rfl, by simp [upd], by simp [upd], by simp [upd]⟩))
          · cases ho
            have e : a.eval (.tmp 6) = .pointer (some ⟨w.heap.size + 3, 0, none⟩) := hag.keep 6 rfl
            have e2 : a.eval (.tmp 29) = .int .i64 (n + 1 + (flat s.f6).length + (flat s.f7).length) := hag.val_ (j := 7) (t := 29) rfl (hdep ⟨7, .data⟩ (by simp) rfl)
            have hc := hS.b6.cell
            have hf := hS.b6.frozen
            refine wpOpIn_skip (i := 10) rfl rfl (fun c h => by cases h) rfl (w' := w'.setCell ⟨w.heap.size + 3, 0, none⟩ (.int .i64 (n + 1 + (flat s.f6).length + (flat s.f7).length))) ?_ (hK _ ?_)
            · generalize a.eval = ev at e e2
              simp [execOp, e, e2, go_sem, hc, hf]
            · exact hS.put hs1a 3 _ _ _ _ (.inr (.inr ⟨rfl, by simp [upd], by simp [upd], by simp [upd]⟩))
        case end6 =>
          intro w6 done hdn6 hS
          rw [if_pos (hdn6 8 (by decide)), if_pos (hdn6 9 (by decide)), if_pos (hdn6 10 (by decide))] at hS
          have HS6 := Lib.hid hS
          clear hS
          simp only [putTmps, dstOf, List.size_toArray, List.length_cons, List.length_nil, Nat.reduceAdd, List.getElem?_toArray, List.getElem?_cons_zero, List.getElem?_cons_succ, Option.bind_some, List.setIfInBounds_toArray, List.set_cons_zero, List.set_cons_succ]
          gi_wp2
          have hr := HS6.out
          refine ⟨hr.kf, rfl, n + 1, n + 1 + (flat s.f6).length, n + 1 + (flat s.f6).length + (flat s.f7).length, ⟨pre.map (·.1.1), s, by simp, by simpa using HA.out, rfl, rfl, rfl⟩, hr.b4, hr.b5, hr.b6, HB.out.trans (hr.be.mono (by have := HB.out.size; omega)), by have := hr.be.size; omega⟩
    · have hab : ((pre.length : Int) == n) = false := by simpa using hat
      have HA := Lib.hid hat
      have V0 := Lib.hid v0
      have V1 := Lib.hid v1
      have V2 := Lib.hid v2
      have V3 := Lib.hid v3
      have V4 := Lib.hid v4
      have HB := Lib.hid hB
      have G6 := Lib.hid g6
      have G7 := Lib.hid g7
      have hNN : (pre.length : Int) < 1152921504606846976 := by omega
      clear hat v0 v1 v2 v3 v4 hB g4 g5 l4 l5 g6 g7 hN
      have hnp2 : Hid (n < 0 ∨ ((pre.length + 1 : Nat) : Int) ≤ n) := by have := hnp.out; have := HA.out; simp only [Hid]; omega
      gi_wp2
      obtain ⟨k2, p2, q2, z2⟩ := set_round (w := w) (w1 := w1) (W := W) (w.heap.size + 4) (.int .i64 ((pre.length : Int) + 1)) (by omega) (by omega)
      refine ⟨k2, p2, (V0.out.other (by omega) _), (V1.out.other (by omega) _), (V2.out.other (by omega) _), (V3.out.other (by omega) _), ?_, by simpa using hnp2, (HB.out.trans q2), by omega⟩
      have := V4.out.set (.int .i64 ((pre.length : Int) + 1))
      simpa using this
  case done =>
    rintro D ys W hD hys ⟨v0, v1, v2, v3, v4, hnp, hB, hW⟩ hK
    have c1 := v1.cell
    have f1 := v1.frozen
    have c2 : W.cell? ⟨w.heap.size + 1 + 1, 0, none⟩ = some (.int .i64 0) := v2.cell
    have f2 : W.frozen? ⟨w.heap.size + 1 + 1, 0, none⟩ = false := v2.frozen
    have c3 : W.cell? ⟨w.heap.size + 1 + 1 + 1, 0, none⟩ = some (.int .i64 0) := v3.cell
    have f3 : W.frozen? ⟨w.heap.size + 1 + 1 + 1, 0, none⟩ = false := v3.frozen
    have hspec : Hid (blocksOf (flat l) n = (-1, -1, -1)) := by
      have h0 := hnp.out
      have hl : ys.length = (flat l).length := by have := congrArg List.length hys; simpa using this
      unfold blocksOf; simp only [Hid]; rw [if_neg (by omega)]
    have hb' := Lib.hid hB
    clear hB
    gi_wp2
    obtain ⟨k1, p1, q1, z1⟩ := set_round (w := w) (w1 := w1) (W := W) (w.heap.size + 1) (.int .i64 (-1)) (by omega) (by omega)
    obtain ⟨k2, p2, q2, z2⟩ := set_round (w := w) (w1 := w1) (W := W.setCell ⟨w.heap.size + 1, 0, none⟩ (.int .i64 (-1))) (w.heap.size + 2) (.int .i64 (-1)) (by omega) (by omega)
    obtain ⟨k3, p3, q3, z3⟩ := set_round (w := w) (w1 := w1) (W := (W.setCell ⟨w.heap.size + 1, 0, none⟩ (.int .i64 (-1))).setCell ⟨w.heap.size + 2, 0, none⟩ (.int .i64 (-1))) (w.heap.size + 3) (.int .i64 (-1)) (by omega) (by omega)
    have b1 := ((v1.set (.int .i64 (-1))).other (B' := w.heap.size + 2) (by omega) (.int .i64 (-1))).other (B' := w.heap.size + 3) (by omega) (.int .i64 (-1))
    have b2 := ((v2.other (B' := w.heap.size + 1) (by omega) (.int .i64 (-1))).set (.int .i64 (-1))).other (B' := w.heap.size + 3) (by omega) (.int .i64 (-1))
    have b3 := ((v3.other (B' := w.heap.size + 1) (by omega) (.int .i64 (-1))).other (B' := w.heap.size + 2) (by omega) (.int .i64 (-1))).set (.int .i64 (-1))
    have hK2 := (KeepsFrom.trans (KeepsFrom.trans k1 k2) k3).same D _ (by omega) hK rfl
    have hbel := ((hb'.out.trans q1).trans q2).trans q3
    generalize hW3 : ((W.setCell ⟨w.heap.size + 1, 0, none⟩ (.int .i64 (-1))).setCell ⟨w.heap.size + 2, 0, none⟩ (.int .i64 (-1))).setCell ⟨w.heap.size + 3, 0, none⟩ (.int .i64 (-1)) = W3 at b1 b2 b3 hK2 hbel
    have hW3' : ((W.setCell ⟨w.heap.size + 1, 0, none⟩ (.int .i64 (-1))).setCell ⟨w.heap.size + 1 + 1, 0, none⟩ (.int .i64 (-1))).setCell ⟨w.heap.size + 1 + 1 + 1, 0, none⟩ (.int .i64 (-1)) = W3 := hW3
    try rw [hW3']
    refine ⟨by simp, .inl ⟨_, _, rfl, run_takeDeferred hK2, ?_⟩⟩
    have r1 := (boxed_put b1 (.deferred none) hK2 rfl).cell
    have r2 : (W3.putObj D (.deferred none)).cell? ⟨w.heap.size + 1 + 1, 0, none⟩ = some (.int .i64 (-1)) := (boxed_put b2 (.deferred none) hK2 rfl).cell
    have r3 : (W3.putObj D (.deferred none)).cell? ⟨w.heap.size + 1 + 1 + 1, 0, none⟩ = some (.int .i64 (-1)) := (boxed_put b3 (.deferred none) hK2 rfl).cell
    have hbel2 := hbel.trans (belowK_b (w := w) (Nat.le_refl _) _ D _ (.deferred none) (by omega) hK2 rfl rfl)
    rw [hspec.out]
    exact ⟨.tuple #[.int .i64 (-1), .int .i64 (-1), .int .i64 (-1)], by simp [results, Try.results12, go_sem, r1, r2, r3], rfl, hbel2⟩
  case stop =>
    rintro D cd pre W hD ⟨q, hq⟩ ⟨rfl, r4, r5, r6, hx, v1, v2, v3, hB, hW⟩ hK
    have hspec : Hid (blocksOf (flat l) n = (r4, r5, r6)) := by
      obtain ⟨p0, x, h1, h2, h3, h4, h5⟩ := hx.out
      rw [← hq, h1]
      simp only [Hid]
      unfold blocksOf
      rw [← h2, snoc_at, if_pos ⟨by omega, by simp; omega⟩, h3, h4, h5, ← h2]
    have hb' := Lib.hid hB
    clear hB hx
    gi_wp2
    refine ⟨by simp, .inl ⟨_, _, rfl, run_takeDeferred hK, ?_⟩⟩
    have r1 := (boxed_put v1 (.deferred none) hK rfl).cell
    have r2 : (W.putObj D (.deferred none)).cell? ⟨w.heap.size + 1 + 1, 0, none⟩ = some (.int .i64 r5) := (boxed_put v2 (.deferred none) hK rfl).cell
    have r3 : (W.putObj D (.deferred none)).cell? ⟨w.heap.size + 1 + 1 + 1, 0, none⟩ = some (.int .i64 r6) := (boxed_put v3 (.deferred none) hK rfl).cell
    have hbel := hb'.out.trans (belowK_b (w := w) (Nat.le_refl _) W D _ (.deferred none) (by omega) hK rfl rfl)
    rw [hspec.out]
    exact ⟨.tuple #[.int .i64 r4, .int .i64 r5, .int .i64 r6], by simp [results, Try.results12, go_sem, r1, r2, r3], rfl, hbel⟩
end Go.Proofs.Ytdifnochnmiagaa.Man
