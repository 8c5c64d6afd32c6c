import Derived.Test.YtdifnochnmiagaaManI
namespace Go.Proofs.Ytdifnochnmiagaa.Man
open Go.RowKit Go.Shelf Go.Proofs.Ytdifnochnmiagaa.Pr Go.Proofs.YtdifnochnmiagaaW.PrintWords
attribute [local go_sem] Oper.semAt_some
set_option linter.unusedVariables false
set_option linter.unusedSimpArgs false

def siteOf (L : List S36) (n : Int) : Int × Bool := if 0 ≤ n ∧ n < L.length ∧ (rd_T36 L n).f0 = 4 then ((news (L.take n.toNat) : Nat), true) else (0, false)
theorem boxed_put {W : World} {B : Nat} {t : TypeId} {v : Value} (h : Boxed W B t v) {D : Nat} {o : Obj} (o' : Obj) (hD : W.heap[D]? = some o) (ho : o.isCells = false) : Boxed (W.putObj D o') B t v :=
  h.kept (grownBy_putObj' W D o') (fun e => by cases e; rw [show W.heap[B]? = _ from h] at hD; cases hD; cases ho)
/-- A store into one of the caller's own boxes, with all that a round owes. -/
theorem set_round {w w1 W : World} (b : Nat) (v : Value) (h1 : w.heap.size ≤ b) (h2 : b < w1.heap.size) : KeepsFrom w1.heap.size W (W.setCell ⟨b, 0, none⟩ v) ∧ Kp w.heap.size w1.heap.size none W (W.setCell ⟨b, 0, none⟩ v) ∧ Below w.heap.size W (W.setCell ⟨b, 0, none⟩ v) ∧ W.heap.size ≤ (W.setCell ⟨b, 0, none⟩ v).heap.size :=
  ⟨(KeepsOthers.setCell _ _ _).from _, Kp.setBox W b _ h1 h2, (Below.refl _ W).setCell (p := ⟨b, 0, none⟩) h1 _, (grownBy_setCell' W b v).size⟩

theorem snoc_at (es : List S36) (x : S36) (q : List S36) : rd_T36 (es ++ [x] ++ q) (es.length : Int) = x := by simp [rd_T36, List.getD]
theorem snoc_take (es : List S36) (x : S36) (q : List S36) : (es ++ [x] ++ q).take es.length = es := by simp

set_option maxRecDepth 100000 in
set_option maxHeartbeats 4000000 in
theorem site_any (w : World) (l : List S36) (A : Option Addr) (c : Nat) (n : Int) (hlc : l.length ≤ c) (hC : k36.C w A l.length l) (hN : (flat l).length ≤ 4611686018427387904) :
    Calls Try.prog 10 #[.slice A l.length c, .int .i64 n] w fun e w' => e = .returned (.tuple #[.int .i64 (siteOf (flat l) n).1, .bool (siteOf (flat l) n).2]) ∧ Below w.heap.size w w' := by
  refine (callsIn_wide (n := 5)).1 ?_
  refine callsIn_of_wp_marks Try.func10 rfl trivial ?_ rfl
  simp only [Try.ntmps10, List.size_toArray, List.length_cons, List.length_nil, Nat.reduceAdd, Nat.reduceSub, Array.replicate_succ, Array.replicate_zero, List.push_toArray, List.append_toArray, List.nil_append, List.cons_append]
  have hfn : Fence.wide.fn 22 := trivial
  have HC := Lib.hid hC
  clear hC
  gi_wp2_with ((try refine ⟨fun _ => by decide, ?_⟩); gi_at_call 22; refine (mkAll_in _ _ rfl _).mono ?_; rintro e w' ⟨rfl, rfl⟩)
  obtain ⟨wa, hwa⟩ : ∃ wa, wa = ((((((w.alloc (Obj.cells #[.int .i64 n] 3)).alloc (Obj.cells #[Value.int IntKind.i64 0] 3)).alloc (Obj.cells #[Value.bool false] 4)).alloc (Obj.cells #[Value.int IntKind.i64 0] 3)).alloc (Obj.cells #[Value.int IntKind.i64 0] 3))) := ⟨_, rfl⟩
  obtain ⟨w1, hw1⟩ : ∃ w1, w1 = wa.alloc (Obj.cells #[Value.slice A l.length c] 22) := ⟨_, rfl⟩
  rw [← hwa, ← hw1]
  have hsa : wa.heap.size = w.heap.size + 5 := by rw [hwa]; simp
  have hs1 : w1.heap.size = w.heap.size + 6 := by rw [hw1]; simp [hsa]
  have hba : Below w.heap.size w wa := by rw [hwa]; exact (((((Below.refl _ w).alloc (Nat.le_refl _) _).alloc (by simp) _).alloc (by simp; omega) _).alloc (by simp; omega) _).alloc (by simp; omega) _
  have hb1 : Below w.heap.size w w1 := by rw [hw1]; exact hba.alloc (by omega) _
  have b0 : Boxed w1 w.heap.size 3 (.int .i64 n) := by rw [hw1, hwa]; exact (((((Boxed.new w 3 _).alloc _).alloc _).alloc _).alloc _).alloc _
  have b1 : Boxed w1 (w.heap.size + 1) 3 (.int .i64 0) := by rw [hw1, hwa]; simpa using ((((Boxed.new (w.alloc (Obj.cells #[.int .i64 n] 3)) 3 (.int .i64 0)).alloc _).alloc _).alloc _).alloc _
  have b2 : Boxed w1 (w.heap.size + 2) 4 (.bool false) := by rw [hw1, hwa]; simpa using (((Boxed.new ((w.alloc (Obj.cells #[.int .i64 n] 3)).alloc (Obj.cells #[Value.int IntKind.i64 0] 3)) 4 (.bool false)).alloc _).alloc _).alloc _
  have b3 : Boxed w1 (w.heap.size + 3) 3 (.int .i64 0) := by rw [hw1, hwa]; simpa using ((Boxed.new (((w.alloc (Obj.cells #[.int .i64 n] 3)).alloc (Obj.cells #[Value.int IntKind.i64 0] 3)).alloc (Obj.cells #[Value.bool false] 4)) 3 (.int .i64 0)).alloc _).alloc _
  have b4 : Boxed w1 (w.heap.size + 4) 3 (.int .i64 0) := by rw [hw1, hwa]; simpa using (Boxed.new ((((w.alloc (Obj.cells #[.int .i64 n] 3)).alloc (Obj.cells #[Value.int IntKind.i64 0] 3)).alloc (Obj.cells #[Value.bool false] 4)).alloc (Obj.cells #[Value.int IntKind.i64 0] 3)) 3 (.int .i64 0)).alloc _
  have hbt : w1.cell? ⟨w.heap.size + 5, 0, none⟩ = some (.slice A l.length c) := by
    rw [hw1]; have := (Boxed.new wa 22 (Value.slice A l.length c)).cell; rw [hsa] at this; exact this
  have hs1a : w.heap.size + 6 ≤ w1.heap.size := by omega
  have hs1b : w1.heap.size ≤ w.heap.size + 6 := by omega
  clear hwa hw1 hs1 hsa
  have hOB : OwnFrom (β := List (Elt w (fun k => k < w.heap.size) (fun s => s ∈ flat l))) w1.heap.size (fun _ W => Below w.heap.size w W ∧ w1.heap.size ≤ W.heap.size) := OwnFrom.and (ownFrom_below (Nat.le_refl _) hb1.size) (fun _ _ _ _ hs hg _ => Nat.le_trans hs hg.size)
  have hOwn : OwnFrom w1.heap.size (fun (pre : List (Elt w (fun k => k < w.heap.size) (fun s => s ∈ flat l))) W => Boxed W w.heap.size 3 (.int .i64 n) ∧ Boxed W (w.heap.size + 1) 3 (.int .i64 0) ∧ Boxed W (w.heap.size + 2) 4 (.bool false) ∧ Boxed W (w.heap.size + 3) 3 (.int .i64 (news (pre.map (·.1.1)) : Nat)) ∧
      Boxed W (w.heap.size + 4) 3 (.int .i64 (pre.length : Nat)) ∧ Hid (n < 0 ∨ (pre.length : Int) ≤ n) ∧ Below w.heap.size w W ∧ w1.heap.size ≤ W.heap.size) :=
    OwnFrom.and (Own.from (boxed_own _ _ (fun _ => _)) _) (OwnFrom.and (Own.from (boxed_own _ _ (fun _ => _)) _) (OwnFrom.and (Own.from (boxed_own _ _ (fun _ => _)) _) (OwnFrom.and (Own.from (boxed_own _ _ _) _) (OwnFrom.and (Own.from (boxed_own _ _ _) _) (OwnFrom.and (fun _ _ _ _ h _ _ => h) hOB)))))
  refine rangeAll (w := w) (P := fun k => k < w.heap.size) (T := fun s => s ∈ flat l) (n := 5) (by decide) l A c hlc (fun _ h => h) (Kd.C_F k36_heap HC.out) hb1 (w.heap.size + 5) (by omega) hbt rfl none (fun _ h => by cases h) (Good.none _) rfl
    _
    (fun cd pre W => (cd = .exit 0 ∧ Hid (∃ (p0 : List S36) (x : S36), pre.map (·.1.1) = p0 ++ [x] ∧ (p0.length : Int) = n ∧ x.f0 ≠ 4) ∧ Boxed W (w.heap.size + 1) 3 (.int .i64 0) ∧ Boxed W (w.heap.size + 2) 4 (.bool false) ∧ Below w.heap.size w W ∧ w1.heap.size ≤ W.heap.size) ∨
      (cd = .ret ∧ ∃ (r : Nat), Hid (∃ (p0 : List S36) (x : S36), pre.map (·.1.1) = p0 ++ [x] ∧ (p0.length : Int) = n ∧ x.f0 = 4 ∧ r = news p0) ∧ Boxed W (w.heap.size + 1) 3 (.int .i64 r) ∧ Boxed W (w.heap.size + 2) 4 (.bool true) ∧ Below w.heap.size w W ∧ w1.heap.size ≤ W.heap.size))
    hOwn ?own ⟨b0, b1, b2, b3, b4, by by_cases h : n < 0; exact .inl h; exact .inr (by simp; omega), hb1, Nat.le_refl _⟩
    (VarBox w1.heap.size fun Bv x => { tmps := #[.slice A l.length c, .int .i64 n, undef, .pointer (some ⟨w.heap.size, 0, none⟩), .pointer (some ⟨w.heap.size + 1, 0, none⟩), .pointer (some ⟨w.heap.size + 2, 0, none⟩), .pointer (some ⟨w.heap.size + 3, 0, none⟩), .pointer (some ⟨w.heap.size + 4, 0, none⟩), .pointer (some ⟨Bv, 0, none⟩), .slice A l.length c,
      .func (.func 28) #[] #[.pointer (some ⟨w.heap.size + 5, 0, none⟩)], .agg x.1.2.toArray, undef, undef, undef, undef, undef, undef, undef, undef, undef, undef, undef, undef, undef, undef], defers := [] })
    (fun x a' => VarBox.own _ _ _ _) ?assign ?body ?done ?stop
  case own =>
    rintro cd pre X Y row (⟨e, h, h1, h2, h3⟩ | ⟨e, r, h, h1, h2, h3⟩) hg hr
    · exact .inl ⟨e, h, Own.from (boxed_own (β := Unit) _ _ (fun _ => _)) w1.heap.size () X Y row h1 hg hr, Own.from (boxed_own (β := Unit) _ _ (fun _ => _)) w1.heap.size () X Y row h2 hg hr, hOB pre X Y row h3 hg hr⟩
    · exact .inr ⟨e, r, h, Own.from (boxed_own (β := Unit) _ _ (fun _ => _)) w1.heap.size () X Y row h1 hg hr, Own.from (boxed_own (β := Unit) _ _ (fun _ => _)) w1.heap.size () X Y row h2 hg hr, hOB pre X Y row h3 hg hr⟩
  case assign =>
    rintro lp pre ⟨⟨s, cs⟩, hK, hT⟩ W K hi hk
    have hk' := Lib.hid (varBox_new hOwn hi (hi.2.2.2.2.2.2.1.size) hi.2.2.2.2.2.2.2 hk)
    clear hk hi
    have hcs := k36_open (Kd.FK_now hK)
    dsimp only at hcs hK hk'
    obtain ⟨A4, c4, A5, c5, A6, c6, A7, c7, rfl, _⟩ := hcs
    rw [show ((#[11] : Array Tmp).zip (encE ⟨(s, _), hK, hT⟩)) = #[(11, Value.agg #[Value.int IntKind.i64 s.f0, Value.string s.f1, Value.string s.f2, Value.string s.f3, Value.slice A4 s.f4.length c4, Value.slice A5 s.f5.length c5, Value.slice A6 s.f6.length c6, Value.slice A7 s.f7.length c7])] from by simp [encE]]
    gi_wp2
    exact hk'.out
  case body =>
    rintro lp pre ⟨⟨s, cs⟩, hK, hT⟩ a' W hlp _ ⟨v0, v1, v2, v3, v4, hnp, hB, hW⟩ ⟨Bv, hBv, hbv, rfl⟩ hlen
    have hcs := k36_open (Kd.FK_now hK)
    dsimp only at hcs hK hbv
    obtain ⟨A4, c4, A5, c5, A6, c6, A7, c7, rfl, _⟩ := hcs
    have c0 := v0.cell
    have c3 := v3.cell
    have c4' := v4.cell
    have f1 := v1.frozen
    have c1 := v1.cell
    have c2 := v2.cell
    have f2 := v2.frozen
    have f3 := v3.frozen
    have f4' := v4.frozen
    have hs0 : W.cell? ⟨Bv, 0, none⟩ = some (.int .i64 s.f0) := by rw [cell_at_block hbv]; rfl
    have n1 : Bv ≠ w.heap.size + 1 := by omega
    have n2 : Bv ≠ w.heap.size + 2 := by omega
    have n3 : Bv ≠ w.heap.size + 3 := by omega
    have n4 : Bv ≠ w.heap.size + 4 := by omega
    have hnl := news_le (pre.map (·.1.1))
    rw [List.length_map] at hnl
    have hsn := Lib.hid (news_snoc (pre.map (·.1.1)) s)
    have V0 := Lib.hid v0
    have V1 := Lib.hid v1
    have V2 := Lib.hid v2
    have V3 := Lib.hid v3
    have V4 := Lib.hid v4
    have HB := Lib.hid hB
    clear v0 v1 v2 v3 v4 hB hbv
    by_cases hat : (pre.length : Int) = n
    · have hab : ((pre.length : Int) == n) = true := by simpa using hat
      have HA := Lib.hid hat
      clear hat
      by_cases h4 : s.f0 = 4
      · have h4b : (s.f0 != 4) = false := by simpa using h4
        have H4 := Lib.hid h4
        clear h4
        gi_wp2
        obtain ⟨k1, p1, q1, z1⟩ := set_round (w := w) (w1 := w1) (W := W) (w.heap.size + 1) (.int .i64 (news (pre.map (·.1.1)) : Nat)) (by omega) (by omega)
        obtain ⟨k2, p2, q2, z2⟩ := set_round (w := w) (w1 := w1) (W := W.setCell ⟨w.heap.size + 1, 0, none⟩ (.int .i64 (news (pre.map (·.1.1)) : Nat))) (w.heap.size + 2) (.bool true) (by omega) (by omega)
        refine ⟨k1.trans k2, .inr ⟨rfl, _, ⟨pre.map (·.1.1), s, by simp, by simpa using HA.out, H4.out, rfl⟩, (V1.out.set _).other (by omega) _, (V2.out.other (by omega) _).set _, (HB.out.trans q1).trans q2, by omega⟩⟩
      · have h4b : (s.f0 != 4) = true := by simpa using h4
        have H4 := Lib.hid h4
        clear h4
        gi_wp2
        exact ⟨KeepsFrom.refl _ _, .inl ⟨rfl, ⟨pre.map (·.1.1), s, by simp, by simpa using HA.out, H4.out⟩, V1.out, V2.out, HB.out, hW⟩⟩
    · have hab : ((pre.length : Int) == n) = false := by simpa using hat
      have HA := Lib.hid hat
      clear hat
      have hnp2 : Hid (n < 0 ∨ ((pre.length + 1 : Nat) : Int) ≤ n) := by have := hnp.out; have := HA.out; simp only [Hid]; omega
      by_cases h4 : s.f0 = 4
      · have h4b : (s.f0 == 4) = true := by simpa using h4
        have H4 := Lib.hid h4
        clear h4
        gi_wp2
        obtain ⟨k1, p1, q1, z1⟩ := set_round (w := w) (w1 := w1) (W := W) (w.heap.size + 3) (.int .i64 ((news (pre.map (·.1.1)) : Nat) + 1)) (by omega) (by omega)
        obtain ⟨k2, p2, q2, z2⟩ := set_round (w := w) (w1 := w1) (W := W.setCell ⟨w.heap.size + 3, 0, none⟩ (.int .i64 ((news (pre.map (·.1.1)) : Nat) + 1))) (w.heap.size + 4) (.int .i64 ((pre.length : Int) + 1)) (by omega) (by omega)
        have e1 : ((news (pre.map (·.1.1) ++ [s]) : Nat) : Int) = (news (pre.map (·.1.1)) : Nat) + 1 := by rw [hsn.out, if_pos H4.out]; omega
        refine ⟨k1.trans k2, p1.trans p2, (V0.out.other (by omega) _).other (by omega) _, (V1.out.other (by omega) _).other (by omega) _, (V2.out.other (by omega) _).other (by omega) _, ?_, ?_, by simpa using hnp2, (HB.out.trans q1).trans q2, by omega⟩
        · rw [List.map_append]
          show Boxed _ _ _ (Value.int .i64 ((news (pre.map (·.1.1) ++ [s]) : Nat) : Int))
          rw [e1]; exact (V3.out.set _).other (by omega) _
        · have := (V4.out.other (B' := w.heap.size + 3) (by omega) (.int .i64 ((news (pre.map (·.1.1)) : Nat) + 1))).set (.int .i64 ((pre.length : Int) + 1))
          simpa using this
      · have h4b : (s.f0 == 4) = false := by simpa using h4
        have H4 := Lib.hid h4
        clear h4
        gi_wp2
        obtain ⟨k2, p2, q2, z2⟩ := set_round (w := w) (w1 := w1) (W := W) (w.heap.size + 4) (.int .i64 ((pre.length : Int) + 1)) (by omega) (by omega)
        have e1 : ((news (pre.map (·.1.1) ++ [s]) : Nat) : Int) = (news (pre.map (·.1.1)) : Nat) := by rw [hsn.out, if_neg H4.out]; omega
        refine ⟨k2, p2, (V0.out.other (by omega) _), (V1.out.other (by omega) _), (V2.out.other (by omega) _), ?_, ?_, by simpa using hnp2, (HB.out.trans q2), by omega⟩
        · rw [List.map_append]
          show Boxed _ _ _ (Value.int .i64 ((news (pre.map (·.1.1) ++ [s]) : Nat) : Int))
          rw [e1]; exact V3.out.other (by omega) _
        · have := V4.out.set (.int .i64 ((pre.length : Int) + 1))
          simpa using this
  case done =>
    rintro D ys W hD hys ⟨v0, v1, v2, v3, v4, hnp, hB, hW⟩ hK
    have c1 := v1.cell
    have f1 := v1.frozen
    have c2 : W.cell? ⟨w.heap.size + 1 + 1, 0, none⟩ = some (.bool false) := v2.cell
    have f2 : W.frozen? ⟨w.heap.size + 1 + 1, 0, none⟩ = false := v2.frozen
    have hspec : Hid (siteOf (flat l) n = (0, false)) := by
      have h0 := hnp.out
      have hl : ys.length = (flat l).length := by have := congrArg List.length hys; simpa using this
      unfold siteOf; simp only [Hid]; rw [if_neg (by omega)]
    have hb' := Lib.hid hB
    clear hB
    gi_wp2
    obtain ⟨k1, p1, q1, z1⟩ := set_round (w := w) (w1 := w1) (W := W) (w.heap.size + 1) (.int .i64 0) (by omega) (by omega)
    obtain ⟨k2, p2, q2, z2⟩ := set_round (w := w) (w1 := w1) (W := W.setCell ⟨w.heap.size + 1, 0, none⟩ (.int .i64 0)) (w.heap.size + 2) (.bool false) (by omega) (by omega)
    have hK2 : ((W.setCell ⟨w.heap.size + 1, 0, none⟩ (.int .i64 0)).setCell ⟨w.heap.size + 2, 0, none⟩ (.bool false)).heap[D]? = some (.deferred (some [])) := (KeepsFrom.trans k1 k2).same D _ (by omega) hK rfl
    refine ⟨by simp, .inl ⟨_, _, rfl, run_takeDeferred hK2, ?_⟩⟩
    have r1 := (boxed_put ((((v1.set (.int .i64 0))).other (B' := w.heap.size + 2) (by omega) (.bool false))) (.deferred none) hK2 rfl).cell
    have r2 : (((W.setCell ⟨w.heap.size + 1, 0, none⟩ (.int .i64 0)).setCell ⟨w.heap.size + 2, 0, none⟩ (.bool false)).putObj D (.deferred none)).cell? ⟨w.heap.size + 1 + 1, 0, none⟩ = some (.bool false) := (boxed_put ((((v2.other (B' := w.heap.size + 1) (by omega) (.int .i64 0))).set (.bool false))) (.deferred none) hK2 rfl).cell
    have hbel := ((hb'.out.trans q1).trans q2).trans (belowK_b (w := w) (Nat.le_refl _) _ D _ (.deferred none) (by omega) hK2 rfl rfl)
    rw [hspec.out]
    generalize (((W.setCell ⟨w.heap.size + 1, 0, none⟩ (.int .i64 0)).setCell ⟨w.heap.size + 2, 0, none⟩ (.bool false)).putObj D (.deferred none)) = Wf at r1 r2 hbel
    exact ⟨.tuple #[.int .i64 0, .bool false], by simp [results, Try.results10, go_sem, r1, r2], rfl, hbel⟩
  case stop =>
    rintro D cd pre W hD ⟨q, hq⟩ (⟨rfl, hx, v1, v2, hB, hW⟩ | ⟨rfl, r, hx, v1, v2, hB, hW⟩) hK
    · have c1 := v1.cell
      have f1 := v1.frozen
      have c2 : W.cell? ⟨w.heap.size + 1 + 1, 0, none⟩ = some (.bool false) := v2.cell
      have f2 : W.frozen? ⟨w.heap.size + 1 + 1, 0, none⟩ = false := v2.frozen
      have hspec : Hid (siteOf (flat l) n = (0, false)) := by
        obtain ⟨p0, x, h1, h2, h3⟩ := hx.out
        rw [← hq, h1]
        simp only [Hid]
        unfold siteOf
        rw [if_neg]
        rintro ⟨_, _, h⟩
        rw [← h2, snoc_at] at h
        exact h3 h
      have hb' := Lib.hid hB
      clear hB hx
      gi_wp2
      obtain ⟨k1, p1, q1, z1⟩ := set_round (w := w) (w1 := w1) (W := W) (w.heap.size + 1) (.int .i64 0) (by omega) (by omega)
      obtain ⟨k2, p2, q2, z2⟩ := set_round (w := w) (w1 := w1) (W := W.setCell ⟨w.heap.size + 1, 0, none⟩ (.int .i64 0)) (w.heap.size + 2) (.bool false) (by omega) (by omega)
      have hK2 : ((W.setCell ⟨w.heap.size + 1, 0, none⟩ (.int .i64 0)).setCell ⟨w.heap.size + 2, 0, none⟩ (.bool false)).heap[D]? = some (.deferred (some [])) := (KeepsFrom.trans k1 k2).same D _ (by omega) hK rfl
      refine ⟨by simp, .inl ⟨_, _, rfl, run_takeDeferred hK2, ?_⟩⟩
      have r1 := (boxed_put ((((v1.set (.int .i64 0))).other (B' := w.heap.size + 2) (by omega) (.bool false))) (.deferred none) hK2 rfl).cell
      have r2 : (((W.setCell ⟨w.heap.size + 1, 0, none⟩ (.int .i64 0)).setCell ⟨w.heap.size + 2, 0, none⟩ (.bool false)).putObj D (.deferred none)).cell? ⟨w.heap.size + 1 + 1, 0, none⟩ = some (.bool false) := (boxed_put ((((v2.other (B' := w.heap.size + 1) (by omega) (.int .i64 0))).set (.bool false))) (.deferred none) hK2 rfl).cell
      have hbel := ((hb'.out.trans q1).trans q2).trans (belowK_b (w := w) (Nat.le_refl _) _ D _ (.deferred none) (by omega) hK2 rfl rfl)
      rw [hspec.out]
      generalize (((W.setCell ⟨w.heap.size + 1, 0, none⟩ (.int .i64 0)).setCell ⟨w.heap.size + 2, 0, none⟩ (.bool false)).putObj D (.deferred none)) = Wf at r1 r2 hbel
      exact ⟨.tuple #[.int .i64 0, .bool false], by simp [results, Try.results10, go_sem, r1, r2], rfl, hbel⟩
    · have hspec : Hid (siteOf (flat l) n = (((r : Nat) : Int), true)) := by
        obtain ⟨p0, x, h1, h2, h3, h4⟩ := hx.out
        rw [← hq, h1]
        simp only [Hid]
        unfold siteOf
        rw [← h2, snoc_at, if_pos ⟨by omega, by simp; omega, h3⟩, Int.toNat_natCast, snoc_take, h4]
      have hb' := Lib.hid hB
      clear hB hx
      gi_wp2
      refine ⟨by simp, .inl ⟨_, _, rfl, run_takeDeferred hK, ?_⟩⟩
      have r1 := (boxed_put v1 (.deferred none) hK rfl).cell
      have r2 : (W.putObj D (.deferred none)).cell? ⟨w.heap.size + 1 + 1, 0, none⟩ = some (.bool true) := (boxed_put v2 (.deferred none) hK rfl).cell
      have hbel := hb'.out.trans (belowK_b (w := w) (Nat.le_refl _) W D _ (.deferred none) (by omega) hK rfl rfl)
      rw [hspec.out]
      exact ⟨.tuple #[.int .i64 r, .bool true], by simp [results, Try.results10, go_sem, r1, r2], rfl, hbel⟩
end Go.Proofs.Ytdifnochnmiagaa.Man
