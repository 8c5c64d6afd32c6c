/- A part of the proof that GraphCalls returns true for every argument (the row of GraphCallsUpto: theorem graphCalls_holds). Parts: Fix12 Pr5 Pr8 PuD PuE Pr9 PuG LawGraphCalls. No conditions beyond the given statement's own. -/
import Derived.Test.YtdbngbmokgeeiaaGCb3
import Derived.Test.YtdbngbmokgeeiaaGCb4
import Derived.RegionTactic
import Derived.ChangeAlike
import Derived.Test.YtdbngbmokgeeiaaGCb1
import Derived.Test.YtdbngbmokgeeiaaGCb2
import Derived.Test.YtdbngbmokgeeiaaRows
import Derived.WalkKit
import Derived.ProofKit
import Derived.OpenShut
import Derived.ShutString
import Derived.ChangeOld
import Derived.Below
import Derived.SizedLaws
import Derived.JoinedCond

namespace Go.Proofs.Ytdbngbmokgeeiaa.Man
open Go.RowKit Go.Proofs.Ytdbngbmokgeeiaa.Pr Go.Proofs.YtdbngbmokgeeiaaW.PrintWords
attribute [local go_sem] Oper.semAt_some
set_option linter.unusedVariables false
set_option linter.unusedSimpArgs false
theorem C_ints {w : World} {g : Nat} {t : TypeId} (xs : List Int) (h : w.heap[g]? = some (.cells (xs.map (Value.int .i64)).toArray t (0, 0))) (hl : xs.length ≤ 9223372036854775807) : Kd.C (Kd.int .i64) w (some ⟨g, 0, none⟩) xs.length xs := by
  refine ⟨rfl, hl, fun _ => ⟨_, rfl, fun j p hj => ⟨[.int .i64 p], rfl, rfl, fun i u hi => ?_⟩⟩⟩
  have e : i = 0 ∧ u = .int .i64 p := by
    cases i with
    | zero => simp at hi; exact ⟨rfl, hi.symm⟩
    | succ i => simp at hi
  obtain ⟨rfl, rfl⟩ := e
  show w.cell? ((⟨g, 0, none⟩ : Addr).add (j * 1 + 0)) = _
  rw [Addr.add_mid, Nat.zero_add, Nat.add_zero, Nat.mul_one, blk_cell h j]
  simp [hj]
theorem C_rows {w : World} {g : Nat} {t e : TypeId} (xs : List (List Int)) (cs : List Value) (h : w.heap[g]? = some (.cells cs.toArray t (0, 0))) (hl : xs.length ≤ 9223372036854775807)
    (hk : ∀ (j : Nat) (p : List Int), xs[j]? = some p → ∃ A c, cs[j]? = some (Value.slice A p.length c) ∧ p.length ≤ c ∧ Kd.C (Kd.int .i64) w A p.length p) : Kd.C (Kd.slice e (Kd.int .i64)) w (some ⟨g, 0, none⟩) xs.length xs := by
  refine ⟨rfl, hl, fun _ => ⟨_, rfl, fun j p hj => ?_⟩⟩
  obtain ⟨A, c, h1, h2, h3⟩ := hk j p hj
  refine ⟨[.slice A p.length c], rfl, ⟨A, c, rfl, h2, h3⟩, fun i u hi => ?_⟩
  have e : i = 0 ∧ u = .slice A p.length c := by
    cases i with
    | zero => simp at hi; exact ⟨rfl, hi.symm⟩
    | succ i => simp at hi
  obtain ⟨rfl, rfl⟩ := e
  show w.cell? ((⟨g, 0, none⟩ : Addr).add (j * 1 + 0)) = _
  rw [Addr.add_mid, Nat.zero_add, Nat.add_zero, Nat.mul_one, blk_cell h j]
  simp [h1]
theorem sizePR : (Try.prog.info? 24).map (·.size) = some 1 := by kernel_rfl
theorem sizeFT : (Try.prog.info? 47).map (·.size) = some 2 := by kernel_rfl
theorem calls_p12 : callsF p12Prog = [[1], [1], [0, 1, 2]] := by
  simp [callsF, callsOf, p12Prog, flat, applies, coll, calledBy, funIx, firstIx, allIx, srt, Lib.compact, List.range_succ]
  <;> rfl
theorem p12_few : ∀ f, f ∈ p12Prog → (flat f.f2).length ≤ 2000000 := by
  intro f hf
  simp only [p12Prog, List.mem_cons, List.not_mem_nil, or_false] at hf
  rcases hf with rfl | rfl | rfl <;> simp [flat]
theorem sm_p12 : Sm [[1], [1], [0, 1, 2]] := ⟨by decide, fun i => by
  match i with
  | 0 => decide
  | 1 => decide
  | 2 => decide
  | i + 3 => simp⟩
theorem reach_p12 : reachF [[1], [1], [0, 1, 2]] 0 = [0, 1] := by
  obtain ⟨K, hK⟩ := rreach_ev _ sm_p12 0
  have h1 := hK (max K 80) (Nat.le_max_left _ _)
  have h2 : r12_Reach.f 80 [[1], [1], [0, 1, 2]] 0 = some [0, 1] := by kernel_rfl
  have h3 := at_rounds (g := fun k => r12_Reach.f k [[1], [1], [0, 1, 2]] 0) (fun k => r12_Reach.mono _ _ k) (Nat.le_max_right K 80) h2
  exact Option.some.inj (h1.symm.trans h3)
set_option maxRecDepth 100000 in
set_option maxHeartbeats 16000000 in
theorem fixed_any (w : World) : Calls Try.prog 9 #[] w fun e w' => e = .returned (.bool true) ∧ Below w.heap.size w w' := by
  have HB := Lib.hid (Below.refl w.heap.size w)
  go_enter Try.func9, Try.ntmps9
  go_wp2_with (first
    | (go_at_call 25; with_reducible refine (calls_of_args (args' := #[.string p12Src]) (by kernel_rfl) (p12_parse _)).mono ?_; rintro x w1 ⟨v, rfl, hR, hb⟩; obtain ⟨AP, cP, eA, hcc, hF⟩ := hR.tell; subst eA; have HB := Lib.hid (below_step HB.out hb); obtain ⟨loP, hlo⟩ : ∃ lo, lo = w1.heap.size := ⟨_, rfl⟩; have FP := Lib.hid (Kd.F_mono (ok' := fun k => k < loP) (Kd.F_bound hF) (fun k hk => by rw [hlo]; exact hk.2)); have HLOP := Lib.hid (show loP ≤ w1.heap.size by rw [hlo]; exact Nat.le_refl _); have HCP := Lib.hid hcc; clear hcc hF hlo; clear hb)
    | ((with_reducible refine gate_dst (N := 1) rfl ?_); refine box_event ?hg (N := 1) ?hd (cs := #[.slice none 0 0]) (t := 24) ?hr ?_; (case hd => rfl); (case hg => rfl); (case hr => first | (go_simp; done) | (go_simp; rfl)); intro g1 hg w1 hx hb; have G1 := Lib.hid (show w.heap.size ≤ g1 by rw [hg]; exact HB.out.size); have UP_1 := Lib.hid (show loP ≤ g1 by rw [hg]; exact HLOP.out); have FP := Lib.hid (Kd.F_below FP.out hb); have HLOP := Lib.hid (Nat.le_trans HLOP.out hb.size); have HB := Lib.hid (below_step HB.out hb); have B1 := Lib.hid (One.mk hx); clear hx hb hg; obtain ⟨c1_0, _⟩ := B1.out.c; obtain ⟨f1_0, _⟩ := B1.out.f)
    | ((with_reducible refine gate_dst (N := 2) rfl ?_); refine box_event ?hg (N := 2) ?hd (cs := #[.int .i64 0, .int .i64 0]) (t := 47) ?hr ?_; (case hd => rfl); (case hg => rfl); (case hr => first | (go_simp; done) | (go_simp; rfl)); intro g2 hg w1 hx hb; clear c1_0 f1_0; have N1_2 := Lib.hid (ne_of_blk B1.out.b hg); have G2 := Lib.hid (show w.heap.size ≤ g2 by rw [hg]; exact HB.out.size); have UP_2 := Lib.hid (show loP ≤ g2 by rw [hg]; exact HLOP.out); have FP := Lib.hid (Kd.F_below FP.out hb); have HLOP := Lib.hid (Nat.le_trans HLOP.out hb.size); have B1 := Lib.hid (B1.out.below hb); have HB := Lib.hid (below_step HB.out hb); have B2 := Lib.hid (Two.mk hx); clear hx hb hg; obtain ⟨c1_0, _⟩ := B1.out.c; obtain ⟨f1_0, _⟩ := B1.out.f; obtain ⟨c2_0, c2_1, _⟩ := B2.out.c; obtain ⟨f2_0, f2_1, _⟩ := B2.out.f)
    | ((with_reducible refine gate_store (t := 24) (p := 1) rfl ?_); refine st_event rfl rfl rfl [.slice AP p12Prog.length cP] B1.out.b rfl ?hv sizePR rfl ?h1 ?_; (case hv => rfl); (case h1 => (intro q hq; simp only [List.mem_cons, List.not_mem_nil, or_false] at hq; rcases hq with rfl <;> rfl)); intro w1 hx hp; clear c1_0 f1_0; clear c2_0 f2_0 c2_1 f2_1; have B2 := Lib.hid (B2.out.far' hp (Ne.symm N1_2.out)); have FP := Lib.hid (foot_puts FP.out hp (Nat.not_lt.2 UP_1.out)); have HB := Lib.hid (hp.below _ G1.out HB.out); have B1 := Lib.hid (One.mk hx); clear hx hp; obtain ⟨c1_0, _⟩ := B1.out.c; obtain ⟨f1_0, _⟩ := B1.out.f; obtain ⟨c2_0, c2_1, _⟩ := B2.out.c; obtain ⟨f2_0, f2_1, _⟩ := B2.out.f)
    | ((with_reducible refine gate_store (t := 47) (p := 2) rfl ?_); refine st_event rfl rfl rfl [.int .i64 0, .int .i64 0] B2.out.b rfl ?hv sizeFT rfl ?h1 ?_; (case hv => rfl); (case h1 => (intro q hq; simp only [List.mem_cons, List.not_mem_nil, or_false] at hq; rcases hq with rfl | rfl <;> rfl)); intro w1 hx hp; clear c1_0 f1_0; clear c2_0 f2_0 c2_1 f2_1; have B1 := Lib.hid (B1.out.far' hp (N1_2.out)); have FP := Lib.hid (foot_puts FP.out hp (Nat.not_lt.2 UP_2.out)); have HB := Lib.hid (hp.below _ G2.out HB.out); have B2 := Lib.hid (Two.mk hx); clear hx hp; obtain ⟨c1_0, _⟩ := B1.out.c; obtain ⟨f1_0, _⟩ := B1.out.f; obtain ⟨c2_0, c2_1, _⟩ := B2.out.c; obtain ⟨f2_0, f2_1, _⟩ := B2.out.f)
    | (go_at_call 10; with_reducible refine (calls_any _ p12Prog AP cP HCP.out (Kd.F_now FP.out) (by decide) p12_few).mono ?_; rintro x w1 ⟨v, rfl, hS, hb⟩; clear c1_0 f1_0; clear c2_0 f2_0 c2_1 f2_1; have FP := Lib.hid (Kd.F_below FP.out hb); have B1 := Lib.hid (B1.out.below hb); have B2 := Lib.hid (B2.out.below hb); have HB := Lib.hid (below_step HB.out hb); rw [calls_p12] at hS; obtain ⟨Ag, cg, eA, hcc, hC⟩ := Kd.S_reads hS; subst eA; have KG := Lib.hid hC; have HCG := Lib.hid hcc; clear hcc hC hS; clear hb; obtain ⟨c1_0, _⟩ := B1.out.c; obtain ⟨f1_0, _⟩ := B1.out.f; obtain ⟨c2_0, c2_1, _⟩ := B2.out.c; obtain ⟨f2_0, f2_1, _⟩ := B2.out.f)
    | ((with_reducible refine gate_dst (N := 15) rfl ?_); refine gate_guard (by first | rfl | kernel_rfl) ?_; refine lit_event rfl (N := 15) rfl (n := 1) (cs := #[.int .i64 1]) (t := 3) ?hr ?_; (case hr => first | (go_simp; done) | (go_simp; rfl)); intro g15 hg w1 hx hb; clear c1_0 f1_0; clear c2_0 f2_0 c2_1 f2_1; have FP := Lib.hid (Kd.F_below FP.out hb); have B1 := Lib.hid (B1.out.below hb); have B2 := Lib.hid (B2.out.below hb); have KG := Lib.hid (Kd.C_below KG.out hb); have HB := Lib.hid (below_step HB.out hb); have B15 := Lib.hid (RowB.mk hx); clear hx hb hg; obtain ⟨c1_0, _⟩ := B1.out.c; obtain ⟨f1_0, _⟩ := B1.out.f; obtain ⟨c2_0, c2_1, _⟩ := B2.out.c; obtain ⟨f2_0, f2_1, _⟩ := B2.out.f)
    | ((with_reducible refine gate_dst (N := 16) rfl ?_); refine gate_guard (by first | rfl | kernel_rfl) ?_; refine lit_event rfl (N := 16) rfl (n := 1) (cs := #[.int .i64 1]) (t := 3) ?hr ?_; (case hr => first | (go_simp; done) | (go_simp; rfl)); intro g16 hg w1 hx hb; clear c1_0 f1_0; clear c2_0 f2_0 c2_1 f2_1; have FP := Lib.hid (Kd.F_below FP.out hb); have B1 := Lib.hid (B1.out.below hb); have B2 := Lib.hid (B2.out.below hb); have KG := Lib.hid (Kd.C_below KG.out hb); have B15 := Lib.hid (B15.out.below hb); have HB := Lib.hid (below_step HB.out hb); have B16 := Lib.hid (RowB.mk hx); clear hx hb hg; obtain ⟨c1_0, _⟩ := B1.out.c; obtain ⟨f1_0, _⟩ := B1.out.f; obtain ⟨c2_0, c2_1, _⟩ := B2.out.c; obtain ⟨f2_0, f2_1, _⟩ := B2.out.f)
    | ((with_reducible refine gate_dst (N := 17) rfl ?_); refine gate_guard (by first | rfl | kernel_rfl) ?_; refine lit_event rfl (N := 17) rfl (n := 3) (cs := #[.int .i64 0, .int .i64 1, .int .i64 2]) (t := 3) ?hr ?_; (case hr => first | (go_simp; done) | (go_simp; rfl)); intro g17 hg w1 hx hb; clear c1_0 f1_0; clear c2_0 f2_0 c2_1 f2_1; have FP := Lib.hid (Kd.F_below FP.out hb); have B1 := Lib.hid (B1.out.below hb); have B2 := Lib.hid (B2.out.below hb); have KG := Lib.hid (Kd.C_below KG.out hb); have B15 := Lib.hid (B15.out.below hb); have B16 := Lib.hid (B16.out.below hb); have HB := Lib.hid (below_step HB.out hb); have B17 := Lib.hid (RowB.mk hx); clear hx hb hg; obtain ⟨c1_0, _⟩ := B1.out.c; obtain ⟨f1_0, _⟩ := B1.out.f; obtain ⟨c2_0, c2_1, _⟩ := B2.out.c; obtain ⟨f2_0, f2_1, _⟩ := B2.out.f)
    | ((with_reducible refine gate_dst (N := 18) rfl ?_); refine gate_guard (by first | rfl | kernel_rfl) ?_; refine lit_event rfl (N := 18) rfl (n := 3) (cs := #[.slice (some ⟨g15, 0, none⟩) 1 1, .slice (some ⟨g16, 0, none⟩) 1 1, .slice (some ⟨g17, 0, none⟩) 3 3]) (t := 32) ?hr ?_; (case hr => first | (go_simp; done) | (go_simp; rfl)); intro g18 hg w1 hx hb; clear c1_0 f1_0; clear c2_0 f2_0 c2_1 f2_1; have FP := Lib.hid (Kd.F_below FP.out hb); have B1 := Lib.hid (B1.out.below hb); have B2 := Lib.hid (B2.out.below hb); have KG := Lib.hid (Kd.C_below KG.out hb); have B15 := Lib.hid (B15.out.below hb); have B16 := Lib.hid (B16.out.below hb); have B17 := Lib.hid (B17.out.below hb); have HB := Lib.hid (below_step HB.out hb); have B18 := Lib.hid (RowB.mk hx); clear hx hb hg; obtain ⟨c1_0, _⟩ := B1.out.c; obtain ⟨f1_0, _⟩ := B1.out.f; obtain ⟨c2_0, c2_1, _⟩ := B2.out.c; obtain ⟨f2_0, f2_1, _⟩ := B2.out.f)
    | (go_at_call 11; ((have hL := (C_rows (w := w1) (e := 3) [[1], [1], [0, 1, 2]] _ B18.out.b (by decide) (fun j p hj => by
          rcases j with _ | _ | _ | j
          · obtain rfl := Option.some.inj hj; exact ⟨_, _, rfl, by decide, C_ints [1] B15.out.b (by decide)⟩
          · obtain rfl := Option.some.inj hj; exact ⟨_, _, rfl, by decide, C_ints [1] B16.out.b (by decide)⟩
          · obtain rfl := Option.some.inj hj; exact ⟨_, _, rfl, by decide, C_ints [0, 1, 2] B17.out.b (by decide)⟩
          · simp at hj)))); (with_reducible refine (calls_of_args ?ha (r12_Same.calls 40 Ag cg [[1], [1], [0, 1, 2]] (some ⟨g18, 0, none⟩) 3 [[1], [1], [0, 1, 2]] true _ KG.out HCG.out hL (by decide) (by kernel_rfl))).mono ?_); (case ha => (simp; done)); ((rintro x w1 ⟨rfl, hd⟩; have hb := hd.below; clear hd; clear hL; clear c1_0 f1_0; clear c2_0 f2_0 c2_1 f2_1; have FP := Lib.hid (Kd.F_below FP.out hb); have B1 := Lib.hid (B1.out.below hb); have B2 := Lib.hid (B2.out.below hb); have KG := Lib.hid (Kd.C_below KG.out hb); have B15 := Lib.hid (B15.out.below hb); have B16 := Lib.hid (B16.out.below hb); have B17 := Lib.hid (B17.out.below hb); have B18 := Lib.hid (B18.out.below hb); have HB := Lib.hid (below_step HB.out hb); clear hb; obtain ⟨c1_0, _⟩ := B1.out.c; obtain ⟨f1_0, _⟩ := B1.out.f; obtain ⟨c2_0, c2_1, _⟩ := B2.out.c; obtain ⟨f2_0, f2_1, _⟩ := B2.out.f)))
    | (go_at_call 17; with_reducible refine (calls_of_args ?ha (reach_any [[1], [1], [0, 1, 2]] sm_p12 Ag cg 0 _ HCG.out KG.out)).mono ?_; (case ha => (simp; done)); rintro x w1 ⟨v, rfl, hR, hb⟩; clear c1_0 f1_0; clear c2_0 f2_0 c2_1 f2_1; have FP := Lib.hid (Kd.F_below FP.out hb); have B1 := Lib.hid (B1.out.below hb); have B2 := Lib.hid (B2.out.below hb); have KG := Lib.hid (Kd.C_below KG.out hb); have B15 := Lib.hid (B15.out.below hb); have B16 := Lib.hid (B16.out.below hb); have B17 := Lib.hid (B17.out.below hb); have B18 := Lib.hid (B18.out.below hb); have HB := Lib.hid (below_step HB.out hb); rw [reach_p12] at hR; obtain ⟨Ar, cr, eA, hcc, hC⟩ := Kd.R_reads hR; subst eA; have KR := Lib.hid hC; have HCR := Lib.hid hcc; clear hcc hC hR; clear hb; obtain ⟨c1_0, _⟩ := B1.out.c; obtain ⟨f1_0, _⟩ := B1.out.f; obtain ⟨c2_0, c2_1, _⟩ := B2.out.c; obtain ⟨f2_0, f2_1, _⟩ := B2.out.f)
    | ((with_reducible refine gate_dst (N := 24) rfl ?_); refine gate_guard (by first | rfl | kernel_rfl) ?_; refine lit_event rfl (N := 24) rfl (n := 2) (cs := #[.int .i64 0, .int .i64 1]) (t := 3) ?hr ?_; (case hr => first | (go_simp; done) | (go_simp; rfl)); intro g24 hg w1 hx hb; clear c1_0 f1_0; clear c2_0 f2_0 c2_1 f2_1; have FP := Lib.hid (Kd.F_below FP.out hb); have B1 := Lib.hid (B1.out.below hb); have B2 := Lib.hid (B2.out.below hb); have KG := Lib.hid (Kd.C_below KG.out hb); have B15 := Lib.hid (B15.out.below hb); have B16 := Lib.hid (B16.out.below hb); have B17 := Lib.hid (B17.out.below hb); have B18 := Lib.hid (B18.out.below hb); have KR := Lib.hid (Kd.C_below KR.out hb); have HB := Lib.hid (below_step HB.out hb); have B24 := Lib.hid (RowB.mk hx); clear hx hb hg; obtain ⟨c1_0, _⟩ := B1.out.c; obtain ⟨f1_0, _⟩ := B1.out.f; obtain ⟨c2_0, c2_1, _⟩ := B2.out.c; obtain ⟨f2_0, f2_1, _⟩ := B2.out.f)
    | (go_at_call 16; have hL := C_ints [0, 1] B24.out.b (by decide); (with_reducible refine (calls_of_args ?ha (r12_Ints.calls 10 Ar cr [0, 1] (some ⟨g24, 0, none⟩) 2 [0, 1] true _ KR.out HCR.out hL (by decide) (by kernel_rfl))).mono ?_); (case ha => (simp; done)); ((rintro x w1 ⟨rfl, hd⟩; have hb := hd.below; clear hd; clear hL; clear c1_0 f1_0; clear c2_0 f2_0 c2_1 f2_1; have FP := Lib.hid (Kd.F_below FP.out hb); have B1 := Lib.hid (B1.out.below hb); have B2 := Lib.hid (B2.out.below hb); have KG := Lib.hid (Kd.C_below KG.out hb); have B15 := Lib.hid (B15.out.below hb); have B16 := Lib.hid (B16.out.below hb); have B17 := Lib.hid (B17.out.below hb); have B18 := Lib.hid (B18.out.below hb); have KR := Lib.hid (Kd.C_below KR.out hb); have B24 := Lib.hid (B24.out.below hb); have HB := Lib.hid (below_step HB.out hb); clear hb; obtain ⟨c1_0, _⟩ := B1.out.c; obtain ⟨f1_0, _⟩ := B1.out.f; obtain ⟨c2_0, c2_1, _⟩ := B2.out.c; obtain ⟨f2_0, f2_1, _⟩ := B2.out.f)))
    | (go_at_call 19; with_reducible refine (calls_of_args ?ha (graph_Turn.calls 60 Ag cg [[1], [1], [0, 1, 2]] [[2], [0, 1, 2], [2]] _ KG.out HCG.out (by kernel_rfl))).mono ?_; (case ha => (simp; done)); rintro x w1 ⟨v, rfl, hS, hb⟩; clear c1_0 f1_0; clear c2_0 f2_0 c2_1 f2_1; have FP := Lib.hid (Kd.F_below FP.out hb); have B1 := Lib.hid (B1.out.below hb); have B2 := Lib.hid (B2.out.below hb); have KG := Lib.hid (Kd.C_below KG.out hb); have B15 := Lib.hid (B15.out.below hb); have B16 := Lib.hid (B16.out.below hb); have B17 := Lib.hid (B17.out.below hb); have B18 := Lib.hid (B18.out.below hb); have KR := Lib.hid (Kd.C_below KR.out hb); have B24 := Lib.hid (B24.out.below hb); have HB := Lib.hid (below_step HB.out hb); obtain ⟨At, ct, eA, hcc, hC⟩ := Kd.S_reads hS; subst eA; have KT := Lib.hid hC; have HCT := Lib.hid hcc; clear hcc hC hS; clear hb; obtain ⟨c1_0, _⟩ := B1.out.c; obtain ⟨f1_0, _⟩ := B1.out.f; obtain ⟨c2_0, c2_1, _⟩ := B2.out.c; obtain ⟨f2_0, f2_1, _⟩ := B2.out.f)
    | ((with_reducible refine gate_dst (N := 30) rfl ?_); refine gate_guard (by first | rfl | kernel_rfl) ?_; refine lit_event rfl (N := 30) rfl (n := 1) (cs := #[.int .i64 2]) (t := 3) ?hr ?_; (case hr => first | (go_simp; done) | (go_simp; rfl)); intro g30 hg w1 hx hb; clear c1_0 f1_0; clear c2_0 f2_0 c2_1 f2_1; have FP := Lib.hid (Kd.F_below FP.out hb); have B1 := Lib.hid (B1.out.below hb); have B2 := Lib.hid (B2.out.below hb); have KG := Lib.hid (Kd.C_below KG.out hb); have B15 := Lib.hid (B15.out.below hb); have B16 := Lib.hid (B16.out.below hb); have B17 := Lib.hid (B17.out.below hb); have B18 := Lib.hid (B18.out.below hb); have KR := Lib.hid (Kd.C_below KR.out hb); have B24 := Lib.hid (B24.out.below hb); have KT := Lib.hid (Kd.C_below KT.out hb); have HB := Lib.hid (below_step HB.out hb); have B30 := Lib.hid (RowB.mk hx); clear hx hb hg; obtain ⟨c1_0, _⟩ := B1.out.c; obtain ⟨f1_0, _⟩ := B1.out.f; obtain ⟨c2_0, c2_1, _⟩ := B2.out.c; obtain ⟨f2_0, f2_1, _⟩ := B2.out.f)
    | ((with_reducible refine gate_dst (N := 31) rfl ?_); refine gate_guard (by first | rfl | kernel_rfl) ?_; refine lit_event rfl (N := 31) rfl (n := 3) (cs := #[.int .i64 0, .int .i64 1, .int .i64 2]) (t := 3) ?hr ?_; (case hr => first | (go_simp; done) | (go_simp; rfl)); intro g31 hg w1 hx hb; clear c1_0 f1_0; clear c2_0 f2_0 c2_1 f2_1; have FP := Lib.hid (Kd.F_below FP.out hb); have B1 := Lib.hid (B1.out.below hb); have B2 := Lib.hid (B2.out.below hb); have KG := Lib.hid (Kd.C_below KG.out hb); have B15 := Lib.hid (B15.out.below hb); have B16 := Lib.hid (B16.out.below hb); have B17 := Lib.hid (B17.out.below hb); have B18 := Lib.hid (B18.out.below hb); have KR := Lib.hid (Kd.C_below KR.out hb); have B24 := Lib.hid (B24.out.below hb); have KT := Lib.hid (Kd.C_below KT.out hb); have B30 := Lib.hid (B30.out.below hb); have HB := Lib.hid (below_step HB.out hb); have B31 := Lib.hid (RowB.mk hx); clear hx hb hg; obtain ⟨c1_0, _⟩ := B1.out.c; obtain ⟨f1_0, _⟩ := B1.out.f; obtain ⟨c2_0, c2_1, _⟩ := B2.out.c; obtain ⟨f2_0, f2_1, _⟩ := B2.out.f)
    | ((with_reducible refine gate_dst (N := 32) rfl ?_); refine gate_guard (by first | rfl | kernel_rfl) ?_; refine lit_event rfl (N := 32) rfl (n := 1) (cs := #[.int .i64 2]) (t := 3) ?hr ?_; (case hr => first | (go_simp; done) | (go_simp; rfl)); intro g32 hg w1 hx hb; clear c1_0 f1_0; clear c2_0 f2_0 c2_1 f2_1; have FP := Lib.hid (Kd.F_below FP.out hb); have B1 := Lib.hid (B1.out.below hb); have B2 := Lib.hid (B2.out.below hb); have KG := Lib.hid (Kd.C_below KG.out hb); have B15 := Lib.hid (B15.out.below hb); have B16 := Lib.hid (B16.out.below hb); have B17 := Lib.hid (B17.out.below hb); have B18 := Lib.hid (B18.out.below hb); have KR := Lib.hid (Kd.C_below KR.out hb); have B24 := Lib.hid (B24.out.below hb); have KT := Lib.hid (Kd.C_below KT.out hb); have B30 := Lib.hid (B30.out.below hb); have B31 := Lib.hid (B31.out.below hb); have HB := Lib.hid (below_step HB.out hb); have B32 := Lib.hid (RowB.mk hx); clear hx hb hg; obtain ⟨c1_0, _⟩ := B1.out.c; obtain ⟨f1_0, _⟩ := B1.out.f; obtain ⟨c2_0, c2_1, _⟩ := B2.out.c; obtain ⟨f2_0, f2_1, _⟩ := B2.out.f)
    | ((with_reducible refine gate_dst (N := 33) rfl ?_); refine gate_guard (by first | rfl | kernel_rfl) ?_; refine lit_event rfl (N := 33) rfl (n := 3) (cs := #[.slice (some ⟨g30, 0, none⟩) 1 1, .slice (some ⟨g31, 0, none⟩) 3 3, .slice (some ⟨g32, 0, none⟩) 1 1]) (t := 32) ?hr ?_; (case hr => first | (go_simp; done) | (go_simp; rfl)); intro g33 hg w1 hx hb; clear c1_0 f1_0; clear c2_0 f2_0 c2_1 f2_1; have FP := Lib.hid (Kd.F_below FP.out hb); have B1 := Lib.hid (B1.out.below hb); have B2 := Lib.hid (B2.out.below hb); have KG := Lib.hid (Kd.C_below KG.out hb); have B15 := Lib.hid (B15.out.below hb); have B16 := Lib.hid (B16.out.below hb); have B17 := Lib.hid (B17.out.below hb); have B18 := Lib.hid (B18.out.below hb); have KR := Lib.hid (Kd.C_below KR.out hb); have B24 := Lib.hid (B24.out.below hb); have KT := Lib.hid (Kd.C_below KT.out hb); have B30 := Lib.hid (B30.out.below hb); have B31 := Lib.hid (B31.out.below hb); have B32 := Lib.hid (B32.out.below hb); have HB := Lib.hid (below_step HB.out hb); have B33 := Lib.hid (RowB.mk hx); clear hx hb hg; obtain ⟨c1_0, _⟩ := B1.out.c; obtain ⟨f1_0, _⟩ := B1.out.f; obtain ⟨c2_0, c2_1, _⟩ := B2.out.c; obtain ⟨f2_0, f2_1, _⟩ := B2.out.f)
    | (go_at_call 11; ((have hL := (C_rows (w := w1) (e := 3) [[2], [0, 1, 2], [2]] _ B33.out.b (by decide) (fun j p hj => by
          rcases j with _ | _ | _ | j
          · obtain rfl := Option.some.inj hj; exact ⟨_, _, rfl, by decide, C_ints [2] B30.out.b (by decide)⟩
          · obtain rfl := Option.some.inj hj; exact ⟨_, _, rfl, by decide, C_ints [0, 1, 2] B31.out.b (by decide)⟩
          · obtain rfl := Option.some.inj hj; exact ⟨_, _, rfl, by decide, C_ints [2] B32.out.b (by decide)⟩
          · simp at hj)))); (with_reducible refine (calls_of_args ?ha (r12_Same.calls 40 At ct [[2], [0, 1, 2], [2]] (some ⟨g33, 0, none⟩) 3 [[2], [0, 1, 2], [2]] true _ KT.out HCT.out hL (by decide) (by kernel_rfl))).mono ?_); (case ha => (simp; done)); ((rintro x w1 ⟨rfl, hd⟩; have hb := hd.below; clear hd; clear hL; clear c1_0 f1_0; clear c2_0 f2_0 c2_1 f2_1; have FP := Lib.hid (Kd.F_below FP.out hb); have B1 := Lib.hid (B1.out.below hb); have B2 := Lib.hid (B2.out.below hb); have KG := Lib.hid (Kd.C_below KG.out hb); have B15 := Lib.hid (B15.out.below hb); have B16 := Lib.hid (B16.out.below hb); have B17 := Lib.hid (B17.out.below hb); have B18 := Lib.hid (B18.out.below hb); have KR := Lib.hid (Kd.C_below KR.out hb); have B24 := Lib.hid (B24.out.below hb); have KT := Lib.hid (Kd.C_below KT.out hb); have B30 := Lib.hid (B30.out.below hb); have B31 := Lib.hid (B31.out.below hb); have B32 := Lib.hid (B32.out.below hb); have B33 := Lib.hid (B33.out.below hb); have HB := Lib.hid (below_step HB.out hb); clear hb; obtain ⟨c1_0, _⟩ := B1.out.c; obtain ⟨f1_0, _⟩ := B1.out.f; obtain ⟨c2_0, c2_1, _⟩ := B2.out.c; obtain ⟨f2_0, f2_1, _⟩ := B2.out.f)))
    | (go_at_call 13; (with_reducible refine (calls_of_args ?ha (graph_May.calls 40 Ag cg [[1], [1], [0, 1, 2]] true _ KG.out HCG.out (by kernel_rfl))).mono ?_); (case ha => (simp; done)); ((rintro x w1 ⟨rfl, hd⟩; have hb := hd.below; clear hd; clear c1_0 f1_0; clear c2_0 f2_0 c2_1 f2_1; have FP := Lib.hid (Kd.F_below FP.out hb); have B1 := Lib.hid (B1.out.below hb); have B2 := Lib.hid (B2.out.below hb); have KG := Lib.hid (Kd.C_below KG.out hb); have B15 := Lib.hid (B15.out.below hb); have B16 := Lib.hid (B16.out.below hb); have B17 := Lib.hid (B17.out.below hb); have B18 := Lib.hid (B18.out.below hb); have KR := Lib.hid (Kd.C_below KR.out hb); have B24 := Lib.hid (B24.out.below hb); have KT := Lib.hid (Kd.C_below KT.out hb); have B30 := Lib.hid (B30.out.below hb); have B31 := Lib.hid (B31.out.below hb); have B32 := Lib.hid (B32.out.below hb); have B33 := Lib.hid (B33.out.below hb); have HB := Lib.hid (below_step HB.out hb); clear hb; obtain ⟨c1_0, _⟩ := B1.out.c; obtain ⟨f1_0, _⟩ := B1.out.f; obtain ⟨c2_0, c2_1, _⟩ := B2.out.c; obtain ⟨f2_0, f2_1, _⟩ := B2.out.f)))
    | ((with_reducible refine gate_dst (N := 41) rfl ?_); refine gate_guard (by first | rfl | kernel_rfl) ?_; refine lit_event rfl (N := 41) rfl (n := 1) (cs := #[.int .i64 1]) (t := 3) ?hr ?_; (case hr => first | (go_simp; done) | (go_simp; rfl)); intro g41 hg w1 hx hb; clear c1_0 f1_0; clear c2_0 f2_0 c2_1 f2_1; have FP := Lib.hid (Kd.F_below FP.out hb); have B1 := Lib.hid (B1.out.below hb); have B2 := Lib.hid (B2.out.below hb); have KG := Lib.hid (Kd.C_below KG.out hb); have B15 := Lib.hid (B15.out.below hb); have B16 := Lib.hid (B16.out.below hb); have B17 := Lib.hid (B17.out.below hb); have B18 := Lib.hid (B18.out.below hb); have KR := Lib.hid (Kd.C_below KR.out hb); have B24 := Lib.hid (B24.out.below hb); have KT := Lib.hid (Kd.C_below KT.out hb); have B30 := Lib.hid (B30.out.below hb); have B31 := Lib.hid (B31.out.below hb); have B32 := Lib.hid (B32.out.below hb); have B33 := Lib.hid (B33.out.below hb); have HB := Lib.hid (below_step HB.out hb); have B41 := Lib.hid (RowB.mk hx); clear hx hb hg; obtain ⟨c1_0, _⟩ := B1.out.c; obtain ⟨f1_0, _⟩ := B1.out.f; obtain ⟨c2_0, c2_1, _⟩ := B2.out.c; obtain ⟨f2_0, f2_1, _⟩ := B2.out.f)
    | ((with_reducible refine gate_dst (N := 42) rfl ?_); refine gate_guard (by first | rfl | kernel_rfl) ?_; refine lit_event rfl (N := 42) rfl (n := 1) (cs := #[.slice (some ⟨g41, 0, none⟩) 1 1]) (t := 32) ?hr ?_; (case hr => first | (go_simp; done) | (go_simp; rfl)); intro g42 hg w1 hx hb; clear c1_0 f1_0; clear c2_0 f2_0 c2_1 f2_1; have FP := Lib.hid (Kd.F_below FP.out hb); have B1 := Lib.hid (B1.out.below hb); have B2 := Lib.hid (B2.out.below hb); have KG := Lib.hid (Kd.C_below KG.out hb); have B15 := Lib.hid (B15.out.below hb); have B16 := Lib.hid (B16.out.below hb); have B17 := Lib.hid (B17.out.below hb); have B18 := Lib.hid (B18.out.below hb); have KR := Lib.hid (Kd.C_below KR.out hb); have B24 := Lib.hid (B24.out.below hb); have KT := Lib.hid (Kd.C_below KT.out hb); have B30 := Lib.hid (B30.out.below hb); have B31 := Lib.hid (B31.out.below hb); have B32 := Lib.hid (B32.out.below hb); have B33 := Lib.hid (B33.out.below hb); have B41 := Lib.hid (B41.out.below hb); have HB := Lib.hid (below_step HB.out hb); have B42 := Lib.hid (RowB.mk hx); clear hx hb hg; obtain ⟨c1_0, _⟩ := B1.out.c; obtain ⟨f1_0, _⟩ := B1.out.f; obtain ⟨c2_0, c2_1, _⟩ := B2.out.c; obtain ⟨f2_0, f2_1, _⟩ := B2.out.f)
    | (go_at_call 13; ((have hL := (C_rows (w := w1) (e := 3) [[1]] _ B42.out.b (by decide) (fun j p hj => by
          rcases j with _ | j
          · obtain rfl := Option.some.inj hj; exact ⟨_, _, rfl, by decide, C_ints [1] B41.out.b (by decide)⟩
          · simp at hj)))); (with_reducible refine (calls_of_args ?ha (graph_May.calls 40 (some ⟨g42, 0, none⟩) 1 [[1]] false _ hL (by decide) (by kernel_rfl))).mono ?_); (case ha => (simp; done)); ((rintro x w1 ⟨rfl, hd⟩; have hb := hd.below; clear hd; clear hL; clear c1_0 f1_0; clear c2_0 f2_0 c2_1 f2_1; have FP := Lib.hid (Kd.F_below FP.out hb); have B1 := Lib.hid (B1.out.below hb); have B2 := Lib.hid (B2.out.below hb); have KG := Lib.hid (Kd.C_below KG.out hb); have B15 := Lib.hid (B15.out.below hb); have B16 := Lib.hid (B16.out.below hb); have B17 := Lib.hid (B17.out.below hb); have B18 := Lib.hid (B18.out.below hb); have KR := Lib.hid (Kd.C_below KR.out hb); have B24 := Lib.hid (B24.out.below hb); have KT := Lib.hid (Kd.C_below KT.out hb); have B30 := Lib.hid (B30.out.below hb); have B31 := Lib.hid (B31.out.below hb); have B32 := Lib.hid (B32.out.below hb); have B33 := Lib.hid (B33.out.below hb); have B41 := Lib.hid (B41.out.below hb); have B42 := Lib.hid (B42.out.below hb); have HB := Lib.hid (below_step HB.out hb); clear hb; obtain ⟨c1_0, _⟩ := B1.out.c; obtain ⟨f1_0, _⟩ := B1.out.f; obtain ⟨c2_0, c2_1, _⟩ := B2.out.c; obtain ⟨f2_0, f2_1, _⟩ := B2.out.f))))
  go_ret
  exact ⟨rfl, HB.out⟩
end Go.Proofs.Ytdbngbmokgeeiaa.Man

-- Written by wip/xprint.py (the kit's print, run over this seat with some contracts of my own). Not trusted: Lean checks it.
namespace Go.Proofs.Ytdbngbmokgeeiaa.Pr
open Go.RowKit Go.Proofs.YtdbngbmokgeeiaaW.PrintWords Go.Proofs.YtdbngbmokgeeiaaW.PrintLast Go.Proofs.YtdbngbmokgeeiaaW.PrintMore
attribute [local go_sem] max2_int min2_int max_two min_two max_three min_three max_four min_four   -- for this text's walks alone
set_option linter.unusedVariables false
set_option linter.unusedSimpArgs false
open Classical in
noncomputable def w12_fixed.f  : Option (Bool) := some true
theorem w12_fixed.calls  (r : Bool) (w : World) (h : w12_fixed.f  = some r) :
    Calls Try.prog 9 #[] w fun e w' => e = .returned (.bool r) ∧ Below w.heap.size w w' :=
  by
  cases h
  exact Man.fixed_any w
end Go.Proofs.Ytdbngbmokgeeiaa.Pr

-- Written by wip/xprint.py (the kit's print, run over this seat with some contracts of my own). Not trusted: Lean checks it.
namespace Go.Proofs.Ytdbngbmokgeeiaa.Pr
open Go.RowKit Go.Proofs.YtdbngbmokgeeiaaW.PrintWords Go.Proofs.YtdbngbmokgeeiaaW.PrintLast Go.Proofs.YtdbngbmokgeeiaaW.PrintMore
attribute [local go_sem] max2_int min2_int max_two min_two max_three min_three max_four min_four   -- for this text's walks alone
set_option linter.unusedVariables false
set_option linter.unusedSimpArgs false
open Classical in
noncomputable def graph_Calls.f (k : Nat) (l0_0 : List (S42)) : Option ((List (List Int))) := if Man.SmP l0_0 then some (Man.callsF l0_0) else none
theorem graph_Calls.calls (k : Nat) (A0_0 : Option Addr) (c0_0 : Nat) (l0_0 : List (S42)) (r : List (List Int)) (w : World) (hr0_0 : Kd.C k42 w A0_0 l0_0.length l0_0) (hc0_0 : l0_0.length ≤ c0_0) (h : graph_Calls.f k l0_0 = some r) :
    Calls Try.prog 10 #[.agg #[.slice A0_0 l0_0.length c0_0]] w fun e w' => ∃ v0_ : Value, e = .returned (v0_) ∧ Kd.S (Kd.slice 3 (Kd.int .i64)) 32 w' w.heap.size (fun _ => True) v0_ r ∧ Below w.heap.size w w' :=
  by
  unfold graph_Calls.f at h
  split at h
  · next hN =>
    cases h
    exact Man.calls_any w l0_0 A0_0 c0_0 hc0_0 hr0_0 hN.1 hN.2
  · cases h
end Go.Proofs.Ytdbngbmokgeeiaa.Pr

namespace Go.Proofs.Ytdbngbmokgeeiaa.Man
open Go.RowKit Go.Proofs.Ytdbngbmokgeeiaa.Pr Go.Proofs.YtdbngbmokgeeiaaW.PrintWords
set_option linter.unusedVariables false
set_option linter.unusedSimpArgs false
theorem ints_ev (l : List Int) (hl : l.length ≤ 1000000) : Ev (fun k => r12_Ints.f k l l) true := by
  have main : ∀ m i : Nat, i + m = l.length → Ev (fun k => r12_Ints.l0 k l l (i : Int)) true := by
    intro m
    induction m with
    | zero =>
      intro i hi
      refine Ev.step ?_
      have c : ¬ (i : Int) < (l.length : Int) := by omega
      simp only [r12_Ints.l0, if_neg c]
      exact Ev.const _
    | succ m ih =>
      intro i hi
      have e := ih (i + 1) (by omega)
      refine Ev.step ?_
      have c : (i : Int) < (l.length : Int) := by omega
      have c0 : 0 ≤ (i : Int) := Int.natCast_nonneg i
      simp only [r12_Ints.l0, if_pos c, if_pos c0, if_true, pz i (by omega)]
      exact e
  have := main l.length 0 (by omega)
  simp only [r12_Ints.f, if_true]
  exact this
theorem same_ev (g : List (List Int)) (hs : Sm g) : Ev (fun k => r12_Same.f k g g) true := by
  have hn := hs.1
  have main : ∀ m i : Nat, i + m = g.length → Ev (fun k => r12_Same.l0 k g g (i : Int)) true := by
    intro m
    induction m with
    | zero =>
      intro i hi
      refine Ev.step ?_
      have c : ¬ (i : Int) < (g.length : Int) := by omega
      simp only [r12_Same.l0, if_neg c]
      exact Ev.const _
    | succ m ih =>
      intro i hi
      have e := ih (i + 1) (by omega)
      refine Ev.step ?_
      have c : (i : Int) < (g.length : Int) := by omega
      have c0 : 0 ≤ (i : Int) := Int.natCast_nonneg i
      simp only [r12_Same.l0, if_pos c, if_pos c0, rd9]
      refine Ev.bind (ints_ev _ (hs.2 i)) ?_
      simp only [if_true, pz i (by omega)]
      exact e
  have := main g.length 0 (by omega)
  simp only [r12_Same.f, if_true]
  exact this
end Go.Proofs.Ytdbngbmokgeeiaa.Man

namespace Go.Proofs.Ytdbngbmokgeeiaa.Man
open Go.RowKit Go.Proofs.Ytdbngbmokgeeiaa.Pr Go.Proofs.YtdbngbmokgeeiaaW.PrintWords
set_option linter.unusedVariables false
set_option linter.unusedSimpArgs false
theorem rising_eq : ∀ (a b : List Int), a.Pairwise (· < ·) → b.Pairwise (· < ·) → (∀ x, x ∈ a ↔ x ∈ b) → a = b := by
  intro a
  induction a with
  | nil =>
    intro b _ _ h
    cases b with
    | nil => rfl
    | cons y t => exact absurd ((h y).2 (by simp)) (by simp)
  | cons x r ih =>
    intro b ha hb h
    cases b with
    | nil => exact absurd ((h x).1 (by simp)) (by simp)
    | cons y t =>
      rw [List.pairwise_cons] at ha hb
      have exy : x = y := by
        rcases List.mem_cons.1 ((h x).1 (by simp)) with e | e
        · exact e
        · rcases List.mem_cons.1 ((h y).2 (by simp)) with e2 | e2
          · exact e2.symm
          · have h1 := hb.1 x e; have h2 := ha.1 y e2; omega
      subst exy
      congr 1
      refine ih t ha.2 hb.2 (fun z => ⟨fun hz => ?_, fun hz => ?_⟩)
      · rcases List.mem_cons.1 ((h z).1 (List.mem_cons_of_mem _ hz)) with e | e
        · subst e; have := ha.1 z hz; omega
        · exact e
      · rcases List.mem_cons.1 ((h z).2 (List.mem_cons_of_mem _ hz)) with e | e
        · subst e; have := hb.1 z hz; omega
        · exact e
theorem rowTail_of {N : Nat} {r : List Int} (h1 : ∀ x ∈ r, 0 ≤ x ∧ x < N) (h2 : r.Pairwise (· < ·)) : ∀ (m j : Nat), j + m = r.length → rowTail N r m j = true := by
  intro m
  induction m with
  | zero => intro j _; rfl
  | succ m ih =>
    intro j hj
    have hjl : j < r.length := by omega
    have hx := h1 r[j] (List.getElem_mem hjl)
    simp only [rowTail, ih (j + 1) (by omega), Bool.and_true, okAt, rd_lt hjl, Bool.and_eq_true, Bool.not_eq_true', decide_eq_false_iff_not, Bool.or_eq_true, decide_eq_true_eq]
    refine ⟨by omega, by omega, ?_⟩
    by_cases h0 : j = 0
    · exact .inl h0
    · refine .inr ?_
      have hj1 : j - 1 < r.length := by omega
      have := (List.pairwise_iff_getElem.1 h2) (j - 1) j hj1 hjl (by omega)
      rw [rd_lt hj1]; omega
theorem mayB_of {g : List (List Int)} (h0 : g.length ≤ 1000) (h1 : ∀ i, i < g.length → ∀ x ∈ g.getD i [], 0 ≤ x ∧ x < g.length) (h2 : ∀ i, i < g.length → (g.getD i []).Pairwise (· < ·)) : mayB g = true := by
  have main : ∀ m i : Nat, i + m = g.length → allTail g m i = true := by
    intro m
    induction m with
    | zero => intro i _; simp only [allTail, decide_eq_true_eq]; omega
    | succ m ih =>
      intro i hi
      simp only [allTail, ih (i + 1) (by omega), Bool.and_true]
      exact rowTail_of (h1 i (by omega)) (h2 i (by omega)) _ 0 (by omega)
  exact main g.length 0 (by omega)
end Go.Proofs.Ytdbngbmokgeeiaa.Man

-- Written by wip/xprint.py (the kit's print, run over this seat with some contracts of my own). Not trusted: Lean checks it.
namespace Go.Proofs.Ytdbngbmokgeeiaa.Pr
open Go.RowKit Go.Proofs.YtdbngbmokgeeiaaW.PrintWords Go.Proofs.YtdbngbmokgeeiaaW.PrintLast Go.Proofs.YtdbngbmokgeeiaaW.PrintMore
attribute [local go_sem] max2_int min2_int max_two min_two max_three min_three max_four min_four   -- for this text's walks alone
set_option linter.unusedVariables false
set_option linter.unusedSimpArgs false
noncomputable def w12_GraphCalls.j0 : Nat → Bool → List (S42) → Option (Bool)
  | 0, _, _ => none
  | k + 1, x11, x346000 => if x11 = true then ((w12_fixed.f).bind fun t347 => (some t347)) else ((graph_Calls.f k x346000).bind fun t348 => ((w12_fixed.f).bind fun t351 => (if t351 = true then ((r12_Calls.f k x346000).bind fun t352 => ((r12_Same.f k t348 t352).bind fun t355 => (if t355 = true then ((graph_May.f k t348).bind fun t356 => (if t356 = true then (some ((t348.length : Int) == (x346000.length : Int))) else (some false))) else (some false)))) else (some false))))
noncomputable def w12_GraphCalls.f (k : Nat) (l0_0 : List (S42)) : Option (Bool) := (r03_Big.f k l0_0).bind fun t346 => (if t346 = true then (w12_GraphCalls.j0 k true l0_0) else (w12_GraphCalls.j0 k (decide ((l0_0.length : Int) > 60)) l0_0))
set_option maxHeartbeats 8000000 in
set_option maxRecDepth 100000 in
theorem w12_GraphCalls.calls (k : Nat) (A0_0 : Option Addr) (c0_0 : Nat) (l0_0 : List (S42)) (r : Bool) (w : World) (hr0_0 : Kd.C k42 w A0_0 l0_0.length l0_0) (hc0_0 : l0_0.length ≤ c0_0) (h : w12_GraphCalls.f k l0_0 = some r) :
    Calls Try.prog 3 #[.agg #[.slice A0_0 l0_0.length c0_0]] w fun e w' => e = .returned (.bool r) ∧ Below w.heap.size w w' := by
 have hu24 := Try.underlying24
 have HR0_0 := Aside0.mk hr0_0
 have HC0_0 := Aside0.mk hc0_0
 clear hr0_0 hc0_0
 have HB := Aside0.mk (Below.refl w.heap.size w)
 have H : ((r03_Big.f k l0_0).bind fun t346 => (if t346 = true then (w12_GraphCalls.j0 k true l0_0) else (w12_GraphCalls.j0 k (decide ((l0_0.length : Int) > 60)) l0_0))) = some r := h
 clear h
 have HC2 := Aside0.mk H
 clear H
 go_enter Try.func3, Try.ntmps3
 go_upto_region 1 with (first | ((with_reducible refine gate_dst (N := 1) rfl ?_); (try (refine gate_guard (by rfl) ?_; dsimp only)); refine box_event ?hg (N := 1) ?hd (cs := #[.slice A0_0 l0_0.length c0_0]) (t := 24) ?hr ?_; (case hd => rfl); (case hg => rfl); (case hr => first | (go_simp; done) | (go_simp; rfl)); intro gb345 hg w3 hbox hb; have n0_ := Aside0.mk (below_step (by repeat (first | (with_reducible first | exact HB.out | apply below_alloc | apply pw_below_drewN | apply below_drew1) | exact HB.out)) hb); have n1_ := Aside0.mk (hbox); have n2_ := Aside0.mk ((by rw [hg]; exact (below_size (by repeat (first | (with_reducible first | exact HB.out | apply below_alloc | apply pw_below_drewN | apply below_drew1) | exact HB.out))) : w.heap.size ≤ gb345)); have n3_ := Aside0.mk ((by rw [hg]; exact (below_size (by repeat (first | (with_reducible first | exact HB.out | apply below_alloc | apply pw_below_drewN | apply below_drew1) | exact HB.out))) : w.heap.size ≤ gb345)); clear HB; have HB := n0_; have BK345 := n1_; have GW345 := n2_; have GE345 := n3_; clear n0_ n1_ n2_ n3_; clear hb hbox hg))
 (try simp only [Act.put, List.setIfInBounds_toArray, List.set_cons_zero, List.set_cons_succ])
 go_cut [11] (fun v11 wc => ∃ (kq : Nat) (x11_1 : Bool), v11 = .bool x11_1 ∧ Aside0 (w12_GraphCalls.j0 kq x11_1 l0_0 = some r) ∧ Aside0 (kq ≤ k) ∧ Aside0 (wc.heap[gb345]? = some (.cells #[(.slice A0_0 l0_0.length c0_0)] 24 (0, 0))) ∧ Aside0 (Below w.heap.size w wc))
 case first =>
  have H := HC2.out
  clear HC2
  replace H := Option.bind_eq_some_iff.mp H
  obtain ⟨t346, A40, H⟩ := H
  replace H : (if t346 = true then (w12_GraphCalls.j0 k true l0_0) else (w12_GraphCalls.j0 k (decide ((l0_0.length : Int) > 60)) l0_0)) = some r := H
  have A4 := Aside0.mk A40
  clear A40
  by_cases c5 : t346 = true
  ·subst c5
   have H1 : (w12_GraphCalls.j0 k true l0_0) = some r := by rw [if_pos rfl] at H; exact H
   clear H
   have H := H1
   clear H1
   have H' := Aside0.mk H
   clear H
   have hcz6_0 : w3.cell? ⟨gb345, 0, none⟩ = some (.slice A0_0 l0_0.length c0_0) := (blk_cell BK345.out 0).trans rfl
   have hfz6_0 := blk_frozen BK345.out 0
   go_wp2_with (first | ((with_reducible refine gate_callee (f := 8) rfl ?_); refine goesL_ (some 5) rfl rfl Try.func8 (by kernel_rfl) rfl #[.agg #[.slice A0_0 l0_0.length c0_0]] rfl (by (try simp only [List.map_toArray, List.map_cons, List.map_nil]); first | done | rfl | (simp only [List.length_drop, List.length_take]; rfl)) ?_; (with_reducible refine (r03_Big.calls k _ _ l0_0 true _ ?side1 ?side2 A4.out).mono ?_); (case side1 => repeat (first | exact (Kd.C_below HR0_0.out HB.out) | (with_reducible refine Kd.C_alloc ?_ _) | (with_reducible refine Kd.C_drewN ?_ _) | (with_reducible refine Kd.C_drew ?_))); (case side2 => exact HC0_0.out); rintro e w7 ⟨rfl, hb⟩; refine ⟨_, rfl, ?_⟩; have n0_ := Aside0.mk (blk_below (g := gb345) (o := .cells #[.slice A0_0 l0_0.length c0_0] 24 (0, 0)) (by (with_reducible repeat (first | refine blk_drewN ?_ _ | refine blk_drew ?_ | refine blk_alloc ?_ _)); exact BK345.out) hb); have n1_ := Aside0.mk (below_step (by repeat (first | (with_reducible first | exact HB.out | apply below_alloc | apply pw_below_drewN | apply below_drew1 | refine below_set ?_ GE345.out) | exact HB.out)) hb); clear BK345; clear HB; have BK345 := n0_; have HB := n1_; clear n0_ n1_; (try clear hb); (try clear hb2); (try clear hk); (try clear hi)))
   go_meet
   case rel => exact ⟨_, (true), (by first | rfl | (simp; done) | (simp [*]; done)), H', ⟨by first | omega | exact Nat.le_refl _⟩, ⟨by (with_reducible repeat (first | refine blk_drewN ?_ _ | refine blk_drew ?_ | refine blk_alloc ?_ _)); exact BK345.out⟩, ⟨by repeat (first | (with_reducible first | exact HB.out | apply below_alloc | apply pw_below_drewN | apply below_drew1 | refine below_set ?_ GE345.out) | exact HB.out)⟩⟩
  ·replace c5 := Bool.eq_false_iff.mpr c5
   subst c5
   have H1 : (w12_GraphCalls.j0 k (decide ((l0_0.length : Int) > 60)) l0_0) = some r := by rw [if_neg (show ¬ (false = true) by decide)] at H; exact H
   clear H
   have H := H1
   clear H1
   have H' := Aside0.mk H
   clear H
   have hcz8_0 : w3.cell? ⟨gb345, 0, none⟩ = some (.slice A0_0 l0_0.length c0_0) := (blk_cell BK345.out 0).trans rfl
   have hfz8_0 := blk_frozen BK345.out 0
   go_wp2_with (first | ((with_reducible refine gate_callee (f := 8) rfl ?_); refine goesL_ (some 5) rfl rfl Try.func8 (by kernel_rfl) rfl #[.agg #[.slice A0_0 l0_0.length c0_0]] rfl (by (try simp only [List.map_toArray, List.map_cons, List.map_nil]); first | done | rfl | (simp only [List.length_drop, List.length_take]; rfl)) ?_; (with_reducible refine (r03_Big.calls k _ _ l0_0 false _ ?side1 ?side2 A4.out).mono ?_); (case side1 => repeat (first | exact (Kd.C_below HR0_0.out HB.out) | (with_reducible refine Kd.C_alloc ?_ _) | (with_reducible refine Kd.C_drewN ?_ _) | (with_reducible refine Kd.C_drew ?_))); (case side2 => exact HC0_0.out); rintro e w9 ⟨rfl, hb⟩; refine ⟨_, rfl, ?_⟩; have n0_ := Aside0.mk (blk_below (g := gb345) (o := .cells #[.slice A0_0 l0_0.length c0_0] 24 (0, 0)) (by (with_reducible repeat (first | refine blk_drewN ?_ _ | refine blk_drew ?_ | refine blk_alloc ?_ _)); exact BK345.out) hb); have n1_ := Aside0.mk (below_step (by repeat (first | (with_reducible first | exact HB.out | apply below_alloc | apply pw_below_drewN | apply below_drew1 | refine below_set ?_ GE345.out) | exact HB.out)) hb); clear BK345; clear HB; have BK345 := n0_; have HB := n1_; clear n0_ n1_; (try clear hb); (try clear hb2); (try clear hk); (try clear hi); have hcz10_0 : w9.cell? ⟨gb345, 0, none⟩ = some (.slice A0_0 l0_0.length c0_0) := (blk_cell BK345.out 0).trans rfl; have hfz10_0 := blk_frozen BK345.out 0))
   go_meet
   case rel => exact ⟨_, (decide ((l0_0.length : Int) > 60)), (by first | rfl | (simp; done) | (simp [*]; done)), H', ⟨by first | omega | exact Nat.le_refl _⟩, ⟨by (with_reducible repeat (first | refine blk_drewN ?_ _ | refine blk_drew ?_ | refine blk_alloc ?_ _)); exact BK345.out⟩, ⟨by repeat (first | (with_reducible first | exact HB.out | apply below_alloc | apply pw_below_drewN | apply below_drew1 | refine below_set ?_ GE345.out) | exact HB.out)⟩⟩
 case rest =>
  clear HC2
  try clear p2
  try clear c3
  try clear c5
  try clear c8
  try clear hcz10_0
  try clear hcz6_0
  try clear hcz8_0
  try clear hfz10_0
  try clear hfz6_0
  try clear hfz8_0
  obtain ⟨kq, x11_1, rfl, HA, HJ1, BK345, HB⟩ := hcut
  cases kq with
  | zero => exact absurd HA.out (by simp [w12_GraphCalls.j0])
  | succ kj1 =>
   have H := HA.out
   clear HA
   simp only [w12_GraphCalls.j0] at H
   by_cases c11 : x11_1 = true
   ·subst c11
    have H1 : ((w12_fixed.f).bind fun t347 => (some t347)) = some r := by rw [if_pos rfl] at H; exact H
    clear H
    have H := H1
    clear H1
    replace H := Option.bind_eq_some_iff.mp H
    obtain ⟨t347, A120, H⟩ := H
    replace H : (some t347) = some r := H
    have A12 := Aside0.mk A120
    clear A120
    obtain rfl := Option.some.inj H
    go_wp2_with (first | ((with_reducible refine gate_callee (f := 9) rfl ?_); refine goesL_ (some 12) rfl rfl Try.func9 (by kernel_rfl) rfl #[] rfl (by (try simp only [List.map_toArray, List.map_cons, List.map_nil]); first | done | rfl | (simp only [List.length_drop, List.length_take]; rfl)) ?_; (with_reducible refine (w12_fixed.calls  t347 _ A12.out).mono ?_); rintro e w13 ⟨rfl, hb⟩; refine ⟨_, rfl, ?_⟩; have n0_ := Aside0.mk (blk_below (g := gb345) (o := .cells #[.slice A0_0 l0_0.length c0_0] 24 (0, 0)) (by (with_reducible repeat (first | refine blk_drewN ?_ _ | refine blk_drew ?_ | refine blk_alloc ?_ _)); exact BK345.out) hb); have n1_ := Aside0.mk (below_step (by repeat (first | (with_reducible first | exact HB.out | apply below_alloc | apply pw_below_drewN | apply below_drew1 | refine below_set ?_ GE345.out) | exact HB.out)) hb); clear BK345; clear HB; have BK345 := n0_; have HB := n1_; clear n0_ n1_; (try clear hb); (try clear hb2); (try clear hk); (try clear hi)))
    go_ret
    exact ⟨by first | rfl | (simp [errW_none, errW_some] <;> rfl) | (simp [*, errW_none, errW_some] <;> rfl), by repeat (first | (with_reducible first | exact HB.out | apply below_alloc | apply pw_below_drewN | apply below_drew1 | refine below_set ?_ GE345.out) | exact HB.out)⟩
   ·replace c11 := Bool.eq_false_iff.mpr c11
    subst c11
    have H1 : ((graph_Calls.f kj1 l0_0).bind fun t348 => ((w12_fixed.f).bind fun t351 => (if t351 = true then ((r12_Calls.f kj1 l0_0).bind fun t352 => ((r12_Same.f kj1 t348 t352).bind fun t355 => (if t355 = true then ((graph_May.f kj1 t348).bind fun t356 => (if t356 = true then (some ((t348.length : Int) == (l0_0.length : Int))) else (some false))) else (some false)))) else (some false)))) = some r := by rw [if_neg (show ¬ (false = true) by decide)] at H; exact H
    clear H
    have H := H1
    clear H1
    replace H := Option.bind_eq_some_iff.mp H
    obtain ⟨t348, A140, H⟩ := H
    replace H : ((w12_fixed.f).bind fun t351 => (if t351 = true then ((r12_Calls.f kj1 l0_0).bind fun t352 => ((r12_Same.f kj1 t348 t352).bind fun t355 => (if t355 = true then ((graph_May.f kj1 t348).bind fun t356 => (if t356 = true then (some ((t348.length : Int) == (l0_0.length : Int))) else (some false))) else (some false)))) else (some false))) = some r := H
    have A14 := Aside0.mk A140
    clear A140
    replace H := Option.bind_eq_some_iff.mp H
    obtain ⟨t351, A150, H⟩ := H
    replace H : (if t351 = true then ((r12_Calls.f kj1 l0_0).bind fun t352 => ((r12_Same.f kj1 t348 t352).bind fun t355 => (if t355 = true then ((graph_May.f kj1 t348).bind fun t356 => (if t356 = true then (some ((t348.length : Int) == (l0_0.length : Int))) else (some false))) else (some false)))) else (some false)) = some r := H
    have A15 := Aside0.mk A150
    clear A150
    by_cases c16 : t351 = true
    ·subst c16
     have H1 : ((r12_Calls.f kj1 l0_0).bind fun t352 => ((r12_Same.f kj1 t348 t352).bind fun t355 => (if t355 = true then ((graph_May.f kj1 t348).bind fun t356 => (if t356 = true then (some ((t348.length : Int) == (l0_0.length : Int))) else (some false))) else (some false)))) = some r := by rw [if_pos rfl] at H; exact H
     clear H
     have H := H1
     clear H1
     replace H := Option.bind_eq_some_iff.mp H
     obtain ⟨t352, A170, H⟩ := H
     replace H : ((r12_Same.f kj1 t348 t352).bind fun t355 => (if t355 = true then ((graph_May.f kj1 t348).bind fun t356 => (if t356 = true then (some ((t348.length : Int) == (l0_0.length : Int))) else (some false))) else (some false))) = some r := H
     have A17 := Aside0.mk A170
     clear A170
     replace H := Option.bind_eq_some_iff.mp H
     obtain ⟨t355, A180, H⟩ := H
     replace H : (if t355 = true then ((graph_May.f kj1 t348).bind fun t356 => (if t356 = true then (some ((t348.length : Int) == (l0_0.length : Int))) else (some false))) else (some false)) = some r := H
     have A18 := Aside0.mk A180
     clear A180
     by_cases c19 : t355 = true
     ·subst c19
      have H1 : ((graph_May.f kj1 t348).bind fun t356 => (if t356 = true then (some ((t348.length : Int) == (l0_0.length : Int))) else (some false))) = some r := by rw [if_pos rfl] at H; exact H
      clear H
      have H := H1
      clear H1
      replace H := Option.bind_eq_some_iff.mp H
      obtain ⟨t356, A200, H⟩ := H
      replace H : (if t356 = true then (some ((t348.length : Int) == (l0_0.length : Int))) else (some false)) = some r := H
      have A20 := Aside0.mk A200
      clear A200
      by_cases c21 : t356 = true
      ·subst c21
       have H1 : (some ((t348.length : Int) == (l0_0.length : Int))) = some r := by rw [if_pos rfl] at H; exact H
       clear H
       have H := H1
       clear H1
       obtain rfl := Option.some.inj H
       have hcz22_0 : wc.cell? ⟨gb345, 0, none⟩ = some (.slice A0_0 l0_0.length c0_0) := (blk_cell BK345.out 0).trans rfl
       have hfz22_0 := blk_frozen BK345.out 0
       go_wp2_with (first | ((with_reducible refine gate_callee (f := 10) rfl ?_); refine goesL_ (some 14) rfl rfl Try.func10 (by kernel_rfl) rfl #[.agg #[.slice A0_0 l0_0.length c0_0]] rfl (by (try simp only [List.map_toArray, List.map_cons, List.map_nil]); first | done | rfl | (simp only [List.length_drop, List.length_take]; rfl)) ?_; (with_reducible refine (graph_Calls.calls kj1 _ _ l0_0 t348 _ ?side1 ?side2 A14.out).mono ?_); (case side1 => repeat (first | exact (Kd.C_below HR0_0.out HB.out) | (with_reducible refine Kd.C_alloc ?_ _) | (with_reducible refine Kd.C_drewN ?_ _) | (with_reducible refine Kd.C_drew ?_))); (case side2 => exact HC0_0.out); rintro e w23 ⟨v349, rfl, ho0, hb⟩; refine ⟨_, rfl, ?_⟩; have n0_ := Aside0.mk (Kd.S_lower ho0 (below_size (by repeat (first | (with_reducible first | exact HB.out | apply below_alloc | apply pw_below_drewN | apply below_drew1 | refine below_set ?_ GE345.out) | exact HB.out)))); have n1_ := Aside0.mk (blk_below (g := gb345) (o := .cells #[.slice A0_0 l0_0.length c0_0] 24 (0, 0)) (by (with_reducible repeat (first | refine blk_drewN ?_ _ | refine blk_drew ?_ | refine blk_alloc ?_ _)); exact BK345.out) hb); have n2_ := Aside0.mk (below_step (by repeat (first | (with_reducible first | exact HB.out | apply below_alloc | apply pw_below_drewN | apply below_drew1 | refine below_set ?_ GE345.out) | exact HB.out)) hb); clear BK345; clear HB; have HO350 := n0_; have BK345 := n1_; have HB := n2_; clear n0_ n1_ n2_; (try clear hb); (try clear hb2); (try clear hk); (try clear hi); (try clear ho0)) | ((with_reducible refine gate_callee (f := 9) rfl ?_); refine goesL_ (some 15) rfl rfl Try.func9 (by kernel_rfl) rfl #[] rfl (by (try simp only [List.map_toArray, List.map_cons, List.map_nil]); first | done | rfl | (simp only [List.length_drop, List.length_take]; rfl)) ?_; (with_reducible refine (w12_fixed.calls  true _ A15.out).mono ?_); rintro e w24 ⟨rfl, hb⟩; refine ⟨_, rfl, ?_⟩; have n0_ := Aside0.mk (Kd.S_below (by (with_reducible repeat (first | apply Kd.S_alloc | apply Kd.S_drewN | apply Kd.S_drew)); exact HO350.out) hb); have n1_ := Aside0.mk (blk_below (g := gb345) (o := .cells #[.slice A0_0 l0_0.length c0_0] 24 (0, 0)) (by (with_reducible repeat (first | refine blk_drewN ?_ _ | refine blk_drew ?_ | refine blk_alloc ?_ _)); exact BK345.out) hb); have n2_ := Aside0.mk (below_step (by repeat (first | (with_reducible first | exact HB.out | apply below_alloc | apply pw_below_drewN | apply below_drew1 | refine below_set ?_ GE345.out) | exact HB.out)) hb); clear HO350; clear BK345; clear HB; have HO350 := n0_; have BK345 := n1_; have HB := n2_; clear n0_ n1_ n2_; (try clear hb); (try clear hb2); (try clear hk); (try clear hi); have hcz25_0 : w24.cell? ⟨gb345, 0, none⟩ = some (.slice A0_0 l0_0.length c0_0) := (blk_cell BK345.out 0).trans rfl; have hfz25_0 := blk_frozen BK345.out 0) | (go_at_call 12; (with_reducible refine (r12_Calls.calls kj1 _ _ l0_0 t352 _ ?side1 ?side2 A17.out).mono ?_); (case side1 => repeat (first | exact (Kd.C_below HR0_0.out HB.out) | (with_reducible refine Kd.C_alloc ?_ _) | (with_reducible refine Kd.C_drewN ?_ _) | (with_reducible refine Kd.C_drew ?_))); (case side2 => exact HC0_0.out); rintro e w26 ⟨v353, rfl, ho0, hb⟩; have n0_ := Aside0.mk (Kd.S_elder' (by (with_reducible repeat (first | apply Kd.S_alloc | apply Kd.S_drewN | apply Kd.S_drew)); exact HO350.out) (Kd.S_base ho0) hb); have n1_ := Aside0.mk (Kd.S_lower (Kd.S_new' ho0 (Kd.S_lt (by (with_reducible repeat (first | apply Kd.S_alloc | apply Kd.S_drewN | apply Kd.S_drew)); exact HO350.out))) (below_size (by repeat (first | (with_reducible first | exact HB.out | apply below_alloc | apply pw_below_drewN | apply below_drew1 | refine below_set ?_ GE345.out) | exact HB.out)))); have n2_ := Aside0.mk (blk_below (g := gb345) (o := .cells #[.slice A0_0 l0_0.length c0_0] 24 (0, 0)) (by (with_reducible repeat (first | refine blk_drewN ?_ _ | refine blk_drew ?_ | refine blk_alloc ?_ _)); exact BK345.out) hb); have n3_ := Aside0.mk (below_step (by repeat (first | (with_reducible first | exact HB.out | apply below_alloc | apply pw_below_drewN | apply below_drew1 | refine below_set ?_ GE345.out) | exact HB.out)) hb); clear HO350; clear BK345; clear HB; have HO350 := n0_; have HO354 := n1_; have BK345 := n2_; have HB := n3_; clear n0_ n1_ n2_ n3_; (try clear hb); (try clear hb2); (try clear hk); (try clear hi); (try clear ho0); obtain ⟨Ao27, co27, eo27⟩ := Kd.S_slice HO350.out; subst eo27; obtain ⟨Ao28, co28, eo28⟩ := Kd.S_slice HO354.out; subst eo28) | (go_at_call 11; (with_reducible refine (r12_Same.calls kj1 _ _ t348 _ _ t352 true _ ?side1 ?side2 ?side3 ?side4 A18.out).mono ?_); (case side1 => repeat (first | exact (Kd.S_reads' HO350.out).2.2 | (with_reducible refine Kd.C_alloc ?_ _) | (with_reducible refine Kd.C_drewN ?_ _) | (with_reducible refine Kd.C_drew ?_))); (case side2 => exact (Kd.S_reads' HO350.out).2.1); (case side3 => repeat (first | exact (Kd.S_reads' HO354.out).2.2 | (with_reducible refine Kd.C_alloc ?_ _) | (with_reducible refine Kd.C_drewN ?_ _) | (with_reducible refine Kd.C_drew ?_))); (case side4 => exact (Kd.S_reads' HO354.out).2.1); rintro e w' ⟨rfl, ⟨nd, rfl⟩⟩) | (go_at_call 13; (with_reducible refine (graph_May.calls kj1 _ _ t348 true _ ?side1 ?side2 A20.out).mono ?_); (case side1 => repeat (first | exact (Kd.S_reads' HO350.out).2.2 | (with_reducible refine Kd.C_alloc ?_ _) | (with_reducible refine Kd.C_drewN ?_ _) | (with_reducible refine Kd.C_drew ?_))); (case side2 => exact (Kd.S_reads' HO350.out).2.1); rintro e w' ⟨rfl, ⟨nd, rfl⟩⟩; have hcz29_0 : w26.cell? ⟨gb345, 0, none⟩ = some (.slice A0_0 l0_0.length c0_0) := (blk_cell BK345.out 0).trans rfl; have hfz29_0 := blk_frozen BK345.out 0))
       go_ret
       exact ⟨by first | rfl | (simp [errW_none, errW_some] <;> rfl) | (simp [*, errW_none, errW_some] <;> rfl), by repeat (first | (with_reducible first | exact HB.out | apply below_alloc | apply pw_below_drewN | apply below_drew1 | refine below_set ?_ GE345.out) | exact HB.out)⟩
      ·replace c21 := Bool.eq_false_iff.mpr c21
       subst c21
       have H1 : (some false) = some r := by rw [if_neg (show ¬ (false = true) by decide)] at H; exact H
       clear H
       have H := H1
       clear H1
       obtain rfl := Option.some.inj H
       have hcz30_0 : wc.cell? ⟨gb345, 0, none⟩ = some (.slice A0_0 l0_0.length c0_0) := (blk_cell BK345.out 0).trans rfl
       have hfz30_0 := blk_frozen BK345.out 0
       go_wp2_with (first | ((with_reducible refine gate_callee (f := 10) rfl ?_); refine goesL_ (some 14) rfl rfl Try.func10 (by kernel_rfl) rfl #[.agg #[.slice A0_0 l0_0.length c0_0]] rfl (by (try simp only [List.map_toArray, List.map_cons, List.map_nil]); first | done | rfl | (simp only [List.length_drop, List.length_take]; rfl)) ?_; (with_reducible refine (graph_Calls.calls kj1 _ _ l0_0 t348 _ ?side1 ?side2 A14.out).mono ?_); (case side1 => repeat (first | exact (Kd.C_below HR0_0.out HB.out) | (with_reducible refine Kd.C_alloc ?_ _) | (with_reducible refine Kd.C_drewN ?_ _) | (with_reducible refine Kd.C_drew ?_))); (case side2 => exact HC0_0.out); rintro e w31 ⟨v349, rfl, ho0, hb⟩; refine ⟨_, rfl, ?_⟩; have n0_ := Aside0.mk (Kd.S_lower ho0 (below_size (by repeat (first | (with_reducible first | exact HB.out | apply below_alloc | apply pw_below_drewN | apply below_drew1 | refine below_set ?_ GE345.out) | exact HB.out)))); have n1_ := Aside0.mk (blk_below (g := gb345) (o := .cells #[.slice A0_0 l0_0.length c0_0] 24 (0, 0)) (by (with_reducible repeat (first | refine blk_drewN ?_ _ | refine blk_drew ?_ | refine blk_alloc ?_ _)); exact BK345.out) hb); have n2_ := Aside0.mk (below_step (by repeat (first | (with_reducible first | exact HB.out | apply below_alloc | apply pw_below_drewN | apply below_drew1 | refine below_set ?_ GE345.out) | exact HB.out)) hb); clear BK345; clear HB; have HO350 := n0_; have BK345 := n1_; have HB := n2_; clear n0_ n1_ n2_; (try clear hb); (try clear hb2); (try clear hk); (try clear hi); (try clear ho0)) | ((with_reducible refine gate_callee (f := 9) rfl ?_); refine goesL_ (some 15) rfl rfl Try.func9 (by kernel_rfl) rfl #[] rfl (by (try simp only [List.map_toArray, List.map_cons, List.map_nil]); first | done | rfl | (simp only [List.length_drop, List.length_take]; rfl)) ?_; (with_reducible refine (w12_fixed.calls  true _ A15.out).mono ?_); rintro e w32 ⟨rfl, hb⟩; refine ⟨_, rfl, ?_⟩; have n0_ := Aside0.mk (Kd.S_below (by (with_reducible repeat (first | apply Kd.S_alloc | apply Kd.S_drewN | apply Kd.S_drew)); exact HO350.out) hb); have n1_ := Aside0.mk (blk_below (g := gb345) (o := .cells #[.slice A0_0 l0_0.length c0_0] 24 (0, 0)) (by (with_reducible repeat (first | refine blk_drewN ?_ _ | refine blk_drew ?_ | refine blk_alloc ?_ _)); exact BK345.out) hb); have n2_ := Aside0.mk (below_step (by repeat (first | (with_reducible first | exact HB.out | apply below_alloc | apply pw_below_drewN | apply below_drew1 | refine below_set ?_ GE345.out) | exact HB.out)) hb); clear HO350; clear BK345; clear HB; have HO350 := n0_; have BK345 := n1_; have HB := n2_; clear n0_ n1_ n2_; (try clear hb); (try clear hb2); (try clear hk); (try clear hi); have hcz33_0 : w32.cell? ⟨gb345, 0, none⟩ = some (.slice A0_0 l0_0.length c0_0) := (blk_cell BK345.out 0).trans rfl; have hfz33_0 := blk_frozen BK345.out 0) | (go_at_call 12; (with_reducible refine (r12_Calls.calls kj1 _ _ l0_0 t352 _ ?side1 ?side2 A17.out).mono ?_); (case side1 => repeat (first | exact (Kd.C_below HR0_0.out HB.out) | (with_reducible refine Kd.C_alloc ?_ _) | (with_reducible refine Kd.C_drewN ?_ _) | (with_reducible refine Kd.C_drew ?_))); (case side2 => exact HC0_0.out); rintro e w34 ⟨v353, rfl, ho0, hb⟩; have n0_ := Aside0.mk (Kd.S_elder' (by (with_reducible repeat (first | apply Kd.S_alloc | apply Kd.S_drewN | apply Kd.S_drew)); exact HO350.out) (Kd.S_base ho0) hb); have n1_ := Aside0.mk (Kd.S_lower (Kd.S_new' ho0 (Kd.S_lt (by (with_reducible repeat (first | apply Kd.S_alloc | apply Kd.S_drewN | apply Kd.S_drew)); exact HO350.out))) (below_size (by repeat (first | (with_reducible first | exact HB.out | apply below_alloc | apply pw_below_drewN | apply below_drew1 | refine below_set ?_ GE345.out) | exact HB.out)))); have n2_ := Aside0.mk (blk_below (g := gb345) (o := .cells #[.slice A0_0 l0_0.length c0_0] 24 (0, 0)) (by (with_reducible repeat (first | refine blk_drewN ?_ _ | refine blk_drew ?_ | refine blk_alloc ?_ _)); exact BK345.out) hb); have n3_ := Aside0.mk (below_step (by repeat (first | (with_reducible first | exact HB.out | apply below_alloc | apply pw_below_drewN | apply below_drew1 | refine below_set ?_ GE345.out) | exact HB.out)) hb); clear HO350; clear BK345; clear HB; have HO350 := n0_; have HO354 := n1_; have BK345 := n2_; have HB := n3_; clear n0_ n1_ n2_ n3_; (try clear hb); (try clear hb2); (try clear hk); (try clear hi); (try clear ho0); obtain ⟨Ao35, co35, eo35⟩ := Kd.S_slice HO350.out; subst eo35; obtain ⟨Ao36, co36, eo36⟩ := Kd.S_slice HO354.out; subst eo36) | (go_at_call 11; (with_reducible refine (r12_Same.calls kj1 _ _ t348 _ _ t352 true _ ?side1 ?side2 ?side3 ?side4 A18.out).mono ?_); (case side1 => repeat (first | exact (Kd.S_reads' HO350.out).2.2 | (with_reducible refine Kd.C_alloc ?_ _) | (with_reducible refine Kd.C_drewN ?_ _) | (with_reducible refine Kd.C_drew ?_))); (case side2 => exact (Kd.S_reads' HO350.out).2.1); (case side3 => repeat (first | exact (Kd.S_reads' HO354.out).2.2 | (with_reducible refine Kd.C_alloc ?_ _) | (with_reducible refine Kd.C_drewN ?_ _) | (with_reducible refine Kd.C_drew ?_))); (case side4 => exact (Kd.S_reads' HO354.out).2.1); rintro e w' ⟨rfl, ⟨nd, rfl⟩⟩) | (go_at_call 13; (with_reducible refine (graph_May.calls kj1 _ _ t348 false _ ?side1 ?side2 A20.out).mono ?_); (case side1 => repeat (first | exact (Kd.S_reads' HO350.out).2.2 | (with_reducible refine Kd.C_alloc ?_ _) | (with_reducible refine Kd.C_drewN ?_ _) | (with_reducible refine Kd.C_drew ?_))); (case side2 => exact (Kd.S_reads' HO350.out).2.1); rintro e w' ⟨rfl, ⟨nd, rfl⟩⟩))
       go_ret
       exact ⟨by first | rfl | (simp [errW_none, errW_some] <;> rfl) | (simp [*, errW_none, errW_some] <;> rfl), by repeat (first | (with_reducible first | exact HB.out | apply below_alloc | apply pw_below_drewN | apply below_drew1 | refine below_set ?_ GE345.out) | exact HB.out)⟩
     ·replace c19 := Bool.eq_false_iff.mpr c19
      subst c19
      have H1 : (some false) = some r := by rw [if_neg (show ¬ (false = true) by decide)] at H; exact H
      clear H
      have H := H1
      clear H1
      obtain rfl := Option.some.inj H
      have hcz37_0 : wc.cell? ⟨gb345, 0, none⟩ = some (.slice A0_0 l0_0.length c0_0) := (blk_cell BK345.out 0).trans rfl
      have hfz37_0 := blk_frozen BK345.out 0
      go_wp2_with (first | ((with_reducible refine gate_callee (f := 10) rfl ?_); refine goesL_ (some 14) rfl rfl Try.func10 (by kernel_rfl) rfl #[.agg #[.slice A0_0 l0_0.length c0_0]] rfl (by (try simp only [List.map_toArray, List.map_cons, List.map_nil]); first | done | rfl | (simp only [List.length_drop, List.length_take]; rfl)) ?_; (with_reducible refine (graph_Calls.calls kj1 _ _ l0_0 t348 _ ?side1 ?side2 A14.out).mono ?_); (case side1 => repeat (first | exact (Kd.C_below HR0_0.out HB.out) | (with_reducible refine Kd.C_alloc ?_ _) | (with_reducible refine Kd.C_drewN ?_ _) | (with_reducible refine Kd.C_drew ?_))); (case side2 => exact HC0_0.out); rintro e w38 ⟨v349, rfl, ho0, hb⟩; refine ⟨_, rfl, ?_⟩; have n0_ := Aside0.mk (Kd.S_lower ho0 (below_size (by repeat (first | (with_reducible first | exact HB.out | apply below_alloc | apply pw_below_drewN | apply below_drew1 | refine below_set ?_ GE345.out) | exact HB.out)))); have n1_ := Aside0.mk (blk_below (g := gb345) (o := .cells #[.slice A0_0 l0_0.length c0_0] 24 (0, 0)) (by (with_reducible repeat (first | refine blk_drewN ?_ _ | refine blk_drew ?_ | refine blk_alloc ?_ _)); exact BK345.out) hb); have n2_ := Aside0.mk (below_step (by repeat (first | (with_reducible first | exact HB.out | apply below_alloc | apply pw_below_drewN | apply below_drew1 | refine below_set ?_ GE345.out) | exact HB.out)) hb); clear BK345; clear HB; have HO350 := n0_; have BK345 := n1_; have HB := n2_; clear n0_ n1_ n2_; (try clear hb); (try clear hb2); (try clear hk); (try clear hi); (try clear ho0)) | ((with_reducible refine gate_callee (f := 9) rfl ?_); refine goesL_ (some 15) rfl rfl Try.func9 (by kernel_rfl) rfl #[] rfl (by (try simp only [List.map_toArray, List.map_cons, List.map_nil]); first | done | rfl | (simp only [List.length_drop, List.length_take]; rfl)) ?_; (with_reducible refine (w12_fixed.calls  true _ A15.out).mono ?_); rintro e w39 ⟨rfl, hb⟩; refine ⟨_, rfl, ?_⟩; have n0_ := Aside0.mk (Kd.S_below (by (with_reducible repeat (first | apply Kd.S_alloc | apply Kd.S_drewN | apply Kd.S_drew)); exact HO350.out) hb); have n1_ := Aside0.mk (blk_below (g := gb345) (o := .cells #[.slice A0_0 l0_0.length c0_0] 24 (0, 0)) (by (with_reducible repeat (first | refine blk_drewN ?_ _ | refine blk_drew ?_ | refine blk_alloc ?_ _)); exact BK345.out) hb); have n2_ := Aside0.mk (below_step (by repeat (first | (with_reducible first | exact HB.out | apply below_alloc | apply pw_below_drewN | apply below_drew1 | refine below_set ?_ GE345.out) | exact HB.out)) hb); clear HO350; clear BK345; clear HB; have HO350 := n0_; have BK345 := n1_; have HB := n2_; clear n0_ n1_ n2_; (try clear hb); (try clear hb2); (try clear hk); (try clear hi); have hcz40_0 : w39.cell? ⟨gb345, 0, none⟩ = some (.slice A0_0 l0_0.length c0_0) := (blk_cell BK345.out 0).trans rfl; have hfz40_0 := blk_frozen BK345.out 0) | (go_at_call 12; (with_reducible refine (r12_Calls.calls kj1 _ _ l0_0 t352 _ ?side1 ?side2 A17.out).mono ?_); (case side1 => repeat (first | exact (Kd.C_below HR0_0.out HB.out) | (with_reducible refine Kd.C_alloc ?_ _) | (with_reducible refine Kd.C_drewN ?_ _) | (with_reducible refine Kd.C_drew ?_))); (case side2 => exact HC0_0.out); rintro e w41 ⟨v353, rfl, ho0, hb⟩; have n0_ := Aside0.mk (Kd.S_elder' (by (with_reducible repeat (first | apply Kd.S_alloc | apply Kd.S_drewN | apply Kd.S_drew)); exact HO350.out) (Kd.S_base ho0) hb); have n1_ := Aside0.mk (Kd.S_lower (Kd.S_new' ho0 (Kd.S_lt (by (with_reducible repeat (first | apply Kd.S_alloc | apply Kd.S_drewN | apply Kd.S_drew)); exact HO350.out))) (below_size (by repeat (first | (with_reducible first | exact HB.out | apply below_alloc | apply pw_below_drewN | apply below_drew1 | refine below_set ?_ GE345.out) | exact HB.out)))); have n2_ := Aside0.mk (blk_below (g := gb345) (o := .cells #[.slice A0_0 l0_0.length c0_0] 24 (0, 0)) (by (with_reducible repeat (first | refine blk_drewN ?_ _ | refine blk_drew ?_ | refine blk_alloc ?_ _)); exact BK345.out) hb); have n3_ := Aside0.mk (below_step (by repeat (first | (with_reducible first | exact HB.out | apply below_alloc | apply pw_below_drewN | apply below_drew1 | refine below_set ?_ GE345.out) | exact HB.out)) hb); clear HO350; clear BK345; clear HB; have HO350 := n0_; have HO354 := n1_; have BK345 := n2_; have HB := n3_; clear n0_ n1_ n2_ n3_; (try clear hb); (try clear hb2); (try clear hk); (try clear hi); (try clear ho0); obtain ⟨Ao42, co42, eo42⟩ := Kd.S_slice HO350.out; subst eo42; obtain ⟨Ao43, co43, eo43⟩ := Kd.S_slice HO354.out; subst eo43) | (go_at_call 11; (with_reducible refine (r12_Same.calls kj1 _ _ t348 _ _ t352 false _ ?side1 ?side2 ?side3 ?side4 A18.out).mono ?_); (case side1 => repeat (first | exact (Kd.S_reads' HO350.out).2.2 | (with_reducible refine Kd.C_alloc ?_ _) | (with_reducible refine Kd.C_drewN ?_ _) | (with_reducible refine Kd.C_drew ?_))); (case side2 => exact (Kd.S_reads' HO350.out).2.1); (case side3 => repeat (first | exact (Kd.S_reads' HO354.out).2.2 | (with_reducible refine Kd.C_alloc ?_ _) | (with_reducible refine Kd.C_drewN ?_ _) | (with_reducible refine Kd.C_drew ?_))); (case side4 => exact (Kd.S_reads' HO354.out).2.1); rintro e w' ⟨rfl, ⟨nd, rfl⟩⟩))
      go_ret
      exact ⟨by first | rfl | (simp [errW_none, errW_some] <;> rfl) | (simp [*, errW_none, errW_some] <;> rfl), by repeat (first | (with_reducible first | exact HB.out | apply below_alloc | apply pw_below_drewN | apply below_drew1 | refine below_set ?_ GE345.out) | exact HB.out)⟩
    ·replace c16 := Bool.eq_false_iff.mpr c16
     subst c16
     have H1 : (some false) = some r := by rw [if_neg (show ¬ (false = true) by decide)] at H; exact H
     clear H
     have H := H1
     clear H1
     obtain rfl := Option.some.inj H
     have hcz44_0 : wc.cell? ⟨gb345, 0, none⟩ = some (.slice A0_0 l0_0.length c0_0) := (blk_cell BK345.out 0).trans rfl
     have hfz44_0 := blk_frozen BK345.out 0
     go_wp2_with (first | ((with_reducible refine gate_callee (f := 10) rfl ?_); refine goesL_ (some 14) rfl rfl Try.func10 (by kernel_rfl) rfl #[.agg #[.slice A0_0 l0_0.length c0_0]] rfl (by (try simp only [List.map_toArray, List.map_cons, List.map_nil]); first | done | rfl | (simp only [List.length_drop, List.length_take]; rfl)) ?_; (with_reducible refine (graph_Calls.calls kj1 _ _ l0_0 t348 _ ?side1 ?side2 A14.out).mono ?_); (case side1 => repeat (first | exact (Kd.C_below HR0_0.out HB.out) | (with_reducible refine Kd.C_alloc ?_ _) | (with_reducible refine Kd.C_drewN ?_ _) | (with_reducible refine Kd.C_drew ?_))); (case side2 => exact HC0_0.out); rintro e w45 ⟨v349, rfl, ho0, hb⟩; refine ⟨_, rfl, ?_⟩; have n0_ := Aside0.mk (Kd.S_lower ho0 (below_size (by repeat (first | (with_reducible first | exact HB.out | apply below_alloc | apply pw_below_drewN | apply below_drew1 | refine below_set ?_ GE345.out) | exact HB.out)))); have n1_ := Aside0.mk (blk_below (g := gb345) (o := .cells #[.slice A0_0 l0_0.length c0_0] 24 (0, 0)) (by (with_reducible repeat (first | refine blk_drewN ?_ _ | refine blk_drew ?_ | refine blk_alloc ?_ _)); exact BK345.out) hb); have n2_ := Aside0.mk (below_step (by repeat (first | (with_reducible first | exact HB.out | apply below_alloc | apply pw_below_drewN | apply below_drew1 | refine below_set ?_ GE345.out) | exact HB.out)) hb); clear BK345; clear HB; have HO350 := n0_; have BK345 := n1_; have HB := n2_; clear n0_ n1_ n2_; (try clear hb); (try clear hb2); (try clear hk); (try clear hi); (try clear ho0)) | ((with_reducible refine gate_callee (f := 9) rfl ?_); refine goesL_ (some 15) rfl rfl Try.func9 (by kernel_rfl) rfl #[] rfl (by (try simp only [List.map_toArray, List.map_cons, List.map_nil]); first | done | rfl | (simp only [List.length_drop, List.length_take]; rfl)) ?_; (with_reducible refine (w12_fixed.calls  false _ A15.out).mono ?_); rintro e w46 ⟨rfl, hb⟩; refine ⟨_, rfl, ?_⟩; have n0_ := Aside0.mk (Kd.S_below (by (with_reducible repeat (first | apply Kd.S_alloc | apply Kd.S_drewN | apply Kd.S_drew)); exact HO350.out) hb); have n1_ := Aside0.mk (blk_below (g := gb345) (o := .cells #[.slice A0_0 l0_0.length c0_0] 24 (0, 0)) (by (with_reducible repeat (first | refine blk_drewN ?_ _ | refine blk_drew ?_ | refine blk_alloc ?_ _)); exact BK345.out) hb); have n2_ := Aside0.mk (below_step (by repeat (first | (with_reducible first | exact HB.out | apply below_alloc | apply pw_below_drewN | apply below_drew1 | refine below_set ?_ GE345.out) | exact HB.out)) hb); clear HO350; clear BK345; clear HB; have HO350 := n0_; have BK345 := n1_; have HB := n2_; clear n0_ n1_ n2_; (try clear hb); (try clear hb2); (try clear hk); (try clear hi)))
     go_ret
     exact ⟨by first | rfl | (simp [errW_none, errW_some] <;> rfl) | (simp [*, errW_none, errW_some] <;> rfl), by repeat (first | (with_reducible first | exact HB.out | apply below_alloc | apply pw_below_drewN | apply below_drew1 | refine below_set ?_ GE345.out) | exact HB.out)⟩
end Go.Proofs.Ytdbngbmokgeeiaa.Pr

namespace Go.Proofs.Ytdbngbmokgeeiaa.Man
open Go.RowKit Go.Proofs.Ytdbngbmokgeeiaa.Pr Go.Proofs.YtdbngbmokgeeiaaW.PrintWords
set_option linter.unusedVariables false
set_option linter.unusedSimpArgs false
theorem rcalls_ev (fs : List S42) (hl : LowP fs) (i : Nat) (hi : i < fs.length) (g : Int) : Ev (fun k => r12_calls.f fs (i : Int) g) (leads fs (flat (rd_T42 fs (i : Int)).f2) g) := by
  unfold r12_calls.f
  rw [if_pos ⟨hl, Int.natCast_nonneg i, by omega⟩]
  exact Ev.const _
def rowR (fs : List S42) (f : S42) (n : Nat) : List Int := ((List.range n).filter (fun (k : Nat) => leads fs (flat f.f2) (k : Int))).map Int.ofNat
theorem rowR_len (fs : List S42) (f : S42) (n : Nat) : (rowR fs f n).length ≤ n := by
  unfold rowR; rw [List.length_map]; exact Nat.le_trans (List.length_filter_le _ _) (by simp)
theorem rCalls_ev (fs : List S42) (hl : LowP fs) : Ev (fun k => r12_Calls.f k fs) (fs.map fun f => rowR fs f fs.length) := by
  have hlen := hl.1
  have row : ∀ (i : Nat) (hi : i < fs.length) (out : List (List Int)) (ho : out.length ≤ 2000000) (res : List (List Int)), Ev (fun k => r12_Calls.l0 k (out ++ [rowR fs (rd_T42 fs (i : Int)) fs.length]) ((i + 1 : Nat) : Int) fs) res →
      ∀ d j : Nat, j + d = fs.length → Ev (fun k => r12_Calls.l1 k out (i : Int) (rowR fs (rd_T42 fs (i : Int)) j) (j : Int) fs) res := by
    intro i hi out ho res h d
    induction d with
    | zero =>
      intro j hj
      have d1 : ¬ (j : Int) < (fs.length : Int) := by omega
      have d2 : out.length < 5864062014805 := by omega
      refine Ev.step ?_
      simp only [r12_Calls.l1, if_neg d1, if_pos d2]
      rw [pz2 i (by omega), show j = fs.length by omega]
      exact h
    | succ d ihd =>
      intro j hj
      have d1 : (j : Int) < (fs.length : Int) := by omega
      have d2 : (rowR fs (rd_T42 fs (i : Int)) j).length < 17592186044416 := by have := rowR_len fs (rd_T42 fs (i : Int)) j; omega
      have e := ihd (j + 1) (by omega)
      refine Ev.step ?_
      simp only [r12_Calls.l1, if_pos d1]
      refine Ev.bind (rcalls_ev fs hl i hi (j : Int)) ?_
      have hs : rowR fs (rd_T42 fs (i : Int)) (j + 1) = rowR fs (rd_T42 fs (i : Int)) j ++ (if leads fs (flat (rd_T42 fs (i : Int)).f2) (j : Int) = true then [(j : Int)] else []) := by
        unfold rowR
        rw [List.range_succ, List.filter_append, List.map_append]
        congr 1
        by_cases hb : leads fs (flat (rd_T42 fs (i : Int)).f2) (j : Int) = true <;> simp [hb]
      rw [hs] at e
      by_cases hb : leads fs (flat (rd_T42 fs (i : Int)).f2) (j : Int) = true
      · rw [if_pos hb] at e
        simp only [if_pos hb, if_pos d2]
        rw [pz2 j (by omega)]
        exact e
      · rw [if_neg hb, List.append_nil] at e
        simp only [if_neg hb]
        rw [pz2 j (by omega)]
        exact e
  have main : ∀ d i : Nat, i + d = fs.length → Ev (fun k => r12_Calls.l0 k ((fs.take i).map fun f => rowR fs f fs.length) (i : Int) fs) (fs.map fun f => rowR fs f fs.length) := by
    intro d
    induction d with
    | zero =>
      intro i hi
      have c : ¬ (i : Int) < (fs.length : Int) := by omega
      refine Ev.step ?_
      simp only [r12_Calls.l0, if_neg c]
      rw [List.take_of_length_le (by omega)]
      exact Ev.const _
    | succ d ihd =>
      intro i hi
      have hil : i < fs.length := by omega
      have c : (i : Int) < (fs.length : Int) := by omega
      have e := ihd (i + 1) (by omega)
      rw [List.take_succ_eq_append_getElem hil, List.map_append, List.map_cons, List.map_nil, ← rdF_get hil] at e
      refine Ev.step ?_
      simp only [r12_Calls.l0, if_pos c]
      have := row i hil _ (by simp; omega) _ e fs.length 0 (by omega)
      simpa [rowR] using this
  have := main fs.length 0 (by omega)
  simp only [r12_Calls.f]
  simpa using this
theorem srt_mem (xs : List Int) (x : Int) : x ∈ srt xs ↔ x ∈ xs := (List.mergeSort_perm xs _).mem_iff
theorem srt_rises (xs : List Int) (i j : Nat) (hi : i < (srt xs).length) (hj : j < (srt xs).length) (h : i ≤ j) : (srt xs)[i] ≤ (srt xs)[j] := by
  have hp : (srt xs).Pairwise (fun a b => decide (a ≤ b) = true) := List.pairwise_mergeSort (fun a b c h1 h2 => by simp only [decide_eq_true_eq] at *; omega) (fun a b => by simp only [Bool.or_eq_true, decide_eq_true_eq]; omega) xs
  by_cases e : i = j
  · subst e; omega
  · have := (List.pairwise_iff_getElem.1 hp) i j hi hj (by omega)
    simpa using this
theorem cs_rises (xs : List Int) : (Lib.compact (srt xs)).Pairwise (· < ·) :=
  List.Pairwise.imp (fun {a b} h => by have := h.1; have := h.2; omega) (compact_rises (srt xs) (fun a b => a ≤ b) (fun a b h1 h2 => by omega) (fun i j hi hj h => srt_rises xs i j hi hj h))
theorem cs_mem (xs : List Int) (x : Int) : x ∈ Lib.compact (srt xs) ↔ x ∈ xs := (compact_mem _ _).trans (srt_mem _ _)
theorem firstIx_lt (nm : ByteArray) : ∀ (l : List S42) (i : Nat), firstIx nm l i < (i : Int) + l.length := by
  intro l
  induction l with
  | nil => intro i; simp only [firstIx, List.length_nil]; omega
  | cons f r ih =>
    intro i
    have := ih (i + 1)
    simp only [firstIx, List.length_cons]
    split
    · omega
    · omega
theorem funIx_lt (fs : List S42) (nm : ByteArray) : funIx fs nm < fs.length := by have := firstIx_lt nm fs 0; unfold funIx; omega
theorem coll_mem (fs : List S42) (L : List S55) (x : Int) : x ∈ coll fs L ↔ ∃ s ∈ L, s.f0 = 5 ∧ 0 ≤ funIx fs s.f3 ∧ funIx fs s.f3 = x := by
  unfold coll
  rw [List.mem_flatMap]
  constructor
  · rintro ⟨s, hs, h⟩
    unfold calledBy at h
    split at h
    · rename_i hc; simp at h; exact ⟨s, hs, hc.1, hc.2, h.symm⟩
    · simp at h
  · rintro ⟨s, hs, h5, h0, rfl⟩
    exact ⟨s, hs, by unfold calledBy; rw [if_pos ⟨h5, h0⟩]; simp⟩
theorem rowR_rises (fs : List S42) (f : S42) (n : Nat) : (rowR fs f n).Pairwise (· < ·) := by
  unfold rowR
  rw [List.pairwise_map]
  exact List.Pairwise.imp (fun {a b} h => Int.ofNat_lt.2 h) (List.Pairwise.filter _ List.pairwise_lt_range)
theorem rowR_mem (fs : List S42) (f : S42) (n : Nat) (x : Int) : x ∈ rowR fs f n ↔ 0 ≤ x ∧ x < n ∧ leads fs (flat f.f2) x = true := by
  unfold rowR
  simp only [List.mem_map, List.mem_filter, List.mem_range]
  constructor
  · rintro ⟨a, ⟨h1, h2⟩, rfl⟩; exact ⟨by simp, by simpa using h1, h2⟩
  · rintro ⟨h0, h1, h2⟩
    exact ⟨x.toNat, ⟨by omega, by rw [Int.toNat_of_nonneg h0]; exact h2⟩, by simp; omega⟩
theorem callsOf_row (fs : List S42) (f : S42) : callsOf fs f = rowR fs f fs.length := by
  unfold callsOf
  by_cases ha : applies (flat f.f2) = true
  · rw [if_pos ha]
    unfold allIx rowR
    congr 1
    symm
    rw [List.filter_eq_self]
    intro k _
    unfold leads applies at *
    obtain ⟨s, hs, h6⟩ := List.any_eq_true.1 ha
    exact List.any_eq_true.2 ⟨s, hs, by rw [h6]; rfl⟩
  · rw [if_neg ha]
    refine rising_eq _ _ (cs_rises _) (rowR_rises _ _ _) (fun x => ?_)
    rw [cs_mem, coll_mem, rowR_mem]
    constructor
    · rintro ⟨s, hs, h5, h0, rfl⟩
      refine ⟨h0, funIx_lt _ _, ?_⟩
      unfold leads
      exact List.any_eq_true.2 ⟨s, hs, by simp [h5]⟩
    · rintro ⟨h0, h1, h2⟩
      unfold leads at h2
      obtain ⟨s, hs, h⟩ := List.any_eq_true.1 h2
      simp only [Bool.or_eq_true, Bool.and_eq_true, beq_iff_eq] at h
      rcases h with h | ⟨h5, h⟩
      · exact absurd (by unfold applies; exact List.any_eq_true.2 ⟨s, hs, by simp [h]⟩) ha
      · exact ⟨s, hs, h5, by omega, h⟩
theorem callsF_rows (fs : List S42) : callsF fs = fs.map fun f => rowR fs f fs.length := by
  unfold callsF; exact List.map_congr_left fun f _ => callsOf_row fs f
theorem callsF_get (fs : List S42) (i : Nat) (h : i < fs.length) : (callsF fs).getD i [] = rowR fs (rd_T42 fs (i : Int)) fs.length := by
  rw [callsF_rows, List.getD_eq_getElem?_getD, List.getElem?_map, List.getElem?_eq_getElem h, rdF_get h]; rfl
theorem callsF_len (fs : List S42) : (callsF fs).length = fs.length := by unfold callsF; simp
theorem callsF_sm (fs : List S42) (hl : fs.length ≤ 1000) : Sm (callsF fs) := by
  refine ⟨by rw [callsF_len]; omega, fun i => ?_⟩
  by_cases h : i < fs.length
  · rw [callsF_get fs i h]; have := rowR_len fs (rd_T42 fs (i : Int)) fs.length; omega
  · rw [List.getD_eq_getElem?_getD, List.getElem?_eq_none (by rw [callsF_len]; omega)]; simp
theorem callsF_may (fs : List S42) (hl : fs.length ≤ 1000) : mayB (callsF fs) = true := by
  refine mayB_of (by rw [callsF_len]; exact hl) (fun i hi x hx => ?_) (fun i hi => ?_)
  · rw [callsF_len] at hi ⊢
    rw [callsF_get fs i hi] at hx
    have := (rowR_mem _ _ _ _).1 hx
    exact ⟨this.1, this.2.1⟩
  · rw [callsF_len] at hi
    rw [callsF_get fs i hi]; exact rowR_rises _ _ _
theorem LowP.smP {fs : List S42} (h : LowP fs) (hl : fs.length ≤ 1000) : SmP fs := ⟨by omega, fun f hf => (h.2 f hf).2.1⟩
theorem gcalls_ev (fs : List S42) (hl : LowP fs) : Ev (fun k => w12_GraphCalls.f k fs) true := by
  obtain ⟨b, eb⟩ := big_ev fs hl
  have jt : Ev (fun k => w12_GraphCalls.j0 k true fs) true := by
    refine Ev.step ?_
    simp only [w12_GraphCalls.j0, if_true, w12_fixed.f, Option.bind_some]
    exact Ev.const _
  simp only [w12_GraphCalls.f]
  refine Ev.bind eb ?_
  cases b with
  | true => simp only [if_true]; exact jt
  | false =>
    simp only [Bool.false_eq_true, if_false]
    by_cases hg : (fs.length : Int) > 60
    · simp only [decide_eq_true hg]; exact jt
    · have h60 : fs.length ≤ 1000 := by omega
      simp only [decide_eq_false hg]
      refine Ev.step ?_
      simp only [w12_GraphCalls.j0, Bool.false_eq_true, if_false, graph_Calls.f, if_pos (hl.smP h60), Option.bind_some, w12_fixed.f, if_true]
      refine Ev.bind (rCalls_ev fs hl) ?_
      rw [← callsF_rows]
      refine Ev.bind (same_ev _ (callsF_sm fs h60)) ?_
      simp only [if_true]
      refine Ev.bind (gmay_ev _ (callsF_sm fs h60)) ?_
      rw [callsF_may fs h60]
      simp only [if_true, callsF_len, beq_self_eq_true]
      exact Ev.const _
end Go.Proofs.Ytdbngbmokgeeiaa.Man

namespace Go.Proofs.Ytdbngbmokgeeiaa.graphCalls
open Go.ChangeShapes Go.WideShapes Go.ChangeAt Go.RowKit Go.Proofs.Ytdbngbmokgeeiaa.Pr Go.Proofs.YtdbngbmokgeeiaaW.PrintWords
open Go.ChangeMaps (open_string shut_string)
set_option linter.unusedVariables false
theorem own : ownKnob Try.prog.godebug = none := by kernel_rfl
theorem laidOut : laidOutB Try.prog = true := by kernel_rfl
theorem lowP {l : List S42} {n : Nat} (h : Man.FitP l n) (hn : n ≤ 2000000) : Man.LowP l :=
  ⟨by have := h.1; omega, fun f hf => by
    obtain ⟨h1, h2, h3⟩ := h.2 f hf
    exact ⟨by omega, by omega, by have := Man.len_flat f.f2; omega, fun s hs => by have := h3 s hs; omega⟩⟩
theorem walk (A0 : Option Addr) (c0 : Nat) (l0 : List S42) (hc0 : l0.length ≤ c0) (w : World) (hC0 : Kd.C k42 w A0 l0.length l0) (hP : Man.FitP l0 1048576) :
    Calls Try.prog 3 #[.agg #[.slice A0 l0.length c0]] w fun e w' => e = .returned (.bool true) ∧ Below w.heap.size w w' := by
  obtain ⟨k, e⟩ := Man.gcalls_ev l0 (lowP hP (by decide))
  exact w12_GraphCalls.calls k A0 c0 l0 true w hC0 hc0 (e k (Nat.le_refl _))
set_option maxRecDepth 100000 in
set_option maxHeartbeats 4000000 in
theorem lifted (os : Os) (started : os.Started) (H : Type) (enc : TypeId × Value → H) (F : Stop.Interp) :
    ReturnsInHanded {} Try.checked os 3 .any ((Rows.OpenSpec.upto Rows.graphCallsSpec).pre6 enc Try.prog Try.f3 Rows.graphCallsUptoRow.domain false) (((Rows.OpenSpec.upto Rows.graphCallsSpec).at F).post enc Try.prog Try.f3 false true false false) := by
  refine returnsInHanded_of_cond (C := Try.checked) (s := (Rows.OpenSpec.upto Rows.graphCallsSpec)) (k := Rows.uptoSmall) rfl own started (by kernel_rfl) Try.func3
    (OpenSpec.witness (enc := enc) (C := Try.checked) (s := (Rows.OpenSpec.upto Rows.graphCallsSpec)) (k := Rows.uptoSmall) rfl false ⟨#[], #[.agg #[.slice none 0 0]], []⟩ 8 (by kernel_rfl) (by kernel_rfl) (by kernel_rfl)
      (x := ([.agg [.nil]], [], [])) (by kernel_rfl) rfl (by kernel_rfl)) ?_
  intro W base args ds gs before hval0 hW _ hk _
  have hval : ∀ (j : Nat) t v, Try.f3.params[j]? = some t → args[j]? = some v → Value.okWide Try.prog W .any base t v := hval0
  have hW' := hW
  obtain ⟨p, q, hA0, hV, rfl, hfz, hnd⟩ := hW
  have hA : DataW.TrodAll enc Try.prog W 0 (fun _ => true) true Try.f3.params.toList args.toList ds p := hA0
  rw [Try.params3] at hA hval
  obtain ⟨v0, vs0, d0, ds0, p0, q0, hargs, rfl, rfl, h0, r0⟩ := trodAll_cons hA
  obtain ⟨rfl, rfl, rfl⟩ := trodAll_nil r0
  obtain rfl : args = #[v0] := by cases args; simp_all
  obtain ⟨rfl, rfl⟩ := trodVars_none hV
  obtain ⟨cs0, rfl, hz0⟩ := okWide_struct Try.underlying24 (hval 0 24 v0 rfl rfl)
  have k0 := h0
  have lt0 : ∀ x ∈ p0, x.block < W.heap.size := by obtain ⟨m, hm⟩ := k0; exact DataW.trod_lt m _ _ _ hm
  obtain ⟨fuel0, hf0⟩ := h0
  have hbulk : Rows.uptoBulkAll ([d0] ++ []) ≤ 1048576 := of_decide_eq_true hk
  simp only [List.append_nil, Rows.uptoBulkAll] at hbulk
  obtain ⟨A0, c0, l0, hv0, hc0, hC0, hB0⟩ := Man.bridge_prog fuel0 cs0 _ _ hf0
  subst hv0
  have hP0 : Man.FitP l0 1048576 := hB0.mono (by omega)
  clear hA0 hval0
  refine (walk _ _ l0 hc0 W hC0 hP0).mono fun e W' ⟨he, bel⟩ => ?_
  subst he
  exact ⟨_, rfl, _, _, _, [], _, [], hW', trodAll_mk1 (shut_bool Try.underlying4 _), (trodAll_cons_mk (Below.trod laidOut (by kernel_rfl) (of_decide_eq_true (by kernel_rfl)) k0 bel lt0) trodAll_mk0), rfl, bel.frame _, fun h => by cases h⟩
theorem proved : Rows.GraphCallsUptoSaid :=
  OpenClaim.holds_of_cond 3 Try.f3 rfl rfl rfl rfl rfl rfl rfl ⟨rfl, rfl, rfl, rfl, rfl⟩ rfl rfl rfl rfl rfl (by kernel_rfl) Try.func3 (by kernel_rfl)
    (of_decide_eq_true (by kernel_rfl)) (by unfold Func.isWrapper; first | (rw [if_pos (by decide +kernel)]; kernel_rfl) | (rw [if_neg (by decide +kernel)]; exact ⟨rfl, rfl⟩))
    (fun os started H enc _ F => lifted os started H enc F)
end Go.Proofs.Ytdbngbmokgeeiaa.graphCalls
namespace Go.Proofs.Ytdbngbmokgeeiaa
theorem graphCalls_holds : Rows.GraphCallsUptoSaid := graphCalls.proved
end Go.Proofs.Ytdbngbmokgeeiaa
