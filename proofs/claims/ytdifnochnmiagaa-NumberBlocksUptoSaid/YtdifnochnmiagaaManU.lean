import Derived.Test.YtdifnochnmiagaaManX
import Derived.Test.YtdifnochnmiagaaPr13
namespace Go.Proofs.Ytdifnochnmiagaa.Man
open Go.RowKit Go.Shelf Go.Proofs.Ytdifnochnmiagaa.Pr Go.Proofs.YtdifnochnmiagaaW.PrintWords
set_option linter.unusedVariables false
set_option linter.unusedSimpArgs false

theorem split2 {α : Type} {R q : List α} {s : α} : ∀ (A p : List α), A ++ R = p ++ s :: q → (∃ c, A = p ++ s :: c ∧ q = c ++ R) ∨ ∃ p', R = p' ++ s :: q := by
  intro A
  induction A with
  | nil => intro p h; exact .inr ⟨p, by simpa using h⟩
  | cons a A ih =>
    intro p h
    cases p with
    | nil =>
      simp only [List.cons_append, List.nil_append, List.cons.injEq] at h
      obtain ⟨rfl, rfl⟩ := h
      exact .inl ⟨A, rfl, rfl⟩
    | cons b p =>
      simp only [List.cons_append, List.cons.injEq] at h
      obtain ⟨rfl, h⟩ := h
      rcases ih p h with ⟨c, rfl, rfl⟩ | ⟨p', hp⟩
      · exact .inl ⟨c, rfl, rfl⟩
      · exact .inr ⟨p', hp⟩
/-- Behind a statement of the list stand its own blocks. -/
theorem flat_behind : ∀ (N : Nat) (l : List S36), (flat l).length ≤ N → ∀ p s q, flat l = p ++ s :: q → ∃ t, q = flat s.f6 ++ (flat s.f7 ++ t) := by
  intro N
  induction N with
  | zero =>
    intro l hl p s q h
    rw [h] at hl; simp at hl
  | succ N ih =>
    intro l hl p s q h
    cases l with
    | nil => simp [flat] at h
    | cons s0 r =>
      rw [flat_cons] at h hl
      simp only [List.length_cons, List.length_append] at hl
      cases p with
      | nil =>
        simp only [List.nil_append, List.cons.injEq] at h
        obtain ⟨rfl, rfl⟩ := h
        exact ⟨flat r, rfl⟩
      | cons b p =>
        simp only [List.cons_append, List.cons.injEq] at h
        obtain ⟨_, h⟩ := h
        rcases split2 _ _ h with ⟨c, hA, rfl⟩ | ⟨p', h⟩
        · obtain ⟨t, rfl⟩ := ih _ (by omega) _ _ _ hA
          exact ⟨t ++ (flat s0.f7 ++ flat r), by simp [List.append_assoc]⟩
        · rcases split2 _ _ h with ⟨c, hA, rfl⟩ | ⟨p', h⟩
          · obtain ⟨t, rfl⟩ := ih _ (by omega) _ _ _ hA
            exact ⟨t ++ flat r, by simp [List.append_assoc]⟩
          · exact ih _ (by omega) _ _ _ h
theorem flat_drop (l : List S36) (i : Nat) (h : i < (flat l).length) : ∃ t, (flat l).drop (i + 1) = flat (rd_T36 (flat l) (i : Int)).f6 ++ (flat (rd_T36 (flat l) (i : Int)).f7 ++ t) := by
  refine flat_behind _ l (Nat.le_refl _) ((flat l).take i) _ _ ?_
  have h1 := take_rd (flat l) i h
  conv => lhs; rw [← List.take_append_drop (i + 1) (flat l), h1]
  simp
theorem Fit.sub {l : List S36} {n : Nat} (h : Fit l n) {s : S36} (hs : s ∈ flat l) : Fit s.f6 n ∧ Fit s.f7 n := by
  have hb := flat_sub l s hs
  have hh := h.1
  exact ⟨⟨by omega, fun x hx => h.2 x (flat_in hs (.inl hx))⟩, ⟨by omega, fun x hx => h.2 x (flat_in hs (.inr hx))⟩⟩
theorem blk_j0_out (k : Nat) (n : Int) (L : List S36) : proteanlaw04_NumberBlocks.j0 (k + 1) n L (-1) (-1) (-1) true = some true := by
  unfold proteanlaw04_NumberBlocks.j0; dsimp only
  rw [if_pos rfl]
  simp only [proteanlaw04_fixed.f, Option.bind_some, if_true]
  rfl
theorem blk_j0_in (k : Nat) (n a b c : Int) (L : List S36) (h1 : a = wrap64 (n + 1)) (h2 : a ≤ b) (h3 : b ≤ c) (h4 : c ≤ L.length) : proteanlaw04_NumberBlocks.j0 (k + 1) n L a b c false = proteanlaw04_NumberBlocks.j1 k n L a b c false := by
  unfold proteanlaw04_NumberBlocks.j0; dsimp only
  rw [if_neg (by decide), if_pos h1, if_neg (by omega), if_neg (by omega), decide_eq_false (by omega)]
theorem blk_j1 (k : Nat) (n a b c : Int) (L : List S36) (s : S36) (hs : rd_T36 L n = s) (h0 : 0 ≤ n) (hn : n < L.length) (h1 : 0 ≤ a) (h2 : a ≤ b) (h3 : b ≤ c) (h4 : c ≤ L.length)
    (e6 : (L.take b.toNat).drop a.toNat = flat s.f6) (e7 : (L.take c.toNat).drop b.toNat = flat s.f7) (hb : ((flat s.f6).length : Int) = wrap64 (b - a))
    (l6 : (flat s.f6).length ≤ 900000000000) (l7 : (flat s.f7).length ≤ 900000000000) (t6 : tame (flat s.f6)) (t7 : tame (flat s.f7)) : proteanlaw04_NumberBlocks.j1 (k + 1) n L a b c false = some true := by
  have q6 : number_List.f k s.f6 = some (flat s.f6) := by unfold number_List.f; rw [if_pos l6]
  have q7 : number_List.f k s.f7 = some (flat s.f7) := by unfold number_List.f; rw [if_pos l7]
  have qc : number_Count.f s.f6 = some (((flat s.f6).length : Nat) : Int) := by unfold number_Count.f; rw [if_pos l6]
  have s6 : proteanref02_Stmts.f (flat s.f6) (flat s.f6) = some true := by unfold proteanref02_Stmts.f; rw [if_pos ⟨rfl, t6⟩]
  have s7 : proteanref02_Stmts.f (flat s.f7) (flat s.f7) = some true := by unfold proteanref02_Stmts.f; rw [if_pos ⟨rfl, t7⟩]
  unfold proteanlaw04_NumberBlocks.j1; dsimp only
  rw [if_neg (by decide), if_pos h1, if_pos h2, if_pos (by omega), if_pos h0, if_pos hn, hs, q6, Option.bind_some, e6, s6, Option.bind_some, if_pos rfl, if_pos (by omega), if_pos h3, if_pos h4, q7, Option.bind_some, e7, s7, Option.bind_some, if_pos rfl, qc, Option.bind_some, ← hb]
  simp
theorem blocksLaw_ev (l : List S36) (a : Int) (h : Fit l 1048576) (hl : l.length ≤ 1048576) : Ev (fun k => proteanlaw04_NumberBlocks.f k l a) true := by
  obtain ⟨ht, htf, hN⟩ := fit_tame h hl
  obtain ⟨rd, ed⟩ := isDeep_ev l ht
  refine Ev.bind ed ?_
  cases rd with
  | true => simp only [if_true, proteanlaw04_fixed.f, Option.bind_some]; exact Ev.const _
  | false =>
    simp only [Bool.false_eq_true, if_false, number_List.f, number_Blocks.f, if_pos hN, Option.bind_some, proteanlaw04_fixed.f, if_true]
    by_cases hlo : a < 0
    · simp only [if_pos hlo, show blocksOf (flat l) a = (-1, -1, -1) from by unfold blocksOf; rw [if_neg (by omega)]]
      refine Ev.step ?_
      simp only [blk_j0_out]
      exact Ev.const _
    · by_cases hhi : a ≥ ((flat l).length : Int)
      · simp only [if_neg hlo, decide_eq_true hhi, show blocksOf (flat l) a = (-1, -1, -1) from by unfold blocksOf; rw [if_neg (by omega)]]
        refine Ev.step ?_
        simp only [blk_j0_out]
        exact Ev.const _
      · simp only [if_neg hlo, decide_eq_false hhi]
        obtain ⟨i, rfl⟩ : ∃ i : Nat, a = (i : Int) := ⟨a.toNat, by omega⟩
        have hi : i < (flat l).length := by omega
        obtain ⟨t, hd⟩ := flat_drop l i hi
        obtain ⟨s, hs⟩ : ∃ s, s = rd_T36 (flat l) (i : Int) := ⟨_, rfl⟩
        have hm : s ∈ flat l := by rw [hs]; exact rd_mem hi
        obtain ⟨f6, f7⟩ := h.sub hm
        have hb := h.2 s hm
        rw [← hs] at hd
        have hlen := congrArg List.length hd
        simp only [List.length_drop, List.length_append] at hlen
        have c6 : i + 1 + (flat s.f6).length + (flat s.f7).length ≤ (flat l).length := by clear hd ht htf hN ed h hb f6 f7 hs hm; omega
        have p6 : (flat s.f6).length ≤ 900000000000 := Nat.le_trans f6.1 (by decide)
        have p7 : (flat s.f7).length ≤ 900000000000 := Nat.le_trans f7.1 (by decide)
        have c0 : 0 ≤ (i : Int) := Int.natCast_nonneg i
        have c1 : (i : Int) < ((flat l).length : Int) := Int.ofNat_lt.2 hi
        have c2 : 0 ≤ ((i + 1 : Nat) : Int) := Int.natCast_nonneg _
        have c3 : ((i + 1 : Nat) : Int) ≤ ((i + 1 + (flat s.f6).length : Nat) : Int) := Int.ofNat_le.2 (Nat.le_add_right _ _)
        have c4 : ((i + 1 + (flat s.f6).length : Nat) : Int) ≤ ((i + 1 + (flat s.f6).length + (flat s.f7).length : Nat) : Int) := Int.ofNat_le.2 (Nat.le_add_right _ _)
        have c5 : ((i + 1 + (flat s.f6).length + (flat s.f7).length : Nat) : Int) ≤ ((flat l).length : Int) := Int.ofNat_le.2 c6
        have hbk : blocksOf (flat l) (i : Int) = (((i + 1 : Nat) : Int), ((i + 1 + (flat s.f6).length : Nat) : Int), ((i + 1 + (flat s.f6).length + (flat s.f7).length : Nat) : Int)) := by
          unfold blocksOf
          rw [if_pos ⟨c0, c1⟩, ← hs]
          simp only [Int.natCast_add, Int.cast_ofNat_Int]
        simp only [hbk]
        refine Ev.step ?_
        have w1 : wrap64 ((i : Int) + 1) = ((i + 1 : Nat) : Int) := by simp only [wrap64]; omega
        have e0 := fun k => blk_j0_in k (i : Int) ((i + 1 : Nat) : Int) ((i + 1 + (flat s.f6).length : Nat) : Int) ((i + 1 + (flat s.f6).length + (flat s.f7).length : Nat) : Int) (flat l) w1.symm c3 c4 c5
        simp only [e0]
        refine Ev.step ?_
        have g6 : ((flat l).take (i + 1 + (flat s.f6).length)).drop (i + 1) = flat s.f6 := by
          rw [List.drop_take, hd, Nat.add_sub_cancel_left, List.take_left']
          rfl
        have g7 : ((flat l).take (i + 1 + (flat s.f6).length + (flat s.f7).length)).drop (i + 1 + (flat s.f6).length) = flat s.f7 := by
          rw [List.drop_take, ← List.drop_drop, hd, Nat.add_sub_cancel_left, List.drop_left', List.take_left']
          · rfl
          · rfl
        have w2 : (((flat s.f6).length : Nat) : Int) = wrap64 (((i + 1 + (flat s.f6).length : Nat) : Int) - ((i + 1 : Nat) : Int)) := by simp only [wrap64]; omega
        have e1 := fun k => blk_j1 k (i : Int) ((i + 1 : Nat) : Int) ((i + 1 + (flat s.f6).length : Nat) : Int) ((i + 1 + (flat s.f6).length + (flat s.f7).length : Nat) : Int) (flat l) s hs.symm c0 c1 c2 c3 c4 c5
          (by simpa only [Int.toNat_natCast] using g6) (by simpa only [Int.toNat_natCast] using g7) w2 p6 p7 (fit_tame f6 hb.2.2.1).2.1 (fit_tame f7 hb.2.2.2).2.1
        simp only [e1]
        exact Ev.const _
end Go.Proofs.Ytdifnochnmiagaa.Man
