import Derived.Test.YtdifnochnmiagaaManX
import Derived.Test.YtdifnochnmiagaaPr12
namespace Go.Proofs.Ytdifnochnmiagaa.Man
open Go.RowKit Go.Shelf Go.Proofs.Ytdifnochnmiagaa.Pr Go.Proofs.YtdifnochnmiagaaW.PrintWords
set_option linter.unusedVariables false
set_option linter.unusedSimpArgs false

/-- Behind what stands ahead of it a statement has its place in the list. -/
theorem flat_split (l : List S36) (i : Nat) (h : i < l.length) : ∃ t, flat l = flat (l.take i) ++ rd_T36 l (i : Int) :: t ∧ (flat (l.take (i + 1))).length = (flat (l.take i)).length + 1 + (flat (rd_T36 l (i : Int)).f6).length + (flat (rd_T36 l (i : Int)).f7).length := by
  have h1 := take_rd l i h
  have e : l = l.take i ++ rd_T36 l (i : Int) :: l.drop (i + 1) := by
    conv => lhs; rw [← List.take_append_drop (i + 1) l, h1]
    simp
  refine ⟨_, by conv => lhs; rw [e, flat_append, flat_cons], ?_⟩
  rw [h1, flat_append, flat_cons]
  simp only [flat, List.length_append, List.length_cons, List.append_nil]
  omega
theorem seg_one {α : Type} (a : List α) (x : α) (t : List α) : ((a ++ x :: t).take (a.length + 1)).drop a.length = [x] := by
  rw [List.take_append]; simp
theorem rd_split (a : List S36) (x : S36) (t : List S36) : rd_T36 (a ++ x :: t) ((a.length : Nat) : Int) = x := by
  unfold rd_T36; simp [List.getD]
theorem seg_l (l : List S36) (i : Nat) (h : i < l.length) : (l.take (i + 1)).drop i = [rd_T36 l (i : Int)] := by
  rw [take_rd l i h, List.drop_append_of_le_length (by simp; omega)]
  simp
theorem tame_one {l : List S36} {s : S36} (ht : tame l) (hs : s ∈ l) : tame [s] := by
  refine ⟨by simp, fun x hx => ?_⟩
  rw [flat_cons] at hx
  simp only [flat, List.append_nil, List.mem_cons, List.mem_append] at hx
  rcases hx with rfl | hx | hx
  · exact ht.2 _ (flat_of_mem hs)
  · exact ht.2 _ (flat_in (flat_of_mem hs) (.inl hx))
  · exact ht.2 _ (flat_in (flat_of_mem hs) (.inr hx))
theorem stmts_one {l : List S36} {s : S36} (ht : tame l) (hs : s ∈ l) : proteanref02_Stmts.f [s] [s] = some true := by
  unfold proteanref02_Stmts.f; rw [if_pos ⟨rfl, tame_one ht hs⟩]
theorem wz1 (n : Nat) (h : n ≤ 900000000000) : wrap64 ((n : Int) + 1) = ((n + 1 : Nat) : Int) := by simp only [wrap64]; omega
theorem wz2 (n : Nat) (h : n ≤ 900000000000) : wrap64 ((n : Int) + 2) = ((n + 2 : Nat) : Int) := by simp only [wrap64]; omega
theorem next_j1_end (k : Nat) (l L : List S36) (i nx : Nat) (hi : i + 1 = l.length) (hn : nx = L.length) (hb : i ≤ 900000000000) : proteanlaw04_NumberNext.j1 (k + 1) l (i : Int) (nx : Int) L false = some true := by
  unfold proteanlaw04_NumberNext.j1; dsimp only
  rw [if_neg (by decide), wz1 i hb, if_pos (by omega)]
  simp only [proteanlaw04_fixed.f, Option.bind_some, if_true]
  rw [hn]; simp
theorem next_j1 (k : Nat) (l L : List S36) (i nx : Nat) (s : S36) (hi : i + 1 < l.length) (hn : nx < L.length) (hb : i ≤ 900000000000) (hb' : nx ≤ 900000000000)
    (e1 : (L.take (nx + 1)).drop nx = [s]) (e2 : (l.take (i + 2)).drop (i + 1) = [s]) (e3 : proteanref02_Stmts.f [s] [s] = some true) : proteanlaw04_NumberNext.j1 (k + 1) l (i : Int) (nx : Int) L false = some true := by
  unfold proteanlaw04_NumberNext.j1; dsimp only
  rw [if_neg (by decide), wz1 i hb, if_neg (by omega), wz1 nx hb', wz2 i hb]
  simp only [proteanlaw04_fixed.f, Option.bind_some, if_true]
  rw [if_pos (by omega), if_pos (by omega), if_pos (by omega), if_pos (by omega), if_pos (by omega), if_pos (by omega), if_pos (by omega), Int.toNat_natCast, Int.toNat_natCast, Int.toNat_natCast, Int.toNat_natCast, e1, e2, e3, Option.bind_some]
theorem next_j0 (k : Nat) (l L : List S36) (i n nx : Nat) (x y : Int) (s : S36) (hl : flat l = L) (hi : i < l.length) (hn : n < L.length) (hnx : nx ≤ L.length) (hb : i ≤ 900000000000) (hL : L.length ≤ 900000000000)
    (hn' : (flat (l.take i)).length = n) (hbk : blocksOf L (n : Int) = (x, y, (nx : Int)))
    (e1 : (L.take (n + 1)).drop n = [s]) (e2 : (l.take (i + 1)).drop i = [s]) (e3 : proteanref02_Stmts.f [s] [s] = some true) : proteanlaw04_NumberNext.j0 (k + 1) l (i : Int) false = proteanlaw04_NumberNext.j1 k l (i : Int) (nx : Int) L false := by
  unfold proteanlaw04_NumberNext.j0; dsimp only
  have c : number_Count.f (l.take i) = some ((n : Nat) : Int) := by unfold number_Count.f; rw [if_pos (by omega), hn']
  have b : number_Blocks.f l (n : Int) = some (x, y, (nx : Int)) := by unfold number_Blocks.f; rw [hl, if_pos hL, hbk]
  have a : number_List.f k l = some L := by unfold number_List.f; rw [hl, if_pos hL]
  rw [if_neg (by decide), if_pos (by omega), if_pos (by omega), Int.toNat_natCast, c, Option.bind_some, b, Option.bind_some, a, Option.bind_some]
  dsimp only
  rw [if_neg (by omega), if_neg (by omega), if_neg (by omega), if_pos (by omega), wz1 n (by omega), wz1 i hb, if_pos (by omega), if_pos (by omega), if_pos (by omega), if_pos (by omega), Int.toNat_natCast, Int.toNat_natCast, Int.toNat_natCast, e1, e2, e3, Option.bind_some]
  rfl
theorem nextLaw_ev (l : List S36) (a : Int) (h : Fit l 1048576) (hl : l.length ≤ 1048576) : Ev (fun k => proteanlaw04_NumberNext.f k l a) true := by
  obtain ⟨ht, htf, hN⟩ := fit_tame h hl
  obtain ⟨rd, ed⟩ := isDeep_ev l ht
  have jt : Ev (fun k => proteanlaw04_NumberNext.j0 k l a true) true := by
    refine Ev.step ?_
    simp only [proteanlaw04_NumberNext.j0, if_true, proteanlaw04_fixed.f, Option.bind_some]
    exact Ev.const _
  refine Ev.bind ed ?_
  cases rd with
  | true => simp only [if_true]; exact jt
  | false =>
    simp only [Bool.false_eq_true, if_false, number_Count.f, if_pos hN, Option.bind_some]
    by_cases hlo : a < 0
    · simp only [if_pos hlo]; exact jt
    · by_cases hhi : a ≥ (l.length : Int)
      · simp only [if_neg hlo, if_pos hhi]; exact jt
      · simp only [if_neg hlo, if_neg hhi]
        by_cases hc : (((flat l).length : Nat) : Int) > 1000
        · simp only [decide_eq_true hc]; exact jt
        · simp only [decide_eq_false hc]
          obtain ⟨i, rfl⟩ : ∃ i : Nat, a = (i : Int) := ⟨a.toNat, by omega⟩
          have hi : i < l.length := by omega
          obtain ⟨t, hs, hnx⟩ := flat_split l i hi
          have hm := rd_mem (l := l) (i := i) hi
          have hlen : (flat l).length = (flat (l.take i)).length + 1 + t.length := by
            have := congrArg List.length hs
            rw [List.length_append, List.length_cons] at this; omega
          have hle : (flat (l.take (i + 1))).length ≤ (flat l).length := by
            have := congrArg (fun x => (flat x).length) (List.take_append_drop (i + 1) l)
            simp only [flat_append, List.length_append] at this; omega
          have hbk : blocksOf (flat l) (((flat (l.take i)).length : Nat) : Int) = ((((flat (l.take i)).length : Nat) : Int) + 1, (((flat (l.take i)).length : Nat) : Int) + 1 + ((flat (rd_T36 l (i : Int)).f6).length : Nat), (((flat (l.take (i + 1))).length : Nat) : Int)) := by
            have hr : rd_T36 (flat l) (((flat (l.take i)).length : Nat) : Int) = rd_T36 l (i : Int) := by
              conv => lhs; arg 1; rw [hs]
              exact rd_split _ _ _
            unfold blocksOf
            rw [if_pos ⟨by omega, by omega⟩, hr, hnx]
            simp only [Int.natCast_add, Int.cast_ofNat_Int]
          have hseg : ((flat l).take ((flat (l.take i)).length + 1)).drop (flat (l.take i)).length = [rd_T36 l (i : Int)] := by
            conv => lhs; arg 2; arg 2; rw [hs]
            exact seg_one _ _ _
          refine Ev.step ?_
          have e0 := fun k => next_j0 k l (flat l) i (flat (l.take i)).length (flat (l.take (i + 1))).length _ _ (rd_T36 l (i : Int)) rfl hi (by omega) hle (by omega) hN rfl hbk hseg (seg_l l i hi) (stmts_one ht hm)
          simp only [e0]
          refine Ev.step ?_
          by_cases hend : i + 1 = l.length
          · have e1 := fun k => next_j1_end k l (flat l) i (flat (l.take (i + 1))).length hend (by rw [List.take_of_length_le (by omega)]) (by omega)
            simp only [e1]
            exact Ev.const _
          · obtain ⟨t', hs', _⟩ := flat_split l (i + 1) (by omega)
            have hm' := rd_mem (l := l) (i := i + 1) (by omega)
            have hlen' : (flat l).length = (flat (l.take (i + 1))).length + 1 + t'.length := by
              have := congrArg List.length hs'
              rw [List.length_append, List.length_cons] at this; omega
            have hseg' : ((flat l).take ((flat (l.take (i + 1))).length + 1)).drop (flat (l.take (i + 1))).length = [rd_T36 l ((i + 1 : Nat) : Int)] := by
              conv => lhs; arg 2; arg 2; rw [hs']
              exact seg_one _ _ _
            have e1 := fun k => next_j1 k l (flat l) i (flat (l.take (i + 1))).length _ (by omega) (by omega) (by omega) (by omega) hseg' (seg_l l (i + 1) (by omega)) (stmts_one ht hm')
            simp only [e1]
            exact Ev.const _
end Go.Proofs.Ytdifnochnmiagaa.Man
