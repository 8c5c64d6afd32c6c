import Derived.Test.YtdifnochnmiagaaManX
import Derived.Test.YtdifnochnmiagaaPr13
namespace Go.Proofs.Ytdifnochnmiagaa.Man
open Go.RowKit Go.Shelf Go.Proofs.Ytdifnochnmiagaa.Pr Go.Proofs.YtdifnochnmiagaaW.PrintWords
set_option linter.unusedVariables false
set_option linter.unusedSimpArgs false

theorem sitesLaw_ev (l : List S36) (h : Fit l 1048576) (hl : l.length ≤ 1048576) : Ev (fun k => proteanlaw04_NumberSites.f k l) true := by
  obtain ⟨ht, htf, hN⟩ := fit_tame h hl
  obtain ⟨rd, ed⟩ := isDeep_ev l ht
  have jt : Ev (fun k => proteanlaw04_NumberSites.j0 k l true) true := by
    refine Ev.step ?_
    simp only [proteanlaw04_NumberSites.j0, if_true, proteanlaw04_fixed.f, Option.bind_some]
    exact Ev.const _
  refine Ev.bind ed ?_
  cases rd with
  | true => simp only [if_true]; exact jt
  | false =>
    simp only [Bool.false_eq_true, if_false, number_Count.f, if_pos hN, Option.bind_some]
    by_cases hc : (((flat l).length : Nat) : Int) > 1000
    · simp only [decide_eq_true hc]; exact jt
    · simp only [decide_eq_false hc]
      refine Ev.step ?_
      simp only [proteanlaw04_NumberSites.j0, Bool.false_eq_true, if_false, number_List.f, if_pos hN, Option.bind_some]
      have skip : ∀ (x4 x5 : Int) (b : Bool), siteOf (flat l) x5 = (0, false) → Ev (fun k => proteanlaw04_NumberSites.l0 k l (flat l) x4 (wrap64 (x5 + 1))) b → Ev (fun k => proteanlaw04_NumberSites.j2 k l (flat l) x4 x5 (siteOf (flat l) x5).1 (siteOf (flat l) x5).2 true) b := by
        intro x4 x5 b hs e
        rw [hs]
        refine Ev.step (Ev.step ?_)
        simp only [proteanlaw04_NumberSites.j2, proteanlaw04_NumberSites.j3, if_true, Bool.false_eq_true, if_false, bne_self_eq_false]
        exact e
      have main : ∀ m i : Nat, i + m = (flat l).length + 1 → Ev (fun k => proteanlaw04_NumberSites.l0 k l (flat l) ((news ((flat l).take i) : Nat) : Int) (i : Int)) true := by
        intro m
        induction m with
        | zero =>
          intro i hi
          have h1 : ¬ (i : Int) ≤ ((flat l).length : Int) := by omega
          refine Ev.step ?_
          rw [List.take_of_length_le (by omega)]
          simp only [proteanlaw04_NumberSites.l0, if_neg h1, proteanlaw04_fixed.f, Option.bind_some, if_true, number_Sites.f, if_pos hN, beq_self_eq_true]
          exact Ev.const _
        | succ m ihm =>
          intro i hi
          have h1 : (i : Int) ≤ ((flat l).length : Int) := by omega
          have h0 : ¬ (i : Int) < 0 := by omega
          have h0' : 0 ≤ (i : Int) := by omega
          have e := ihm (i + 1) (by omega)
          have h2 := step64 (i := i) (n := (flat l).length + 1) (by omega) (by omega)
          refine Ev.step ?_
          simp only [proteanlaw04_NumberSites.l0, if_pos h1, number_Site.f, if_pos hN, Option.bind_some, if_neg h0, if_pos h0']
          by_cases he : (i : Int) = ((flat l).length : Int)
          · simp only [if_pos he]
            refine skip _ _ _ (by unfold siteOf; rw [if_neg (by omega)]) ?_
            rw [h2]
            rw [List.take_of_length_le (by omega)] at e ⊢
            exact e
          · have h3 : (i : Int) < ((flat l).length : Int) := by omega
            simp only [if_neg he, if_pos h3]
            rw [news_take (flat l) i (by omega)] at e
            by_cases h4 : (rd_T36 (flat l) (i : Int)).f0 = 4
            · have h4b : ((rd_T36 (flat l) (i : Int)).f0 != 4) = false := by simpa using h4
              rw [if_pos h4] at e
              simp only [h4b]
              rw [show siteOf (flat l) (i : Int) = (((news ((flat l).take i) : Nat) : Int), true) from by unfold siteOf; rw [if_pos ⟨h0', h3, h4⟩]; rfl]
              refine Ev.step ?_
              simp only [proteanlaw04_NumberSites.j2, Bool.false_eq_true, if_false, if_true, h2, newsw (flat l) i (by omega) hN]
              exact e
            · have h4b : ((rd_T36 (flat l) (i : Int)).f0 != 4) = true := by simpa using h4
              rw [if_neg h4] at e
              simp only [h4b]
              refine skip _ _ _ (by unfold siteOf; rw [if_neg (by rintro ⟨_, _, h⟩; exact h4 h)]) ?_
              rw [h2]; exact e
      have e0 := main ((flat l).length + 1) 0 (by omega)
      refine Ev.step ?_
      have hm1 : (-1 : Int) ≤ ((flat l).length : Int) := by omega
      simp only [proteanlaw04_NumberSites.l0, if_pos hm1, number_Site.f, if_pos hN, Option.bind_some, if_pos (show (-1 : Int) < 0 by decide)]
      refine skip _ _ _ (by unfold siteOf; rw [if_neg (by omega)]) ?_
      rw [show wrap64 (-1 + 1) = 0 by simp [wrap64]]
      simpa [news] using e0
end Go.Proofs.Ytdifnochnmiagaa.Man
