import Derived.Test.YtdifnochnmiagaaManN
import Derived.Test.YtdifnochnmiagaaPrOfProteanref02texts
import Derived.Sort.LoopGhostIn
namespace Go.Proofs.Ytdifnochnmiagaa.Man
open Go.RowKit Go.Shelf Go.Proofs.Ytdifnochnmiagaa.Pr Go.Proofs.YtdifnochnmiagaaW.PrintWords
attribute [local go_sem] Oper.semAt_some
set_option linter.unusedVariables false
set_option linter.unusedSimpArgs false

/-- No row is longer than memory is. -/
def tame (l : List S36) : Prop := l.length ≤ 4611686018427387904 ∧ ∀ s ∈ flat l, s.f4.length ≤ 4611686018427387904 ∧ s.f5.length ≤ 4611686018427387904 ∧ s.f6.length ≤ 4611686018427387904 ∧ s.f7.length ≤ 4611686018427387904
theorem flat_of_mem {s : S36} {l : List S36} (h : s ∈ l) : s ∈ flat l := by
  fun_induction flat l with
  | case1 => cases h
  | case2 x r ih1 ih2 ih3 =>
    rcases List.mem_cons.1 h with rfl | h
    · simp
    · simp [ih3 h]
theorem flat_in {s x : S36} {l : List S36} (h : s ∈ flat l) (hx : x ∈ flat s.f6 ∨ x ∈ flat s.f7) : x ∈ flat l := by
  fun_induction flat l with
  | case1 => cases h
  | case2 y r ih1 ih2 ih3 =>
    simp only [List.mem_cons, List.mem_append] at h ⊢
    rcases h with rfl | h | h | h
    · rcases hx with h | h
      · exact .inr (.inl h)
      · exact .inr (.inr (.inl h))
    · exact .inr (.inl (ih1 h))
    · exact .inr (.inr (.inl (ih2 h)))
    · exact .inr (.inr (.inr (ih3 h)))
theorem flat_small {s : S36} {l : List S36} (h : s ∈ l) : (flat s.f6).length < (flat l).length ∧ (flat s.f7).length < (flat l).length := by
  fun_induction flat l with
  | case1 => cases h
  | case2 y r ih1 ih2 ih3 =>
    simp only [List.length_cons, List.length_append]
    rcases List.mem_cons.1 h with rfl | h
    · omega
    · have := ih3 h; omega
theorem tame_sub {s : S36} {l : List S36} (h : tame l) (hs : s ∈ l) : tame s.f6 ∧ tame s.f7 := by
  have := h.2 s (flat_of_mem hs)
  exact ⟨⟨this.2.2.1, fun x hx => h.2 x (flat_in (flat_of_mem hs) (.inl hx))⟩, ⟨this.2.2.2, fun x hx => h.2 x (flat_in (flat_of_mem hs) (.inr hx))⟩⟩
theorem texts_same (x : List ByteArray) (hx : x.length ≤ 4611686018427387904) : ∃ k, proteanref02_Texts.f k x x = some true := by
  have : ∀ d i : Nat, i + d = x.length → proteanref02_Texts.l0 (d + 1) x x (i : Int) = some true := by
    intro d
    induction d with
    | zero => intro i hi; unfold proteanref02_Texts.l0; rw [if_neg (by omega)]
    | succ d ih =>
      intro i hi
      unfold proteanref02_Texts.l0
      rw [if_pos (by omega), if_pos (by omega), if_pos (by omega), if_pos rfl]
      have e : wrap64 ((i : Int) + 1) = ((i + 1 : Nat) : Int) := by simp only [wrap64]; omega
      rw [e]
      exact ih (i + 1) (by omega)
  exact ⟨x.length + 1, by unfold proteanref02_Texts.f; rw [if_pos rfl]; exact this x.length 0 (by omega)⟩
end Go.Proofs.Ytdifnochnmiagaa.Man
