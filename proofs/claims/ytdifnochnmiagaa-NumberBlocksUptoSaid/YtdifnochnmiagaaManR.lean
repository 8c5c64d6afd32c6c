import Derived.Test.YtdifnochnmiagaaManQ
import Derived.Test.YtdifnochnmiagaaManP
namespace Go.Proofs.Ytdifnochnmiagaa.Man
open Go.RowKit Go.Shelf Go.Proofs.Ytdifnochnmiagaa.Pr Go.Proofs.YtdifnochnmiagaaW.PrintWords
attribute [local go_sem] Oper.semAt_some
set_option linter.unusedVariables false
set_option linter.unusedSimpArgs false

def smallF : List S36 := [⟨9, ⟨#[]⟩, ⟨#[]⟩, ⟨#[]⟩, [], [], [plain 4 ⟨#[97]⟩], [plain 7 ⟨#[98]⟩]⟩, plain 4 ⟨#[97]⟩, plain 7 ⟨#[98]⟩, plain 4 ⟨#[99]⟩]
theorem flat_smallL : flat smallL = smallF := by simp [flat, smallL, smallF, plain]
theorem fx_small (w : World) : Calls Try.prog 21 #[] w fun e w' => ∃ A c, e = .returned (.slice A 2 c) ∧ 2 ≤ c ∧ Kd.F k36 w' (fun k => w.heap.size ≤ k) A 2 smallL ∧ Below w.heap.size w w' := by
  refine (small_any w).mono ?_
  rintro e w' ⟨v, rfl, hN, hb⟩
  obtain ⟨A, c, rfl⟩ := Kd.N_slice hN
  exact ⟨A, c, rfl, (Kd.N_reads' hN).2.1, Kd.N_F hN, hb⟩
theorem fx_list (w : World) (P : Nat → Prop) (A : Option Addr) (c : Nat) (hc : 2 ≤ c) (hF : Kd.F k36 w P A 2 smallL) : Calls Try.prog 16 #[.slice A 2 c] w fun e w' => ∃ ad c', e = .returned (.slice (some ad) 4 c') ∧
    w'.cell? ⟨ad.block, ad.off + 8 + 1, none⟩ = some (.string ⟨#[97]⟩) ∧ w'.cell? ⟨ad.block, ad.off + 16 + 1, none⟩ = some (.string ⟨#[98]⟩) ∧ w'.cell? ⟨ad.block, ad.off + 24 + 1, none⟩ = some (.string ⟨#[99]⟩) ∧ Below w.heap.size w w' := by
  refine (list_any w P smallL A c hc hF (by rw [flat_smallL]; decide)).mono ?_
  rintro e w' ⟨v, rfl, hN, hb⟩
  rw [flat_smallL] at hN
  obtain ⟨A', c', rfl⟩ := Kd.N_slice hN
  have hC := (Kd.N_reads' hN).2.2
  obtain ⟨a1, _, _, _, _, _, _, _, _, e1, _, x1, _⟩ := at_T36 hC 1 (by decide) (by decide)
  obtain ⟨a2, _, _, _, _, _, _, _, _, e2, _, x2, _⟩ := at_T36 hC 2 (by decide) (by decide)
  obtain ⟨a3, _, _, _, _, _, _, _, _, e3, _, x3, _⟩ := at_T36 hC 3 (by decide) (by decide)
  subst e1; cases e2; cases e3
  have hb_ : ∀ k, (a1.add k).block = a1.block := fun k => by unfold Addr.add; split <;> rfl
  have ho_ : ∀ k, (a1.add (k + 1)).off = a1.off + (k + 1) := fun k => by
    unfold Addr.add; split <;> simp_all
  exact ⟨a1, c', rfl, by rw [← hb_ 8, ← ho_ 7]; exact x1, by rw [← hb_ 16, ← ho_ 15]; exact x2, by rw [← hb_ 24, ← ho_ 23]; exact x3, hb⟩
theorem fx_blocks (w : World) (P : Nat → Prop) (A : Option Addr) (c : Nat) (hc : 2 ≤ c) (hF : Kd.F k36 w P A 2 smallL) : Calls Try.prog 12 #[.slice A 2 c, .int .i64 0] w fun e w' => e = .returned (.tuple #[.int .i64 1, .int .i64 2, .int .i64 3]) ∧ Below w.heap.size w w' := by
  have h := blocks_any w smallL A c 0 hc (Kd.F_now hF) (by rw [flat_smallL]; decide)
  have e : blocksOf (flat smallL) 0 = (1, 2, 3) := by rw [flat_smallL]; simp [blocksOf, smallF, flat, rd_T36, plain]
  rw [e] at h; exact h
theorem fx_site3 (w : World) (P : Nat → Prop) (A : Option Addr) (c : Nat) (hc : 2 ≤ c) (hF : Kd.F k36 w P A 2 smallL) : Calls Try.prog 10 #[.slice A 2 c, .int .i64 3] w fun e w' => e = .returned (.tuple #[.int .i64 1, .bool true]) ∧ Below w.heap.size w w' := by
  have h := site_any w smallL A c 3 hc (Kd.F_now hF) (by rw [flat_smallL]; decide)
  have e : siteOf (flat smallL) 3 = (1, true) := by rw [flat_smallL]; simp [siteOf, smallF, news, rd_T36, plain]
  rw [e] at h; exact h
theorem fx_site2 (w : World) (P : Nat → Prop) (A : Option Addr) (c : Nat) (hc : 2 ≤ c) (hF : Kd.F k36 w P A 2 smallL) : Calls Try.prog 10 #[.slice A 2 c, .int .i64 2] w fun e w' => e = .returned (.tuple #[.int .i64 0, .bool false]) ∧ Below w.heap.size w w' := by
  have h := site_any w smallL A c 2 hc (Kd.F_now hF) (by rw [flat_smallL]; decide)
  have e : siteOf (flat smallL) 2 = (0, false) := by rw [flat_smallL]; simp [siteOf, smallF, rd_T36, plain]
  rw [e] at h; exact h
theorem fx_sites (w : World) (P : Nat → Prop) (A : Option Addr) (c : Nat) (hc : 2 ≤ c) (hF : Kd.F k36 w P A 2 smallL) : Calls Try.prog 18 #[.slice A 2 c] w fun e w' => e = .returned (.int .i64 2) ∧ Below w.heap.size w w' := by
  have h := sites_any w smallL A c hc (Kd.F_now hF) (by rw [flat_smallL]; decide)
  have e : ((news (flat smallL) : Nat) : Int) = 2 := by rw [flat_smallL]; simp [smallF, news, plain]
  rw [e] at h; exact h
theorem fx_count (w : World) (P : Nat → Prop) (A : Option Addr) (c : Nat) (hc : 2 ≤ c) (hF : Kd.F k36 w P A 2 smallL) : Calls Try.prog 17 #[.slice A 2 c] w fun e w' => e = .returned (.int .i64 4) ∧ Below w.heap.size w w' := by
  have h := count_in w smallL A c hc (Kd.F_now hF) (by rw [flat_smallL]; decide)
  have e : (((flat smallL).length : Nat) : Int) = 4 := by rw [flat_smallL]; simp [smallF]
  rw [e] at h; exact h
theorem fixed_any (w : World) : Calls Try.prog 9 #[] w fun e w' => e = .returned (.bool true) ∧ Below w.heap.size w w' := by
  have HB := Lib.hid (Below.refl w.heap.size w)
  go_enter Try.func9, Try.ntmps9
  go_wp2_with (first
    | (go_at_call 21; with_reducible refine (fx_small _).mono ?_; rintro e w' ⟨A, c, rfl, hc, hF, hb⟩; have HC := Lib.hid hc; have HF := Lib.hid hF; have HB := Lib.hid (HB.out.trans (hb.mono HB.out.size)); (try have d1 := cell_up hb d1); (try have d2 := cell_up hb d2); (try have d3 := cell_up hb d3); clear hb hc hF)
    | (go_at_call 16; with_reducible refine (fx_list _ _ _ _ HC.out HF.out).mono ?_; rintro e w' ⟨ad, c', rfl, d1, d2, d3, hb⟩; have HB := Lib.hid (HB.out.trans (hb.mono HB.out.size)); clear hb)
    | (go_at_call 12; with_reducible refine (fx_blocks _ _ _ _ HC.out HF.out).mono ?_; rintro e w' ⟨rfl, hb⟩; have HB := Lib.hid (HB.out.trans (hb.mono HB.out.size)); (try have d1 := cell_up hb d1); (try have d2 := cell_up hb d2); (try have d3 := cell_up hb d3); clear hb)
    | (go_at_call 10; with_reducible refine (fx_site3 _ _ _ _ HC.out HF.out).mono ?_; rintro e w' ⟨rfl, hb⟩; have HB := Lib.hid (HB.out.trans (hb.mono HB.out.size)); (try have d1 := cell_up hb d1); (try have d2 := cell_up hb d2); (try have d3 := cell_up hb d3); clear hb)
    | (go_at_call 10; with_reducible refine (fx_site2 _ _ _ _ HC.out HF.out).mono ?_; rintro e w' ⟨rfl, hb⟩; have HB := Lib.hid (HB.out.trans (hb.mono HB.out.size)); (try have d1 := cell_up hb d1); (try have d2 := cell_up hb d2); (try have d3 := cell_up hb d3); clear hb)
    | (go_at_call 18; with_reducible refine (fx_sites _ _ _ _ HC.out HF.out).mono ?_; rintro e w' ⟨rfl, hb⟩; have HB := Lib.hid (HB.out.trans (hb.mono HB.out.size)); clear hb)
    | (go_at_call 17; with_reducible refine (fx_count _ _ _ _ HC.out HF.out).mono ?_; rintro e w' ⟨rfl, hb⟩; have HB := Lib.hid (HB.out.trans (hb.mono HB.out.size)); clear hb))
  go_ret
  exact ⟨rfl, HB.out⟩
end Go.Proofs.Ytdifnochnmiagaa.Man
