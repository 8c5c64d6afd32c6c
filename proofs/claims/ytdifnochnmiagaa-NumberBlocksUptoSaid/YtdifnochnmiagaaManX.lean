import Derived.Test.YtdifnochnmiagaaManO
import Derived.Test.YtdifnochnmiagaaRows
import Derived.Test.YtdifnochnmiagaaPr1
import Derived.Test.YtdifnochnmiagaaPr11
namespace Go.Proofs.Ytdifnochnmiagaa.Man
open Go.RowKit Go.Shelf Go.Proofs.Ytdifnochnmiagaa.Pr Go.Proofs.YtdifnochnmiagaaW.PrintWords
set_option linter.unusedVariables false
set_option linter.unusedSimpArgs false

/-! ### What is read of an argument: a value of a kind, and its bulk -/
theorem bulk_pos {H : Type} (d : DataW H) : 1 ≤ Rows.uptoBulk d := by
  cases d with
  | lit l => cases l <;> simp [Rows.uptoBulk]
  | nil => simp [Rows.uptoBulk]
  | ptr d => simp [Rows.uptoBulk]
  | slice elems spare => simp [Rows.uptoBulk]
  | agg parts => simp [Rows.uptoBulk]
  | iface t d => simp [Rows.uptoBulk]
  | map entries => simp [Rows.uptoBulk]
  | held h => simp [Rows.uptoBulk]
theorem bulk_len {H : Type} (l : List (DataW H)) : l.length ≤ Rows.uptoBulkAll l := by
  induction l with
  | nil => simp [Rows.uptoBulkAll]
  | cons x r ih => have := bulk_pos x; simp only [Rows.uptoBulkAll, List.length_cons]; omega
theorem mapM_get {α β : Type} (f : α → Option β) : ∀ (l : List α) (r : List β), l.mapM f = some r → r.length = l.length ∧ ∀ (i : Nat) a, l[i]? = some a → ∃ b, r[i]? = some b ∧ f a = some b := by
  intro l
  induction l with
  | nil => intro r h; simp at h; subst h; exact ⟨rfl, fun i a h => by simp at h⟩
  | cons x l ih =>
    intro r h
    simp only [List.mapM_cons, Option.bind_eq_bind, Option.bind_eq_some_iff, Option.pure_def, Option.some.injEq] at h
    obtain ⟨b, hb, r', hr', rfl⟩ := h
    obtain ⟨h1, h2⟩ := ih r' hr'
    refine ⟨by simp [h1], fun i a ha => ?_⟩
    cases i with
    | zero => simp at ha; subst ha; exact ⟨b, rfl, hb⟩
    | succ i => simpa using h2 i a (by simpa using ha)
theorem cells_get {w : World} {b n : Nat} {a : Addr} {c : List Value} (h : w.cells? b a n = some c) : c.length = n ∧ ∀ (i : Nat) u, c[i]? = some u → w.cell? (a.add i) = some u := by
  unfold World.cells? at h
  split at h
  · obtain ⟨h1, h2⟩ := mapM_get _ _ _ h
    rw [List.length_range] at h1
    refine ⟨h1, fun i u hu => ?_⟩
    have hi : i < n := by rw [← h1]; exact (List.getElem?_eq_some_iff.1 hu).1
    obtain ⟨b, hb, hf⟩ := h2 i i (by simp [hi])
    rw [hu] at hb; cases hb; exact hf
  · cases h
theorem addr_add (a : Addr) (i j : Nat) : a.add (i + j) = (a.add i).add j := by
  unfold Addr.add
  by_cases h1 : i = 0
  · subst h1; simp
  · by_cases h2 : j = 0
    · subst h2; simp [h1]
    · simp [h1, h2, Nat.add_assoc]
theorem bridge_slice {H : Type} {enc : TypeId × Value → H} {w : World} {α : Type} {t e : TypeId} (hu : Try.prog.underlying t = some (.slice e)) (d : Kd α) (z : α) (hsz : Try.prog.cellsOf e = d.sz) (Q : α → Nat → Prop) (fuel : Nat) {held : Bool} {sp : Nat → Bool}
    (hE : ∀ cs (D : DataW H) ps, DataW.trod enc Try.prog w 0 sp held fuel e cs = some (D, ps) → ∃ x, d.K w x cs ∧ Q x (Rows.uptoBulk D)) (cs : List Value) (D : DataW H) (ps : List MemPlace)
    (h : DataW.trod enc Try.prog w 0 sp held (fuel + 1) t cs = some (D, ps)) :
    ∃ (A : Option Addr) (c : Nat) (xs : List α) (Ds : List (DataW H)), cs = [.slice A xs.length c] ∧ xs.length ≤ c ∧ d.C w A xs.length xs ∧ Rows.uptoBulkAll Ds + 1 ≤ Rows.uptoBulk D ∧ xs.length = Ds.length ∧ ∀ (i : Nat) x D', xs[i]? = some x → Ds[i]? = some D' → Q x (Rows.uptoBulk D') := by
  unfold DataW.trod at h
  rw [hu] at h
  split at h <;> rename_i he
  all_goals first | (cases he; done) | skip
  · -- nil
    cases h
    exact ⟨none, 0, [], [], rfl, Nat.le_refl _, Kd.C_nil _ _, by simp [Rows.uptoBulkAll, Rows.uptoBulk], rfl, fun i x D' hx => by simp at hx⟩
  · rename_i e2 a len cap
    cases he
    dsimp only at h
    split at h
    · rename_i hc
      simp only [Option.bind_eq_some_iff, Option.map_eq_some_iff] at h
      obtain ⟨els, hels, rest, _, hD⟩ := h
      simp only [Prod.mk.injEq] at hD
      obtain ⟨rfl, _⟩ := hD
      obtain ⟨hl, hg⟩ := mapM_get _ _ _ hels
      rw [List.length_range] at hl
      have hx : ∀ i, i < len → ∃ cs, cs.length = d.sz ∧ (∀ (j : Nat) u, cs[j]? = some u → w.cell? ((a.add (i * d.sz)).add j) = some u) ∧ ∃ x, d.K w x cs ∧ ∀ q, els[i]? = some q → Q x (Rows.uptoBulk q.1) := by
        intro i hi
        obtain ⟨q, hq, hf⟩ := hg i i (by simp [hi])
        simp only [Option.bind_eq_some_iff] at hf
        obtain ⟨cs, hcs, ht⟩ := hf
        obtain ⟨h1, h2⟩ := cells_get hcs
        obtain ⟨x, hK, hQ⟩ := hE cs q.1 q.2 ht
        rw [hsz] at h1 h2
        exact ⟨cs, h1, h2, x, hK, fun q' hq' => by rw [hq] at hq'; cases hq'; exact hQ⟩
      have hch : ∃ f : Nat → α, ∀ i, i < len → ∃ cs, cs.length = d.sz ∧ (∀ (j : Nat) u, cs[j]? = some u → w.cell? ((a.add (i * d.sz)).add j) = some u) ∧ d.K w (f i) cs ∧ ∀ q, els[i]? = some q → Q (f i) (Rows.uptoBulk q.1) := by
        refine ⟨fun i => if hi : i < len then Classical.choose (Classical.choose_spec (hx i hi)).2.2 else z, fun i hi => ?_⟩
        have hs := Classical.choose_spec (hx i hi)
        refine ⟨Classical.choose (hx i hi), hs.1, hs.2.1, ?_⟩
        simp only [dif_pos hi]
        exact Classical.choose_spec hs.2.2
      obtain ⟨f, hf⟩ := hch
      refine ⟨some a, cap, (List.range len).map f, els.map (·.1), by simp, by simp; exact hc.2.1, ⟨rfl, ?_, fun _ => ⟨a, rfl, fun j p hj => ?_⟩⟩, ?_, by simp [hl], fun i x D' hi hD' => ?_⟩
      · have := hc.2.2; simp [maxLen] at this ⊢; omega
      · simp only [List.getElem?_map, Option.map_eq_some_iff] at hj
        obtain ⟨j', hj', rfl⟩ := hj
        obtain ⟨h1, h2⟩ := List.getElem?_eq_some_iff.1 hj'
        simp at h1 h2; subst h2
        obtain ⟨cs, c1, c2, c3, _⟩ := hf j h1
        refine ⟨cs, c1, c3, fun i u hu => ?_⟩
        rw [← c2 i u hu]
        congr 1
        exact addr_add a _ _
      · simp only [Rows.uptoBulk]; omega
      · simp only [List.getElem?_map, Option.map_eq_some_iff] at hi hD'
        obtain ⟨i', hi', rfl⟩ := hi
        obtain ⟨q, hq, rfl⟩ := hD'
        obtain ⟨h1, h2⟩ := List.getElem?_eq_some_iff.1 hi'
        simp at h1 h2; subst h2
        obtain ⟨cs, c1, c2, c3, c4⟩ := hf i h1
        exact c4 q hq
    · cases h
  all_goals first | (cases h; done) | skip
theorem bridge_int {H : Type} {enc : TypeId × Value → H} {w : World} {t : TypeId} {k : IntKind} (hu : Try.prog.underlying t = some (.int k)) {held : Bool} {sp : Nat → Bool} (fuel : Nat) (cs : List Value) (D : DataW H) (ps : List MemPlace)
    (h : DataW.trod enc Try.prog w 0 sp held fuel t cs = some (D, ps)) : ∃ n, cs = [.int k n] := by
  cases fuel with
  | zero => cases h
  | succ fuel =>
  unfold DataW.trod at h
  rw [hu] at h
  split at h <;> rename_i he
  all_goals first | (cases he; done) | skip
  · rename_i k2 k3 n
    cases he
    split at h
    · rename_i hk; exact ⟨n, by rw [hk.1]⟩
    · cases h
  all_goals first | (cases h; done) | skip
theorem bridge_string {H : Type} {enc : TypeId × Value → H} {w : World} {t : TypeId} (hu : Try.prog.underlying t = some .string) {held : Bool} {sp : Nat → Bool} (fuel : Nat) (cs : List Value) (D : DataW H) (ps : List MemPlace)
    (h : DataW.trod enc Try.prog w 0 sp held fuel t cs = some (D, ps)) : ∃ s, cs = [.string s] ∧ s.size ≤ Rows.uptoBulk D := by
  cases fuel with
  | zero => cases h
  | succ fuel =>
  unfold DataW.trod at h
  rw [hu] at h
  split at h <;> rename_i he
  all_goals first | (cases he; done) | skip
  · rename_i s
    split at h
    · cases h
      exact ⟨s, rfl, by simp only [Rows.uptoBulk]; have e : s.data.toList.length = s.size := by rw [Array.length_toList]; rfl
                        omega⟩
    · cases h
  all_goals first | (cases h; done) | skip
theorem bridge_struct {H : Type} {enc : TypeId × Value → H} {w : World} {t : TypeId} {fs : Array Field} (hu : Try.prog.underlying t = some (.struct fs)) {held : Bool} {sp : Nat → Bool} (fuel : Nat) (cs : List Value) (D : DataW H) (ps : List MemPlace)
    (h : DataW.trod enc Try.prog w 0 sp held (fuel + 1) t cs = some (D, ps)) : cs.length = Try.prog.cellsOf t ∧ ∃ Ds, Rows.uptoBulk D = Rows.uptoBulkAll Ds + 1 ∧ Ds.length = fs.size ∧
      ∀ (i : Nat) f, fs[i]? = some f → ∃ D' p', Ds[i]? = some D' ∧ DataW.trod enc Try.prog w 0 sp held fuel f.type ((cs.drop f.offset).take (Try.prog.cellsOf f.type)) = some (D', p') := by
  unfold DataW.trod at h
  rw [hu] at h
  split at h <;> rename_i he
  all_goals first | (cases he; done) | skip
  · rename_i fs'
    cases he
    split at h
    · rename_i hc
      simp only [Option.map_eq_some_iff, Prod.mk.injEq] at h
      obtain ⟨xs, hxs, rfl, _⟩ := h
      obtain ⟨h1, h2⟩ := mapM_get _ _ _ hxs
      refine ⟨hc, xs.map (·.1), by simp [Rows.uptoBulk], by simpa using h1, fun i f hf => ?_⟩
      obtain ⟨q, hq, ht⟩ := h2 i f (by simpa using hf)
      exact ⟨q.1, q.2, by simp [hq], ht⟩
    · cases h
  all_goals exact absurd rfl ((by assumption : ∀ fs' : Array Field, some (TypeDesc.struct fs) = some (TypeDesc.struct fs') → False) _)

/-! ### A statement list, and what its bulk bounds -/
def Fit (l : List S36) (n : Nat) : Prop := (flat l).length ≤ n ∧ ∀ s ∈ flat l, s.f4.length ≤ n ∧ s.f5.length ≤ n ∧ s.f6.length ≤ n ∧ s.f7.length ≤ n
theorem Fit.mono {l : List S36} {n m : Nat} (h : Fit l n) (hm : n ≤ m) : Fit l m :=
  ⟨Nat.le_trans h.1 hm, fun s hs => by have := h.2 s hs; omega⟩
theorem flat_cons (s : S36) (r : List S36) : flat (s :: r) = s :: (flat s.f6 ++ (flat s.f7 ++ flat r)) := by rw [flat]
theorem Fit.cons {s : S36} {r : List S36} {n m : Nat} (h : Fit [s] n) (hr : Fit r m) : Fit (s :: r) (n + m) := by
  have e : flat (s :: r) = flat [s] ++ flat r := by rw [flat_cons, flat_cons]; simp [flat]
  unfold Fit
  rw [e]
  refine ⟨by rw [List.length_append]; have := h.1; have := hr.1; omega, fun x hx => ?_⟩
  rcases List.mem_append.1 hx with hx | hx
  · have := h.2 x hx; omega
  · have := hr.2 x hx; omega
theorem fit_list (l : List S36) {H : Type} (Ds : List (DataW H)) (hl : l.length = Ds.length) (h : ∀ (i : Nat) x D', l[i]? = some x → Ds[i]? = some D' → Fit [x] (Rows.uptoBulk D')) : Fit l (Rows.uptoBulkAll Ds) := by
  induction l generalizing Ds with
  | nil => exact ⟨by simp [flat], fun s hs => by simp [flat] at hs⟩
  | cons x r ih =>
    cases Ds with
    | nil => simp at hl
    | cons D Ds => exact Fit.cons (h 0 x D rfl rfl) (ih Ds (by simpa using hl) (fun i y D' h1 h2 => h (i + 1) y D' (by simpa using h1) (by simpa using h2)))
end Go.Proofs.Ytdifnochnmiagaa.Man
namespace Go.Proofs.Ytdifnochnmiagaa.Man
open Go.RowKit Go.Shelf Go.Proofs.Ytdifnochnmiagaa.Pr Go.Proofs.YtdifnochnmiagaaW.PrintWords
set_option linter.unusedVariables false
set_option linter.unusedSimpArgs false

theorem cellsT_int : Try.prog.cellsOf 3 = 1 := by kernel_rfl
theorem cellsT_string : Try.prog.cellsOf 9 = 1 := by kernel_rfl
theorem cellsT_operand : Try.prog.cellsOf 49 = 3 := by kernel_rfl
theorem cellsT_operands : Try.prog.cellsOf 33 = 1 := by kernel_rfl
theorem cellsT_strings : Try.prog.cellsOf 34 = 1 := by kernel_rfl
theorem cellsT_stmts : Try.prog.cellsOf 22 = 1 := by kernel_rfl
theorem cellsT_stmt : Try.prog.cellsOf 36 = 8 := by kernel_rfl

theorem bridge_operand {H : Type} {enc : TypeId × Value → H} {w : World} {held : Bool} {sp : Nat → Bool} (fuel : Nat) (cs : List Value) (D : DataW H) (ps : List MemPlace)
    (h : DataW.trod enc Try.prog w 0 sp held fuel 49 cs = some (D, ps)) : ∃ x, k49.K w x cs ∧ 0 ≤ Rows.uptoBulk D := by
  cases fuel with
  | zero => cases h
  | succ fuel =>
  obtain ⟨hl, Ds, hb, hn, hf⟩ := bridge_struct Try.underlying49 fuel cs D ps h
  rw [cellsT_operand] at hl
  obtain ⟨a, b, c, rfl⟩ : ∃ a b c, cs = [a, b, c] := by
    match cs, hl with
    | [a, b, c], _ => exact ⟨a, b, c, rfl⟩
  obtain ⟨D0, p0, g0, t0⟩ := hf 0 _ rfl
  obtain ⟨D1, p1, g1, t1⟩ := hf 1 _ rfl
  obtain ⟨D2, p2, g2, t2⟩ := hf 2 _ rfl
  simp only [List.getElem_toArray, List.getElem_cons_zero, List.getElem_cons_succ, cellsT_int, cellsT_string, List.drop_zero, List.drop_succ_cons, List.take_succ_cons, List.take_zero] at t0 t1 t2
  obtain ⟨n0, e0⟩ := bridge_int Try.underlying3 _ _ _ _ t0
  obtain ⟨n1, e1⟩ := bridge_int Try.underlying3 _ _ _ _ t1
  obtain ⟨s2, e2, _⟩ := bridge_string Try.underlying9 _ _ _ _ t2
  cases e0; cases e1; cases e2
  exact ⟨⟨n0, n1, s2⟩, k49_mk w ⟨n0, n1, s2⟩, Nat.zero_le _⟩
theorem bridge_str1 {H : Type} {enc : TypeId × Value → H} {w : World} {held : Bool} {sp : Nat → Bool} (fuel : Nat) (cs : List Value) (D : DataW H) (ps : List MemPlace)
    (h : DataW.trod enc Try.prog w 0 sp held fuel 9 cs = some (D, ps)) : ∃ x, Kd.string.K w x cs ∧ 0 ≤ Rows.uptoBulk D := by
  obtain ⟨s, rfl, _⟩ := bridge_string Try.underlying9 _ _ _ _ h
  exact ⟨s, rfl, Nat.zero_le _⟩
theorem bridge_stmt {H : Type} {enc : TypeId × Value → H} {w : World} {held : Bool} {sp : Nat → Bool} (fuel : Nat) : ∀ (cs : List Value) (D : DataW H) (ps : List MemPlace)
    (h : DataW.trod enc Try.prog w 0 sp held fuel 36 cs = some (D, ps)), ∃ x, k36.K w x cs ∧ Fit [x] (Rows.uptoBulk D) := by
  induction fuel using Nat.strongRecOn with
  | _ fuel ih =>
  intro cs D ps h
  cases fuel with
  | zero => cases h
  | succ fuel =>
  obtain ⟨hl, Ds, hb, hn, hf⟩ := bridge_struct Try.underlying36 fuel cs D ps h
  rw [cellsT_stmt] at hl
  obtain ⟨a, b, c, d, e, f, g, i, rfl⟩ : ∃ a b c d e f g i, cs = [a, b, c, d, e, f, g, i] := by
    match cs, hl with
    | [a, b, c, d, e, f, g, i], _ => exact ⟨a, b, c, d, e, f, g, i, rfl⟩
  obtain ⟨D0, p0, g0, t0⟩ := hf 0 _ rfl
  obtain ⟨D1, p1, g1, t1⟩ := hf 1 _ rfl
  obtain ⟨D2, p2, g2, t2⟩ := hf 2 _ rfl
  obtain ⟨D3, p3, g3, t3⟩ := hf 3 _ rfl
  obtain ⟨D4, p4, g4, t4⟩ := hf 4 _ rfl
  obtain ⟨D5, p5, g5, t5⟩ := hf 5 _ rfl
  obtain ⟨D6, p6, g6, t6⟩ := hf 6 _ rfl
  obtain ⟨D7, p7, g7, t7⟩ := hf 7 _ rfl
  simp only [List.getElem_toArray, List.getElem_cons_zero, List.getElem_cons_succ, cellsT_int, cellsT_string, cellsT_operands, cellsT_strings, cellsT_stmts, List.drop_zero, List.drop_succ_cons, List.take_succ_cons, List.take_zero] at t0 t1 t2 t3 t4 t5 t6 t7
  cases fuel with
  | zero => cases t0
  | succ fuel =>
  obtain ⟨n0, e0⟩ := bridge_int Try.underlying3 _ _ _ _ t0
  obtain ⟨s1, e1, _⟩ := bridge_string Try.underlying9 _ _ _ _ t1
  obtain ⟨s2, e2, _⟩ := bridge_string Try.underlying9 _ _ _ _ t2
  obtain ⟨s3, e3, _⟩ := bridge_string Try.underlying9 _ _ _ _ t3
  obtain ⟨A4, c4, l4, D4s, e4, m4, q4, b4, n4, _⟩ := bridge_slice Try.underlying33 k49 z49 cellsT_operand (fun _ _ => True) fuel (fun cs D ps h => by obtain ⟨x, hx, _⟩ := bridge_operand fuel cs D ps h; exact ⟨x, hx, trivial⟩) _ _ _ t4
  obtain ⟨A5, c5, l5, D5s, e5, m5, q5, b5, n5, _⟩ := bridge_slice Try.underlying34 Kd.string (⟨#[]⟩ : ByteArray) cellsT_string (fun _ _ => True) fuel (fun cs D ps h => by obtain ⟨x, hx, _⟩ := bridge_str1 fuel cs D ps h; exact ⟨x, hx, trivial⟩) _ _ _ t5
  obtain ⟨A6, c6, l6, D6s, e6, m6, q6, b6, n6, f6⟩ := bridge_slice Try.underlying22 k36 z36 cellsT_stmt (fun x n => Fit [x] n) fuel (fun cs D ps h => ih fuel (by omega) cs D ps h) _ _ _ t6
  obtain ⟨A7, c7, l7, D7s, e7, m7, q7, b7, n7, f7⟩ := bridge_slice Try.underlying22 k36 z36 cellsT_stmt (fun x n => Fit [x] n) fuel (fun cs D ps h => ih fuel (by omega) cs D ps h) _ _ _ t7
  cases e0; cases e1; cases e2; cases e3; cases e4; cases e5; cases e6; cases e7
  have F6 := fit_list l6 D6s n6 f6
  have F7 := fit_list l7 D7s n7 f7
  refine ⟨⟨n0, s1, s2, s3, l4, l5, l6, l7⟩, k36_mk w ⟨n0, s1, s2, s3, l4, l5, l6, l7⟩ m4 q4 m5 q5 m6 q6 m7 q7, ?_⟩
  have B4 := bulk_len D4s
  have B5 := bulk_len D5s
  have B6 := bulk_len D6s
  have B7 := bulk_len D7s
  have hsum : Rows.uptoBulk D4 + Rows.uptoBulk D5 + Rows.uptoBulk D6 + Rows.uptoBulk D7 + 1 ≤ Rows.uptoBulk D := by
    rw [hb]
    obtain ⟨x0, x1, x2, x3, x4, x5, x6, x7, rfl⟩ : ∃ x0 x1 x2 x3 x4 x5 x6 x7, Ds = [x0, x1, x2, x3, x4, x5, x6, x7] := by
      match Ds, hn with
      | [x0, x1, x2, x3, x4, x5, x6, x7], _ => exact ⟨x0, x1, x2, x3, x4, x5, x6, x7, rfl⟩
    cases g4; cases g5; cases g6; cases g7
    simp only [Rows.uptoBulkAll]; omega
  unfold Fit
  rw [flat_cons]
  simp only [flat, List.append_nil, List.length_cons, List.length_append, List.mem_cons, List.mem_append]
  refine ⟨by have := F6.1; have := F7.1; omega, fun x hx => ?_⟩
  rcases hx with rfl | hx | hx
  · simp only; omega
  · have := F6.2 x hx; omega
  · have := F7.2 x hx; omega
end Go.Proofs.Ytdifnochnmiagaa.Man
namespace Go.Proofs.Ytdifnochnmiagaa.Man
open Go.RowKit Go.Shelf Go.Proofs.Ytdifnochnmiagaa.Pr Go.Proofs.YtdifnochnmiagaaW.PrintWords
set_option linter.unusedVariables false
set_option linter.unusedSimpArgs false

/-! ### With enough rounds, and from there on -/
def Ev {α : Type} (f : Nat → Option α) (r : α) : Prop := ∃ k, ∀ k', k ≤ k' → f k' = some r
theorem Ev.const {α : Type} (r : α) : Ev (fun _ => some r) r := ⟨0, fun _ _ => rfl⟩
theorem Ev.bind {α β : Type} {f : Nat → Option α} {g : Nat → α → Option β} {a : α} {b : β} (h : Ev f a) (h2 : Ev (fun k => g k a) b) : Ev (fun k => (f k).bind (g k)) b := by
  obtain ⟨k1, e1⟩ := h
  obtain ⟨k2, e2⟩ := h2
  exact ⟨max k1 k2, fun k' hk => by show (f k').bind (g k') = some b; rw [e1 k' (by omega)]; exact e2 k' (by omega)⟩
theorem Ev.succ {α : Type} {f g : Nat → Option α} {r : α} (h : Ev g r) (hs : ∀ k, f (k + 1) = g k) : Ev f r := by
  obtain ⟨k, e⟩ := h
  exact ⟨k + 1, fun k' hk => by obtain ⟨j, rfl⟩ : ∃ j, k' = j + 1 := ⟨k' - 1, by omega⟩; rw [hs]; exact e j (by omega)⟩
theorem Ev.ext {α : Type} {f g : Nat → Option α} {r : α} (h : Ev g r) (hs : ∀ k, f k = g k) : Ev f r := by
  obtain ⟨k, e⟩ := h
  exact ⟨k, fun k' hk => by rw [hs]; exact e k' hk⟩
theorem rd_mem {l : List S36} {i : Nat} (h : i < l.length) : rd_T36 l (i : Int) ∈ l := by
  unfold rd_T36; simp [List.getD, h]
theorem step64 {i n : Nat} (h : i < n) (hn : n ≤ 4611686018427387904) : wrap64 ((i : Int) + 1) = ((i + 1 : Nat) : Int) := by simp only [wrap64]; omega

theorem Ev.step {α : Type} {f : Nat → Option α} {r : α} (h : Ev (fun k => f (k + 1)) r) : Ev f r := h.succ (fun _ => rfl)
theorem stmt_eta (x : S36) : (⟨x.f0, x.f1, x.f2, x.f3, x.f4, x.f5, x.f6, x.f7⟩ : S36) = x := by cases x; rfl
theorem deep_ev (n : Nat) : ∀ (l : List S36), (flat l).length ≤ n → tame l → ∀ d : Int, ∃ r, Ev (fun k => proteanref03_Deep.f k l d) r := by
  induction n using Nat.strongRecOn with
  | _ n ih =>
  intro l hn ht d
  have hl := ht.1
  have main : ∀ m i : Nat, i + m = l.length → ∀ x5 : Int, ∃ r, Ev (fun k => proteanref03_Deep.l0 k l d x5 (i : Int)) r := by
    intro m
    induction m with
    | zero =>
      intro i hi x5
      have h1 : ¬ (i : Int) < (l.length : Int) := by omega
      refine ⟨x5, Ev.step (Ev.step ?_)⟩
      simp only [proteanref03_Deep.l0, proteanref03_Deep.j1, if_neg h1, Bool.false_eq_true, if_false]
      exact Ev.const _
    | succ m ihm =>
      intro i hi x5
      have h1 : (i : Int) < (l.length : Int) := by omega
      have h0 : 0 ≤ (i : Int) := by omega
      by_cases hd : d > 0
      · have hm := rd_mem (l := l) (i := i) (by omega)
        have hf := flat_small hm
        have hts := tame_sub ht hm
        obtain ⟨r6, e6⟩ := ih _ (by omega) (rd_T36 l (i : Int)).f6 (Nat.le_refl _) hts.1 (wrap64 (d - 1))
        obtain ⟨r7, e7⟩ := ih _ (by omega) (rd_T36 l (i : Int)).f7 (Nat.le_refl _) hts.2 (wrap64 (d - 1))
        obtain ⟨r, e⟩ := ihm (i + 1) (by omega) (mx x5 (wrap64 (1 + mx r6 r7)))
        have h2 := step64 (i := i) (n := l.length) (by omega) hl
        refine ⟨r, Ev.step (Ev.step ?_)⟩
        simp only [proteanref03_Deep.l0, proteanref03_Deep.j1, if_pos h1, if_pos h0, decide_eq_true hd, if_true, h2]
        exact Ev.bind e6 (Ev.bind e7 e)
      · refine ⟨x5, Ev.step (Ev.step ?_)⟩
        simp only [proteanref03_Deep.l0, proteanref03_Deep.j1, if_pos h1, decide_eq_false hd, Bool.false_eq_true, if_false]
        exact Ev.const _
  obtain ⟨r, e⟩ := main l.length 0 (by omega) 0
  refine ⟨r, Ev.step ?_⟩
  simp only [proteanref03_Deep.f]
  exact e
theorem count_ev (n : Nat) : ∀ (l : List S36), (flat l).length ≤ n → tame l → ∃ r, Ev (fun k => proteanref03_Count.f k l) r := by
  induction n using Nat.strongRecOn with
  | _ n ih =>
  intro l hn ht
  have hl := ht.1
  have main : ∀ m i : Nat, i + m = l.length → ∀ x3 : Int, ∃ r, Ev (fun k => proteanref03_Count.l0 k l x3 (i : Int)) r := by
    intro m
    induction m with
    | zero =>
      intro i hi x3
      have h1 : ¬ (i : Int) < (l.length : Int) := by omega
      refine ⟨x3, Ev.step ?_⟩
      simp only [proteanref03_Count.l0, if_neg h1]
      exact Ev.const _
    | succ m ihm =>
      intro i hi x3
      have h1 : (i : Int) < (l.length : Int) := by omega
      have h0 : 0 ≤ (i : Int) := by omega
      have hm := rd_mem (l := l) (i := i) (by omega)
      have hf := flat_small hm
      have hts := tame_sub ht hm
      obtain ⟨r6, e6⟩ := ih _ (by omega) (rd_T36 l (i : Int)).f6 (Nat.le_refl _) hts.1
      obtain ⟨r7, e7⟩ := ih _ (by omega) (rd_T36 l (i : Int)).f7 (Nat.le_refl _) hts.2
      obtain ⟨r, e⟩ := ihm (i + 1) (by omega) (wrap64 (x3 + wrap64 (r6 + r7)))
      have h2 := step64 (i := i) (n := l.length) (by omega) hl
      refine ⟨r, Ev.step ?_⟩
      simp only [proteanref03_Count.l0, if_pos h1, if_pos h0, h2]
      exact Ev.bind e6 (Ev.bind e7 e)
  obtain ⟨r, e⟩ := main l.length 0 (by omega) (l.length : Int)
  refine ⟨r, Ev.step ?_⟩
  simp only [proteanref03_Count.f]
  exact e
theorem isDeep_ev (l : List S36) (ht : tame l) : ∃ r, Ev (fun k => proteanlaw04_deep.f k l) r := by
  obtain ⟨rd, ed⟩ := deep_ev _ l (Nat.le_refl _) ht 60
  obtain ⟨rc, ec⟩ := count_ev _ l (Nat.le_refl _) ht
  have e2 : ∀ x, ∃ r, Ev (fun k => proteanref03_Big.l0 k x 1 [(⟨⟨#[]⟩, [], l⟩ : S39)]) r := by
    intro x
    have h1 : ¬ (1 : Int) < (([(⟨⟨#[]⟩, [], l⟩ : S39)].length : Nat) : Int) := by simp
    by_cases h : x > 3000
    · refine ⟨true, Ev.step ?_⟩
      simp only [proteanref03_Big.l0, if_neg h1, if_pos h]
      exact Ev.const _
    · refine ⟨decide ((([(⟨⟨#[]⟩, [], l⟩ : S39)].length : Nat) : Int) > 1000), Ev.step ?_⟩
      simp only [proteanref03_Big.l0, if_neg h1, if_neg h]
      exact Ev.const _
  have h1 : (0 : Int) < (([(⟨⟨#[]⟩, [], l⟩ : S39)].length : Nat) : Int) := by simp
  have h2 : rd_T39 [(⟨⟨#[]⟩, [], l⟩ : S39)] 0 = ⟨⟨#[]⟩, [], l⟩ := rfl
  have h3 : wrap64 ((0 : Int) + 1) = 1 := by simp [wrap64]
  have e1 : ∃ r, Ev (fun k => proteanref03_Big.l0 k 0 0 [(⟨⟨#[]⟩, [], l⟩ : S39)]) r := by
    by_cases h : rd ≥ 60
    · refine ⟨true, Ev.step ?_⟩
      simp only [proteanref03_Big.l0, if_pos h1, h2, if_pos (Int.le_refl 0)]
      refine Ev.bind ed ?_
      simp only [if_pos h]
      exact Ev.const _
    · obtain ⟨r, e⟩ := e2 (wrap64 (0 + wrap64 (rc + (([] : List ByteArray).length : Nat))))
      refine ⟨r, Ev.step ?_⟩
      simp only [proteanref03_Big.l0, if_pos h1, h2, if_pos (Int.le_refl 0), h3]
      refine Ev.bind ed ?_
      simp only [if_neg h]
      exact Ev.bind ec e
  obtain ⟨r1, e1⟩ := e1
  exact ⟨r1, Ev.bind e1 (Ev.const r1)⟩
theorem len_flat (l : List S36) : l.length ≤ (flat l).length := by
  induction l with
  | nil => simp
  | cons x r ih => rw [flat_cons]; simp only [List.length_cons, List.length_append]; omega
/-- The document's list is the preorder. -/
theorem list_ev (n : Nat) : ∀ (l : List S36), (flat l).length ≤ n → n ≤ 900000000000 → Ev (fun k => proteanref04_List.f k l) (flat l) := by
  induction n using Nat.strongRecOn with
  | _ n ih =>
  intro l hn hN
  have hll : l.length ≤ (flat l).length := len_flat l
  have main : ∀ m i : Nat, i + m = l.length → Ev (fun k => proteanref04_List.l0 k l (flat (l.take i)) (i : Int)) (flat l) := by
    intro m
    induction m with
    | zero =>
      intro i hi
      have h1 : ¬ (i : Int) < (l.length : Int) := by omega
      refine Ev.step ?_
      simp only [proteanref04_List.l0, if_neg h1]
      rw [List.take_of_length_le (by omega)]
      exact Ev.const _
    | succ m ihm =>
      intro i hi
      have h1 : (i : Int) < (l.length : Int) := by omega
      have h0 : 0 ≤ (i : Int) := by omega
      have hm := rd_mem (l := l) (i := i) (by omega)
      have hf := flat_small hm
      have e6 := ih _ (by omega) (rd_T36 l (i : Int)).f6 (Nat.le_refl _) (by omega)
      have e7 := ih _ (by omega) (rd_T36 l (i : Int)).f7 (Nat.le_refl _) (by omega)
      have e := ihm (i + 1) (by omega)
      have h2 := step64 (i := i) (n := l.length) (by omega) (by omega)
      have ht : flat (l.take (i + 1)) = flat (l.take i) ++ [rd_T36 l (i : Int)] ++ flat (rd_T36 l (i : Int)).f6 ++ flat (rd_T36 l (i : Int)).f7 := by
        have hti : l.take (i + 1) = l.take i ++ [rd_T36 l (i : Int)] := by
          rw [List.take_succ_eq_append_getElem (by omega)]
          congr 2
          unfold rd_T36; simp [List.getD, show i < l.length by omega]
        rw [hti, flat_append, flat_cons]
        simp [flat]
      have hle : (flat (l.take (i + 1))).length ≤ (flat l).length := by
        conv => rhs; rw [← List.take_append_drop (i + 1) l, flat_append]
        rw [List.length_append]; omega
      rw [ht] at hle e
      simp only [List.length_append, List.length_cons, List.length_nil] at hle
      have b1 : (flat (l.take i)).length < 925904528653 := by omega
      have b2 : (flat (l.take i) ++ [rd_T36 l (i : Int)]).length + (flat (rd_T36 l (i : Int)).f6).length < 925904528653 := by simp; omega
      have b3 : (flat (l.take i) ++ [rd_T36 l (i : Int)] ++ flat (rd_T36 l (i : Int)).f6).length + (flat (rd_T36 l (i : Int)).f7).length < 925904528653 := by simp; omega
      refine Ev.step ?_
      have he : (⟨(rd_T36 l (i : Int)).f0, (rd_T36 l (i : Int)).f1, (rd_T36 l (i : Int)).f2, (rd_T36 l (i : Int)).f3, (rd_T36 l (i : Int)).f4, (rd_T36 l (i : Int)).f5, (rd_T36 l (i : Int)).f6, (rd_T36 l (i : Int)).f7⟩ : S36) = rd_T36 l (i : Int) := stmt_eta _
      simp only [proteanref04_List.l0, if_pos h1, if_pos h0, if_pos b1, h2, Option.bind_some, he]
      refine Ev.bind e6 ?_
      simp only [if_pos b2]
      refine Ev.bind e7 ?_
      simp only [if_pos b3]
      exact e
  refine Ev.step ?_
  simp only [proteanref04_List.f]
  have := main l.length 0 (by omega)
  simpa [flat] using this
end Go.Proofs.Ytdifnochnmiagaa.Man
namespace Go.Proofs.Ytdifnochnmiagaa.Man
open Go.RowKit Go.Shelf Go.Proofs.Ytdifnochnmiagaa.Pr Go.Proofs.YtdifnochnmiagaaW.PrintWords
set_option linter.unusedVariables false
set_option linter.unusedSimpArgs false

theorem take_rd (l : List S36) (i : Nat) (h : i < l.length) : l.take (i + 1) = l.take i ++ [rd_T36 l (i : Int)] := by
  rw [List.take_succ_eq_append_getElem h]
  congr 2
  unfold rd_T36; simp [List.getD, h]
theorem news_take (l : List S36) (i : Nat) (h : i < l.length) : ((news (l.take (i + 1)) : Nat) : Int) = if (rd_T36 l (i : Int)).f0 = 4 then ((news (l.take i) : Nat) : Int) + 1 else ((news (l.take i) : Nat) : Int) := by
  rw [take_rd l i h, news_snoc]
  by_cases h4 : (rd_T36 l (i : Int)).f0 = 4
  · simp [h4]
  · simp [h4]
theorem newsw (l : List S36) (i : Nat) (h : i < l.length) (hl : l.length ≤ 900000000000) : wrap64 (((news (l.take i) : Nat) : Int) + 1) = ((news (l.take i) : Nat) : Int) + 1 := by
  have := news_le (l.take i)
  rw [List.length_take] at this
  simp only [wrap64]; omega
theorem sitesL_ev (L : List S36) (hL : L.length ≤ 900000000000) : ∀ m i : Nat, i + m = L.length → Ev (fun k => proteanref04_Sites.l0 k L ((news (L.take i) : Nat) : Int) (i : Int)) ((news L : Nat) : Int) := by
  intro m
  induction m with
  | zero =>
    intro i hi
    have h1 : ¬ (i : Int) < (L.length : Int) := by omega
    refine Ev.step ?_
    simp only [proteanref04_Sites.l0, if_neg h1]
    rw [List.take_of_length_le (by omega)]
    exact Ev.const _
  | succ m ih =>
    intro i hi
    have h1 : (i : Int) < (L.length : Int) := by omega
    have h0 : 0 ≤ (i : Int) := by omega
    have e := ih (i + 1) (by omega)
    have h2 := step64 (i := i) (n := L.length) (by omega) (by omega)
    rw [news_take L i (by omega)] at e
    refine Ev.step ?_
    by_cases h4 : (rd_T36 L (i : Int)).f0 = 4
    · rw [if_pos h4] at e
      simp only [proteanref04_Sites.l0, if_pos h1, if_pos h0, if_pos h4, h2, newsw L i (by omega) hL]
      exact e
    · rw [if_neg h4] at e
      simp only [proteanref04_Sites.l0, if_pos h1, if_pos h0, if_neg h4, h2]
      exact e
theorem sites_ev (l : List S36) (hN : (flat l).length ≤ 900000000000) : Ev (fun k => proteanref04_Sites.f k l) ((news (flat l) : Nat) : Int) := by
  have e := sitesL_ev (flat l) hN (flat l).length 0 (by omega)
  exact Ev.bind (list_ev _ l (Nat.le_refl _) hN) (by simpa [news] using e)
theorem siteL_ev (L : List S36) (n : Int) (hn : n < L.length) (h0 : 0 ≤ n) (hL : L.length ≤ 900000000000) : ∀ m i : Nat, i + m = n.toNat → Ev (fun k => proteanref04_Site.l0 k n L ((news (L.take i) : Nat) : Int) (i : Int)) (((news (L.take n.toNat) : Nat) : Int), true) := by
  intro m
  induction m with
  | zero =>
    intro i hi
    have h1 : ¬ (i : Int) < n := by omega
    refine Ev.step ?_
    simp only [proteanref04_Site.l0, if_neg h1]
    rw [show i = n.toNat by omega]
    exact Ev.const _
  | succ m ih =>
    intro i hi
    have h1 : (i : Int) < n := by omega
    have h1' : (i : Int) < (L.length : Int) := by omega
    have h0 : 0 ≤ (i : Int) := by omega
    have e := ih (i + 1) (by omega)
    have h2 := step64 (i := i) (n := L.length) (by omega) (by omega)
    rw [news_take L i (by omega)] at e
    refine Ev.step ?_
    by_cases h4 : (rd_T36 L (i : Int)).f0 = 4
    · rw [if_pos h4] at e
      simp only [proteanref04_Site.l0, if_pos h1, if_pos h1', if_pos h0, if_pos h4, h2, newsw L i (by omega) hL]
      exact e
    · rw [if_neg h4] at e
      simp only [proteanref04_Site.l0, if_pos h1, if_pos h1', if_pos h0, if_neg h4, h2]
      exact e
theorem site_ev (l : List S36) (n : Int) (hN : (flat l).length ≤ 900000000000) : Ev (fun k => proteanref04_Site.f k l n) (siteOf (flat l) n) := by
  have el := list_ev _ l (Nat.le_refl _) hN
  by_cases hlo : n < 0
  · refine Ev.bind el ?_
    simp only [if_pos hlo]
    refine Ev.step ?_
    simp only [proteanref04_Site.j0, if_true]
    rw [show siteOf (flat l) n = (0, false) from by unfold siteOf; rw [if_neg (by omega)]]
    exact Ev.const _
  · by_cases hhi : n ≥ ((flat l).length : Int)
    · refine Ev.bind el ?_
      simp only [if_neg hlo, if_pos hhi]
      refine Ev.step ?_
      simp only [proteanref04_Site.j0, if_true]
      rw [show siteOf (flat l) n = (0, false) from by unfold siteOf; rw [if_neg (by omega)]]
      exact Ev.const _
    · have h0 : 0 ≤ n := by omega
      have h1 : n < ((flat l).length : Int) := by omega
      refine Ev.bind el ?_
      simp only [if_neg hlo, if_neg hhi, if_pos h0, if_pos h1]
      by_cases h4 : (rd_T36 (flat l) n).f0 = 4
      · have h4b : ((rd_T36 (flat l) n).f0 != 4) = false := by simpa using h4
        refine Ev.step ?_
        simp only [proteanref04_Site.j0, h4b, Bool.false_eq_true, if_false]
        rw [show siteOf (flat l) n = (((news ((flat l).take n.toNat) : Nat) : Int), true) from by unfold siteOf; rw [if_pos ⟨h0, h1, h4⟩]]
        have e := siteL_ev (flat l) n h1 h0 hN n.toNat 0 (by omega)
        simpa [news] using e
      · have h4b : ((rd_T36 (flat l) n).f0 != 4) = true := by simpa using h4
        refine Ev.step ?_
        simp only [proteanref04_Site.j0, h4b, if_true]
        rw [show siteOf (flat l) n = (0, false) from by unfold siteOf; rw [if_neg (by rintro ⟨_, _, h⟩; exact h4 h)]]
        exact Ev.const _
theorem rd_in (L : List S36) (n : Int) (h0 : 0 ≤ n) (h1 : n < L.length) : rd_T36 L n ∈ L := by
  have := rd_mem (l := L) (i := n.toNat) (by omega)
  rwa [show ((n.toNat : Nat) : Int) = n from by omega] at this
theorem blocks_ev (l : List S36) (n : Int) (hN : (flat l).length ≤ 900000000000) : Ev (fun k => proteanref04_Blocks.f k l n) (blocksOf (flat l) n) := by
  have el := list_ev _ l (Nat.le_refl _) hN
  by_cases hlo : n < 0
  · refine Ev.bind el ?_
    simp only [if_pos hlo]
    refine Ev.step ?_
    simp only [proteanref04_Blocks.j0, if_true]
    rw [show blocksOf (flat l) n = (-1, -1, -1) from by unfold blocksOf; rw [if_neg (by omega)]]
    exact Ev.const _
  · by_cases hhi : n ≥ ((flat l).length : Int)
    · refine Ev.bind el ?_
      simp only [if_neg hlo, decide_eq_true hhi]
      refine Ev.step ?_
      simp only [proteanref04_Blocks.j0, if_true]
      rw [show blocksOf (flat l) n = (-1, -1, -1) from by unfold blocksOf; rw [if_neg (by omega)]]
      exact Ev.const _
    · have h0 : 0 ≤ n := by omega
      have h1 : n < ((flat l).length : Int) := by omega
      have hs := flat_sub l _ (rd_in (flat l) n h0 h1)
      have e6 := list_ev _ (rd_T36 (flat l) n).f6 (Nat.le_refl _) (by omega)
      have e7 := list_ev _ (rd_T36 (flat l) n).f7 (Nat.le_refl _) (by omega)
      refine Ev.bind el ?_
      simp only [if_neg hlo, decide_eq_false hhi]
      refine Ev.step ?_
      simp only [proteanref04_Blocks.j0, Bool.false_eq_true, if_false, if_pos h0, if_pos h1]
      refine Ev.bind e6 (Ev.bind e7 ?_)
      rw [show blocksOf (flat l) n = _ from by unfold blocksOf; rw [if_pos ⟨h0, h1⟩]]
      have w1 : wrap64 (n + 1) = n + 1 := by simp only [wrap64]; omega
      have w2 : wrap64 (n + 1 + ((flat (rd_T36 (flat l) n).f6).length : Nat)) = n + 1 + ((flat (rd_T36 (flat l) n).f6).length : Nat) := by simp only [wrap64]; omega
      have w3 : wrap64 (n + 1 + ((flat (rd_T36 (flat l) n).f6).length : Nat) + ((flat (rd_T36 (flat l) n).f7).length : Nat)) = n + 1 + ((flat (rd_T36 (flat l) n).f6).length : Nat) + ((flat (rd_T36 (flat l) n).f7).length : Nat) := by simp only [wrap64]; omega
      simp only [w1, w2, w3]
      exact Ev.const _
end Go.Proofs.Ytdifnochnmiagaa.Man
namespace Go.Proofs.Ytdifnochnmiagaa.Man
open Go.RowKit Go.Shelf Go.Proofs.Ytdifnochnmiagaa.Pr Go.Proofs.YtdifnochnmiagaaW.PrintWords
set_option linter.unusedVariables false
set_option linter.unusedSimpArgs false

/-- A list's list is tame, too. -/
theorem flat_flat {l : List S36} {s : S36} (h : s ∈ flat (flat l)) : s ∈ flat l := by
  have key : ∀ (L : List S36), (∀ x ∈ L, x ∈ flat l) → s ∈ flat L → s ∈ flat l := by
    intro L
    induction L with
    | nil => intro _ h; simp [flat] at h
    | cons x r ih =>
      intro hx h
      rw [flat_cons] at h
      simp only [List.mem_cons, List.mem_append] at h
      rcases h with rfl | h | h | h
      · exact hx _ (by simp)
      · exact flat_in (hx x (by simp)) (.inl h)
      · exact flat_in (hx x (by simp)) (.inr h)
      · exact ih (fun y hy => hx y (by simp [hy])) h
  exact key (flat l) (fun _ h => h) h
theorem fit_tame {l : List S36} (h : Fit l 1048576) (hl : l.length ≤ 1048576) : tame l ∧ tame (flat l) ∧ (flat l).length ≤ 900000000000 := by
  refine ⟨⟨by omega, fun s hs => by have := h.2 s hs; omega⟩, ⟨by have := h.1; omega, fun s hs => by have := h.2 s (flat_flat hs); omega⟩, by have := h.1; omega⟩
theorem tells_ev (l : List S36) (n : Int) (h : Fit l 1048576) (hl : l.length ≤ 1048576) : Ev (fun k => proteanlaw04_NumberTells.f k l n) true := by
  obtain ⟨ht, htf, hN⟩ := fit_tame h hl
  obtain ⟨rd, ed⟩ := isDeep_ev l ht
  refine Ev.bind ed ?_
  cases rd with
  | true =>
    simp only [if_true, proteanlaw04_fixed.f, Option.bind_some]
    exact Ev.const _
  | false =>
    simp only [Bool.false_eq_true, if_false, number_Site.f, number_Blocks.f, number_Count.f, number_Sites.f, number_List.f, if_pos hN, proteanlaw04_fixed.f, Option.bind_some, if_true]
    refine Ev.bind (site_ev l n hN) ?_
    refine Ev.bind (blocks_ev l n hN) ?_
    refine Ev.bind (list_ev _ l (Nat.le_refl _) hN) ?_
    simp only [proteanref02_Stmts.f, if_pos (show flat l = flat l ∧ tame (flat l) from ⟨rfl, htf⟩), Option.bind_some, if_true]
    refine Ev.bind (sites_ev l hN) ?_
    simp only [if_true, beq_self_eq_true]
    exact Ev.const _
end Go.Proofs.Ytdifnochnmiagaa.Man
