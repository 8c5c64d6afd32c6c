/- A part of the proof that SccFolded returns true for every argument (the row of SccFolded: theorem sccFolded_holds). Parts: PgG LawSccFolded. No conditions beyond the given statement's own. -/
import Derived.Test.YtejhejpkfjhmkaaSFo4
import Derived.Test.YtejhejpkfjhmkaaRows
import Derived.Test.YtejhejpkfjhmkaaSFo2
import Derived.WalkKit
import Derived.ProofKit
import Derived.OpenShut
import Derived.ShutString
import Derived.ChangeOld
import Derived.Below
import Derived.SizedLaws

/- SccFolded yields true. -/
namespace Go.Proofs.Ytejhejpkfjhmkaa.Man
open Go.RowKit Go.Proofs.Ytejhejpkfjhmkaa.Pr Go.Proofs.YtejhejpkfjhmkaaW.PrintWords Go.Proofs.YtejhejpkfjhmkaaW.PrintMore Go.Proofs.Ytejhejpkfjhmkaa.Tarj Classical
set_option linter.unusedVariables false
set_option linter.unusedSimpArgs false
theorem ofNat_rises {l : List Nat} (h : l.Pairwise (· < ·)) : (l.map Int.ofNat).Pairwise (· < ·) := by
  rw [List.pairwise_map]
  exact h.imp (fun h => by simp only [Int.ofNat_eq_natCast]; omega)
theorem mem_ofNat {l : List Nat} {x : Nat} : (x : Int) ∈ l.map Int.ofNat ↔ x ∈ l := by
  rw [List.mem_map]
  constructor
  · rintro ⟨y, hy, e⟩
    simp only [Int.ofNat_eq_natCast] at e
    have : y = x := by omega
    exact this ▸ hy
  · exact fun h => ⟨x, h, rfl⟩
theorem ofNat_nat {l : List Nat} {m : Int} (h : m ∈ l.map Int.ofNat) : ∃ y : Nat, m = (y : Int) ∧ y ∈ l := by
  obtain ⟨y, hy, rfl⟩ := List.mem_map.1 h
  exact ⟨y, rfl, hy⟩
section
variable {g : List (List Int)}
theorem foldF_len (g : List (List Int)) : (foldF g).length = manyN g := by unfold foldF; simp
theorem foldF_get {k : Nat} (h : k < manyN g) : (foldF g).getD k [] = foldR (adjF g) g.length (numN g) (manyN g) k := by
  unfold foldF; rw [List.getD_eq_getElem?_getD, List.getElem?_map, List.getElem?_range h]; rfl
theorem foldR_nat {adj : Nat → List Nat} {N M k : Nat} {num : Nat → Nat} {m : Int} (h : m ∈ foldR adj N num M k) : ∃ y : Nat, m = (y : Int) ∧ y < M ∧ y ≠ k ∧ Ldg adj N num k y := by
  unfold foldR at h
  obtain ⟨y, e, hy⟩ := ofNat_nat h
  rw [List.mem_filter, List.mem_range] at hy
  have := of_decide_eq_true hy.2
  exact ⟨y, e, hy.1, this.1, this.2⟩
theorem ldg_lt (hm : mayB g = true) {k y : Nat} (h : Ldg (adjF g) g.length (numN g) k y) (hne : y ≠ k) : y < k := by
  obtain ⟨x, hx, e, z, hz, e2⟩ := h
  have := (numN_ok hm).down (may_gok hm).adj hx (.one hz)
  omega
theorem fold_may (hm : mayB g = true) : mayB (foldF g) = true := by
  have hM := many_le hm
  have hN := (mayB_spec hm).1
  refine mayB_mk (by rw [foldF_len]; omega) (fun v hv => ?_) (fun v hv m hmm => ?_)
  · rw [foldF_len] at hv
    rw [foldF_get hv]
    unfold foldR
    exact ofNat_rises ((List.pairwise_lt_range).filter _)
  · rw [foldF_len] at hv ⊢
    rw [foldF_get hv] at hmm
    obtain ⟨y, rfl, h1, _⟩ := foldR_nat hmm
    omega
theorem fold_adj (hm : mayB g = true) {k : Nat} (hk : k < manyN g) {y : Nat} (h : y ∈ adjF (foldF g) k) : y < k := by
  obtain ⟨m, hmm, rfl⟩ := List.mem_map.1 h
  rw [foldF_get hk] at hmm
  obtain ⟨z, rfl, h1, h2, h3⟩ := foldR_nat hmm
  rw [Int.toNat_natCast]
  exact ldg_lt hm h3 h2
theorem fold_many (hm : mayB g = true) : manyN (foldF g) = manyN g := by
  have hf := fold_may hm
  have h := numN_ok hf
  have h1 := many_le hf
  rw [foldF_len] at h h1
  have low : ∀ x y, x < manyN g → Tarj.Rch (adjF (foldF g)) x y → y ≤ x := fun x y hx r =>
    (r.closed (fun z => z ≤ x ∧ z < manyN g) (fun z hz u hu => by have := fold_adj hm hz.2 hu; exact ⟨by omega, by omega⟩) ⟨Nat.le_refl _, hx⟩).1
  have hnd : ((List.range (manyN g)).map (numN (foldF g))).Nodup := by
    unfold List.Nodup
    rw [List.pairwise_map]
    refine (List.pairwise_lt_range).imp_of_mem (fun {a b} ha hb hab e => ?_)
    have s := (h.cls a b (List.mem_range.1 ha) (List.mem_range.1 hb)).1 e
    have := low b a (List.mem_range.1 hb) s.2
    have := low a b (List.mem_range.1 ha) s.1
    omega
  have := nodup_le (K := manyN (foldF g)) hnd (fun x hx => by
    obtain ⟨y, hy, rfl⟩ := List.mem_map.1 hx
    exact h.lt y (List.mem_range.1 hy))
  rw [List.length_map, List.length_range] at this
  omega
theorem turn_len (hm : mayB g = true) : (turnF g).length = g.length := by unfold turnF; rw [if_pos hm]; simp
theorem turn_get (hm : mayB g = true) {t : Nat} (h : t < g.length) : (turnF g).getD t [] = col g t g.length := by
  unfold turnF; rw [if_pos hm, List.getD_eq_getElem?_getD, List.getElem?_map, List.getElem?_range h]; rfl
theorem col_nat {t N : Nat} {m : Int} (h : m ∈ col g t N) : ∃ y : Nat, m = (y : Int) ∧ y < N ∧ (t : Int) ∈ g.getD y [] := by
  unfold col at h
  obtain ⟨y, e, hy⟩ := ofNat_nat h
  rw [List.mem_filter, List.mem_range] at hy
  exact ⟨y, e, hy.1, of_decide_eq_true hy.2⟩
theorem turn_may (hm : mayB g = true) : mayB (turnF g) = true := by
  have hN := (mayB_spec hm).1
  refine mayB_mk (by rw [turn_len hm]; exact hN) (fun v hv => ?_) (fun v hv m hmm => ?_)
  · rw [turn_len hm] at hv
    rw [turn_get hm hv]
    unfold col
    exact ofNat_rises ((List.pairwise_lt_range).filter _)
  · rw [turn_len hm] at hv ⊢
    rw [turn_get hm hv] at hmm
    obtain ⟨y, rfl, h1, _⟩ := col_nat hmm
    omega
theorem turn_adj (hm : mayB g = true) {x y : Nat} (hx : x < g.length) : y ∈ adjF (turnF g) x ↔ y < g.length ∧ x ∈ adjF g y := by
  constructor
  · intro h
    obtain ⟨m, hmm, rfl⟩ := List.mem_map.1 h
    rw [turn_get hm hx] at hmm
    obtain ⟨z, rfl, h1, h2⟩ := col_nat hmm
    rw [Int.toNat_natCast]
    exact ⟨h1, List.mem_map.2 ⟨_, h2, Int.toNat_natCast x⟩⟩
  · rintro ⟨hy, h⟩
    obtain ⟨m, hmm, e⟩ := List.mem_map.1 h
    have := mayB_in hm y hy m hmm
    have em : m = (x : Int) := by omega
    rw [em] at hmm
    refine List.mem_map.2 ⟨(y : Int), ?_, Int.toNat_natCast y⟩
    rw [turn_get hm hx]
    unfold col
    exact mem_ofNat.2 (List.mem_filter.2 ⟨List.mem_range.2 hy, decide_eq_true hmm⟩)
theorem turn_rch (hm : mayB g = true) {x y : Nat} (r : Tarj.Rch (adjF (turnF g)) x y) (hx : x < g.length) : Tarj.Rch (adjF g) y x := by
  induction r with
  | refl => exact .refl _
  | step h _ ih =>
    obtain ⟨h1, h2⟩ := (turn_adj hm hx).1 h
    exact (ih h1).trans (.one h2)
theorem turn_rch' (hm : mayB g = true) {x y : Nat} (r : Tarj.Rch (adjF g) x y) (hx : x < g.length) : Tarj.Rch (adjF (turnF g)) y x := by
  induction r with
  | refl => exact .refl _
  | step h _ ih =>
    have hy := (may_gok hm).adj _ hx _ h
    exact (ih hy).trans (.one ((turn_adj hm hy).2 ⟨hx, h⟩))
theorem turn_num (hm : mayB g = true) {x y : Nat} (hx : x < g.length) (hy : y < g.length) : numN (turnF g) x = numN (turnF g) y ↔ numN g x = numN g y := by
  have h1 := numN_ok hm
  have h2 := numN_ok (turn_may hm)
  rw [turn_len hm] at h2
  rw [h1.cls x y hx hy, h2.cls x y hx hy]
  exact ⟨fun s => ⟨turn_rch hm s.2 hy, turn_rch hm s.1 hx⟩, fun s => ⟨turn_rch' hm s.2 hy, turn_rch' hm s.1 hx⟩⟩
theorem folded_pair (hm : mayB g = true) {i : Nat} (hi : i < g.length) (h : Ev (fun k => w13_SccFolded.l2 k g (ofF g) (ofF (turnF g)) ((i + 1 : Nat) : Int)) true) :
    ∀ q j : Nat, j + q = i → Ev (fun k => w13_SccFolded.l3 k g (ofF g) (ofF (turnF g)) (i : Int) (j : Int)) true := by
  have hN := (mayB_spec hm).1
  have l1 := ofF_len hm
  have l2 := ofF_len (turn_may hm)
  rw [turn_len hm] at l2
  have c1 : (0 : Int) ≤ (i : Int) := Int.natCast_nonneg i
  have c2 : (i : Int) < ((ofF g).length : Int) := by omega
  have c3 : (i : Int) < ((ofF (turnF g)).length : Int) := by omega
  have r3 := ofF_rd (turn_may hm) (x := i) (by rw [turn_len hm]; exact hi)
  intro q
  induction q with
  | zero =>
    intro j hj
    obtain rfl : j = i := by omega
    refine Ev.step ?_
    have c : ¬ (j : Int) < (j : Int) := by omega
    simp only [w13_SccFolded.l3, if_neg c, pz j (by omega)]
    exact h
  | succ q ih =>
    intro j hj
    have e := ih (j + 1) (by omega)
    refine Ev.step ?_
    have hj' : j < g.length := by omega
    have c : (j : Int) < (i : Int) := by omega
    have c0 : (0 : Int) ≤ (j : Int) := Int.natCast_nonneg j
    have c4 : (j : Int) < ((ofF g).length : Int) := by omega
    have c5 : (j : Int) < ((ofF (turnF g)).length : Int) := by omega
    have r4 := ofF_rd (turn_may hm) (x := j) (by rw [turn_len hm]; exact hj')
    have he : decide (numN (turnF g) i = numN (turnF g) j) = decide (numN g i = numN g j) := decide_eq_decide.2 (turn_num hm hi hj')
    have hf : ¬ ((decide (numN g i = numN g j) != decide (numN g i = numN g j)) = true) := by simp
    simp only [w13_SccFolded.l3, if_pos c, if_pos c1, if_pos c2, if_pos c0, if_pos c4, if_pos c3, if_pos c5, ofF_rd hm hi, ofF_rd hm hj', r3, r4, beq_nat, he, if_neg hf, pz j (by omega)]
    exact e
theorem folded_pairs (hm : mayB g = true) : ∀ q i : Nat, i + q = g.length → Ev (fun k => w13_SccFolded.l2 k g (ofF g) (ofF (turnF g)) (i : Int)) true := by
  intro q
  induction q with
  | zero =>
    intro i hi
    refine Ev.step ?_
    have c : ¬ (i : Int) < (g.length : Int) := by omega
    simp only [w13_SccFolded.l2, if_neg c]
    exact Ev.const _
  | succ q ih =>
    intro i hi
    have e := folded_pair hm (show i < g.length by omega) (ih (i + 1) (by omega)) i 0 (by omega)
    refine Ev.step ?_
    have c : (i : Int) < (g.length : Int) := by omega
    simp only [w13_SccFolded.l2, if_pos c]
    exact e
theorem folded_row (hm : mayB g = true) {i : Nat} (hi : i < manyN g) (h : Ev (fun k => w13_SccFolded.l0 k g (foldF g) ((i + 1 : Nat) : Int)) true) :
    ∀ q j : Nat, j + q = ((foldF g).getD i []).length → Ev (fun k => w13_SccFolded.l1 k g (foldF g) (i : Int) (j : Int)) true := by
  have hM := many_le hm
  have hN := (mayB_spec hm).1
  have hr := (may_gok (fold_may hm)).row i
  have c1 : (0 : Int) ≤ (i : Int) := Int.natCast_nonneg i
  have c2 : (i : Int) < ((foldF g).length : Int) := by rw [foldF_len]; omega
  intro q
  induction q with
  | zero =>
    intro j hj
    refine Ev.step ?_
    have c : ¬ (j : Int) < (((foldF g).getD i []).length : Int) := by omega
    simp only [w13_SccFolded.l1, if_pos c1, if_pos c2, rdLg, if_neg c, pz i (by omega)]
    exact h
  | succ q ih =>
    intro j hj
    have e := ih (j + 1) (by omega)
    refine Ev.step ?_
    have hjl : j < ((foldF g).getD i []).length := by omega
    have c : (j : Int) < (((foldF g).getD i []).length : Int) := by omega
    have c0 : (0 : Int) ≤ (j : Int) := Int.natCast_nonneg j
    have key : ∀ m, m ∈ (foldF g).getD i [] → ∃ y : Nat, m = (y : Int) ∧ y < manyN g ∧ y ≠ i ∧ Ldg (adjF g) g.length (numN g) i y := fun m hmm => foldR_nat (by rw [foldF_get hi] at hmm; exact hmm)
    obtain ⟨y, hy, _, h2, h3⟩ := key _ (List.getElem_mem hjl)
    have hlt := ldg_lt hm h3 h2
    have hrd : rd ((foldF g).getD i []) (j : Int) = (y : Int) := by rw [rd_lt hjl]; exact hy
    have c3 : ¬ (y : Int) ≥ (i : Int) := by omega
    simp only [w13_SccFolded.l1, if_pos c1, if_pos c2, rdLg, if_pos c, if_pos c0, hrd, if_neg c3, pz j (by omega)]
    exact e
theorem folded_rows (hm : mayB g = true) : ∀ q i : Nat, i + q = manyN g → Ev (fun k => w13_SccFolded.l0 k g (foldF g) (i : Int)) true := by
  have hs := (may_gok hm).sm
  have hst := (may_gok (turn_may hm)).sm
  have l1 := ofF_len hm
  have l2 := ofF_len (turn_may hm)
  rw [turn_len hm] at l2
  intro q
  induction q with
  | zero =>
    intro i hi
    refine Ev.step ?_
    have c : ¬ (i : Int) < ((foldF g).length : Int) := by rw [foldF_len]; omega
    simp only [w13_SccFolded.l0, if_neg c]
    refine Ev.bind (of_ev hs) ?_
    refine Ev.bind (rturn_ev g hs) ?_
    refine Ev.bind (of_ev hst) ?_
    have c1 : ((ofF g).length : Int) = (g.length : Int) := by rw [l1]
    have c2 : (((ofF (turnF g)).length : Int) != (g.length : Int)) = false := by rw [l2]; simp
    simp only [if_pos c1, c2]
    refine Ev.step ?_
    simp only [w13_SccFolded.j4, Bool.false_eq_true, if_false]
    exact folded_pairs hm g.length 0 (by omega)
  | succ q ih =>
    intro i hi
    have e := folded_row hm (show i < manyN g by omega) (ih (i + 1) (by omega)) _ 0 (Nat.zero_add _)
    refine Ev.step ?_
    have c : (i : Int) < ((foldF g).length : Int) := by rw [foldF_len]; omega
    simp only [w13_SccFolded.l0, if_pos c]
    exact e
theorem folded13_ev (g : List (List Int)) (hl : g.length ≤ 9223372036854775807) : Ev (fun k => w13_SccFolded.f k g) true := by
  have jt : Ev (fun k => w13_SccFolded.j0 k g true) true := by
    refine Ev.step ?_
    simp only [w13_SccFolded.j0, if_true]
    exact Ev.bind fixed13_ev (Ev.const _)
  refine Ev.bind fixed13_ev ?_
  simp only [if_true]
  obtain ⟨s, e, hb⟩ := small13_ev g hl
  refine Ev.bind e ?_
  cases s with
  | false => simp only [Bool.false_eq_true, if_false]; exact jt
  | true =>
    obtain ⟨h1, h2⟩ := hb rfl
    have hs : Sm g := ⟨by omega, fun i => by have := h2 i; omega⟩
    simp only [if_true]
    refine Ev.bind (rmay_ev g hs) ?_
    by_cases hm : mayB g = true
    · rw [hm]
      have hsf := (may_gok (fold_may hm)).sm
      refine Ev.step ?_
      simp only [w13_SccFolded.j0, Bool.not_true, Bool.false_eq_true, if_false]
      refine Ev.bind (fold_ev hs) ?_
      refine Ev.bind (many_ev hs) ?_
      have hlen : ((foldF g).length : Int) = manyF g := by rw [foldF_len]; rfl
      simp only [if_pos hlen]
      refine Ev.bind (many_ev hsf) ?_
      have c2 : (manyF (foldF g) != ((foldF g).length : Int)) = false := by
        rw [foldF_len]; unfold manyF; rw [fold_many hm]; simp
      rw [c2]
      refine Ev.step ?_
      simp only [w13_SccFolded.j1, Bool.false_eq_true, if_false]
      exact folded_rows hm (manyN g) 0 (by omega)
    · rw [Bool.eq_false_iff.2 hm]
      exact jt
end
end Go.Proofs.Ytejhejpkfjhmkaa.Man

namespace Go.Proofs.Ytejhejpkfjhmkaa.sccFolded
open Go.ChangeShapes Go.WideShapes Go.ChangeAt Go.RowKit Go.Proofs.Ytejhejpkfjhmkaa.Pr Go.Proofs.YtejhejpkfjhmkaaW.PrintWords
open Go.ChangeMaps (open_string shut_string)
set_option linter.unusedVariables false
theorem own : ownKnob Try.prog.godebug = none := by kernel_rfl
theorem laidOut : laidOutB Try.prog = true := by kernel_rfl
theorem walk (A0 : Option Addr) (c0 : Nat) (l0 : List (List Int)) (hc0 : l0.length ≤ c0) (w : World) (hC0 : Kd.C (Kd.slice 3 (Kd.int .i64)) w A0 l0.length l0) :
    Calls Try.prog 5 #[.slice A0 l0.length c0] w fun e w' => e = .returned (.bool true) ∧ Below w.heap.size w w' := by
  obtain ⟨k, e⟩ := Man.folded13_ev l0  (Kd.C_max hC0)
  exact w13_SccFolded.calls k A0 c0 l0  true w hC0 hc0 (e k (Nat.le_refl _))
set_option maxRecDepth 100000 in
set_option maxHeartbeats 4000000 in
theorem lifted (os : Os) (started : os.Started) (H : Type) (enc : TypeId × Value → H) :
    ReturnsInHanded {} Try.checked os 5 .any (Rows.sccFoldedSpec.pre6 enc Try.prog Try.f5 Rows.sccFoldedRow.domain false) (Rows.sccFoldedSpec.post enc Try.prog Try.f5 false true false false) := by
  refine returnsInHanded_of_change_sized (C := Try.checked) own started (by kernel_rfl) Try.func5
    (ChangeSpec.witness6 (enc := enc) (C := Try.checked) false ⟨#[], #[.slice none 0 0], []⟩ 8 (by kernel_rfl) (by kernel_rfl) (by kernel_rfl) (by kernel_rfl)) ?_
  intro W base args ds gs before hval0 hW hcnd hsz0 _
  have hval : ∀ (j : Nat) t v, Try.f5.params[j]? = some t → args[j]? = some v → Value.okWide Try.prog W .any base t v := hval0
  have hW' := hW
  obtain ⟨p, q, hA0, hV, rfl, hfz, hnd⟩ := hW
  have hA : DataW.TrodAll enc Try.prog W 0 (fun _ => true) true Try.f5.params.toList args.toList ds p := hA0
  rw [Try.params5] at hA hval
  obtain ⟨v0, vs0, d0, ds0, p0, q0, hargs, rfl, rfl, h0, r0⟩ := trodAll_cons hA
  obtain ⟨rfl, rfl, rfl⟩ := trodAll_nil r0
  obtain rfl : args = #[v0] := by cases args; simp_all
  obtain ⟨rfl, rfl⟩ := trodVars_none hV
  obtain ⟨b0, len0, cap0, rfl⟩ := okWide_slice Try.underlying22 (hval 0 22 v0 rfl rfl)
  have k0 := h0
  have lt0 : ∀ x ∈ p0, x.block < W.heap.size := by obtain ⟨m, hm⟩ := k0; exact DataW.trod_lt m _ _ _ hm
  obtain ⟨fuel0, hf0⟩ := h0
  obtain ⟨A0, c0, l0, hv0, hc0, hC0⟩ := Man.bridge_graph fuel0 _ _ _ hf0
  have e0 : Value.slice b0 len0 cap0 = Value.slice A0 l0.length c0 := by simpa [Value.cells] using hv0
  cases e0
  clear hA0 hval0 hsz0
  refine (walk _ _ l0 hc0 W hC0).mono fun e W' ⟨he, bel⟩ => ?_
  subst he
  exact ⟨_, rfl, _, _, _, [], _, [], hW', trodAll_mk1 (shut_bool Try.underlying4 _), (trodAll_cons_mk (Below.trod laidOut (by kernel_rfl) (of_decide_eq_true (by kernel_rfl)) k0 bel lt0) trodAll_mk0), rfl, bel.frame _, fun h => by cases h⟩
theorem proved : Rows.SccFoldedSaid :=
  OpenClaim.holds_of_wide 5 Try.f5 rfl rfl rfl rfl rfl rfl rfl ⟨rfl, rfl, rfl, rfl, rfl⟩ rfl rfl rfl rfl rfl (by kernel_rfl) Try.func5 (by kernel_rfl)
    (of_decide_eq_true (by kernel_rfl)) (by unfold Func.isWrapper; first | (rw [if_pos (by decide +kernel)]; kernel_rfl) | (rw [if_neg (by decide +kernel)]; exact ⟨rfl, rfl⟩))
    (fun os started H enc _ => lifted os started H enc)
end Go.Proofs.Ytejhejpkfjhmkaa.sccFolded
namespace Go.Proofs.Ytejhejpkfjhmkaa
theorem sccFolded_holds : Rows.SccFoldedSaid := sccFolded.proved
end Go.Proofs.Ytejhejpkfjhmkaa
