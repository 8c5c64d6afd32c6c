/- A part of the proof that SccFolded returns true for every argument. Parts: PgD Pr2 PgE ScA Srt13 ScK ScL ScB ScF ScI ScJ HpL ScM ScN ScO ScG ScH ScP ScQ ScS. No conditions beyond the given statement's own. -/
import Derived.Test.YtejhejpkfjhmkaaSFo2
import Derived.Lib.Hide
import Derived.StillTailTactics

/- The document's answer for the knots' numbers comes to the one numbering. -/
namespace Go.Proofs.Ytejhejpkfjhmkaa.Man
open Go.RowKit Go.Proofs.Ytejhejpkfjhmkaa.Pr Go.Proofs.YtejhejpkfjhmkaaW.PrintWords Go.Proofs.Ytejhejpkfjhmkaa.Tarj Classical
set_option linter.unusedVariables false
set_option linter.unusedSimpArgs false
theorem grch_rch {g : List (List Int)} {a b : Nat} (h : GRch g a b) : Tarj.Rch (adjF g) a b := by
  induction h with
  | refl => exact .refl _
  | step _ hm ih => exact ih.trans (.one (List.mem_map.2 ⟨_, hm, rfl⟩))
theorem rch_grch {g : List (List Int)} {a b : Nat} (h : Tarj.Rch (adjF g) a b) : GRch g a b := by
  induction h with
  | refl x => exact .refl
  | step h _ ih =>
    obtain ⟨m, hm, rfl⟩ := List.mem_map.1 h
    exact (GRch.step .refl hm).trans ih
theorem row_ge {g : List (List Int)} (hm : mayB g = true) {v : Nat} (hv : v < g.length) : ∀ j : Nat, j < (g.getD v []).length → (j : Int) ≤ rd (g.getD v []) (j : Int) := by
  intro j
  induction j with
  | zero => intro h; exact ((mayB_spec hm).2 v hv 0 h).1
  | succ j ih =>
    intro h
    have h1 := ((mayB_spec hm).2 v hv (j + 1) h).2.2 (by omega)
    simp only [Nat.add_sub_cancel] at h1
    have := ih (by omega)
    omega
theorem may_gok {g : List (List Int)} (hm : mayB g = true) : GOk g := by
  have h0 := (mayB_spec hm).1
  refine ⟨h0, fun v => ?_, fun v hv m hmm => mayB_in hm v hv m hmm⟩
  by_cases hv : v < g.length
  · rcases Nat.eq_zero_or_pos (g.getD v []).length with e | e
    · rw [e]; exact Nat.zero_le _
    · have h1 := row_ge hm hv ((g.getD v []).length - 1) (by omega)
      have h2 := ((mayB_spec hm).2 v hv ((g.getD v []).length - 1) (by omega)).2.1
      omega
  · rw [List.getD_eq_getElem?_getD, List.getElem?_eq_none (by omega)]; exact Nat.zero_le _
theorem GOk.sm {g : List (List Int)} (h : GOk g) : Sm g := ⟨Nat.le_trans h.len (by decide), fun i => Nat.le_trans (h.row i) (by decide)⟩
theorem mem_reachL {g : List (List Int)} {a b : Nat} : (b : Int) ∈ reachL g a ↔ b < g.length ∧ Tarj.Rch (adjF g) a b := by
  unfold reachL
  rw [List.mem_map]
  constructor
  · rintro ⟨x, hx, e⟩
    obtain rfl : x = b := by simp only [Int.ofNat_eq_natCast] at e; omega
    rw [List.mem_filter, List.mem_range] at hx
    exact ⟨hx.1, grch_rch (of_decide_eq_true hx.2)⟩
  · rintro ⟨h1, h2⟩
    exact ⟨b, List.mem_filter.2 ⟨List.mem_range.2 h1, decide_eq_true (rch_grch h2)⟩, rfl⟩
theorem reachL_nat {g : List (List Int)} {a : Nat} {x : Int} (h : x ∈ reachL g a) : ∃ b : Nat, x = (b : Int) ∧ b < g.length ∧ Tarj.Rch (adjF g) a b := by
  have h' := h
  unfold reachL at h
  obtain ⟨b, _, rfl⟩ := List.mem_map.1 h
  exact ⟨b, rfl, mem_reachL.1 h'⟩
theorem reachL_len (g : List (List Int)) (a : Nat) : (reachL g a).length ≤ g.length := by
  unfold reachL; rw [List.length_map]; exact Nat.le_trans (List.length_filter_le _ _) (by simp)
noncomputable def reachesL (g : List (List Int)) : List (List Int) := (List.range g.length).map fun i => reachL g i
theorem reachesL_len (g : List (List Int)) : (reachesL g).length = g.length := by unfold reachesL; simp
theorem reachesL_get {g : List (List Int)} {a : Nat} (h : a < g.length) : (reachesL g).getD a [] = reachL g a := by
  unfold reachesL; rw [List.getD_eq_getElem?_getD, List.getElem?_map, List.getElem?_range h]; rfl
theorem reaches_ev {g : List (List Int)} (hm : mayB g = true) : Ev (fun k => r13_Reaches.f k g) (reachesL g) := by
  have hn := (mayB_spec hm).1
  have hs := (may_gok hm).sm
  have main : ∀ m i : Nat, i + m = g.length → Ev (fun k => r13_Reaches.l0 k g ((reachesL g).take i) (i : Int)) (reachesL g) := by
    intro m
    induction m with
    | zero =>
      intro i hi
      refine Ev.step ?_
      have c : ¬ (i : Int) < (g.length : Int) := by omega
      simp only [r13_Reaches.l0, if_neg c]
      rw [List.take_of_length_le (by rw [reachesL_len]; omega)]
      exact Ev.const _
    | succ m ih =>
      intro i hi
      have e := ih (i + 1) (by omega)
      refine Ev.step ?_
      have c : (i : Int) < (g.length : Int) := by omega
      have c2 : ((reachesL g).take i).length < 5864062014805 := by rw [List.length_take]; omega
      simp only [r13_Reaches.l0, if_pos c, if_pos c2, pz i (by omega)]
      refine Ev.bind (rreach_ev g hs (i : Int)) ?_
      have e2 : reachF g (i : Int) = reachL g i := by unfold reachF; rw [if_pos ⟨hm, by omega, by omega⟩, Int.toNat_natCast]
      rw [e2]
      rw [List.take_succ_eq_append_getElem (by rw [reachesL_len]; omega)] at e
      have e3 : (reachesL g)[i]'(by rw [reachesL_len]; omega) = reachL g i := by
        have := reachesL_get (g := g) (a := i) (by omega)
        rw [List.getD_eq_getElem?_getD, List.getElem?_eq_getElem (by rw [reachesL_len]; omega)] at this
        exact this
      rw [e3] at e
      exact e
  exact main g.length 0 (by omega)
theorem knot_ev {g : List (List Int)} (hm : mayB g = true) {a b : Nat} (ha : a < g.length) (hb : b < g.length) : Ev (fun k => r13_Knot.f k (reachesL g) (a : Int) (b : Int)) (decide (Sc (adjF g) a b)) := by
  have hn := (mayB_spec hm).1
  have l := reachesL_len g
  have c1 : (0 : Int) ≤ (a : Int) := Int.natCast_nonneg a
  have c2 : (a : Int) < ((reachesL g).length : Int) := by omega
  have c3 : (0 : Int) ≤ (b : Int) := Int.natCast_nonneg b
  have c4 : (b : Int) < ((reachesL g).length : Int) := by omega
  simp only [r13_Knot.f, if_pos c1, if_pos c2, rdLg, reachesL_get ha, if_pos c3, if_pos c4, reachesL_get hb]
  refine Ev.bind (has_ev _ _ (by have := reachL_len g a; omega)) ?_
  by_cases r : Tarj.Rch (adjF g) a b
  · have e1 : decide ((b : Int) ∈ reachL g a) = true := decide_eq_true (mem_reachL.2 ⟨hb, r⟩)
    rw [e1]
    simp only [if_true]
    refine Ev.bind (has_ev _ _ (by have := reachL_len g b; omega)) ?_
    have e2 : decide ((a : Int) ∈ reachL g b) = decide (Sc (adjF g) a b) := by
      apply decide_eq_decide.2
      rw [mem_reachL]
      exact ⟨fun q => ⟨r, q.2⟩, fun q => ⟨ha, q.2⟩⟩
    rw [e2]; exact Ev.const _
  · have e1 : decide ((b : Int) ∈ reachL g a) = false := decide_eq_false (fun q => r (mem_reachL.1 q).2)
    rw [e1]
    simp only [Bool.false_eq_true, if_false]
    rw [show decide (Sc (adjF g) a b) = false from decide_eq_false (fun q => r q.1)]
    exact Ev.const _
def ov (L : List Int) (x : Nat) : Int := rd L (x : Int)
theorem ov_set (L : List Int) (n x : Nat) (v : Int) (h : n < L.length) : ov (L.set n v) x = if x = n then v else ov L x := by
  unfold ov rd
  rw [Int.toNat_natCast, List.getD_eq_getElem?_getD, List.getD_eq_getElem?_getD, List.getElem?_set]
  by_cases e : n = x
  · subst e; simp [h]
  · rw [if_neg e, if_neg (Ne.symm e)]
def RdyN (adj : Nat → List Nat) (o : Nat → Int) (n : Nat) : Prop := ∀ y, Tarj.Rch adj n y → 0 ≤ o y ∨ Tarj.Rch adj y n
section
variable {g : List (List Int)}
theorem ready_ev (hm : mayB g = true) (L : List Int) (hL : L.length = g.length) {n : Nat} (hn : n < g.length) : Ev (fun k => r13_ready.f k (reachesL g) L (n : Int)) (decide (RdyN (adjF g) (ov L) n)) := by
  have hN := (mayB_spec hm).1
  have l := reachesL_len g
  have hlr := reachL_len g n
  have c1 : (0 : Int) ≤ (n : Int) := Int.natCast_nonneg n
  have c2 : (n : Int) < ((reachesL g).length : Int) := by omega
  have main : ∀ m i : Nat, i + m = (reachL g n).length → Ev (fun k => r13_ready.l0 k (reachesL g) L (n : Int) (i : Int)) (decide (∀ y : Nat, (y : Int) ∈ (reachL g n).drop i → 0 ≤ ov L y ∨ Tarj.Rch (adjF g) y n)) := by
    intro m
    induction m with
    | zero =>
      intro i hi
      refine Ev.step ?_
      have c : ¬ (i : Int) < ((reachL g n).length : Int) := by omega
      simp only [r13_ready.l0, if_pos c1, if_pos c2, rdLg, reachesL_get hn, if_neg c]
      rw [List.drop_of_length_le (by omega), show decide (∀ y : Nat, (y : Int) ∈ ([] : List Int) → 0 ≤ ov L y ∨ Tarj.Rch (adjF g) y n) = true from decide_eq_true (fun y h => by cases h)]
      exact Ev.const _
    | succ m ih =>
      intro i hi
      have e := ih (i + 1) (by omega)
      refine Ev.step ?_
      have hil : i < (reachL g n).length := by omega
      have c : (i : Int) < ((reachL g n).length : Int) := by omega
      have c0 : (0 : Int) ≤ (i : Int) := Int.natCast_nonneg i
      obtain ⟨y, hy, hyN, hyr⟩ := reachL_nat (List.getElem_mem hil)
      have hrd : rd (reachL g n) (i : Int) = (y : Int) := by rw [rd_lt hil]; exact hy
      have c3 : (0 : Int) ≤ (y : Int) := Int.natCast_nonneg y
      have c4 : (y : Int) < (L.length : Int) := by omega
      simp only [r13_ready.l0, if_pos c1, if_pos c2, rdLg, reachesL_get hn, if_pos c, if_pos c0, hrd, if_pos c3, if_pos c4, pz i (by omega)]
      rw [List.drop_eq_getElem_cons hil, hy]
      have hiff : (∀ z : Nat, (z : Int) ∈ (y : Int) :: (reachL g n).drop (i + 1) → 0 ≤ ov L z ∨ Tarj.Rch (adjF g) z n) ↔ ((0 ≤ ov L y ∨ Tarj.Rch (adjF g) y n) ∧ ∀ z : Nat, (z : Int) ∈ (reachL g n).drop (i + 1) → 0 ≤ ov L z ∨ Tarj.Rch (adjF g) z n) := by
        constructor
        · exact fun h => ⟨h y List.mem_cons_self, fun z hz => h z (List.mem_cons_of_mem _ hz)⟩
        · intro h z hz
          rcases List.mem_cons.1 hz with q | q
          · have : z = y := by omega
            rw [this]; exact h.1
          · exact h.2 z q
      by_cases d : ov L y < 0
      · have d' : rd L (y : Int) < 0 := d
        simp only [if_pos d']
        refine Ev.bind (knot_ev hm hn hyN) ?_
        by_cases s : Tarj.Rch (adjF g) y n
        · rw [show decide (Sc (adjF g) n y) = true from decide_eq_true ⟨hyr, s⟩]
          simp only [if_true]
          have : decide (∀ z : Nat, (z : Int) ∈ (y : Int) :: (reachL g n).drop (i + 1) → 0 ≤ ov L z ∨ Tarj.Rch (adjF g) z n) = decide (∀ z : Nat, (z : Int) ∈ (reachL g n).drop (i + 1) → 0 ≤ ov L z ∨ Tarj.Rch (adjF g) z n) :=
            decide_eq_decide.2 (hiff.trans ⟨fun q => q.2, fun q => ⟨.inr s, q⟩⟩)
          rw [this]; exact e
        · rw [show decide (Sc (adjF g) n y) = false from decide_eq_false (fun q => s q.2)]
          simp only [Bool.false_eq_true, if_false]
          rw [show decide (∀ z : Nat, (z : Int) ∈ (y : Int) :: (reachL g n).drop (i + 1) → 0 ≤ ov L z ∨ Tarj.Rch (adjF g) z n) = false from decide_eq_false (fun q => (hiff.1 q).1.elim (fun w => by omega) s)]
          exact Ev.const _
      · have d' : ¬ rd L (y : Int) < 0 := d
        simp only [if_neg d']
        have : decide (∀ z : Nat, (z : Int) ∈ (y : Int) :: (reachL g n).drop (i + 1) → 0 ≤ ov L z ∨ Tarj.Rch (adjF g) z n) = decide (∀ z : Nat, (z : Int) ∈ (reachL g n).drop (i + 1) → 0 ≤ ov L z ∨ Tarj.Rch (adjF g) z n) :=
          decide_eq_decide.2 (hiff.trans ⟨fun q => q.2, fun q => ⟨.inl (by omega), q⟩⟩)
        rw [this]; exact e
  have h0 := main (reachL g n).length 0 (by omega)
  have : decide (∀ y : Nat, (y : Int) ∈ (reachL g n).drop 0 → 0 ≤ ov L y ∨ Tarj.Rch (adjF g) y n) = decide (RdyN (adjF g) (ov L) n) := by
    apply decide_eq_decide.2
    rw [List.drop_zero]
    constructor
    · exact fun h y r => h y (mem_reachL.2 ⟨r.lt (may_gok hm).adj hn, r⟩)
    · exact fun h y q => h y (mem_reachL.1 q).2
  rw [this] at h0
  exact h0
theorem mark_ev {L0 : List Int} (hm : mayB g = true) (kk : Nat) (n : Nat) (hn : n < g.length) {res : List Int}
    (h : ∀ L : List Int, L.length = g.length → (∀ x, x < g.length → ov L x = if Sc (adjF g) n x then (kk : Int) else ov L0 x) → Ev (fun k => r13_Of.l1 k g (reachesL g) L (wrap64 ((kk : Int) + 1))) res) :
    ∀ m i : Nat, i + m = g.length → ∀ L : List Int, L.length = g.length → (∀ x, x < g.length → ov L x = if x < i ∧ Sc (adjF g) n x then (kk : Int) else ov L0 x) → Ev (fun k => r13_Of.l3 k g (reachesL g) L (kk : Int) (n : Int) (i : Int)) res := by
  have hN := (mayB_spec hm).1
  intro m
  induction m with
  | zero =>
    intro i hi L hL ho
    refine Ev.step ?_
    have c : ¬ (i : Int) < (g.length : Int) := by omega
    simp only [r13_Of.l3, if_neg c]
    refine h L hL (fun x hx => ?_)
    rw [ho x hx]
    have : x < i := by omega
    simp only [this, true_and]
  | succ m ih =>
    intro i hi L hL ho
    refine Ev.step ?_
    have hig : i < g.length := by omega
    have c : (i : Int) < (g.length : Int) := by omega
    have c0 : (0 : Int) ≤ (i : Int) := Int.natCast_nonneg i
    have c1 : (i : Int) < (L.length : Int) := by omega
    simp only [r13_Of.l3, if_pos c, if_pos c0, if_pos c1, Int.toNat_natCast, pz i (by omega)]
    refine Ev.bind (knot_ev hm hn hig) ?_
    by_cases s : Sc (adjF g) n i
    · rw [decide_eq_true s]
      simp only [if_true]
      refine ih (i + 1) (by omega) _ (by rw [List.length_set]; exact hL) (fun x hx => ?_)
      rw [ov_set L i x _ (by omega)]
      by_cases e : x = i
      · subst e
        rw [if_pos rfl, if_pos ⟨Nat.lt_succ_self _, s⟩]
      · rw [if_neg e, ho x hx]
        by_cases q : x < i
        · have q2 : x < i + 1 := by omega
          simp only [q, q2, true_and]
        · have q2 : ¬ x < i + 1 := by omega
          simp only [q, q2, false_and, if_false]
    · rw [decide_eq_false s]
      simp only [Bool.false_eq_true, if_false]
      refine ih (i + 1) (by omega) L hL (fun x hx => ?_)
      rw [ho x hx]
      by_cases e : x = i
      · subst e
        rw [if_neg (fun q => s q.2), if_neg (fun q => s q.2)]
      · by_cases q : x < i
        · have q2 : x < i + 1 := by omega
          simp only [q, q2, true_and]
        · have q2 : ¬ x < i + 1 := by omega
          simp only [q, q2, false_and, if_false]
theorem find_ev (hm : mayB g = true) (L : List Int) (hL : L.length = g.length) (kk : Int) {res : List Int} {n : Nat} (hn : n ≤ g.length) (hp : n < g.length → ov L n < 0 ∧ RdyN (adjF g) (ov L) n) (h : Ev (fun k => r13_Of.j3 k g (reachesL g) L kk (n : Int)) res) :
    ∀ m i : Nat, i + m = n → (∀ x, i ≤ x → x < n → ¬ (ov L x < 0 ∧ RdyN (adjF g) (ov L) x)) → Ev (fun k => r13_Of.l2 k g (reachesL g) L kk (i : Int)) res := by
  have hN := (mayB_spec hm).1
  intro m
  induction m with
  | zero =>
    intro i hi ho
    obtain rfl : i = n := by omega
    refine Ev.step ?_
    by_cases c : i < g.length
    · obtain ⟨p1, p2⟩ := hp c
      have c1 : (i : Int) < (g.length : Int) := by omega
      have c0 : (0 : Int) ≤ (i : Int) := Int.natCast_nonneg i
      have c2 : (i : Int) < (L.length : Int) := by omega
      have c3 : ¬ rd L (i : Int) ≥ 0 := by have : rd L (i : Int) < 0 := p1; omega
      simp only [r13_Of.l2, if_pos c1, if_pos c0, if_pos c2, if_neg c3]
      refine Ev.bind (ready_ev hm L hL c) ?_
      rw [decide_eq_true p2]
      simp only [if_true]
      exact h
    · have c1 : ¬ (i : Int) < (g.length : Int) := by omega
      simp only [r13_Of.l2, if_neg c1]
      exact h
  | succ m ih =>
    intro i hi ho
    have e := ih (i + 1) (by omega) (fun x h1 h2 => ho x (by omega) h2)
    refine Ev.step ?_
    have c : i < g.length := by omega
    have c1 : (i : Int) < (g.length : Int) := by omega
    have c0 : (0 : Int) ≤ (i : Int) := Int.natCast_nonneg i
    have c2 : (i : Int) < (L.length : Int) := by omega
    have q := ho i (Nat.le_refl _) (by omega)
    simp only [r13_Of.l2, if_pos c1, if_pos c0, if_pos c2, pz i (by omega)]
    by_cases d : ov L i < 0
    · have c3 : ¬ rd L (i : Int) ≥ 0 := by have : rd L (i : Int) < 0 := d; omega
      simp only [if_neg c3]
      refine Ev.bind (ready_ev hm L hL c) ?_
      rw [decide_eq_false (fun w => q ⟨d, w⟩)]
      simp only [Bool.false_eq_true, if_false]
      exact e
    · have c3 : rd L (i : Int) ≥ 0 := by have : ¬ rd L (i : Int) < 0 := d; omega
      simp only [if_pos c3]
      exact e
def toL (N : Nat) (num : Nat → Nat) : List Int := (List.range N).map fun x => ((num x : Nat) : Int)
theorem toL_len (N : Nat) (num : Nat → Nat) : (toL N num).length = N := by unfold toL; simp
theorem toL_rd {N : Nat} {num : Nat → Nat} {x : Nat} (h : x < N) : rd (toL N num) (x : Int) = ((num x : Nat) : Int) := by
  unfold toL rd; rw [Int.toNat_natCast, List.getD_eq_getElem?_getD, List.getElem?_map, List.getElem?_range h]; rfl
theorem toL_congr {N : Nat} {num num' : Nat → Nat} (h : ∀ x, x < N → num x = num' x) : toL N num = toL N num' := by
  unfold toL; exact List.map_congr_left (fun x hx => by rw [h x (List.mem_range.1 hx)])
theorem toL_ov (L : List Int) (h : ∀ x, x < L.length → 0 ≤ ov L x) : L = toL L.length (fun x => (ov L x).toNat) := by
  apply List.ext_getElem?
  intro i
  unfold toL
  rw [List.getElem?_map]
  by_cases hi : i < L.length
  · have h1 := h i hi
    have h2 : ov L i = L[i] := by unfold ov; rw [rd_lt hi]
    rw [List.getElem?_range hi, List.getElem?_eq_getElem hi]
    simp only [Option.map_some]
    rw [Int.toNat_of_nonneg h1, h2]
  · rw [List.getElem?_eq_none (by omega), List.getElem?_eq_none (by simpa using hi)]; rfl
theorem least_ex (P : Nat → Prop) (N : Nat) : (∃ n, n < N ∧ P n ∧ ∀ x, x < n → ¬ P x) ∨ ∀ x, x < N → ¬ P x := by
  induction N with
  | zero => exact .inr (fun x h => by omega)
  | succ N ih =>
    rcases ih with ⟨n, a, b, c⟩ | h
    · exact .inl ⟨n, by omega, b, c⟩
    · by_cases p : P N
      · exact .inl ⟨N, by omega, p, h⟩
      · exact .inr (fun x hx => by
          by_cases e : x = N
          · rw [e]; exact p
          · exact h x (by omega))
theorem rounds_ev (hm : mayB g = true) : ∀ (u kk : Nat) (L : List Int), L.length = g.length → Pn (adjF g) g.length kk (ov L) → uns g.length (ov L) ≤ u → kk + uns g.length (ov L) ≤ g.length → ∃ M num, Nmb (adjF g) g.length M num ∧ Ev (fun k => r13_Of.l1 k g (reachesL g) L (kk : Int)) (toL g.length num) := by
  have hN := (mayB_spec hm).1
  have hadj := (may_gok hm).adj
  intro u
  induction u with
  | zero =>
    intro kk L hL hp hu hk
    have ha := uns_zero (Nat.le_zero.1 hu)
    have hd := hp.done ha (num := fun x => (ov L x).toNat) (fun x hx => by have := ha x hx; omega) hadj
    have hf : Ev (fun k => some L) (toL g.length (fun x => (ov L x).toNat)) := by
      rw [← hL, ← toL_ov L (fun x hx => ha x (by omega))]; exact Ev.const _
    refine ⟨kk, _, hd, Ev.step ?_⟩
    by_cases c : (kk : Int) < (g.length : Int)
    · simp only [r13_Of.l1, if_pos c]
      refine find_ev hm L hL (kk : Int) (n := g.length) (Nat.le_refl _) (fun h => absurd h (Nat.lt_irrefl _)) ?_ g.length 0 (by omega) (fun x _ hx q => by have := ha x hx; omega)
      refine Ev.step ?_
      simp only [r13_Of.j3, if_true]
      exact hf
    · simp only [r13_Of.l1, if_neg c]
      exact hf
  | succ u ih =>
    intro kk L hL hp hu hk
    rcases least_ex (fun x => ov L x < 0 ∧ RdyN (adjF g) (ov L) x) g.length with ⟨n, n1, ⟨n2, n3⟩, n4⟩ | hno
    · have hlow : ∀ m, m < g.length → ov L m < 0 → (∀ y, Tarj.Rch (adjF g) m y → 0 ≤ ov L y ∨ Tarj.Rch (adjF g) y m) → n ≤ m := fun m hm h1 h2 => by
        apply Classical.byContradiction
        intro q
        exact n4 m (by omega) ⟨h1, h2⟩
      have hup : 0 < uns g.length (ov L) := by
        rcases Nat.eq_zero_or_pos (uns g.length (ov L)) with e | e
        · have := uns_zero e n n1; omega
        · exact e
      obtain ⟨L2, hL2, hL2o⟩ : ∃ L2 : List Int, L2.length = g.length ∧ ∀ x, x < g.length → ov L2 x = if Sc (adjF g) n x then (kk : Int) else ov L x := by
        refine ⟨(List.range g.length).map (fun x => if Sc (adjF g) n x then (kk : Int) else ov L x), by simp, fun x hx => ?_⟩
        unfold ov rd
        rw [Int.toNat_natCast, List.getD_eq_getElem?_getD, List.getElem?_map, List.getElem?_range hx]
        simp only [Option.map_some, Option.getD_some, Int.toNat_natCast]
      have hp2 := hp.step hadj n1 n2 n3 hlow hL2o
      have hul : uns g.length (ov L2) < uns g.length (ov L) := uns_lt n1 (fun x hx h => by
        rw [hL2o x hx] at h
        split at h
        · omega
        · exact h) n2 (by rw [hL2o n n1, if_pos (Sc.refl _ _)]; omega)
      obtain ⟨M, num, q1, q2⟩ := ih (kk + 1) L2 hL2 hp2 (by omega) (by omega)
      refine ⟨M, num, q1, Ev.step ?_⟩
      have c : (kk : Int) < (g.length : Int) := by omega
      simp only [r13_Of.l1, if_pos c]
      refine find_ev hm L hL (kk : Int) (Nat.le_of_lt n1) (fun _ => ⟨n2, n3⟩) ?_ n 0 (by omega) (fun x _ hx => n4 x hx)
      refine Ev.step ?_
      have c2 : ¬ (n : Int) = (g.length : Int) := by omega
      simp only [r13_Of.j3, if_neg c2]
      refine mark_ev (L0 := L) hm kk n n1 (fun L3 hL3 hL3o => ?_) g.length 0 (by omega) L hL (fun x hx => by rw [if_neg (fun q => Nat.not_lt_zero _ q.1)])
      have e : L3 = L2 := by
        apply List.ext_getElem?
        intro i
        by_cases hi : i < g.length
        · have h1 := hL3o i hi
          have h2 := hL2o i hi
          rw [← h2] at h1
          unfold ov at h1
          rw [rd_lt (by omega), rd_lt (by omega)] at h1
          rw [List.getElem?_eq_getElem (by omega), List.getElem?_eq_getElem (by omega), h1]
        · rw [List.getElem?_eq_none (by omega), List.getElem?_eq_none (by omega)]
      rw [e, pz kk (by omega)]
      exact q2
    · have ha : ∀ x, x < g.length → 0 ≤ ov L x := fun x hx => by
        apply Classical.byContradiction
        intro q
        obtain ⟨n, a, b, c⟩ := hp.some hadj hx (by omega)
        exact hno n a ⟨b, c⟩
      have hz : uns g.length (ov L) = 0 := by
        rcases Nat.eq_zero_or_pos (uns g.length (ov L)) with e | e
        · exact e
        · obtain ⟨x, hx⟩ := List.exists_mem_of_length_pos (l := (List.range g.length).filter (fun x => decide (ov L x < 0))) e
          rw [List.mem_filter, List.mem_range] at hx
          have := of_decide_eq_true hx.2
          have := ha x hx.1
          omega
      exact ih kk L hL hp (by omega) hk
theorem rof_ev (hm : mayB g = true) : ∃ M num, Nmb (adjF g) g.length M num ∧ Ev (fun k => r13_Of.f k g) (toL g.length num) := by
  have hN := (mayB_spec hm).1
  have hs := (may_gok hm).sm
  have e0 : ∀ x, x < g.length → ov (List.replicate g.length (-1)) x = -1 := fun x hx => by
    unfold ov rd; rw [Int.toNat_natCast, List.getD_eq_getElem?_getD, List.getElem?_replicate, if_pos hx]; rfl
  have hp : Pn (adjF g) g.length 0 (ov (List.replicate g.length (-1))) := (Pn.start _ _).congr (may_gok hm).adj e0
  obtain ⟨M, num, q1, q2⟩ := rounds_ev hm _ 0 (List.replicate g.length (-1)) (by simp) hp (Nat.le_refl _) (by have := uns_le g.length (ov (List.replicate g.length (-1))); omega)
  refine ⟨M, num, q1, ?_⟩
  have main : ∀ m i : Nat, i + m = g.length → Ev (fun k => r13_Of.l0 k g (reachesL g) (List.replicate i (-1)) (i : Int)) (toL g.length num) := by
    intro m
    induction m with
    | zero =>
      intro i hi
      refine Ev.step ?_
      have c : ¬ (i : Int) < (g.length : Int) := by omega
      simp only [r13_Of.l0, if_neg c]
      rw [show i = g.length by omega]; exact q2
    | succ m ih =>
      intro i hi
      have e := ih (i + 1) (by omega)
      refine Ev.step ?_
      have c : (i : Int) < (g.length : Int) := by omega
      have c1 : (List.replicate i (-1 : Int)).length < 17592186044416 := by rw [List.length_replicate]; omega
      simp only [r13_Of.l0, if_pos c, if_pos c1, pz i (by omega)]
      rw [List.replicate_succ'] at e
      exact e
  refine Ev.bind (rmay_ev g hs) ?_
  rw [hm]
  simp only [if_true]
  exact Ev.bind (reaches_ev hm) (main g.length 0 (by omega))
end
end Go.Proofs.Ytejhejpkfjhmkaa.Man

-- Written by wip/xprint.py (the kit's print, run over this seat with some contracts of my own). Not trusted: Lean checks it.
namespace Go.Proofs.Ytejhejpkfjhmkaa.Pr
open Go.RowKit Go.Proofs.YtejhejpkfjhmkaaW.PrintWords Go.Proofs.YtejhejpkfjhmkaaW.PrintLast Go.Proofs.YtejhejpkfjhmkaaW.PrintMore
attribute [local go_sem] max2_int min2_int max_two min_two max_three min_three max_four min_four   -- for this text's walks alone
set_option linter.unusedVariables false
set_option linter.unusedSimpArgs false
def w13_small.l0 : Nat → List (List Int) → Int → Option (Bool)
  | 0, _, _ => none
  | k + 1, x0, x3 => if x3 < (x0.length : Int) then (if 0 ≤ x3 then (if ((rd_L1 x0 x3).length : Int) > 30 then (some false) else (w13_small.l0 k x0 (wrap64 (x3 + 1)))) else (none)) else (some (decide ((x0.length : Int) ≤ 30)))
def w13_small.f (k : Nat) (l0 : List (List Int)) : Option (Bool) := w13_small.l0 k l0 0
set_option maxHeartbeats 8000000 in
set_option maxRecDepth 100000 in
theorem w13_small.calls (k : Nat) (A0 : Option Addr) (c0 : Nat) (l0 : List (List Int)) (r : Bool) (w : World) (hr0 : Kd.C (Kd.slice 3 (Kd.int .i64)) w A0 l0.length l0) (hc0 : l0.length ≤ c0) (h : w13_small.f k l0 = some r) :
    Calls Try.prog 7 #[.slice A0 l0.length c0] w fun e w' => e = .returned (.bool r) ∧ Drawn0 w w' := by
 have HR0 := Aside0.mk hr0
 have HC0 := Aside0.mk hc0
 clear hr0 hc0
 have H : (w13_small.l0 k l0 0) = some r := h
 clear h
 have H' := Aside0.mk H
 clear H
 go_enter Try.func7, Try.ntmps7
 go_wp2
 go_loopg [3] k (fun kq v3 w' => ∃ (x3_1 : Int), v3 = .int .i64 x3_1 ∧ Aside0 (w13_small.l0 kq l0 x3_1 = some r) ∧ Aside0 (kq ≤ k) ∧ Drawn0 w w')
 case atStart => exact ⟨(0), (by first | rfl | (simp; done) | (simp [*]; done)), H', ⟨Nat.le_refl _⟩, by repeat (first | exact Drawn0.refl _ | apply Drawn0.step)⟩
 case round =>
  clear H'
  obtain ⟨x3_1, rfl, HA, HK1, ⟨m1, rfl⟩⟩ := hrel
  cases gk with
  | zero => exact absurd HA.out (by simp [w13_small.l0])
  | succ k1 =>
   have H := HA.out
   clear HA
   simp only [w13_small.l0] at H
   by_cases c2 : x3_1 < (l0.length : Int)
   ·rw [if_pos c2] at H
    have c2b0 : decide (x3_1 < (l0.length : Int)) = true := decide_eq_true c2
    clear c2
    by_cases c3 : 0 ≤ x3_1
    ·rw [if_pos c3] at H
     have c3b0 : decide (0 ≤ x3_1) = true := decide_eq_true c3
     clear c3
     by_cases c4 : ((rd_L1 l0 x3_1).length : Int) > 30
     ·rw [if_pos c4] at H
      have c4b0 : decide (30 < ((rd_L1 l0 x3_1).length : Int)) = true := decide_eq_true c4
      have c4b1 : decide (30 < (rd_L1 l0 x3_1).length) = true := decide_eq_true (by omega)
      clear c4
      obtain rfl := Option.some.inj H
      have p229 : 0 ≤ (x3_1 : Int) := of_decide_eq_true (by first | (with_reducible assumption) | assumption)
      have q229 : x3_1 < (l0.length : Int) := of_decide_eq_true (by first | (with_reducible assumption) | assumption)
      obtain ⟨ad229, A229_0, c229_0, e229, hx229_0, hl229_0, hi229_0⟩ := at_L1 HR0.out x3_1 p229 q229
      cases e229
      have HR229_0 := Aside0.mk hi229_0
      have HC229_0 := Aside0.mk hl229_0
      clear hi229_0 hl229_0
      replace p229 := eq_true p229
      replace q229 := eq_true q229
      go_wp2
      go_ret
      exact ⟨by first | rfl | (simp; done) | (simp [*]; done), by repeat (first | exact Drawn0.refl _ | apply Drawn0.step)⟩
     ·rw [if_neg c4] at H
      have c4b0 : decide (30 < ((rd_L1 l0 x3_1).length : Int)) = false := decide_eq_false c4
      have c4b1 : decide (30 < (rd_L1 l0 x3_1).length) = false := decide_eq_false (by omega)
      clear c4
      have H' := Aside0.mk H
      clear H
      have p229 : 0 ≤ (x3_1 : Int) := of_decide_eq_true (by first | (with_reducible assumption) | assumption)
      have q229 : x3_1 < (l0.length : Int) := of_decide_eq_true (by first | (with_reducible assumption) | assumption)
      obtain ⟨ad229, A229_0, c229_0, e229, hx229_0, hl229_0, hi229_0⟩ := at_L1 HR0.out x3_1 p229 q229
      cases e229
      have HR229_0 := Aside0.mk hi229_0
      have HC229_0 := Aside0.mk hl229_0
      clear hi229_0 hl229_0
      replace p229 := eq_true p229
      replace q229 := eq_true q229
      go_wp2
      go_roundg k1
      case measure => have := HK1.out; omega
      case rel => exact ⟨(wrap64 (x3_1 + 1)), (by first | rfl | (simp; done) | (simp [*]; done)), H', ⟨by have := HK1.out; omega⟩, by repeat (first | exact Drawn0.refl _ | apply Drawn0.step)⟩
    ·rw [if_neg c3] at H
     exact absurd H (by simp)
   ·rw [if_neg c2] at H
    have c2b0 : decide (x3_1 < (l0.length : Int)) = false := decide_eq_false c2
    clear c2
    obtain rfl := Option.some.inj H
    go_wp2
    go_ret
    exact ⟨by first | rfl | (simp; done) | (simp [*]; done), by repeat (first | exact Drawn0.refl _ | apply Drawn0.step)⟩
end Go.Proofs.Ytejhejpkfjhmkaa.Pr

/- The knots' numbers, how many there are, and the folded graph, as functions; the document's answers come to them. -/
namespace Go.Proofs.Ytejhejpkfjhmkaa.Man
open Go.RowKit Go.Proofs.Ytejhejpkfjhmkaa.Pr Go.Proofs.YtejhejpkfjhmkaaW.PrintWords Go.Proofs.YtejhejpkfjhmkaaW.PrintMore Go.Proofs.Ytejhejpkfjhmkaa.Tarj Classical
set_option linter.unusedVariables false
set_option linter.unusedSimpArgs false
theorem rowTail_mk {N : Nat} {r : List Int} (hr : r.Pairwise (· < ·)) (he : ∀ m, m ∈ r → 0 ≤ m ∧ m < (N : Int)) : ∀ m j : Nat, j + m = r.length → rowTail N r m j = true := by
  intro m
  induction m with
  | zero => intro j _; rfl
  | succ m ih =>
    intro j hj
    have hjl : j < r.length := by omega
    simp only [rowTail, Bool.and_eq_true]
    refine ⟨?_, ih (j + 1) (by omega)⟩
    have e := he _ (List.getElem_mem hjl)
    have h1 : rd r (j : Int) = r[j] := rd_lt hjl
    simp only [okAt, Bool.and_eq_true, Bool.or_eq_true, Bool.not_eq_true', decide_eq_true_eq, decide_eq_false_iff_not, h1]
    refine ⟨by omega, by omega, ?_⟩
    by_cases e0 : j = 0
    · exact .inl e0
    · right
      have h2 : rd r ((j - 1 : Nat) : Int) = r[j - 1] := rd_lt (by omega)
      rw [h2]
      have := (List.pairwise_iff_getElem.1 hr) (j - 1) j (by omega) hjl (by omega)
      omega
theorem mayB_mk {g : List (List Int)} (hl : g.length ≤ 1000) (hr : ∀ v, v < g.length → (g.getD v []).Pairwise (· < ·)) (he : ∀ v, v < g.length → ∀ m, m ∈ g.getD v [] → 0 ≤ m ∧ m < (g.length : Int)) : mayB g = true := by
  have main : ∀ m i : Nat, i + m = g.length → allTail g m i = true := by
    intro m
    induction m with
    | zero => intro i _; simp only [allTail, decide_eq_true_eq]; omega
    | succ m ih =>
      intro i hi
      simp only [allTail, Bool.and_eq_true]
      exact ⟨rowTail_mk (hr i (by omega)) (he i (by omega)) _ 0 (by omega), ih (i + 1) (by omega)⟩
  exact main g.length 0 (by omega)
theorem nmb_ex {g : List (List Int)} (hm : mayB g = true) : ∃ M num, Nmb (adjF g) g.length M num := by
  obtain ⟨M, num, h, _⟩ := rof_ev hm
  exact ⟨M, num, h⟩
noncomputable def manyN (g : List (List Int)) : Nat := if h : mayB g = true then Classical.choose (nmb_ex h) else 0
noncomputable def numN (g : List (List Int)) : Nat → Nat := if h : mayB g = true then Classical.choose (Classical.choose_spec (nmb_ex h)) else fun _ => 0
theorem numN_ok {g : List (List Int)} (hm : mayB g = true) : Nmb (adjF g) g.length (manyN g) (numN g) := by
  unfold manyN numN
  rw [dif_pos hm, dif_pos hm]
  exact Classical.choose_spec (Classical.choose_spec (nmb_ex hm))
noncomputable def ofF (g : List (List Int)) : List Int := if mayB g = true then toL g.length (numN g) else []
noncomputable def manyF (g : List (List Int)) : Int := ((manyN g : Nat) : Int)
def Ldg (adj : Nat → List Nat) (N : Nat) (num : Nat → Nat) (k m : Nat) : Prop := ∃ x, x < N ∧ num x = k ∧ ∃ y, y ∈ adj x ∧ num y = m
noncomputable def foldR (adj : Nat → List Nat) (N : Nat) (num : Nat → Nat) (M k : Nat) : List Int := ((List.range M).filter (fun m => decide (m ≠ k ∧ Ldg adj N num k m))).map Int.ofNat
noncomputable def foldF (g : List (List Int)) : List (List Int) := (List.range (manyN g)).map fun k => foldR (adjF g) g.length (numN g) (manyN g) k
theorem many_no {g : List (List Int)} (hm : ¬ mayB g = true) : manyN g = 0 := by unfold manyN; rw [dif_neg hm]
theorem of_eq {g : List (List Int)} (hm : mayB g = true) {M : Nat} {num : Nat → Nat} (h : Nmb (adjF g) g.length M num) : M = manyN g ∧ (∀ x, x < g.length → num x = numN g x) ∧ ofF g = toL g.length num := by
  obtain ⟨a, b⟩ := h.uniq (may_gok hm).adj (numN_ok hm)
  refine ⟨a, b, ?_⟩
  unfold ofF
  rw [if_pos hm]
  exact (toL_congr b).symm
theorem ofF_len {g : List (List Int)} (hm : mayB g = true) : (ofF g).length = g.length := by unfold ofF; rw [if_pos hm, toL_len]
theorem ofF_rd {g : List (List Int)} (hm : mayB g = true) {x : Nat} (h : x < g.length) : rd (ofF g) (x : Int) = ((numN g x : Nat) : Int) := by unfold ofF; rw [if_pos hm, toL_rd h]
def pmx (num : Nat → Nat) : Nat → Nat
  | 0 => 0
  | i + 1 => max (pmx num i) (num i + 1)
theorem pmx_ge {num : Nat → Nat} : ∀ {i x : Nat}, x < i → num x + 1 ≤ pmx num i
  | 0, x, h => absurd h (Nat.not_lt_zero _)
  | i + 1, x, h => by
    unfold pmx
    by_cases e : x = i
    · subst e; omega
    · have := pmx_ge (num := num) (i := i) (x := x) (by omega); omega
theorem pmx_le {num : Nat → Nat} {M : Nat} : ∀ {i : Nat}, (∀ x, x < i → num x < M) → pmx num i ≤ M
  | 0, _ => Nat.zero_le _
  | i + 1, h => by
    unfold pmx
    have := pmx_le (num := num) (M := M) (i := i) (fun x hx => h x (by omega))
    have := h i (by omega)
    omega
theorem pmx_all {adj : Nat → List Nat} {N M : Nat} {num : Nat → Nat} (h : Nmb adj N M num) : pmx num N = M := by
  have h1 := pmx_le (num := num) (M := M) (i := N) h.lt
  rcases Nat.eq_zero_or_pos M with e | e
  · omega
  · obtain ⟨n, a, b, _⟩ := h.at_ (M - 1) (by omega)
    have := pmx_ge (num := num) a
    omega
theorem many_le {g : List (List Int)} (hm : mayB g = true) : manyN g ≤ g.length := by
  have h := numN_ok hm
  have hN := (may_gok hm).adj
  have key : ∀ m, m ≤ manyN g → m ≤ ((List.range g.length).filter (fun x => decide (numN g x < m))).length := by
    intro m
    induction m with
    | zero => intro _; exact Nat.zero_le _
    | succ m ih =>
      intro hm'
      obtain ⟨n, a, b, _⟩ := h.at_ m (by omega)
      have := ih (by omega)
      have := flt_lt (l := List.range g.length) (p := fun x => decide (numN g x < m)) (q := fun x => decide (numN g x < m + 1)) (n := n) (fun x _ hx => decide_eq_true (by have := of_decide_eq_true hx; omega)) (List.mem_range.2 a) (decide_eq_true (by omega)) (decide_eq_false (by omega))
      omega
  have h1 := key (manyN g) (Nat.le_refl _)
  have h2 := List.length_filter_le (fun x => decide (numN g x < manyN g)) (List.range g.length)
  rw [List.length_range] at h2
  omega
section
variable {g : List (List Int)}
end
end Go.Proofs.Ytejhejpkfjhmkaa.Man

namespace Go.Proofs.Ytejhejpkfjhmkaa.Man
open Go.RowKit Go.Proofs.Ytejhejpkfjhmkaa.Pr Go.Proofs.YtejhejpkfjhmkaaW.PrintWords Go.Proofs.Ytejhejpkfjhmkaa.Tarj
set_option linter.unusedVariables false
set_option linter.unusedSimpArgs false
def ints (N : Nat) (f : Nat → Nat) : Array Value := ((List.range N).map fun x => Value.int .i64 (f x : Nat)).toArray
def bls (N : Nat) (f : Nat → Bool) : Array Value := ((List.range N).map fun x => Value.bool (f x)).toArray
theorem range_set {α : Type} (f : Nat → α) (N n : Nat) (v : α) : ((List.range N).map f).set n v = (List.range N).map (Tarj.upd f n v) := by
  apply List.ext_getElem?
  intro i
  rw [List.getElem?_set]
  by_cases h : n = i
  · subst h
    by_cases hn : n < N
    · simp [hn, Tarj.upd]
    · simp [hn]
  · rw [if_neg h, List.getElem?_map, List.getElem?_map]
    by_cases hi : i < N
    · simp [hi, Tarj.upd, Ne.symm h]
    · simp [hi]
theorem ints_set (N : Nat) (f : Nat → Nat) (n v : Nat) : (ints N f).setIfInBounds n (.int .i64 (v : Nat)) = ints N (Tarj.upd f n v) := by
  unfold ints
  rw [List.setIfInBounds_toArray, range_set]
  congr 2
  funext x
  simp only [Tarj.upd]
  split <;> rfl
theorem bls_set (N : Nat) (f : Nat → Bool) (n : Nat) (v : Bool) : (bls N f).setIfInBounds n (.bool v) = bls N (Tarj.upd f n v) := by
  unfold bls
  rw [List.setIfInBounds_toArray, range_set]
  congr 2
  funext x
  simp only [Tarj.upd]
  split <;> rfl
theorem ints_get {N n : Nat} (f : Nat → Nat) (h : n < N) : (ints N f)[n]? = some (.int .i64 (f n : Nat)) := by simp [ints, h]
theorem bls_get {N n : Nat} (f : Nat → Bool) (h : n < N) : (bls N f)[n]? = some (.bool (f n)) := by simp [bls, h]
abbrev kI : Kd Int := Kd.int .i64
abbrev kL : Kd (List Int) := Kd.slice 3 (Kd.int .i64)
def toI (l : List Nat) : List Int := l.map Int.ofNat
structure FS (B F b1 b2 b4 : Nat) (A : Option Addr) (c : Nat) (g : List (List Int)) (s : St) (vs vk : Value) (W : World) : Prop where
  f : W.heap[F]? = some (.cells #[.slice A g.length c, .slice (some ⟨b1, 0, none⟩) g.length g.length, .slice (some ⟨b2, 0, none⟩) g.length g.length, vs, .slice (some ⟨b4, 0, none⟩) g.length g.length, .int .i64 (s.next : Nat), vk] 38 (0, 0))
  x : W.heap[b1]? = some (.cells (ints g.length s.index) 3 (0, 0))
  l : W.heap[b2]? = some (.cells (ints g.length s.low) 3 (0, 0))
  o : W.heap[b4]? = some (.cells (bls g.length s.on) 4 (0, 0))
  st : kI.R 3 W B (fun k => k ≠ b1 ∧ k ≠ b2) vs (toI s.stack)
  kn : Kd.N kL 26 W B (fun k => B ≤ k ∧ k ≠ F ∧ k ≠ b1 ∧ k ≠ b2 ∧ k ≠ b4 ∧ some k ≠ vs.ownBlock) vk (s.knots.map toI)
  gF : Kd.F kL W (fun k => k < B) A g.length g
  b : B ≤ F ∧ B ≤ b1 ∧ B ≤ b2 ∧ B ≤ b4
  ne : b1 ≠ b2
section
variable {B F b1 b2 b4 : Nat} {A : Option Addr} {c : Nat} {g : List (List Int)} {s : St} {vs vk : Value} {W W1 : World}
theorem FS.nF1 (h : FS B F b1 b2 b4 A c g s vs vk W) : F ≠ b1 := blk_ne h.f h.x (by decide)
theorem FS.nF2 (h : FS B F b1 b2 b4 A c g s vs vk W) : F ≠ b2 := blk_ne h.f h.l (by decide)
theorem FS.nF4 (h : FS B F b1 b2 b4 A c g s vs vk W) : F ≠ b4 := blk_ne h.f h.o (by decide)
theorem FS.n14 (h : FS B F b1 b2 b4 A c g s vs vk W) : b1 ≠ b4 := blk_ne h.x h.o (by decide)
theorem FS.n24 (h : FS B F b1 b2 b4 A c g s vs vk W) : b2 ≠ b4 := blk_ne h.l h.o (by decide)
theorem FS.nsF (h : FS B F b1 b2 b4 A c g s vs vk W) : some F ≠ vs.ownBlock := Kd.R_ne h.st h.f (by decide)
theorem FS.ns4 (h : FS B F b1 b2 b4 A c g s vs vk W) : some b4 ≠ vs.ownBlock := Kd.R_ne h.st h.o (by decide)
theorem FS.ns1 (h : FS B F b1 b2 b4 A c g s vs vk W) : some b1 ≠ vs.ownBlock := fun e => (h.st.1 b1 e.symm).1 rfl
theorem FS.ns2 (h : FS B F b1 b2 b4 A c g s vs vk W) : some b2 ≠ vs.ownBlock := fun e => (h.st.1 b2 e.symm).2 rfl
theorem FS.below (h : FS B F b1 b2 b4 A c g s vs vk W) (hb : Below W.heap.size W W1) : FS B F b1 b2 b4 A c g s vs vk W1 :=
  ⟨blk_below h.f hb, blk_below h.x hb, blk_below h.l hb, blk_below h.o hb, Kd.R_below h.st hb, Kd.N_below h.kn hb, Kd.F_below h.gF hb, h.b, h.ne⟩
theorem FS.far (h : FS B F b1 b2 b4 A c g s vs vk W) (q i : Nat) (hq : q = F ∨ q = b1 ∨ q = b2 ∨ q = b4) (u : Value) :
    kI.R 3 (W.setCell ⟨q, i, none⟩ u) B (fun k => k ≠ b1 ∧ k ≠ b2) vs (toI s.stack) ∧
    Kd.N kL 26 (W.setCell ⟨q, i, none⟩ u) B (fun k => B ≤ k ∧ k ≠ F ∧ k ≠ b1 ∧ k ≠ b2 ∧ k ≠ b4 ∧ some k ≠ vs.ownBlock) vk (s.knots.map toI) ∧
    Kd.F kL (W.setCell ⟨q, i, none⟩ u) (fun k => k < B) A g.length g ∧ Below B W (W.setCell ⟨q, i, none⟩ u) := by
  have hb := h.b
  have hn : some q ≠ vs.ownBlock := by
    rcases hq with rfl | rfl | rfl | rfl
    · exact h.nsF
    · exact h.ns1
    · exact h.ns2
    · exact h.ns4
  have hge : B ≤ q := by rcases hq with rfl | rfl | rfl | rfl <;> omega
  refine ⟨Kd.R_mono (Kd.R_far (p := ⟨q, i, none⟩) (Kd.R_mono (Kd.R_reok (ok := fun k => some k = vs.ownBlock) rfl h.st (fun k hk => hk.symm)) (fun _ hk => hk)) (fun k hk e => hn (by rw [← hk]; exact congrArg some e.symm)) u) (fun k hk => h.st.1 k hk.symm),
    Kd.N_far (p := ⟨q, i, none⟩) h.kn (fun k hk e => ?_) u, Kd.F_far (p := ⟨q, i, none⟩) h.gF (fun k hk e => ?_) u, (Below.refl B W).setCell (p := ⟨q, i, none⟩) hge u⟩
  · obtain ⟨_, k1, k2, k3, k4, _⟩ := hk
    have e' : k = q := e
    subst e'
    rcases hq with rfl | rfl | rfl | rfl
    · exact k1 rfl
    · exact k2 rfl
    · exact k3 rfl
    · exact k4 rfl
  · have e' : k = q := e
    omega
theorem FS.setNext (h : FS B F b1 b2 b4 A c g s vs vk W) (v : Nat) : FS B F b1 b2 b4 A c g { s with next := v } vs vk (W.setCell ⟨F, 5, none⟩ (.int .i64 (v : Nat))) := by
  obtain ⟨a1, a2, a3, _⟩ := h.far F 5 (.inl rfl) (.int .i64 (v : Nat))
  exact ⟨blk_put h.f 5 _ rfl, blk_far h.x (Ne.symm h.nF1) _, blk_far h.l (Ne.symm h.nF2) _, blk_far h.o (Ne.symm h.nF4) _, a1, a2, a3, h.b, h.ne⟩
theorem FS.setIndex (h : FS B F b1 b2 b4 A c g s vs vk W) (n v : Nat) : FS B F b1 b2 b4 A c g { s with index := Tarj.upd s.index n v } vs vk (W.setCell ⟨b1, n, none⟩ (.int .i64 (v : Nat))) := by
  obtain ⟨a1, a2, a3, _⟩ := h.far b1 n (.inr (.inl rfl)) (.int .i64 (v : Nat))
  exact ⟨blk_far h.f h.nF1 _, blk_put h.x n _ (ints_set _ _ _ _), blk_far h.l (Ne.symm h.ne) _, blk_far h.o (Ne.symm h.n14) _, a1, a2, a3, h.b, h.ne⟩
theorem FS.setLow (h : FS B F b1 b2 b4 A c g s vs vk W) (n v : Nat) : FS B F b1 b2 b4 A c g { s with low := Tarj.upd s.low n v } vs vk (W.setCell ⟨b2, n, none⟩ (.int .i64 (v : Nat))) := by
  obtain ⟨a1, a2, a3, _⟩ := h.far b2 n (.inr (.inr (.inl rfl))) (.int .i64 (v : Nat))
  exact ⟨blk_far h.f h.nF2 _, blk_far h.x h.ne _, blk_put h.l n _ (ints_set _ _ _ _), blk_far h.o (Ne.symm h.n24) _, a1, a2, a3, h.b, h.ne⟩
theorem FS.setOn (h : FS B F b1 b2 b4 A c g s vs vk W) (n : Nat) (v : Bool) : FS B F b1 b2 b4 A c g { s with on := Tarj.upd s.on n v } vs vk (W.setCell ⟨b4, n, none⟩ (.bool v)) := by
  obtain ⟨a1, a2, a3, _⟩ := h.far b4 n (.inr (.inr (.inr rfl))) (.bool v)
  exact ⟨blk_far h.f h.nF4 _, blk_far h.x h.n14 _, blk_far h.l h.n24 _, blk_put h.o n _ (bls_set _ _ _ _), a1, a2, a3, h.b, h.ne⟩
theorem FS.setStack (h : FS B F b1 b2 b4 A c g s vs vk W) {vs1 : Value} {st1 : List Nat} (hr : kI.R 3 W1 B (fun k => k ≠ b1 ∧ k ≠ b2) vs1 (toI st1)) (hg : W.grownBy W1 vs.ownBlock) (hat : vs1.ownBlock = vs.ownBlock ∨ ∃ b, vs1.ownBlock = some b ∧ W.heap.size ≤ b) (hbb : Below B W W1) :
    FS B F b1 b2 b4 A c g { s with stack := st1 } vs1 vk (W1.setCell ⟨F, 3, none⟩ vs1) ∧ Below B W (W1.setCell ⟨F, 3, none⟩ vs1) := by
  have hb := h.b
  have hf := blk_grown h.f hg h.nsF
  have n1 : some F ≠ vs1.ownBlock := Kd.R_ne hr hf (by decide)
  have hk : Kd.N kL 26 W1 B (fun k => B ≤ k ∧ k ≠ F ∧ k ≠ b1 ∧ k ≠ b2 ∧ k ≠ b4 ∧ some k ≠ vs1.ownBlock) vk (s.knots.map toI) :=
    Kd.N_mono (Kd.N_after (ok := fun k => B ≤ k ∧ k ≠ F ∧ k ≠ b1 ∧ k ≠ b2 ∧ k ≠ b4) (Kd.N_mono h.kn (fun k hk => ⟨⟨hk.1, hk.2.1, hk.2.2.1, hk.2.2.2.1, hk.2.2.2.2.1⟩, hk.2.2.2.2.2⟩)) hg hat) (fun k hk => ⟨hk.1.1, hk.1.2.1, hk.1.2.2.1, hk.1.2.2.2.1, hk.1.2.2.2.2, hk.2⟩)
  have hgF : Kd.F kL W1 (fun k => k < B) A g.length g := Kd.F_step h.gF (fun k hk _ => hbb.block k hk)
  refine ⟨⟨blk_put hf 3 _ rfl, blk_far (blk_grown h.x hg h.ns1) (Ne.symm h.nF1) _, blk_far (blk_grown h.l hg h.ns2) (Ne.symm h.nF2) _, blk_far (blk_grown h.o hg h.ns4) (Ne.symm h.nF4) _, ?_, Kd.N_far (p := ⟨F, 3, none⟩) hk (fun k hk => hk.2.1) _, Kd.F_far (p := ⟨F, 3, none⟩) hgF (fun k hk e => by (have e' : k = F := e); omega) _, h.b, h.ne⟩, hbb.setCell (p := ⟨F, 3, none⟩) hb.1 _⟩
  exact Kd.R_mono (Kd.R_far (p := ⟨F, 3, none⟩) (Kd.R_reok (ok := fun k => some k = vs1.ownBlock) rfl hr (fun k hk => hk.symm)) (fun k hk e => n1 (by rw [← hk]; exact congrArg some (show F = k from e.symm))) _) (fun k hk => hr.1 k hk.symm)
theorem FS.setKnots (h : FS B F b1 b2 b4 A c g s vs vk W) {vk1 : Value} {kn1 : List (List Nat)} (hk : Kd.N kL 26 W1 B (fun k => B ≤ k ∧ k ≠ F ∧ k ≠ b1 ∧ k ≠ b2 ∧ k ≠ b4 ∧ some k ≠ vs.ownBlock) vk1 (kn1.map toI)) (hg : W.grownBy W1 vk.ownBlock) (hbb : Below B W W1) :
    FS B F b1 b2 b4 A c g { s with knots := kn1 } vs vk1 (W1.setCell ⟨F, 6, none⟩ vk1) ∧ Below B W (W1.setCell ⟨F, 6, none⟩ vk1) := by
  have hb := h.b
  have m1 : ∀ q, (q = F ∨ q = b1 ∨ q = b2 ∨ q = b4) → some q ≠ vk.ownBlock := fun q hq e => by
    obtain ⟨_, k1, k2, k3, k4, _⟩ := h.kn.1 q e.symm
    rcases hq with rfl | rfl | rfl | rfl
    · exact k1 rfl
    · exact k2 rfl
    · exact k3 rfl
    · exact k4 rfl
  have hf := blk_grown h.f hg (m1 F (.inl rfl))
  have hst : kI.R 3 W1 B (fun k => k ≠ b1 ∧ k ≠ b2) vs (toI s.stack) := Kd.R_mono (Kd.R_grown (Kd.R_reok (ok := fun k => some k = vs.ownBlock) rfl h.st (fun k hk => hk.symm)) hg (fun k hk e => (h.kn.1 k e.symm).2.2.2.2.2 hk)) (fun k hk => h.st.1 k hk.symm)
  have hgF : Kd.F kL W1 (fun k => k < B) A g.length g := Kd.F_step h.gF (fun k hk _ => hbb.block k hk)
  refine ⟨⟨blk_put hf 6 _ rfl, blk_far (blk_grown h.x hg (m1 b1 (.inr (.inl rfl)))) (Ne.symm h.nF1) _, blk_far (blk_grown h.l hg (m1 b2 (.inr (.inr (.inl rfl))))) (Ne.symm h.nF2) _, blk_far (blk_grown h.o hg (m1 b4 (.inr (.inr (.inr rfl))))) (Ne.symm h.nF4) _, ?_, Kd.N_far (p := ⟨F, 6, none⟩) hk (fun k hk => hk.2.1) _, Kd.F_far (p := ⟨F, 6, none⟩) hgF (fun k hk e => by (have e' : k = F := e); omega) _, h.b, h.ne⟩, hbb.setCell (p := ⟨F, 6, none⟩) hb.1 _⟩
  exact Kd.R_mono (Kd.R_far (p := ⟨F, 6, none⟩) (Kd.R_reok (ok := fun k => some k = vs.ownBlock) rfl hst (fun k hk => hk.symm)) (fun k hk e => h.nsF (by rw [← hk]; exact congrArg some (show F = k from e.symm))) _) (fun k hk => h.st.1 k hk.symm)
theorem FS.cf (h : FS B F b1 b2 b4 A c g s vs vk W) : (W.cell? ⟨F, 0, none⟩ = some (.slice A g.length c) ∧ W.cell? ⟨F, 1, none⟩ = some (.slice (some ⟨b1, 0, none⟩) g.length g.length) ∧ W.cell? ⟨F, 2, none⟩ = some (.slice (some ⟨b2, 0, none⟩) g.length g.length) ∧ W.cell? ⟨F, 3, none⟩ = some vs ∧ W.cell? ⟨F, 4, none⟩ = some (.slice (some ⟨b4, 0, none⟩) g.length g.length) ∧ W.cell? ⟨F, 5, none⟩ = some (.int .i64 (s.next : Nat)) ∧ W.cell? ⟨F, 6, none⟩ = some vk) ∧
    (W.frozen? ⟨F, 3, none⟩ = false ∧ W.frozen? ⟨F, 5, none⟩ = false ∧ W.frozen? ⟨F, 6, none⟩ = false) :=
  ⟨⟨(blk_cell h.f 0).trans rfl, (blk_cell h.f 1).trans rfl, (blk_cell h.f 2).trans rfl, (blk_cell h.f 3).trans rfl, (blk_cell h.f 4).trans rfl, (blk_cell h.f 5).trans rfl, (blk_cell h.f 6).trans rfl⟩, blk_frozen h.f 3, blk_frozen h.f 5, blk_frozen h.f 6⟩
theorem FS.cn (h : FS B F b1 b2 b4 A c g s vs vk W) {n : Nat} (hn : n < g.length) : (W.cell? ⟨b1, n, none⟩ = some (.int .i64 (s.index n : Nat)) ∧ W.cell? ⟨b2, n, none⟩ = some (.int .i64 (s.low n : Nat)) ∧ W.cell? ⟨b4, n, none⟩ = some (.bool (s.on n))) ∧
    (W.frozen? ⟨b1, n, none⟩ = false ∧ W.frozen? ⟨b2, n, none⟩ = false ∧ W.frozen? ⟨b4, n, none⟩ = false) :=
  ⟨⟨(blk_cell h.x n).trans (ints_get _ hn), (blk_cell h.l n).trans (ints_get _ hn), (blk_cell h.o n).trans (bls_get _ hn)⟩, blk_frozen h.x n, blk_frozen h.l n, blk_frozen h.o n⟩
end
def cnt (N : Nat) (s : St) : Nat := s.next + whites N s
def tot (s : St) : Nat := s.knots.flatten.length + s.stack.length
theorem whites_enter {N : Nat} {s : St} {n : Nat} (hn : n < N) (h0 : s.index n = 0) : whites N (enterF n s) + 1 = whites N s := by
  unfold whites
  have key : ∀ l : List Nat, l.Nodup → (n ∈ l → l.countP (fun x => decide ((enterF n s).index x = 0)) + 1 = l.countP (fun x => decide (s.index x = 0))) ∧ (n ∉ l → l.countP (fun x => decide ((enterF n s).index x = 0)) = l.countP (fun x => decide (s.index x = 0))) := by
    intro l
    induction l with
    | nil => intro _; exact ⟨fun h => (by cases h), fun _ => rfl⟩
    | cons a r ih =>
      intro hd
      obtain ⟨hd1, hd2⟩ := List.nodup_cons.1 hd
      obtain ⟨i1, i2⟩ := ih hd2
      simp only [List.countP_cons]
      refine ⟨fun hm => ?_, fun hm => ?_⟩
      · by_cases ha : a = n
        · subst ha
          rw [i2 hd1]
          simp [enterF, Tarj.upd, h0]
        · have := i1 ((List.mem_cons.1 hm).resolve_left (fun e => ha e.symm))
          simp only [enterF, Tarj.upd, if_neg ha] at this ⊢
          omega
      · have ha : a ≠ n := fun e => hm (e ▸ List.mem_cons_self)
        have := i2 (fun h => hm (List.mem_cons_of_mem _ h))
        simp only [enterF, Tarj.upd, if_neg ha] at this ⊢
        omega
  exact (key _ List.nodup_range).1 (List.mem_range.2 hn)
theorem sortN_len (l : List Nat) : (sortN l).length = l.length := List.length_mergeSort _
theorem knot_tot (n : Nat) (s : St) : tot (knotF n s) = tot s ∧ (knotF n s).next = s.next ∧ (knotF n s).index = s.index := by
  refine ⟨?_, rfl, rfl⟩
  simp only [tot, knotF, List.flatten_append, List.length_append, List.flatten_cons, List.flatten_nil, List.append_nil, sortN_len, List.length_take, List.length_drop]
  have := List.idxOf_le_length (a := n) (l := s.stack)
  omega
theorem visit_cnt {adj : Nat → List Nat} {N : Nat} (hN : ∀ x, x < N → ∀ y, y ∈ adj x → y < N) : ∀ (k : Nat) (n : Nat) (s : St), n < N → s.index n = 0 → cnt N (visitF adj k n s) = cnt N s ∧ (tot s = s.next → tot (visitF adj k n s) = (visitF adj k n s).next) := by
  intro k
  induction k with
  | zero => intro n s _ _; exact ⟨rfl, fun h => h⟩
  | succ k ih =>
    intro n s hn h0
    have fold : ∀ (l : List Nat) (t : St), (∀ y, y ∈ l → y < N) → cnt N (l.foldl (stepF (visitF adj k) n) t) = cnt N t ∧ (tot t = t.next → tot (l.foldl (stepF (visitF adj k) n) t) = (l.foldl (stepF (visitF adj k) n) t).next) := by
      intro l
      induction l with
      | nil => intro t _; exact ⟨rfl, fun h => h⟩
      | cons m r ihl =>
        intro t hl
        obtain ⟨a, b⟩ := ihl (stepF (visitF adj k) n t m) (fun y hy => hl y (List.mem_cons_of_mem _ hy))
        have hs : cnt N (stepF (visitF adj k) n t m) = cnt N t ∧ (tot t = t.next → tot (stepF (visitF adj k) n t m) = (stepF (visitF adj k) n t m).next) := by
          unfold stepF
          split
          · next hm =>
            obtain ⟨c1, c3⟩ := ih m t (hl m List.mem_cons_self) hm
            exact ⟨c1, c3⟩
          · split <;> exact ⟨rfl, fun h => h⟩
        exact ⟨a.trans hs.1, fun h => b (hs.2 h)⟩
    obtain ⟨a, b⟩ := fold (adj n) (enterF n s) (fun y hy => hN n hn y hy)
    have he : cnt N (enterF n s) = cnt N s := by
      have := whites_enter hn h0
      unfold cnt
      show s.next + 1 + _ = _
      omega
    have ht : tot s = s.next → tot (enterF n s) = (enterF n s).next := fun h => by
      simp only [tot, enterF, List.length_append, List.length_cons, List.length_nil] at h ⊢
      omega
    obtain ⟨t, htt⟩ : ∃ t, t = (adj n).foldl (stepF (visitF adj k) n) (enterF n s) := ⟨_, rfl⟩
    have hv : visitF adj (k + 1) n s = leaveF n t := by rw [htt]; rfl
    rw [← htt] at a b
    have hl1 : cnt N (leaveF n t) = cnt N t := by
      unfold leaveF; split
      · obtain ⟨_, q2, q3⟩ := knot_tot n t
        unfold cnt whites; rw [q2, q3]
      · rfl
    have hl2 : tot t = t.next → tot (leaveF n t) = (leaveF n t).next := fun h => by
      unfold leaveF; split
      · obtain ⟨q1, q2, _⟩ := knot_tot n t
        rw [q1, q2, h]
      · exact h
    rw [hv]
    exact ⟨hl1.trans (a.trans he), fun h => hl2 (b (ht h))⟩
end Go.Proofs.Ytejhejpkfjhmkaa.Man

namespace Go.Proofs.Ytejhejpkfjhmkaa.Man
open Go.RowKit Go.Shelf Go.Proofs.Ytejhejpkfjhmkaa.Pr Go.Proofs.YtejhejpkfjhmkaaW.PrintWords
set_option linter.unusedVariables false
set_option linter.unusedSimpArgs false
def srt (xs : List Int) : List Int := xs.mergeSort (fun x y => decide (x ≤ y))
theorem srt_len (xs : List Int) : (srt xs).length = xs.length := List.length_mergeSort _
theorem put_own {w : World} {base g n cap : Nat} {xs : List Value} (h : w.ownsRow base 3 1 (.slice (some ⟨g, 0, none⟩) n cap) n xs) (ys : List Int) (hl : ys.length = n) (q : Nat) (os : Array Obj) :
    (Go.Sort.grow (Go.Sort.putRow (Value.int .i64) (Go.Sort.ahead w q) g 0 ys.toArray) os).ownsRow base 3 1 (.slice (some ⟨g, 0, none⟩) n cap) n (ys.map (Value.int .i64)) ∧
    w.grownBy (Go.Sort.grow (Go.Sort.putRow (Value.int .i64) (Go.Sort.ahead w q) g 0 ys.toArray) os) (some g) := by
  obtain ⟨_, ⟨h1, _⟩ | ⟨g', cap', cur, hv, hb, hh, hn, hc, hs, ht⟩⟩ := h
  · simp at h1
  simp only [Value.slice.injEq, Option.some.injEq, Addr.mk.injEq, and_true, true_and] at hv
  obtain ⟨rfl, rfl⟩ := hv
  have hlt : g < w.heap.size := (Array.getElem?_eq_some_iff.1 hh).1
  have hat : (Go.Sort.putRow (Value.int .i64) (Go.Sort.ahead w q) g 0 ys.toArray).heap[g]? = some (.cells (Go.Sort.putCells (Value.int .i64) 0 ys.toArray cur) 3 (0, 0)) := by
    simp only [Go.Sort.putRow, Go.Sort.mapBlock, Go.Sort.ahead, Array.getElem?_modify, if_true, hh, Option.map_some, Go.Sort.onCells]
  refine ⟨⟨by simp [hl], .inr ⟨g, cap, Go.Sort.putCells (Value.int .i64) 0 ys.toArray cur, rfl, hb, ?_, hn, hc, by simpa [Go.Sort.putCells] using hs, ?_⟩⟩, rfl, rfl, rfl, by simp [Go.Sort.grow, Go.Sort.ahead], fun k hk hne => ?_⟩
  · rw [show (Go.Sort.grow (Go.Sort.putRow (Value.int .i64) (Go.Sort.ahead w q) g 0 ys.toArray) os).heap = (Go.Sort.putRow (Value.int .i64) (Go.Sort.ahead w q) g 0 ys.toArray).heap ++ os from rfl,
      Array.getElem?_append_left (by simpa [Go.Sort.ahead] using hlt)]
    exact hat
  · apply List.ext_getElem?
    intro j
    rw [List.getElem?_take]
    by_cases hj : j < n
    · rw [if_pos (by omega)]
      have hjc : j < cur.size := by omega
      simp only [Go.Sort.putCells, Array.getElem?_toList, Array.getElem?_mapIdx, List.getElem?_map]
      rw [Array.getElem?_eq_getElem hjc, Option.map_some, if_pos ⟨Nat.zero_le _, by simpa [hl] using hj⟩, Nat.sub_zero, List.getElem?_eq_getElem (by omega)]
      simp [hl, hj]
    · rw [if_neg (by omega)]
      symm
      simp only [List.getElem?_map, Option.map_eq_none_iff]
      exact List.getElem?_eq_none (by omega)
  · rw [show (Go.Sort.grow (Go.Sort.putRow (Value.int .i64) (Go.Sort.ahead w q) g 0 ys.toArray) os).heap = (Go.Sort.putRow (Value.int .i64) (Go.Sort.ahead w q) g 0 ys.toArray).heap ++ os from rfl,
      Array.getElem?_append_left (by simpa [Go.Sort.ahead] using hk)]
    simp only [Go.Sort.putRow, Go.Sort.mapBlock, Array.getElem?_modify]
    rw [if_neg (fun e => hne (by rw [e]))]
    rfl
theorem own_holds {w : World} {base g n cap : Nat} {xs : List Int} (h : w.ownsRow base 3 1 (.slice (some ⟨g, 0, none⟩) n cap) n (xs.map (Value.int .i64))) (hn : xs.length = n) : Go.Sort.Holds (Value.int .i64) w g 0 xs.toArray ∧ g < w.heap.size ∧ n ≤ cap := by
  obtain ⟨_, ⟨h1, _⟩ | ⟨g', cap', cur, hv, hb, hh, hnc, hc, hs, ht⟩⟩ := h
  · simp at h1
  simp only [Value.slice.injEq, Option.some.injEq, Addr.mk.injEq, and_true, true_and] at hv
  obtain ⟨rfl, rfl⟩ := hv
  refine ⟨fun j hj => ?_, (Array.getElem?_eq_some_iff.1 hh).1, hnc⟩
  have hj' : j < xs.length := by simpa using hj
  have e : cur.toList[j]? = some (Value.int .i64 xs[j]) := by
    have := congrArg (fun l => l[j]?) ht
    simp only [List.getElem?_take, List.getElem?_map] at this
    rw [if_pos (by omega), List.getElem?_eq_getElem hj'] at this
    simpa using this
  constructor
  · simp only [World.cell?, hh, Nat.zero_add]
    rw [Array.getElem?_toList] at e
    simp [e, hj']
  · simp [World.frozen?, hh]
theorem sort_own (xs : List Int) (v : Value) (base : Nat) (w : World) (h : w.ownsRow base 3 1 v xs.length (xs.map (Value.int .i64))) (hsz : xs.length < 4611686018427387904) :
    Calls Try.prog 32 #[v] w fun e w' => e = .returned (.tuple #[]) ∧ w'.ownsRow base 3 1 v xs.length ((srt xs).map (Value.int .i64)) ∧ w.grownBy w' v.ownBlock := by
  rcases h.2 with ⟨rfl, h0⟩ | ⟨g, cap, cur, rfl, _⟩
  · have hx : xs = [] := List.length_eq_zero_iff.1 h0
    subst hx
    refine (Try.slices_Sort_int_none none 0 w).mono ?_
    rintro e w' ⟨rfl, rfl⟩
    exact ⟨rfl, by simpa [srt] using World.ownsRow_nil _ _ _ _, ⟨rfl, rfl, rfl, Nat.le_refl _, fun _ _ _ => rfl⟩⟩
  · obtain ⟨hH, hlt, _⟩ := own_holds h rfl
    refine (Try.slices_Sort_int g 0 cap xs w hH hlt hsz).mono ?_
    rintro e w' ⟨rfl, q, os, rfl⟩
    exact ⟨rfl, put_own h (srt xs) (srt_len xs) q os⟩
theorem compact_own (xs : List Int) (v : Value) (base : Nat) (w : World) (h : w.ownsRow base 3 1 v xs.length (xs.map (Value.int .i64))) (hsz : xs.length < 4611686018427387904) :
    Calls Try.prog 33 #[v] w fun e w' => ∃ v', e = .returned v' ∧ w'.ownsRow base 3 1 v' (Lib.compact xs).length ((Lib.compact xs).map (Value.int .i64)) ∧ w.grownBy w' v.ownBlock ∧ v'.ownBlock = v.ownBlock := by
  rcases h.2 with ⟨rfl, h0⟩ | ⟨g, cap, cur, rfl, _⟩
  · have hx : xs = [] := List.length_eq_zero_iff.1 h0
    subst hx
    refine (Try.slices_Compact_int_empty none 0 w).mono ?_
    rintro e w' ⟨rfl, rfl⟩
    exact ⟨_, rfl, World.ownsRow_nil _ _ _ _, ⟨rfl, rfl, rfl, Nat.le_refl _, fun _ _ _ => rfl⟩, rfl⟩
  · obtain ⟨hH, hlt, hcap⟩ := own_holds h rfl
    refine (Try.slices_Compact_int g 0 cap xs w hH (by omega) hcap).mono ?_
    rintro e w' ⟨rfl, q, rfl⟩
    have hle := Go.Lib.compact_length_le xs
    obtain ⟨h1, h2⟩ := put_own h (Lib.compact xs ++ List.replicate (xs.length - (Lib.compact xs).length) 0) (by simp; omega) q #[]
    rw [Go.Sort.grow_empty] at h1 h2
    have h3 := own_take h1 hle
    rw [Nat.mul_one, List.map_append, List.take_left' (by simp)] at h3
    exact ⟨_, rfl, h3, h2, rfl⟩
end Go.Proofs.Ytejhejpkfjhmkaa.Man

namespace Go.Proofs.Ytejhejpkfjhmkaa.Man
open Go.RowKit Go.Shelf Go.Proofs.Ytejhejpkfjhmkaa.Pr Go.Proofs.YtejhejpkfjhmkaaW.PrintWords Go.Proofs.YtejhejpkfjhmkaaW.PrintMore Go.Proofs.Ytejhejpkfjhmkaa.Tarj
set_option linter.unusedVariables false
set_option linter.unusedSimpArgs false
theorem add_flat (b o j : Nat) : (⟨b, o, none⟩ : Addr).add j = ⟨b, o + j, none⟩ := by
  unfold Addr.add
  split
  · next h => rw [h]; rfl
  · rfl
theorem cloneI_any (l : List Int) (A : Option Addr) (c : Nat) (w : World) (hC : kI.C w A l.length l) (hl : l.length ≤ 1000000000) :
    Calls Try.prog 37 #[.slice A l.length c] w fun e w' => ∃ v', e = .returned v' ∧ w'.ownsRow w.heap.size 3 1 v' l.length (l.map (Value.int .i64)) ∧ Below w.heap.size w w' := by
  cases A with
  | none =>
    have hy : l = [] := by
      rcases Nat.eq_zero_or_pos l.length with h0 | h0
      · exact List.length_eq_zero_iff.1 h0
      · obtain ⟨ad, e, _⟩ := Kd.at_int hC 0 (by omega) (by omega)
        cases e
    subst hy
    refine (Try.slices_Clone_int_nil 0 c w).mono ?_
    rintro e w' ⟨rfl, rfl⟩
    exact ⟨_, rfl, World.ownsRow_nil _ _ _ _, Below.refl _ _⟩
  | some ad =>
    rcases Nat.eq_zero_or_pos l.length with h0 | h0
    · have hy : l = [] := List.length_eq_zero_iff.1 h0
      subst hy
      refine (Try.slices_Clone_int_zero ad c w).mono ?_
      rintro e w' ⟨v', rfl, h1, _, hb⟩
      exact ⟨v', rfl, h1, hb⟩
    · have hall : ∀ j, j < l.length → w.cell? (ad.add j) = some (.int .i64 (l.getD j 0)) := by
        intro j hj
        obtain ⟨ad', e, hc⟩ := Kd.at_int hC (j : Int) (Int.natCast_nonneg j) (Int.ofNat_lt.2 hj)
        cases e
        rw [Int.toNat_natCast] at hc
        rw [hc]; unfold rd; rw [Int.toNat_natCast]
      have hsp : ad.spot = none := World.cell?_spot (hall 0 h0)
      obtain ⟨b, off, sp⟩ := ad
      simp only at hsp
      subst hsp
      refine (Try.slices_Clone_int b off l.length c l w (Nat.le_refl _) (by omega) (fun j hj => by rw [← add_flat]; exact hall j hj)).mono ?_
      rintro e w' ⟨v', rfl, h1, _, hb⟩
      rw [List.take_length] at h1
      exact ⟨v', rfl, h1, hb⟩
theorem toI_get (l : List Nat) (j : Nat) (h : j < l.length) : (toI l).getD j 0 = (l[j] : Int) := by
  simp [toI, List.getD_eq_getElem?_getD, h]
theorem toI_len (l : List Nat) : (toI l).length = l.length := List.length_map _
theorem idxOf_toI (l : List Nat) (n : Nat) (h : n ∈ l) : Go.Lib.idxOf (toI l) (n : Int) = (l.idxOf n : Nat) := by
  have hlt := List.idxOf_lt_length_of_mem h
  have := Go.Lib.idxOf_hit (toI l) (toI l).length (l.idxOf n) (n : Int) (by rw [toI_len]; exact hlt) (Nat.le_refl _) (by rw [toI_get _ _ hlt, List.getElem_idxOf]) (fun j hj e => by
    rw [toI_get _ _ (by omega)] at e
    have := List.not_of_lt_findIdx (p := (· == n)) (xs := l) (i := j) hj
    have e' : l[j]'(by omega) = n := by exact_mod_cast e
    simp [e'] at this)
  rwa [List.take_length] at this
theorem indexI_any (l : List Nat) (n : Nat) (hn : n ∈ l) (A : Option Addr) (c : Nat) (w : World) (hC : kI.C w A (toI l).length (toI l)) (hl : l.length ≤ 1000000000) :
    Calls Try.prog 36 #[.slice A (toI l).length c, .int .i64 (n : Nat)] w fun e w' => e = .returned (.int .i64 (l.idxOf n : Nat)) ∧ w' = w := by
  have h0 : 0 < (toI l).length := by rw [toI_len]; exact List.length_pos_of_mem hn
  obtain ⟨ad, e, _⟩ := Kd.at_int hC 0 (by omega) (by omega)
  subst e
  have hall : ∀ j, j < (toI l).length → w.cell? (ad.add j) = some (.int .i64 ((toI l).getD j 0)) := by
    intro j hj
    obtain ⟨ad', e, hc⟩ := Kd.at_int hC (j : Int) (Int.natCast_nonneg j) (Int.ofNat_lt.2 hj)
    cases e
    rw [Int.toNat_natCast] at hc
    rw [hc]; unfold rd; rw [Int.toNat_natCast]
  have hsp : ad.spot = none := World.cell?_spot (hall 0 h0)
  obtain ⟨b, off, sp⟩ := ad
  simp only at hsp
  subst hsp
  refine (Try.slices_Index_int b off (toI l).length c (toI l) n w (Nat.le_refl _) (by rw [toI_len]; omega) (fun j hj => by rw [← add_flat]; exact hall j hj)).mono ?_
  rintro e w' ⟨rfl, rfl⟩
  rw [List.take_length, idxOf_toI l n hn]
  exact ⟨rfl, rfl⟩
theorem srt_toI (l : List Nat) : srt (toI l) = toI (sortN l) := by
  unfold srt toI sortN
  rw [List.map_mergeSort]
  intro a _ b _
  simp
theorem info3 : (Try.prog.info? 3).map (fun i => (i.zero, i.size, i.bytes)) = some (some (.int .i64 0), 1, 8) := by kernel_rfl
theorem infoL : (Try.prog.info? 26).map (fun i => (i.zero, i.size, i.bytes)) = some (some (.slice none 0 0), 1, 24) := by kernel_rfl
structure FSN (N B F b1 b2 b4 : Nat) (A : Option Addr) (c : Nat) (g : List (List Int)) (s : St) (vs vk : Value) (W : World) : Prop where
  h : FS B F b1 b2 b4 A c g s vs vk W
  kn : Kd.N kL 26 W B (fun k => (B ≤ k ∧ k ≠ F ∧ k ≠ b1 ∧ k ≠ b2 ∧ k ≠ b4 ∧ some k ≠ vs.ownBlock) ∧ k < N) vk (s.knots.map toI)
  lt : F < N ∧ b1 < N ∧ b2 < N ∧ b4 < N
  sl : ∀ k, vs.ownBlock = some k → k < N
  bn : B ≤ N
section
variable {N B F b1 b2 b4 : Nat} {A : Option Addr} {c : Nat} {g : List (List Int)} {s : St} {vs vk : Value} {W W1 : World}
theorem FS.lay (h : FS B F b1 b2 b4 A c g s vs vk W) (hb : Below W.heap.size W W1) (hB : B ≤ W.heap.size) : FSN W.heap.size B F b1 b2 b4 A c g s vs vk W1 :=
  ⟨h.below hb, Kd.N_old h.kn hb, ⟨blk_lt h.f, blk_lt h.x, blk_lt h.l, blk_lt h.o⟩, fun k hk => by
    obtain ⟨cells, hc⟩ := own_typed (Kd.own_of_R h.st) k hk
    exact blk_lt hc, hB⟩
theorem FSN.setOn (h : FSN N B F b1 b2 b4 A c g s vs vk W) (n : Nat) (v : Bool) : FSN N B F b1 b2 b4 A c g { s with on := Tarj.upd s.on n v } vs vk (W.setCell ⟨b4, n, none⟩ (.bool v)) :=
  ⟨h.h.setOn n v, Kd.N_far (p := ⟨b4, n, none⟩) h.kn (fun k hk e => hk.1.2.2.2.2.1 e) _, h.lt, h.sl, h.bn⟩
theorem FSN.cut {b3 cap m : Nat} (h : FSN N B F b1 b2 b4 A c g s (.slice (some ⟨b3, 0, none⟩) (toI s.stack).length cap) vk W) (hm : m ≤ s.stack.length) :
    FSN N B F b1 b2 b4 A c g { s with stack := s.stack.take m } (.slice (some ⟨b3, 0, none⟩) m cap) vk (W.setCell ⟨F, 3, none⟩ (.slice (some ⟨b3, 0, none⟩) m cap)) := by
  have ho := own_take (Kd.own_of_R h.h.st) (show m ≤ (toI s.stack).length by rw [toI_len]; exact hm)
  have hr : kI.R 3 W B (fun k => k ≠ b1 ∧ k ≠ b2) (.slice (some ⟨b3, 0, none⟩) m cap) (toI (s.stack.take m)) :=
    Kd.R_of_own (by
      have hl : (toI (s.stack.take m)).length = m := by rw [toI_len, List.length_take]; omega
      rw [hl]
      have he : encs (Value.int .i64) (toI (s.stack.take m)) = (encs (Value.int .i64) (toI s.stack)).take (m * 1) := by simp [encs, toI, List.map_take]
      rw [he]; exact ho) (fun k hk => h.h.st.1 k (by simpa [Value.ownBlock] using hk))
  obtain ⟨h1, _⟩ := h.h.setStack hr ⟨rfl, rfl, rfl, Nat.le_refl _, fun _ _ _ => rfl⟩ (.inl rfl) (Below.refl _ _)
  exact ⟨h1, Kd.N_far (p := ⟨F, 3, none⟩) (Kd.N_mono h.kn (fun k hk => ⟨⟨hk.1.1, hk.1.2.1, hk.1.2.2.1, hk.1.2.2.2.1, hk.1.2.2.2.2.1, by simpa [Value.ownBlock] using hk.1.2.2.2.2.2⟩, hk.2⟩)) (fun k hk e => hk.1.2.1 e) _, h.lt, fun k hk => h.sl k (by simpa [Value.ownBlock] using hk), h.bn⟩
theorem FSN.step (h : FSN N B F b1 b2 b4 A c g s vs vk W) (hk : ∀ k, k < N → W1.heap[k]? = W.heap[k]?) : FSN N B F b1 b2 b4 A c g s vs vk W1 :=
  ⟨⟨(hk F h.lt.1).trans h.h.f, (hk b1 h.lt.2.1).trans h.h.x, (hk b2 h.lt.2.2.1).trans h.h.l, (hk b4 h.lt.2.2.2).trans h.h.o,
    Kd.R_mono (Kd.R_step (Kd.R_reok (ok := fun k => some k = vs.ownBlock) rfl h.h.st (fun k hk => hk.symm)) (fun k ho _ => hk k (h.sl k ho.symm))) (fun k hk => h.h.st.1 k hk.symm),
    Kd.N_mono (Kd.N_step h.kn (fun k ho _ => hk k ho.2)) (fun _ hk => hk.1), Kd.F_step h.h.gF (fun k hq _ => hk k (Nat.lt_of_lt_of_le hq h.bn)), h.h.b, h.h.ne⟩,
    Kd.N_step h.kn (fun k ho _ => hk k ho.2), h.lt, h.sl, h.bn⟩
end
def offs (f : Nat → Bool) (l : List Nat) (j : Nat) : Nat → Bool := fun x => if x ∈ l.take j then false else f x
theorem offs_zero (f : Nat → Bool) (l : List Nat) : offs f l 0 = f := by funext x; simp [offs]
theorem offs_all (f : Nat → Bool) (l : List Nat) : offs f l l.length = fun x => if x ∈ l then false else f x := by funext x; simp [offs]
theorem offs_succ (f : Nat → Bool) (l : List Nat) (j : Nat) (h : j < l.length) : offs f l (j + 1) = Tarj.upd (offs f l j) l[j] false := by
  funext x
  simp only [offs, Tarj.upd, List.take_succ_eq_append_getElem h, List.mem_append, List.mem_singleton]
  by_cases hx : x = l[j]
  · simp [hx]
  · simp [hx]
end Go.Proofs.Ytejhejpkfjhmkaa.Man

namespace Go.Proofs.Ytejhejpkfjhmkaa.Man
open Go.RowKit Go.Shelf Go.Proofs.Ytejhejpkfjhmkaa.Pr Go.Proofs.YtejhejpkfjhmkaaW.PrintWords Go.Proofs.YtejhejpkfjhmkaaW.PrintMore Go.Proofs.Ytejhejpkfjhmkaa.Tarj
attribute [local go_sem] Oper.semAt_some
set_option linter.unusedVariables false
set_option linter.unusedSimpArgs false
theorem pzK (n : Nat) (h : n ≤ 1000) : wrap64 ((n : Int) + 1) = ((n + 1 : Nat) : Int) := by simp only [wrap64]; omega
structure KL (N B F b1 b2 b4 : Nat) (A : Option Addr) (c : Nat) (g : List (List Int)) (s : St) (l : List Nat) (vs vk v5 : Value) (W0 : World) (j : Nat) (W : World) : Prop where
  fs : FSN N B F b1 b2 b4 A c g { s with on := offs s.on l j } vs vk W
  own : W.ownsRow N 3 1 v5 l.length ((toI l).map (Value.int .i64))
  be : Below B W0 W
  n : N ≤ W.heap.size
theorem own_FK {W : World} {N g5 c5 n : Nat} {xs : List Int} (h : W.ownsRow N 3 1 (.slice (some ⟨g5, 0, none⟩) n c5) n (xs.map (Value.int .i64))) (hn : xs.length = n) (hc : n ≤ c5) :
    Kd.FK kL W (fun k => k = g5) xs [.slice (some ⟨g5, 0, none⟩) n c5] := by
  subst hn
  exact Kd.FK_slice_mk hc (Kd.N_F (Kd.R_N (base := N) (e := 3) (ok := fun k => k = g5) (Kd.R_of_own h (fun k hk => by simp only [Value.ownBlock, Option.some.injEq] at hk; exact hk.symm))))
theorem okp_g5 {N B F b1 b2 b4 : Nat} {A : Option Addr} {c : Nat} {g : List (List Int)} {s : St} {vs vk : Value} {W : World} {g5 c5 n : Nat} {xs : List Value} (h : FSN N B F b1 b2 b4 A c g s vs vk W) (ho : W.ownsRow N 3 1 (.slice (some ⟨g5, 0, none⟩) n c5) n xs) :
    ∀ k, k = g5 → (B ≤ k ∧ k ≠ F ∧ k ≠ b1 ∧ k ≠ b2 ∧ k ≠ b4 ∧ some k ≠ vs.ownBlock) ∧ some k ≠ vk.ownBlock := by
  rintro k rfl
  have h0 : N ≤ k := own_base ho k rfl
  obtain ⟨l1, l2, l3, l4⟩ := h.lt
  have hb := h.bn
  refine ⟨⟨by omega, by omega, by omega, by omega, by omega, fun e => ?_⟩, fun e => ?_⟩
  · have := h.sl k e.symm; omega
  · have := (h.kn.1 k e.symm).2; omega
theorem fresh_ok {N B F b1 b2 b4 : Nat} {A : Option Addr} {c : Nat} {g : List (List Int)} {s : St} {vs vk : Value} {W : World} (h : FSN N B F b1 b2 b4 A c g s vs vk W) :
    ∀ k, W.heap.size ≤ k → B ≤ k ∧ k ≠ F ∧ k ≠ b1 ∧ k ≠ b2 ∧ k ≠ b4 ∧ some k ≠ vs.ownBlock := by
  intro k hk
  have hF := blk_lt h.h.f
  have h1 := blk_lt h.h.x
  have h2 := blk_lt h.h.l
  have h4 := blk_lt h.h.o
  have hb := h.h.b
  refine ⟨by omega, by omega, by omega, by omega, by omega, fun e => ?_⟩
  obtain ⟨cells, hc⟩ := own_typed (Kd.own_of_R h.h.st) k e.symm
  have := blk_lt hc
  omega
set_option maxRecDepth 100000 in
set_option maxHeartbeats 8000000 in
theorem knot_any (g : List (List Int)) (A : Option Addr) (c B F b1 b2 b4 : Nat) (s : St) (n : Nat) (vs vk : Value) (W : World)
    (hfs : FS B F b1 b2 b4 A c g s vs vk W) (hn : n ∈ s.stack) (hlt : ∀ x, x ∈ s.stack → x < g.length) (hs : s.stack.length ≤ 1000) (hk : s.knots.length ≤ 1000) (hB : B ≤ W.heap.size) :
    Calls Try.prog 31 #[.pointer (some ⟨F, 0, none⟩), .int .i64 (n : Nat)] W fun e W' => e = .returned (.tuple #[]) ∧ (∃ vs' vk', FS B F b1 b2 b4 A c g (knotF n s) vs' vk' W') ∧ Below B W W' := by
  have hpos : 0 < (toI s.stack).length := by rw [toI_len]; exact List.length_pos_of_mem hn
  obtain ⟨b3, cap, rfl, hcap⟩ : ∃ b3 cap, vs = .slice (some ⟨b3, 0, none⟩) (toI s.stack).length cap ∧ (toI s.stack).length ≤ cap := by
    rcases (Kd.own_of_R hfs.st).2 with ⟨_, h0⟩ | ⟨g', cap', cur, hv, _, _, hnc, _⟩
    · omega
    · exact ⟨g', cap', hv, hnc⟩
  obtain ⟨a, ha⟩ : ∃ a, a = s.stack.idxOf n := ⟨_, rfl⟩
  have halt : a < s.stack.length := ha ▸ List.idxOf_lt_length_of_mem hn
  obtain ⟨l, hl⟩ : ∃ l, l = s.stack.drop a := ⟨_, rfl⟩
  have hll : l.length = s.stack.length - a := by rw [hl, List.length_drop]
  have hCs : kI.C W (some ⟨b3, 0, none⟩) (toI s.stack).length (toI s.stack) := by
    obtain ⟨A', c', e, _, h⟩ := Kd.R_reads hfs.st
    injection e with e1 _ _
    rw [e1]; exact h
  obtain ⟨i3, hi3, hi3s⟩ := Option.map_eq_some_iff.1 info3
  obtain ⟨A1, hcut, hcr, hcl⟩ := print_cut_int (P := Try.prog) (k := .i64) 26 3 Try.underlying26 hi3 (by injection hi3s with _ h2; injection h2) (some ⟨b3, 0, none⟩) cap (toI s.stack) (a : Int) (Int.natCast_nonneg a) (by rw [toI_len]; omega) hcap
  obtain ⟨htk, _, _⟩ := print_take_int (P := Try.prog) (k := .i64) 26 3 Try.underlying26 hi3 (by injection hi3s with _ h2; injection h2) (some ⟨b3, 0, none⟩) cap (toI s.stack) (a : Int) (Int.natCast_nonneg a) (by rw [toI_len]; omega) hcap
  have hdr : (toI s.stack).drop ((a : Int)).toNat = toI l := by rw [Int.toNat_natCast, hl]; simp [toI, List.map_drop]
  have htl : ((toI s.stack).take ((a : Int)).toNat).length = a := by rw [Int.toNat_natCast, List.length_take, toI_len]; omega
  rw [hdr] at hcut hcr hcl
  rw [htl] at htk
  rw [Int.toNat_natCast] at hcut hcl
  have hCl : kI.C W A1 (toI l).length (toI l) := Kd.C_of_reads (d := (0 : Int)) (hcr W (Kd.reads_of_C (d := (0 : Int)) hCs))
  have hidx := indexI_any s.stack n hn (some ⟨b3, 0, none⟩) cap W hCs (by omega)
  rw [← ha] at hidx
  have hclone := cloneI_any (toI l) A1 (cap - a) W hCl (by rw [toI_len]; omega)
  have HIDX := Lib.hid hidx
  have HCLONE := Lib.hid hclone
  have FS0 := Lib.hid hfs
  have HCS := Lib.hid hCs
  have HHA := Lib.hid ha
  have HHL := Lib.hid hl
  have HLT := Lib.hid (show ∀ x, x ∈ l → x < g.length from fun x hx => hlt x (List.mem_of_mem_drop (hl ▸ hx)))
  have HB := Lib.hid hB
  have HHK := Lib.hid hk
  have HAL := Lib.hid halt
  have hlp : 0 < (toI l).length := by rw [toI_len]; omega
  have hl1 : l.length ≤ 1000 := by omega
  obtain ⟨n3, hn3⟩ : ∃ m, m = (toI s.stack).length := ⟨_, rfl⟩
  have ck := hfs.cf
  rw [← hn3] at hcut htk ck HIDX hcap
  rw [toI_len] at hcut hlp HCLONE hcl
  clear hidx hclone hfs hCs hCl hcr hlt hB hk hn ha hl hi3 hi3s hdr htl hpos halt hll
  have HN3 := Lib.hid hn3
  clear hn3
  go_enter Try.func31, Try.ntmps31
  go_upto_region 1 with (first
    | (go_at_call 36; with_reducible refine HIDX.out.mono ?_; rintro x w1 ⟨rfl, hw1⟩; obtain rfl : W = w1 := hw1.symm))
  go_upto_region 2 with (first
    | (go_at_call 37; with_reducible refine HCLONE.out.mono ?_; rintro x w2 ⟨v5, rfl, hown, hb5⟩; have HOWN := Lib.hid hown; have HB5 := Lib.hid hb5; have FS1 := Lib.hid (FS0.out.lay hb5 HB.out); clear hown hb5 ck))
  have ck := FS1.out.h.cf
  rw [← HN3.out] at ck
  go_upto_region 3 with (fail)
  have fs2 : FSN W.heap.size B F b1 b2 b4 A c g { s with stack := s.stack.take a } (.slice (some ⟨b3, 0, none⟩) a cap) vk (w2.setCell ⟨F, 3, none⟩ (.slice (some ⟨b3, 0, none⟩) a cap)) := FS1.out.cut (Nat.le_of_lt HAL.out)
  have ho2 : (w2.setCell ⟨F, 3, none⟩ (.slice (some ⟨b3, 0, none⟩) a cap)).ownsRow W.heap.size 3 1 v5 l.length ((toI l).map (Value.int .i64)) := own_move HOWN.out (fun k hk => Below.heap_setCell _ _ _ _ (fun e => by
    have h1 : W.heap.size ≤ k := own_base HOWN.out k hk
    have h2 := FS1.out.lt.1
    have h3 : k = F := e
    omega))
  have hb2 : Below B W (w2.setCell ⟨F, 3, none⟩ (.slice (some ⟨b3, 0, none⟩) a cap)) := (HB5.out.mono HB.out).setCell (p := ⟨F, 3, none⟩) FS1.out.h.b.1 _
  have hn2 : W.heap.size ≤ (w2.setCell ⟨F, 3, none⟩ (.slice (some ⟨b3, 0, none⟩) a cap)).heap.size := hb2.size
  clear ck HOWN
  generalize w2.setCell ⟨F, 3, none⟩ (.slice (some ⟨b3, 0, none⟩) a cap) = W3 at fs2 ho2 hb2 hn2 ⊢
  obtain ⟨g5, c5, rfl, hc5⟩ : ∃ g5 c5, v5 = .slice (some ⟨g5, 0, none⟩) l.length c5 ∧ l.length ≤ c5 := by
    rcases ho2.2 with ⟨_, h0⟩ | ⟨g', cap', cur, hv, _, _, hnc, _⟩
    · omega
    · exact ⟨g', cap', hv, hnc⟩
  have HV0 := Lib.hid (show KL W.heap.size B F b1 b2 b4 A c g { s with stack := s.stack.take a } l (.slice (some ⟨b3, 0, none⟩) a cap) vk (.slice (some ⟨g5, 0, none⟩) l.length c5) W 0 W3 from ⟨by rw [offs_zero]; exact fs2, ho2, hb2, hn2⟩)
  clear fs2 ho2 hb2 hn2 FS1 HCLONE HIDX HCS hcut htk
  go_wp2
  go_loopg [32, 7] l.length (fun kq v32 v7 w' => ∃ (j : Nat), j + kq = l.length ∧ v32 = .int .i64 (j : Nat) ∧ Hid (KL W.heap.size B F b1 b2 b4 A c g { s with stack := s.stack.take a } l (.slice (some ⟨b3, 0, none⟩) a cap) vk (.slice (some ⟨g5, 0, none⟩) l.length c5) W j w'))
  case atStart => exact ⟨0, by omega, rfl, HV0⟩
  case round =>
    obtain ⟨j, hj, rfl, HV⟩ := hrel
    have ck := HV.out.fs.h.cf
    by_cases hlt : j < l.length
    · obtain ⟨mm, emm, hmn⟩ : ∃ mm : Nat, mm = l[j] ∧ mm < g.length := ⟨_, rfl, HLT.out _ (List.getElem_mem hlt)⟩
      have hm : wr.cell? ⟨g5, j, none⟩ = some (.int .i64 (mm : Nat)) := by
        obtain ⟨A', c', e, hC⟩ := own_reads_of (enc := Value.int .i64) (d := (0 : Int)) HV.out.own
        injection e with e1 _ _
        subst e1
        obtain ⟨ad, e2, h2⟩ := Kd.at_int (Kd.C_of_reads (d := (0 : Int)) hC) (j : Int) (Int.natCast_nonneg j) (Int.ofNat_lt.2 hlt)
        cases e2
        rw [Int.toNat_natCast, add_flat, Nat.zero_add] at h2
        rw [h2]; unfold rd; rw [Int.toNat_natCast, toI_get _ _ hlt, emm]
      have cm := HV.out.fs.h.cn hmn
      have hmm0 : (0 : Int) ≤ (mm : Int) := Int.natCast_nonneg mm
      have hw := pzK j (by omega)
      have HMM := Lib.hid emm
      obtain ⟨k1, rfl⟩ : ∃ k1, gk = k1 + 1 := ⟨gk - 1, by omega⟩
      clear emm
      go_wp2
      have hv1 : KL W.heap.size B F b1 b2 b4 A c g { s with stack := s.stack.take a } l (.slice (some ⟨b3, 0, none⟩) a cap) vk (.slice (some ⟨g5, 0, none⟩) l.length c5) W (j + 1) (wr.setCell ⟨b4, mm, none⟩ (.bool false)) := by
        refine ⟨?_, own_move HV.out.own (fun k hk => Below.heap_setCell _ _ _ _ (fun e => by
            have h1 : W.heap.size ≤ k := own_base HV.out.own k hk
            have h2 := HV.out.fs.lt.2.2.2
            have h3 : k = b4 := e
            omega)), HV.out.be.setCell (p := ⟨b4, mm, none⟩) HV.out.fs.h.b.2.2.2 _, (HV.out.be.setCell (p := ⟨b4, mm, none⟩) HV.out.fs.h.b.2.2.2 _).size⟩
        rw [offs_succ _ _ _ hlt, ← HMM.out]
        exact HV.out.fs.setOn mm false
      have HV1 := Lib.hid hv1
      clear hv1 ck cm hm
      go_roundg k1
      case measure => exact Nat.lt_succ_self _
      case rel => exact ⟨j + 1, by rw [Nat.add_assoc, Nat.add_comm 1]; exact hj, by first | rw [hw] | simp [hw], HV1⟩
    · have hje : j = l.length := by omega
      subst hje
      obtain ⟨s3, hs3⟩ : ∃ s3 : St, s3 = { s with stack := s.stack.take a, on := offs s.on l l.length } := ⟨_, rfl⟩
      have fs3 : FSN W.heap.size B F b1 b2 b4 A c g s3 (.slice (some ⟨b3, 0, none⟩) a cap) vk wr := by rw [hs3]; exact HV.out.fs
      have FS3 := Lib.hid fs3
      have HS3 := Lib.hid hs3
      have hsort := sort_own (toI l) (.slice (some ⟨g5, 0, none⟩) l.length c5) W.heap.size wr (by rw [toI_len]; exact HV.out.own) (by rw [toI_len]; omega)
      rw [srt_toI, toI_len] at hsort
      have HSORT := Lib.hid hsort
      have hkn : (s3.knots.map toI).length ≤ 1000 := by rw [hs3, List.length_map]; exact HHK.out
      have HKN := Lib.hid hkn
      clear hkn hsort fs3 hs3 ck
      go_wp2_with (first
        | (go_at_call 32; (with_reducible refine HSORT.out.mono ?_; rintro x w5 ⟨rfl, hown, hg5⟩; have fs4 : FSN W.heap.size B F b1 b2 b4 A c g s3 (.slice (some ⟨b3, 0, none⟩) a cap) vk w5 := (FS3.out.step (fun k hk => hg5.block k (Nat.lt_of_lt_of_le hk HV.out.n) (fun e => absurd (own_base hown k (show Value.ownBlock _ = some k from e.symm)) (Nat.not_le.2 hk)))); have HOWN := Lib.hid hown; have FS4 := Lib.hid fs4; have BE4 := Lib.hid (HV.out.be.grown hg5 (Nat.le_trans HB.out HV.out.n) (fun k hk => Nat.le_trans HB.out (own_base hown k hk))); have ck := fs4.h.cf; have HB5W := Lib.hid (Nat.le_trans HB.out BE4.out.size); have HLK := Lib.hid (show ((s3.knots.map toI).length + 1) * 24 ≤ 140737488355328 by have := HKN.out; omega); have HOKP := Lib.hid (okp_g5 fs4 hown); have HFRESH := Lib.hid (fresh_ok fs4); have HFK := Lib.hid (own_FK hown (by rw [toI_len]; exact (sortN_len l)) hc5); clear fs4 hown hg5))
        | ((with_reducible refine gate_builtin (b := .append) (xs := #[.tmp 49, .tmp 51]) rfl ?_); at_builtin; (refine Kd.N_append kL B rfl (.tmp 49) (.tmp 51) 22 26 (.slice none 0 0) 24 rfl Try.underlying22 infoL rfl (by decide) (by omega) vk (s3.knots.map toI) (toI (sortN l)) [.slice (some ⟨g5, 0, none⟩) l.length c5] (fun k => B ≤ k ∧ k ≠ F ∧ k ≠ b1 ∧ k ≠ b2 ∧ k ≠ b4 ∧ some k ≠ (Value.slice (some ⟨b3, 0, none⟩) a cap).ownBlock) (fun k => k = g5) rfl rfl HFK.out HOKP.out HFRESH.out FS4.out.h.kn (Below.refl B w5) HB5W.out HLK.out ?_; intro v52 w40 hn52 hb hg hat; obtain ⟨A9, c9, e9⟩ := Kd.N_slice hn52; obtain ⟨nn, hnn⟩ : ∃ nn, nn = (s3.knots.map toI ++ [toI (sortN l)]).length := ⟨_, rfl⟩; rw [← hnn] at e9; subst e9; clear hnn; have HN52 := Lib.hid hn52; have HG := Lib.hid hg; have HB40 := Lib.hid hb; have hf40 := blk_grown FS4.out.h.f hg (Kd.N_ne FS4.out.h.kn FS4.out.h.f (by decide)); have hfz := blk_frozen hf40 6; have hfc := blk_cell hf40 6; clear hn52 hb hg hat hf40 ck)))
      have hn52 := HN52.out
      rw [show s3.knots.map toI ++ [toI (sortN l)] = (s3.knots ++ [sortN l]).map toI by simp] at hn52
      obtain ⟨fs9, be9⟩ := FS4.out.h.setKnots hn52 HG.out HB40.out
      refine bodyPost_end (results_none rfl _ _ _) rfl ?_
      refine ⟨rfl, ⟨.slice (some ⟨b3, 0, none⟩) a cap, .slice A9 nn c9, ?_⟩, BE4.out.trans be9⟩
      have e : knotF n s = { s3 with knots := s3.knots ++ [sortN l] } := by
        rw [HS3.out]
        unfold knotF
        rw [offs_all, HHL.out, HHA.out]
      rw [e]
      exact fs9
end Go.Proofs.Ytejhejpkfjhmkaa.Man

namespace Go.Proofs.Ytejhejpkfjhmkaa.Man
open Go.RowKit Go.Shelf Go.Proofs.Ytejhejpkfjhmkaa.Pr Go.Proofs.YtejhejpkfjhmkaaW.PrintWords Go.Proofs.YtejhejpkfjhmkaaW.PrintMore Go.Proofs.Ytejhejpkfjhmkaa.Tarj
attribute [local go_sem] Oper.semAt_some max2_int min2_int max_two min_two
set_option linter.unusedVariables false
set_option linter.unusedSimpArgs false
theorem imin' {a b m : Nat} (h : m = min a b) : (if b < a then (b : Int) else (a : Int)) = (m : Int) := by
  split <;> omega
theorem pzS (n : Nat) (h : n ≤ 1000) : wrap64 ((n : Int) + 1) = ((n + 1 : Nat) : Int) := by simp only [wrap64]; omega
theorem stack_le {adj : Nat → List Nat} {N : Nat} {s : St} {G : List Nat} (h : tot s = s.next) (hc : cnt N s ≤ N) : s.stack.length ≤ N := by
  unfold tot at h; unfold cnt at hc; omega
theorem flat_le : ∀ (L : List (List Nat)), (∀ l, l ∈ L → l ≠ []) → L.length ≤ L.flatten.length
  | [], _ => Nat.le_refl _
  | a :: r, h => by
    have h1 := flat_le r (fun l hl => h l (List.mem_cons_of_mem _ hl))
    have h2 := List.length_pos_iff.2 (h a List.mem_cons_self)
    simp only [List.flatten_cons, List.length_append, List.length_cons]
    omega
theorem knots_le {adj : Nat → List Nat} {N : Nat} {s : St} {G : List Nat} (hi : Inv adj N s G) (h : tot s = s.next) (hc : cnt N s ≤ N) : s.knots.length ≤ N := by
  have := flat_le s.knots (fun l hl => (hi.kcl l hl).1)
  unfold tot at h; unfold cnt at hc; omega
theorem rowA {W : World} {ok : Nat → Prop} {A : Option Addr} {n : Nat} {g : List (List Int)} (h : Kd.F kL W ok A n g) (i : Nat) (hi : i < n) :
    ∃ ad A0 c0, A = some ad ∧ W.cell? (ad.add i) = some (.slice A0 (g.getD i []).length c0) ∧ (g.getD i []).length ≤ c0 ∧ Kd.F kI W ok A0 (g.getD i []).length (g.getD i []) := by
  obtain ⟨ad', c, e, hcl, hK, hcc, _⟩ := Kd.F_get h [] (i : Int) (by omega) (by omega)
  rw [Int.toNat_natCast] at hK hcc
  obtain ⟨A0, c0, rfl, hle, _⟩ := Kd.FK_now hK
  refine ⟨ad', A0, c0, e, by have hq := hcc 0 _ rfl; simpa [Kd.slice] using hq, hle, fun W' hW => ?_⟩
  obtain ⟨A1, c1, e1, _, hC⟩ := hK W' hW
  injection e1 with e2 _
  injection e2 with e3 _ _
  rw [e3]; exact hC
structure VL (B F b1 b2 b4 : Nat) (A : Option Addr) (c : Nat) (g : List (List Int)) (k : Nat) (n : Nat) (s : St) (G : List Nat) (W0 : World) (j : Nat) (t : St) (e : List Nat) (vs vk : Value) (W : World) : Prop where
  is : t = ((adjF g n).take j).foldl (stepF (visitF (adjF g) k) n) (enterF n s)
  li : LInv (adjF g) g.length n s t G ((adjF g n).take j) e
  fs : FS B F b1 b2 b4 A c g t vs vk W
  be : Below B W0 W
  ct : cnt g.length t ≤ g.length
  tt : tot t = t.next
  bz : B ≤ W.heap.size
section
variable {B F b1 b2 b4 : Nat} {A : Option Addr} {c : Nat} {g : List (List Int)} {k n : Nat} {s : St} {G : List Nat} {W0 W : World} {j : Nat} {t : St} {e : List Nat} {vs vk : Value}
theorem VL.pre (h : VL B F b1 b2 b4 A c g k n s G W0 j t e vs vk W) (hs : Inv (adjF g) g.length s G) (hn : n < g.length) (hw : whites g.length s ≤ k + 1) {m : Nat} (hm : m ∈ adjF g n) : (∀ z, z ∈ n :: G → Tarj.Rch (adjF g) z m) ∧ whites g.length t ≤ k := by
  refine ⟨fun z hz => ?_, ?_⟩
  · rcases List.mem_cons.1 hz with rfl | hz
    · exact .one hm
    · refine Tarj.Rch.trans (h.li.inv.frG z (List.mem_cons_of_mem _ hz) n (by rw [h.li.ext]; simp) ?_) (.one hm)
      rw [h.li.idn, (h.li.keep z (hs.svis z (h.li.gs z hz))).1]
      exact Nat.le_succ_of_le (hs.ile z)
  · have := whites_lt (t := t) hn (fun x hx => by rw [(h.li.keep x hx).1]; exact hx) h.li.nw (by rw [h.li.idn]; exact Nat.succ_ne_zero _)
    omega
theorem VL.next (h : VL B F b1 b2 b4 A c g k n s G W0 j t e vs vk W) (hgo : GOk g) (hs : Inv (adjF g) g.length s G) (hn : n < g.length) (hw : whites g.length s ≤ k + 1) {m : Nat} (hm : (adjF g n)[j]? = some m) {W1 : World} {vs1 vk1 : Value}
    (hfs : FS B F b1 b2 b4 A c g (stepF (visitF (adjF g) k) n t m) vs1 vk1 W1) (hb : Below B W W1) : ∃ e1, VL B F b1 b2 b4 A c g k n s G W0 (j + 1) (stepF (visitF (adjF g) k) n t m) e1 vs1 vk1 W1 := by
  obtain ⟨hj, hje⟩ := List.getElem?_eq_some_iff.1 hm
  have hmem : m ∈ adjF g n := hje ▸ List.getElem_mem hj
  have htk : (adjF g n).take (j + 1) = (adjF g n).take j ++ [m] := by rw [List.take_succ_eq_append_getElem hj, hje]
  obtain ⟨p1, p2⟩ := h.pre hs hn hw hmem
  obtain ⟨e1, he1⟩ := step_ok (vis := visitF (adjF g) k) h.li hmem (fun h0 => visit_ok hgo.adj k t (n :: G) m h.li.inv h0 (hgo.adj n hn m hmem) p1 p2)
  have hct : cnt g.length (stepF (visitF (adjF g) k) n t m) = cnt g.length t ∧ (tot t = t.next → tot (stepF (visitF (adjF g) k) n t m) = (stepF (visitF (adjF g) k) n t m).next) := by
    unfold stepF
    split
    · next h0 => exact visit_cnt hgo.adj k m t (hgo.adj n hn m hmem) h0
    · split <;> exact ⟨rfl, fun h => h⟩
  exact ⟨e1, by rw [htk, List.foldl_append, ← h.is]; rfl, by rw [htk]; exact he1, hfs, h.be.trans hb, by rw [hct.1]; exact h.ct, hct.2 h.tt, Nat.le_trans h.bz hb.size⟩
end
set_option maxRecDepth 100000 in
set_option maxHeartbeats 16000000 in
theorem visit_any (g : List (List Int)) (hgo : GOk g) (A : Option Addr) (c B F b1 b2 b4 : Nat) : ∀ (k : Nat) (s : St) (G : List Nat) (n : Nat) (vs vk : Value) (W : World),
    FS B F b1 b2 b4 A c g s vs vk W → Inv (adjF g) g.length s G → cnt g.length s ≤ g.length → tot s = s.next → s.index n = 0 → n < g.length → (∀ z, z ∈ G → Tarj.Rch (adjF g) z n) → whites g.length s ≤ k → B ≤ W.heap.size →
    Calls Try.prog 22 #[.pointer (some ⟨F, 0, none⟩), .int .i64 (n : Nat)] W fun e W' => e = .returned (.tuple #[]) ∧ (∃ vs' vk', FS B F b1 b2 b4 A c g (visitF (adjF g) k n s) vs' vk' W') ∧ Below B W W' := by
  intro k
  induction k with
  | zero =>
    intro s G n vs vk W hfs hinv hc ht h0 hn hG hw hB
    exfalso
    have : whites g.length s = 0 := Nat.le_zero.1 hw
    unfold whites at this
    rw [List.countP_eq_zero] at this
    exact this n (List.mem_range.2 hn) (by simpa using h0)
  | succ k ih =>
    intro s G n vs vk W hfs hinv hc ht h0 hn hG hw hB
    have hn0 : (0 : Int) ≤ (n : Int) := Int.natCast_nonneg n
    have hsn : s.next ≤ 1000 := by have := hgo.len; unfold cnt at hc; omega
    have hnx : wrap64 ((s.next : Int) + 1) = ((s.next + 1 : Nat) : Int) := by simp only [wrap64]; omega
    have LST := Lib.hid (show ((toI s.stack).length + 1) * 8 ≤ 140737488355328 by have := stack_le (adj := adjF g) (G := G) ht hc; have := hgo.len; simp only [toI, List.length_map]; omega)
    have IH := Lib.hid ih
    have GO := Lib.hid hgo
    have FS0 := Lib.hid hfs
    have INV := Lib.hid hinv
    have HC := Lib.hid hc
    have HT := Lib.hid ht
    have H0 := Lib.hid h0
    have HGR := Lib.hid hG
    have HW := Lib.hid hw
    have HBW := Lib.hid hB
    have ck := hfs.cf
    clear ih hgo hfs hinv hc ht h0 hG hw hB
    go_enter Try.func22, Try.ntmps22
    go_upto_region 1 with (fail)
    have h1 : FS B F b1 b2 b4 A c g { s with next := s.next + 1 } vs vk (W.setCell ⟨F, 5, none⟩ (.int .i64 ((s.next : Int) + 1))) := FS0.out.setNext (s.next + 1)
    have hb1 := (FS0.out.far F 5 (.inl rfl) (.int .i64 ((s.next : Int) + 1))).2.2.2
    clear ck
    generalize W.setCell ⟨F, 5, none⟩ (.int .i64 ((s.next : Int) + 1)) = W1 at h1 hb1 ⊢
    have HB1 := Lib.hid hb1
    clear hb1
    refine (wpIn_wide (n := 5)).1 ?_
    refine wpIn_region_any mixedO ?_
    refine wpAnyIn_flow _ (fun ix_ => match ix_ with | 0 => .pointer (some ⟨F, 0, none⟩) | 1 => .pointer (some ⟨F, 0, none⟩) | 2 => .pointer (some ⟨F, 1, none⟩) | 3 => .slice (some ⟨b1, 0, none⟩) g.length g.length | 4 => .int .i64 (n : Nat) | 5 => .pointer (some ⟨F, 0, none⟩) | 6 => .pointer (some ⟨F, 0, none⟩) | 7 => .pointer (some ⟨F, 2, none⟩) | 8 => .slice (some ⟨b2, 0, none⟩) g.length g.length | 9 => .int .i64 (n : Nat) | 10 => .pointer (some ⟨F, 0, none⟩) | 11 => .pointer (some ⟨F, 0, none⟩) | 12 => .pointer (some ⟨F, 5, none⟩) | 13 => .int .i64 ((s.next + 1 : Nat) : Int) | 14 => .pointer (some ⟨F, 0, none⟩) | 15 => .pointer (some ⟨F, 0, none⟩) | 16 => .pointer (some ⟨F, 5, none⟩) | 17 => .int .i64 ((s.next + 1 : Nat) : Int) | 18 => .pointer (some ⟨b1, n, none⟩) | 19 => undef | 20 => .pointer (some ⟨b2, n, none⟩) | 21 => undef | _ => undef) (fun done Z => FS B F b1 b2 b4 A c g ({ s with next := s.next + 1, index := if done 19 = true then Tarj.upd s.index n (s.next + 1) else s.index, low := if done 21 = true then Tarj.upd s.low n (s.next + 1) else s.low }) vs vk Z ∧ Below B W1 Z) rfl (by kernel_rfl) _ ?hzr1 ?str1 ?enr1
    case hzr1 => exact ⟨h1.below (below_drew (Below.refl _ _)), below_drew (Below.refl _ _)⟩
    case str1 =>
      intro m op done a Z ho hdn hdep hag hS K2 hK2
      have hm : m < 22 := by
        by_cases h : m < 22
        · exact h
        · rw [Array.getElem?_eq_none (by simp; omega)] at ho; cases ho
      obtain ⟨⟨zf0, zf1, zf2, zf3, zf4, zf5, zf6⟩, zr3, zr5, zr6⟩ := hS.1.cf
      obtain ⟨⟨zn1, zn2, zn4⟩, zg1, zg2, zg4⟩ := hS.1.cn hn
      obtain rfl | rfl | rfl | rfl | rfl | rfl | rfl | rfl | rfl | rfl | rfl | rfl | rfl | rfl | rfl | rfl | rfl | rfl | rfl | rfl | rfl | rfl : m = 0 ∨ m = 1 ∨ m = 2 ∨ m = 3 ∨ m = 4 ∨ m = 5 ∨ m = 6 ∨ m = 7 ∨ m = 8 ∨ m = 9 ∨ m = 10 ∨ m = 11 ∨ m = 12 ∨ m = 13 ∨ m = 14 ∨ m = 15 ∨ m = 16 ∨ m = 17 ∨ m = 18 ∨ m = 19 ∨ m = 20 ∨ m = 21 := by omega
      · cases ho
        have e0 : a.eval (.tmp 0) = .pointer (some ⟨F, 0, none⟩) := hag.keep 0 rfl
        refine opIn_value (i := 0) rfl rfl (fun c h => by cases h) rfl ?_ (hK2 Z hS)
        have ec : ∀ v, a.eval (.const v) = v := fun _ => rfl
        generalize a.eval = ev at *
        simp [execOp, go_sem, ec, e0]
      · cases ho
        have e13 := hag.val_ (j := 0) (t := 13) rfl (hdep ⟨0, .data⟩ (by simp) rfl)
        refine opIn_value (i := 1) rfl rfl (fun c h => by cases h) rfl ?_ (hK2 Z hS)
        have ec : ∀ v, a.eval (.const v) = v := fun _ => rfl
        generalize a.eval = ev at *
        simp [execOp, go_sem, ec, e13]
      · cases ho
        have e14 := hag.val_ (j := 1) (t := 14) rfl (hdep ⟨1, .data⟩ (by simp) rfl)
        refine opIn_value (i := 2) rfl rfl (fun c h => by cases h) rfl ?_ (hK2 Z hS)
        have ec : ∀ v, a.eval (.const v) = v := fun _ => rfl
        generalize a.eval = ev at *
        simp [execOp, go_sem, ec, e14]
      · cases ho
        have e15 := hag.val_ (j := 2) (t := 15) rfl (hdep ⟨2, .data⟩ (by simp) rfl)
        refine opIn_value (i := 3) rfl rfl (fun c h => by cases h) rfl ?_ (hK2 Z hS)
        have ec : ∀ v, a.eval (.const v) = v := fun _ => rfl
        generalize a.eval = ev at *
        simp [execOp, go_sem, ec, e15, zf1]
      · cases ho
        have e1 : a.eval (.tmp 1) = .int .i64 (n : Nat) := hag.keep 1 rfl
        refine opIn_value (i := 4) rfl rfl (fun c h => by cases h) rfl ?_ (hK2 Z hS)
        have ec : ∀ v, a.eval (.const v) = v := fun _ => rfl
        generalize a.eval = ev at *
        simp [execOp, go_sem, ec, e1]
      · cases ho
        have e0 : a.eval (.tmp 0) = .pointer (some ⟨F, 0, none⟩) := hag.keep 0 rfl
        refine opIn_value (i := 5) rfl rfl (fun c h => by cases h) rfl ?_ (hK2 Z hS)
        have ec : ∀ v, a.eval (.const v) = v := fun _ => rfl
        generalize a.eval = ev at *
        simp [execOp, go_sem, ec, e0]
      · cases ho
        have e18 := hag.val_ (j := 5) (t := 18) rfl (hdep ⟨5, .data⟩ (by simp) rfl)
        refine opIn_value (i := 6) rfl rfl (fun c h => by cases h) rfl ?_ (hK2 Z hS)
        have ec : ∀ v, a.eval (.const v) = v := fun _ => rfl
        generalize a.eval = ev at *
        simp [execOp, go_sem, ec, e18]
      · cases ho
        have e19 := hag.val_ (j := 6) (t := 19) rfl (hdep ⟨6, .data⟩ (by simp) rfl)
        refine opIn_value (i := 7) rfl rfl (fun c h => by cases h) rfl ?_ (hK2 Z hS)
        have ec : ∀ v, a.eval (.const v) = v := fun _ => rfl
        generalize a.eval = ev at *
        simp [execOp, go_sem, ec, e19]
      · cases ho
        have e20 := hag.val_ (j := 7) (t := 20) rfl (hdep ⟨7, .data⟩ (by simp) rfl)
        refine opIn_value (i := 8) rfl rfl (fun c h => by cases h) rfl ?_ (hK2 Z hS)
        have ec : ∀ v, a.eval (.const v) = v := fun _ => rfl
        generalize a.eval = ev at *
        simp [execOp, go_sem, ec, e20, zf2]
      · cases ho
        have e1 : a.eval (.tmp 1) = .int .i64 (n : Nat) := hag.keep 1 rfl
        refine opIn_value (i := 9) rfl rfl (fun c h => by cases h) rfl ?_ (hK2 Z hS)
        have ec : ∀ v, a.eval (.const v) = v := fun _ => rfl
        generalize a.eval = ev at *
        simp [execOp, go_sem, ec, e1]
      · cases ho
        have e0 : a.eval (.tmp 0) = .pointer (some ⟨F, 0, none⟩) := hag.keep 0 rfl
        refine opIn_value (i := 10) rfl rfl (fun c h => by cases h) rfl ?_ (hK2 Z hS)
        have ec : ∀ v, a.eval (.const v) = v := fun _ => rfl
        generalize a.eval = ev at *
        simp [execOp, go_sem, ec, e0]
      · cases ho
        have e23 := hag.val_ (j := 10) (t := 23) rfl (hdep ⟨10, .data⟩ (by simp) rfl)
        refine opIn_value (i := 11) rfl rfl (fun c h => by cases h) rfl ?_ (hK2 Z hS)
        have ec : ∀ v, a.eval (.const v) = v := fun _ => rfl
        generalize a.eval = ev at *
        simp [execOp, go_sem, ec, e23]
      · cases ho
        have e24 := hag.val_ (j := 11) (t := 24) rfl (hdep ⟨11, .data⟩ (by simp) rfl)
        refine opIn_value (i := 12) rfl rfl (fun c h => by cases h) rfl ?_ (hK2 Z hS)
        have ec : ∀ v, a.eval (.const v) = v := fun _ => rfl
        generalize a.eval = ev at *
        simp [execOp, go_sem, ec, e24]
      · cases ho
        have e25 := hag.val_ (j := 12) (t := 25) rfl (hdep ⟨12, .data⟩ (by simp) rfl)
        refine opIn_value (i := 13) rfl rfl (fun c h => by cases h) rfl ?_ (hK2 Z hS)
        have ec : ∀ v, a.eval (.const v) = v := fun _ => rfl
        generalize a.eval = ev at *
        simp [execOp, go_sem, ec, e25, zf5]
      · cases ho
        have e0 : a.eval (.tmp 0) = .pointer (some ⟨F, 0, none⟩) := hag.keep 0 rfl
        refine opIn_value (i := 14) rfl rfl (fun c h => by cases h) rfl ?_ (hK2 Z hS)
        have ec : ∀ v, a.eval (.const v) = v := fun _ => rfl
        generalize a.eval = ev at *
        simp [execOp, go_sem, ec, e0]
      · cases ho
        have e27 := hag.val_ (j := 14) (t := 27) rfl (hdep ⟨14, .data⟩ (by simp) rfl)
        refine opIn_value (i := 15) rfl rfl (fun c h => by cases h) rfl ?_ (hK2 Z hS)
        have ec : ∀ v, a.eval (.const v) = v := fun _ => rfl
        generalize a.eval = ev at *
        simp [execOp, go_sem, ec, e27]
      · cases ho
        have e28 := hag.val_ (j := 15) (t := 28) rfl (hdep ⟨15, .data⟩ (by simp) rfl)
        refine opIn_value (i := 16) rfl rfl (fun c h => by cases h) rfl ?_ (hK2 Z hS)
        have ec : ∀ v, a.eval (.const v) = v := fun _ => rfl
        generalize a.eval = ev at *
        simp [execOp, go_sem, ec, e28]
      · cases ho
        have e29 := hag.val_ (j := 16) (t := 29) rfl (hdep ⟨16, .data⟩ (by simp) rfl)
        refine opIn_value (i := 17) rfl rfl (fun c h => by cases h) rfl ?_ (hK2 Z hS)
        have ec : ∀ v, a.eval (.const v) = v := fun _ => rfl
        generalize a.eval = ev at *
        simp [execOp, go_sem, ec, e29, zf5]
      · cases ho
        have e16 := hag.val_ (j := 3) (t := 16) rfl (hdep ⟨3, .data⟩ (by simp) rfl)
        have e17 := hag.val_ (j := 4) (t := 17) rfl (hdep ⟨4, .data⟩ (by simp) rfl)
        refine opIn_value (i := 18) rfl rfl (fun c h => by cases h) ?_ ?_ (hK2 Z hS)
        · generalize a.eval = ev at *
          simp [Oper.about, resolve, Target.leads, Sem.run_pure, go_sem, e16, e17, hn, hn0]
        · have ec : ∀ v, a.eval (.const v) = v := fun _ => rfl
          generalize a.eval = ev at *
          simp [execOp, go_sem, ec, e16, e17, hn, hn0]
      · cases ho
        have e31 := hag.val_ (j := 18) (t := 31) rfl (hdep ⟨18, .data⟩ (by simp) rfl)
        have e26 := hag.val_ (j := 13) (t := 26) rfl (hdep ⟨13, .data⟩ (by simp) rfl)
        refine wpOpIn_skip (i := 19) rfl rfl (fun c h => by cases h) rfl (w' := Z.setCell ⟨b1, n, none⟩ (.int .i64 ((s.next + 1 : Nat) : Int))) ?_ (hK2 _ (⟨by simpa [Man.upd, hdn] using hS.1.setIndex n (s.next + 1), hS.2.trans (hS.1.far b1 n (.inr (.inl rfl)) _).2.2.2⟩))
        have ec : ∀ v, a.eval (.const v) = v := fun _ => rfl
        generalize a.eval = ev at *
        simp [execOp, go_sem, ec, e31, e26, zn1, zg1]
      · cases ho
        have e21 := hag.val_ (j := 8) (t := 21) rfl (hdep ⟨8, .data⟩ (by simp) rfl)
        have e22 := hag.val_ (j := 9) (t := 22) rfl (hdep ⟨9, .data⟩ (by simp) rfl)
        refine opIn_value (i := 20) rfl rfl (fun c h => by cases h) ?_ ?_ (hK2 Z hS)
        · generalize a.eval = ev at *
          simp [Oper.about, resolve, Target.leads, Sem.run_pure, go_sem, e21, e22, hn, hn0]
        · have ec : ∀ v, a.eval (.const v) = v := fun _ => rfl
          generalize a.eval = ev at *
          simp [execOp, go_sem, ec, e21, e22, hn, hn0]
      · cases ho
        have e32 := hag.val_ (j := 20) (t := 32) rfl (hdep ⟨20, .data⟩ (by simp) rfl)
        have e30 := hag.val_ (j := 17) (t := 30) rfl (hdep ⟨17, .data⟩ (by simp) rfl)
        refine wpOpIn_skip (i := 21) rfl rfl (fun c h => by cases h) rfl (w' := Z.setCell ⟨b2, n, none⟩ (.int .i64 ((s.next + 1 : Nat) : Int))) ?_ (hK2 _ (⟨by simpa [Man.upd, hdn] using hS.1.setLow n (s.next + 1), hS.2.trans (hS.1.far b2 n (.inr (.inr (.inl rfl))) _).2.2.2⟩))
        have ec : ∀ v, a.eval (.const v) = v := fun _ => rfl
        generalize a.eval = ev at *
        simp [execOp, go_sem, ec, e32, e30, zn2, zg2]
    case enr1 =>
      intro Z1 done hdn hS
      simp only [putTmps, dstOf, List.size_toArray, List.length_cons, List.length_nil, Nat.reduceAdd, List.getElem?_toArray, List.getElem?_cons_zero, List.getElem?_cons_succ, Option.bind_some, List.setIfInBounds_toArray, List.set_cons_zero, List.set_cons_succ]
      obtain ⟨fs1, be1⟩ := hS
      simp only [hdn 19 (by decide), hdn 21 (by decide), if_true] at fs1
      have FS1 := Lib.hid fs1
      have BE1 := Lib.hid (HB1.out.trans be1)
      have HBZ := Lib.hid (show B ≤ Z1.heap.size from Nat.le_trans HBW.out BE1.out.size)
      have ST1 := Lib.hid fs1.st
      have FR1 := Lib.hid (show ∀ q, Z1.heap.size ≤ q → q ≠ b1 ∧ q ≠ b2 from fun q hq => ⟨fun x => absurd (blk_lt fs1.x) (Nat.not_lt.2 (x ▸ hq)), fun x => absurd (blk_lt fs1.l) (Nat.not_lt.2 (x ▸ hq))⟩)
      have ck := fs1.cf
      clear fs1 be1 hdn h1
      go_upto_region 3 with (first
        | ((with_reducible refine gate_builtin (b := .append) (xs := #[.tmp 37, .tmp 39]) rfl ?_); at_builtin; refine Kd.R_append kI B rfl (.tmp 37) (.tmp 39) 26 3 (.int .i64 0) 8 rfl Try.underlying26 info3 rfl (by decide) (by omega) vs (toI s.stack) (n : Int) [.int .i64 (n : Nat)] (fun k => k ≠ b1 ∧ k ≠ b2) (fun _ => False) rfl rfl ?mk (fun _ h => h.elim) FR1.out ST1.out (Below.refl B Z1) HBZ.out LST.out ?_; (case mk => rfl); intro v40 w40 ho hb hg hat; obtain ⟨A9, c9, e9, _, _⟩ := Kd.R_reads ho; obtain ⟨nn, hnn⟩ : ∃ nn, nn = (toI s.stack ++ [(n : Int)]).length := ⟨_, rfl⟩; rw [← hnn] at e9; subst e9; clear hnn; have HO := Lib.hid ho; have HG := Lib.hid hg; have HAT := Lib.hid hat; have HB40 := Lib.hid hb; have hf40 := blk_grown FS1.out.f hg FS1.out.nsF; have hfz := blk_frozen hf40 3; have hfc := blk_cell hf40 3; clear ho hb hg hat hf40 ck))
      have ho2 : kI.R 3 w40 B (fun q => q ≠ b1 ∧ q ≠ b2) (.slice A9 nn c9) (toI (s.stack ++ [n])) := by have := HO.out; simpa [toI] using this
      obtain ⟨fs2, be2⟩ := FS1.out.setStack ho2 HG.out HAT.out HB40.out
      clear hfz hfc ho2
      generalize w40.setCell ⟨F, 3, none⟩ (.slice A9 nn c9) = W3 at fs2 be2 ⊢
      have FS2 := Lib.hid fs2
      have BE2 := Lib.hid (BE1.out.trans be2)
      have ck := fs2.cf
      have cn := fs2.cn hn
      clear fs2 be2 HO HG HAT HB40 ST1 FR1 FS1 LST
      go_upto_region 4 with (fail)
      have fs3 : FS B F b1 b2 b4 A c g (enterF n s) (.slice A9 nn c9) vk (W3.setCell ⟨b4, n, none⟩ (.bool true)) := FS2.out.setOn n true
      have be3 := (FS2.out.far b4 n (.inr (.inr (.inr rfl))) (.bool true)).2.2.2
      clear ck cn
      generalize W3.setCell ⟨b4, n, none⟩ (.bool true) = W4 at fs3 be3 ⊢
      obtain ⟨ad, A0, c0, eA, hrow, hle, hF0⟩ := rowA fs3.gF n hn
      subst eA
      obtain ⟨row, hrw⟩ : ∃ r, r = g.getD n [] := ⟨_, rfl⟩
      rw [← hrw] at hrow hle hF0
      have FS3 := Lib.hid fs3
      have BE3 := Lib.hid (BE2.out.trans be3)
      have FR := Lib.hid hF0
      have RW := Lib.hid hrw
      have hrl : row.length ≤ 1000 := by rw [hrw]; exact GO.out.row n
      have ck := fs3.cf
      have HV0 := Lib.hid (show VL B F b1 b2 b4 (some ad) c g k n s G W 0 (enterF n s) [] (.slice A9 nn c9) vk W4 from ⟨rfl, by simpa using enter_ok INV.out H0.out hn HGR.out, FS3.out, BE3.out, by
        have := whites_enter hn H0.out
        have h2 := HC.out
        unfold cnt at h2 ⊢
        show s.next + 1 + _ ≤ _
        omega, by
        have := HT.out
        simp only [tot, enterF, List.length_append, List.length_cons, List.length_nil] at this ⊢
        omega, Nat.le_trans HBW.out BE3.out.size⟩)
      clear hF0 hrw fs3 be3
      go_wp2
      clear ck hrow
      go_loopg [57, 5] row.length (fun kq v57 v5 w' => ∃ (j : Nat) (t : St) (e : List Nat) (vs' vk' : Value), j + kq = row.length ∧ v57 = .int .i64 (j : Nat) ∧ Hid (VL B F b1 b2 b4 (some ad) c g k n s G W j t e vs' vk' w'))
      case atStart => exact ⟨0, _, _, _, _, by omega, rfl, HV0⟩
      case round =>
        obtain ⟨j, t, e, vs2, vk2, hj, rfl, HV⟩ := hrel
        have FW := Lib.hid (Kd.F_step (W1 := wr) FR.out (fun q hq _ => (HV.out.be.block q hq).trans (BE3.out.block q hq).symm))
        have ck := HV.out.fs.cf
        have cn := HV.out.fs.cn hn
        by_cases hlt : j < row.length
        · obtain ⟨ad0, eA0, hm⟩ := Kd.at_int (Kd.F_now FW.out) (j : Int) (Int.natCast_nonneg j) (Int.ofNat_lt.2 hlt)
          subst eA0
          rw [Int.toNat_natCast] at hm
          obtain ⟨mm, emm, hmn, hmj⟩ : ∃ mm : Nat, rd row (j : Int) = (mm : Int) ∧ mm < g.length ∧ (adjF g n)[j]? = some mm := by
            have RW' := RW.out
            have hlt' : j < (g.getD n []).length := by rw [← RW']; exact hlt
            obtain ⟨m0, m1⟩ := GO.out.ent n hn _ (List.getElem_mem hlt')
            refine ⟨((g.getD n [])[j]).toNat, ?_, by omega, by unfold adjF; rw [List.getElem?_map, List.getElem?_eq_getElem hlt']; rfl⟩
            unfold rd; rw [RW', Int.toNat_natCast, List.getD_eq_getElem?_getD (l := g.getD n []), List.getElem?_eq_getElem hlt', Option.getD_some]; omega
          rw [emm] at hm
          clear emm
          have HMJ := Lib.hid hmj
          have hmm0 : (0 : Int) ≤ (mm : Int) := Int.natCast_nonneg mm
          have cm := HV.out.fs.cn hmn
          have hw := pzS j (Nat.le_trans (Nat.le_of_lt hlt) hrl)
          obtain ⟨k1, rfl⟩ : ∃ k1, gk = k1 + 1 := ⟨gk - 1, by omega⟩
          have hmem : mm ∈ adjF g n := by obtain ⟨a, b⟩ := List.getElem?_eq_some_iff.1 hmj; exact b ▸ List.getElem_mem a
          clear hmj
          by_cases hi0 : t.index mm = 0
          · have hib : ((t.index mm : Int) == 0) = true := by rw [hi0]; rfl
            obtain ⟨p1, p2⟩ := HV.out.pre INV.out hn HW.out hmem
            have hcall := IH.out t (n :: G) mm vs2 vk2 wr HV.out.fs HV.out.li.inv HV.out.ct HV.out.tt hi0 hmn p1 p2 HV.out.bz
            obtain ⟨t2, ht2⟩ : ∃ t2, t2 = visitF (adjF g) k mm t := ⟨_, rfl⟩
            rw [← ht2] at hcall
            have HCALL := Lib.hid hcall
            have HI0 := Lib.hid hi0
            have HT2 := Lib.hid ht2
            clear hcall p1 p2 ht2 hi0 hmem
            go_upto_region 9 with (first
              | (go_at_call 22; with_reducible refine HCALL.out.mono ?_; rintro x w2 ⟨rfl, ⟨vs3, vk3, hfs3⟩, hbe3⟩; clear ck cn cm; have FS4 := Lib.hid hfs3; have BE4 := Lib.hid hbe3; have ck := hfs3.cf; have cn := hfs3.cn hn; have cm := hfs3.cn hmn; clear hfs3 hbe3))
            obtain ⟨mv, hmv⟩ : ∃ mv, mv = min (t2.low n) (t2.low mm) := ⟨_, rfl⟩
            have hmin := imin' hmv
            have HMV := Lib.hid hmv
            clear hmv
            go_still_tail 21, mixedO
            change wpList _ _ _ _ _ (World.drew w2)
            have fs5 := FS4.out.below (below_drew (Below.refl w2.heap.size w2))
            have be5 := BE4.out.trans (below_drew (Below.refl B w2))
            clear ck cn cm
            generalize World.drew w2 = w5 at fs5 be5 ⊢
            have ck := fs5.cf
            have cn := fs5.cn hn
            have FS5 := Lib.hid fs5
            have BE5 := Lib.hid be5
            clear fs5 be5
            go_wp2
            have fs6 : FS B F b1 b2 b4 (some ad) c g (stepF (visitF (adjF g) k) n t mm) vs3 vk3 (w5.setCell ⟨b2, n, none⟩ (.int .i64 (mv : Nat))) := by
              unfold stepF; rw [if_pos HI0.out, ← HT2.out, ← HMV.out]; exact FS5.out.setLow n _
            obtain ⟨e1, hv1⟩ := HV.out.next GO.out INV.out hn HW.out HMJ.out fs6 (BE5.out.trans (FS5.out.far b2 n (.inr (.inr (.inl rfl))) _).2.2.2)
            have HV1 := Lib.hid hv1
            clear hv1 fs6 hmin ck cn
            go_roundg k1
            case measure => exact Nat.lt_succ_self _
            case rel => exact ⟨j + 1, _, e1, _, _, by rw [Nat.add_assoc, Nat.add_comm 1]; exact hj, by first | rw [hw] | simp [hw], HV1⟩
          · have hib : ((t.index mm : Int) == 0) = false := by simpa using hi0
            have HI0 := Lib.hid hi0
            clear hi0 hmem
            by_cases hon : t.on mm = true
            · have HON := Lib.hid hon
              rw [hon] at cm
              clear hon
              go_upto_region 11 with (fail)
              obtain ⟨mv, hmv⟩ : ∃ mv, mv = min (t.low n) (t.index mm) := ⟨_, rfl⟩
              have hmin := imin' hmv
              have HMV := Lib.hid hmv
              clear hmv
              go_still_tail 21, mixedO
              change wpList _ _ _ _ _ (World.drew wr)
              have fs5 := HV.out.fs.below (below_drew (Below.refl wr.heap.size wr))
              have be5 := below_drew (Below.refl B wr)
              clear ck cn cm hm
              generalize World.drew wr = w5 at fs5 be5 ⊢
              have ck := fs5.cf
              have cn := fs5.cn hn
              have FS5 := Lib.hid fs5
              have BE5 := Lib.hid be5
              clear fs5 be5
              go_wp2
              have fs6 : FS B F b1 b2 b4 (some ad) c g (stepF (visitF (adjF g) k) n t mm) vs2 vk2 (w5.setCell ⟨b2, n, none⟩ (.int .i64 (mv : Nat))) := by
                unfold stepF; rw [if_neg HI0.out, if_pos HON.out, ← HMV.out]; exact FS5.out.setLow n _
              obtain ⟨e1, hv1⟩ := HV.out.next GO.out INV.out hn HW.out HMJ.out fs6 (BE5.out.trans (FS5.out.far b2 n (.inr (.inr (.inl rfl))) _).2.2.2)
              have HV1 := Lib.hid hv1
              clear hv1 fs6 hmin ck cn
              go_roundg k1
              case measure => exact Nat.lt_succ_self _
              case rel => exact ⟨j + 1, _, e1, _, _, by rw [Nat.add_assoc, Nat.add_comm 1]; exact hj, by first | rw [hw] | simp [hw], HV1⟩
            · have HON := Lib.hid hon
              have honf : t.on mm = false := by simpa using hon
              rw [honf] at cm
              clear hon honf
              go_wp2
              have fs6 : FS B F b1 b2 b4 (some ad) c g (stepF (visitF (adjF g) k) n t mm) vs2 vk2 wr := by
                unfold stepF; rw [if_neg HI0.out, if_neg HON.out]; exact HV.out.fs
              obtain ⟨e1, hv1⟩ := HV.out.next GO.out INV.out hn HW.out HMJ.out fs6 (Below.refl B wr)
              have HV1 := Lib.hid hv1
              clear hv1 fs6 ck cn cm hm
              go_roundg k1
              case measure => exact Nat.lt_succ_self _
              case rel => exact ⟨j + 1, _, e1, _, _, by rw [Nat.add_assoc, Nat.add_comm 1]; exact hj, by first | rw [hw] | simp [hw], HV1⟩
        · have hje : j = row.length := by omega
          have hlen : (adjF g n).length = row.length := by rw [RW.out]; simp [adjF]
          have hli : LInv (adjF g) g.length n s t G (adjF g n) e := by have := HV.out.li; rwa [hje, ← hlen, List.take_length] at this
          have hst : n ∈ t.stack := by rw [hli.ext]; simp
          have hvs : visitF (adjF g) (k + 1) n s = leaveF n t := by
            show leaveF n ((adjF g n).foldl (stepF (visitF (adjF g) k) n) (enterF n s)) = _
            rw [HV.out.is, hje, ← hlen, List.take_length]
          have HVS := Lib.hid hvs
          have HST := Lib.hid hst
          clear hli hvs hst hlen hje
          by_cases hl : t.low n = t.index n
          · have hlb : ((t.low n : Int) == (t.index n : Int)) = true := by rw [hl]; simp
            have HLF := Lib.hid (show leaveF n t = knotF n t by unfold leaveF; rw [if_pos hl])
            clear hl
            go_upto_region 13 with (fail)
            go_quiet (fail)
            have fs5 := HV.out.fs.below (pw_below_drewN (Below.refl wr.heap.size wr) nq)
            have be5 := pw_below_drewN (Below.refl B wr) nq
            have FS5 := Lib.hid fs5
            have BE5 := Lib.hid be5
            clear ck cn fs5 be5
            have hkc := knot_any g (some ad) c B F b1 b2 b4 t n vs2 vk2 (wr.drewN nq) FS5.out HST.out (fun x hx => HV.out.li.inv.vlt x (HV.out.li.inv.svis x hx)) (by have := stack_le (adj := adjF g) (G := G) HV.out.tt HV.out.ct; have := GO.out.len; omega) (by have := knots_le HV.out.li.inv HV.out.tt HV.out.ct; have := GO.out.len; omega) (Nat.le_trans HV.out.bz BE5.out.size)
            rw [← HLF.out, ← HVS.out] at hkc
            have HKC := Lib.hid hkc
            clear hkc
            go_wp2_with (first
              | (go_at_call 31; with_reducible refine HKC.out.mono ?_; rintro x w6 ⟨rfl, hfin, hbe6⟩; have HFIN := Lib.hid hfin; have BE6 := Lib.hid hbe6; clear hfin hbe6))
            refine bodyPost_end (results_none rfl _ _ _) rfl ?_
            exact ⟨rfl, HFIN.out, (HV.out.be.trans BE5.out).trans BE6.out⟩
          · have hlb : ((t.low n : Int) == (t.index n : Int)) = false := by simpa using (fun h => hl (by omega))
            have HLF := Lib.hid (show leaveF n t = t by unfold leaveF; rw [if_neg hl])
            clear hl
            go_upto_region 13 with (fail)
            go_quiet (fail)
            have fs5 := HV.out.fs.below (pw_below_drewN (Below.refl wr.heap.size wr) nq)
            have be5 := pw_below_drewN (Below.refl B wr) nq
            have FS5 := Lib.hid fs5
            have BE5 := Lib.hid be5
            clear ck cn fs5 be5
            go_wp2
            refine bodyPost_end (results_none rfl _ _ _) rfl ?_
            exact ⟨rfl, ⟨vs2, vk2, by rw [HVS.out, HLF.out]; exact FS5.out⟩, HV.out.be.trans BE5.out⟩
end Go.Proofs.Ytejhejpkfjhmkaa.Man

namespace Go.Proofs.Ytejhejpkfjhmkaa.Man
open Go.RowKit Go.Shelf Go.Proofs.Ytejhejpkfjhmkaa.Pr Go.Proofs.YtejhejpkfjhmkaaW.PrintWords Go.Proofs.Ytejhejpkfjhmkaa.Tarj
set_option linter.unusedVariables false
set_option linter.unusedSimpArgs false
def vals (N : Nat) (f : Nat → Value) : Array Value := ((List.range N).map f).toArray
theorem vals_set (N : Nat) (f : Nat → Value) (n : Nat) (v : Value) : (vals N f).setIfInBounds n v = vals N (Tarj.upd f n v) := by
  unfold vals
  rw [List.setIfInBounds_toArray, range_set]
theorem vals_get {N n : Nat} (f : Nat → Value) (h : n < N) : (vals N f)[n]? = some (f n) := by simp [vals, h]
structure FD (B bo M : Nat) (v : Nat → Value) (r : Nat → List Nat) (W : World) : Prop where
  o : W.heap[bo]? = some (.cells (vals M v) 26 (0, 0))
  r : ∀ i, i < M → kI.R 3 W B (fun k => k ≠ bo) (v i) (toI (r i))
  d : ∀ i j, i < M → j < M → i ≠ j → ∀ k, (v i).ownBlock = some k → (v j).ownBlock ≠ some k
  b : B ≤ bo
section
variable {B bo M : Nat} {v : Nat → Value} {r : Nat → List Nat} {W W1 : World}
theorem FD.below (h : FD B bo M v r W) (hb : Below W.heap.size W W1) : FD B bo M v r W1 :=
  ⟨blk_below h.o hb, fun i hi => Kd.R_below (h.r i hi) hb, h.d, h.b⟩
theorem FD.lt (h : FD B bo M v r W) {i : Nat} (hi : i < M) : ∀ k, (v i).ownBlock = some k → B ≤ k ∧ k < W.heap.size := fun k hk => by
  have ho := Kd.own_of_R (h.r i hi)
  obtain ⟨cells, hc⟩ := own_typed ho k hk
  exact ⟨own_base ho k hk, blk_lt hc⟩
theorem FD.ne (h : FD B bo M v r W) {i : Nat} (hi : i < M) : some bo ≠ (v i).ownBlock := fun e => (h.r i hi).1 bo e.symm rfl
theorem FD.put (h : FD B bo M v r W) {i : Nat} (hi : i < M) {v1 : Value} {xs : List Nat} (hr : kI.R 3 W1 B (fun k => k ≠ bo) v1 (toI xs)) (hg : W.grownBy W1 (v i).ownBlock) (hat : v1.ownBlock = (v i).ownBlock ∨ ∃ b, v1.ownBlock = some b ∧ W.heap.size ≤ b) :
    FD B bo M (Tarj.upd v i v1) (Tarj.upd r i xs) (W1.setCell ⟨bo, i, none⟩ v1) := by
  have ho := blk_grown h.o hg (h.ne hi)
  refine ⟨blk_put ho i _ (vals_set _ _ _ _), fun j hj => ?_, fun a b ha hb hne k hk => ?_, h.b⟩
  · by_cases e : j = i
    · subst e
      simp only [Tarj.upd, if_true]
      exact Kd.R_far (p := ⟨bo, j, none⟩) hr (fun k hk => hk) _
    · simp only [Tarj.upd, if_neg e]
      refine Kd.R_far (p := ⟨bo, i, none⟩) ?_ (fun k hk => hk) _
      refine Kd.R_mono (Kd.R_grown (Kd.R_reok (ok := fun k => some k = (v j).ownBlock) rfl (h.r j hj) (fun k hk => hk.symm)) hg (fun k hk e2 => h.d j i hj hi e k hk.symm e2.symm)) (fun k hk => (h.r j hj).1 k hk.symm)
  · simp only [Tarj.upd] at hk ⊢
    split at hk
    · next ea =>
      subst ea
      rw [if_neg (fun e => hne e.symm)]
      rcases hat with hat | ⟨q, hq, hle⟩
      · rw [hat] at hk; exact h.d a b ha hb hne k hk
      · rw [hq] at hk
        intro e
        have := (h.lt hb k e).2
        injection hk with hk
        omega
    · next ea =>
      by_cases eb : b = i
      · subst eb
        rw [if_pos rfl]
        rcases hat with hat | ⟨q, hq, hle⟩
        · rw [hat]; exact h.d a b ha hb hne k hk
        · rw [hq]
          intro e
          have := (h.lt ha k hk).2
          injection e with e
          omega
      · rw [if_neg eb]; exact h.d a b ha hb hne k hk
theorem FD.put_below (h : FD B bo M v r W) {i : Nat} (hi : i < M) (v1 : Value) (hg : W.grownBy W1 (v i).ownBlock) (hbb : Below B W W1) : Below B W (W1.setCell ⟨bo, i, none⟩ v1) := hbb.setCell (p := ⟨bo, i, none⟩) h.b _
theorem FD.reads (h : FD B bo M v r W) (hM : M ≤ 1000) : kL.C W (some ⟨bo, 0, none⟩) M ((List.range M).map fun i => toI (r i)) := by
  refine ⟨by simp, by omega, fun hp => ⟨⟨bo, 0, none⟩, rfl, fun j x hx => ?_⟩⟩
  obtain ⟨hj, rfl⟩ := List.getElem?_eq_some_iff.1 hx
  have hj' : j < M := by simpa using hj
  obtain ⟨A, c, e, hl, hC⟩ := Kd.R_reads (h.r j hj')
  simp only [List.getElem_map, List.getElem_range]
  refine ⟨[v j], rfl, ⟨A, c, by rw [e], hl, hC⟩, fun i u hu => ?_⟩
  match i, hu with
  | 0, hu =>
    simp only [List.getElem?_cons_zero, Option.some.injEq] at hu
    subst hu
    rw [add_flat]
    have : 0 + (j * kL.sz + 0) = j := by show 0 + (j * 1 + 0) = j; omega
    rw [this]
    exact (blk_cell h.o j).trans (vals_get _ hj')
theorem FD.cell (h : FD B bo M v r W) {i : Nat} (hi : i < M) : W.cell? ⟨bo, i, none⟩ = some (v i) ∧ W.frozen? ⟨bo, i, none⟩ = false := ⟨(blk_cell h.o i).trans (vals_get _ hi), blk_frozen h.o i⟩
theorem FD.made (hB : B ≤ W.heap.size) : FD B W.heap.size M (fun _ => .slice none 0 0) (fun _ => []) (W.alloc (.cells (vals M (fun _ => .slice none 0 0)) 26)) :=
  ⟨World.alloc_heap_new W _, fun i _ => Kd.R_nil _ _ _ _ _, fun i j _ _ _ k hk => by simp [Value.ownBlock] at hk, hB⟩
end
end Go.Proofs.Ytejhejpkfjhmkaa.Man

namespace Go.Proofs.Ytejhejpkfjhmkaa.Man
open Go.RowKit Go.Shelf Go.Proofs.Ytejhejpkfjhmkaa.Pr Go.Proofs.YtejhejpkfjhmkaaW.PrintWords Go.Proofs.YtejhejpkfjhmkaaW.PrintMore Go.Proofs.Ytejhejpkfjhmkaa.Tarj
attribute [local go_sem] Oper.semAt_some
set_option linter.unusedVariables false
set_option linter.unusedSimpArgs false
structure RS (B R bl K : Nat) (lw : Nat → Nat) (v : Value) (l : List Nat) (W : World) : Prop where
  r : W.heap[R]? = some (.cells #[v, .slice (some ⟨bl, 0, none⟩) K K] 43 (0, 0))
  lo : W.heap[bl]? = some (.cells (ints K lw) 3 (0, 0))
  st : kI.R 3 W B (fun _ => True) v (toI l)
  mem : ∀ x, x ∈ l → x < K
  b : B ≤ R
  bl : bl < B
  len : l.length ≤ 1000
structure Ht (B R : Nat) (W : World) (v : Value) (W' : World) (v' : Value) : Prop where
  be : Below B W W'
  bk : ∀ k, k < W.heap.size → k ≠ R → some k ≠ v.ownBlock → W'.heap[k]? = W.heap[k]?
  at_ : v'.ownBlock = v.ownBlock ∨ ∃ b, v'.ownBlock = some b ∧ W.heap.size ≤ b
section
variable {B R bl K : Nat} {lw : Nat → Nat} {v v1 v2 : Value} {l : List Nat} {W W1 W2 : World}
theorem Ht.refl (B R : Nat) (W : World) (v : Value) : Ht B R W v W v := ⟨Below.refl _ _, fun _ _ _ _ => rfl, .inl rfl⟩
theorem Ht.trans (h : Ht B R W v W1 v1) (k : Ht B R W1 v1 W2 v2) : Ht B R W v W2 v2 := by
  refine ⟨h.be.trans k.be, fun i hi hR hv => (k.bk i (Nat.lt_of_lt_of_le hi h.be.size) hR (fun e => ?_)).trans (h.bk i hi hR hv), ?_⟩
  · rcases h.at_ with a | ⟨b, a, hb⟩
    · rw [a] at e; exact hv e
    · rw [a] at e; injection e with e; omega
  · rcases k.at_ with a | ⟨b, a, hb⟩
    · rw [a]; exact h.at_
    · exact .inr ⟨b, a, Nat.le_trans h.be.size hb⟩
theorem Ht.drew (h : Ht B R W v W1 v1) (n : Nat) : Ht B R W v (W1.drewN n) v1 := h.trans ⟨pw_below_drewN (Below.refl _ _) n, fun _ _ _ _ => rfl, .inl rfl⟩
theorem RS.below (h : RS B R bl K lw v l W) (hb : Below W.heap.size W W1) : RS B R bl K lw v l W1 :=
  ⟨blk_below h.r hb, blk_below h.lo hb, Kd.R_below h.st hb, h.mem, h.b, h.bl, h.len⟩
theorem RS.drew (h : RS B R bl K lw v l W) (n : Nat) : RS B R bl K lw v l (W.drewN n) := h.below (pw_below_drewN (Below.refl _ _) n)
theorem RS.nR (h : RS B R bl K lw v l W) : some R ≠ v.ownBlock := Kd.R_ne h.st h.r (by decide)
theorem RS.nl (h : RS B R bl K lw v l W) : some bl ≠ v.ownBlock := fun e => by
  have := own_base (Kd.own_of_R h.st) bl e.symm
  have := h.bl
  omega
theorem RS.cf (h : RS B R bl K lw v l W) : W.cell? ⟨R, 0, none⟩ = some v ∧ W.cell? ⟨R, 1, none⟩ = some (.slice (some ⟨bl, 0, none⟩) K K) ∧ W.frozen? ⟨R, 0, none⟩ = false :=
  ⟨(blk_cell h.r 0).trans rfl, (blk_cell h.r 1).trans rfl, blk_frozen h.r 0⟩
theorem RS.lwc (h : RS B R bl K lw v l W) {x : Nat} (hx : x < K) : W.cell? ⟨bl, x, none⟩ = some (.int .i64 (lw x : Nat)) := (blk_cell h.lo x).trans (ints_get _ hx)
theorem RS.form (h : RS B R bl K lw v l W) (hp : 0 < l.length) : ∃ g cap, v = .slice (some ⟨g, 0, none⟩) l.length cap ∧ l.length ≤ cap ∧ (∀ i (hi : i < l.length), W.cell? ⟨g, i, none⟩ = some (.int .i64 (l[i] : Nat)) ∧ W.frozen? ⟨g, i, none⟩ = false) := by
  have ho := Kd.own_of_R h.st
  rcases ho.2 with ⟨rfl, h0⟩ | ⟨g, cap, cur, rfl, hb, hh, hn, hc, ht⟩
  · rw [toI_len] at h0; omega
  · rw [toI_len] at hn
    refine ⟨g, cap, by rw [toI_len], hn, fun i hi => ⟨?_, blk_frozen hh i⟩⟩
    obtain ⟨A, c, e, _, hC⟩ := Kd.R_reads h.st
    injection e with e1 _ _
    subst e1
    obtain ⟨ad, e2, hm⟩ := Kd.at_int hC (i : Int) (Int.natCast_nonneg i) (by rw [toI_len]; exact Int.ofNat_lt.2 hi)
    cases e2
    rw [Int.toNat_natCast, add_flat, Nat.zero_add] at hm
    rw [hm]; unfold rd; rw [Int.toNat_natCast, toI_get _ _ hi]
theorem RS.turn (h : RS B R bl K lw v l W) {l1 : List Nat} (hr : kI.R 3 W1 B (fun _ => True) v1 (toI l1)) (hg : W.grownBy W1 v.ownBlock) (hat : v1.ownBlock = v.ownBlock ∨ ∃ b, v1.ownBlock = some b ∧ W.heap.size ≤ b) (hbb : Below B W W1) (hm : ∀ x, x ∈ l1 → x < K) (hl : l1.length ≤ 1000) :
    RS B R bl K lw v1 l1 (W1.setCell ⟨R, 0, none⟩ v1) ∧ Ht B R W v (W1.setCell ⟨R, 0, none⟩ v1) v1 := by
  have hb := h.b
  have hlt := h.bl
  have hf := blk_grown h.r hg h.nR
  have n1 : some R ≠ v1.ownBlock := Kd.R_ne hr hf (by decide)
  refine ⟨⟨blk_put hf 0 _ rfl, blk_far (blk_grown h.lo hg h.nl) (show bl ≠ R by omega) _, ?_, hm, h.b, h.bl, hl⟩, hbb.setCell (p := ⟨R, 0, none⟩) hb _, fun k hk hR hv => ?_, hat⟩
  · exact Kd.R_mono (Kd.R_far (p := ⟨R, 0, none⟩) (Kd.R_reok (ok := fun k => some k = v1.ownBlock) rfl hr (fun k hk => hk.symm)) (fun k hk e => n1 (by rw [← hk]; exact congrArg some (show R = k from e.symm))) _) (fun _ _ => trivial)
  · rw [Below.heap_setCell _ _ _ _ hR]; exact hg.block k hk hv
end
end Go.Proofs.Ytejhejpkfjhmkaa.Man

namespace Go.Proofs.Ytejhejpkfjhmkaa.Man
open Go.RowKit Go.Shelf Go.Proofs.Ytejhejpkfjhmkaa.Pr Go.Proofs.YtejhejpkfjhmkaaW.PrintWords Go.Proofs.YtejhejpkfjhmkaaW.PrintMore Go.Proofs.Ytejhejpkfjhmkaa.Tarj
attribute [local go_sem] Oper.semAt_some
set_option linter.unusedVariables false
set_option linter.unusedSimpArgs false
theorem asInt (x : Int) (w : World) : (Instr.typeAssert (.iface 3 (.int .i64 x)) 20 3 false).run Try.prog w = .ok (.int .i64 x) w := by kernel_rfl
def ixP (R x : Nat) (v : Value) (i : Nat) : Value := match i with | 0 => .pointer (some ⟨R, 0, none⟩) | 1 => .pointer (some ⟨R, 0, none⟩) | 2 => .pointer (some ⟨R, 0, none⟩) | 3 => .pointer (some ⟨R, 0, none⟩) | 4 => v | 5 => .iface 3 (.int .i64 (x : Nat)) | 6 => .int .i64 (x : Nat) | 9 => .pointer (some ⟨R, 0, none⟩) | 10 => .pointer (some ⟨R, 0, none⟩) | _ => undef
def cstP (i : Nat) : Bool := i != 7 && i != 8 && i != 11
structure SP (B R bl K : Nat) (lw : Nat → Nat) (x : Nat) (l : List Nat) (v : Value) (W : World) (done : Nat → Bool) (val : Nat → Value) (Z : World) : Prop where
  rs : RS B R bl K lw v l W
  hx : x < K
  hl : l.length + 1 ≤ 1000
  vv : ∀ i, done i = true → cstP i = true → val i = ixP R x v i
  n4 : done 4 = false → done 8 = false
  n7 : done 7 = false → done 8 = false
  n8 : done 8 = false → done 11 = false
  p8 : done 8 = false → Below W.heap.size W Z
  b7 : done 7 = true → done 8 = false → ∃ Z0, Z = Z0.alloc (.cells #[.int .i64 (x : Nat)] 3) ∧ val 7 = .slice (some ⟨Z0.heap.size, 0, none⟩) 1 1 ∧ Below W.heap.size W Z0
  s8 : done 8 = true → done 11 = false → ∃ v1, val 8 = v1 ∧ kI.R 3 Z B (fun _ => True) v1 (toI (l ++ [x])) ∧ W.grownBy Z v.ownBlock ∧ (v1.ownBlock = v.ownBlock ∨ ∃ b, v1.ownBlock = some b ∧ W.heap.size ≤ b) ∧ Below B W Z
  s11 : done 11 = true → ∃ v1, RS B R bl K lw v1 (l ++ [x]) Z ∧ Ht B R W v Z v1
section
variable {B R bl K : Nat} {lw : Nat → Nat} {x : Nat} {l : List Nat} {v : Value} {W Z : World} {done : Nat → Bool} {val : Nat → Value}
theorem SP.start (h : RS B R bl K lw v l W) (hx : x < K) (hl : l.length + 1 ≤ 1000) : SP B R bl K lw x l v W (fun _ => false) (fun _ => undef) { W with drawn := W.drawn + 1 } :=
  ⟨h, hx, hl, by simp, fun _ => rfl, fun _ => rfl, fun _ => rfl, fun _ => (Below.refl W.heap.size W).drew, by simp, by simp, by simp⟩
theorem SP.v0 (h : SP B R bl K lw x l v W done val Z) (hd : done 0 = true) : val 0 = .pointer (some ⟨R, 0, none⟩) := h.vv 0 hd (by decide)
theorem SP.v1 (h : SP B R bl K lw x l v W done val Z) (hd : done 1 = true) : val 1 = .pointer (some ⟨R, 0, none⟩) := h.vv 1 hd (by decide)
theorem SP.v2 (h : SP B R bl K lw x l v W done val Z) (hd : done 2 = true) : val 2 = .pointer (some ⟨R, 0, none⟩) := h.vv 2 hd (by decide)
theorem SP.v3 (h : SP B R bl K lw x l v W done val Z) (hd : done 3 = true) : val 3 = .pointer (some ⟨R, 0, none⟩) := h.vv 3 hd (by decide)
theorem SP.v4 (h : SP B R bl K lw x l v W done val Z) (hd : done 4 = true) : val 4 = v := h.vv 4 hd (by decide)
theorem SP.v5 (h : SP B R bl K lw x l v W done val Z) (hd : done 5 = true) : val 5 = .iface 3 (.int .i64 (x : Nat)) := h.vv 5 hd (by decide)
theorem SP.v6 (h : SP B R bl K lw x l v W done val Z) (hd : done 6 = true) : val 6 = .int .i64 (x : Nat) := h.vv 6 hd (by decide)
theorem SP.v9 (h : SP B R bl K lw x l v W done val Z) (hd : done 9 = true) : val 9 = .pointer (some ⟨R, 0, none⟩) := h.vv 9 hd (by decide)
theorem SP.v10 (h : SP B R bl K lw x l v W done val Z) (hd : done 10 = true) : val 10 = .pointer (some ⟨R, 0, none⟩) := h.vv 10 hd (by decide)
theorem SP.do_ (h : SP B R bl K lw x l v W done val Z) (i : Nat) (hc : cstP i = true) {y : Value} (hy : y = ixP R x v i) : SP B R bl K lw x l v W (upd done i) (setv val i y) Z := by
  have e7 : i ≠ 7 := by rintro rfl; cases hc
  have e8 : i ≠ 8 := by rintro rfl; cases hc
  have e11 : i ≠ 11 := by rintro rfl; cases hc
  refine ⟨h.rs, h.hx, h.hl, fun j hj hcj => ?_, ?_, ?_, ?_, ?_, ?_, ?_, ?_⟩
  · simp only [upd, setv] at hj ⊢
    by_cases e : j = i
    · rw [if_pos e, e]; exact hy
    · rw [if_neg e] at hj ⊢; exact h.vv j hj hcj
  all_goals simp only [upd, setv, if_neg (Ne.symm e7), if_neg (Ne.symm e8), if_neg (Ne.symm e11)]
  · by_cases e : 4 = i
    · rw [if_pos e]; exact fun q => by cases q
    · rw [if_neg e]; exact h.n4
  · exact h.n7
  · exact h.n8
  · exact h.p8
  · exact h.b7
  · exact h.s8
  · exact h.s11
theorem SP.rd (h : SP B R bl K lw x l v W done val Z) (h4 : done 4 = false) : Z.cell? ⟨R, 0, none⟩ = some v := (h.rs.below (h.p8 (h.n4 h4))).cf.1
theorem SP.do7 (h : SP B R bl K lw x l v W done val Z) (hd : done 7 = false) : SP B R bl K lw x l v W (upd done 7) (setv val 7 (.slice (some ⟨Z.heap.size, 0, none⟩) 1 1)) (Z.alloc (.cells #[.int .i64 (x : Nat)] 3)) := by
  have h8 := h.n7 hd
  have h11 := h.n8 h8
  refine ⟨h.rs, h.hx, h.hl, fun j hj hcj => ?_, ?_, ?_, ?_, ?_, ?_, ?_, ?_⟩
  · have e : j ≠ 7 := by rintro rfl; cases hcj
    simp only [upd, setv, if_neg e] at hj ⊢
    exact h.vv j hj hcj
  all_goals simp only [upd, setv, if_true, if_neg (show (4 : Nat) ≠ 7 by decide), if_neg (show (8 : Nat) ≠ 7 by decide), if_neg (show (11 : Nat) ≠ 7 by decide)]
  · exact h.n4
  · exact fun q => by cases q
  · exact h.n8
  · exact fun q => below_alloc (h.p8 q) _
  · exact fun _ q => ⟨Z, rfl, rfl, h.p8 q⟩
  · intro q; rw [h8] at q; cases q
  · intro q; rw [h11] at q; cases q
theorem SP.do8 {Z0 w1 : World} {v1 : Value} (h : SP B R bl K lw x l v W done val Z) (h4 : done 4 = true) (h7 : done 7 = true) (hd : done 8 = false) (hb0 : Below W.heap.size W Z0)
    (hr : kI.R 3 w1 B (fun _ => True) v1 (toI l ++ [((x : Nat) : Int)])) (hb : Below B W w1) (hg : Z0.grownBy w1 v.ownBlock) (hat : v1.ownBlock = v.ownBlock ∨ ∃ b, v1.ownBlock = some b ∧ Z0.heap.size ≤ b) :
    SP B R bl K lw x l v W (upd done 8) (setv val 8 v1) w1 := by
  have h11 := h.n8 hd
  have hgW : W.grownBy w1 v.ownBlock := ⟨hb.os, hb.tape, hb.output, hb.size, fun k hk hne => (hg.block k (Nat.lt_of_lt_of_le hk hb0.size) hne).trans (hb0.block k hk)⟩
  refine ⟨h.rs, h.hx, h.hl, fun j hj hcj => ?_, ?_, ?_, ?_, ?_, ?_, ?_, ?_⟩
  · have e : j ≠ 8 := by rintro rfl; cases hcj
    simp only [upd, setv, if_neg e] at hj ⊢
    exact h.vv j hj hcj
  all_goals simp only [upd, setv, if_true, if_neg (show (4 : Nat) ≠ 8 by decide), if_neg (show (7 : Nat) ≠ 8 by decide), if_neg (show (11 : Nat) ≠ 8 by decide)]
  · intro q; rw [h4] at q; cases q
  · intro q; rw [h7] at q; cases q
  · exact fun q => by cases q
  · exact fun q => by cases q
  · exact fun _ q => by cases q
  · exact fun _ _ => ⟨v1, rfl, by simpa [toI] using hr, hgW, hat.imp_right (fun ⟨b, e, hle⟩ => ⟨b, e, Nat.le_trans hb0.size hle⟩), hb⟩
  · intro q; rw [h11] at q; cases q
theorem SP.at8 (h : SP B R bl K lw x l v W done val Z) (h8 : done 8 = true) (h11 : done 11 = false) :
    ∃ A9 n9 c9, val 8 = .slice A9 n9 c9 ∧ Z.cell? ⟨R, 0, none⟩ = some v ∧ Z.frozen? ⟨R, 0, none⟩ = false := by
  obtain ⟨v1, e, hr, hg, _, _⟩ := h.s8 h8 h11
  obtain ⟨A, c, e2, _, _⟩ := Kd.R_reads hr
  have ho := blk_grown h.rs.r hg h.rs.nR
  exact ⟨A, _, c, e.trans e2, (blk_cell ho 0).trans rfl, blk_frozen ho _⟩
theorem SP.do11 (h : SP B R bl K lw x l v W done val Z) (h8 : done 8 = true) (hd : done 11 = false) {y v1 : Value} (hv : val 8 = v1) :
    SP B R bl K lw x l v W (upd done 11) (setv val 11 y) (Z.setCell ⟨R, 0, none⟩ v1) := by
  obtain ⟨v2, e, hr, hg, hat, hb⟩ := h.s8 h8 hd
  obtain rfl : v1 = v2 := hv.symm.trans e
  obtain ⟨t1, t2⟩ := h.rs.turn hr hg hat hb (fun y hy => by
    rcases List.mem_append.1 hy with hy | hy
    · exact h.rs.mem y hy
    · rw [List.mem_singleton.1 hy]; exact h.hx) (by rw [List.length_append]; exact h.hl)
  refine ⟨h.rs, h.hx, h.hl, fun j hj hcj => ?_, ?_, ?_, ?_, ?_, ?_, ?_, ?_⟩
  · have e : j ≠ 11 := by rintro rfl; cases hcj
    simp only [upd, setv, if_neg e] at hj ⊢
    exact h.vv j hj hcj
  all_goals simp only [upd, setv, if_true, if_neg (show (4 : Nat) ≠ 11 by decide), if_neg (show (7 : Nat) ≠ 11 by decide), if_neg (show (8 : Nat) ≠ 11 by decide)]
  · exact h.n4
  · exact h.n7
  · intro q; rw [h8] at q; cases q
  · intro q; rw [h8] at q; cases q
  · intro _ q; rw [h8] at q; cases q
  · exact fun _ q => by cases q
  · exact fun _ => ⟨v1, t1, t2⟩
end
theorem len_any {B R bl K : Nat} {lw : Nat → Nat} {v : Value} {l : List Nat} {W : World} (h : RS B R bl K lw v l W) :
    Calls Try.prog 26 #[.pointer (some ⟨R, 0, none⟩)] W fun e W' => e = .returned (.int .i64 (l.length : Nat)) ∧ W' = W := by
  have ck := h.cf
  obtain ⟨A, c, rfl, _, _⟩ := Kd.R_reads h.st
  rw [toI_len] at ck
  go_enter Try.func26, Try.ntmps26
  go_wp2
  go_ret
  exact ⟨rfl, rfl⟩
theorem less_any {B R bl K : Nat} {lw : Nat → Nat} {v : Value} {l : List Nat} {W : World} (h : RS B R bl K lw v l W) (i j : Nat) (hi : i < l.length) (hj : j < l.length) :
    Calls Try.prog 74 #[.pointer (some ⟨R, 0, none⟩), .int .i64 (i : Nat), .int .i64 (j : Nat)] W fun e W' => e = .returned (.bool (decide (lw l[i] < lw l[j]))) ∧ ∃ n, W' = W.drewN n := by
  have ck := h.cf
  obtain ⟨gv, cap, rfl, hcap, hall⟩ := h.form (by omega)
  obtain ⟨a, ha⟩ : ∃ a, a = l[i] := ⟨_, rfl⟩
  obtain ⟨b, hb⟩ : ∃ b, b = l[j] := ⟨_, rfl⟩
  have zi := (hall i hi).1
  have zj := (hall j hj).1
  rw [← ha] at zi ⊢
  rw [← hb] at zj ⊢
  have hak : a < K := h.mem a (ha ▸ List.getElem_mem hi)
  have hbk : b < K := h.mem b (hb ▸ List.getElem_mem hj)
  have ya := h.lwc hak
  have yb := h.lwc hbk
  have ha0 : (0 : Int) ≤ (a : Int) := Int.natCast_nonneg a
  have hb0 : (0 : Int) ≤ (b : Int) := Int.natCast_nonneg b
  have hi0 : (0 : Int) ≤ (i : Int) := Int.natCast_nonneg i
  have hj0 : (0 : Int) ≤ (j : Int) := Int.natCast_nonneg j
  have hres : decide ((lw a : Int) < (lw b : Int)) = decide (lw a < lw b) := by simp
  clear ha hb hall
  go_enter Try.func74, Try.ntmps74
  go_upto_region 1 with (fail)
  go_quiet (fail)
  go_wp2
  go_ret
  exact ⟨by first | rfl | simp [hres], nq, rfl⟩
theorem push_any {B R bl K : Nat} {lw : Nat → Nat} {v : Value} {l : List Nat} {W : World} (h : RS B R bl K lw v l W) (x : Nat) (hx : x < K) (hl : l.length + 1 ≤ 1000) (hB : B ≤ W.heap.size) :
    Calls Try.prog 76 #[.pointer (some ⟨R, 0, none⟩), .iface 3 (.int .i64 (x : Nat))] W fun e W' => e = .returned (.tuple #[]) ∧ ∃ v', RS B R bl K lw v' (l ++ [x]) W' ∧ Ht B R W v W' v' := by
  have ck := h.cf
  have RS0 := Lib.hid h
  have ST := Lib.hid h.st
  have HB := Lib.hid hB
  have HX := Lib.hid hx
  have LST := Lib.hid (show ((toI l).length + 1) * 8 ≤ 140737488355328 by rw [toI_len]; omega)
  obtain ⟨A, c, e, _, _⟩ := Kd.R_reads h.st
  rw [toI_len] at e
  have HE := Lib.hid e
  have HLL := Lib.hid hl
  rw [e] at ck
  clear h hB hx e hl
  go_enter Try.func76, Try.ntmps76
  refine (wpIn_wide (n := 5)).1 ?_
  refine wpIn_region_any mixedO ?_
  refine wpAnyIn_flow2 _ (fun _ => undef) (fun done val Z => SP B R bl K lw x l v W done val Z) rfl (by kernel_rfl) _ ?hz9 ?st9 ?en9
  case hz9 => exact SP.start RS0.out HX.out HLL.out
  case st9 =>
    intro i o done val a Z ho hdn hdep hag hS K2 hK2
    have hm : i < 12 := by
      by_cases h : i < 12
      · exact h
      · rw [Array.getElem?_eq_none (by simp; omega)] at ho; cases ho
    obtain rfl | rfl | rfl | rfl | rfl | rfl | rfl | rfl | rfl | rfl | rfl | rfl : i = 0 ∨ i = 1 ∨ i = 2 ∨ i = 3 ∨ i = 4 ∨ i = 5 ∨ i = 6 ∨ i = 7 ∨ i = 8 ∨ i = 9 ∨ i = 10 ∨ i = 11 := by omega
    · cases ho
      have e0 : a.eval (.tmp 0) = .pointer (some ⟨R, 0, none⟩) := hag.keep 0 rfl
      refine wpOpIn_value (i := 0) (r := .pointer (some ⟨R, 0, none⟩)) (w' := Z) rfl rfl (fun c h => by cases h) rfl ?_ (hK2 _ _ (hS.do_ 0 rfl rfl))
      have ec : ∀ v, a.eval (.const v) = v := fun _ => rfl
      generalize a.eval = ev at *
      simp [execOp, go_sem, ec, e0]
    · cases ho
      have e0 : a.eval (.tmp 0) = .pointer (some ⟨R, 0, none⟩) := hag.keep 0 rfl
      refine wpOpIn_value (i := 1) (r := .pointer (some ⟨R, 0, none⟩)) (w' := Z) rfl rfl (fun c h => by cases h) rfl ?_ (hK2 _ _ (hS.do_ 1 rfl rfl))
      have ec : ∀ v, a.eval (.const v) = v := fun _ => rfl
      generalize a.eval = ev at *
      simp [execOp, go_sem, ec, e0]
    · cases ho
      have e5 := (hag.val_ (j := 1) (t := 5) rfl (hdep ⟨1, .data⟩ (by simp) rfl)).trans (hS.v1 (hdep ⟨1, .data⟩ (by simp) rfl))
      refine wpOpIn_value (i := 2) (r := .pointer (some ⟨R, 0, none⟩)) (w' := Z) rfl rfl (fun c h => by cases h) rfl ?_ (hK2 _ _ (hS.do_ 2 rfl rfl))
      have ec : ∀ v, a.eval (.const v) = v := fun _ => rfl
      generalize a.eval = ev at *
      simp [execOp, go_sem, ec, e5]
    · cases ho
      have e6 := (hag.val_ (j := 2) (t := 6) rfl (hdep ⟨2, .data⟩ (by simp) rfl)).trans (hS.v2 (hdep ⟨2, .data⟩ (by simp) rfl))
      refine wpOpIn_value (i := 3) (r := .pointer (some ⟨R, 0, none⟩)) (w' := Z) rfl rfl (fun c h => by cases h) rfl ?_ (hK2 _ _ (hS.do_ 3 rfl rfl))
      have ec : ∀ v, a.eval (.const v) = v := fun _ => rfl
      generalize a.eval = ev at *
      simp [execOp, go_sem, ec, e6]
    · cases ho
      have e7 := (hag.val_ (j := 3) (t := 7) rfl (hdep ⟨3, .data⟩ (by simp) rfl)).trans (hS.v3 (hdep ⟨3, .data⟩ (by simp) rfl))
      have hz := hS.rd hdn
      refine wpOpIn_value (i := 4) (r := v) (w' := Z) rfl rfl (fun c h => by cases h) rfl ?_ (hK2 _ _ (hS.do_ 4 rfl rfl))
      have ec : ∀ v, a.eval (.const v) = v := fun _ => rfl
      generalize a.eval = ev at *
      simp [execOp, go_sem, ec, e7, hz]
    · cases ho
      have e1 : a.eval (.tmp 1) = .iface 3 (.int .i64 (x : Nat)) := hag.keep 1 rfl
      refine wpOpIn_value (i := 5) (r := .iface 3 (.int .i64 (x : Nat))) (w' := Z) rfl rfl (fun c h => by cases h) rfl ?_ (hK2 _ _ (hS.do_ 5 rfl rfl))
      have ec : ∀ v, a.eval (.const v) = v := fun _ => rfl
      generalize a.eval = ev at *
      simp [execOp, go_sem, ec, e1]
    · cases ho
      have e9 := (hag.val_ (j := 5) (t := 9) rfl (hdep ⟨5, .data⟩ (by simp) rfl)).trans (hS.v5 (hdep ⟨5, .data⟩ (by simp) rfl))
      refine wpOpIn_value (i := 6) (r := .int .i64 (x : Nat)) (w' := Z) rfl rfl (fun c h => by cases h) rfl ?_ (hK2 _ _ (hS.do_ 6 rfl rfl))
      have ec : ∀ v, a.eval (.const v) = v := fun _ => rfl
      generalize a.eval = ev at *
      simp [execOp, go_sem, ec, e9, asInt]
    · cases ho
      have e10 := (hag.val_ (j := 6) (t := 10) rfl (hdep ⟨6, .data⟩ (by simp) rfl)).trans (hS.v6 (hdep ⟨6, .data⟩ (by simp) rfl))
      refine wpOpIn_value (i := 7) (r := .slice (some ⟨Z.heap.size, 0, none⟩) 1 1) (w' := Z.alloc (.cells #[.int .i64 (x : Nat)] 3)) rfl rfl (fun c h => by cases h) rfl ?_ (hK2 _ _ (hS.do7 hdn))
      generalize a.eval = ev at *
      simp [execOp, go_sem, e10]
    · cases ho
      have e8 := (hag.val_ (j := 4) (t := 8) rfl (hdep ⟨4, .data⟩ (by simp) rfl)).trans (hS.v4 (hdep ⟨4, .data⟩ (by simp) rfl))
      have e11 := hag.val_ (j := 7) (t := 11) rfl (hdep ⟨7, .data⟩ (by simp) rfl)
      have h7 := hdep ⟨7, .data⟩ (by simp) rfl
      have h4 := hdep ⟨4, .data⟩ (by simp) rfl
      obtain ⟨Z0, rfl, e7, hb0⟩ := hS.b7 h7 hdn
      rw [e7] at e11
      refine opIn_appendI (i := 8) (s := .tmp 8) (x := .tmp 11) (t := 26) (t' := 26) rfl rfl rfl ?_
      refine Kd.R_append_step kI B (w0 := W) rfl (.tmp 8) (.tmp 11) 26 3 (.int .i64 0) 8 rfl Try.underlying26 info3 rfl (by decide) (by decide) v (toI l) ((x : Nat) : Int) [.int .i64 ((x : Nat) : Int)] (fun _ => True) (fun _ => False) e8 e11 rfl (fun _ hk => hk.elim) (fun _ _ => trivial) (Kd.R_below ST.out hb0) (hb0.mono HB.out) (Nat.le_trans HB.out hb0.size) LST.out ?_
      exact fun v1 w1 hr hb hg hat => hK2 v1 w1 (hS.do8 h4 h7 hdn hb0 hr hb hg hat)
    · cases ho
      have e4 := (hag.val_ (j := 0) (t := 4) rfl (hdep ⟨0, .data⟩ (by simp) rfl)).trans (hS.v0 (hdep ⟨0, .data⟩ (by simp) rfl))
      refine wpOpIn_value (i := 9) (r := .pointer (some ⟨R, 0, none⟩)) (w' := Z) rfl rfl (fun c h => by cases h) rfl ?_ (hK2 _ _ (hS.do_ 9 rfl rfl))
      have ec : ∀ v, a.eval (.const v) = v := fun _ => rfl
      generalize a.eval = ev at *
      simp [execOp, go_sem, ec, e4]
    · cases ho
      have e13 := (hag.val_ (j := 9) (t := 13) rfl (hdep ⟨9, .data⟩ (by simp) rfl)).trans (hS.v9 (hdep ⟨9, .data⟩ (by simp) rfl))
      refine wpOpIn_value (i := 10) (r := .pointer (some ⟨R, 0, none⟩)) (w' := Z) rfl rfl (fun c h => by cases h) rfl ?_ (hK2 _ _ (hS.do_ 10 rfl rfl))
      have ec : ∀ v, a.eval (.const v) = v := fun _ => rfl
      generalize a.eval = ev at *
      simp [execOp, go_sem, ec, e13]
    · cases ho
      have e14 := (hag.val_ (j := 10) (t := 14) rfl (hdep ⟨10, .data⟩ (by simp) rfl)).trans (hS.v10 (hdep ⟨10, .data⟩ (by simp) rfl))
      have e12 := hag.val_ (j := 8) (t := 12) rfl (hdep ⟨8, .data⟩ (by simp) rfl)
      have h8 := hdep ⟨8, .data⟩ (by simp) rfl
      obtain ⟨A9, n9, c9, e9, hz, hzf⟩ := hS.at8 h8 hdn
      rw [e9] at e12
      refine wpOpIn_skip (i := 11) rfl rfl (fun c h => by cases h) rfl (w' := Z.setCell ⟨R, 0, none⟩ (.slice A9 n9 c9)) ?_ (hK2 _ _ (hS.do11 h8 hdn e9))
      have ec : ∀ v, a.eval (.const v) = v := fun _ => rfl
      generalize a.eval = ev at *
      simp [execOp, go_sem, ec, e14, e12, hz, hzf]
  case en9 =>
    intro Z done val hdn hS
    simp only [putTmps, dstOf, List.size_toArray, List.length_cons, List.length_nil, Nat.reduceAdd, List.getElem?_toArray, List.getElem?_cons_zero, List.getElem?_cons_succ, Option.bind_some, List.setIfInBounds_toArray, List.set_cons_zero, List.set_cons_succ]
    obtain ⟨v9, hfd9, hbe9⟩ := hS.s11 (hdn 11 (by decide))
    go_wp2
    refine bodyPost_end (results_none rfl _ _ _) rfl ?_
    exact ⟨rfl, v9, hfd9, hbe9⟩
theorem pop_any {B R bl K : Nat} {lw : Nat → Nat} {v : Value} {l : List Nat} {W : World} (h : RS B R bl K lw v l W) (hp : 0 < l.length) (hB : B ≤ W.heap.size) :
    Calls Try.prog 75 #[.pointer (some ⟨R, 0, none⟩)] W fun e W' => e = .returned (.iface 3 (.int .i64 (l[l.length - 1] : Nat))) ∧ ∃ v', RS B R bl K lw v' (l.take (l.length - 1)) W' ∧ Ht B R W v W' v' := by
  have ck := h.cf
  obtain ⟨gv, cap, rfl, hcap, hall⟩ := h.form hp
  obtain ⟨k, hk⟩ : ∃ k, l.length = k + 1 := ⟨l.length - 1, by omega⟩
  obtain ⟨i3, hi3, hi3s⟩ := Option.map_eq_some_iff.1 info3
  obtain ⟨htk, _, _⟩ := print_take_int (P := Try.prog) (k := .i64) 26 3 Try.underlying26 hi3 (by injection hi3s with _ h2; injection h2) (some ⟨gv, 0, none⟩) cap (toI l) (k : Int) (Int.natCast_nonneg k) (by rw [toI_len]; omega) (by rw [toI_len]; exact hcap)
  rw [toI_len, Int.toNat_natCast, List.length_take, toI_len, Nat.min_eq_left (by omega)] at htk
  have ht : kI.R 3 W B (fun _ => True) (.slice (some ⟨gv, 0, none⟩) k cap) (toI (l.take k)) := by
    have ho0 := Kd.own_of_R h.st
    rw [toI_len] at ho0
    have ho := own_take ho0 (show k ≤ l.length by omega)
    refine Kd.R_of_own ?_ (fun _ _ => trivial)
    have hl : (toI (l.take k)).length = k := by rw [toI_len, List.length_take]; omega
    rw [hl]
    have he : encs (Value.int .i64) (toI (l.take k)) = (encs (Value.int .i64) (toI l)).take (k * 1) := by simp [encs, toI, List.map_take]
    rw [he]
    exact ho
  obtain ⟨b, hb⟩ : ∃ b, b = l[k] := ⟨_, rfl⟩
  have zj := (hall k (by omega)).1
  rw [← hb] at zj
  have hlast : l[l.length - 1] = b := by simp only [hk, Nat.add_sub_cancel, hb]
  rw [hlast]
  have hle : l.length - 1 = k := by omega
  rw [hle]
  rw [hk] at ck htk hcap
  have hw : wrap64 (((k + 1 : Nat) : Int) - 1) = (k : Int) := by have := h.len; simp only [wrap64]; omega
  have hw4 : wrap64 (k : Int) = (k : Int) := by have := h.len; simp only [wrap64]; omega
  have hw3 : IntKind.i64.wrap (k : Int) = (k : Int) := by rw [Go.Proofs.YtejhejpkfjhmkaaW.PrintLast.i64_w]; exact hw4
  have hnk : ¬ ((k : Int) + 1 ≤ (k : Int)) := by omega
  have hk0 : (0 : Int) ≤ (k : Int) := Int.natCast_nonneg k
  have hk1 : k < k + 1 := Nat.lt_succ_self k
  have RS0 := Lib.hid h
  have HT := Lib.hid ht
  have HK := Lib.hid hk
  have HB := Lib.hid hB
  clear h ht hk hb hlast hle hall hp hB hi3 hi3s
  go_enter Try.func75, Try.ntmps75
  go_upto_region 1 with (fail)
  refine (wpIn_wide (n := 5)).1 ?_
  refine wpIn_region_any mixedO ?_
  refine wpAnyIn_flow _ (fun ix_ => match ix_ with | 0 => .pointer (some ⟨R, 0, none⟩) | 1 => .pointer (some ⟨R, 0, none⟩) | 2 => .pointer (some ⟨R, 0, none⟩) | 3 => .slice (some ⟨gv, 0, none⟩) (k + 1) cap | 4 => .pointer (some ⟨R, 0, none⟩) | 5 => .pointer (some ⟨R, 0, none⟩) | 6 => .pointer (some ⟨R, 0, none⟩) | 7 => .slice (some ⟨gv, 0, none⟩) (k + 1) cap | 8 => .int .i64 ((k + 1 : Nat) : Int) | 9 => .int .i64 (k : Nat) | 10 => .pointer (some ⟨gv, k, none⟩) | 11 => .int .i64 (b : Nat) | 12 => .int .i64 (b : Nat) | _ => undef) (fun done Z => Below W.heap.size W Z) rfl (by kernel_rfl) _ ?hzq1 ?stq1 ?enq1
  case hzq1 => exact (Below.refl W.heap.size W).drew
  case stq1 =>
    intro m op done a Z ho hdn hdep hag hS K2 hK2
    have hm : m < 13 := by
      by_cases h : m < 13
      · exact h
      · rw [Array.getElem?_eq_none (by simp; omega)] at ho; cases ho
    have zz := (RS0.out.below hS).cf.1
    rw [HK.out] at zz
    have zk := pw_cell_below hS zj
    have hw2 := hw
    obtain rfl | rfl | rfl | rfl | rfl | rfl | rfl | rfl | rfl | rfl | rfl | rfl | rfl : m = 0 ∨ m = 1 ∨ m = 2 ∨ m = 3 ∨ m = 4 ∨ m = 5 ∨ m = 6 ∨ m = 7 ∨ m = 8 ∨ m = 9 ∨ m = 10 ∨ m = 11 ∨ m = 12 := by omega
    · cases ho
      have e0 : a.eval (.tmp 0) = .pointer (some ⟨R, 0, none⟩) := hag.keep 0 rfl
      refine opIn_value (i := 0) rfl rfl (fun c h => by cases h) rfl ?_ (hK2 Z hS)
      have ec : ∀ v, a.eval (.const v) = v := fun _ => rfl
      generalize a.eval = ev at *
      simp [execOp, go_sem, ec, e0]
    · cases ho
      have e4 := hag.val_ (j := 0) (t := 4) rfl (hdep ⟨0, .data⟩ (by simp) rfl)
      refine opIn_value (i := 1) rfl rfl (fun c h => by cases h) rfl ?_ (hK2 Z hS)
      have ec : ∀ v, a.eval (.const v) = v := fun _ => rfl
      generalize a.eval = ev at *
      simp [execOp, go_sem, ec, e4]
    · cases ho
      have e5 := hag.val_ (j := 1) (t := 5) rfl (hdep ⟨1, .data⟩ (by simp) rfl)
      refine opIn_value (i := 2) rfl rfl (fun c h => by cases h) rfl ?_ (hK2 Z hS)
      have ec : ∀ v, a.eval (.const v) = v := fun _ => rfl
      generalize a.eval = ev at *
      simp [execOp, go_sem, ec, e5]
    · cases ho
      have e6 := hag.val_ (j := 2) (t := 6) rfl (hdep ⟨2, .data⟩ (by simp) rfl)
      refine opIn_value (i := 3) rfl rfl (fun c h => by cases h) rfl ?_ (hK2 Z hS)
      have ec : ∀ v, a.eval (.const v) = v := fun _ => rfl
      generalize a.eval = ev at *
      simp [execOp, go_sem, ec, e6, zz]
    · cases ho
      have e0 : a.eval (.tmp 0) = .pointer (some ⟨R, 0, none⟩) := hag.keep 0 rfl
      refine opIn_value (i := 4) rfl rfl (fun c h => by cases h) rfl ?_ (hK2 Z hS)
      have ec : ∀ v, a.eval (.const v) = v := fun _ => rfl
      generalize a.eval = ev at *
      simp [execOp, go_sem, ec, e0]
    · cases ho
      have e8 := hag.val_ (j := 4) (t := 8) rfl (hdep ⟨4, .data⟩ (by simp) rfl)
      refine opIn_value (i := 5) rfl rfl (fun c h => by cases h) rfl ?_ (hK2 Z hS)
      have ec : ∀ v, a.eval (.const v) = v := fun _ => rfl
      generalize a.eval = ev at *
      simp [execOp, go_sem, ec, e8]
    · cases ho
      have e9 := hag.val_ (j := 5) (t := 9) rfl (hdep ⟨5, .data⟩ (by simp) rfl)
      refine opIn_value (i := 6) rfl rfl (fun c h => by cases h) rfl ?_ (hK2 Z hS)
      have ec : ∀ v, a.eval (.const v) = v := fun _ => rfl
      generalize a.eval = ev at *
      simp [execOp, go_sem, ec, e9]
    · cases ho
      have e10 := hag.val_ (j := 6) (t := 10) rfl (hdep ⟨6, .data⟩ (by simp) rfl)
      refine opIn_value (i := 7) rfl rfl (fun c h => by cases h) rfl ?_ (hK2 Z hS)
      have ec : ∀ v, a.eval (.const v) = v := fun _ => rfl
      generalize a.eval = ev at *
      simp [execOp, go_sem, ec, e10, zz]
    · cases ho
      have e11 := hag.val_ (j := 7) (t := 11) rfl (hdep ⟨7, .data⟩ (by simp) rfl)
      refine opIn_value (i := 8) rfl rfl (fun c h => by cases h) ?_ ?_ (hK2 Z hS)
      · generalize a.eval = ev at *
        simp [Oper.about, resolve, Target.leads, Sem.run_pure, go_sem, e11]
      · have ec : ∀ v, a.eval (.const v) = v := fun _ => rfl
        generalize a.eval = ev at *
        simp [execOp, go_sem, ec, e11]
    · cases ho
      have e12 := hag.val_ (j := 8) (t := 12) rfl (hdep ⟨8, .data⟩ (by simp) rfl)
      refine opIn_value (i := 9) rfl rfl (fun c h => by cases h) rfl ?_ (hK2 Z hS)
      have ec : ∀ v, a.eval (.const v) = v := fun _ => rfl
      generalize a.eval = ev at *
      simp [execOp, go_sem, ec, e12, hw, hw3]
    · cases ho
      have e7 := hag.val_ (j := 3) (t := 7) rfl (hdep ⟨3, .data⟩ (by simp) rfl)
      have e13 := hag.val_ (j := 9) (t := 13) rfl (hdep ⟨9, .data⟩ (by simp) rfl)
      refine opIn_value (i := 10) rfl rfl (fun c h => by cases h) ?_ ?_ (hK2 Z hS)
      · generalize a.eval = ev at *
        simp [Oper.about, resolve, Target.leads, Sem.run_pure, go_sem, e7, e13, hk1, hk0, hnk]
      · have ec : ∀ v, a.eval (.const v) = v := fun _ => rfl
        generalize a.eval = ev at *
        simp [execOp, go_sem, ec, e7, e13, hk1, hk0, hnk]
    · cases ho
      have e14 := hag.val_ (j := 10) (t := 14) rfl (hdep ⟨10, .data⟩ (by simp) rfl)
      refine opIn_value (i := 11) rfl rfl (fun c h => by cases h) rfl ?_ (hK2 Z hS)
      have ec : ∀ v, a.eval (.const v) = v := fun _ => rfl
      generalize a.eval = ev at *
      simp [execOp, go_sem, ec, e14, zk]
    · cases ho
      have e15 := hag.val_ (j := 11) (t := 15) rfl (hdep ⟨11, .data⟩ (by simp) rfl)
      refine opIn_value (i := 12) rfl rfl (fun c h => by cases h) rfl ?_ (hK2 Z hS)
      have ec : ∀ v, a.eval (.const v) = v := fun _ => rfl
      generalize a.eval = ev at *
      simp [execOp, go_sem, ec, e15]
  case enq1 =>
    intro Z1 done hdn hS
    simp only [putTmps, dstOf, List.size_toArray, List.length_cons, List.length_nil, Nat.reduceAdd, List.getElem?_toArray, List.getElem?_cons_zero, List.getElem?_cons_succ, Option.bind_some, List.setIfInBounds_toArray, List.set_cons_zero, List.set_cons_succ]
    have RS1 := Lib.hid (RS0.out.below hS)
    have HB1 := Lib.hid hS
    have ck := RS1.out.cf
    rw [HK.out] at ck
    clear hS hdn
    go_upto_region 2 with (fail)
    go_still_tail 14, mixedO
    change wpList _ _ _ _ _ (World.drew Z1)
    have hb2 := HB1.out.trans (below_drew (Below.refl W.heap.size Z1))
    have rs2 := RS0.out.below hb2
    have ht2 := Kd.R_below HT.out hb2
    clear ck htk
    generalize World.drew Z1 = Z2 at hb2 rs2 ht2 ⊢
    have ck := rs2.cf
    rw [HK.out] at ck
    have HB2 := Lib.hid hb2
    have RS2 := Lib.hid rs2
    have HT2 := Lib.hid ht2
    clear hb2 rs2 ht2
    have c3 : Try.prog.concrete 3 = true := by kernel_rfl
    go_wp2
    go_ret
    obtain ⟨t1, t2⟩ := RS2.out.turn HT2.out ⟨rfl, rfl, rfl, Nat.le_refl _, fun _ _ _ => rfl⟩ (.inl (by simp [Value.ownBlock])) (Below.refl B Z2) (fun x hx => RS0.out.mem x (List.mem_of_mem_take hx)) (by rw [List.length_take]; have := RS0.out.len; omega)
    refine ⟨rfl, _, t1, Ht.trans ⟨HB2.out.mono HB.out, fun q hq _ _ => HB2.out.block q hq, .inl rfl⟩ t2⟩
def swapL (l : List Nat) (i j : Nat) : List Nat := (l.set i (l.getD j 0)).set j (l.getD i 0)
theorem swapL_len (l : List Nat) (i j : Nat) : (swapL l i j).length = l.length := by simp [swapL]
theorem RS.put {B R bl K : Nat} {lw : Nat → Nat} {l : List Nat} {W : World} {gv cap : Nat} (h : RS B R bl K lw (.slice (some ⟨gv, 0, none⟩) l.length cap) l W) (i x : Nat) (hx : x < K) :
    RS B R bl K lw (.slice (some ⟨gv, 0, none⟩) l.length cap) (l.set i x) (W.setCell ⟨gv, i, none⟩ (.int .i64 (x : Nat))) ∧ Ht B R W (.slice (some ⟨gv, 0, none⟩) l.length cap) (W.setCell ⟨gv, i, none⟩ (.int .i64 (x : Nat))) (.slice (some ⟨gv, 0, none⟩) l.length cap) := by
  have nR : R ≠ gv := fun e => h.nR (by rw [e]; rfl)
  have nl : bl ≠ gv := fun e => h.nl (by rw [e]; rfl)
  have ho := Kd.own_of_R h.st
  have hge : B ≤ gv := own_base ho gv rfl
  rw [toI_len] at ho
  have h2 : (W.setCell ⟨gv, i, none⟩ (.int .i64 (x : Nat))).ownsRow B 3 1 (.slice (some ⟨gv, 0, none⟩) l.length cap) (toI (l.set i x)).length (encs (Value.int .i64) (toI (l.set i x))) := by
    have h3 := toI_len l
    have h4 := own_put_of (enc := Value.int .i64) (xs := toI l) (g := gv) (cap := cap) (e := 3) (base := B) (W := W) (by rw [h3]; exact ho) (i : Int) ((x : Nat) : Int)
    rw [Int.toNat_natCast, h3] at h4
    have h5 : (toI l).set i ((x : Nat) : Int) = toI (l.set i x) := by simp [toI, List.map_set]
    rw [h5] at h4
    exact h4
  refine ⟨⟨blk_far h.r nR _, blk_far h.lo nl _, Kd.R_of_own h2 (fun _ _ => trivial), fun y hy => ?_, h.b, h.bl, by rw [List.length_set]; exact h.len⟩, (Below.refl B W).setCell (p := ⟨gv, i, none⟩) hge _, fun k hk _ hv => Below.heap_setCell _ _ _ _ (fun e => hv (by rw [show k = gv from e]; rfl)), .inl rfl⟩
  rcases List.mem_or_eq_of_mem_set hy with hy | rfl
  · exact h.mem y hy
  · exact hx
structure SW (B R bl K : Nat) (lw : Nat → Nat) (gv cap : Nat) (l : List Nat) (i j a b : Nat) (W : World) (d16 d23 d25 d27 : Bool) (Z : World) : Prop where
  rs : RS B R bl K lw (.slice (some ⟨gv, 0, none⟩) l.length cap) (if d27 = true then (l.set i b).set j a else if d25 = true then l.set i b else l) Z
  ht : Ht B R W (.slice (some ⟨gv, 0, none⟩) l.length cap) Z (.slice (some ⟨gv, 0, none⟩) l.length cap)
  ha : l[i]? = some a
  hb : l[j]? = some b
  n16 : d16 = false → d25 = false
  n23 : d23 = false → d25 = false
  n25 : d25 = false → d27 = false
section
variable {B R bl K : Nat} {lw : Nat → Nat} {gv cap : Nat} {l : List Nat} {i j a b : Nat} {W Z : World} {d16 d23 d25 d27 : Bool}
theorem SW.start (h : RS B R bl K lw (.slice (some ⟨gv, 0, none⟩) l.length cap) l W) (ha : l[i]? = some a) (hb : l[j]? = some b) : SW B R bl K lw gv cap l i j a b W false false false false W.drew :=
  ⟨by simpa using h.below (below_drew (Below.refl W.heap.size W)), ⟨below_drew (Below.refl B W), fun _ _ _ _ => rfl, .inl rfl⟩, ha, hb, fun _ => rfl, fun _ => rfl, fun _ => rfl⟩
theorem SW.cl (h : SW B R bl K lw gv cap l i j a b W d16 d23 d25 d27 Z) : (if d27 = true then (l.set i b).set j a else if d25 = true then l.set i b else l).length = l.length := by
  split
  · simp
  · split <;> simp
theorem SW.cell (h : SW B R bl K lw gv cap l i j a b W d16 d23 d25 d27 Z) {x : Nat} (hx : x < l.length) : (∃ u, Z.cell? ⟨gv, x, none⟩ = some u) ∧ Z.frozen? ⟨gv, x, none⟩ = false := by
  have hl := h.cl
  obtain ⟨g, c, e, _, hall⟩ := h.rs.form (by omega)
  injection e with e1 _ _
  injection e1 with e1
  injection e1 with e1 _ _
  subst e1
  have := hall x (by omega)
  exact ⟨⟨_, this.1⟩, this.2⟩
theorem SW.k16 (h : SW B R bl K lw gv cap l i j a b W d16 d23 d25 d27 Z) : SW B R bl K lw gv cap l i j a b W true d23 d25 d27 Z := ⟨h.rs, h.ht, h.ha, h.hb, (fun e => by cases e), h.n23, h.n25⟩
theorem SW.k23 (h : SW B R bl K lw gv cap l i j a b W d16 d23 d25 d27 Z) : SW B R bl K lw gv cap l i j a b W d16 true d25 d27 Z := ⟨h.rs, h.ht, h.ha, h.hb, h.n16, (fun e => by cases e), h.n25⟩
theorem SW.rd (h : SW B R bl K lw gv cap l i j a b W d16 d23 d25 d27 Z) (h5 : d25 = false) {x y : Nat} (hx : l[x]? = some y) : Z.cell? ⟨gv, x, none⟩ = some (.int .i64 (y : Nat)) := by
  have hr := h.rs
  rw [h.n25 h5, h5] at hr
  simp only [Bool.false_eq_true, if_false] at hr
  obtain ⟨h1, h2⟩ := List.getElem?_eq_some_iff.1 hx
  obtain ⟨g, c, e, _, hall⟩ := hr.form (by omega)
  injection e with e1 _ _
  injection e1 with e1
  injection e1 with e1 _ _
  subst e1
  have := (hall x h1).1
  rwa [h2] at this
theorem SW.rdj (h : SW B R bl K lw gv cap l i j a b W d16 d23 d25 d27 Z) (h5 : d16 = false) (hj : j < l.length) : Z.cell? ⟨gv, j, none⟩ = some (.int .i64 (b : Nat)) := h.rd (h.n16 h5) h.hb
theorem SW.rdi (h : SW B R bl K lw gv cap l i j a b W d16 d23 d25 d27 Z) (h5 : d23 = false) (hi : i < l.length) : Z.cell? ⟨gv, i, none⟩ = some (.int .i64 (a : Nat)) := h.rd (h.n23 h5) h.ha
theorem SW.do25 (h : SW B R bl K lw gv cap l i j a b W d16 d23 d25 d27 Z) (h16 : d16 = true) (h23 : d23 = true) (h5 : d25 = false) (hb : b < K) : SW B R bl K lw gv cap l i j a b W d16 d23 true d27 (Z.setCell ⟨gv, i, none⟩ (.int .i64 (b : Nat))) := by
  have hr := h.rs
  have h7 := h.n25 h5
  rw [h7, h5] at hr
  simp only [Bool.false_eq_true, if_false] at hr
  obtain ⟨t1, t2⟩ := hr.put i b hb
  exact ⟨by rw [h7]; simpa using t1, h.ht.trans t2, h.ha, h.hb, fun e => (by rw [h16] at e; cases e), fun e => (by rw [h23] at e; cases e), fun e => by cases e⟩
theorem SW.do27 (h : SW B R bl K lw gv cap l i j a b W d16 d23 d25 d27 Z) (h25 : d25 = true) (h7 : d27 = false) (ha : a < K) (hi : i < l.length) (hj : j < l.length) : SW B R bl K lw gv cap l i j a b W d16 d23 d25 true (Z.setCell ⟨gv, j, none⟩ (.int .i64 (a : Nat))) := by
  have hr := h.rs
  rw [h7, h25] at hr
  simp only [Bool.false_eq_true, if_false, if_true] at hr
  have hl : (l.set i b).length = l.length := List.length_set
  obtain ⟨t1, t2⟩ := RS.put (l := l.set i b) (by rw [hl]; exact hr) j a ha
  rw [hl] at t1 t2
  exact ⟨by simpa using t1, h.ht.trans t2, h.ha, h.hb, h.n16, h.n23, fun e => by rw [h25] at e; cases e⟩
end
theorem swap_any {B R bl K : Nat} {lw : Nat → Nat} {v : Value} {l : List Nat} {W : World} (h : RS B R bl K lw v l W) (i j : Nat) (hi : i < l.length) (hj : j < l.length) :
    Calls Try.prog 77 #[.pointer (some ⟨R, 0, none⟩), .int .i64 (i : Nat), .int .i64 (j : Nat)] W fun e W' => e = .returned (.tuple #[]) ∧ RS B R bl K lw v (swapL l i j) W' ∧ Ht B R W v W' v := by
  obtain ⟨gv, cap, rfl, hcap, _⟩ := h.form (by omega)
  obtain ⟨pa, ha⟩ : ∃ a, l[i]? = some a := ⟨_, List.getElem?_eq_getElem hi⟩
  obtain ⟨pb, hb⟩ : ∃ b, l[j]? = some b := ⟨_, List.getElem?_eq_getElem hj⟩
  have hi0 : (0 : Int) ≤ (i : Int) := Int.natCast_nonneg i
  have hj0 : (0 : Int) ≤ (j : Int) := Int.natCast_nonneg j
  have HAK := Lib.hid (h.mem pa (List.mem_of_getElem? ha))
  have HBK := Lib.hid (h.mem pb (List.mem_of_getElem? hb))
  have HA := Lib.hid ha
  have HBB := Lib.hid hb
  have RS0 := Lib.hid h
  clear ha hb h
  go_enter Try.func77, Try.ntmps77
  refine (wpIn_wide (n := 5)).1 ?_
  refine wpIn_region_any mixedO ?_
  refine wpAnyIn_flow _ (fun ix_ => match ix_ with | 0 => .pointer (some ⟨R, 0, none⟩) | 1 => .pointer (some ⟨R, 0, none⟩) | 2 => .pointer (some ⟨R, 0, none⟩) | 3 => .slice (some ⟨gv, 0, none⟩) l.length cap | 4 => .int .i64 (i : Nat) | 5 => .pointer (some ⟨R, 0, none⟩) | 6 => .pointer (some ⟨R, 0, none⟩) | 7 => .pointer (some ⟨R, 0, none⟩) | 8 => .slice (some ⟨gv, 0, none⟩) l.length cap | 9 => .int .i64 (j : Nat) | 10 => .pointer (some ⟨R, 0, none⟩) | 11 => .pointer (some ⟨R, 0, none⟩) | 12 => .pointer (some ⟨R, 0, none⟩) | 13 => .slice (some ⟨gv, 0, none⟩) l.length cap | 14 => .int .i64 (j : Nat) | 15 => .pointer (some ⟨gv, j, none⟩) | 16 => .int .i64 (pb : Nat) | 17 => .pointer (some ⟨R, 0, none⟩) | 18 => .pointer (some ⟨R, 0, none⟩) | 19 => .pointer (some ⟨R, 0, none⟩) | 20 => .slice (some ⟨gv, 0, none⟩) l.length cap | 21 => .int .i64 (i : Nat) | 22 => .pointer (some ⟨gv, i, none⟩) | 23 => .int .i64 (pa : Nat) | 24 => .pointer (some ⟨gv, i, none⟩) | 25 => undef | 26 => .pointer (some ⟨gv, j, none⟩) | 27 => undef | _ => undef) (fun done Z => SW B R bl K lw gv cap l i j pa pb W (done 16) (done 23) (done 25) (done 27) Z) rfl (by kernel_rfl) _ ?hzsw ?stsw ?ensw
  case hzsw => exact SW.start RS0.out HA.out HBB.out
  case stsw =>
    intro m op done a Z ho hdn hdep hag hS K2 hK2
    have hm : m < 28 := by
      by_cases h : m < 28
      · exact h
      · rw [Array.getElem?_eq_none (by simp; omega)] at ho; cases ho
    have zz := hS.rs.cf
    obtain ⟨⟨ui, zci⟩, zfi⟩ := hS.cell hi
    obtain ⟨⟨uj, zcj⟩, zfj⟩ := hS.cell hj
    obtain rfl | rfl | rfl | rfl | rfl | rfl | rfl | rfl | rfl | rfl | rfl | rfl | rfl | rfl | rfl | rfl | rfl | rfl | rfl | rfl | rfl | rfl | rfl | rfl | rfl | rfl | rfl | rfl : m = 0 ∨ m = 1 ∨ m = 2 ∨ m = 3 ∨ m = 4 ∨ m = 5 ∨ m = 6 ∨ m = 7 ∨ m = 8 ∨ m = 9 ∨ m = 10 ∨ m = 11 ∨ m = 12 ∨ m = 13 ∨ m = 14 ∨ m = 15 ∨ m = 16 ∨ m = 17 ∨ m = 18 ∨ m = 19 ∨ m = 20 ∨ m = 21 ∨ m = 22 ∨ m = 23 ∨ m = 24 ∨ m = 25 ∨ m = 26 ∨ m = 27 := by omega
    · cases ho
      have e0 : a.eval (.tmp 0) = .pointer (some ⟨R, 0, none⟩) := hag.keep 0 rfl
      refine opIn_value (i := 0) rfl rfl (fun c h => by cases h) rfl ?_ (hK2 Z hS)
      have ec : ∀ v, a.eval (.const v) = v := fun _ => rfl
      generalize a.eval = ev at *
      simp [execOp, go_sem, ec, e0]
    · cases ho
      have e6 := hag.val_ (j := 0) (t := 6) rfl (hdep ⟨0, .data⟩ (by simp) rfl)
      refine opIn_value (i := 1) rfl rfl (fun c h => by cases h) rfl ?_ (hK2 Z hS)
      have ec : ∀ v, a.eval (.const v) = v := fun _ => rfl
      generalize a.eval = ev at *
      simp [execOp, go_sem, ec, e6]
    · cases ho
      have e7 := hag.val_ (j := 1) (t := 7) rfl (hdep ⟨1, .data⟩ (by simp) rfl)
      refine opIn_value (i := 2) rfl rfl (fun c h => by cases h) rfl ?_ (hK2 Z hS)
      have ec : ∀ v, a.eval (.const v) = v := fun _ => rfl
      generalize a.eval = ev at *
      simp [execOp, go_sem, ec, e7]
    · cases ho
      have e8 := hag.val_ (j := 2) (t := 8) rfl (hdep ⟨2, .data⟩ (by simp) rfl)
      refine opIn_value (i := 3) rfl rfl (fun c h => by cases h) rfl ?_ (hK2 Z hS)
      have ec : ∀ v, a.eval (.const v) = v := fun _ => rfl
      generalize a.eval = ev at *
      simp [execOp, go_sem, ec, e8, zz.1]
    · cases ho
      have e1 : a.eval (.tmp 1) = .int .i64 (i : Nat) := hag.keep 1 rfl
      refine opIn_value (i := 4) rfl rfl (fun c h => by cases h) rfl ?_ (hK2 Z hS)
      have ec : ∀ v, a.eval (.const v) = v := fun _ => rfl
      generalize a.eval = ev at *
      simp [execOp, go_sem, ec, e1]
    · cases ho
      have e0 : a.eval (.tmp 0) = .pointer (some ⟨R, 0, none⟩) := hag.keep 0 rfl
      refine opIn_value (i := 5) rfl rfl (fun c h => by cases h) rfl ?_ (hK2 Z hS)
      have ec : ∀ v, a.eval (.const v) = v := fun _ => rfl
      generalize a.eval = ev at *
      simp [execOp, go_sem, ec, e0]
    · cases ho
      have e11 := hag.val_ (j := 5) (t := 11) rfl (hdep ⟨5, .data⟩ (by simp) rfl)
      refine opIn_value (i := 6) rfl rfl (fun c h => by cases h) rfl ?_ (hK2 Z hS)
      have ec : ∀ v, a.eval (.const v) = v := fun _ => rfl
      generalize a.eval = ev at *
      simp [execOp, go_sem, ec, e11]
    · cases ho
      have e12 := hag.val_ (j := 6) (t := 12) rfl (hdep ⟨6, .data⟩ (by simp) rfl)
      refine opIn_value (i := 7) rfl rfl (fun c h => by cases h) rfl ?_ (hK2 Z hS)
      have ec : ∀ v, a.eval (.const v) = v := fun _ => rfl
      generalize a.eval = ev at *
      simp [execOp, go_sem, ec, e12]
    · cases ho
      have e13 := hag.val_ (j := 7) (t := 13) rfl (hdep ⟨7, .data⟩ (by simp) rfl)
      refine opIn_value (i := 8) rfl rfl (fun c h => by cases h) rfl ?_ (hK2 Z hS)
      have ec : ∀ v, a.eval (.const v) = v := fun _ => rfl
      generalize a.eval = ev at *
      simp [execOp, go_sem, ec, e13, zz.1]
    · cases ho
      have e2 : a.eval (.tmp 2) = .int .i64 (j : Nat) := hag.keep 2 rfl
      refine opIn_value (i := 9) rfl rfl (fun c h => by cases h) rfl ?_ (hK2 Z hS)
      have ec : ∀ v, a.eval (.const v) = v := fun _ => rfl
      generalize a.eval = ev at *
      simp [execOp, go_sem, ec, e2]
    · cases ho
      have e0 : a.eval (.tmp 0) = .pointer (some ⟨R, 0, none⟩) := hag.keep 0 rfl
      refine opIn_value (i := 10) rfl rfl (fun c h => by cases h) rfl ?_ (hK2 Z hS)
      have ec : ∀ v, a.eval (.const v) = v := fun _ => rfl
      generalize a.eval = ev at *
      simp [execOp, go_sem, ec, e0]
    · cases ho
      have e16 := hag.val_ (j := 10) (t := 16) rfl (hdep ⟨10, .data⟩ (by simp) rfl)
      refine opIn_value (i := 11) rfl rfl (fun c h => by cases h) rfl ?_ (hK2 Z hS)
      have ec : ∀ v, a.eval (.const v) = v := fun _ => rfl
      generalize a.eval = ev at *
      simp [execOp, go_sem, ec, e16]
    · cases ho
      have e17 := hag.val_ (j := 11) (t := 17) rfl (hdep ⟨11, .data⟩ (by simp) rfl)
      refine opIn_value (i := 12) rfl rfl (fun c h => by cases h) rfl ?_ (hK2 Z hS)
      have ec : ∀ v, a.eval (.const v) = v := fun _ => rfl
      generalize a.eval = ev at *
      simp [execOp, go_sem, ec, e17]
    · cases ho
      have e18 := hag.val_ (j := 12) (t := 18) rfl (hdep ⟨12, .data⟩ (by simp) rfl)
      refine opIn_value (i := 13) rfl rfl (fun c h => by cases h) rfl ?_ (hK2 Z hS)
      have ec : ∀ v, a.eval (.const v) = v := fun _ => rfl
      generalize a.eval = ev at *
      simp [execOp, go_sem, ec, e18, zz.1]
    · cases ho
      have e2 : a.eval (.tmp 2) = .int .i64 (j : Nat) := hag.keep 2 rfl
      refine opIn_value (i := 14) rfl rfl (fun c h => by cases h) rfl ?_ (hK2 Z hS)
      have ec : ∀ v, a.eval (.const v) = v := fun _ => rfl
      generalize a.eval = ev at *
      simp [execOp, go_sem, ec, e2]
    · cases ho
      have e19 := hag.val_ (j := 13) (t := 19) rfl (hdep ⟨13, .data⟩ (by simp) rfl)
      have e20 := hag.val_ (j := 14) (t := 20) rfl (hdep ⟨14, .data⟩ (by simp) rfl)
      refine opIn_value (i := 15) rfl rfl (fun c h => by cases h) ?_ ?_ (hK2 Z hS)
      · generalize a.eval = ev at *
        simp [Oper.about, resolve, Target.leads, Sem.run_pure, go_sem, e19, e20, hj, hj0]
      · have ec : ∀ v, a.eval (.const v) = v := fun _ => rfl
        generalize a.eval = ev at *
        simp [execOp, go_sem, ec, e19, e20, hj, hj0]
    · cases ho
      have e21 := hag.val_ (j := 15) (t := 21) rfl (hdep ⟨15, .data⟩ (by simp) rfl)
      refine opIn_value (i := 16) rfl rfl (fun c h => by cases h) rfl ?_ (hK2 Z hS.k16)
      have ec : ∀ v, a.eval (.const v) = v := fun _ => rfl
      generalize a.eval = ev at *
      simp [execOp, go_sem, ec, e21, (hS.rdj hdn hj)]
    · cases ho
      have e0 : a.eval (.tmp 0) = .pointer (some ⟨R, 0, none⟩) := hag.keep 0 rfl
      refine opIn_value (i := 17) rfl rfl (fun c h => by cases h) rfl ?_ (hK2 Z hS)
      have ec : ∀ v, a.eval (.const v) = v := fun _ => rfl
      generalize a.eval = ev at *
      simp [execOp, go_sem, ec, e0]
    · cases ho
      have e23 := hag.val_ (j := 17) (t := 23) rfl (hdep ⟨17, .data⟩ (by simp) rfl)
      refine opIn_value (i := 18) rfl rfl (fun c h => by cases h) rfl ?_ (hK2 Z hS)
      have ec : ∀ v, a.eval (.const v) = v := fun _ => rfl
      generalize a.eval = ev at *
      simp [execOp, go_sem, ec, e23]
    · cases ho
      have e24 := hag.val_ (j := 18) (t := 24) rfl (hdep ⟨18, .data⟩ (by simp) rfl)
      refine opIn_value (i := 19) rfl rfl (fun c h => by cases h) rfl ?_ (hK2 Z hS)
      have ec : ∀ v, a.eval (.const v) = v := fun _ => rfl
      generalize a.eval = ev at *
      simp [execOp, go_sem, ec, e24]
    · cases ho
      have e25 := hag.val_ (j := 19) (t := 25) rfl (hdep ⟨19, .data⟩ (by simp) rfl)
      refine opIn_value (i := 20) rfl rfl (fun c h => by cases h) rfl ?_ (hK2 Z hS)
      have ec : ∀ v, a.eval (.const v) = v := fun _ => rfl
      generalize a.eval = ev at *
      simp [execOp, go_sem, ec, e25, zz.1]
    · cases ho
      have e1 : a.eval (.tmp 1) = .int .i64 (i : Nat) := hag.keep 1 rfl
      refine opIn_value (i := 21) rfl rfl (fun c h => by cases h) rfl ?_ (hK2 Z hS)
      have ec : ∀ v, a.eval (.const v) = v := fun _ => rfl
      generalize a.eval = ev at *
      simp [execOp, go_sem, ec, e1]
    · cases ho
      have e26 := hag.val_ (j := 20) (t := 26) rfl (hdep ⟨20, .data⟩ (by simp) rfl)
      have e27 := hag.val_ (j := 21) (t := 27) rfl (hdep ⟨21, .data⟩ (by simp) rfl)
      refine opIn_value (i := 22) rfl rfl (fun c h => by cases h) ?_ ?_ (hK2 Z hS)
      · generalize a.eval = ev at *
        simp [Oper.about, resolve, Target.leads, Sem.run_pure, go_sem, e26, e27, hi, hi0]
      · have ec : ∀ v, a.eval (.const v) = v := fun _ => rfl
        generalize a.eval = ev at *
        simp [execOp, go_sem, ec, e26, e27, hi, hi0]
    · cases ho
      have e28 := hag.val_ (j := 22) (t := 28) rfl (hdep ⟨22, .data⟩ (by simp) rfl)
      refine opIn_value (i := 23) rfl rfl (fun c h => by cases h) rfl ?_ (hK2 Z hS.k23)
      have ec : ∀ v, a.eval (.const v) = v := fun _ => rfl
      generalize a.eval = ev at *
      simp [execOp, go_sem, ec, e28, (hS.rdi hdn hi)]
    · cases ho
      have e9 := hag.val_ (j := 3) (t := 9) rfl (hdep ⟨3, .data⟩ (by simp) rfl)
      have e10 := hag.val_ (j := 4) (t := 10) rfl (hdep ⟨4, .data⟩ (by simp) rfl)
      refine opIn_value (i := 24) rfl rfl (fun c h => by cases h) ?_ ?_ (hK2 Z hS)
      · generalize a.eval = ev at *
        simp [Oper.about, resolve, Target.leads, Sem.run_pure, go_sem, e9, e10, hi, hi0]
      · have ec : ∀ v, a.eval (.const v) = v := fun _ => rfl
        generalize a.eval = ev at *
        simp [execOp, go_sem, ec, e9, e10, hi, hi0]
    · cases ho
      have e30 := hag.val_ (j := 24) (t := 30) rfl (hdep ⟨24, .data⟩ (by simp) rfl)
      have e22 := hag.val_ (j := 16) (t := 22) rfl (hdep ⟨16, .data⟩ (by simp) rfl)
      refine wpOpIn_skip (i := 25) rfl rfl (fun c h => by cases h) rfl (w' := Z.setCell ⟨gv, i, none⟩ (.int .i64 (pb : Nat))) ?_ (hK2 _ (hS.do25 (hdep ⟨16, .data⟩ (by simp) rfl) (hdep ⟨23, .phase⟩ (by simp) rfl) hdn HBK.out))
      have ec : ∀ v, a.eval (.const v) = v := fun _ => rfl
      generalize a.eval = ev at *
      simp [execOp, go_sem, ec, e30, e22, zci, zfi]
    · cases ho
      have e14 := hag.val_ (j := 8) (t := 14) rfl (hdep ⟨8, .data⟩ (by simp) rfl)
      have e15 := hag.val_ (j := 9) (t := 15) rfl (hdep ⟨9, .data⟩ (by simp) rfl)
      refine opIn_value (i := 26) rfl rfl (fun c h => by cases h) ?_ ?_ (hK2 Z hS)
      · generalize a.eval = ev at *
        simp [Oper.about, resolve, Target.leads, Sem.run_pure, go_sem, e14, e15, hj, hj0]
      · have ec : ∀ v, a.eval (.const v) = v := fun _ => rfl
        generalize a.eval = ev at *
        simp [execOp, go_sem, ec, e14, e15, hj, hj0]
    · cases ho
      have e31 := hag.val_ (j := 26) (t := 31) rfl (hdep ⟨26, .data⟩ (by simp) rfl)
      have e29 := hag.val_ (j := 23) (t := 29) rfl (hdep ⟨23, .data⟩ (by simp) rfl)
      refine wpOpIn_skip (i := 27) rfl rfl (fun c h => by cases h) rfl (w' := Z.setCell ⟨gv, j, none⟩ (.int .i64 (pa : Nat))) ?_ (hK2 _ (hS.do27 (hdep ⟨25, .chain⟩ (by simp) rfl) hdn HAK.out hi hj))
      have ec : ∀ v, a.eval (.const v) = v := fun _ => rfl
      generalize a.eval = ev at *
      simp [execOp, go_sem, ec, e31, e29, zcj, zfj]
  case ensw =>
    intro Z1 done hdn hS
    simp only [putTmps, dstOf, List.size_toArray, List.length_cons, List.length_nil, Nat.reduceAdd, List.getElem?_toArray, List.getElem?_cons_zero, List.getElem?_cons_succ, Option.bind_some, List.setIfInBounds_toArray, List.set_cons_zero, List.set_cons_succ]
    have hr := hS.rs
    have ht := hS.ht
    rw [hdn 27 (by decide)] at hr
    simp only [if_true] at hr
    have HR9 := Lib.hid hr
    have HT9 := Lib.hid ht
    clear hr ht hS hdn
    go_wp2
    refine bodyPost_end (results_none rfl _ _ _) rfl ?_
    refine ⟨rfl, ?_, HT9.out⟩
    have e : swapL l i j = (l.set i pb).set j pa := by
      unfold swapL
      rw [List.getD_eq_getElem?_getD, List.getD_eq_getElem?_getD, HA.out, HBB.out]; rfl
    rw [e]; exact HR9.out
end Go.Proofs.Ytejhejpkfjhmkaa.Man

namespace Go.Proofs.Ytejhejpkfjhmkaa.Man
set_option linter.unusedVariables false
set_option linter.unusedSimpArgs false
def par (i : Nat) : Nat := (i - 1) / 2
def Hp (k : Nat → Nat) (n : Nat) : Prop := ∀ i, 0 < i → i < n → k (par i) ≤ k i
def UpI (k : Nat → Nat) (n j : Nat) : Prop := (∀ i, 0 < i → i < n → i ≠ j → k (par i) ≤ k i) ∧ ∀ i, 0 < i → i < n → 0 < j → par i = j → k (par j) ≤ k i
def DnI (k : Nat → Nat) (n i : Nat) : Prop := (∀ m, 0 < m → m < n → par m ≠ i → k (par m) ≤ k m) ∧ ∀ m, 0 < m → m < n → 0 < i → par m = i → k (par i) ≤ k m
def swk (k : Nat → Nat) (a b : Nat) : Nat → Nat := fun i => if i = a then k b else if i = b then k a else k i
theorem par_lt {i : Nat} (h : 0 < i) : par i < i := by unfold par; omega
theorem UpI.zero {k : Nat → Nat} {n : Nat} (h : UpI k n 0) : Hp k n := fun i h0 hi => h.1 i h0 hi (by omega)
theorem UpI.stop {k : Nat → Nat} {n j : Nat} (h : UpI k n j) (hk : ¬ k j < k (par j)) : Hp k n := fun i h0 hi => by
  by_cases e : i = j
  · subst e; omega
  · exact h.1 i h0 hi e
theorem UpI.step {k : Nat → Nat} {n j : Nat} (h : UpI k n j) (hj : 0 < j) (hn : j < n) (hk : k j < k (par j)) : UpI (swk k (par j) j) n (par j) := by
  have hp := par_lt hj
  refine ⟨fun i h0 hi hne => ?_, fun i h0 hi hp0 he => ?_⟩
  · have hpi := par_lt h0
    by_cases e : i = j
    · subst e
      unfold swk
      rw [if_pos rfl, if_neg (by omega), if_pos rfl]
      omega
    · have h1 := h.1 i h0 hi e
      unfold swk
      rw [if_neg hne, if_neg e]
      by_cases e2 : par i = par j
      · rw [if_pos e2]; rw [e2] at h1; omega
      · rw [if_neg e2]
        by_cases e3 : par i = j
        · rw [if_pos e3]; exact h.2 i h0 hi hj e3
        · rw [if_neg e3]; exact h1
  · have hpp := par_lt hp0
    have hpi := par_lt h0
    have h2 := h.1 (par j) hp0 (by omega) (by omega)
    unfold swk
    rw [if_neg (by omega), if_neg (by omega)]
    rw [if_neg (by omega)]
    by_cases e : i = j
    · rw [if_pos e]; exact h2
    · rw [if_neg e]
      have h1 := h.1 i h0 hi e
      rw [he] at h1
      omega
theorem DnI.stop {k : Nat → Nat} {n i j : Nat} (h : DnI k n i) (hj : ∀ m, 0 < m → m < n → par m = i → k j ≤ k m) (hk : ¬ k j < k i) : Hp k n := fun m h0 hm => by
  by_cases e : par m = i
  · have := hj m h0 hm e; rw [e]; omega
  · exact h.1 m h0 hm e
theorem DnI.none {k : Nat → Nat} {n i : Nat} (h : DnI k n i) (hn : n ≤ 2 * i + 1) : Hp k n := fun m h0 hm => by
  by_cases e : par m = i
  · unfold par at e; omega
  · exact h.1 m h0 hm e
theorem DnI.step {k : Nat → Nat} {n i j : Nat} (h : DnI k n i) (hj : ∀ m, 0 < m → m < n → par m = i → k j ≤ k m) (hk : k j < k i) (hj0 : 0 < j) (hjn : j < n) (hpj : par j = i) : DnI (swk k i j) n j := by
  have hij : i < j := by have := par_lt hj0; omega
  refine ⟨fun m h0 hm hne => ?_, fun m h0 hm _ he => ?_⟩
  · have hpm := par_lt h0
    by_cases e : m = j
    · subst e
      unfold swk
      rw [if_pos hpj, if_neg (by omega), if_pos rfl]
      omega
    · by_cases e2 : par m = i
      · unfold swk
        rw [if_pos e2, if_neg (by omega), if_neg e]
        exact hj m h0 hm e2
      · by_cases e3 : m = i
        · subst e3
          unfold swk
          rw [if_neg (by omega), if_neg (by omega), if_pos rfl]
          exact h.2 j hj0 hjn h0 hpj
        · unfold swk
          rw [if_neg e2, if_neg hne, if_neg e3, if_neg e]
          exact h.1 m h0 hm e2
  · have hpm := par_lt h0
    have h1 := h.1 m h0 hm (by omega)
    rw [he] at h1
    unfold swk
    rw [if_pos hpj, if_neg (by omega), if_neg (by omega)]
    exact h1
theorem Hp.congr {k k' : Nat → Nat} {n : Nat} (h : Hp k n) (e : ∀ m, m < n → k' m = k m) : Hp k' n := fun i h0 hi => by
  have := par_lt h0
  rw [e i hi, e (par i) (by omega)]; exact h i h0 hi
theorem UpI.congr {k k' : Nat → Nat} {n j : Nat} (h : UpI k n j) (e : ∀ m, m < n → k' m = k m) : UpI k' n j := by
  refine ⟨fun i h0 hi hne => ?_, fun i h0 hi hj he => ?_⟩
  · have := par_lt h0
    rw [e i hi, e (par i) (by omega)]; exact h.1 i h0 hi hne
  · have := par_lt h0
    have h3 := par_lt hj
    rw [e i hi, e (par j) (by omega)]; exact h.2 i h0 hi hj he
theorem DnI.congr {k k' : Nat → Nat} {n j : Nat} (h : DnI k n j) (e : ∀ m, m < n → k' m = k m) : DnI k' n j := by
  refine ⟨fun i h0 hi hne => ?_, fun i h0 hi hj he => ?_⟩
  · have := par_lt h0
    rw [e i hi, e (par i) (by omega)]; exact h.1 i h0 hi hne
  · have := par_lt h0
    have h3 := par_lt hj
    rw [e i hi, e (par j) (by omega)]; exact h.2 i h0 hi hj he
theorem Hp.top {k : Nat → Nat} {n : Nat} (h : Hp k n) : ∀ i, i < n → k 0 ≤ k i := by
  intro i
  induction i using Nat.strongRecOn with
  | _ i ih =>
    intro hi
    rcases Nat.eq_zero_or_pos i with h0 | h0
    · rw [h0]; exact Nat.le_refl _
    · have := par_lt h0
      exact Nat.le_trans (ih (par i) this (by omega)) (h i h0 hi)
def kys (lw : Nat → Nat) (l : List Nat) : Nat → Nat := fun i => lw (l.getD i 0)
theorem kys_get (lw : Nat → Nat) (l : List Nat) (i : Nat) (h : i < l.length) : lw l[i] = kys lw l i := by
  unfold kys; rw [List.getD_eq_getElem?_getD, List.getElem?_eq_getElem h]; rfl
theorem kys_swap (lw : Nat → Nat) (l : List Nat) (i j : Nat) (hi : i < l.length) (hj : j < l.length) (m : Nat) (hm : m < l.length) : kys lw (swapL l i j) m = swk (kys lw l) i j m := by
  unfold kys swapL swk
  simp only [List.getD_eq_getElem?_getD]
  rw [List.getElem?_set]
  by_cases e : j = m
  · subst e
    rw [if_pos rfl, List.length_set, if_pos hm]
    by_cases e2 : j = i
    · subst e2; simp
    · simp [e2]
  · rw [if_neg e, List.getElem?_set]
    by_cases e2 : i = m
    · subst e2
      simp [hi]
    · rw [if_neg e2, if_neg (Ne.symm e2), if_neg (Ne.symm e)]
theorem swapL_perm (l : List Nat) (i j : Nat) (hi : i < l.length) (hj : j < l.length) : (swapL l i j).Perm l := by
  rw [List.perm_iff_count]
  intro a
  unfold swapL
  rw [List.count_set (by rw [List.length_set]; exact hj), List.count_set hi]
  have h1 : l.getD j 0 = l[j] := by simp [List.getD_eq_getElem?_getD, hj]
  have h2 : l.getD i 0 = l[i] := by simp [List.getD_eq_getElem?_getD, hi]
  rw [h1, h2, List.getElem_set]
  have p1 : l[i] = a → 0 < l.count a := fun e => List.count_pos_iff.2 (e ▸ List.getElem_mem hi)
  have p2 : l[j] = a → 0 < l.count a := fun e => List.count_pos_iff.2 (e ▸ List.getElem_mem hj)
  by_cases e : i = j
  · subst e
    simp only [if_true]
    by_cases e1 : l[i] = a
    · have := p1 e1; simp [e1]; omega
    · simp [e1]
  · rw [if_neg e]
    by_cases e1 : l[i] = a <;> by_cases e2 : l[j] = a <;> simp [e1, e2] <;> (first | omega | (have := p1 e1; omega) | (have := p2 e2; omega) | skip)
end Go.Proofs.Ytejhejpkfjhmkaa.Man

namespace Go.Proofs.Ytejhejpkfjhmkaa.Man
open Go.RowKit Go.Shelf Go.Proofs.Ytejhejpkfjhmkaa.Pr Go.Proofs.YtejhejpkfjhmkaaW.PrintWords Go.Proofs.YtejhejpkfjhmkaaW.PrintMore Go.Proofs.Ytejhejpkfjhmkaa.Tarj
attribute [local go_sem] Oper.semAt_some
set_option linter.unusedVariables false
set_option linter.unusedSimpArgs false
theorem mLen (R : Nat) (w : World) : (method 198 41 (.pointer (some ⟨R, 0, none⟩)) "Len").run Try.prog w = .ok (26, .pointer (some ⟨R, 0, none⟩)) w := by kernel_rfl
theorem mLess (R : Nat) (w : World) : (method 198 41 (.pointer (some ⟨R, 0, none⟩)) "Less").run Try.prog w = .ok (74, .pointer (some ⟨R, 0, none⟩)) w := by kernel_rfl
theorem mSwap (R : Nat) (w : World) : (method 198 41 (.pointer (some ⟨R, 0, none⟩)) "Swap").run Try.prog w = .ok (77, .pointer (some ⟨R, 0, none⟩)) w := by kernel_rfl
theorem mPush (R : Nat) (w : World) : (method 198 41 (.pointer (some ⟨R, 0, none⟩)) "Push").run Try.prog w = .ok (76, .pointer (some ⟨R, 0, none⟩)) w := by kernel_rfl
theorem mPop (R : Nat) (w : World) : (method 198 41 (.pointer (some ⟨R, 0, none⟩)) "Pop").run Try.prog w = .ok (75, .pointer (some ⟨R, 0, none⟩)) w := by kernel_rfl
structure UP (B R bl K : Nat) (lw : Nat → Nat) (v : Value) (l0 : List Nat) (W0 : World) (j : Nat) (l : List Nat) (W : World) : Prop where
  rs : RS B R bl K lw v l W
  pm : l.Perm l0
  up : UpI (kys lw l) l.length j
  ht : Ht B R W0 v W v
theorem up_any {B R bl K : Nat} {lw : Nat → Nat} {v : Value} {l : List Nat} {W : World} (h : RS B R bl K lw v l W) (j : Nat) (hj : j < l.length) (hu : UpI (kys lw l) l.length j) :
    Calls Try.prog 34 #[.iface 41 (.pointer (some ⟨R, 0, none⟩)), .int .i64 (j : Nat)] W fun e W' => e = .returned (.tuple #[]) ∧ ∃ l', RS B R bl K lw v l' W' ∧ l'.Perm l ∧ Hp (kys lw l') l'.length ∧ Ht B R W v W' v := by
  have hm1 := mLess R
  have hm2 := mSwap R
  have H0 := Lib.hid (show UP B R bl K lw v l W j l W from ⟨h, List.Perm.refl _, hu, Ht.refl _ _ _ _⟩)
  have HLN := Lib.hid h.len
  clear h hu
  go_enter Try.func34, Try.ntmps34
  go_wp2
  go_loopg [1] j (fun kq v1 w' => v1 = .int .i64 (kq : Nat) ∧ kq < l.length ∧ ∃ l', Hid (UP B R bl K lw v l W kq l' w'))
  case atStart => exact ⟨rfl, hj, l, H0⟩
  case round =>
    obtain ⟨rfl, hjl, l1, HU⟩ := hrel
    rcases Nat.eq_zero_or_pos gk with h0 | h0
    · subst h0
      go_wp2
      refine bodyPost_end (results_none rfl _ _ _) rfl ?_
      exact ⟨rfl, l1, HU.out.rs, HU.out.pm, HU.out.up.zero, HU.out.ht⟩
    · obtain ⟨q, rfl⟩ : ∃ q, gk = q + 1 := ⟨gk - 1, by omega⟩
      obtain ⟨p, hp⟩ : ∃ p, p = par (q + 1) := ⟨_, rfl⟩
      have hpq : p = q / 2 := by rw [hp]; unfold par; rw [Nat.add_sub_cancel]
      have hlen1 : l1.length = l.length := HU.out.pm.length_eq
      have hl1 : q + 1 < l1.length := by omega
      have hpl : p < l1.length := by omega
      have hln := HLN.out
      have hw1 : wrap64 (q : Int) = (q : Int) := by simp only [wrap64]; omega
      have hw2 : wrap64 ((q : Int).tdiv 2) = (p : Int) := by
        have e : (q : Int).tdiv 2 = ((q / 2 : Nat) : Int) := by rw [Int.tdiv_eq_ediv_of_nonneg (Int.natCast_nonneg q)]; rfl
        rw [e, ← hpq]
        simp only [wrap64]; omega
      have hw3 : wrap64 ((q : Int) / 2) = (p : Int) := by simp only [wrap64]; omega
      have hne : ((p : Int) == (q : Int) + 1) = false := by simp; omega
      have hless := less_any HU.out.rs (q + 1) p hl1 hpl
      rw [kys_get lw l1 (q + 1) hl1, kys_get lw l1 p hpl] at hless
      have HP := Lib.hid hp
      have HPQ := Lib.hid hpq
      have HL1 := Lib.hid hl1
      have HPL := Lib.hid hpl
      clear hp hpq hl1 hpl hlen1 hln
      by_cases hlt : kys lw l1 (q + 1) < kys lw l1 p
      · rw [show decide (kys lw l1 (q + 1) < kys lw l1 p) = true from decide_eq_true hlt] at hless
        have HLESS := Lib.hid (show Calls Try.prog 74 #[.pointer (some ⟨R, 0, none⟩), .int .i64 ((q : Int) + 1), .int .i64 (p : Nat)] wr fun e W' => e = .returned (.bool true) ∧ ∃ n, W' = wr.drewN n from hless)
        have HLT := Lib.hid hlt
        clear hless hlt
        go_upto_region 2 with (first
          | (go_at_call 74; (with_reducible refine HLESS.out.mono ?_; rintro x w1 ⟨rfl, nd, rfl⟩)))
        have hswap := swap_any (HU.out.rs.drew nd) p (q + 1) HPL.out HL1.out
        have HSWAP := Lib.hid (show Calls Try.prog 77 #[.pointer (some ⟨R, 0, none⟩), .int .i64 (p : Nat), .int .i64 ((q : Int) + 1)] (wr.drewN nd) fun e W' => e = .returned (.tuple #[]) ∧ RS B R bl K lw v (swapL l1 p (q + 1)) W' ∧ Ht B R (wr.drewN nd) v W' v from hswap)
        clear hswap
        go_wp2_with (first
          | (go_at_call 77; (with_reducible refine HSWAP.out.mono ?_; rintro x w2 ⟨rfl, hrs2, hht2⟩; have HRS2 := Lib.hid hrs2; have HHT2 := Lib.hid hht2; clear hrs2 hht2)))
        go_roundg p
        case measure => have := HPQ.out; omega
        case rel =>
          refine ⟨rfl, by have := HPL.out; have := HU.out.pm.length_eq; omega, swapL l1 p (q + 1), Lib.hid ⟨HRS2.out, (swapL_perm l1 p (q + 1) HPL.out HL1.out).trans HU.out.pm, ?_, (HU.out.ht.drew nd).trans HHT2.out⟩⟩
          rw [swapL_len]
          refine UpI.congr ?_ (fun m hm => kys_swap lw l1 p (q + 1) HPL.out HL1.out m hm)
          have hk : kys lw l1 (q + 1) < kys lw l1 (par (q + 1)) := by
            rw [← HP.out]; exact HLT.out
          have := HU.out.up.step (Nat.succ_pos q) HL1.out hk
          rw [← HP.out] at this
          exact this
      · rw [show decide (kys lw l1 (q + 1) < kys lw l1 p) = false from decide_eq_false hlt] at hless
        have HLESS := Lib.hid (show Calls Try.prog 74 #[.pointer (some ⟨R, 0, none⟩), .int .i64 ((q : Int) + 1), .int .i64 (p : Nat)] wr fun e W' => e = .returned (.bool false) ∧ ∃ n, W' = wr.drewN n from hless)
        have HLT := Lib.hid hlt
        clear hless hlt
        go_wp2_with (first
          | (go_at_call 74; (with_reducible refine HLESS.out.mono ?_; rintro x w1 ⟨rfl, nd, rfl⟩)))
        refine bodyPost_end (results_none rfl _ _ _) rfl ?_
        refine ⟨rfl, l1, HU.out.rs.drew nd, HU.out.pm, HU.out.up.stop ?_, HU.out.ht.drew nd⟩
        rw [← HP.out]; exact HLT.out
end Go.Proofs.Ytejhejpkfjhmkaa.Man

namespace Go.Proofs.Ytejhejpkfjhmkaa.Man
open Go.RowKit Go.Shelf Go.Proofs.Ytejhejpkfjhmkaa.Pr Go.Proofs.YtejhejpkfjhmkaaW.PrintWords Go.Proofs.YtejhejpkfjhmkaaW.PrintMore Go.Proofs.Ytejhejpkfjhmkaa.Tarj
attribute [local go_sem] Oper.semAt_some
set_option linter.unusedVariables false
set_option linter.unusedSimpArgs false
structure DN (B R bl K : Nat) (lw : Nat → Nat) (v : Value) (l0 : List Nat) (W0 : World) (n i : Nat) (l : List Nat) (W : World) : Prop where
  rs : RS B R bl K lw v l W
  pm : l.Perm l0
  dn : DnI (kys lw l) n i
  hi : ∀ m, n ≤ m → l[m]? = l0[m]?
  ht : Ht B R W0 v W v
theorem swapL_far (l : List Nat) (i j m : Nat) (hi : i ≠ m) (hj : j ≠ m) : (swapL l i j)[m]? = l[m]? := by
  unfold swapL
  rw [List.getElem?_set, if_neg hj, List.getElem?_set, if_neg hi]
theorem DN.next {B R bl K : Nat} {lw : Nat → Nat} {v : Value} {l0 l : List Nat} {W0 W W1 : World} {n i j : Nat} (h : DN B R bl K lw v l0 W0 n i l W) (hn : n ≤ l0.length) (hj0 : 0 < j) (hjn : j < n) (hin : i < n) (hp : par j = i)
    (hm : ∀ m, 0 < m → m < n → par m = i → kys lw l j ≤ kys lw l m) (hk : kys lw l j < kys lw l i) (hr : RS B R bl K lw v (swapL l i j) W1) (ht : Ht B R W0 v W1 v) : DN B R bl K lw v l0 W0 n j (swapL l i j) W1 := by
  have hl := h.pm.length_eq
  refine ⟨hr, (swapL_perm l i j (by omega) (by omega)).trans h.pm, ?_, fun m hm => (swapL_far l i j m (by omega) (by omega)).trans (h.hi m hm), ht⟩
  exact (h.dn.step hm hk hj0 hjn hp).congr (fun m hm => kys_swap lw l i j (by omega) (by omega) m (by omega))
set_option maxHeartbeats 4000000 in
theorem down_any {B R bl K : Nat} {lw : Nat → Nat} {v : Value} {l : List Nat} {W : World} (h : RS B R bl K lw v l W) (n : Nat) (hn : n ≤ l.length) (hd : DnI (kys lw l) n 0) :
    Calls Try.prog 35 #[.iface 41 (.pointer (some ⟨R, 0, none⟩)), .int .i64 0, .int .i64 (n : Nat)] W fun e W' => (∃ b, e = .returned (.bool b)) ∧ ∃ l', RS B R bl K lw v l' W' ∧ l'.Perm l ∧ Hp (kys lw l') n ∧ (∀ m, n ≤ m → l'[m]? = l[m]?) ∧ Ht B R W v W' v := by
  have hm1 := mLess R
  have hm2 := mSwap R
  have H0 := Lib.hid (show DN B R bl K lw v l W n 0 l W from ⟨h, List.Perm.refl _, hd, fun _ _ => rfl, Ht.refl _ _ _ _⟩)
  have hln := h.len
  have HL0 := Lib.hid hn
  have hn1 : n ≤ 1000 := by omega
  clear h hd hn hln
  go_enter Try.func35, Try.ntmps35
  go_wp2
  go_loopg [7] n (fun kq v7 w' => ∃ (i : Nat) (l' : List Nat), v7 = .int .i64 (i : Nat) ∧ i + kq = n ∧ (i < n ∨ i = 0) ∧ Hid (DN B R bl K lw v l W n i l' w'))
  case atStart => exact ⟨0, l, rfl, by omega, .inr rfl, H0⟩
  case round =>
    obtain ⟨i, l1, rfl, hik, hin, HU⟩ := hrel
    obtain ⟨c, hc⟩ : ∃ c, c = 2 * i + 1 := ⟨_, rfl⟩
    have hw1 : wrap64 (2 * (i : Int)) = 2 * (i : Int) := by simp only [wrap64]; omega
    have hw2 : wrap64 (2 * (i : Int) + 1) = (c : Int) := by simp only [wrap64]; omega
    have hw4 : wrap64 ((c : Int) + 1) = (c : Int) + 1 := by simp only [wrap64]; omega
    have hc0 : ¬ ((c : Int) < 0) := by omega
    have HLN := Lib.hid (show n ≤ l1.length ∧ n ≤ 1000 from ⟨by rw [HU.out.pm.length_eq]; exact HL0.out, hn1⟩)
    by_cases hlt : c < n
    · have hle : ¬ (n ≤ c) := by omega
      have HC := Lib.hid (show c = 2 * i + 1 ∧ i < n ∧ c < n ∧ i + gk = n from ⟨hc, by omega, hlt, hik⟩)
      clear hc hik hin
      by_cases hj2 : c + 1 < n
      · by_cases hkk : kys lw l1 (c + 1) < kys lw l1 c
        · have HK2 := Lib.hid hkk
          have HL2 := Lib.hid (show Calls Try.prog 74 #[.pointer (some ⟨R, 0, none⟩), .int .i64 ((c : Int) + 1), .int .i64 (c : Nat)] (wr) fun e W' => e = .returned (.bool true) ∧ ∃ n, W' = World.drewN (wr) n from by
            have q := less_any (HU.out.rs) (c + 1) c (by have := HLN.out.1; have := HC.out; omega) (by have := HLN.out.1; have := HC.out; omega)
            rw [kys_get lw l1 (c + 1) (by have := HLN.out.1; have := HC.out; omega), kys_get lw l1 c (by have := HLN.out.1; have := HC.out; omega)] at q
            rw [show decide (kys lw l1 (c + 1) < kys lw l1 c) = true from decide_eq_true hkk] at q
            exact q)
          clear hkk
          go_upto_region 8 with (first
            | (go_at_call 74; (with_reducible refine HL2.out.mono ?_; rintro x w1 ⟨rfl, n1, rfl⟩)))
          have hmin : ∀ m, 0 < m → m < n → par m = i → kys lw l1 (c + 1) ≤ kys lw l1 m := by
            intro m h0 hm hp
            have hc := HC.out
            have : m = c ∨ m = c + 1 := by unfold par at hp; omega
            rcases this with rfl | rfl
            · have := HK2.out; omega
            · exact Nat.le_refl _
          have HMIN := Lib.hid hmin
          clear hmin
          by_cases hkk : kys lw l1 (c + 1) < kys lw l1 i
          · have HKK := Lib.hid hkk
            have HL3 := Lib.hid (show Calls Try.prog 74 #[.pointer (some ⟨R, 0, none⟩), .int .i64 ((c : Int) + 1), .int .i64 (i : Nat)] (World.drewN wr n1) fun e W' => e = .returned (.bool true) ∧ ∃ n, W' = World.drewN (World.drewN wr n1) n from by
              have q := less_any (HU.out.rs.drew n1) (c + 1) i (by have := HLN.out.1; have := HC.out; omega) (by have := HLN.out.1; have := HC.out; omega)
              rw [kys_get lw l1 (c + 1) (by have := HLN.out.1; have := HC.out; omega), kys_get lw l1 i (by have := HLN.out.1; have := HC.out; omega)] at q
              rw [show decide (kys lw l1 (c + 1) < kys lw l1 i) = true from decide_eq_true hkk] at q
              exact q)
            clear hkk
            go_upto_region 9 with (first
              | (go_at_call 74; (with_reducible refine HL3.out.mono ?_; rintro x w2 ⟨rfl, n2, rfl⟩)))
            have HSW := Lib.hid (show Calls Try.prog 77 #[.pointer (some ⟨R, 0, none⟩), .int .i64 (i : Nat), .int .i64 ((c : Int) + 1)] (World.drewN wr (n1 + n2)) fun e W' => e = .returned (.tuple #[]) ∧ RS B R bl K lw v (swapL l1 i (c + 1)) W' ∧ Ht B R (World.drewN wr (n1 + n2)) v W' v from swap_any ((HU.out.rs).drew (n1 + n2)) i (c + 1) (by have := HLN.out.1; have := HC.out; omega) (by have := HLN.out.1; have := HC.out; omega))
            go_wp2_with (first
              | (go_at_call 77; (with_reducible refine HSW.out.mono ?_; rintro x w3 ⟨rfl, hrs3, hht3⟩; have HRS3 := Lib.hid hrs3; have HHT3 := Lib.hid hht3; clear hrs3 hht3)))
            go_roundg (n - (c + 1))
            case measure => have := HC.out; omega
            case rel =>
              exact ⟨(c + 1), swapL l1 i (c + 1), rfl, by have := HC.out; omega, by have := HC.out; omega, Lib.hid (HU.out.next HL0.out (by have := HC.out; omega) (by have := HC.out; omega) (by have := HC.out; omega) (by unfold par; have := HC.out; omega) HMIN.out HKK.out HRS3.out (((HU.out.ht).drew (n1 + n2)).trans HHT3.out))⟩
          · have HKK := Lib.hid hkk
            have HL3 := Lib.hid (show Calls Try.prog 74 #[.pointer (some ⟨R, 0, none⟩), .int .i64 ((c : Int) + 1), .int .i64 (i : Nat)] (World.drewN wr n1) fun e W' => e = .returned (.bool false) ∧ ∃ n, W' = World.drewN (World.drewN wr n1) n from by
              have q := less_any (HU.out.rs.drew n1) (c + 1) i (by have := HLN.out.1; have := HC.out; omega) (by have := HLN.out.1; have := HC.out; omega)
              rw [kys_get lw l1 (c + 1) (by have := HLN.out.1; have := HC.out; omega), kys_get lw l1 i (by have := HLN.out.1; have := HC.out; omega)] at q
              rw [show decide (kys lw l1 (c + 1) < kys lw l1 i) = false from decide_eq_false hkk] at q
              exact q)
            clear hkk
            go_wp2_with (first
              | (go_at_call 74; (with_reducible refine HL3.out.mono ?_; rintro x w2 ⟨rfl, n2, rfl⟩)))
            go_ret
            exact ⟨⟨_, rfl⟩, l1, (HU.out.rs).drew (n1 + n2), HU.out.pm, HU.out.dn.stop HMIN.out HKK.out, HU.out.hi, (HU.out.ht).drew (n1 + n2)⟩
        · have HK2 := Lib.hid hkk
          have HL2 := Lib.hid (show Calls Try.prog 74 #[.pointer (some ⟨R, 0, none⟩), .int .i64 ((c : Int) + 1), .int .i64 (c : Nat)] (wr) fun e W' => e = .returned (.bool false) ∧ ∃ n, W' = World.drewN (wr) n from by
            have q := less_any (HU.out.rs) (c + 1) c (by have := HLN.out.1; have := HC.out; omega) (by have := HLN.out.1; have := HC.out; omega)
            rw [kys_get lw l1 (c + 1) (by have := HLN.out.1; have := HC.out; omega), kys_get lw l1 c (by have := HLN.out.1; have := HC.out; omega)] at q
            rw [show decide (kys lw l1 (c + 1) < kys lw l1 c) = false from decide_eq_false hkk] at q
            exact q)
          clear hkk
          go_upto_region 8 with (first
            | (go_at_call 74; (with_reducible refine HL2.out.mono ?_; rintro x w1 ⟨rfl, n1, rfl⟩)))
          have hmin : ∀ m, 0 < m → m < n → par m = i → kys lw l1 c ≤ kys lw l1 m := by
            intro m h0 hm hp
            have hc := HC.out
            have : m = c ∨ m = c + 1 := by unfold par at hp; omega
            rcases this with rfl | rfl
            · exact Nat.le_refl _
            · have := HK2.out; omega
          have HMIN := Lib.hid hmin
          clear hmin
          by_cases hkk : kys lw l1 c < kys lw l1 i
          · have HKK := Lib.hid hkk
            have HL3 := Lib.hid (show Calls Try.prog 74 #[.pointer (some ⟨R, 0, none⟩), .int .i64 (c : Nat), .int .i64 (i : Nat)] (World.drewN wr n1) fun e W' => e = .returned (.bool true) ∧ ∃ n, W' = World.drewN (World.drewN wr n1) n from by
              have q := less_any (HU.out.rs.drew n1) c i (by have := HLN.out.1; have := HC.out; omega) (by have := HLN.out.1; have := HC.out; omega)
              rw [kys_get lw l1 c (by have := HLN.out.1; have := HC.out; omega), kys_get lw l1 i (by have := HLN.out.1; have := HC.out; omega)] at q
              rw [show decide (kys lw l1 c < kys lw l1 i) = true from decide_eq_true hkk] at q
              exact q)
            clear hkk
            go_upto_region 9 with (first
              | (go_at_call 74; (with_reducible refine HL3.out.mono ?_; rintro x w2 ⟨rfl, n2, rfl⟩)))
            have HSW := Lib.hid (show Calls Try.prog 77 #[.pointer (some ⟨R, 0, none⟩), .int .i64 (i : Nat), .int .i64 (c : Nat)] (World.drewN wr (n1 + n2)) fun e W' => e = .returned (.tuple #[]) ∧ RS B R bl K lw v (swapL l1 i c) W' ∧ Ht B R (World.drewN wr (n1 + n2)) v W' v from swap_any ((HU.out.rs).drew (n1 + n2)) i c (by have := HLN.out.1; have := HC.out; omega) (by have := HLN.out.1; have := HC.out; omega))
            go_wp2_with (first
              | (go_at_call 77; (with_reducible refine HSW.out.mono ?_; rintro x w3 ⟨rfl, hrs3, hht3⟩; have HRS3 := Lib.hid hrs3; have HHT3 := Lib.hid hht3; clear hrs3 hht3)))
            go_roundg (n - c)
            case measure => have := HC.out; omega
            case rel =>
              exact ⟨c, swapL l1 i c, rfl, by have := HC.out; omega, by have := HC.out; omega, Lib.hid (HU.out.next HL0.out (by have := HC.out; omega) (by have := HC.out; omega) (by have := HC.out; omega) (by unfold par; have := HC.out; omega) HMIN.out HKK.out HRS3.out (((HU.out.ht).drew (n1 + n2)).trans HHT3.out))⟩
          · have HKK := Lib.hid hkk
            have HL3 := Lib.hid (show Calls Try.prog 74 #[.pointer (some ⟨R, 0, none⟩), .int .i64 (c : Nat), .int .i64 (i : Nat)] (World.drewN wr n1) fun e W' => e = .returned (.bool false) ∧ ∃ n, W' = World.drewN (World.drewN wr n1) n from by
              have q := less_any (HU.out.rs.drew n1) c i (by have := HLN.out.1; have := HC.out; omega) (by have := HLN.out.1; have := HC.out; omega)
              rw [kys_get lw l1 c (by have := HLN.out.1; have := HC.out; omega), kys_get lw l1 i (by have := HLN.out.1; have := HC.out; omega)] at q
              rw [show decide (kys lw l1 c < kys lw l1 i) = false from decide_eq_false hkk] at q
              exact q)
            clear hkk
            go_wp2_with (first
              | (go_at_call 74; (with_reducible refine HL3.out.mono ?_; rintro x w2 ⟨rfl, n2, rfl⟩)))
            go_ret
            exact ⟨⟨_, rfl⟩, l1, (HU.out.rs).drew (n1 + n2), HU.out.pm, HU.out.dn.stop HMIN.out HKK.out, HU.out.hi, (HU.out.ht).drew (n1 + n2)⟩
      · go_upto_region 8 with (fail)
        have hmin : ∀ m, 0 < m → m < n → par m = i → kys lw l1 c ≤ kys lw l1 m := by
          intro m h0 hm hp
          have hc := HC.out
          have : m = c ∨ m = c + 1 := by unfold par at hp; omega
          rcases this with rfl | rfl
          · exact Nat.le_refl _
          · omega
        have HMIN := Lib.hid hmin
        clear hmin
        by_cases hkk : kys lw l1 c < kys lw l1 i
        · have HKK := Lib.hid hkk
          have HL3 := Lib.hid (show Calls Try.prog 74 #[.pointer (some ⟨R, 0, none⟩), .int .i64 (c : Nat), .int .i64 (i : Nat)] (wr) fun e W' => e = .returned (.bool true) ∧ ∃ n, W' = World.drewN (wr) n from by
            have q := less_any (HU.out.rs) c i (by have := HLN.out.1; have := HC.out; omega) (by have := HLN.out.1; have := HC.out; omega)
            rw [kys_get lw l1 c (by have := HLN.out.1; have := HC.out; omega), kys_get lw l1 i (by have := HLN.out.1; have := HC.out; omega)] at q
            rw [show decide (kys lw l1 c < kys lw l1 i) = true from decide_eq_true hkk] at q
            exact q)
          clear hkk
          go_upto_region 9 with (first
            | (go_at_call 74; (with_reducible refine HL3.out.mono ?_; rintro x w2 ⟨rfl, n2, rfl⟩)))
          have HSW := Lib.hid (show Calls Try.prog 77 #[.pointer (some ⟨R, 0, none⟩), .int .i64 (i : Nat), .int .i64 (c : Nat)] (World.drewN wr n2) fun e W' => e = .returned (.tuple #[]) ∧ RS B R bl K lw v (swapL l1 i c) W' ∧ Ht B R (World.drewN wr n2) v W' v from swap_any ((HU.out.rs).drew n2) i c (by have := HLN.out.1; have := HC.out; omega) (by have := HLN.out.1; have := HC.out; omega))
          go_wp2_with (first
            | (go_at_call 77; (with_reducible refine HSW.out.mono ?_; rintro x w3 ⟨rfl, hrs3, hht3⟩; have HRS3 := Lib.hid hrs3; have HHT3 := Lib.hid hht3; clear hrs3 hht3)))
          go_roundg (n - c)
          case measure => have := HC.out; omega
          case rel =>
            exact ⟨c, swapL l1 i c, rfl, by have := HC.out; omega, by have := HC.out; omega, Lib.hid (HU.out.next HL0.out (by have := HC.out; omega) (by have := HC.out; omega) (by have := HC.out; omega) (by unfold par; have := HC.out; omega) HMIN.out HKK.out HRS3.out (((HU.out.ht).drew n2).trans HHT3.out))⟩
        · have HKK := Lib.hid hkk
          have HL3 := Lib.hid (show Calls Try.prog 74 #[.pointer (some ⟨R, 0, none⟩), .int .i64 (c : Nat), .int .i64 (i : Nat)] (wr) fun e W' => e = .returned (.bool false) ∧ ∃ n, W' = World.drewN (wr) n from by
            have q := less_any (HU.out.rs) c i (by have := HLN.out.1; have := HC.out; omega) (by have := HLN.out.1; have := HC.out; omega)
            rw [kys_get lw l1 c (by have := HLN.out.1; have := HC.out; omega), kys_get lw l1 i (by have := HLN.out.1; have := HC.out; omega)] at q
            rw [show decide (kys lw l1 c < kys lw l1 i) = false from decide_eq_false hkk] at q
            exact q)
          clear hkk
          go_wp2_with (first
            | (go_at_call 74; (with_reducible refine HL3.out.mono ?_; rintro x w2 ⟨rfl, n2, rfl⟩)))
          go_ret
          exact ⟨⟨_, rfl⟩, l1, (HU.out.rs).drew n2, HU.out.pm, HU.out.dn.stop HMIN.out HKK.out, HU.out.hi, (HU.out.ht).drew n2⟩
    · have hle : n ≤ c := by omega
      have HC := Lib.hid (show c = 2 * i + 1 from hc)
      clear hc hik hin
      go_wp2
      go_ret
      refine ⟨?_, l1, HU.out.rs, HU.out.pm, HU.out.dn.none (by rw [← HC.out]; exact hle), HU.out.hi, HU.out.ht⟩
      by_cases e : 0 < i
      · right; simp [e]
      · left; simp [e]
theorem hpush_any {B R bl K : Nat} {lw : Nat → Nat} {v : Value} {l : List Nat} {W : World} (h : RS B R bl K lw v l W) (hh : Hp (kys lw l) l.length) (x : Nat) (hx : x < K) (hl : l.length + 1 ≤ 1000) (hB : B ≤ W.heap.size) :
    Calls Try.prog 25 #[.iface 41 (.pointer (some ⟨R, 0, none⟩)), .iface 3 (.int .i64 (x : Nat))] W fun e W' => e = .returned (.tuple #[]) ∧ ∃ v' l', RS B R bl K lw v' l' W' ∧ l'.Perm (l ++ [x]) ∧ Hp (kys lw l') l'.length ∧ Ht B R W v W' v' := by
  have hm1 := mPush R
  have hm2 := mLen R
  have hpush := push_any h x hx hl hB
  have HPUSH := Lib.hid hpush
  have hup : UpI (kys lw (l ++ [x])) (l ++ [x]).length l.length := by
    rw [List.length_append]
    refine ⟨fun i h0 hi hne => ?_, fun i h0 hi hj he => ?_⟩
    · have hi' : i < l.length := by simp at hi; omega
      have hp := par_lt h0
      have e : ∀ m, m < l.length → kys lw (l ++ [x]) m = kys lw l m := fun m hm => by
        unfold kys; rw [List.getD_eq_getElem?_getD, List.getD_eq_getElem?_getD, List.getElem?_append_left hm]
      rw [e i hi', e (par i) (by omega)]
      exact hh i h0 hi'
    · exfalso
      simp at hi
      unfold par at he
      omega
  have HUP := Lib.hid hup
  have hw1 : wrap64 ((l.length : Int)) = (l.length : Int) := by simp only [wrap64]; omega
  have HB := Lib.hid hB
  clear hpush hup hh h hB
  go_enter Try.func25, Try.ntmps25
  go_upto_region 1 with (first
    | (go_at_call 76; (with_reducible refine HPUSH.out.mono ?_; rintro z w1 ⟨rfl, v1, hrs1, hht1⟩; have HRS1 := Lib.hid hrs1; have HHT1 := Lib.hid hht1; clear hrs1 hht1)))
  have hlen := len_any HRS1.out
  have HLEN := Lib.hid hlen
  have HUPA := Lib.hid (up_any HRS1.out l.length (by rw [List.length_append]; exact Nat.lt_succ_self _) HUP.out)
  clear hlen
  have hla : ((l ++ [x]).length : Int) = (l.length : Int) + 1 := by simp
  go_wp2_with (first
    | (go_at_call 26; (with_reducible refine HLEN.out.mono ?_; rintro z w2 ⟨rfl, hw2⟩; obtain rfl : w1 = w2 := hw2.symm))
    | (go_at_call 34; (with_reducible refine HUPA.out.mono ?_; rintro z w3 ⟨rfl, l3, hrs3, hpm3, hhp3, hht3⟩; have HRS3 := Lib.hid hrs3; have HPM3 := Lib.hid hpm3; have HHP3 := Lib.hid hhp3; have HHT3 := Lib.hid hht3; clear hrs3 hpm3 hhp3 hht3)))
  refine bodyPost_end (results_none rfl _ _ _) rfl ?_
  exact ⟨rfl, v1, l3, HRS3.out, HPM3.out, HHP3.out, HHT1.out.trans HHT3.out⟩
end Go.Proofs.Ytejhejpkfjhmkaa.Man

namespace Go.Proofs.Ytejhejpkfjhmkaa.Man
open Go.RowKit Go.Shelf Go.Proofs.Ytejhejpkfjhmkaa.Pr Go.Proofs.YtejhejpkfjhmkaaW.PrintWords Go.Proofs.YtejhejpkfjhmkaaW.PrintMore Go.Proofs.Ytejhejpkfjhmkaa.Tarj
attribute [local go_sem] Oper.semAt_some
set_option linter.unusedVariables false
set_option linter.unusedSimpArgs false
theorem pop_dn {lw : Nat → Nat} {l : List Nat} {k : Nat} (hk : l.length = k + 1) (hh : Hp (kys lw l) l.length) : DnI (kys lw (swapL l 0 k)) k 0 := by
  refine ⟨fun m h0 hm hne => ?_, fun m h0 hm h _ => absurd h (Nat.lt_irrefl 0)⟩
  have hp := par_lt h0
  rw [kys_swap lw l 0 k (by omega) (by omega) m (by omega), kys_swap lw l 0 k (by omega) (by omega) (par m) (by omega)]
  unfold swk
  rw [if_neg hne, if_neg (by omega), if_neg (by omega), if_neg (by omega)]
  exact hh m h0 (by omega)
theorem take_hp {lw : Nat → Nat} {l : List Nat} {k : Nat} (hk : k ≤ l.length) (h : Hp (kys lw l) k) : Hp (kys lw (l.take k)) (l.take k).length := by
  have hl : (l.take k).length = k := by rw [List.length_take]; omega
  rw [hl]
  refine h.congr (fun m hm => ?_)
  unfold kys
  rw [List.getD_eq_getElem?_getD, List.getD_eq_getElem?_getD, List.getElem?_take, if_pos hm]
theorem pop_perm {l l2 : List Nat} {k x : Nat} (hk : l2.length = k + 1) (hx : l2[k]? = some x) (hp : l2.Perm l) : (x :: l2.take k).Perm l := by
  obtain ⟨h1, h2⟩ := List.getElem?_eq_some_iff.1 hx
  have e : l2 = l2.take k ++ [x] := by
    have := List.take_succ_eq_append_getElem h1
    rw [h2] at this
    rw [← this, ← hk, List.take_length]
  refine List.Perm.trans ?_ hp
  conv => rhs; rw [e]
  exact (List.perm_append_singleton x _).symm
theorem hpop_any {B R bl K : Nat} {lw : Nat → Nat} {v : Value} {l : List Nat} {W : World} (h : RS B R bl K lw v l W) (hh : Hp (kys lw l) l.length) (hp : 0 < l.length) (hB : B ≤ W.heap.size) :
    Calls Try.prog 27 #[.iface 41 (.pointer (some ⟨R, 0, none⟩))] W fun e W' => ∃ x v' l', e = .returned (.iface 3 (.int .i64 (x : Nat))) ∧ RS B R bl K lw v' l' W' ∧ (x :: l').Perm l ∧ Hp (kys lw l') l'.length ∧ Ht B R W v W' v' ∧ ∀ y, y ∈ l → lw x ≤ lw y := by
  have hm1 := mLen R
  have hm2 := mSwap R
  have hm3 := mPop R
  obtain ⟨k, hk⟩ : ∃ k, l.length = k + 1 := ⟨l.length - 1, by omega⟩
  have hkl := h.len
  have hw1 : wrap64 (k : Int) = (k : Int) := by simp only [wrap64]; omega
  obtain ⟨x, hx⟩ : ∃ x, l[0]? = some x := ⟨_, List.getElem?_eq_getElem hp⟩
  have hmin : ∀ y, y ∈ l → lw x ≤ lw y := by
    intro y hy
    obtain ⟨i, hi, rfl⟩ := List.getElem_of_mem hy
    have := hh.top i hi
    unfold kys at this
    rw [List.getD_eq_getElem?_getD, List.getD_eq_getElem?_getD, hx, List.getElem?_eq_getElem hi] at this
    exact this
  have hdn := pop_dn hk hh
  have hlen := len_any h
  rw [hk] at hlen
  have hswap := swap_any h 0 k (by omega) (by omega)
  have HLEN := Lib.hid (show Calls Try.prog 26 #[.pointer (some ⟨R, 0, none⟩)] W fun e W' => e = .returned (.int .i64 ((k : Int) + 1)) ∧ W' = W from hlen)
  have HSW := Lib.hid (show Calls Try.prog 77 #[.pointer (some ⟨R, 0, none⟩), .int .i64 0, .int .i64 (k : Nat)] W fun e W' => e = .returned (.tuple #[]) ∧ RS B R bl K lw v (swapL l 0 k) W' ∧ Ht B R W v W' v from hswap)
  have HDNI := Lib.hid hdn
  have HK := Lib.hid hk
  have HX := Lib.hid hx
  have HMIN := Lib.hid hmin
  have HB := Lib.hid hB
  clear hlen hswap hdn hk hx hmin hB h hh hp hkl
  go_enter Try.func27, Try.ntmps27
  go_upto_region 3 with (first
    | (go_at_call 26; (with_reducible refine HLEN.out.mono ?_; rintro z w2 ⟨rfl, hw2⟩; obtain rfl : W = w2 := hw2.symm))
    | (go_at_call 77; (with_reducible refine HSW.out.mono ?_; rintro z w2 ⟨rfl, hrs2, hht2⟩; have HRS2 := Lib.hid hrs2; have HHT2 := Lib.hid hht2; clear hrs2 hht2)))
  have HDOWN := Lib.hid (down_any HRS2.out k (by rw [swapL_len, HK.out]; exact Nat.le_succ k) HDNI.out)
  go_upto_region 4 with (first
    | (go_at_call 35; (with_reducible refine HDOWN.out.mono ?_; rintro z w3 ⟨⟨b3, rfl⟩, l3, hrs3, hpm3, hhp3, hfar3, hht3⟩; have HRS3 := Lib.hid hrs3; have HPM3 := Lib.hid hpm3; have HHP3 := Lib.hid hhp3; have HHT3 := Lib.hid hht3; have HFAR3 := Lib.hid hfar3; clear hrs3 hpm3 hhp3 hht3 hfar3)))
  have hl3 : l3.length = k + 1 := by rw [HPM3.out.length_eq, swapL_len]; exact HK.out
  have hx3 : l3[k]? = some x := by
    rw [HFAR3.out k (Nat.le_refl k)]
    unfold swapL
    rw [List.getElem?_set, if_pos rfl, List.length_set, if_pos (by have := HK.out; omega), List.getD_eq_getElem?_getD, HX.out]; rfl
  have hpop := pop_any HRS3.out (by omega) (Nat.le_trans HB.out (HHT2.out.trans HHT3.out).be.size)
  have hlx : l3[l3.length - 1]'(by omega) = x := by
    obtain ⟨h1, h2⟩ := List.getElem?_eq_some_iff.1 hx3
    have : l3.length - 1 = k := by omega
    simp only [this]; exact h2
  rw [hlx, show l3.length - 1 = k by omega] at hpop
  have HPOP := Lib.hid hpop
  have HL3 := Lib.hid hl3
  have HX3 := Lib.hid hx3
  clear hpop hlx hl3 hx3
  go_wp2_with (first
    | (go_at_call 75; (with_reducible refine HPOP.out.mono ?_; rintro z w4 ⟨rfl, v4, hrs4, hht4⟩; have HRS4 := Lib.hid hrs4; have HHT4 := Lib.hid hht4; clear hrs4 hht4)))
  go_ret
  exact ⟨x, v4, l3.take k, rfl, HRS4.out, pop_perm HL3.out HX3.out (HPM3.out.trans (swapL_perm l 0 k (by have := HK.out; omega) (by have := HK.out; omega))), take_hp (by have := HL3.out; omega) HHP3.out, (HHT2.out.trans HHT3.out).trans HHT4.out, HMIN.out⟩
end Go.Proofs.Ytejhejpkfjhmkaa.Man

namespace Go.Proofs.Ytejhejpkfjhmkaa.Man
open Go.RowKit Go.Shelf Go.Proofs.Ytejhejpkfjhmkaa.Pr Go.Proofs.YtejhejpkfjhmkaaW.PrintWords Go.Proofs.YtejhejpkfjhmkaaW.PrintMore Go.Proofs.Ytejhejpkfjhmkaa.Tarj
set_option linter.unusedVariables false
set_option linter.unusedSimpArgs false
def ix9 (bo bof M n mm : Nat) (g : List (List Int)) (cls : Nat → Nat) (v : Nat → Value) (i : Nat) : Value := match i with | 0 => .slice (some ⟨bo, 0, none⟩) M M | 1 => .slice (some ⟨bof, 0, none⟩) g.length g.length | 2 => .int .i64 (n : Nat) | 3 => .pointer (some ⟨bof, n, none⟩) | 4 => .int .i64 (cls n : Nat) | 5 => .slice (some ⟨bo, 0, none⟩) M M | 6 => .slice (some ⟨bof, 0, none⟩) g.length g.length | 7 => .int .i64 (n : Nat) | 8 => .pointer (some ⟨bof, n, none⟩) | 9 => .int .i64 (cls n : Nat) | 10 => .pointer (some ⟨bo, cls n, none⟩) | 11 => v (cls n) | 12 => .slice (some ⟨bof, 0, none⟩) g.length g.length | 13 => .int .i64 (mm : Nat) | 14 => .pointer (some ⟨bof, mm, none⟩) | 15 => .int .i64 (cls mm : Nat) | 18 => .pointer (some ⟨bo, cls n, none⟩) | _ => undef
def cst9 (i : Nat) : Bool := i != 16 && i != 17 && i != 19
structure S9 (B bo bof M n mm : Nat) (g : List (List Int)) (cls : Nat → Nat) (v : Nat → Value) (r : Nat → List Nat) (W : World) (done : Nat → Bool) (val : Nat → Value) (Z : World) : Prop where
  of : W.heap[bof]? = some (.cells (ints g.length cls) 3 (0, 0))
  lo : bof < B
  fd : FD B bo M v r W
  vv : ∀ i, done i = true → cst9 i = true → val i = ix9 bo bof M n mm g cls v i
  n11 : done 11 = false → done 17 = false
  n16 : done 16 = false → done 17 = false
  n17 : done 17 = false → done 19 = false
  pz : done 17 = false → Below W.heap.size W Z
  b16 : done 16 = true → done 17 = false → ∃ Z0, Z = Z0.alloc (.cells #[.int .i64 (cls mm : Nat)] 3) ∧ val 16 = .slice (some ⟨Z0.heap.size, 0, none⟩) 1 1 ∧ Below W.heap.size W Z0
  s17 : done 17 = true → done 19 = false → ∃ v1, val 17 = v1 ∧ kI.R 3 Z B (fun k => k ≠ bo) v1 (toI (r (cls n) ++ [cls mm])) ∧ W.grownBy Z (v (cls n)).ownBlock ∧ (v1.ownBlock = (v (cls n)).ownBlock ∨ ∃ b, v1.ownBlock = some b ∧ W.heap.size ≤ b) ∧ Below B W Z
  s19 : done 19 = true → ∃ v1, FD B bo M (Tarj.upd v (cls n) v1) (Tarj.upd r (cls n) (r (cls n) ++ [cls mm])) Z ∧ Below B W Z
section
variable {B bo bof M n mm : Nat} {g : List (List Int)} {cls : Nat → Nat} {v : Nat → Value} {r : Nat → List Nat} {W Z : World} {done : Nat → Bool} {val : Nat → Value}
theorem S9.start (of : W.heap[bof]? = some (.cells (ints g.length cls) 3 (0, 0))) (lo : bof < B) (fd : FD B bo M v r W) : S9 B bo bof M n mm g cls v r W (fun _ => false) (fun _ => undef) { W with drawn := W.drawn + 1 } :=
  ⟨of, lo, fd, by simp, fun _ => rfl, fun _ => rfl, fun _ => rfl, fun _ => (Below.refl W.heap.size W).drew, by simp, by simp, by simp⟩
theorem S9.v0 (h : S9 B bo bof M n mm g cls v r W done val Z) (hd : done 0 = true) : val 0 = .slice (some ⟨bo, 0, none⟩) M M := h.vv 0 hd (by decide)
theorem S9.v1 (h : S9 B bo bof M n mm g cls v r W done val Z) (hd : done 1 = true) : val 1 = .slice (some ⟨bof, 0, none⟩) g.length g.length := h.vv 1 hd (by decide)
theorem S9.v2 (h : S9 B bo bof M n mm g cls v r W done val Z) (hd : done 2 = true) : val 2 = .int .i64 (n : Nat) := h.vv 2 hd (by decide)
theorem S9.v3 (h : S9 B bo bof M n mm g cls v r W done val Z) (hd : done 3 = true) : val 3 = .pointer (some ⟨bof, n, none⟩) := h.vv 3 hd (by decide)
theorem S9.v4 (h : S9 B bo bof M n mm g cls v r W done val Z) (hd : done 4 = true) : val 4 = .int .i64 (cls n : Nat) := h.vv 4 hd (by decide)
theorem S9.v5 (h : S9 B bo bof M n mm g cls v r W done val Z) (hd : done 5 = true) : val 5 = .slice (some ⟨bo, 0, none⟩) M M := h.vv 5 hd (by decide)
theorem S9.v6 (h : S9 B bo bof M n mm g cls v r W done val Z) (hd : done 6 = true) : val 6 = .slice (some ⟨bof, 0, none⟩) g.length g.length := h.vv 6 hd (by decide)
theorem S9.v7 (h : S9 B bo bof M n mm g cls v r W done val Z) (hd : done 7 = true) : val 7 = .int .i64 (n : Nat) := h.vv 7 hd (by decide)
theorem S9.v8 (h : S9 B bo bof M n mm g cls v r W done val Z) (hd : done 8 = true) : val 8 = .pointer (some ⟨bof, n, none⟩) := h.vv 8 hd (by decide)
theorem S9.v9 (h : S9 B bo bof M n mm g cls v r W done val Z) (hd : done 9 = true) : val 9 = .int .i64 (cls n : Nat) := h.vv 9 hd (by decide)
theorem S9.v10 (h : S9 B bo bof M n mm g cls v r W done val Z) (hd : done 10 = true) : val 10 = .pointer (some ⟨bo, cls n, none⟩) := h.vv 10 hd (by decide)
theorem S9.v11 (h : S9 B bo bof M n mm g cls v r W done val Z) (hd : done 11 = true) : val 11 = v (cls n) := h.vv 11 hd (by decide)
theorem S9.v12 (h : S9 B bo bof M n mm g cls v r W done val Z) (hd : done 12 = true) : val 12 = .slice (some ⟨bof, 0, none⟩) g.length g.length := h.vv 12 hd (by decide)
theorem S9.v13 (h : S9 B bo bof M n mm g cls v r W done val Z) (hd : done 13 = true) : val 13 = .int .i64 (mm : Nat) := h.vv 13 hd (by decide)
theorem S9.v14 (h : S9 B bo bof M n mm g cls v r W done val Z) (hd : done 14 = true) : val 14 = .pointer (some ⟨bof, mm, none⟩) := h.vv 14 hd (by decide)
theorem S9.v15 (h : S9 B bo bof M n mm g cls v r W done val Z) (hd : done 15 = true) : val 15 = .int .i64 (cls mm : Nat) := h.vv 15 hd (by decide)
theorem S9.v18 (h : S9 B bo bof M n mm g cls v r W done val Z) (hd : done 18 = true) : val 18 = .pointer (some ⟨bo, cls n, none⟩) := h.vv 18 hd (by decide)
theorem S9.do_ (h : S9 B bo bof M n mm g cls v r W done val Z) (i : Nat) (hc : cst9 i = true) {x : Value} (hx : x = ix9 bo bof M n mm g cls v i) : S9 B bo bof M n mm g cls v r W (upd done i) (setv val i x) Z := by
  have e16 : i ≠ 16 := by rintro rfl; cases hc
  have e17 : i ≠ 17 := by rintro rfl; cases hc
  have e19 : i ≠ 19 := by rintro rfl; cases hc
  refine ⟨h.of, h.lo, h.fd, fun j hj hcj => ?_, ?_, ?_, ?_, ?_, ?_, ?_, ?_⟩
  · simp only [upd, setv] at hj ⊢
    by_cases e : j = i
    · rw [if_pos e, e]; exact hx
    · rw [if_neg e] at hj ⊢; exact h.vv j hj hcj
  all_goals simp only [upd, setv, if_neg (Ne.symm e16), if_neg (Ne.symm e17), if_neg (Ne.symm e19)]
  · by_cases e : 11 = i
    · rw [if_pos e]; exact fun q => by cases q
    · rw [if_neg e]; exact h.n11
  · exact h.n16
  · exact h.n17
  · exact h.pz
  · exact h.b16
  · exact h.s17
  · exact h.s19
theorem S9.bB (h : S9 B bo bof M n mm g cls v r W done val Z) : Below B W Z := by
  have hb : B ≤ W.heap.size := Nat.le_trans h.fd.b (Nat.le_of_lt (blk_lt h.fd.o))
  cases e7 : done 17 with
  | false => exact (h.pz e7).mono hb
  | true =>
    cases e9 : done 19 with
    | false => obtain ⟨_, _, _, _, _, q⟩ := h.s17 e7 e9; exact q
    | true => obtain ⟨_, _, q⟩ := h.s19 e9; exact q
theorem S9.rd (h : S9 B bo bof M n mm g cls v r W done val Z) {j : Nat} (hj : j < g.length) : Z.cell? ⟨bof, j, none⟩ = some (.int .i64 (cls j : Nat)) :=
  (blk_cell ((h.bB.block bof h.lo).trans h.of) j).trans (ints_get _ hj)
theorem S9.rdo (h : S9 B bo bof M n mm g cls v r W done val Z) (h11 : done 11 = false) (hcn : cls n < M) : Z.cell? ⟨bo, cls n, none⟩ = some (v (cls n)) :=
  ((h.fd.below (h.pz (h.n11 h11))).cell hcn).1
theorem S9.do16 (h : S9 B bo bof M n mm g cls v r W done val Z) (hd : done 16 = false) : S9 B bo bof M n mm g cls v r W (upd done 16) (setv val 16 (.slice (some ⟨Z.heap.size, 0, none⟩) 1 1)) (Z.alloc (.cells #[.int .i64 (cls mm : Nat)] 3)) := by
  have h17 := h.n16 hd
  have h19 := h.n17 h17
  refine ⟨h.of, h.lo, h.fd, fun j hj hcj => ?_, ?_, ?_, ?_, ?_, ?_, ?_, ?_⟩
  · have e : j ≠ 16 := by rintro rfl; cases hcj
    simp only [upd, setv, if_neg e] at hj ⊢
    exact h.vv j hj hcj
  all_goals simp only [upd, setv, if_true, if_neg (show (11 : Nat) ≠ 16 by decide), if_neg (show (17 : Nat) ≠ 16 by decide), if_neg (show (19 : Nat) ≠ 16 by decide)]
  · exact h.n11
  · exact fun q => by cases q
  · exact h.n17
  · exact fun q => below_alloc (h.pz q) _
  · exact fun _ q => ⟨Z, rfl, rfl, h.pz q⟩
  · intro q; rw [h17] at q; cases q
  · intro q; rw [h19] at q; cases q
theorem S9.do17 {Z0 w1 : World} {v1 : Value} (h : S9 B bo bof M n mm g cls v r W done val Z) (h11 : done 11 = true) (h16 : done 16 = true) (hd : done 17 = false) (hb0 : Below W.heap.size W Z0)
    (hr : kI.R 3 w1 B (fun k => k ≠ bo) v1 (toI (r (cls n)) ++ [((cls mm : Nat) : Int)])) (hb : Below B W w1) (hg : Z0.grownBy w1 (v (cls n)).ownBlock) (hat : v1.ownBlock = (v (cls n)).ownBlock ∨ ∃ b, v1.ownBlock = some b ∧ Z0.heap.size ≤ b) :
    S9 B bo bof M n mm g cls v r W (upd done 17) (setv val 17 v1) w1 := by
  have h19 := h.n17 hd
  have hgW : W.grownBy w1 (v (cls n)).ownBlock := ⟨hb.os, hb.tape, hb.output, hb.size, fun k hk hne => (hg.block k (Nat.lt_of_lt_of_le hk hb0.size) hne).trans (hb0.block k hk)⟩
  refine ⟨h.of, h.lo, h.fd, fun j hj hcj => ?_, ?_, ?_, ?_, ?_, ?_, ?_, ?_⟩
  · have e : j ≠ 17 := by rintro rfl; cases hcj
    simp only [upd, setv, if_neg e] at hj ⊢
    exact h.vv j hj hcj
  all_goals simp only [upd, setv, if_true, if_neg (show (11 : Nat) ≠ 17 by decide), if_neg (show (16 : Nat) ≠ 17 by decide), if_neg (show (19 : Nat) ≠ 17 by decide)]
  · intro q; rw [h11] at q; cases q
  · intro q; rw [h16] at q; cases q
  · exact fun q => by cases q
  · exact fun q => by cases q
  · exact fun _ q => by cases q
  · exact fun _ _ => ⟨v1, rfl, by simpa [toI] using hr, hgW, hat.imp_right (fun ⟨b, e, hle⟩ => ⟨b, e, Nat.le_trans hb0.size hle⟩), hb⟩
  · intro q; rw [h19] at q; cases q
theorem S9.at17 (h : S9 B bo bof M n mm g cls v r W done val Z) (h17 : done 17 = true) (h19 : done 19 = false) (hcn : cls n < M) :
    ∃ A9 n9 c9, val 17 = .slice A9 n9 c9 ∧ Z.cell? ⟨bo, cls n, none⟩ = some (v (cls n)) ∧ Z.frozen? ⟨bo, cls n, none⟩ = false := by
  obtain ⟨v1, e, hr, hg, _, _⟩ := h.s17 h17 h19
  obtain ⟨A, c, e2, _, _⟩ := Kd.R_reads hr
  have ho := blk_grown h.fd.o hg (h.fd.ne hcn)
  exact ⟨A, _, c, e.trans e2, (blk_cell ho _).trans (vals_get _ hcn), blk_frozen ho _⟩
theorem S9.do19 (h : S9 B bo bof M n mm g cls v r W done val Z) (h17 : done 17 = true) (hd : done 19 = false) (hcn : cls n < M) {x v1 : Value} (hv : val 17 = v1) :
    S9 B bo bof M n mm g cls v r W (upd done 19) (setv val 19 x) (Z.setCell ⟨bo, cls n, none⟩ v1) := by
  obtain ⟨v2, e, hr, hg, hat, hb⟩ := h.s17 h17 hd
  obtain rfl : v1 = v2 := hv.symm.trans e
  refine ⟨h.of, h.lo, h.fd, fun j hj hcj => ?_, ?_, ?_, ?_, ?_, ?_, ?_, ?_⟩
  · have e : j ≠ 19 := by rintro rfl; cases hcj
    simp only [upd, setv, if_neg e] at hj ⊢
    exact h.vv j hj hcj
  all_goals simp only [upd, setv, if_true, if_neg (show (11 : Nat) ≠ 19 by decide), if_neg (show (16 : Nat) ≠ 19 by decide), if_neg (show (17 : Nat) ≠ 19 by decide)]
  · exact h.n11
  · exact h.n16
  · intro q; rw [h17] at q; cases q
  · intro q; rw [h17] at q; cases q
  · intro _ q; rw [h17] at q; cases q
  · exact fun _ q => by cases q
  · exact fun _ => ⟨v1, h.fd.put hcn hr hg hat, h.fd.put_below hcn v1 hg hb⟩
end
end Go.Proofs.Ytejhejpkfjhmkaa.Man

namespace Go.Proofs.Ytejhejpkfjhmkaa.Man
open Go.RowKit Go.Shelf Go.Proofs.Ytejhejpkfjhmkaa.Pr Go.Proofs.YtejhejpkfjhmkaaW.PrintWords Go.Proofs.YtejhejpkfjhmkaaW.PrintMore Go.Proofs.Ytejhejpkfjhmkaa.Tarj
attribute [local go_sem] Oper.semAt_some
set_option linter.unusedVariables false
set_option linter.unusedSimpArgs false
def rowIns (cls : Nat → Nat) (n : Nat) (r : Nat → List Nat) (m : Nat) : Nat → List Nat := if cls m = cls n then r else Tarj.upd r (cls n) (r (cls n) ++ [cls m])
def rowsAt (cls : Nat → Nat) (adj : Nat → List Nat) (n : Nat) : Nat → List Nat := (List.range n).foldl (fun r x => (adj x).foldl (rowIns cls x) r) (fun _ => [])
theorem rowIns_len (cls : Nat → Nat) (n : Nat) (r : Nat → List Nat) (m c : Nat) (h : ∀ i, (r i).length ≤ c) : ∀ i, (rowIns cls n r m i).length ≤ c + 1 := by
  intro i
  unfold rowIns
  split
  · exact Nat.le_succ_of_le (h i)
  · simp only [Tarj.upd]
    split
    · rw [List.length_append]; exact Nat.succ_le_succ (h _)
    · exact Nat.le_succ_of_le (h i)
def cmpN (l : List Nat) : List Nat := (Go.Lib.compact (srt (toI l))).map Int.toNat
theorem mem_upto (d : Array Int) : ∀ m, m ≤ d.size → ∀ x, x ∈ Go.Lib.compactUpTo d m → x ∈ d.toList
  | 0, _, x, h => by simp [Go.Lib.compactUpTo] at h
  | m + 1, hm, x, h => by
    rw [Go.Lib.compactUpTo_succ, List.mem_append] at h
    rcases h with h | h
    · exact mem_upto d m (Nat.le_of_succ_le hm) x h
    · split at h
      · rw [List.mem_singleton] at h
        subst h
        rw [getElem!_pos d m hm]
        exact Array.getElem_mem_toList hm
      · cases h
theorem mem_compact {l : List Int} {x : Int} (h : x ∈ Go.Lib.compact l) : x ∈ l := by
  have := mem_upto l.toArray l.length (by simp) x h
  simpa using this
theorem toI_cmpN (l : List Nat) : toI (cmpN l) = Go.Lib.compact (srt (toI l)) := by
  unfold cmpN toI
  rw [List.map_map]
  have key : ∀ L : List Int, (∀ x, x ∈ L → 0 ≤ x) → L.map (Int.ofNat ∘ Int.toNat) = L := by
    intro L
    induction L with
    | nil => intro _; rfl
    | cons a q ih =>
      intro h
      rw [List.map_cons, ih (fun x hx => h x (List.mem_cons_of_mem _ hx))]
      have := h a List.mem_cons_self
      simp only [Function.comp, Int.ofNat_eq_natCast]
      rw [Int.toNat_of_nonneg this]
  refine key _ (fun x hx => ?_)
  have h1 := mem_compact hx
  rw [show (List.map Int.ofNat l) = toI l from rfl, srt_toI] at h1
  obtain ⟨y, _, rfl⟩ := List.mem_map.1 h1
  exact Int.natCast_nonneg y
theorem own_sl {w : World} {base e size n : Nat} {v : Value} {xs : List Value} (h : w.ownsRow base e size v n xs) : ∃ A n' c, v = .slice A n' c := by
  rcases h.2 with ⟨rfl, _⟩ | ⟨g, cap, cur, rfl, _⟩ <;> exact ⟨_, _, _, rfl⟩
structure FL (B bo M : Nat) (v : Nat → Value) (r : Nat → List Nat) (W0 W : World) : Prop where
  fd : FD B bo M v r W
  be : Below B W0 W
set_option maxRecDepth 100000 in
set_option maxHeartbeats 16000000 in
theorem fold_any (g : List (List Int)) (hgo : GOk g) (A : Option Addr) (c bof M : Nat) (cls : Nat → Nat) (W : World) (hg : Kd.F kL W (fun k => k < W.heap.size) A g.length g) (hof : W.heap[bof]? = some (.cells (ints g.length cls) 3 (0, 0)))
    (hM : M ≤ 1000) (hcl : ∀ x, x < g.length → cls x < M) (hlc : g.length ≤ c) :
    Calls Try.prog 23 #[.slice A g.length c, .slice (some ⟨bof, 0, none⟩) g.length g.length, .int .i64 (M : Nat)] W fun e W' => ∃ bo, e = .returned (.slice (some ⟨bo, 0, none⟩) M M) ∧ (∃ v, FD W.heap.size bo M v (fun i => cmpN (rowsAt cls (adjF g) g.length i)) W') ∧ Below W.heap.size W W' := by
  have hMl := print_make_int (P := Try.prog) 22 26 (.slice none 0 0) 24 Try.underlying22 infoL rfl (by decide) (M : Int) (Int.natCast_nonneg M) (by rw [Int.toNat_natCast]; omega)
  rw [Int.toNat_natCast] at hMl
  have hmade : madeCells #[(.slice none 0 0 : Value)] M = vals M (fun _ => .slice none 0 0) := by
    unfold madeCells vals
    apply Array.ext_getElem?
    intro j
    by_cases hj : j < M
    · simp [hj, Nat.mod_one]
    · simp [hj]
  rw [hmade] at hMl
  have hbo : FD W.heap.size W.heap.size M (fun _ => .slice none 0 0) (fun _ => []) (W.alloc (.cells (vals M (fun _ => .slice none 0 0)) 26)) := FD.made (Nat.le_refl _)
  have hbe : Below W.heap.size W (W.alloc (.cells (vals M (fun _ => .slice none 0 0)) 26)) := below_alloc (Below.refl _ _) _
  have hbl : bof < W.heap.size := blk_lt hof
  have GO := Lib.hid hgo
  have HG := Lib.hid hg
  have HOF := Lib.hid hof
  have HCL := Lib.hid hcl
  have HBL := Lib.hid hbl
  have FL0 := Lib.hid (show FL W.heap.size W.heap.size M (fun _ => .slice none 0 0) (fun _ => []) W (W.alloc (.cells (vals M (fun _ => .slice none 0 0)) 26)) from ⟨hbo, hbe⟩)
  have hgl := hgo.len
  clear hmade hbo hbe hgo hg hof hcl hbl
  go_enter Try.func23, Try.ntmps23
  go_upto_region 2 with (fail)
  generalize W.alloc (.cells (vals M (fun _ => .slice none 0 0)) 26) = W2 at FL0 ⊢
  obtain ⟨bo, hbo⟩ : ∃ bo, W.heap.size = bo := ⟨_, rfl⟩
  rw [hbo] at FL0 HG HBL ⊢
  have HBO := Lib.hid hbo
  clear hbo hMl
  go_wp2
  go_loopg [18] g.length (fun kq v18 w' => ∃ (n : Nat) (v : Nat → Value), n + kq = g.length ∧ v18 = .int .i64 (n : Nat) ∧ (∀ i, (rowsAt cls (adjF g) n i).length ≤ n * 1000) ∧ Hid (FL bo bo M v (rowsAt cls (adjF g) n) W w'))
  case atStart => exact ⟨0, _, by omega, rfl, fun i => Nat.zero_le _, FL0⟩
  case round =>
    obtain ⟨n, v0, hn', rfl, hrl, HL⟩ := hrel
    by_cases hn : n < g.length
    · have hn0 : (0 : Int) ≤ (n : Int) := Int.natCast_nonneg n
      have hGr := Kd.F_step (W1 := wr) HG.out (fun k hk _ => HL.out.be.block k hk)
      obtain ⟨ad, A0, c0, eA, hrow, hle, hF0⟩ := rowA hGr n hn
      subst eA
      obtain ⟨row, hrw⟩ : ∃ r, r = g.getD n [] := ⟨_, rfl⟩
      rw [← hrw] at hrow hle hF0
      have FR := Lib.hid hF0
      have RW := Lib.hid hrw
      have hrlen : row.length ≤ 1000 := by rw [hrw]; exact GO.out.row n
      obtain ⟨k1, rfl⟩ : ∃ k1, gk = k1 + 1 := ⟨gk - 1, by omega⟩
      clear hGr hF0 hrw
      go_wp2
      have HL0 := Lib.hid (show FL bo bo M v0 (((adjF g n).take 0).foldl (rowIns cls n) (rowsAt cls (adjF g) n)) W wr from by rw [List.take_zero]; exact HL.out)
      have hrl0 : ∀ i, (((adjF g n).take 0).foldl (rowIns cls n) (rowsAt cls (adjF g) n) i).length ≤ n * 1000 + 0 := by rw [List.take_zero]; exact hrl
      have HRL := Lib.hid hrl
      have FR1 := Lib.hid (show ∀ W', (∀ k, k < bo → W'.heap[k]? = wr.heap[k]?) → Kd.F kI W' (fun k => k < bo) A0 row.length row from fun W' h => Kd.F_step FR.out (fun k hk _ => h k hk))
      have HLW := Lib.hid (show ∀ k, k < bo → wr.heap[k]? = W.heap[k]? from fun k hk => HL.out.be.block k hk)
      clear hrl HL FR hrow
      generalize wr = wr0 at FR1 HLW HL0 ⊢
      go_loopg [25] row.length (fun kq v25 w' => ∃ (j : Nat) (v : Nat → Value), j + kq = row.length ∧ v25 = .int .i64 (j : Nat) ∧ (∀ i, (((adjF g n).take j).foldl (rowIns cls n) (rowsAt cls (adjF g) n) i).length ≤ n * 1000 + j) ∧ Hid (FL bo bo M v (((adjF g n).take j).foldl (rowIns cls n) (rowsAt cls (adjF g) n)) W w'))
      case atStart => exact ⟨0, v0, by omega, rfl, hrl0, HL0⟩
      case round =>
        obtain ⟨j, v, hj, rfl, hrj, HJ⟩ := hrel
        clear HL0 hrl0
        have hkw : ∀ k, k < bo → wr.heap[k]? = wr0.heap[k]? := fun k hk => (HJ.out.be.block k hk).trans (HLW.out k hk).symm
        by_cases hlt : j < row.length
        · obtain ⟨ad0, eA0, hm⟩ := Kd.at_int (Kd.F_now (FR1.out wr hkw)) (j : Int) (Int.natCast_nonneg j) (Int.ofNat_lt.2 hlt)
          subst eA0
          rw [Int.toNat_natCast] at hm
          obtain ⟨mm, emm, hmm, hmj⟩ : ∃ mm : Nat, rd row (j : Int) = (mm : Int) ∧ mm < g.length ∧ (adjF g n)[j]? = some mm := by
            have RW' := RW.out
            have hlt' : j < (g.getD n []).length := by rw [← RW']; exact hlt
            obtain ⟨m0, m1⟩ := GO.out.ent n hn _ (List.getElem_mem hlt')
            refine ⟨((g.getD n [])[j]).toNat, ?_, by omega, by unfold adjF; rw [List.getElem?_map, List.getElem?_eq_getElem hlt']; rfl⟩
            unfold rd; rw [RW', Int.toNat_natCast, List.getD_eq_getElem?_getD (l := g.getD n []), List.getElem?_eq_getElem hlt', Option.getD_some]; omega
          rw [emm] at hm
          clear emm hkw
          have HMJ := Lib.hid hmj
          have hmm0 : (0 : Int) ≤ (mm : Int) := Int.natCast_nonneg mm
          have hw := pzS j (Nat.le_trans (Nat.le_of_lt hlt) hrlen)
          have hcn : cls n < M := HCL.out n hn
          have hcm : cls mm < M := HCL.out mm hmm
          have hcn0 : (0 : Int) ≤ (cls n : Int) := Int.natCast_nonneg _
          have hofw : wr.heap[bof]? = some (.cells (ints g.length cls) 3 (0, 0)) := (HJ.out.be.block bof HBL.out).trans HOF.out
          have HOFW := Lib.hid hofw
          have z1 := (blk_cell hofw n).trans (ints_get _ hn)
          have z2 := (blk_cell hofw mm).trans (ints_get _ hmm)
          have HRJ := Lib.hid hrj
          obtain ⟨k2, rfl⟩ : ∃ k2, gk = k2 + 1 := ⟨gk - 1, by omega⟩
          clear hmj hofw hrj
          have hstep : ((adjF g n).take (j + 1)).foldl (rowIns cls n) (rowsAt cls (adjF g) n) = rowIns cls n (((adjF g n).take j).foldl (rowIns cls n) (rowsAt cls (adjF g) n)) mm := by
            obtain ⟨h1, h2⟩ := List.getElem?_eq_some_iff.1 HMJ.out
            rw [List.take_succ_eq_append_getElem h1, List.foldl_append, h2]; rfl
          have HSTEP := Lib.hid hstep
          clear hstep
          by_cases heq : cls mm = cls n
          · have hne : ((cls mm : Int) != (cls n : Int)) = false := by simp [heq]
            have HEQ := Lib.hid heq
            clear heq
            go_upto_region 8 with (fail)
            go_quiet (fail)
            have hl5 : FL bo bo M v (((adjF g n).take (j + 1)).foldl (rowIns cls n) (rowsAt cls (adjF g) n)) W (wr.drewN nq) := by
              rw [HSTEP.out]; unfold rowIns; rw [if_pos HEQ.out]
              exact ⟨HJ.out.fd.below (pw_below_drewN (Below.refl _ _) nq), HJ.out.be.trans (pw_below_drewN (Below.refl _ _) nq)⟩
            have HL5 := Lib.hid hl5
            have hr5 : ∀ i, (((adjF g n).take (j + 1)).foldl (rowIns cls n) (rowsAt cls (adjF g) n) i).length ≤ n * 1000 + (j + 1) := by
              rw [HSTEP.out]; unfold rowIns; rw [if_pos HEQ.out]
              exact fun i => Nat.le_succ_of_le (HRJ.out i)
            clear hl5 z1 z2 hm
            go_wp2
            go_roundg k2
            case measure => exact Nat.lt_succ_self _
            case rel => exact ⟨j + 1, v, by rw [Nat.add_assoc, Nat.add_comm 1]; exact hj, by first | rw [hw] | simp [hw], hr5, HL5⟩
          · have hne : ((cls mm : Int) != (cls n : Int)) = true := by simpa using (fun h => heq (by omega))
            have HEQ := Lib.hid heq
            clear heq
            go_upto_region 8 with (fail)
            go_quiet (fail)
            have hl5 := HJ.out.fd.below (pw_below_drewN (Below.refl wr.heap.size wr) nq)
            have hb5 := HJ.out.be.trans (pw_below_drewN (Below.refl bo wr) nq)
            have hof5 := (pw_below_drewN (Below.refl bo wr) nq).block bof HBL.out
            rw [HOFW.out] at hof5
            clear z1 z2 hm
            generalize wr.drewN nq = W5 at hl5 hb5 hof5 ⊢
            obtain ⟨r, hr⟩ : ∃ r, r = ((adjF g n).take j).foldl (rowIns cls n) (rowsAt cls (adjF g) n) := ⟨_, rfl⟩
            have HR := Lib.hid hr
            have hlr : ((toI (r (cls n))).length + 1) * 8 ≤ 140737488355328 := by
              have := HRJ.out (cls n)
              rw [← hr] at this
              rw [toI_len]
              have h2 : n ≤ 1000 := by have := GO.out.len; omega
              have h3 : n * 1000 ≤ 1000 * 1000 := Nat.mul_le_mul_right _ h2
              omega
            have HLR := Lib.hid hlr
            rw [← hr] at hl5
            have HFD := Lib.hid hl5
            have HB5 := Lib.hid hb5
            have HOF5 := Lib.hid hof5
            have HB9 := Lib.hid (show bo ≤ W5.heap.size from Nat.le_of_lt (blk_lt hl5.o))
            clear hl5 hb5 hof5 hr hlr
            go_upto_region 9 with (fail)
            refine (wpIn_wide (n := 5)).1 ?_
            refine wpIn_region_any mixedO ?_
            refine wpAnyIn_flow2 _ (fun _ => undef) (fun done val Z => S9 bo bo bof M n mm g cls v r W5 done val Z) rfl (by kernel_rfl) _ ?hz9 ?st9 ?en9
            case hz9 => exact S9.start HOF5.out HBL.out HFD.out
            case st9 =>
              intro i o done val a Z ho hdn hdep hag hS K2 hK2
              have hm : i < 20 := by
                by_cases h : i < 20
                · exact h
                · rw [Array.getElem?_eq_none (by simp; omega)] at ho; cases ho
              obtain rfl | rfl | rfl | rfl | rfl | rfl | rfl | rfl | rfl | rfl | rfl | rfl | rfl | rfl | rfl | rfl | rfl | rfl | rfl | rfl : i = 0 ∨ i = 1 ∨ i = 2 ∨ i = 3 ∨ i = 4 ∨ i = 5 ∨ i = 6 ∨ i = 7 ∨ i = 8 ∨ i = 9 ∨ i = 10 ∨ i = 11 ∨ i = 12 ∨ i = 13 ∨ i = 14 ∨ i = 15 ∨ i = 16 ∨ i = 17 ∨ i = 18 ∨ i = 19 := by omega
              · cases ho
                have e7 : a.eval (.tmp 7) = .slice (some ⟨bo, 0, none⟩) M M := hag.keep 7 rfl
                refine wpOpIn_value (i := 0) (r := .slice (some ⟨bo, 0, none⟩) M M) (w' := Z) rfl rfl (fun c h => by cases h) rfl ?_ (hK2 _ _ (hS.do_ 0 rfl rfl))
                have ec : ∀ v, a.eval (.const v) = v := fun _ => rfl
                generalize a.eval = ev at *
                simp [execOp, go_sem, ec, e7]
              · cases ho
                have e1 : a.eval (.tmp 1) = .slice (some ⟨bof, 0, none⟩) g.length g.length := hag.keep 1 rfl
                refine wpOpIn_value (i := 1) (r := .slice (some ⟨bof, 0, none⟩) g.length g.length) (w' := Z) rfl rfl (fun c h => by cases h) rfl ?_ (hK2 _ _ (hS.do_ 1 rfl rfl))
                have ec : ∀ v, a.eval (.const v) = v := fun _ => rfl
                generalize a.eval = ev at *
                simp [execOp, go_sem, ec, e1]
              · cases ho
                have e8 : a.eval (.tmp 8) = .int .i64 (n : Nat) := hag.keep 8 rfl
                refine wpOpIn_value (i := 2) (r := .int .i64 (n : Nat)) (w' := Z) rfl rfl (fun c h => by cases h) rfl ?_ (hK2 _ _ (hS.do_ 2 rfl rfl))
                have ec : ∀ v, a.eval (.const v) = v := fun _ => rfl
                generalize a.eval = ev at *
                simp [execOp, go_sem, ec, e8]
              · cases ho
                have e39 := (hag.val_ (j := 1) (t := 39) rfl (hdep ⟨1, .data⟩ (by simp) rfl)).trans (hS.v1 (hdep ⟨1, .data⟩ (by simp) rfl))
                have e40 := (hag.val_ (j := 2) (t := 40) rfl (hdep ⟨2, .data⟩ (by simp) rfl)).trans (hS.v2 (hdep ⟨2, .data⟩ (by simp) rfl))
                refine opIn_value (i := 3) (r := .pointer (some ⟨bof, n, none⟩)) (w' := Z) rfl rfl (fun c h => by cases h) ?_ ?_ (hK2 _ _ (hS.do_ 3 rfl rfl))
                · generalize a.eval = ev at *
                  simp [Oper.about, resolve, Target.leads, Sem.run_pure, go_sem, e39, e40, hn, hn0]
                · have ec : ∀ v, a.eval (.const v) = v := fun _ => rfl
                  generalize a.eval = ev at *
                  simp [execOp, go_sem, ec, e39, e40, hn, hn0]
              · cases ho
                have e41 := (hag.val_ (j := 3) (t := 41) rfl (hdep ⟨3, .data⟩ (by simp) rfl)).trans (hS.v3 (hdep ⟨3, .data⟩ (by simp) rfl))
                have hz := hS.rd hn
                refine wpOpIn_value (i := 4) (r := .int .i64 (cls n : Nat)) (w' := Z) rfl rfl (fun c h => by cases h) rfl ?_ (hK2 _ _ (hS.do_ 4 rfl rfl))
                have ec : ∀ v, a.eval (.const v) = v := fun _ => rfl
                generalize a.eval = ev at *
                simp [execOp, go_sem, ec, e41, hz]
              · cases ho
                have e7 : a.eval (.tmp 7) = .slice (some ⟨bo, 0, none⟩) M M := hag.keep 7 rfl
                refine wpOpIn_value (i := 5) (r := .slice (some ⟨bo, 0, none⟩) M M) (w' := Z) rfl rfl (fun c h => by cases h) rfl ?_ (hK2 _ _ (hS.do_ 5 rfl rfl))
                have ec : ∀ v, a.eval (.const v) = v := fun _ => rfl
                generalize a.eval = ev at *
                simp [execOp, go_sem, ec, e7]
              · cases ho
                have e1 : a.eval (.tmp 1) = .slice (some ⟨bof, 0, none⟩) g.length g.length := hag.keep 1 rfl
                refine wpOpIn_value (i := 6) (r := .slice (some ⟨bof, 0, none⟩) g.length g.length) (w' := Z) rfl rfl (fun c h => by cases h) rfl ?_ (hK2 _ _ (hS.do_ 6 rfl rfl))
                have ec : ∀ v, a.eval (.const v) = v := fun _ => rfl
                generalize a.eval = ev at *
                simp [execOp, go_sem, ec, e1]
              · cases ho
                have e8 : a.eval (.tmp 8) = .int .i64 (n : Nat) := hag.keep 8 rfl
                refine wpOpIn_value (i := 7) (r := .int .i64 (n : Nat)) (w' := Z) rfl rfl (fun c h => by cases h) rfl ?_ (hK2 _ _ (hS.do_ 7 rfl rfl))
                have ec : ∀ v, a.eval (.const v) = v := fun _ => rfl
                generalize a.eval = ev at *
                simp [execOp, go_sem, ec, e8]
              · cases ho
                have e44 := (hag.val_ (j := 6) (t := 44) rfl (hdep ⟨6, .data⟩ (by simp) rfl)).trans (hS.v6 (hdep ⟨6, .data⟩ (by simp) rfl))
                have e45 := (hag.val_ (j := 7) (t := 45) rfl (hdep ⟨7, .data⟩ (by simp) rfl)).trans (hS.v7 (hdep ⟨7, .data⟩ (by simp) rfl))
                refine opIn_value (i := 8) (r := .pointer (some ⟨bof, n, none⟩)) (w' := Z) rfl rfl (fun c h => by cases h) ?_ ?_ (hK2 _ _ (hS.do_ 8 rfl rfl))
                · generalize a.eval = ev at *
                  simp [Oper.about, resolve, Target.leads, Sem.run_pure, go_sem, e44, e45, hn, hn0]
                · have ec : ∀ v, a.eval (.const v) = v := fun _ => rfl
                  generalize a.eval = ev at *
                  simp [execOp, go_sem, ec, e44, e45, hn, hn0]
              · cases ho
                have e46 := (hag.val_ (j := 8) (t := 46) rfl (hdep ⟨8, .data⟩ (by simp) rfl)).trans (hS.v8 (hdep ⟨8, .data⟩ (by simp) rfl))
                have hz := hS.rd hn
                refine wpOpIn_value (i := 9) (r := .int .i64 (cls n : Nat)) (w' := Z) rfl rfl (fun c h => by cases h) rfl ?_ (hK2 _ _ (hS.do_ 9 rfl rfl))
                have ec : ∀ v, a.eval (.const v) = v := fun _ => rfl
                generalize a.eval = ev at *
                simp [execOp, go_sem, ec, e46, hz]
              · cases ho
                have e43 := (hag.val_ (j := 5) (t := 43) rfl (hdep ⟨5, .data⟩ (by simp) rfl)).trans (hS.v5 (hdep ⟨5, .data⟩ (by simp) rfl))
                have e47 := (hag.val_ (j := 9) (t := 47) rfl (hdep ⟨9, .data⟩ (by simp) rfl)).trans (hS.v9 (hdep ⟨9, .data⟩ (by simp) rfl))
                refine opIn_value (i := 10) (r := .pointer (some ⟨bo, cls n, none⟩)) (w' := Z) rfl rfl (fun c h => by cases h) ?_ ?_ (hK2 _ _ (hS.do_ 10 rfl rfl))
                · generalize a.eval = ev at *
                  simp [Oper.about, resolve, Target.leads, Sem.run_pure, go_sem, e43, e47, hcn, hcn0]
                · have ec : ∀ v, a.eval (.const v) = v := fun _ => rfl
                  generalize a.eval = ev at *
                  simp [execOp, go_sem, ec, e43, e47, hcn, hcn0]
              · cases ho
                have e48 := (hag.val_ (j := 10) (t := 48) rfl (hdep ⟨10, .data⟩ (by simp) rfl)).trans (hS.v10 (hdep ⟨10, .data⟩ (by simp) rfl))
                have hz := hS.rdo hdn hcn
                refine wpOpIn_value (i := 11) (r := v (cls n)) (w' := Z) rfl rfl (fun c h => by cases h) rfl ?_ (hK2 _ _ (hS.do_ 11 rfl rfl))
                have ec : ∀ v, a.eval (.const v) = v := fun _ => rfl
                generalize a.eval = ev at *
                simp [execOp, go_sem, ec, e48, hz]
              · cases ho
                have e1 : a.eval (.tmp 1) = .slice (some ⟨bof, 0, none⟩) g.length g.length := hag.keep 1 rfl
                refine wpOpIn_value (i := 12) (r := .slice (some ⟨bof, 0, none⟩) g.length g.length) (w' := Z) rfl rfl (fun c h => by cases h) rfl ?_ (hK2 _ _ (hS.do_ 12 rfl rfl))
                have ec : ∀ v, a.eval (.const v) = v := fun _ => rfl
                generalize a.eval = ev at *
                simp [execOp, go_sem, ec, e1]
              · cases ho
                have e11 : a.eval (.tmp 11) = .int .i64 (mm : Nat) := hag.keep 11 rfl
                refine wpOpIn_value (i := 13) (r := .int .i64 (mm : Nat)) (w' := Z) rfl rfl (fun c h => by cases h) rfl ?_ (hK2 _ _ (hS.do_ 13 rfl rfl))
                have ec : ∀ v, a.eval (.const v) = v := fun _ => rfl
                generalize a.eval = ev at *
                simp [execOp, go_sem, ec, e11]
              · cases ho
                have e50 := (hag.val_ (j := 12) (t := 50) rfl (hdep ⟨12, .data⟩ (by simp) rfl)).trans (hS.v12 (hdep ⟨12, .data⟩ (by simp) rfl))
                have e51 := (hag.val_ (j := 13) (t := 51) rfl (hdep ⟨13, .data⟩ (by simp) rfl)).trans (hS.v13 (hdep ⟨13, .data⟩ (by simp) rfl))
                refine opIn_value (i := 14) (r := .pointer (some ⟨bof, mm, none⟩)) (w' := Z) rfl rfl (fun c h => by cases h) ?_ ?_ (hK2 _ _ (hS.do_ 14 rfl rfl))
                · generalize a.eval = ev at *
                  simp [Oper.about, resolve, Target.leads, Sem.run_pure, go_sem, e50, e51, hmm, hmm0]
                · have ec : ∀ v, a.eval (.const v) = v := fun _ => rfl
                  generalize a.eval = ev at *
                  simp [execOp, go_sem, ec, e50, e51, hmm, hmm0]
              · cases ho
                have e52 := (hag.val_ (j := 14) (t := 52) rfl (hdep ⟨14, .data⟩ (by simp) rfl)).trans (hS.v14 (hdep ⟨14, .data⟩ (by simp) rfl))
                have hz := hS.rd hmm
                refine wpOpIn_value (i := 15) (r := .int .i64 (cls mm : Nat)) (w' := Z) rfl rfl (fun c h => by cases h) rfl ?_ (hK2 _ _ (hS.do_ 15 rfl rfl))
                have ec : ∀ v, a.eval (.const v) = v := fun _ => rfl
                generalize a.eval = ev at *
                simp [execOp, go_sem, ec, e52, hz]
              · cases ho
                have e53 := (hag.val_ (j := 15) (t := 53) rfl (hdep ⟨15, .data⟩ (by simp) rfl)).trans (hS.v15 (hdep ⟨15, .data⟩ (by simp) rfl))
                refine wpOpIn_value (i := 16) (r := .slice (some ⟨Z.heap.size, 0, none⟩) 1 1) (w' := Z.alloc (.cells #[.int .i64 (cls mm : Nat)] 3)) rfl rfl (fun c h => by cases h) rfl ?_ (hK2 _ _ (hS.do16 hdn))
                generalize a.eval = ev at *
                simp [execOp, go_sem, e53]
              · cases ho
                have e49 := (hag.val_ (j := 11) (t := 49) rfl (hdep ⟨11, .data⟩ (by simp) rfl)).trans (hS.v11 (hdep ⟨11, .data⟩ (by simp) rfl))
                have e54 := hag.val_ (j := 16) (t := 54) rfl (hdep ⟨16, .data⟩ (by simp) rfl)
                have h16 := hdep ⟨16, .data⟩ (by simp) rfl
                have h11 := hdep ⟨11, .data⟩ (by simp) rfl
                obtain ⟨Z0, rfl, e16, hb0⟩ := hS.b16 h16 hdn
                rw [e16] at e54
                refine opIn_appendI (i := 17) (s := .tmp 49) (x := .tmp 54) (t := 26) (t' := 26) rfl rfl rfl ?_
                refine Kd.R_append_step kI bo (w0 := W5) rfl (.tmp 49) (.tmp 54) 26 3 (.int .i64 0) 8 rfl Try.underlying26 info3 rfl (by decide) (by decide) (v (cls n)) (toI (r (cls n))) ((cls mm : Nat) : Int) [.int .i64 ((cls mm : Nat) : Int)] (fun k => k ≠ bo) (fun _ => False) e49 e54 rfl (fun _ hk => hk.elim) (fun k hk => by have h1 := blk_lt HFD.out.o; have h2 := hb0.size; omega) ((HFD.out.below hb0).r _ hcn) (hb0.mono HB9.out) (Nat.le_trans HB9.out hb0.size) HLR.out ?_
                exact fun v1 w1 hr hb hg hat => hK2 v1 w1 (hS.do17 h11 h16 hdn hb0 hr hb hg hat)
              · cases ho
                have e38 := (hag.val_ (j := 0) (t := 38) rfl (hdep ⟨0, .data⟩ (by simp) rfl)).trans (hS.v0 (hdep ⟨0, .data⟩ (by simp) rfl))
                have e42 := (hag.val_ (j := 4) (t := 42) rfl (hdep ⟨4, .data⟩ (by simp) rfl)).trans (hS.v4 (hdep ⟨4, .data⟩ (by simp) rfl))
                refine opIn_value (i := 18) (r := .pointer (some ⟨bo, cls n, none⟩)) (w' := Z) rfl rfl (fun c h => by cases h) ?_ ?_ (hK2 _ _ (hS.do_ 18 rfl rfl))
                · generalize a.eval = ev at *
                  simp [Oper.about, resolve, Target.leads, Sem.run_pure, go_sem, e38, e42, hcn, hcn0]
                · have ec : ∀ v, a.eval (.const v) = v := fun _ => rfl
                  generalize a.eval = ev at *
                  simp [execOp, go_sem, ec, e38, e42, hcn, hcn0]
              · cases ho
                have e56 := (hag.val_ (j := 18) (t := 56) rfl (hdep ⟨18, .data⟩ (by simp) rfl)).trans (hS.v18 (hdep ⟨18, .data⟩ (by simp) rfl))
                have e55 := hag.val_ (j := 17) (t := 55) rfl (hdep ⟨17, .data⟩ (by simp) rfl)
                have h17 := hdep ⟨17, .data⟩ (by simp) rfl
                obtain ⟨A9, n9, c9, e9, hz, hzf⟩ := hS.at17 h17 hdn hcn
                rw [e9] at e55
                refine wpOpIn_skip (i := 19) rfl rfl (fun c h => by cases h) rfl (w' := Z.setCell ⟨bo, cls n, none⟩ (.slice A9 n9 c9)) ?_ (hK2 _ _ (hS.do19 h17 hdn hcn e9))
                have ec : ∀ v, a.eval (.const v) = v := fun _ => rfl
                generalize a.eval = ev at *
                simp [execOp, go_sem, ec, e56, e55, hz, hzf]
            case en9 =>
              intro Z done val hdn hS
              simp only [putTmps, dstOf, List.size_toArray, List.length_cons, List.length_nil, Nat.reduceAdd, List.getElem?_toArray, List.getElem?_cons_zero, List.getElem?_cons_succ, Option.bind_some, List.setIfInBounds_toArray, List.set_cons_zero, List.set_cons_succ]
              obtain ⟨v9, hfd9, hbe9⟩ := hS.s19 (hdn 19 (by decide))
              have hl9 : FL bo bo M (Tarj.upd v (cls n) v9) (((adjF g n).take (j + 1)).foldl (rowIns cls n) (rowsAt cls (adjF g) n)) W Z := by
                rw [HSTEP.out, ← HR.out]; unfold rowIns; rw [if_neg HEQ.out]
                exact ⟨hfd9, HB5.out.trans hbe9⟩
              have hr9 : ∀ i, (((adjF g n).take (j + 1)).foldl (rowIns cls n) (rowsAt cls (adjF g) n) i).length ≤ n * 1000 + (j + 1) := by
                rw [HSTEP.out]
                exact rowIns_len _ _ _ _ _ HRJ.out
              have HL9 := Lib.hid hl9
              clear hl9 hfd9 hbe9 hdn hS
              go_wp2
              go_roundg k2
              case measure => exact Nat.lt_succ_self _
              case rel => exact ⟨j + 1, _, by rw [Nat.add_assoc, Nat.add_comm 1]; exact hj, by first | rw [hw] | simp [hw], hr9, HL9⟩
        · have hje : j = row.length := by omega
          have hla : (adjF g n).length = row.length := by rw [RW.out]; simp [adjF]
          have hrs : rowsAt cls (adjF g) (n + 1) = ((adjF g n).take j).foldl (rowIns cls n) (rowsAt cls (adjF g) n) := by
            rw [hje, ← hla, List.take_length]
            unfold rowsAt
            rw [List.range_succ, List.foldl_append]; rfl
          have hr9 : ∀ i, (rowsAt cls (adjF g) (n + 1) i).length ≤ (n + 1) * 1000 := by
            rw [hrs]
            exact fun i => Nat.le_trans (hrj i) (by omega)
          have HL9 := Lib.hid (show FL bo bo M v (rowsAt cls (adjF g) (n + 1)) W wr from by rw [hrs]; exact HJ.out)
          have hw := pzS n (by omega)
          clear hrs hrj hje hla hkw
          go_wp2
          go_roundg k1
          case measure => exact Nat.lt_succ_self _
          case rel => exact ⟨n + 1, v, by rw [Nat.add_assoc, Nat.add_comm 1]; exact hn', by first | rw [hw] | simp [hw], hr9, HL9⟩
    · have hne : n = g.length := by omega
      subst hne
      obtain ⟨r, hr⟩ : ∃ r, r = rowsAt cls (adjF g) g.length := ⟨_, rfl⟩
      rw [← hr] at HL hrl
      have HR := Lib.hid hr
      have HQ0 := Lib.hid (show FL bo bo M v0 (fun i => if i < 0 then cmpN (r i) else r i) W wr from by simpa using HL.out)
      have hrl1 : ∀ i, (r i).length ≤ 1000 * 1000 := fun i => Nat.le_trans (hrl i) (Nat.mul_le_mul_right _ hgl)
      have HRL := Lib.hid hrl1
      clear hrl hrl1 hr HL
      go_wp2
      go_loopg [61] M (fun kq v61 w' => ∃ (i : Nat) (v : Nat → Value), i + kq = M ∧ v61 = .int .i64 (i : Nat) ∧ Hid (FL bo bo M v (fun x => if x < i then cmpN (r x) else r x) W w'))
      case atStart => exact ⟨0, v0, by omega, rfl, HQ0⟩
      case round =>
        obtain ⟨i, v, hi', rfl, HI⟩ := hrel
        clear HQ0
        by_cases hi : i < M
        · have hi0 : (0 : Int) ≤ (i : Int) := Int.natCast_nonneg i
          have hw := pzS i (by omega)
          obtain ⟨k1, rfl⟩ : ∃ k1, gk = k1 + 1 := ⟨gk - 1, by omega⟩
          have hri := HI.out.fd.r i hi
          simp only [Nat.lt_irrefl, if_false] at hri
          obtain ⟨A7, c7, e7, hl7, _⟩ := Kd.R_reads hri
          rw [toI_len] at e7 hl7
          have z1 := (HI.out.fd.cell hi).1
          rw [e7] at z1
          have hrx := HRL.out i
          have hsort := sort_own (toI (r i)) (v i) bo wr (Kd.own_of_R hri) (by rw [toI_len]; omega)
          rw [srt_toI, e7] at hsort
          have HSORT := Lib.hid hsort
          have HE7 := Lib.hid e7
          have HRI := Lib.hid hri
          clear hsort e7 hri
          go_upto_region 16 with (first
            | (go_at_call 32; (with_reducible refine HSORT.out.mono ?_; rintro x w5 ⟨rfl, hown, hg5⟩; have hcomp := compact_own (toI (sortN (r i))) (.slice A7 (r i).length c7) bo w5 (by have h := hown; rw [toI_len] at h; rw [toI_len, sortN_len]; exact h) (by rw [toI_len, sortN_len]; omega); rw [← srt_toI, ← toI_cmpN] at hcomp; have HCOMP := Lib.hid hcomp; have HG5 := Lib.hid hg5; clear hown hg5 hcomp)))
          have HFD5 := Lib.hid (blk_grown HI.out.fd.o (by have := HG5.out; rw [← HE7.out] at this; exact this) (HI.out.fd.ne hi))
          clear z1
          go_wp2_with (first
            | (go_at_call 33; (with_reducible refine HCOMP.out.mono ?_; rintro x w6 ⟨v1, rfl, hown6, hg6, hob⟩; obtain ⟨A8, n8, c8, rfl⟩ := own_sl hown6; have HOWN6 := Lib.hid hown6; have HG6 := Lib.hid hg6; have HOB := Lib.hid hob; have hb6 := blk_grown HFD5.out hg6 (by have := HI.out.fd.ne hi; rw [HE7.out] at this; exact this); have hfc := blk_cell hb6 i; have hfz := blk_frozen hb6 i; rw [vals_get _ hi] at hfc; clear hown6 hg6 hob hb6)))
          have hg7 : wr.grownBy w6 (v i).ownBlock := by
            rw [HE7.out]
            exact ⟨HG6.out.os.trans HG5.out.os, HG6.out.tape.trans HG5.out.tape, HG6.out.output.trans HG5.out.output, Nat.le_trans HG5.out.size HG6.out.size, fun k hk hne => (HG6.out.block k (Nat.lt_of_lt_of_le hk HG5.out.size) hne).trans (HG5.out.block k hk hne)⟩
          have hr6 : kI.R 3 w6 bo (fun k => k ≠ bo) (.slice A8 n8 c8) (toI (cmpN (r i))) := Kd.R_of_own HOWN6.out (fun k hk => by
            rw [HOB.out, ← HE7.out] at hk
            exact HRI.out.1 k hk)
          have hb6 : Below bo wr w6 := (Below.refl bo wr).grown hg7 (Nat.le_of_lt (blk_lt HI.out.fd.o)) (fun k hk => (HI.out.fd.lt hi k hk).1)
          have hfd := HI.out.fd.put hi hr6 hg7 (.inl (by rw [HOB.out, HE7.out]))
          have hbe := HI.out.be.trans (HI.out.fd.put_below hi (.slice A8 n8 c8) hg7 hb6)
          have hfn : Tarj.upd (fun x => if x < i then cmpN (r x) else r x) i (cmpN (r i)) = fun x => if x < i + 1 then cmpN (r x) else r x := by
            funext x
            simp only [Tarj.upd]
            by_cases e : x = i
            · subst e; simp
            · rw [if_neg e]
              by_cases e2 : x < i
              · rw [if_pos e2, if_pos (by omega)]
              · rw [if_neg e2, if_neg (by omega)]
          rw [hfn] at hfd
          have HI9 := Lib.hid (show FL bo bo M _ (fun x => if x < i + 1 then cmpN (r x) else r x) W _ from ⟨hfd, hbe⟩)
          clear hg7 hr6 hb6 hfd hbe hfn hfc hfz hrx
          go_roundg k1
          case measure => exact Nat.lt_succ_self _
          case rel => exact ⟨i + 1, _, by rw [Nat.add_assoc, Nat.add_comm 1]; exact hi', by first | rw [hw] | simp [hw], HI9⟩
        · have hie : i = M := by omega
          subst hie
          go_wp2
          go_ret
          refine ⟨bo, rfl, ⟨v, ?_⟩, ?_⟩
          · rw [HBO.out]
            refine ⟨HI.out.fd.o, fun j hj => ?_, HI.out.fd.d, HI.out.fd.b⟩
            have := HI.out.fd.r j hj
            rw [if_pos hj, HR.out] at this
            exact this
          · rw [HBO.out]; exact HI.out.be
end Go.Proofs.Ytejhejpkfjhmkaa.Man

namespace Go.Proofs.Ytejhejpkfjhmkaa.Man
open Go.RowKit Go.Shelf Go.Proofs.Ytejhejpkfjhmkaa.Pr Go.Proofs.YtejhejpkfjhmkaaW.PrintWords Go.Proofs.YtejhejpkfjhmkaaW.PrintMore Go.Proofs.Ytejhejpkfjhmkaa.Tarj
attribute [local go_sem] Oper.semAt_some
set_option linter.unusedVariables false
set_option linter.unusedSimpArgs false
def ix3 (A : Option Addr) (N c : Nat) (i : Nat) : Value := match i with | 0 => .slice A N c | 1 => .slice A N c | 2 => .int .i64 (N : Nat) | 4 => .slice A N c | 5 => .int .i64 (N : Nat) | 7 => .slice A N c | 8 => .int .i64 (N : Nat) | _ => undef
def cst3 (i : Nat) : Bool := i != 3 && i != 6 && i != 9 && i != 10 && i != 11 && i != 12
def fin0 (A : Option Addr) (N c p3 p6 p9 : Nat) : Array Value := #[.slice A N c, .slice (some ⟨p3, 0, none⟩) N N, .slice (some ⟨p6, 0, none⟩) N N, .slice none 0 0, .slice (some ⟨p9, 0, none⟩) N N, .int .i64 0, .slice none 0 0]
structure S3 (A : Option Addr) (N c : Nat) (W : World) (done : Nat → Bool) (val : Nat → Value) (Z : World) : Prop where
  be : Below W.heap.size W Z
  vv : ∀ i, done i = true → cst3 i = true → val i = ix3 A N c i
  s3 : done 3 = true → ∃ p, val 3 = .slice (some ⟨p, 0, none⟩) N N ∧ W.heap.size ≤ p ∧ Z.heap[p]? = some (.cells (ints N (fun _ => 0)) 3 (0, 0))
  s6 : done 6 = true → ∃ p, val 6 = .slice (some ⟨p, 0, none⟩) N N ∧ W.heap.size ≤ p ∧ Z.heap[p]? = some (.cells (ints N (fun _ => 0)) 3 (0, 0))
  ne : done 3 = true → done 6 = true → val 3 ≠ val 6
  s9 : done 9 = true → ∃ p, val 9 = .slice (some ⟨p, 0, none⟩) N N ∧ W.heap.size ≤ p ∧ Z.heap[p]? = some (.cells (bls N (fun _ => false)) 4 (0, 0))
  n10 : done 10 = true → done 3 = true ∧ done 6 = true ∧ done 9 = true
  s10 : done 10 = true → ∃ p3 p6 p9, val 10 = .agg (fin0 A N c p3 p6 p9) ∧ val 3 = .slice (some ⟨p3, 0, none⟩) N N ∧ val 6 = .slice (some ⟨p6, 0, none⟩) N N ∧ val 9 = .slice (some ⟨p9, 0, none⟩) N N
  n11 : done 11 = true → done 10 = true
  s11 : done 11 = true → ∃ F p3 p6 p9, val 11 = .pointer (some ⟨F, 0, none⟩) ∧ val 3 = .slice (some ⟨p3, 0, none⟩) N N ∧ val 6 = .slice (some ⟨p6, 0, none⟩) N N ∧ val 9 = .slice (some ⟨p9, 0, none⟩) N N ∧ W.heap.size ≤ F ∧ Z.heap[F]? = some (.cells (fin0 A N c p3 p6 p9) 38 (0, 0))
  n12 : done 12 = true → done 11 = true
  v12 : done 12 = true → val 12 = val 11
section
variable {A : Option Addr} {N c : Nat} {W Z : World} {done : Nat → Bool} {val : Nat → Value}
theorem S3.start (A : Option Addr) (N c : Nat) (W : World) : S3 A N c W (fun _ => false) (fun _ => undef) { W with drawn := W.drawn + 1 } :=
  ⟨(Below.refl W.heap.size W).drew, by simp, by simp, by simp, by simp, by simp, by simp, by simp, by simp, by simp, by simp, by simp⟩
theorem S3.v0 (h : S3 A N c W done val Z) (hd : done 0 = true) : val 0 = .slice A N c := h.vv 0 hd (by decide)
theorem S3.v1 (h : S3 A N c W done val Z) (hd : done 1 = true) : val 1 = .slice A N c := h.vv 1 hd (by decide)
theorem S3.v2 (h : S3 A N c W done val Z) (hd : done 2 = true) : val 2 = .int .i64 (N : Nat) := h.vv 2 hd (by decide)
theorem S3.v4 (h : S3 A N c W done val Z) (hd : done 4 = true) : val 4 = .slice A N c := h.vv 4 hd (by decide)
theorem S3.v5 (h : S3 A N c W done val Z) (hd : done 5 = true) : val 5 = .int .i64 (N : Nat) := h.vv 5 hd (by decide)
theorem S3.v7 (h : S3 A N c W done val Z) (hd : done 7 = true) : val 7 = .slice A N c := h.vv 7 hd (by decide)
theorem S3.v8 (h : S3 A N c W done val Z) (hd : done 8 = true) : val 8 = .int .i64 (N : Nat) := h.vv 8 hd (by decide)
theorem S3.do_ (h : S3 A N c W done val Z) (i : Nat) (hc : cst3 i = true) {x : Value} (hx : x = ix3 A N c i) : S3 A N c W (upd done i) (setv val i x) Z := by
  have e3 : i ≠ 3 := by rintro rfl; cases hc
  have e6 : i ≠ 6 := by rintro rfl; cases hc
  have e9 : i ≠ 9 := by rintro rfl; cases hc
  have e10 : i ≠ 10 := by rintro rfl; cases hc
  have e11 : i ≠ 11 := by rintro rfl; cases hc
  have e12 : i ≠ 12 := by rintro rfl; cases hc
  refine ⟨h.be, fun j hj hcj => ?vv, ?s3, ?s6, ?ne, ?s9, ?n10, ?s10, ?n11, ?s11, ?n12, ?v12⟩
  case vv =>
    simp only [upd, setv] at hj ⊢
    by_cases e : j = i
    · rw [if_pos e, e]; exact hx
    · rw [if_neg e] at hj ⊢; exact h.vv j hj hcj
  all_goals try simp only [upd, setv, if_neg (Ne.symm e3), if_neg (Ne.symm e6), if_neg (Ne.symm e9), if_neg (Ne.symm e10), if_neg (Ne.symm e11), if_neg (Ne.symm e12)]
  case s3 => exact h.s3
  case s6 => exact h.s6
  case ne => exact h.ne
  case s9 => exact h.s9
  case n10 => exact h.n10
  case s10 => exact h.s10
  case n11 => exact h.n11
  case s11 => exact h.s11
  case n12 => exact h.n12
  case v12 => exact h.v12
theorem S3.do3 (h : S3 A N c W done val Z) (hd : done 3 = false) : S3 A N c W (upd done 3) (setv val 3 (.slice (some ⟨Z.heap.size, 0, none⟩) N N)) (Z.alloc (.cells (ints N (fun _ => 0)) 3)) := by
  have h10 : done 10 = false := by cases e : done 10 with
    | false => rfl
    | true => have := h.n10 e; simp [hd] at this
  have h11 : done 11 = false := by cases e : done 11 with
    | false => rfl
    | true => rw [h.n11 e] at h10; cases h10
  refine ⟨?be, fun j hj hcj => ?vv, ?s3, ?s6, ?ne, ?s9, ?n10, ?s10, ?n11, ?s11, ?n12, ?v12⟩
  case vv =>
    have e : j ≠ 3 := by rintro rfl; cases hcj
    simp only [upd, setv, if_neg e] at hj ⊢
    exact h.vv j hj hcj
  all_goals try simp only [upd, setv, if_true, if_neg (show (6 : Nat) ≠ 3 by decide), if_neg (show (9 : Nat) ≠ 3 by decide), if_neg (show (10 : Nat) ≠ 3 by decide), if_neg (show (11 : Nat) ≠ 3 by decide), if_neg (show (12 : Nat) ≠ 3 by decide)]
  case be => exact below_alloc h.be _
  case s3 => exact fun _ => ⟨Z.heap.size, rfl, h.be.size, World.alloc_heap_new Z _⟩
  case s6 => exact fun q => by obtain ⟨p, e, hle, hb⟩ := h.s6 q; exact ⟨p, e, hle, blk_alloc hb _⟩
  case ne => exact fun _ q e => by obtain ⟨p, e2, _, hb⟩ := h.s6 q; rw [e2] at e; simp only [Value.slice.injEq, Option.some.injEq, Addr.mk.injEq] at e; have := blk_lt hb; omega
  case s9 => exact fun q => by obtain ⟨p, e, hle, hb⟩ := h.s9 q; exact ⟨p, e, hle, blk_alloc hb _⟩
  case n10 => exact fun q => by rw [h10] at q; cases q
  case s10 => exact fun q => by rw [h10] at q; cases q
  case n11 => exact h.n11
  case s11 => exact fun q => by rw [h11] at q; cases q
  case n12 => exact h.n12
  case v12 => exact fun q => by rw [h.n12 q] at h11; cases h11
theorem S3.do6 (h : S3 A N c W done val Z) (hd : done 6 = false) : S3 A N c W (upd done 6) (setv val 6 (.slice (some ⟨Z.heap.size, 0, none⟩) N N)) (Z.alloc (.cells (ints N (fun _ => 0)) 3)) := by
  have h10 : done 10 = false := by cases e : done 10 with
    | false => rfl
    | true => have := h.n10 e; simp [hd] at this
  have h11 : done 11 = false := by cases e : done 11 with
    | false => rfl
    | true => rw [h.n11 e] at h10; cases h10
  refine ⟨?be, fun j hj hcj => ?vv, ?s3, ?s6, ?ne, ?s9, ?n10, ?s10, ?n11, ?s11, ?n12, ?v12⟩
  case vv =>
    have e : j ≠ 6 := by rintro rfl; cases hcj
    simp only [upd, setv, if_neg e] at hj ⊢
    exact h.vv j hj hcj
  all_goals try simp only [upd, setv, if_true, if_neg (show (3 : Nat) ≠ 6 by decide), if_neg (show (9 : Nat) ≠ 6 by decide), if_neg (show (10 : Nat) ≠ 6 by decide), if_neg (show (11 : Nat) ≠ 6 by decide), if_neg (show (12 : Nat) ≠ 6 by decide)]
  case be => exact below_alloc h.be _
  case s3 => exact fun q => by obtain ⟨p, e, hle, hb⟩ := h.s3 q; exact ⟨p, e, hle, blk_alloc hb _⟩
  case s6 => exact fun _ => ⟨Z.heap.size, rfl, h.be.size, World.alloc_heap_new Z _⟩
  case ne => exact fun q _ e => by obtain ⟨p, e2, _, hb⟩ := h.s3 q; rw [e2] at e; simp only [Value.slice.injEq, Option.some.injEq, Addr.mk.injEq] at e; have := blk_lt hb; omega
  case s9 => exact fun q => by obtain ⟨p, e, hle, hb⟩ := h.s9 q; exact ⟨p, e, hle, blk_alloc hb _⟩
  case n10 => exact fun q => by rw [h10] at q; cases q
  case s10 => exact fun q => by rw [h10] at q; cases q
  case n11 => exact h.n11
  case s11 => exact fun q => by rw [h11] at q; cases q
  case n12 => exact h.n12
  case v12 => exact fun q => by rw [h.n12 q] at h11; cases h11
theorem S3.do9 (h : S3 A N c W done val Z) (hd : done 9 = false) : S3 A N c W (upd done 9) (setv val 9 (.slice (some ⟨Z.heap.size, 0, none⟩) N N)) (Z.alloc (.cells (bls N (fun _ => false)) 4)) := by
  have h10 : done 10 = false := by cases e : done 10 with
    | false => rfl
    | true => have := h.n10 e; simp [hd] at this
  have h11 : done 11 = false := by cases e : done 11 with
    | false => rfl
    | true => rw [h.n11 e] at h10; cases h10
  refine ⟨?be, fun j hj hcj => ?vv, ?s3, ?s6, ?ne, ?s9, ?n10, ?s10, ?n11, ?s11, ?n12, ?v12⟩
  case vv =>
    have e : j ≠ 9 := by rintro rfl; cases hcj
    simp only [upd, setv, if_neg e] at hj ⊢
    exact h.vv j hj hcj
  all_goals try simp only [upd, setv, if_true, if_neg (show (3 : Nat) ≠ 9 by decide), if_neg (show (6 : Nat) ≠ 9 by decide), if_neg (show (10 : Nat) ≠ 9 by decide), if_neg (show (11 : Nat) ≠ 9 by decide), if_neg (show (12 : Nat) ≠ 9 by decide)]
  case be => exact below_alloc h.be _
  case s3 => exact fun q => by obtain ⟨p, e, hle, hb⟩ := h.s3 q; exact ⟨p, e, hle, blk_alloc hb _⟩
  case s6 => exact fun q => by obtain ⟨p, e, hle, hb⟩ := h.s6 q; exact ⟨p, e, hle, blk_alloc hb _⟩
  case ne => exact h.ne
  case s9 => exact fun _ => ⟨Z.heap.size, rfl, h.be.size, World.alloc_heap_new Z _⟩
  case n10 => exact fun q => by rw [h10] at q; cases q
  case s10 => exact fun q => by rw [h10] at q; cases q
  case n11 => exact h.n11
  case s11 => exact fun q => by rw [h11] at q; cases q
  case n12 => exact h.n12
  case v12 => exact fun q => by rw [h.n12 q] at h11; cases h11
theorem S3.do10 (h : S3 A N c W done val Z) (hd : done 10 = false) {p3 p6 p9 : Nat} (e3 : val 3 = .slice (some ⟨p3, 0, none⟩) N N) (e6 : val 6 = .slice (some ⟨p6, 0, none⟩) N N) (e9 : val 9 = .slice (some ⟨p9, 0, none⟩) N N) (h3 : done 3 = true) (h6 : done 6 = true) (h9 : done 9 = true) : S3 A N c W (upd done 10) (setv val 10 (.agg (fin0 A N c p3 p6 p9))) Z := by
  refine ⟨?be, fun j hj hcj => ?vv, ?s3, ?s6, ?ne, ?s9, ?n10, ?s10, ?n11, ?s11, ?n12, ?v12⟩
  case vv =>
    have e : j ≠ 10 := by rintro rfl; cases hcj
    simp only [upd, setv, if_neg e] at hj ⊢
    exact h.vv j hj hcj
  all_goals try simp only [upd, setv, if_true, if_neg (show (3 : Nat) ≠ 10 by decide), if_neg (show (6 : Nat) ≠ 10 by decide), if_neg (show (9 : Nat) ≠ 10 by decide), if_neg (show (11 : Nat) ≠ 10 by decide), if_neg (show (12 : Nat) ≠ 10 by decide)]
  case be => exact h.be
  case s3 => exact h.s3
  case s6 => exact h.s6
  case ne => exact h.ne
  case s9 => exact h.s9
  case n10 => exact fun _ => ⟨h3, h6, h9⟩
  case s10 => exact fun _ => ⟨p3, p6, p9, rfl, e3, e6, e9⟩
  case n11 => exact fun _ => trivial
  case s11 => exact h.s11
  case n12 => exact h.n12
  case v12 => exact h.v12
theorem S3.do11 (h : S3 A N c W done val Z) (hd : done 11 = false) {p3 p6 p9 : Nat} (h10 : done 10 = true) (e3 : val 3 = .slice (some ⟨p3, 0, none⟩) N N) (e6 : val 6 = .slice (some ⟨p6, 0, none⟩) N N) (e9 : val 9 = .slice (some ⟨p9, 0, none⟩) N N) : S3 A N c W (upd done 11) (setv val 11 (.pointer (some ⟨Z.heap.size, 0, none⟩))) (Z.alloc (.cells (fin0 A N c p3 p6 p9) 38)) := by
  refine ⟨?be, fun j hj hcj => ?vv, ?s3, ?s6, ?ne, ?s9, ?n10, ?s10, ?n11, ?s11, ?n12, ?v12⟩
  case vv =>
    have e : j ≠ 11 := by rintro rfl; cases hcj
    simp only [upd, setv, if_neg e] at hj ⊢
    exact h.vv j hj hcj
  all_goals try simp only [upd, setv, if_true, if_neg (show (3 : Nat) ≠ 11 by decide), if_neg (show (6 : Nat) ≠ 11 by decide), if_neg (show (9 : Nat) ≠ 11 by decide), if_neg (show (10 : Nat) ≠ 11 by decide), if_neg (show (12 : Nat) ≠ 11 by decide)]
  case be => exact below_alloc h.be _
  case s3 => exact fun q => by obtain ⟨p, e, hle, hb⟩ := h.s3 q; exact ⟨p, e, hle, blk_alloc hb _⟩
  case s6 => exact fun q => by obtain ⟨p, e, hle, hb⟩ := h.s6 q; exact ⟨p, e, hle, blk_alloc hb _⟩
  case ne => exact h.ne
  case s9 => exact fun q => by obtain ⟨p, e, hle, hb⟩ := h.s9 q; exact ⟨p, e, hle, blk_alloc hb _⟩
  case n10 => exact h.n10
  case s10 => exact h.s10
  case n11 => exact fun _ => h10
  case s11 => exact fun _ => ⟨Z.heap.size, p3, p6, p9, rfl, e3, e6, e9, h.be.size, World.alloc_heap_new Z _⟩
  case n12 => exact fun _ => trivial
  case v12 => exact fun q => by rw [h.n12 q] at hd; cases hd
theorem S3.do12 (h : S3 A N c W done val Z) (hd : done 12 = false) (h11 : done 11 = true) {F : Nat} (e11 : val 11 = .pointer (some ⟨F, 0, none⟩)) : S3 A N c W (upd done 12) (setv val 12 (.pointer (some ⟨F, 0, none⟩))) Z := by
  refine ⟨?be, fun j hj hcj => ?vv, ?s3, ?s6, ?ne, ?s9, ?n10, ?s10, ?n11, ?s11, ?n12, ?v12⟩
  case vv =>
    have e : j ≠ 12 := by rintro rfl; cases hcj
    simp only [upd, setv, if_neg e] at hj ⊢
    exact h.vv j hj hcj
  all_goals try simp only [upd, setv, if_true, if_neg (show (3 : Nat) ≠ 12 by decide), if_neg (show (6 : Nat) ≠ 12 by decide), if_neg (show (9 : Nat) ≠ 12 by decide), if_neg (show (10 : Nat) ≠ 12 by decide), if_neg (show (11 : Nat) ≠ 12 by decide)]
  case be => exact h.be
  case s3 => exact h.s3
  case s6 => exact h.s6
  case ne => exact h.ne
  case s9 => exact h.s9
  case n10 => exact h.n10
  case s10 => exact h.s10
  case n11 => exact h.n11
  case s11 => exact h.s11
  case n12 => exact fun _ => h11
  case v12 => exact fun _ => e11.symm
end
end Go.Proofs.Ytejhejpkfjhmkaa.Man

namespace Go.Proofs.Ytejhejpkfjhmkaa.Man
open Go.RowKit Go.Shelf Go.Proofs.Ytejhejpkfjhmkaa.Pr Go.Proofs.YtejhejpkfjhmkaaW.PrintWords Go.Proofs.YtejhejpkfjhmkaaW.PrintMore Go.Proofs.Ytejhejpkfjhmkaa.Tarj
attribute [local go_sem] Oper.semAt_some
set_option linter.unusedVariables false
set_option linter.unusedSimpArgs false
theorem S3.fs {A : Option Addr} {c : Nat} {W Z : World} {done : Nat → Bool} {val : Nat → Value} {g : List (List Int)} (h : S3 A g.length c W done val Z) (h12 : done 12 = true) (hg : Kd.F kL W (fun k => k < W.heap.size) A g.length g) :
    ∃ F b1 b2 b4, val 12 = .pointer (some ⟨F, 0, none⟩) ∧ FS W.heap.size F b1 b2 b4 A c g st0 (.slice none 0 0) (.slice none 0 0) Z := by
  have h11 := h.n12 h12
  have h10 := h.n11 h11
  obtain ⟨h3, h6, h9⟩ := h.n10 h10
  obtain ⟨F, p3, p6, p9, e11, e3, e6, e9, hF, hb⟩ := h.s11 h11
  obtain ⟨q3, f3, l3, c3⟩ := h.s3 h3
  obtain ⟨q6, f6, l6, c6⟩ := h.s6 h6
  obtain ⟨q9, f9, l9, c9⟩ := h.s9 h9
  have hne := h.ne h3 h6
  rw [e3] at f3 hne
  rw [e6] at f6 hne
  rw [e9] at f9
  simp only [Value.slice.injEq, Option.some.injEq, Addr.mk.injEq, and_true, true_and] at f3 f6 f9
  subst f3 f6 f9
  refine ⟨F, p3, p6, p9, (h.v12 h12).trans e11, ⟨hb, c3, c6, c9, Kd.R_nil _ _ _ _ _, Kd.N_nil _ _ _ _ _, Kd.F_step hg (fun k hk _ => h.be.block k hk), ⟨hF, l3, l6, l9⟩, fun e => hne (by rw [e])⟩⟩
theorem makeI (N : Nat) (hN : N ≤ 1000) (W : World) : (Instr.makeSlice 26 (.int .i64 (N : Int)) (.int .i64 (N : Int))).run Try.prog W = .ok (.slice (some ⟨W.heap.size, 0, none⟩) N N) (W.alloc (.cells (ints N (fun _ => 0)) 3)) := by
  have h := print_make_int (P := Try.prog) 26 3 (.int .i64 0) 8 Try.underlying26 info3 rfl (by decide) (N : Int) (Int.natCast_nonneg N) (by rw [Int.toNat_natCast]; omega) W
  rw [Int.toNat_natCast] at h
  rw [h]
  congr 3
  unfold madeCells ints
  apply Array.ext_getElem?
  intro j
  by_cases hj : j < N
  · simp [hj, Nat.mod_one]
  · simp [hj]
theorem info4b : (Try.prog.info? 4).map (fun i => (i.zero, i.size, i.bytes)) = some (some (.bool false), 1, 1) := by kernel_rfl
theorem makeB (N : Nat) (hN : N ≤ 1000) (W : World) : (Instr.makeSlice 36 (.int .i64 (N : Int)) (.int .i64 (N : Int))).run Try.prog W = .ok (.slice (some ⟨W.heap.size, 0, none⟩) N N) (W.alloc (.cells (bls N (fun _ => false)) 4)) := by
  have h := print_make_int (P := Try.prog) 36 4 (.bool false) 1 Try.underlying36 info4b rfl (by decide) (N : Int) (Int.natCast_nonneg N) (by rw [Int.toNat_natCast]; omega) W
  rw [Int.toNat_natCast] at h
  rw [h]
  congr 3
  unfold madeCells bls
  apply Array.ext_getElem?
  intro j
  by_cases hj : j < N
  · simp [hj, Nat.mod_one]
  · simp [hj]
structure OL (B F b1 b2 b4 : Nat) (A : Option Addr) (c : Nat) (g : List (List Int)) (W0 : World) (n : Nat) (s : St) (vs vk : Value) (W : World) : Prop where
  is : s = rootsF (adjF g) g.length (List.range n) st0
  inv : Inv (adjF g) g.length s []
  ct : cnt g.length s ≤ g.length
  tt : tot s = s.next
  fs : FS B F b1 b2 b4 A c g s vs vk W
  be : Below B W0 W
  bz : B ≤ W.heap.size
theorem OL.start {B F b1 b2 b4 : Nat} {A : Option Addr} {c : Nat} {g : List (List Int)} {W0 W : World} {vs vk : Value} (h : FS B F b1 b2 b4 A c g st0 vs vk W) (hb : Below B W0 W) (hz : B ≤ W.heap.size) : OL B F b1 b2 b4 A c g W0 0 st0 vs vk W :=
  ⟨rfl, inv0, by
    have := whites_max g.length st0
    unfold cnt
    show 0 + _ ≤ _
    omega, rfl, h, hb, hz⟩
def ofRow (k : Nat) (l : List Nat) (f : Nat → Nat) : Nat → Nat := l.foldl (fun f x => Tarj.upd f x k) f
def ofAt (L : List (List Nat)) (n : Nat) : Nat → Nat := (List.range n).foldl (fun f k => ofRow k (L.getD k []) f) (fun _ => 0)
def lowAt (L : List (List Nat)) (n : Nat) : Nat → Nat := fun k => if k < n then (L.getD k []).getD 0 0 else 0
theorem ofAt_succ (L : List (List Nat)) (n : Nat) : ofAt L (n + 1) = ofRow n (L.getD n []) (ofAt L n) := by
  unfold ofAt; rw [List.range_succ, List.foldl_append]; rfl
theorem ofRow_succ (k : Nat) (l : List Nat) (j : Nat) (hj : j < l.length) (f : Nat → Nat) : ofRow k (l.take (j + 1)) f = Tarj.upd (ofRow k (l.take j) f) l[j] k := by
  unfold ofRow; rw [List.take_succ_eq_append_getElem hj, List.foldl_append]; rfl
theorem lowAt_succ (L : List (List Nat)) (n : Nat) : lowAt L (n + 1) = Tarj.upd (lowAt L n) n ((L.getD n []).getD 0 0) := by
  funext k
  simp only [lowAt, Tarj.upd]
  by_cases e : k = n
  · subst e; simp
  · rw [if_neg e]
    by_cases h : k < n
    · rw [if_pos h, if_pos (by omega)]
    · rw [if_neg h, if_neg (by omega)]
structure KM (B N1 bof bl N K : Nat) (L : List (List Nat)) (vk : Value) (f h : Nat → Nat) (W0 W : World) : Prop where
  kn : Kd.F kL W (fun k => k < N1) (match vk with | .slice A _ _ => A | _ => none) L.length (L.map toI)
  of : W.heap[bof]? = some (.cells (ints N f) 3 (0, 0))
  lo : W.heap[bl]? = some (.cells (ints K h) 3 (0, 0))
  be : Below B W0 W
  ge : N1 ≤ bof ∧ N1 ≤ bl ∧ B ≤ N1
  ne : bof ≠ bl
theorem KM.setOf {B N1 bof bl N K : Nat} {L : List (List Nat)} {vk : Value} {f h : Nat → Nat} {W0 W : World} (q : KM B N1 bof bl N K L vk f h W0 W) (n x : Nat) : KM B N1 bof bl N K L vk (Tarj.upd f n x) h W0 (W.setCell ⟨bof, n, none⟩ (.int .i64 (x : Nat))) := by
  obtain ⟨g1, g2, g3⟩ := q.ge
  exact ⟨Kd.F_far (p := ⟨bof, n, none⟩) q.kn (fun k hk e => by (have e' : k = bof := e); omega) _, blk_put q.of n _ (ints_set _ _ _ _), blk_far q.lo (Ne.symm q.ne) _, q.be.setCell (p := ⟨bof, n, none⟩) (Nat.le_trans g3 g1) _, q.ge, q.ne⟩
theorem KM.setLo {B N1 bof bl N K : Nat} {L : List (List Nat)} {vk : Value} {f h : Nat → Nat} {W0 W : World} (q : KM B N1 bof bl N K L vk f h W0 W) (n x : Nat) : KM B N1 bof bl N K L vk f (Tarj.upd h n x) W0 (W.setCell ⟨bl, n, none⟩ (.int .i64 (x : Nat))) := by
  obtain ⟨g1, g2, g3⟩ := q.ge
  exact ⟨Kd.F_far (p := ⟨bl, n, none⟩) q.kn (fun k hk e => by (have e' : k = bl := e); omega) _, blk_far q.of q.ne _, blk_put q.lo n _ (ints_set _ _ _ _), q.be.setCell (p := ⟨bl, n, none⟩) (Nat.le_trans g3 g2) _, q.ge, q.ne⟩
theorem roots_succ (adj : Nat → List Nat) (N n : Nat) (s : St) : rootsF adj N (List.range (n + 1)) s = if (rootsF adj N (List.range n) s).index n = 0 then visitF adj N n (rootsF adj N (List.range n) s) else rootsF adj N (List.range n) s := by
  unfold rootsF
  rw [List.range_succ, List.foldl_append]; rfl
end Go.Proofs.Ytejhejpkfjhmkaa.Man

namespace Go.Proofs.Ytejhejpkfjhmkaa.Man
open Go.RowKit Go.Shelf Go.Proofs.Ytejhejpkfjhmkaa.Pr Go.Proofs.YtejhejpkfjhmkaaW.PrintWords Go.Proofs.YtejhejpkfjhmkaaW.PrintMore Go.Proofs.Ytejhejpkfjhmkaa.Tarj
set_option linter.unusedVariables false
set_option linter.unusedSimpArgs false
theorem RS.far {B R bl K : Nat} {lw : Nat → Nat} {v : Value} {l : List Nat} {W : World} (h : RS B R bl K lw v l W) {q : Nat} (h1 : R ≠ q) (h2 : bl ≠ q) (h3 : some q ≠ v.ownBlock) (i : Nat) (u : Value) : RS B R bl K lw v l (W.setCell ⟨q, i, none⟩ u) := by
  refine ⟨blk_far h.r h1 _, blk_far h.lo h2 _, ?_, h.mem, h.b, h.bl, h.len⟩
  exact Kd.R_mono (Kd.R_far (p := ⟨q, i, none⟩) (Kd.R_reok (ok := fun k => some k = v.ownBlock) rfl h.st (fun k hk => hk.symm)) (fun k hk e => h3 (by rw [← hk]; exact congrArg some (show q = k from e.symm))) _) (fun _ _ => trivial)
structure PS (B R bl blf K : Nat) (lw : Nat → Nat) (v : Value) (l : List Nat) (left : Nat → Nat) (W1 Wr W : World) : Prop where
  rs : RS R R bl K lw v l W
  hp : Hp (kys lw l) l.length
  lf : W.heap[blf]? = some (.cells (ints K left) 3 (0, 0))
  fz : ∀ k, k < R → k ≠ blf → W.heap[k]? = Wr.heap[k]?
  be : Below B W1 W
  sz : Wr.heap.size ≤ W.heap.size
  bb : B ≤ blf ∧ blf < R ∧ bl ≠ blf ∧ R < Wr.heap.size
structure NM (R bn K : Nat) (num : Nat → Nat) (v : Value) (W : World) : Prop where
  nm : W.heap[bn]? = some (.cells (ints K num) 3 (0, 0))
  nb : R < bn ∧ some bn ≠ v.ownBlock
def lfA (r : Nat → List Nat) (i : Nat) : Nat → Nat := fun x => if x < i then (r x).length else 0
theorem lfA_zero (r : Nat → List Nat) : lfA r 0 = fun _ => 0 := by funext x; simp [lfA]
theorem lfA_succ (r : Nat → List Nat) (i : Nat) : Tarj.upd (lfA r i) i (r i).length = lfA r (i + 1) := by
  funext x
  simp only [lfA, Tarj.upd]
  by_cases e : x = i
  · subst e; simp
  · rw [if_neg e]
    by_cases h : x < i
    · rw [if_pos h, if_pos (by omega)]
    · rw [if_neg h, if_neg (by omega)]
def mixF (num cls : Nat → Nat) (i : Nat) : Nat → Nat := fun x => if x < i then num (cls x) else cls x
theorem mixF_zero (num cls : Nat → Nat) : mixF num cls 0 = cls := by funext x; simp [mixF]
theorem mixF_at (num cls : Nat → Nat) (i : Nat) : mixF num cls i i = cls i := by simp [mixF]
theorem mixF_succ (num cls : Nat → Nat) (i : Nat) : Tarj.upd (mixF num cls i) i (num (cls i)) = mixF num cls (i + 1) := by
  funext x
  simp only [mixF, Tarj.upd]
  by_cases e : x = i
  · subst e; simp
  · rw [if_neg e]
    by_cases h : x < i
    · rw [if_pos h, if_pos (by omega)]
    · rw [if_neg h, if_neg (by omega)]
theorem tAss (x : Nat) (w : World) : (Instr.typeAssert (.iface 3 (.int .i64 (x : Int))) 20 3 false).run Try.prog w = .ok (.int .i64 (x : Int)) w := by kernel_rfl
section
variable {B R bl blf bn K : Nat} {lw : Nat → Nat} {v v' : Value} {l l' : List Nat} {left num : Nat → Nat} {W1 Wr W W' : World}
theorem PS.own (h : PS B R bl blf K lw v l left W1 Wr W) : ∀ k, v.ownBlock = some k → R ≤ k := fun k hk => own_base (Kd.own_of_R h.rs.st) k hk
theorem PS.hz (h : PS B R bl blf K lw v l left W1 Wr W) : R ≤ W.heap.size := Nat.le_trans (Nat.le_of_lt h.bb.2.2.2) h.sz
theorem PS.ht (h : PS B R bl blf K lw v l left W1 Wr W) (hr : RS R R bl K lw v' l' W') (hh : Hp (kys lw l') l'.length) (ht : Ht R R W v W' v') : PS B R bl blf K lw v' l' left W1 Wr W' := by
  have hb := h.bb
  refine ⟨hr, hh, ?_, fun k hk hne => ?_, h.be.trans (ht.be.mono (by omega)), Nat.le_trans h.sz ht.be.size, h.bb⟩
  · rw [ht.be.block _ hb.2.1]; exact h.lf
  · rw [ht.be.block _ hk]; exact h.fz k hk hne
theorem PS.setLeft (h : PS B R bl blf K lw v l left W1 Wr W) (m x : Nat) : PS B R bl blf K lw v l (Tarj.upd left m x) W1 Wr (W.setCell ⟨blf, m, none⟩ (.int .i64 (x : Nat))) := by
  obtain ⟨b1, b2, b3, b4⟩ := h.bb
  refine ⟨h.rs.far (show R ≠ blf by omega) b3 (fun e => by have := h.own blf e.symm; omega) _ _, h.hp, blk_put h.lf m _ (ints_set _ _ _ _), fun k hk hne => ?_, h.be.setCell (p := ⟨blf, m, none⟩) b1 _, by rw [World.size_setCell]; exact h.sz, h.bb⟩
  rw [Below.heap_setCell _ _ _ _ hne]; exact h.fz k hk hne
theorem NM.ht (h : NM R bn K num v W) (hlt : bn < W.heap.size) (ht : Ht R R W v W' v') : NM R bn K num v' W' := by
  refine ⟨by rw [ht.bk bn hlt (by have := h.nb.1; omega) h.nb.2]; exact h.nm, h.nb.1, fun e => ?_⟩
  rcases ht.at_ with q | ⟨b, q, hb⟩
  · rw [q] at e; exact h.nb.2 e
  · rw [q] at e; injection e with e; omega
theorem NM.setLeft (h : NM R bn K num v W) (hlt : blf < R) (m : Nat) (u : Value) : NM R bn K num v (W.setCell ⟨blf, m, none⟩ u) :=
  ⟨blk_far h.nm (show bn ≠ blf by have := h.nb.1; omega) _, h.nb⟩
theorem NM.set (h : NM R bn K num v W) (m x : Nat) : NM R bn K (Tarj.upd num m x) v (W.setCell ⟨bn, m, none⟩ (.int .i64 (x : Nat))) :=
  ⟨blk_put h.nm m _ (ints_set _ _ _ _), h.nb⟩
theorem PS.setNum (h : PS B R bl blf K lw v l left W1 Wr W) (n : NM R bn K num v W) (m : Nat) (u : Value) : PS B R bl blf K lw v l left W1 Wr (W.setCell ⟨bn, m, none⟩ u) := by
  obtain ⟨b1, b2, b3, b4⟩ := h.bb
  have hn := n.nb
  have hl := h.rs.bl
  refine ⟨h.rs.far (show R ≠ bn by omega) (show bl ≠ bn by omega) hn.2 _ _, h.hp, blk_far h.lf (show blf ≠ bn by omega) _, fun k hk hne => ?_, h.be.setCell (p := ⟨bn, m, none⟩) (by show B ≤ bn; omega) _, by rw [World.size_setCell]; exact h.sz, h.bb⟩
  rw [Below.heap_setCell _ _ _ _ (show k ≠ bn by omega)]; exact h.fz k hk hne
theorem PS.drew (h : PS B R bl blf K lw v l left W1 Wr W) (n : Nat) : PS B R bl blf K lw v l left W1 Wr (W.drewN n) :=
  ⟨h.rs.drew n, h.hp, h.lf, h.fz, h.be.trans (pw_below_drewN (Below.refl _ _) n), h.sz, h.bb⟩
theorem PS.below (h : PS B R bl blf K lw v l left W1 Wr W) (hb : Below W.heap.size W W') : PS B R bl blf K lw v l left W1 Wr W' := by
  have hz := h.hz
  have hbb := h.bb
  refine ⟨h.rs.below hb, h.hp, blk_below h.lf hb, fun k hk hne => by rw [hb.block k (by omega)]; exact h.fz k hk hne, h.be.trans (hb.mono (by omega)), Nat.le_trans h.sz hb.size, h.bb⟩
theorem PS.lt (h : PS B R bl blf K lw v l left W1 Wr W) : ∀ k, v.ownBlock = some k → k < W.heap.size := fun k hk => by
  obtain ⟨cells, hc⟩ := own_typed (Kd.own_of_R h.rs.st) k hk
  exact blk_lt hc
theorem NM.start (h : PS B R bl blf K lw v l left W1 Wr W) : NM R W.heap.size K (fun _ => 0) v (W.alloc (.cells (ints K (fun _ => 0)) 3)) :=
  ⟨World.alloc_heap_new _ _, Nat.lt_of_lt_of_le h.bb.2.2.2 h.sz, fun e => Nat.lt_irrefl _ (h.lt _ e.symm)⟩
theorem PS.old (h : PS B R bl blf K lw v l left W1 Wr W) {A : Option Addr} {n : Nat} {L : List (List Int)} (hF : Kd.F kL Wr (fun q => q < blf) A n L) : Kd.F kL W (fun q => q < blf) A n L :=
  Kd.F_step hF (fun k hk _ => h.fz k (by have := h.bb; omega) (by omega))
theorem PS.start {w : World} (hlo : w.heap[bl]? = some (.cells (ints K lw) 3 (0, 0))) (hlf : w.heap[blf]? = some (.cells (ints K left) 3 (0, 0))) (hbe : Below B W1 w) (hB : B ≤ blf) (hne : bl ≠ blf) :
    PS B w.heap.size bl blf K lw (.slice none 0 0) [] left W1 (w.alloc (.cells #[.slice none 0 0, .slice (some ⟨bl, 0, none⟩) K K] 43)) (w.alloc (.cells #[.slice none 0 0, .slice (some ⟨bl, 0, none⟩) K K] 43)) := by
  have h1 := blk_lt hlo
  have h2 := blk_lt hlf
  refine ⟨⟨World.alloc_heap_new _ _, blk_alloc hlo _, Kd.R_nil _ _ _ _ _, by simp, Nat.le_refl _, h1, by simp⟩, fun i h0 hi => absurd hi (Nat.not_lt_zero _), blk_alloc hlf _, fun _ _ _ => rfl, hbe.trans ((below_alloc (Below.refl w.heap.size w) _).mono (by omega)), Nat.le_refl _, hB, h2, hne, blk_lt (World.alloc_heap_new w _)⟩
end
end Go.Proofs.Ytejhejpkfjhmkaa.Man
