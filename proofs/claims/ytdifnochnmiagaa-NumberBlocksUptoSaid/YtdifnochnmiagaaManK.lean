import Derived.Test.YtdifnochnmiagaaManJ
namespace Go.Proofs.Ytdifnochnmiagaa.Man
open Go.RowKit Go.Shelf Go.Proofs.Ytdifnochnmiagaa.Pr Go.Proofs.YtdifnochnmiagaaW.PrintWords
set_option linter.unusedVariables false
set_option linter.unusedSimpArgs false

/-! ### A region in whatever order, by what each operation yields (one value each, whatever the order) -/
def dstOf (ops : Array Oper) (j : Nat) : Option Tmp := (ops[j]?).bind (·.dst)
/-- Each operation writes a slot of its own. -/
def flowOk (ops : Array Oper) (n : Nat) : Bool :=
  (List.range ops.size).all fun i => (match dstOf ops i with | none => true | some d => decide (d < n)) &&
    (List.range ops.size).all fun j => i == j || (dstOf ops i).isNone || !((dstOf ops i) == (dstOf ops j))
def putTmps (ops : Array Oper) (val : Nat → Value) (t : Array Value) : Nat → Array Value
  | 0 => t
  | j + 1 => match dstOf ops j with
    | some d => (putTmps ops val t j).setIfInBounds d (val j)
    | none => putTmps ops val t j
/-- Each operation waits for earlier ones alone. -/
def waitsOk (ops : Array Oper) : Bool := (List.range ops.size).all fun i => match ops[i]? with
  | some o => o.after.all fun e => !Region.binds .any e || decide (e.on < i)
  | none => true
structure Agrees (ops : Array Oper) (base : Act) (val : Nat → Value) (done : Nat → Bool) (a : Act) : Prop where
  defers : a.defers = base.defers
  size : a.tmps.size = base.tmps.size
  has : ∀ j d, dstOf ops j = some d → done j = true → a.tmps.getD d undef = val j
  other : ∀ t, (∀ j, dstOf ops j ≠ some t) → a.tmps.getD t undef = base.tmps.getD t undef
def upd (done : Nat → Bool) (i : Nat) : Nat → Bool := fun j => if j = i then true else done j

theorem flow_lt {ops : Array Oper} {n : Nat} (h : flowOk ops n = true) {j d : Nat} (hd : dstOf ops j = some d) : d < n := by
  have hj : j < ops.size := by
    by_cases hj : j < ops.size
    · exact hj
    · simp [dstOf, Array.getElem?_eq_none (Nat.le_of_not_lt hj)] at hd
  have := List.all_eq_true.1 h j (List.mem_range.2 hj)
  simp only [hd, Bool.and_eq_true, decide_eq_true_eq] at this
  exact this.1
theorem flow_inj {ops : Array Oper} {n : Nat} (h : flowOk ops n = true) {i j d : Nat} (hi : dstOf ops i = some d) (hj : dstOf ops j = some d) : i = j := by
  have lt : ∀ {k : Nat}, dstOf ops k = some d → k < ops.size := fun {k} hk => by
    by_cases hj : k < ops.size
    · exact hj
    · simp [dstOf, Array.getElem?_eq_none (Nat.le_of_not_lt hj)] at hk
  have := List.all_eq_true.1 h i (List.mem_range.2 (lt hi))
  simp only [Bool.and_eq_true] at this
  have := List.all_eq_true.1 this.2 j (List.mem_range.2 (lt hj))
  rw [hi, hj] at this
  simpa using this
theorem getD_set (t : Array Value) (d : Nat) (v : Value) (k : Nat) : (t.setIfInBounds d v).getD k undef = if k = d ∧ d < t.size then v else t.getD k undef := by
  rw [Array.getD_eq_getD_getElem?, Array.getD_eq_getD_getElem?, Array.getElem?_setIfInBounds]
  by_cases h : d = k
  · subst h
    by_cases h2 : d < t.size
    · simp [h2]
    · simp [h2]
  · rw [if_neg h, if_neg (fun e => h e.1.symm)]
theorem Agrees.put {ops : Array Oper} {base : Act} {val : Nat → Value} {done : Nat → Bool} {a : Act} (hok : flowOk ops base.tmps.size = true) (h : Agrees ops base val done a) (i : Nat) {o : Oper} (ho : ops[i]? = some o) :
    Agrees ops base val (upd done i) (a.put o.dst (val i)) := by
  have hdi : dstOf ops i = o.dst := by simp [dstOf, ho]
  cases hd : o.dst with
  | none =>
    refine ⟨h.defers, h.size, fun j d hj hdn => ?_, h.other⟩
    refine h.has j d hj ?_
    unfold upd at hdn
    split at hdn
    · rename_i e; subst e; rw [hdi, hd] at hj; cases hj
    · exact hdn
  | some d =>
    rw [hd] at hdi
    refine ⟨h.defers, by simp [Act.put, h.size], fun j d' hj hdn => ?_, fun t ht => ?_⟩
    · simp only [Act.put, getD_set]
      by_cases e : d' = d
      · subst e
        obtain rfl := flow_inj hok hj hdi
        rw [if_pos ⟨rfl, by rw [h.size]; exact flow_lt hok hdi⟩]
      · rw [if_neg (fun x => e x.1)]
        refine h.has j d' hj ?_
        unfold upd at hdn
        split at hdn
        · rename_i e2; subst e2; rw [hdi] at hj; cases hj; exact absurd rfl e
        · exact hdn
    · simp only [Act.put, getD_set]
      rw [if_neg (fun x => ht i (by rw [hdi, x.1]))]
      exact h.other t ht
theorem putTmps_size (ops : Array Oper) (val : Nat → Value) (t : Array Value) (n : Nat) : (putTmps ops val t n).size = t.size := by
  induction n with
  | zero => rfl
  | succ n ih => unfold putTmps; split <;> simp [ih]
theorem putTmps_get {ops : Array Oper} {N : Nat} (hok : flowOk ops N = true) (val : Nat → Value) (t : Array Value) (hN : t.size = N) : ∀ n k, (putTmps ops val t n).getD k undef = if h : ∃ j, j < n ∧ dstOf ops j = some k then val (Classical.choose h) else t.getD k undef := by
  intro n
  induction n with
  | zero => intro k; rw [dif_neg (by rintro ⟨j, hj, _⟩; omega)]; rfl
  | succ n ih =>
    intro k
    unfold putTmps
    cases hd : dstOf ops n with
    | none =>
      simp only [ih]
      have : (∃ j, j < n ∧ dstOf ops j = some k) ↔ (∃ j, j < n + 1 ∧ dstOf ops j = some k) :=
        ⟨fun ⟨j, h1, h2⟩ => ⟨j, by omega, h2⟩, fun ⟨j, h1, h2⟩ => ⟨j, by (have : j ≠ n := fun e => (by subst e; rw [hd] at h2; cases h2)); omega, h2⟩⟩
      by_cases hh : ∃ j, j < n ∧ dstOf ops j = some k
      · rw [dif_pos hh, dif_pos (this.1 hh)]
        congr 1
        exact flow_inj hok (Classical.choose_spec hh).2 (Classical.choose_spec (this.1 hh)).2
      · rw [dif_neg hh, dif_neg (fun h => hh (this.2 h))]
    | some d =>
      simp only [getD_set, putTmps_size]
      by_cases e : k = d
      · subst e
        have hh : ∃ j, j < n + 1 ∧ dstOf ops j = some k := ⟨n, by omega, hd⟩
        rw [if_pos ⟨rfl, by rw [hN]; exact flow_lt hok hd⟩, dif_pos hh]
        congr 1
        exact flow_inj hok hd (Classical.choose_spec hh).2
      · rw [if_neg (fun x => e x.1), ih]
        have : (∃ j, j < n ∧ dstOf ops j = some k) ↔ (∃ j, j < n + 1 ∧ dstOf ops j = some k) :=
          ⟨fun ⟨j, h1, h2⟩ => ⟨j, by omega, h2⟩, fun ⟨j, h1, h2⟩ => ⟨j, by (have : j ≠ n := fun e' => (by subst e'; rw [hd] at h2; cases h2; exact e rfl)); omega, h2⟩⟩
        by_cases hh : ∃ j, j < n ∧ dstOf ops j = some k
        · rw [dif_pos hh, dif_pos (this.1 hh)]
          congr 1
          exact flow_inj hok (Classical.choose_spec hh).2 (Classical.choose_spec (this.1 hh)).2
        · rw [dif_neg hh, dif_neg (fun h => hh (this.2 h))]
/-- When all have been done, the slots are these. -/
theorem Agrees.all {ops : Array Oper} {base : Act} {val : Nat → Value} {done : Nat → Bool} {a : Act} (hok : flowOk ops base.tmps.size = true) (h : Agrees ops base val done a) (hd : ∀ j, j < ops.size → done j = true) :
    a = { tmps := putTmps ops val base.tmps ops.size, defers := base.defers } := by
  obtain ⟨at_, ad⟩ := a
  have h1 := h.defers
  have h2 := h.size
  simp only at h1 h2
  subst h1
  congr 1
  apply Array.ext
  · rw [putTmps_size]; exact h2
  · intro k k1 k2
    have e1 : at_[k] = at_.getD k undef := by simp [k1]
    have e2 : (putTmps ops val base.tmps ops.size)[k] = (putTmps ops val base.tmps ops.size).getD k undef := by rw [Array.getD_eq_getD_getElem?, Array.getElem?_eq_getElem k2]; rfl
    rw [e1, e2, putTmps_get hok val base.tmps rfl]
    by_cases hh : ∃ j, j < ops.size ∧ dstOf ops j = some k
    · rw [dif_pos hh]
      exact h.has _ k (Classical.choose_spec hh).2 (hd _ (Classical.choose_spec hh).1)
    · rw [dif_neg hh]
      refine h.other k (fun j hj => hh ⟨j, ?_, hj⟩)
      by_cases hlt : j < ops.size
      · exact hlt
      · simp [dstOf, Array.getElem?_eq_none (Nat.le_of_not_lt hlt)] at hj
/-- **A region in whatever order: each operation, when those that it waits for have been done, yields its value and keeps what is said of the world.** -/
theorem wpAnyIn_flow {F : Fence} {n : Nat} {P : Program} {ops : Array Oper} {Q : Exit → Act → World → Prop} (base : Act) (val : Nat → Value) (S : (Nat → Bool) → World → Prop) (hok : flowOk ops base.tmps.size = true) (hwt : waitsOk ops = true) (w0 : World)
    (h0 : S (fun _ => false) w0)
    (hstep : ∀ i o done a w, ops[i]? = some o → done i = false → (∀ e ∈ o.after, Region.binds .any e = true → done e.on = true) → Agrees ops base val done a → S done w →
      ∀ K : Act → World → Prop, (∀ w', S (upd done i) w' → K (a.put o.dst (val i)) w') → wpOpIn F n P ops Q i K a w)
    (hend : ∀ w done, (∀ j, j < ops.size → done j = true) → S done w → Q .normal { tmps := putTmps ops val base.tmps ops.size, defers := base.defers } w) :
    wpAnyIn F n P .any ops Q ops.size (Array.replicate ops.size false) base w0 := by
  refine wpAnyIn_inv (fun listed a w => listed.size = ops.size ∧ ∃ done, (∀ j, j < ops.size → listed[j]? = some (done j)) ∧ Agrees ops base val done a ∧ S done w) ?_ ?_ _ _ _ _ (by simp [leftOf]) ⟨by simp, fun _ => false, fun j hj => by simp [hj], ⟨rfl, rfl, fun _ _ _ h => (by cases h), fun _ _ => rfl⟩, h0⟩
  · rintro listed a w i ⟨hs, done, hl, ha, hS⟩ hr
    have hmem := ready_mem hr
    have hlt : i < ops.size := by
      rw [Array.getElem?_toList] at hmem
      have := (Array.getElem?_eq_some_iff.1 hmem).1
      omega
    have hdi : done i = false := by
      rw [Array.getElem?_toList, hl i hlt] at hmem; simpa using hmem
    have ho : ops[i]? = some ops[i] := Array.getElem?_eq_getElem hlt
    refine hstep i ops[i] done a w ho hdi (fun e he hb => ?_) ha hS _ (fun w' hw' => ⟨by simp [hs], upd done i, fun j hj => ?_, ha.put hok i ho, hw'⟩)
    · have := (List.mem_filter.1 hr).2
      simp only [Bool.and_eq_true, ho, Option.map_some, Option.getD_some] at this
      have h2 := Array.all_eq_true_iff_forall_mem.1 this.2 e he
      rw [hb] at h2
      simp only [Bool.not_true, Bool.false_or] at h2
      rw [Array.getD_eq_getD_getElem?] at h2
      by_cases hlt2 : e.on < ops.size
      · rw [hl e.on hlt2] at h2; simpa using h2
      · rw [Array.getElem?_eq_none (by omega)] at h2; simp at h2
    · rw [Array.getElem?_setIfInBounds]
      by_cases e : i = j
      · subst e; rw [if_pos rfl, if_pos (by omega)]; simp [upd]
      · rw [if_neg e, hl j hj]; simp [upd, Ne.symm e]
  · rintro listed a w ⟨hs, done, hl, ha, hS⟩ hr
    -- nothing is ready, so all have been done (or some wait for ever: then ready would not be empty for the least one)
    have hall : ∀ j, j < ops.size → done j = true := by
      intro j
      induction j using Nat.strongRecOn with
      | _ j ih =>
      intro hj
      cases hdj : done j with
      | true => rfl
      | false =>
        exfalso
        have : j ∈ Region.ready .any ops listed := by
          unfold Region.ready
          refine List.mem_filter.2 ⟨List.mem_range.2 hj, ?_⟩
          simp only [Bool.and_eq_true]
          refine ⟨by rw [Array.getD_eq_getD_getElem?, hl j hj, hdj]; rfl, ?_⟩
          rw [Array.getElem?_eq_getElem hj]
          simp only [Option.map_some, Option.getD_some]
          refine Array.all_eq_true_iff_forall_mem.2 fun e he => ?_
          have hw := List.all_eq_true.1 hwt j (List.mem_range.2 hj)
          rw [Array.getElem?_eq_getElem hj] at hw
          have hw2 := Array.all_eq_true_iff_forall_mem.1 hw e he
          cases hb : Region.binds .any e with
          | false => simp
          | true =>
            rw [hb] at hw2
            simp only [Bool.not_true, Bool.false_or, decide_eq_true_eq] at hw2
            have hlt : e.on < ops.size := by omega
            simp only [Bool.not_true, Bool.false_or]
            rw [Array.getD_eq_getD_getElem?, hl e.on hlt, ih e.on hw2 hlt]; rfl
        rw [hr] at this; cases this
    rw [ha.all hok hall]
    exact hend w done hall hS
end Go.Proofs.Ytdifnochnmiagaa.Man
