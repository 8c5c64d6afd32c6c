/- A part of the proof that SccFolded returns true for every argument. Parts: Tarj Nmb GOk Khn Shf Cmp Pr0 BriA EvD Flow13 FlowG FlowH Pr1 PgA PgB PgC. No conditions beyond the given statement's own. -/
import Derived.Shelf.Small.Bits
import Derived.Shelf.Small.Wraps
import Derived.Shelf.Strconv.Itoa0
import Derived.Shelf.Sort.Plain
import Derived.Shelf.Slices.Turned
import Derived.Ground.Names2Prog
import Derived.Shelf.Slices.Clone
import Derived.Shelf.Slices.CompactI
import Derived.Shelf.Slices.SearchI
import Derived.Shelf.Slices.Cells
import Derived.Shelf.Slices.In.SortNone
import Derived.Test.YtejhejpkfjhmkaaProg
import Derived.Lib.SlicesCompact
import Derived.Below
import Derived.Deep.Draws
import Derived.Deep.AppendLies
import Derived.Maps.AppendAt
import Derived.OwnWalk
import Derived.Laws.BytesArg
import Derived.Laws.MakeOwn
import Derived.Laws.OwnMore
import Derived.Deep.OwnRows
import Derived.Tactics
import Derived.Lib.ConvBytes
import Derived.Laws.Slices
import Derived.WalkKit
import Derived.KernelRfl
import Derived.RowKit3
import Derived.Deep.LoopGhost
import Derived.Deep.QuietTactic
import Derived.BigQuiet
import Derived.WideLaws
import Derived.Deep.DeepCutAuto
import Derived.Deep.CutBlock
import Derived.Deep.RegionHeld3
import Derived.Laws.Rows
import Derived.Lib.AppendStr
import Derived.ArgAppend
import Derived.Laws.IdiomCopy
import Derived.OrdersHeld
import Derived.Laws.BitsLemmas
import Derived.RowKit
import Derived.Test.YtejhejpkfjhmkaaSFo1
import Derived.Laws.StructEq
import Derived.Test.YtejhejpkfjhmkaaRows
import Derived.OrdersIn
import Derived.RangeFuncNested
import Derived.RangeFuncBox
import Derived.Shelf.RegionOpen
import Derived.Lib.Hide

/- Tarjan's search, as a function, and what its knots are. Plain Lean, no program. -/
namespace Go.Proofs.Ytejhejpkfjhmkaa.Tarj
set_option linter.unusedVariables false
def upd {α : Type} (f : Nat → α) (n : Nat) (v : α) : Nat → α := fun x => if x = n then v else f x
theorem upd_same {α : Type} (f : Nat → α) (n : Nat) (v : α) : upd f n v n = v := by simp [upd]
theorem upd_other {α : Type} (f : Nat → α) {n x : Nat} (v : α) (h : x ≠ n) : upd f n v x = f x := by simp [upd, h]
structure St where
  next : Nat
  index : Nat → Nat
  low : Nat → Nat
  stack : List Nat
  on : Nat → Bool
  knots : List (List Nat)
def sortN (l : List Nat) : List Nat := l.mergeSort (fun a b => decide (a ≤ b))
theorem sortN_perm (l : List Nat) : (sortN l).Perm l := List.mergeSort_perm _ _
theorem sortN_mem {l : List Nat} {x : Nat} : x ∈ sortN l ↔ x ∈ l := (sortN_perm l).mem_iff
def knotF (n : Nat) (s : St) : St :=
  { s with stack := s.stack.take (s.stack.idxOf n), on := fun x => if x ∈ s.stack.drop (s.stack.idxOf n) then false else s.on x, knots := s.knots ++ [sortN (s.stack.drop (s.stack.idxOf n))] }
def enterF (n : Nat) (s : St) : St := { s with next := s.next + 1, index := upd s.index n (s.next + 1), low := upd s.low n (s.next + 1), stack := s.stack ++ [n], on := upd s.on n true }
def stepF (vis : Nat → St → St) (n : Nat) (t : St) (m : Nat) : St :=
  if t.index m = 0 then { vis m t with low := upd (vis m t).low n (min ((vis m t).low n) ((vis m t).low m)) }
  else if t.on m = true then { t with low := upd t.low n (min (t.low n) (t.index m)) } else t
def leaveF (n : Nat) (t : St) : St := if t.low n = t.index n then knotF n t else t
def visitF (adj : Nat → List Nat) : Nat → Nat → St → St
  | 0, _, s => s
  | k + 1, n, s => leaveF n ((adj n).foldl (stepF (visitF adj k) n) (enterF n s))
inductive Rch (adj : Nat → List Nat) : Nat → Nat → Prop
  | refl (x : Nat) : Rch adj x x
  | step {x y z : Nat} (h : y ∈ adj x) (r : Rch adj y z) : Rch adj x z
theorem Rch.one {adj : Nat → List Nat} {x y : Nat} (h : y ∈ adj x) : Rch adj x y := .step h (.refl _)
theorem Rch.trans {adj : Nat → List Nat} {x y z : Nat} (h : Rch adj x y) (r : Rch adj y z) : Rch adj x z := by
  induction h with
  | refl => exact r
  | step h _ ih => exact .step h (ih r)
theorem Rch.closed {adj : Nat → List Nat} (S : Nat → Prop) (hS : ∀ x, S x → ∀ y, y ∈ adj x → S y) {x y : Nat} (r : Rch adj x y) (h : S x) : S y := by
  induction r with
  | refl => exact h
  | step h' _ ih => exact ih (hS _ h _ h')
def IsKnot (adj : Nat → List Nat) (l : List Nat) : Prop := l ≠ [] ∧ l.Pairwise (· ≤ ·) ∧ ∀ x, x ∈ l → ∀ y, y ∈ l ↔ Rch adj x y ∧ Rch adj y x
structure Inv (adj : Nat → List Nat) (N : Nat) (s : St) (G : List Nat) : Prop where
  vlt : ∀ x, s.index x ≠ 0 → x < N
  ile : ∀ x, s.index x ≤ s.next
  son : ∀ x, s.on x = true ↔ x ∈ s.stack
  svis : ∀ x, x ∈ s.stack → s.index x ≠ 0
  sord : s.stack.Pairwise (fun x y => s.index x < s.index y)
  gst : ∀ x, x ∈ G → x ∈ s.stack
  black : ∀ x, s.index x ≠ 0 → x ∉ G → ∀ y, y ∈ adj x → s.index y ≠ 0
  dcl : ∀ x, s.index x ≠ 0 → x ∉ s.stack → ∀ y, y ∈ adj x → s.index y ≠ 0 ∧ y ∉ s.stack
  toG : ∀ x, x ∈ s.stack → ∃ z, z ∈ G ∧ s.index z ≤ s.index x ∧ Rch adj x z
  frG : ∀ z, z ∈ G → ∀ x, x ∈ s.stack → s.index z ≤ s.index x → Rch adj z x
  kcl : ∀ l, l ∈ s.knots → IsKnot adj l
  kmem : ∀ x, (∃ l, l ∈ s.knots ∧ x ∈ l) ↔ s.index x ≠ 0 ∧ x ∉ s.stack
  kdis : s.knots.Pairwise (fun l m => ∀ x, x ∈ l → x ∉ m)
structure Post (adj : Nat → List Nat) (N : Nat) (n : Nat) (s s' : St) (G : List Nat) (e : List Nat) : Prop where
  inv : Inv adj N s' G
  keep : ∀ x, s.index x ≠ 0 → s'.index x = s.index x ∧ s'.low x = s.low x
  vis : s'.index n ≠ 0
  ext : s'.stack = s.stack ++ e
  next : s.next ≤ s'.next
  new : ∀ x, s.index x = 0 → s'.index x ≠ 0 → s.next < s'.index x
  snd : n ∈ s'.stack → ∃ y, y ∈ s.stack ∧ s'.index y = s'.low n ∧ Rch adj n y
  off : n ∉ s'.stack → s.next < s'.low n
  cmp : ∀ x, x ∈ e → ∀ y, y ∈ adj x → y ∈ s.stack → s'.low n ≤ s'.index y
structure LInv (adj : Nat → List Nat) (N : Nat) (n : Nat) (s t : St) (G pre e : List Nat) : Prop where
  nw : s.index n = 0
  gs : ∀ x, x ∈ G → x ∈ s.stack
  inv : Inv adj N t (n :: G)
  keep : ∀ x, s.index x ≠ 0 → t.index x = s.index x ∧ t.low x = s.low x
  idn : t.index n = s.next + 1
  ext : t.stack = s.stack ++ n :: e
  next : s.next + 1 ≤ t.next
  new : ∀ x, s.index x = 0 → t.index x ≠ 0 → s.next < t.index x
  lown : t.low n ≤ t.index n ∧ ∃ y, y ∈ t.stack ∧ t.index y = t.low n ∧ Rch adj n y
  cmp : ∀ x, x ∈ e → ∀ y, y ∈ adj x → y ∈ s.stack → t.low n ≤ t.index y
  cmpn : ∀ y, y ∈ pre → y ∈ s.stack → t.low n ≤ t.index y
  pvis : ∀ y, y ∈ pre → t.index y ≠ 0
theorem Inv.low {adj : Nat → List Nat} {N : Nat} {t : St} {G : List Nat} (h : Inv adj N t G) (f : Nat → Nat) : Inv adj N { t with low := f } G :=
  ⟨h.vlt, h.ile, h.son, h.svis, h.sord, h.gst, h.black, h.dcl, h.toG, h.frG, h.kcl, h.kmem, h.kdis⟩
section
variable {adj : Nat → List Nat} {N : Nat}
theorem enter_ok {s : St} {G : List Nat} {n : Nat} (h : Inv adj N s G) (hn : s.index n = 0) (hlt : n < N) (hG : ∀ z, z ∈ G → Rch adj z n) : LInv adj N n s (enterF n s) G [] [] := by
  have hns : n ∉ s.stack := fun e => h.svis n e hn
  have ix : ∀ x, s.index x ≠ 0 → (enterF n s).index x = s.index x := fun x hx => upd_other _ _ (fun e => hx (e ▸ hn))
  have ixn : (enterF n s).index n = s.next + 1 := upd_same _ _ _
  have ve : ∀ x, (enterF n s).index x ≠ 0 → x = n ∨ s.index x ≠ 0 := fun x hx => by
    by_cases e : x = n
    · exact .inl e
    · exact .inr (by rw [show (enterF n s).index x = s.index x from upd_other _ _ e] at hx; exact hx)
  have ms : ∀ x, x ∈ (enterF n s).stack ↔ x ∈ s.stack ∨ x = n := fun x => by simp [enterF]
  refine ⟨hn, h.gst, ⟨?_, ?_, ?_, ?_, ?_, ?_, ?_, ?_, ?_, ?_, h.kcl, ?_, h.kdis⟩, ?_, ixn, rfl, Nat.le_refl _, ?_, ?_, ?_, ?_, ?_⟩
  · intro x hx
    rcases ve x hx with rfl | hx
    · exact hlt
    · exact h.vlt x hx
  · intro x
    by_cases e : x = n
    · subst e; rw [ixn]; exact Nat.le_refl _
    · rw [show (enterF n s).index x = s.index x from upd_other _ _ e]; exact Nat.le_succ_of_le (h.ile x)
  · intro x
    rw [ms x]
    by_cases e : x = n
    · subst e; simp [enterF, upd]
    · rw [show (enterF n s).on x = s.on x from upd_other _ _ e, h.son x]; simp [e]
  · intro x hx
    rcases (ms x).1 hx with hx | rfl
    · rw [ix x (h.svis x hx)]; exact h.svis x hx
    · rw [ixn]; exact Nat.succ_ne_zero _
  · show (s.stack ++ [n]).Pairwise _
    refine List.pairwise_append.2 ⟨h.sord.imp_of_mem (fun {a b} ha hb hab => ?_), List.pairwise_singleton _ _, fun a ha b hb => ?_⟩
    · rw [ix a (h.svis a ha), ix b (h.svis b hb)]; exact hab
    · rw [List.mem_singleton.1 hb, ixn, ix a (h.svis a ha)]; exact Nat.lt_succ_of_le (h.ile a)
  · intro x hx
    rcases List.mem_cons.1 hx with rfl | hx
    · exact (ms _).2 (.inr rfl)
    · exact (ms _).2 (.inl (h.gst x hx))
  · intro x hx hg y hy
    rcases ve x hx with rfl | hx'
    · exact absurd List.mem_cons_self hg
    · have := h.black x hx' (fun e => hg (List.mem_cons_of_mem _ e)) y hy
      rw [ix y this]; exact this
  · intro x hx hs y hy
    have hxn : x ≠ n := fun e => hs ((ms _).2 (.inr e))
    have hx' := (ve x hx).resolve_left hxn
    obtain ⟨a, b⟩ := h.dcl x hx' (fun e => hs ((ms _).2 (.inl e))) y hy
    exact ⟨by rw [ix y a]; exact a, fun e => ((ms y).1 e).elim b (fun e => a (e ▸ hn))⟩
  · intro x hx
    rcases (ms x).1 hx with hx | rfl
    · obtain ⟨z, a, b, c⟩ := h.toG x hx
      exact ⟨z, List.mem_cons_of_mem _ a, by rw [ix z (h.svis z (h.gst z a)), ix x (h.svis x hx)]; exact b, c⟩
    · exact ⟨x, List.mem_cons_self, Nat.le_refl _, .refl _⟩
  · intro z hz x hx hle
    rcases List.mem_cons.1 hz with rfl | hz2
    · rcases (ms x).1 hx with hx | rfl
      · rw [ixn, ix x (h.svis x hx)] at hle
        have := h.ile x; omega
      · exact .refl _
    · rcases (ms x).1 hx with hx | rfl
      · rw [ix z (h.svis z (h.gst z hz2)), ix x (h.svis x hx)] at hle
        exact h.frG z hz2 x hx hle
      · exact hG z hz2
  · intro x
    rw [show (enterF n s).knots = s.knots from rfl, h.kmem x]
    constructor
    · rintro ⟨a, b⟩
      exact ⟨by rw [ix x a]; exact a, fun e => ((ms x).1 e).elim b (fun e => a (e ▸ hn))⟩
    · rintro ⟨a, b⟩
      have hxn : x ≠ n := fun e => b ((ms _).2 (.inr e))
      exact ⟨(ve x a).resolve_left hxn, fun e => b ((ms _).2 (.inl e))⟩
  · intro x hx
    exact ⟨ix x hx, upd_other _ _ (fun e => hx (e ▸ hn))⟩
  · intro x h0 h1
    rcases ve x h1 with rfl | h1
    · rw [ixn]; exact Nat.lt_succ_self _
    · exact absurd h0 h1
  · have e : (enterF n s).low n = s.next + 1 := upd_same _ _ _
    exact ⟨by rw [e, ixn]; exact Nat.le_refl _, n, (ms n).2 (.inr rfl), by rw [e, ixn], .refl _⟩
  · intro x hx; cases hx
  · intro x hx; cases hx
  · intro x hx; cases hx
theorem step_ok {vis : Nat → St → St} {n : Nat} {s t : St} {G pre e : List Nat} {m : Nat} (h : LInv adj N n s t G pre e) (hm : m ∈ adj n) (hv : t.index m = 0 → ∃ e', Post adj N m t (vis m t) (n :: G) e') : ∃ e', LInv adj N n s (stepF vis n t m) G (pre ++ [m]) e' := by
  have hnst : n ∈ t.stack := by rw [h.ext]; simp
  have hsub : ∀ y, y ∈ s.stack → y ∈ t.stack := fun y hy => by rw [h.ext]; exact List.mem_append.2 (.inl hy)
  unfold stepF
  by_cases h0 : t.index m = 0
  · rw [if_pos h0]
    obtain ⟨e', p⟩ := hv h0
    have hkn := p.keep n (h.inv.svis n hnst)
    have hmn : m ≠ n := fun x => h.inv.svis n hnst (x ▸ h0)
    have ln : (upd (vis m t).low n (min ((vis m t).low n) ((vis m t).low m))) n = min (t.low n) ((vis m t).low m) := by rw [upd_same, hkn.2]
    refine ⟨e ++ e', ⟨h.nw, h.gs, p.inv.low _, ?_, ?_, ?_, ?_, ?_, ?_, ?_, ?_, ?_⟩⟩
    · intro x hx
      have k1 := h.keep x hx
      have hx2 : t.index x ≠ 0 := by rw [k1.1]; exact hx
      have k2 := p.keep x hx2
      refine ⟨k2.1.trans k1.1, ?_⟩
      have hxn : x ≠ n := fun e => hx (e ▸ h.nw)
      show upd (vis m t).low n _ x = _
      rw [upd_other _ _ hxn]; exact k2.2.trans k1.2
    · show (vis m t).index n = _
      rw [hkn.1]; exact h.idn
    · show (vis m t).stack = _
      rw [p.ext, h.ext]; simp
    · exact Nat.le_trans h.next p.next
    · intro x a b
      by_cases c : t.index x = 0
      · exact Nat.lt_of_lt_of_le (Nat.lt_of_succ_le h.next) (Nat.le_of_lt (p.new x c b))
      · have := h.new x a c
        rw [← (p.keep x c).1] at this; exact this
    · show upd _ n _ n ≤ (vis m t).index n ∧ ∃ y, y ∈ (vis m t).stack ∧ (vis m t).index y = upd _ n _ n ∧ _
      rw [ln]
      obtain ⟨l1, y, y1, y2, y3⟩ := h.lown
      refine ⟨Nat.le_trans (Nat.min_le_left _ _) (by rw [hkn.1]; exact l1), ?_⟩
      by_cases hst : m ∈ (vis m t).stack
      · obtain ⟨z, z1, z2, z3⟩ := p.snd hst
        by_cases hle : t.low n ≤ (vis m t).low m
        · rw [Nat.min_eq_left hle]
          exact ⟨y, by rw [p.ext]; exact List.mem_append.2 (.inl y1), by rw [(p.keep y (h.inv.svis y y1)).1]; exact y2, y3⟩
        · rw [Nat.min_eq_right (by omega)]
          exact ⟨z, by rw [p.ext]; exact List.mem_append.2 (.inl z1), z2, .step hm z3⟩
      · have a := p.off hst
        have b := h.inv.ile n
        rw [Nat.min_eq_left (by omega)]
        exact ⟨y, by rw [p.ext]; exact List.mem_append.2 (.inl y1), by rw [(p.keep y (h.inv.svis y y1)).1]; exact y2, y3⟩
    · intro x hx y hy hys
      show upd _ n _ n ≤ (vis m t).index y
      rw [ln]
      rcases List.mem_append.1 hx with hx | hx
      · rw [(p.keep y (h.inv.svis y (hsub y hys))).1]
        exact Nat.le_trans (Nat.min_le_left _ _) (h.cmp x hx y hy hys)
      · exact Nat.le_trans (Nat.min_le_right _ _) (p.cmp x hx y hy (hsub y hys))
    · intro y hy hys
      show upd _ n _ n ≤ (vis m t).index y
      rw [ln, (p.keep y (h.inv.svis y (hsub y hys))).1]
      rcases List.mem_append.1 hy with hy | hy
      · exact Nat.le_trans (Nat.min_le_left _ _) (h.cmpn y hy hys)
      · rw [List.mem_singleton.1 hy] at hys
        exact absurd h0 (h.inv.svis m (hsub m hys))
    · intro y hy
      show (vis m t).index y ≠ 0
      rcases List.mem_append.1 hy with hy | hy
      · rw [(p.keep y (h.pvis y hy)).1]; exact h.pvis y hy
      · rw [List.mem_singleton.1 hy]; exact p.vis
  · rw [if_neg h0]
    by_cases hon : t.on m = true
    · rw [if_pos hon]
      have hms := (h.inv.son m).1 hon
      have ln : (upd t.low n (min (t.low n) (t.index m))) n = min (t.low n) (t.index m) := upd_same _ _ _
      refine ⟨e, ⟨h.nw, h.gs, h.inv.low _, ?_, h.idn, h.ext, h.next, h.new, ?_, ?_, ?_, ?_⟩⟩
      · intro x hx
        refine ⟨(h.keep x hx).1, ?_⟩
        have hxn : x ≠ n := fun e => hx (e ▸ h.nw)
        show upd t.low n _ x = _
        rw [upd_other _ _ hxn]; exact (h.keep x hx).2
      · show upd _ n _ n ≤ t.index n ∧ ∃ y, y ∈ t.stack ∧ t.index y = upd _ n _ n ∧ _
        rw [ln]
        obtain ⟨l1, y, y1, y2, y3⟩ := h.lown
        refine ⟨Nat.le_trans (Nat.min_le_left _ _) l1, ?_⟩
        by_cases hle : t.low n ≤ t.index m
        · rw [Nat.min_eq_left hle]; exact ⟨y, y1, y2, y3⟩
        · rw [Nat.min_eq_right (by omega)]; exact ⟨m, hms, rfl, .one hm⟩
      · intro x hx y hy hys
        show upd _ n _ n ≤ t.index y
        rw [ln]; exact Nat.le_trans (Nat.min_le_left _ _) (h.cmp x hx y hy hys)
      · intro y hy hys
        show upd _ n _ n ≤ t.index y
        rw [ln]
        rcases List.mem_append.1 hy with hy | hy
        · exact Nat.le_trans (Nat.min_le_left _ _) (h.cmpn y hy hys)
        · rw [List.mem_singleton.1 hy]; exact Nat.min_le_right _ _
      · intro y hy
        rcases List.mem_append.1 hy with hy | hy
        · exact h.pvis y hy
        · rw [List.mem_singleton.1 hy]; exact h0
    · rw [if_neg hon]
      have hms : m ∉ t.stack := fun e => hon ((h.inv.son m).2 e)
      refine ⟨e, ⟨h.nw, h.gs, h.inv, h.keep, h.idn, h.ext, h.next, h.new, h.lown, h.cmp, ?_, ?_⟩⟩
      · intro y hy hys
        rcases List.mem_append.1 hy with hy | hy
        · exact h.cmpn y hy hys
        · rw [List.mem_singleton.1 hy] at hys
          exact absurd (hsub m hys) hms
      · intro y hy
        rcases List.mem_append.1 hy with hy | hy
        · exact h.pvis y hy
        · rw [List.mem_singleton.1 hy]; exact h0
theorem closed_ok {s t : St} {G e : List Nat} {n : Nat} (h : LInv adj N n s t G (adj n) e) (hlow : t.low n = t.index n) :
    ∀ x, (x ∈ n :: e ∨ (t.index x ≠ 0 ∧ x ∉ t.stack)) → ∀ y, y ∈ adj x → (y ∈ n :: e ∨ (t.index y ≠ 0 ∧ y ∉ t.stack)) := by
  have hord := h.inv.sord
  rw [h.ext] at hord
  intro x hx y hy
  rcases hx with hx | hx
  · -- y has been visited
    have hyv : t.index y ≠ 0 := by
      rcases List.mem_cons.1 hx with rfl | hxe
      · exact h.pvis y hy
      · by_cases hg : x ∈ n :: G
        · -- a grey node on e would stand twice
          rcases List.mem_cons.1 hg with rfl | hg
          · exact h.pvis y hy
          · exact absurd ((List.pairwise_append.1 hord).2.2 x (h.gs x hg) x (List.mem_cons_of_mem _ hxe)) (Nat.lt_irrefl _)
        · exact h.inv.black x (h.inv.svis x (by rw [h.ext]; exact List.mem_append.2 (.inr (List.mem_cons_of_mem _ hxe)))) hg y hy
    by_cases hst : y ∈ t.stack
    · rw [h.ext] at hst
      rcases List.mem_append.1 hst with hs | hs
      · exfalso
        have hle : t.low n ≤ t.index y := by
          rcases List.mem_cons.1 hx with rfl | hxe
          · exact h.cmpn y hy hs
          · exact h.cmp x hxe y hy hs
        have := (List.pairwise_append.1 hord).2.2 y hs n List.mem_cons_self
        omega
      · exact .inl hs
    · exact .inr ⟨hyv, hst⟩
  · exact .inr (h.inv.dcl x hx.1 hx.2 y hy)
theorem idx_stack {a : List Nat} {n : Nat} {e : List Nat} (h : n ∉ a) : (a ++ n :: e).idxOf n = a.length := by
  rw [List.idxOf_append, if_neg h]; simp
theorem leave_ok {s t : St} {G e : List Nat} {n : Nat} (hs : Inv adj N s G) (h : LInv adj N n s t G (adj n) e) : ∃ e', Post adj N n s (leaveF n t) G e' := by
  have hord := h.inv.sord
  rw [h.ext] at hord
  obtain ⟨o1, o2, o3⟩ := List.pairwise_append.1 hord
  have hns : n ∉ s.stack := fun w => hs.svis n w h.nw
  have hnst : n ∈ t.stack := by rw [h.ext]; simp
  have hsub : ∀ y, y ∈ s.stack → y ∈ t.stack := fun y hy => by rw [h.ext]; exact List.mem_append.2 (.inl hy)
  have hne : ∀ x, x ∈ n :: e → x ∈ t.stack := fun x hx => by rw [h.ext]; exact List.mem_append.2 (.inr hx)
  have hdis : ∀ x, x ∈ s.stack → x ∉ n :: e := fun x hx hy => absurd (o3 x hx x hy) (Nat.lt_irrefl _)
  have hge : ∀ x, x ∈ n :: e → t.index n ≤ t.index x := fun x hx => by
    rcases List.mem_cons.1 hx with rfl | hx
    · exact Nat.le_refl _
    · exact Nat.le_of_lt ((List.pairwise_cons.1 o2).1 x hx)
  have hix : ∀ x, x ∈ s.stack → t.index x = s.index x := fun x hx => (h.keep x (hs.svis x hx)).1
  obtain ⟨l1, y0, y1, y2, y3⟩ := h.lown
  unfold leaveF
  by_cases hlow : t.low n = t.index n
  · rw [if_pos hlow]
    have hcl := closed_ok h hlow
    have htk : t.stack.take (t.stack.idxOf n) = s.stack := by rw [h.ext, idx_stack hns, List.take_left']; rfl
    have hdr : t.stack.drop (t.stack.idxOf n) = n :: e := by rw [h.ext, idx_stack hns, List.drop_left']; rfl
    have hst : (knotF n t).stack = s.stack := htk
    have hkn : (knotF n t).knots = t.knots ++ [sortN (n :: e)] := by show t.knots ++ [sortN _] = _; rw [hdr]
    -- the row is a class
    have c1 : ∀ x, x ∈ n :: e → Rch adj n x := fun x hx => h.inv.frG n List.mem_cons_self x (hne x hx) (hge x hx)
    have c2 : ∀ x, x ∈ n :: e → Rch adj x n := fun x hx => by
      obtain ⟨z, z1, z2, z3⟩ := h.inv.toG x (hne x hx)
      rcases List.mem_cons.1 z1 with rfl | zg
      · exact z3
      · exfalso
        rcases z3.closed _ hcl (.inl hx) with q | q
        · exact hdis z (h.gs z zg) q
        · exact q.2 (hsub z (h.gs z zg))
    have c3 : ∀ x, x ∈ n :: e → ∀ y, y ∈ n :: e ↔ Rch adj x y ∧ Rch adj y x := fun x hx y => by
      constructor
      · exact fun hy => ⟨(c2 x hx).trans (c1 y hy), (c2 y hy).trans (c1 x hx)⟩
      · rintro ⟨r1, r2⟩
        rcases r1.closed _ hcl (.inl hx) with q | q
        · exact q
        · exfalso
          have : t.index x ≠ 0 ∧ x ∉ t.stack := r2.closed (fun z => t.index z ≠ 0 ∧ z ∉ t.stack) (fun z hz w hw => h.inv.dcl z hz.1 hz.2 w hw) q
          exact this.2 (hne x hx)
    have hkc : IsKnot adj (sortN (n :: e)) := by
      refine ⟨fun w => ?_, ?_, fun x hx y => ?_⟩
      · have : n ∈ sortN (n :: e) := sortN_mem.2 List.mem_cons_self
        rw [w] at this; cases this
      · have := List.pairwise_mergeSort (le := fun a b : Nat => decide (a ≤ b)) (fun a b c h1 h2 => by simp at *; omega) (fun a b => by simp; omega) (n :: e)
        exact this.imp (fun h => by simpa using h)
      · rw [sortN_mem]; exact c3 x (sortN_mem.1 hx) y
    refine ⟨[], ⟨⟨h.inv.vlt, h.inv.ile, ?_, ?_, ?_, ?_, ?_, ?_, ?_, ?_, ?_, ?_, ?_⟩, h.keep, ?_, ?_, Nat.le_of_succ_le h.next, h.new, ?_, ?_, ?_⟩⟩
    · intro x
      show (if x ∈ t.stack.drop (t.stack.idxOf n) then false else t.on x) = true ↔ x ∈ (knotF n t).stack
      rw [hdr, hst]
      by_cases hx : x ∈ n :: e
      · rw [if_pos hx]
        exact ⟨fun w => (by cases w), fun w => absurd hx (hdis x w)⟩
      · rw [if_neg hx, h.inv.son x, h.ext, List.mem_append]
        exact ⟨fun w => w.resolve_right hx, .inl⟩
    · intro x hx; rw [hst] at hx; exact h.inv.svis x (hsub x hx)
    · rw [hst]; exact o1
    · intro x hx; rw [hst]; exact h.gs x hx
    · intro x hx hg y hy
      by_cases hxn : x = n
      · subst hxn; exact h.pvis y hy
      · exact h.inv.black x hx (fun w => (List.mem_cons.1 w).elim hxn hg) y hy
    · intro x hx hxs y hy
      rw [hst] at hxs ⊢
      have : x ∈ n :: e ∨ (t.index x ≠ 0 ∧ x ∉ t.stack) := by
        by_cases hx2 : x ∈ t.stack
        · rw [h.ext] at hx2; exact .inl ((List.mem_append.1 hx2).resolve_left hxs)
        · exact .inr ⟨hx, hx2⟩
      rcases hcl x this y hy with q | q
      · exact ⟨h.inv.svis y (hne y q), fun w => hdis y w q⟩
      · exact ⟨q.1, fun w => q.2 (hsub y w)⟩
    · intro x hx
      rw [hst] at hx
      obtain ⟨z, a, b, c⟩ := hs.toG x hx
      exact ⟨z, a, by show t.index z ≤ t.index x; rw [hix z (h.gs z a), hix x hx]; exact b, c⟩
    · intro z hz x hx hle
      rw [hst] at hx
      have hle' : t.index z ≤ t.index x := hle
      rw [hix z (h.gs z hz), hix x hx] at hle'
      exact hs.frG z hz x hx hle'
    · intro l hl
      rw [hkn] at hl
      rcases List.mem_append.1 hl with hl | hl
      · exact h.inv.kcl l hl
      · rw [List.mem_singleton.1 hl]; exact hkc
    · intro x
      show _ ↔ t.index x ≠ 0 ∧ x ∉ (knotF n t).stack
      rw [hkn, hst]
      constructor
      · rintro ⟨l, hl, hx⟩
        rcases List.mem_append.1 hl with hl | hl
        · obtain ⟨a, b⟩ := (h.inv.kmem x).1 ⟨l, hl, hx⟩
          exact ⟨a, fun w => b (hsub x w)⟩
        · rw [List.mem_singleton.1 hl] at hx
          have hx' := sortN_mem.1 hx
          exact ⟨h.inv.svis x (hne x hx'), fun w => hdis x w hx'⟩
      · rintro ⟨a, b⟩
        by_cases hx2 : x ∈ t.stack
        · have : x ∈ n :: e := by rw [h.ext] at hx2; exact (List.mem_append.1 hx2).resolve_left b
          exact ⟨_, List.mem_append.2 (.inr List.mem_cons_self), sortN_mem.2 this⟩
        · obtain ⟨l, hl, hx⟩ := (h.inv.kmem x).2 ⟨a, hx2⟩
          exact ⟨l, List.mem_append.2 (.inl hl), hx⟩
    · rw [hkn]
      refine List.pairwise_append.2 ⟨h.inv.kdis, List.pairwise_singleton _ _, fun l hl m hm x hx w => ?_⟩
      rw [List.mem_singleton.1 hm] at w
      exact ((h.inv.kmem x).1 ⟨l, hl, hx⟩).2 (hne x (sortN_mem.1 w))
    · exact h.inv.svis n hnst
    · rw [hst, List.append_nil]
    · intro w; rw [hst] at w; exact absurd w hns
    · intro _
      show s.next < t.low n
      rw [hlow, h.idn]; exact Nat.lt_succ_self _
    · intro x hx; cases hx
  · rw [if_neg hlow]
    have hlt : t.low n < t.index n := by omega
    refine ⟨n :: e, ⟨⟨h.inv.vlt, h.inv.ile, h.inv.son, h.inv.svis, h.inv.sord, fun x hx => hsub x (h.gs x hx), ?_, h.inv.dcl, ?_, fun z hz => h.inv.frG z (List.mem_cons_of_mem _ hz), h.inv.kcl, h.inv.kmem, h.inv.kdis⟩, h.keep, h.inv.svis n hnst, h.ext, Nat.le_of_succ_le h.next, h.new, ?_, fun w => absurd hnst w, ?_⟩⟩
    · intro x hx hg y hy
      by_cases hxn : x = n
      · subst hxn; exact h.pvis y hy
      · exact h.inv.black x hx (fun w => (List.mem_cons.1 w).elim hxn hg) y hy
    · intro x hx
      obtain ⟨z, z1, z2, z3⟩ := h.inv.toG x hx
      rcases List.mem_cons.1 z1 with rfl | zg
      · obtain ⟨q, q1, q2, q3⟩ := h.inv.toG y0 y1
        rcases List.mem_cons.1 q1 with rfl | qg
        · omega
        · exact ⟨q, qg, by omega, z3.trans (y3.trans q3)⟩
      · exact ⟨z, zg, z2, z3⟩
    · intro _
      refine ⟨y0, ?_, y2, y3⟩
      have y1' := y1
      rw [h.ext] at y1'
      refine (List.mem_append.1 y1').resolve_right (fun w => ?_)
      have := hge y0 w; omega
    · intro x hx y hy hys
      rcases List.mem_cons.1 hx with rfl | hx
      · exact h.cmpn y hy hys
      · exact h.cmp x hx y hy hys
def whites (N : Nat) (s : St) : Nat := (List.range N).countP (fun x => decide (s.index x = 0))
theorem whites_lt {N : Nat} {s t : St} {n : Nat} (hn : n < N) (h : ∀ x, s.index x ≠ 0 → t.index x ≠ 0) (h0 : s.index n = 0) (h1 : t.index n ≠ 0) : whites N t < whites N s := by
  unfold whites
  have key : ∀ l : List Nat, n ∈ l → l.countP (fun x => decide (t.index x = 0)) < l.countP (fun x => decide (s.index x = 0)) := by
    intro l
    induction l with
    | nil => intro w; cases w
    | cons a r ih =>
      intro w
      have hr : r.countP (fun x => decide (t.index x = 0)) ≤ r.countP (fun x => decide (s.index x = 0)) :=
        List.countP_mono_left fun x _ hx => by
          simp only [decide_eq_true_eq] at hx ⊢
          exact Classical.byContradiction fun w => h x w hx
      rw [List.countP_cons, List.countP_cons]
      by_cases ha : a = n
      · subst ha
        simp [h0, h1]; omega
      · have := ih ((List.mem_cons.1 w).resolve_left (fun e => ha e.symm))
        by_cases q : t.index a = 0
        · have q2 : s.index a = 0 := Classical.byContradiction fun w => h a w q
          simp [q, q2]; exact this
        · simp [q]; split <;> omega
  exact key _ (List.mem_range.2 hn)
theorem loop_ok (hN : ∀ x, x < N → ∀ y, y ∈ adj x → y < N) {vis : Nat → St → St} {n : Nat} {s : St} {G : List Nat} (hs : Inv adj N s G) :
    ∀ (suf pre : List Nat) (t : St) (e : List Nat), pre ++ suf = adj n → LInv adj N n s t G pre e →
      (∀ (t' : St) (G' : List Nat) (m : Nat), Inv adj N t' G' → t'.index m = 0 → m < N → (∀ z, z ∈ G' → Rch adj z m) → whites N t' < whites N s → ∃ e', Post adj N m t' (vis m t') G' e') → n < N →
      ∃ e', LInv adj N n s (suf.foldl (stepF vis n) t) G (adj n) e' := by
  intro suf
  induction suf with
  | nil => intro pre t e hp h _ _; rw [List.append_nil] at hp; subst hp; exact ⟨e, h⟩
  | cons m r ih =>
    intro pre t e hp h hv hn
    have hm : m ∈ adj n := by rw [← hp]; simp
    have hw : whites N t < whites N s := whites_lt hn (fun x hx => by rw [(h.keep x hx).1]; exact hx) h.nw (by rw [h.idn]; exact Nat.succ_ne_zero _)
    obtain ⟨e', h'⟩ := step_ok h hm (fun h0 => hv t (n :: G) m h.inv h0 (hN n hn m hm) (fun z hz => by
      rcases List.mem_cons.1 hz with rfl | hz
      · exact .one hm
      · refine Rch.trans (h.inv.frG z (List.mem_cons_of_mem _ hz) n (by rw [h.ext]; simp) ?_) (.one hm)
        rw [h.idn, (h.keep z (hs.svis z (h.gs z hz))).1]
        exact Nat.le_succ_of_le (hs.ile z)) hw)
    exact ih (pre ++ [m]) _ e' (by rw [← hp]; simp) h' hv hn
theorem visit_ok (hN : ∀ x, x < N → ∀ y, y ∈ adj x → y < N) : ∀ (k : Nat) (s : St) (G : List Nat) (n : Nat), Inv adj N s G → s.index n = 0 → n < N → (∀ z, z ∈ G → Rch adj z n) → whites N s ≤ k → ∃ e, Post adj N n s (visitF adj k n s) G e := by
  intro k
  induction k with
  | zero =>
    intro s G n hs h0 hn _ hk
    exfalso
    have : whites N s = 0 := Nat.le_zero.1 hk
    unfold whites at this
    rw [List.countP_eq_zero] at this
    exact this n (List.mem_range.2 hn) (by simpa using h0)
  | succ k ih =>
    intro s G n hs h0 hn hG hk
    obtain ⟨e, h⟩ := loop_ok hN (vis := visitF adj k) hs (adj n) [] _ _ rfl (enter_ok hs h0 hn hG) (fun t' G' m a b c d w => ih t' G' m a b c d (by omega)) hn
    exact leave_ok hs h
def rootsF (adj : Nat → List Nat) (N : Nat) (l : List Nat) (s : St) : St := l.foldl (fun t n => if t.index n = 0 then visitF adj N n t else t) s
def st0 : St := ⟨0, fun _ => 0, fun _ => 0, [], fun _ => false, []⟩
theorem whites_max (N : Nat) (s : St) : whites N s ≤ N := by
  have := List.countP_le_length (p := fun x => decide (s.index x = 0)) (l := List.range N)
  simpa [whites] using this
theorem roots_ok (hN : ∀ x, x < N → ∀ y, y ∈ adj x → y < N) : ∀ (l : List Nat) (s : St), (∀ x, x ∈ l → x < N) → Inv adj N s [] → Inv adj N (rootsF adj N l s) [] ∧ (∀ x, s.index x ≠ 0 → (rootsF adj N l s).index x ≠ 0) ∧ ∀ x, x ∈ l → (rootsF adj N l s).index x ≠ 0 := by
  intro l
  induction l with
  | nil => intro s _ h; exact ⟨h, fun _ h => h, fun _ h => by cases h⟩
  | cons n r ih =>
    intro s hl h
    by_cases h0 : s.index n = 0
    · obtain ⟨e, p⟩ := visit_ok hN N s [] n h h0 (hl n List.mem_cons_self) (fun _ h => by cases h) (whites_max N s)
      obtain ⟨a, b, c⟩ := ih (visitF adj N n s) (fun x hx => hl x (List.mem_cons_of_mem _ hx)) p.inv
      have e1 : rootsF adj N (n :: r) s = rootsF adj N r (visitF adj N n s) := by simp [rootsF, h0]
      rw [e1]
      refine ⟨a, fun x hx => b x (by rw [(p.keep x hx).1]; exact hx), fun x hx => ?_⟩
      rcases List.mem_cons.1 hx with rfl | hx
      · exact b _ p.vis
      · exact c x hx
    · obtain ⟨a, b, c⟩ := ih s (fun x hx => hl x (List.mem_cons_of_mem _ hx)) h
      have e1 : rootsF adj N (n :: r) s = rootsF adj N r s := by simp [rootsF, h0]
      rw [e1]
      refine ⟨a, b, fun x hx => ?_⟩
      rcases List.mem_cons.1 hx with rfl | hx
      · exact b _ h0
      · exact c x hx
theorem inv0 : Inv adj N st0 [] := by
  refine ⟨fun x h => absurd rfl h, fun _ => Nat.le_refl _, fun x => ?_, fun x h => ?_, List.Pairwise.nil, fun x h => ?_, fun x h => absurd rfl h, fun x h => absurd rfl h, fun x h => ?_, fun z h => ?_, fun l h => ?_, fun x => ?_, List.Pairwise.nil⟩
  · simp [st0]
  · cases h
  · cases h
  · cases h
  · cases h
  · cases h
  · constructor
    · rintro ⟨l, h, _⟩; cases h
    · rintro ⟨h, _⟩; exact absurd rfl h
def knotsF (adj : Nat → List Nat) (N : Nat) : List (List Nat) := (rootsF adj N (List.range N) st0).knots
theorem knots_ok (hN : ∀ x, x < N → ∀ y, y ∈ adj x → y < N) : (∀ l, l ∈ knotsF adj N → IsKnot adj l) ∧ (knotsF adj N).Pairwise (fun l m => ∀ x, x ∈ l → x ∉ m) ∧ ∀ x, (∃ l, l ∈ knotsF adj N ∧ x ∈ l) ↔ x < N := by
  obtain ⟨h, _, hv⟩ := roots_ok hN (List.range N) st0 (fun x hx => List.mem_range.1 hx) inv0
  refine ⟨h.kcl, h.kdis, fun x => ?_⟩
  have hst : ∀ y, y ∉ (rootsF adj N (List.range N) st0).stack := fun y hy => by obtain ⟨z, hz, _⟩ := h.toG y hy; cases hz
  constructor
  · intro hx
    exact h.vlt x ((h.kmem x).1 hx).1
  · intro hx
    exact (h.kmem x).2 ⟨hv x (List.mem_range.2 hx), hst x⟩
end
end Go.Proofs.Ytejhejpkfjhmkaa.Tarj

/- The numbering of a graph's knots: what it is, that there is one alone, how it grows number by number. No program. -/
namespace Go.Proofs.Ytejhejpkfjhmkaa.Tarj
set_option linter.unusedVariables false
def Sc (adj : Nat → List Nat) (x y : Nat) : Prop := Rch adj x y ∧ Rch adj y x
theorem Sc.refl (adj : Nat → List Nat) (x : Nat) : Sc adj x x := ⟨.refl _, .refl _⟩
theorem Sc.symm {adj : Nat → List Nat} {x y : Nat} (h : Sc adj x y) : Sc adj y x := ⟨h.2, h.1⟩
theorem Sc.trans {adj : Nat → List Nat} {x y z : Nat} (h : Sc adj x y) (k : Sc adj y z) : Sc adj x z := ⟨h.1.trans k.1, k.2.trans h.2⟩
theorem Rch.lt {adj : Nat → List Nat} {N : Nat} (hN : ∀ x, x < N → ∀ y, y ∈ adj x → y < N) {x y : Nat} (r : Rch adj x y) (h : x < N) : y < N := r.closed (fun x => x < N) hN h
def Rdy (adj : Nat → List Nat) (num : Nat → Nat) (k m : Nat) : Prop := k ≤ num m ∧ ∀ y, Rch adj m y → num y < k ∨ Rch adj y m
structure Nmb (adj : Nat → List Nat) (N M : Nat) (num : Nat → Nat) : Prop where
  cls : ∀ x y, x < N → y < N → (num x = num y ↔ Sc adj x y)
  lt : ∀ x, x < N → num x < M
  at_ : ∀ k, k < M → ∃ n, n < N ∧ num n = k ∧ Rdy adj num k n ∧ ∀ m, m < N → Rdy adj num k m → n ≤ m
section
variable {adj : Nat → List Nat} {N M M' : Nat} {num num' : Nat → Nat}
theorem Rdy.other (hN : ∀ x, x < N → ∀ y, y ∈ adj x → y < N) {k : Nat} (ih : ∀ x, x < N → (num x < k ↔ num' x < k)) {m : Nat} (hm : m < N) (h : Rdy adj num k m) : Rdy adj num' k m :=
  ⟨by have := ih m hm; have := h.1; omega, fun y r => (h.2 y r).imp (fun q => (ih y (r.lt hN hm)).1 q) id⟩
theorem Nmb.one (hN : ∀ x, x < N → ∀ y, y ∈ adj x → y < N) (h : Nmb adj N M num) (h' : Nmb adj N M' num') {k : Nat} (ih : ∀ x, x < N → (num x < k ↔ num' x < k)) {x : Nat} (hx : x < N) (e : num x = k) : num' x = k := by
  obtain ⟨n, n1, n2, n3, n4⟩ := h.at_ k (by have := h.lt x hx; omega)
  have r1 := n3.other hN ih n1
  obtain ⟨n', q1, q2, q3, q4⟩ := h'.at_ k (by have := h'.lt n n1; have := r1.1; omega)
  have r2 := q3.other hN (fun x hx => (ih x hx).symm) q1
  have a := q4 n n1 r1
  have b := n4 n' q1 r2
  obtain rfl : n = n' := by omega
  have s := (h.cls x n hx n1).1 (by omega)
  have := (h'.cls x n hx n1).2 s
  omega
theorem Nmb.uniq (hN : ∀ x, x < N → ∀ y, y ∈ adj x → y < N) (h : Nmb adj N M num) (h' : Nmb adj N M' num') : M = M' ∧ ∀ x, x < N → num x = num' x := by
  have P : ∀ k x, x < N → (num x = k ↔ num' x = k) := by
    intro k
    induction k using Nat.strongRecOn with
    | _ k ih =>
      have ih' : ∀ x, x < N → (num x < k ↔ num' x < k) := fun x hx => by
        constructor
        · intro q; have := (ih _ q x hx).1 rfl; omega
        · intro q; have := (ih _ q x hx).2 rfl; omega
      exact fun x hx => ⟨fun e => h.one hN h' ih' hx e, fun e => h'.one hN h (fun x hx => (ih' x hx).symm) hx e⟩
  refine ⟨?_, fun x hx => ((P (num x) x hx).1 rfl).symm⟩
  rcases Nat.lt_trichotomy M M' with c | c | c
  · obtain ⟨n, n1, n2, _⟩ := h'.at_ M c
    have := (P M n n1).2 n2
    have := h.lt n n1; omega
  · exact c
  · obtain ⟨n, n1, n2, _⟩ := h.at_ M' c
    have := (P M' n n1).1 n2
    have := h'.lt n n1; omega
theorem Nmb.down (hN : ∀ x, x < N → ∀ y, y ∈ adj x → y < N) (h : Nmb adj N M num) {x y : Nat} (hx : x < N) (r : Rch adj x y) : num y ≤ num x := by
  obtain ⟨n, n1, n2, n3, n4⟩ := h.at_ (num x) (h.lt x hx)
  have s := (h.cls x n hx n1).1 (by omega)
  rcases n3.2 y (s.2.trans r) with q | q
  · omega
  · have hy := r.lt hN hx
    have := (h.cls n y n1 hy).2 ⟨s.2.trans r, q⟩
    omega
theorem flt_lt {α : Type} {l : List α} {p q : α → Bool} (h : ∀ x, x ∈ l → p x = true → q x = true) {n : α} (hn : n ∈ l) (h1 : q n = true) (h2 : p n = false) : (l.filter p).length < (l.filter q).length := by
  induction l with
  | nil => cases hn
  | cons a t ih =>
    have hle : (t.filter p).length ≤ (t.filter q).length := by
      clear ih hn
      have ht : ∀ x, x ∈ t → p x = true → q x = true := fun x hx => h x (List.mem_cons_of_mem _ hx)
      clear h
      induction t with
      | nil => exact Nat.le_refl _
      | cons b s ih2 =>
        have := ih2 (fun x hx => ht x (List.mem_cons_of_mem _ hx))
        have hb := ht b List.mem_cons_self
        rw [List.filter_cons, List.filter_cons]
        by_cases e : p b = true
        · rw [if_pos e, if_pos (hb e)]; simpa using this
        · rw [if_neg e]
          split <;> simp <;> omega
    rw [List.filter_cons, List.filter_cons]
    rcases List.mem_cons.1 hn with rfl | hn
    · rw [if_neg (by rw [h2]; simp), if_pos h1, List.length_cons]; omega
    · have := ih (fun x hx => h x (List.mem_cons_of_mem _ hx)) hn
      have ha := h a List.mem_cons_self
      by_cases e : p a = true
      · rw [if_pos e, if_pos (ha e)]; simpa using this
      · rw [if_neg e]
        split <;> simp <;> omega
def Rd (adj : Nat → List Nat) (o : Nat → Int) (j m : Nat) : Prop := ¬ (0 ≤ o m ∧ o m < j) ∧ ∀ y, Rch adj m y → (0 ≤ o y ∧ o y < j) ∨ Rch adj y m
structure Pn (adj : Nat → List Nat) (N k : Nat) (o : Nat → Int) : Prop where
  lo : ∀ x, x < N → -1 ≤ o x ∧ o x < k
  cls : ∀ x y, x < N → y < N → 0 ≤ o x → (o x = o y ↔ Sc adj x y)
  at_ : ∀ j, j < k → ∃ n, n < N ∧ o n = j ∧ Rd adj o j n ∧ ∀ m, m < N → Rd adj o j m → n ≤ m
variable {k : Nat} {o : Nat → Int}
theorem Pn.start (adj : Nat → List Nat) (N : Nat) : Pn adj N 0 (fun _ => -1) := ⟨fun x _ => by omega, fun x y _ _ h => by omega, fun j h => by omega⟩
theorem Pn.congr {o' : Nat → Int} (hN : ∀ x, x < N → ∀ y, y ∈ adj x → y < N) (h : Pn adj N k o) (e : ∀ x, x < N → o' x = o x) : Pn adj N k o' := by
  refine ⟨fun x hx => by rw [e x hx]; exact h.lo x hx, fun x y hx hy => by rw [e x hx, e y hy]; exact h.cls x y hx hy, fun j hj => ?_⟩
  have hr : ∀ m, m < N → (Rd adj o' j m ↔ Rd adj o j m) := fun m hm => by
    unfold Rd
    rw [e m hm]
    exact ⟨fun q => ⟨q.1, fun y r => by have := q.2 y r; rw [e y (r.lt hN hm)] at this; exact this⟩, fun q => ⟨q.1, fun y r => by rw [e y (r.lt hN hm)]; exact q.2 y r⟩⟩
  obtain ⟨n, a, b, c, d⟩ := h.at_ j hj
  exact ⟨n, a, by rw [e n a]; exact b, (hr n a).2 c, fun m hm q => d m hm ((hr m hm).1 q)⟩
theorem Pn.shut (hN : ∀ x, x < N → ∀ y, y ∈ adj x → y < N) (h : Pn adj N k o) {x y : Nat} (hx : x < N) (h0 : 0 ≤ o x) (r : Rch adj x y) : 0 ≤ o y := by
  obtain ⟨j, hj⟩ : ∃ j : Nat, o x = j := ⟨(o x).toNat, by omega⟩
  obtain ⟨n, a, b, c, d⟩ := h.at_ j (by have := (h.lo x hx).2; omega)
  have s := (h.cls x n hx a h0).1 (by omega)
  rcases c.2 y (s.2.trans r) with q | q
  · exact q.1
  · have hy := r.lt hN hx
    have := (h.cls n y a hy (by omega)).2 ⟨s.2.trans r, q⟩
    omega
open Classical in
theorem Pn.step (hN : ∀ x, x < N → ∀ y, y ∈ adj x → y < N) (h : Pn adj N k o) {n : Nat} (hn : n < N) (h0 : o n < 0) (hr : ∀ y, Rch adj n y → 0 ≤ o y ∨ Rch adj y n)
    (hl : ∀ m, m < N → o m < 0 → (∀ y, Rch adj m y → 0 ≤ o y ∨ Rch adj y m) → n ≤ m) {o' : Nat → Int} (ho : ∀ x, x < N → o' x = if Sc adj n x then (k : Int) else o x) : Pn adj N (k + 1) o' := by
  have hsc : ∀ x, x < N → Sc adj n x → o x < 0 := fun x hx s => by
    apply Classical.byContradiction
    intro q
    have := (h.cls x n hx hn (by omega)).2 s.symm
    omega
  have low : ∀ x, x < N → ∀ j : Nat, j ≤ k → ((0 ≤ o' x ∧ o' x < j) ↔ (0 ≤ o x ∧ o x < j)) := fun x hx j hj => by
    rw [ho x hx]
    by_cases s : Sc adj n x
    · rw [if_pos s]; have := hsc x hx s; omega
    · rw [if_neg s]
  have rd : ∀ j, j ≤ k → ∀ m, m < N → (Rd adj o' j m ↔ Rd adj o j m) := fun j hj m hm => by
    unfold Rd
    constructor
    · exact fun q => ⟨fun w => q.1 ((low m hm j hj).2 w), fun y r => (q.2 y r).imp (fun w => (low y (r.lt hN hm) j hj).1 w) id⟩
    · exact fun q => ⟨fun w => q.1 ((low m hm j hj).1 w), fun y r => (q.2 y r).imp (fun w => (low y (r.lt hN hm) j hj).2 w) id⟩
  refine ⟨fun x hx => ?_, fun x y hx hy hx0 => ?_, fun j hj => ?_⟩
  · rw [ho x hx]
    have := h.lo x hx
    split <;> omega
  · rw [ho x hx] at hx0 ⊢
    rw [ho y hy]
    by_cases sx : Sc adj n x
    · rw [if_pos sx]
      by_cases sy : Sc adj n y
      · rw [if_pos sy]; exact ⟨fun _ => sx.symm.trans sy, fun _ => rfl⟩
      · rw [if_neg sy]
        have := (h.lo y hy).2
        exact ⟨fun e => by omega, fun s => absurd (sx.trans s) sy⟩
    · rw [if_neg sx] at hx0 ⊢
      by_cases sy : Sc adj n y
      · rw [if_pos sy]
        have := (h.lo x hx).2
        exact ⟨fun e => by omega, fun s => absurd (sy.trans s.symm) sx⟩
      · rw [if_neg sy]; exact h.cls x y hx hy hx0
  · by_cases e : j = k
    · subst e
      refine ⟨n, hn, by rw [ho n hn, if_pos (Sc.refl _ _)], (rd j (Nat.le_refl _) n hn).2 ⟨by omega, fun y r => ?_⟩, fun m hm q => ?_⟩
      · rcases hr y r with w | w
        · exact .inl ⟨w, (h.lo y (r.lt hN hn)).2⟩
        · exact .inr w
      · have q' := (rd j (Nat.le_refl _) m hm).1 q
        refine hl m hm ?_ (fun y r => (q'.2 y r).imp (fun w => w.1) id)
        have := (h.lo m hm).2
        have := q'.1
        omega
    · obtain ⟨n', a, b, c, d⟩ := h.at_ j (by omega)
      refine ⟨n', a, ?_, (rd j (by omega) n' a).2 c, fun m hm q => d m hm ((rd j (by omega) m hm).1 q)⟩
      rw [ho n' a, if_neg (fun s => by have := hsc n' a s; omega)]
      exact b
theorem Pn.done (h : Pn adj N k o) (ha : ∀ x, x < N → 0 ≤ o x) {num : Nat → Nat} (hn : ∀ x, x < N → (num x : Int) = o x) (hN : ∀ x, x < N → ∀ y, y ∈ adj x → y < N) : Nmb adj N k num := by
  refine ⟨fun x y hx hy => ?_, fun x hx => ?_, fun j hj => ?_⟩
  · rw [← h.cls x y hx hy (ha x hx), ← hn x hx, ← hn y hy]; omega
  · have := (h.lo x hx).2; have := hn x hx; omega
  · have rd : ∀ m, m < N → (Rdy adj num j m ↔ Rd adj o j m) := fun m hm => by
      unfold Rdy Rd
      have e := hn m hm
      constructor
      · exact fun q => ⟨by have := q.1; omega, fun y r => (q.2 y r).imp (fun w => by have := hn y (r.lt hN hm); have := ha y (r.lt hN hm); omega) id⟩
      · exact fun q => ⟨by have := q.1; have := ha m hm; omega, fun y r => (q.2 y r).imp (fun w => by have := hn y (r.lt hN hm); omega) id⟩
    obtain ⟨n, a, b, c, d⟩ := h.at_ j hj
    exact ⟨n, a, by have := hn n a; omega, (rd n a).2 c, fun m hm q => d m hm ((rd m hm).1 q)⟩
open Classical in
theorem Pn.some (hN : ∀ x, x < N → ∀ y, y ∈ adj x → y < N) (h : Pn adj N k o) {x : Nat} (hx : x < N) (h0 : o x < 0) : ∃ n, n < N ∧ o n < 0 ∧ ∀ y, Rch adj n y → 0 ≤ o y ∨ Rch adj y n := by
  obtain ⟨c, hc⟩ : ∃ c, c = ((List.range N).filter (fun y => decide (Rch adj x y ∧ o y < 0))).length := ⟨_, rfl⟩
  induction c using Nat.strongRecOn generalizing x with
  | _ c ih =>
    by_cases q : ∀ y, Rch adj x y → 0 ≤ o y ∨ Rch adj y x
    · exact ⟨x, hx, h0, q⟩
    · obtain ⟨y, hy⟩ := Classical.not_forall.1 q
      obtain ⟨r, hy2⟩ := Classical.not_imp.1 hy
      have hy3 : ¬ 0 ≤ o y := fun w => hy2 (.inl w)
      have hy4 : ¬ Rch adj y x := fun w => hy2 (.inr w)
      have hyN := r.lt hN hx
      refine ih _ ?_ hyN (by omega) rfl
      rw [hc]
      refine flt_lt (n := x) (fun z _ hz => ?_) (List.mem_range.2 hx) ?_ ?_
      · have := of_decide_eq_true hz
        exact decide_eq_true ⟨r.trans this.1, this.2⟩
      · exact decide_eq_true ⟨.refl _, h0⟩
      · exact decide_eq_false (fun w => hy4 w.1)
def uns (N : Nat) (o : Nat → Int) : Nat := ((List.range N).filter (fun x => decide (o x < 0))).length
theorem uns_le (N : Nat) (o : Nat → Int) : uns N o ≤ N := Nat.le_trans (List.length_filter_le _ _) (by simp)
theorem uns_zero {N : Nat} {o : Nat → Int} (h : uns N o = 0) : ∀ x, x < N → 0 ≤ o x := fun x hx => by
  have e := List.eq_nil_of_length_eq_zero h
  apply Classical.byContradiction
  intro q
  have : x ∈ (List.range N).filter (fun x => decide (o x < 0)) := List.mem_filter.2 ⟨List.mem_range.2 hx, by simp; omega⟩
  rw [e] at this; cases this
theorem uns_lt {N : Nat} {o o' : Nat → Int} {n : Nat} (hn : n < N) (h : ∀ x, x < N → o' x < 0 → o x < 0) (h1 : o n < 0) (h2 : 0 ≤ o' n) : uns N o' < uns N o :=
  flt_lt (n := n) (fun x hx hp => decide_eq_true (h x (List.mem_range.1 hx) (of_decide_eq_true hp))) (List.mem_range.2 hn) (decide_eq_true h1) (decide_eq_false (by omega))
end
end Go.Proofs.Ytejhejpkfjhmkaa.Tarj

namespace Go.Proofs.Ytejhejpkfjhmkaa.Man
def adjF (g : List (List Int)) (x : Nat) : List Nat := (g.getD x []).map Int.toNat
structure GOk (g : List (List Int)) : Prop where
  len : g.length ≤ 1000
  row : ∀ v, (g.getD v []).length ≤ 1000
  ent : ∀ v, v < g.length → ∀ m, m ∈ g.getD v [] → 0 ≤ m ∧ m < (g.length : Int)
theorem GOk.adj {g : List (List Int)} (h : GOk g) : ∀ x, x < g.length → ∀ y, y ∈ adjF g x → y < g.length := by
  intro x hx y hy
  obtain ⟨m, hm, rfl⟩ := List.mem_map.1 hy
  have := h.ent x hx m hm
  omega
end Go.Proofs.Ytejhejpkfjhmkaa.Man

/- Knots that are numbered by a heap of those that may be: it is the numbering. No program. -/
namespace Go.Proofs.Ytejhejpkfjhmkaa.Tarj
set_option linter.unusedVariables false
structure KH (adj : Nat → List Nat) (N K : Nat) (cls lw : Nat → Nat) (r tn : Nat → List Nat) : Prop where
  hN : ∀ x, x < N → ∀ y, y ∈ adj x → y < N
  cl : ∀ x, x < N → cls x < K
  sc : ∀ x y, x < N → y < N → (cls x = cls y ↔ Sc adj x y)
  lw1 : ∀ k, k < K → lw k < N ∧ cls (lw k) = k
  lw2 : ∀ x, x < N → lw (cls x) ≤ x
  rm : ∀ k, k < K → ∀ j, j ∈ r k ↔ j ≠ k ∧ ∃ x, x < N ∧ cls x = k ∧ ∃ y, y ∈ adj x ∧ cls y = j
  rn : ∀ k, k < K → (r k).Nodup
  tm : ∀ k, k < K → ∀ j, j ∈ tn k ↔ j < K ∧ k ∈ r j
  tnn : ∀ k, k < K → (tn k).Nodup
def oD (cls : Nat → Nat) (dn : Nat → Bool) (num : Nat → Nat) : Nat → Int := fun x => if dn (cls x) = true then ((num (cls x) : Nat) : Int) else -1
theorem oD_neg {cls : Nat → Nat} {dn : Nat → Bool} {num : Nat → Nat} {x : Nat} : oD cls dn num x < 0 ↔ dn (cls x) = false := by
  unfold oD
  cases h : dn (cls x) with
  | true => rw [if_pos rfl]; exact ⟨fun q => by omega, fun q => by cases q⟩
  | false => rw [if_neg (by simp)]; exact ⟨fun _ => rfl, fun _ => by omega⟩
theorem oD_pos {cls : Nat → Nat} {dn : Nat → Bool} {num : Nat → Nat} {x : Nat} : 0 ≤ oD cls dn num x ↔ dn (cls x) = true := by
  have := oD_neg (cls := cls) (dn := dn) (num := num) (x := x)
  cases h : dn (cls x) with
  | true => rw [h] at this; exact ⟨fun _ => rfl, fun _ => by have := mt this.1 (by simp); omega⟩
  | false => have := this.2 h; exact ⟨fun q => by omega, fun q => by cases q⟩
def nd (dn : Nat → Bool) (l : List Nat) : Nat := (l.filter (fun j => !dn j)).length
theorem nd_zero {dn : Nat → Bool} {l : List Nat} (h : nd dn l = 0) : ∀ j, j ∈ l → dn j = true := fun j hj => by
  have e := List.eq_nil_of_length_eq_zero h
  cases q : dn j with
  | true => rfl
  | false =>
    have : j ∈ l.filter (fun j => !dn j) := List.mem_filter.2 ⟨hj, by rw [q]; rfl⟩
    rw [e] at this; cases this
theorem nd_all {dn : Nat → Bool} {l : List Nat} (h : ∀ j, j ∈ l → dn j = true) : nd dn l = 0 := by
  unfold nd
  rw [List.length_eq_zero_iff, List.filter_eq_nil_iff]
  intro j hj
  rw [h j hj]; simp
theorem nd_far {dn : Nat → Bool} {x : Nat} : ∀ {l : List Nat}, x ∉ l → nd (upd dn x true) l = nd dn l
  | [], _ => rfl
  | a :: t, h => by
    have e : a ≠ x := fun e => h (e ▸ List.mem_cons_self)
    have ih := nd_far (dn := dn) (x := x) (l := t) (fun q => h (List.mem_cons_of_mem _ q))
    unfold nd at *
    rw [List.filter_cons, List.filter_cons, upd_other _ _ e]
    split
    · rw [List.length_cons, List.length_cons, ih]
    · exact ih
theorem nd_in {dn : Nat → Bool} {x : Nat} (hx : dn x = false) : ∀ {l : List Nat}, l.Nodup → x ∈ l → nd (upd dn x true) l + 1 = nd dn l
  | [], _, h => by cases h
  | a :: t, hn, h => by
    obtain ⟨h1, h2⟩ := List.nodup_cons.1 hn
    by_cases e : a = x
    · subst e
      have := nd_far (dn := dn) (x := a) h1
      unfold nd at *
      rw [List.filter_cons, List.filter_cons, upd_same, hx, if_neg (by simp), if_pos (by simp), List.length_cons, this]
    · have ih := nd_in (dn := dn) hx h2 ((List.mem_cons.1 h).resolve_left (Ne.symm e))
      unfold nd at *
      rw [List.filter_cons, List.filter_cons, upd_other _ _ e]
      split
      · rw [List.length_cons, List.length_cons]; omega
      · exact ih
structure KI (adj : Nat → List Nat) (N K : Nat) (cls : Nat → Nat) (r : Nat → List Nat) (n : Nat) (dn : Nat → Bool) (num left : Nat → Nat) (l : List Nat) : Prop where
  pn : Pn adj N n (oD cls dn num)
  lf : ∀ k, k < K → left k = nd dn (r k)
  lm : ∀ k, k ∈ l ↔ k < K ∧ dn k = false ∧ left k = 0
  ln : l.Nodup
  ct : n + nd dn (List.range K) = K
section
variable {adj : Nat → List Nat} {N K : Nat} {cls lw : Nat → Nat} {r tn : Nat → List Nat} {n : Nat} {dn : Nat → Bool} {num left left0 : Nat → Nat} {l l0 : List Nat}
theorem KI.start (H : KH adj N K cls lw r tn) (hl : ∀ k, k < K → left k = (r k).length) (hm : ∀ k, k ∈ l ↔ k < K ∧ (r k).length = 0) (hn : l.Nodup) : KI adj N K cls r 0 (fun _ => false) (fun _ => 0) left l := by
  have e : ∀ L : List Nat, nd (fun _ => false) L = L.length := fun L => by unfold nd; rw [List.filter_eq_self.2 (by simp)]
  refine ⟨(Pn.start adj N).congr H.hN (fun x _ => by unfold oD; rw [if_neg (by simp)]), fun k hk => by rw [e, hl k hk], fun k => ?_, hn, by rw [e, List.length_range]; omega⟩
  rw [hm k]
  constructor
  · exact fun q => ⟨q.1, rfl, by rw [hl k q.1]; exact q.2⟩
  · exact fun q => ⟨q.1, by rw [← hl k q.1]; exact q.2.2⟩
theorem KI.ready (H : KH adj N K cls lw r tn) (h : KI adj N K cls r n dn num left l) {x : Nat} (hx : x < K) (hz : left x = 0) : ∀ y, Rch adj (lw x) y → 0 ≤ oD cls dn num y ∨ Rch adj y (lw x) := by
  obtain ⟨w1, w2⟩ := H.lw1 x hx
  intro y hr
  have key := hr.closed (fun z => z < N ∧ (0 ≤ oD cls dn num z ∨ cls z = x)) (fun z hz' u hu => by
    have huN := H.hN z hz'.1 u hu
    refine ⟨huN, ?_⟩
    rcases hz'.2 with q | q
    · exact .inl (h.pn.shut H.hN hz'.1 q (.one hu))
    · by_cases e : cls u = x
      · exact .inr e
      · left
        have hin : cls u ∈ r x := (H.rm x hx _).2 ⟨e, z, hz'.1, q, u, hu, rfl⟩
        rw [h.lf x hx] at hz
        exact oD_pos.2 (nd_zero hz _ hin)) ⟨w1, .inr w2⟩
  rcases key.2 with q | q
  · exact .inl q
  · exact .inr ((H.sc y (lw x) key.1 w1).1 (by rw [q, w2])).1
theorem KI.heap (H : KH adj N K cls lw r tn) (h : KI adj N K cls r n dn num left l) {m : Nat} (hm : m < N) (h0 : oD cls dn num m < 0) (hr : ∀ y, Rch adj m y → 0 ≤ oD cls dn num y ∨ Rch adj y m) : cls m ∈ l := by
  have hk := H.cl m hm
  refine (h.lm _).2 ⟨hk, oD_neg.1 h0, ?_⟩
  rw [h.lf _ hk]
  refine nd_all (fun j hj => ?_)
  obtain ⟨e, x, hx, hxc, y, hy, hyc⟩ := (H.rm _ hk j).1 hj
  have s := (H.sc x m hx hm).1 hxc
  have r1 : Rch adj m y := s.2.trans (.one hy)
  rcases hr y r1 with q | q
  · have := oD_pos.1 q; rw [hyc] at this; exact this
  · have hyN := H.hN x hx y hy
    have := (H.sc y m hyN hm).2 ⟨q, r1⟩
    exact absurd (hyc.symm.trans this) e
theorem KI.pop (H : KH adj N K cls lw r tn) (h : KI adj N K cls r n dn num left l) {x : Nat} (hx : x ∈ l) (hmin : ∀ y, y ∈ l → lw x ≤ lw y) : Pn adj N (n + 1) (oD cls (upd dn x true) (upd num x n)) ∧ n + 1 + nd (upd dn x true) (List.range K) = K := by
  obtain ⟨a, b, c⟩ := (h.lm x).1 hx
  obtain ⟨w1, w2⟩ := H.lw1 x a
  have h0 : oD cls dn num (lw x) < 0 := oD_neg.2 (by rw [w2]; exact b)
  refine ⟨h.pn.step H.hN w1 h0 (h.ready H a c) (fun m hm m0 mr => Nat.le_trans (hmin _ (h.heap H hm m0 mr)) (H.lw2 m hm)) (fun z hz => ?_), ?_⟩
  · have hs : Sc adj (lw x) z ↔ cls z = x := by
      rw [← H.sc (lw x) z w1 hz, w2]; exact ⟨Eq.symm, Eq.symm⟩
    by_cases e : cls z = x
    · rw [if_pos (hs.2 e)]
      unfold oD
      rw [e, upd_same, upd_same, if_pos rfl]
    · rw [if_neg (fun q => e (hs.1 q))]
      unfold oD
      rw [upd_other _ _ e, upd_other _ _ e]
  · have := nd_in (dn := dn) b (List.nodup_range (n := K)) (List.mem_range.2 a)
    have := h.ct
    omega
structure KJ (t : List Nat) (left0 : Nat → Nat) (l0 : List Nat) (j : Nat) (left : Nat → Nat) (l : List Nat) : Prop where
  lf : ∀ k, left k = left0 k - (if k ∈ t.take j then 1 else 0)
  lm : ∀ k, k ∈ l ↔ k ∈ l0 ∨ (k ∈ t.take j ∧ left k = 0)
  ln : l.Nodup
theorem KJ.start (t : List Nat) (left0 : Nat → Nat) (hn : l0.Nodup) : KJ t left0 l0 0 left0 l0 := ⟨fun k => by simp, fun k => by simp, hn⟩
theorem nodup_new {t : List Nat} (h : t.Nodup) {j : Nat} (hj : j < t.length) : t[j] ∉ t.take j := by
  intro q
  have h2 : (t.take j ++ t.drop j).Nodup := by rw [List.take_append_drop]; exact h
  rw [List.nodup_append] at h2
  exact h2.2.2 _ q _ (by rw [List.drop_eq_getElem_cons hj]; exact List.mem_cons_self) rfl
theorem KJ.val {t : List Nat} {j : Nat} (h : KJ t left0 l0 j left l) (ht : t.Nodup) (hj : j < t.length) : left t[j] = left0 t[j] := by
  rw [h.lf, if_neg (nodup_new ht hj)]; rfl
theorem KJ.new {t : List Nat} {j : Nat} (h : KJ t left0 l0 j left l) (ht : t.Nodup) (hj : j < t.length) (h0 : t[j] ∉ l0) : t[j] ∉ l := fun q => by
  rcases (h.lm _).1 q with q | q
  · exact h0 q
  · exact nodup_new ht hj q.1
theorem KJ.step {t : List Nat} {j : Nat} (h : KJ t left0 l0 j left l) (ht : t.Nodup) (hj : j < t.length) (h0 : t[j] ∉ l0) {l1 : List Nat} (hl : if left t[j] - 1 = 0 then l1.Perm (l ++ [t[j]]) else l1 = l) : KJ t left0 l0 (j + 1) (upd left t[j] (left t[j] - 1)) l1 := by
  have hnew := nodup_new ht hj
  have hv := h.val ht hj
  have hmem : ∀ k, k ∈ t.take (j + 1) ↔ k ∈ t.take j ∨ k = t[j] := fun k => by
    rw [List.take_succ_eq_append_getElem hj, List.mem_append, List.mem_singleton]
  have hlf : ∀ k, upd left t[j] (left t[j] - 1) k = left0 k - (if k ∈ t.take (j + 1) then 1 else 0) := fun k => by
    by_cases e : k = t[j]
    · subst e
      rw [upd_same, hv, if_pos ((hmem _).2 (.inr rfl))]
    · rw [upd_other _ _ e, h.lf k]
      by_cases q : k ∈ t.take j
      · rw [if_pos q, if_pos ((hmem k).2 (.inl q))]
      · rw [if_neg q, if_neg (fun w => ((hmem k).1 w).elim q e)]
  have hnl := h.new ht hj h0
  refine ⟨hlf, fun k => ?_, ?_⟩
  · rw [hmem k]
    by_cases e : k = t[j]
    · subst e
      rw [upd_same]
      split at hl
      · next hz => exact ⟨fun _ => .inr ⟨.inr rfl, hz⟩, fun _ => hl.mem_iff.2 (List.mem_append.2 (.inr (List.mem_singleton.2 rfl)))⟩
      · next hz =>
        subst hl
        exact ⟨fun q => absurd q hnl, fun q => q.elim (fun q => absurd q h0) (fun q => absurd q.2 hz)⟩
    · rw [upd_other _ _ e]
      have : k ∈ l1 ↔ k ∈ l := by
        split at hl
        · rw [hl.mem_iff, List.mem_append, List.mem_singleton]; exact ⟨fun q => q.resolve_right e, .inl⟩
        · rw [hl]
      rw [this, h.lm k]
      exact ⟨fun q => q.imp id (fun q => ⟨.inl q.1, q.2⟩), fun q => q.imp id (fun q => ⟨q.1.resolve_right e, q.2⟩)⟩
  · split at hl
    · refine hl.nodup_iff.2 (List.nodup_append.2 ⟨h.ln, by simp, fun a ha b hb => ?_⟩)
      rw [List.mem_singleton.1 hb]
      exact fun e => hnl (e ▸ ha)
    · rw [hl]; exact h.ln
theorem KI.told (H : KH adj N K cls lw r tn) (h : KI adj N K cls r n dn num left l) {x : Nat} (hx : x ∈ l) {k : Nat} (hk : k ∈ tn x) : k < K ∧ dn k = false ∧ 1 ≤ left k ∧ k ≠ x ∧ k ∉ l := by
  obtain ⟨a, b, c⟩ := (h.lm x).1 hx
  obtain ⟨q1, q2⟩ := (H.tm x a k).1 hk
  obtain ⟨e, z, hz, hzc, y, hy, hyc⟩ := (H.rm k q1 x).1 q2
  have hl : 1 ≤ left k := by
    rw [h.lf k q1]
    rcases Nat.eq_zero_or_pos (nd dn (r k)) with q | q
    · have := nd_zero q x q2; rw [b] at this; cases this
    · exact q
  refine ⟨q1, ?_, hl, Ne.symm e, fun w => by have := ((h.lm k).1 w).2.2; omega⟩
  cases q : dn k with
  | false => rfl
  | true =>
    have hp : 0 ≤ oD cls dn num z := oD_pos.2 (by rw [hzc]; exact q)
    have := h.pn.shut H.hN hz hp (.one hy)
    have := oD_pos.1 this
    rw [hyc, b] at this; cases this
theorem KI.next (H : KH adj N K cls lw r tn) (h : KI adj N K cls r n dn num left l) {x : Nat} {l' : List Nat} (hp : (x :: l').Perm l) (hmin : ∀ y, y ∈ l → lw x ≤ lw y) {left1 : Nat → Nat} {l1 : List Nat} (hJ : KJ (tn x) left l' (tn x).length left1 l1) :
    KI adj N K cls r (n + 1) (upd dn x true) (upd num x n) left1 l1 := by
  have hx : x ∈ l := hp.mem_iff.1 List.mem_cons_self
  obtain ⟨a, b, c⟩ := (h.lm x).1 hx
  have hnd : (x :: l').Nodup := hp.nodup_iff.2 h.ln
  obtain ⟨d1, d2⟩ := List.nodup_cons.1 hnd
  obtain ⟨p1, p2⟩ := h.pop H hx hmin
  have ml : ∀ k, k ∈ l' ↔ k ∈ l ∧ k ≠ x := fun k => by
    rw [← hp.mem_iff, List.mem_cons]
    exact ⟨fun q => ⟨.inr q, fun e => d1 (e ▸ q)⟩, fun q => q.1.resolve_left q.2⟩
  have lf : ∀ k, k < K → left1 k = nd (upd dn x true) (r k) := fun k hk => by
    rw [hJ.lf k, List.take_length, h.lf k hk]
    by_cases q : x ∈ r k
    · rw [if_pos ((H.tm x a k).2 ⟨hk, q⟩)]
      have := nd_in (dn := dn) b (H.rn k hk) q
      omega
    · rw [if_neg (fun w => q ((H.tm x a k).1 w).2), nd_far q]; rfl
  refine ⟨p1, lf, fun k => ?_, hJ.ln, p2⟩
  rw [hJ.lm k, List.take_length, ml k]
  constructor
  · rintro (⟨q, e⟩ | ⟨q, z⟩)
    · obtain ⟨q1, q2, q3⟩ := (h.lm k).1 q
      refine ⟨q1, by rw [upd_other _ _ e]; exact q2, ?_⟩
      rw [hJ.lf k, q3]; exact Nat.zero_sub _
    · obtain ⟨q1, q2, q3, q4, _⟩ := h.told H hx q
      exact ⟨q1, by rw [upd_other _ _ q4]; exact q2, z⟩
  · rintro ⟨q1, q2, q3⟩
    have e : k ≠ x := fun e => by rw [e, upd_same] at q2; cases q2
    rw [upd_other _ _ e] at q2
    by_cases w : k ∈ tn x
    · exact .inr ⟨w, q3⟩
    · left
      refine ⟨(h.lm k).2 ⟨q1, q2, ?_⟩, e⟩
      rw [hJ.lf k, List.take_length, if_neg w] at q3
      exact q3
theorem KI.done (H : KH adj N K cls lw r tn) (h : KI adj N K cls r n dn num left []) : Nmb adj N n (fun x => num (cls x)) := by
  have ha : ∀ x, x < N → 0 ≤ oD cls dn num x := fun x hx => by
    apply Classical.byContradiction
    intro q
    obtain ⟨m, a, b, c⟩ := h.pn.some H.hN hx (by omega)
    cases h.heap H a b c
  refine h.pn.done ha (fun x hx => ?_) H.hN
  have := oD_pos.1 (ha x hx)
  unfold oD
  rw [if_pos this]
theorem KI.len (h : KI adj N K cls r n dn num left l) : n ≤ K := by have := h.ct; omega
theorem KI.num_lt (h : KI adj N K cls r n dn num left l) : ∀ x, x ∈ l → x < K := fun x hx => ((h.lm x).1 hx).1
theorem nodup_le {l : List Nat} {K : Nat} (hn : l.Nodup) (h : ∀ x, x ∈ l → x < K) : l.length ≤ K := by
  induction K generalizing l with
  | zero =>
    cases l with
    | nil => exact Nat.le_refl _
    | cons a t => exact absurd (h a List.mem_cons_self) (Nat.not_lt_zero _)
  | succ K ih =>
    have h1 := ih (l := l.filter (fun x => decide (x ≠ K))) (hn.filter _) (fun x hx => by
      obtain ⟨q1, q2⟩ := List.mem_filter.1 hx
      have := h x q1
      have := of_decide_eq_true q2
      omega)
    have h2 : l.length ≤ (l.filter (fun x => decide (x ≠ K))).length + 1 := by
      clear h ih h1
      induction l with
      | nil => simp
      | cons a t iht =>
        obtain ⟨d1, d2⟩ := List.nodup_cons.1 hn
        rw [List.filter_cons]
        by_cases e : a = K
        · subst e
          have hf : t.filter (fun x => decide (x ≠ a)) = t := List.filter_eq_self.2 (fun x hx => decide_eq_true (fun (e2 : x = a) => d1 (e2 ▸ hx)))
          rw [if_neg (by simp), hf]
          simp
        · rw [if_pos (decide_eq_true e), List.length_cons, List.length_cons]
          have := iht d2
          omega
    omega
end
end Go.Proofs.Ytejhejpkfjhmkaa.Tarj

/-
  DERIVED: THE SHELF's CONTRACTS AT THIS DUMP, IN PLAIN WORDS (tools/lay-plain.mjs out of 'TryShelf.lean', which tools/lay-shelf.mjs wrote): THE SAME DECLARATIONS UNDER THE SAME NAMES: 'import', 'namespace', 'open', 'def', 'theorem' AND NOTHING ELSE: no command of the shelf's: FOR A HAND-IN. Each laying: the table of numbers ('.._ren') and one theorem, a field a fact of the dump's own or the kernel's comparison; each contract: ONE APPLICATION.
-/
namespace Go.Proofs
open Go.Shelf
def Try.lays189_ren : Go.Shelf.Ren := ⟨fun | 189 => 32 | 125 => 39 | 257 => 38 | 128 => 49 | 129 => 50 | 294 => 40 | 295 => 41 | 296 => 42 | 297 => 43 | 298 => 44 | 299 => 45 | 216 => 46 | 300 => 47 | 301 => 48 | 328 => 51 | 329 => 52 | 330 => 53 | 331 => 54 | 332 => 55 | 215 => 56 | 343 => 57 | n => n, fun | 28 => 26 | 3 => 3 | 46 => 60 | 0 => 0 | 51 => 71 | 53 => 73 | 4 => 4 | 183 => 64 | 182 => 63 | 131 => 68 | 5 => 5 | 9 => 9 | 218 => 74 | 222 => 78 | 228 => 80 | 229 => 81 | n => n, fun | n => n⟩
theorem Try.lays189 : Go.Proofs.Lays.n189 Try.prog Try.lays189_ren := {
  mixed := by kernel_rfl
  f125 := Try.func39.trans (congrArg some (by kernel_rfl))
  f128 := Try.func49.trans (congrArg some (by kernel_rfl))
  f129 := Try.func50.trans (congrArg some (by kernel_rfl))
  f189 := Try.func32.trans (congrArg some (by kernel_rfl))
  f215 := Try.func56.trans (congrArg some (by kernel_rfl))
  f216 := Try.func46.trans (congrArg some (by kernel_rfl))
  f257 := Try.func38.trans (congrArg some (by kernel_rfl))
  f294 := Try.func40.trans (congrArg some (by kernel_rfl))
  f295 := Try.func41.trans (congrArg some (by kernel_rfl))
  f296 := Try.func42.trans (congrArg some (by kernel_rfl))
  f297 := Try.func43.trans (congrArg some (by kernel_rfl))
  f298 := Try.func44.trans (congrArg some (by kernel_rfl))
  f299 := Try.func45.trans (congrArg some (by kernel_rfl))
  f300 := Try.func47.trans (congrArg some (by kernel_rfl))
  f301 := Try.func48.trans (congrArg some (by kernel_rfl))
  f328 := Try.func51.trans (congrArg some (by kernel_rfl))
  f329 := Try.func52.trans (congrArg some (by kernel_rfl))
  f330 := Try.func53.trans (congrArg some (by kernel_rfl))
  f331 := Try.func54.trans (congrArg some (by kernel_rfl))
  f332 := Try.func55.trans (congrArg some (by kernel_rfl))
  f343 := Try.func57.trans (congrArg some (by kernel_rfl))
  t0 := Try.underlying0
  a0 := Try.isAgg0
  z0 := Try.sizeOf0
  v0 := Try.zeroValue0
  t3 := Try.underlying3
  a3 := Try.isAgg3
  z3 := Try.sizeOf3
  v3 := Try.zeroValue3
  t4 := Try.underlying4
  a4 := Try.isAgg4
  z4 := Try.sizeOf4
  v4 := Try.zeroValue4
  t5 := Try.underlying5
  a5 := Try.isAgg5
  z5 := Try.sizeOf5
  v5 := Try.zeroValue5
  t9 := Try.underlying9
  a9 := Try.isAgg9
  z9 := Try.sizeOf9
  v9 := Try.zeroValue9
  t28 := Try.underlying26
  a28 := Try.isAgg26
  z28 := Try.sizeOf26
  v28 := Try.zeroValue26
  t46 := Try.underlying60
  a46 := Try.isAgg60
  z46 := Try.sizeOf60
  v46 := Try.zeroValue60
  t51 := Try.underlying71
  a51 := Try.isAgg71
  z51 := Try.sizeOf71
  v51 := Try.zeroValue71
  t53 := Try.underlying73
  a53 := Try.isAgg73
  z53 := Try.sizeOf73
  v53 := Try.zeroValue73
  t131 := Try.underlying68
  a131 := Try.isAgg68
  z131 := Try.sizeOf68
  v131 := Try.zeroValue68
  t182 := Try.underlying63
  a182 := Try.isAgg63
  z182 := Try.sizeOf63
  v182 := Try.zeroValue63
  t183 := Try.underlying64
  a183 := Try.isAgg64
  z183 := Try.sizeOf64
  v183 := Try.zeroValue64
  t218 := Try.underlying74
  a218 := Try.isAgg74
  z218 := Try.sizeOf74
  v218 := Try.zeroValue74
  t222 := Try.underlying78
  a222 := Try.isAgg78
  z222 := Try.sizeOf78
  v222 := Try.zeroValue78
  t228 := Try.underlying80
  a228 := Try.isAgg80
  z228 := Try.sizeOf80
  v228 := Try.zeroValue80
  t229 := Try.underlying81
  a229 := Try.isAgg81
  z229 := Try.sizeOf81
  v229 := Try.zeroValue81 }
open Go.Sort Go.RowKit in
theorem Try.slices_Sort_int (blk off cap : Nat) (zs : List Int) (w : World) (hH : Holds (Value.int .i64) w blk off zs.toArray) (hblk : blk < w.heap.size) (hsz : zs.length < 4611686018427387904) :
    Calls Try.prog 32 #[.slice (some ⟨blk, off, none⟩) zs.length cap] w fun e w' =>
      e = .returned (.tuple #[]) ∧ ∃ n os, w' = grow (putRow (Value.int .i64) (Sort.ahead w n) blk off (zs.mergeSort fun x y => decide (x ≤ y)).toArray) os := Any.slices_Sort_int Try.lays189 blk off cap zs w hH hblk hsz
def Try.lays108_ren : Go.Shelf.Ren := ⟨fun | 108 => 36 | n => n, fun | 28 => 26 | 3 => 3 | 0 => 0 | 4 => 4 | n => n, fun | n => n⟩
theorem Try.lays108 : Go.Proofs.Lays.n108 Try.prog Try.lays108_ren := {
  mixed := by kernel_rfl
  f108 := Try.func36.trans (congrArg some (by kernel_rfl))
  t0 := Try.underlying0
  a0 := Try.isAgg0
  z0 := Try.sizeOf0
  v0 := Try.zeroValue0
  t3 := Try.underlying3
  a3 := Try.isAgg3
  z3 := Try.sizeOf3
  v3 := Try.zeroValue3
  t4 := Try.underlying4
  a4 := Try.isAgg4
  z4 := Try.sizeOf4
  v4 := Try.zeroValue4
  t28 := Try.underlying26
  a28 := Try.isAgg26
  z28 := Try.sizeOf26
  v28 := Try.zeroValue26 }
open Go.Lib in
theorem Try.slices_Index_int (b off n c : Nat) (zs : List Int) (x : Int) (w : World) (hz : n ≤ zs.length) (hbig : n ≤ 9223372036854775807) (hc : ∀ j, j < zs.length → w.cell? ⟨b, off + j, none⟩ = some (.int .i64 (zs.getD j 0))) :
    Calls Try.prog 36 #[.slice (some ⟨b, off, none⟩) n c, .int .i64 x] w fun e w' => e = .returned (.int .i64 (Lib.idxOf (zs.take n) x)) ∧ w' = w := Any.slices_Index_int Try.lays108 b off n c zs x w hz hbig hc
def Try.laysNm215_ren : Go.Shelf.Ren := ⟨fun | 15 => 37 | n => n, fun | 22 => 26 | 3 => 3 | 4 => 4 | n => n, fun | n => n⟩
theorem Try.laysNm215 : Go.Proofs.Lays2.n15 Try.prog Try.laysNm215_ren := {
  mixed := by kernel_rfl
  f15 := Try.func37.trans (congrArg some (by kernel_rfl))
  t3 := Try.underlying3
  a3 := Try.isAgg3
  z3 := Try.sizeOf3
  v3 := Try.zeroValue3
  t4 := Try.underlying4
  a4 := Try.isAgg4
  z4 := Try.sizeOf4
  v4 := Try.zeroValue4
  t22 := Try.underlying26
  a22 := Try.isAgg26
  z22 := Try.sizeOf26
  v22 := Try.zeroValue26
  i3 := by kernel_rfl }
open Go.RowKit Go.Lib in
theorem Try.slices_Clone_int (b off n c : Nat) (zs : List Int) (w : World) (hz : n ≤ zs.length) (hbig : n * 8 ≤ 140737488355328) (hc : ∀ j, j < zs.length → w.cell? ⟨b, off + j, none⟩ = some (.int .i64 (zs.getD j 0))) :
    Calls Try.prog 37 #[.slice (some ⟨b, off, none⟩) n c] w fun e w' => ∃ v', e = .returned v' ∧ w'.ownsRow w.heap.size 3 1 v' n ((zs.take n).map (Value.int .i64)) ∧ v' ≠ .slice none 0 0 ∧ Below w.heap.size w w' := Any.slices_Clone_int Try.laysNm215 b off n c zs w hz hbig hc
open Go.RowKit Go.Lib in
theorem Try.slices_Clone_int_nil (n c : Nat) (w : World) :
    Calls Try.prog 37 #[.slice none n c] w fun e w' => e = .returned (.slice none 0 0) ∧ w' = w := Any.slices_Clone_int_nil Try.laysNm215 n c w
open Go.RowKit Go.Lib in
theorem Try.slices_Clone_int_zero (a : Addr) (c : Nat) (w : World) :
    Calls Try.prog 37 #[.slice (some a) 0 c] w fun e w' => ∃ v', e = .returned v' ∧ w'.ownsRow w.heap.size 3 1 v' 0 [] ∧ v' ≠ .slice none 0 0 ∧ Below w.heap.size w w' := Any.slices_Clone_int_zero Try.laysNm215 a c w
def Try.laysNm220_ren : Go.Shelf.Ren := ⟨fun | 20 => 33 | n => n, fun | 22 => 26 | 3 => 3 | 4 => 4 | 0 => 0 | n => n, fun | n => n⟩
theorem Try.laysNm220 : Go.Proofs.Lays2.n20 Try.prog Try.laysNm220_ren := {
  mixed := by kernel_rfl
  f20 := Try.func33.trans (congrArg some (by kernel_rfl))
  t0 := Try.underlying0
  a0 := Try.isAgg0
  z0 := Try.sizeOf0
  v0 := Try.zeroValue0
  t3 := Try.underlying3
  a3 := Try.isAgg3
  z3 := Try.sizeOf3
  v3 := Try.zeroValue3
  t4 := Try.underlying4
  a4 := Try.isAgg4
  z4 := Try.sizeOf4
  v4 := Try.zeroValue4
  t22 := Try.underlying26
  a22 := Try.isAgg26
  z22 := Try.sizeOf26
  v22 := Try.zeroValue26
  i3 := by kernel_rfl }
open Go.RowKit Go.Lib Go.Sort in
theorem Try.slices_Compact_int (blk off cap : Nat) (zs : List Int) (w : World) (hH : Holds (Value.int .i64) w blk off zs.toArray) (hsz : zs.length ≤ 9223372036854775807) (hcap : zs.length ≤ cap) :
    Calls Try.prog 33 #[.slice (some ⟨blk, off, none⟩) zs.length cap] w fun e w' => e = .returned (.slice (some ⟨blk, off, none⟩) (Lib.compact zs).length cap) ∧ ∃ q, w' = putRow (Value.int .i64) (Sort.ahead w q) blk off (Lib.compact zs ++ List.replicate (zs.length - (Lib.compact zs).length) 0).toArray := Any.slices_Compact_int Try.laysNm220 blk off cap zs w hH hsz hcap
open Go.RowKit Go.Lib Go.Sort in
theorem Try.slices_Compact_int_empty (a : Option Addr) (cap : Nat) (w : World) :
    Calls Try.prog 33 #[.slice a 0 cap] w fun e w' => e = .returned (.slice a 0 cap) ∧ w' = w := Any.slices_Compact_int_empty Try.laysNm220 a cap w
open Go.RowKit Go.Sort in
theorem Try.slices_Sort_int_none (p : Option Addr) (cap : Nat) (w : World) :
    Calls Try.prog 32 #[.slice p 0 cap] w fun e w' => e = .returned (.tuple #[]) ∧ w' = w := Any.slices_Sort_int_none Try.lays189 p cap w
end Go.Proofs

namespace Go.Proofs.Ytejhejpkfjhmkaa.Man
open Go.Lib
section
variable {α : Type} [Inhabited α] [DecidableEq α]
theorem compact_mem (zs : List α) (x : α) : x ∈ compact zs ↔ x ∈ zs := by
  unfold compact compactUpTo
  simp only [List.mem_map, List.mem_filter, List.mem_range]
  constructor
  · rintro ⟨j, ⟨hj, _⟩, rfl⟩
    have : zs.toArray[j]! = zs[j] := by simp [hj]
    rw [this]; exact List.getElem_mem hj
  · intro hx
    obtain ⟨j, hj, rfl⟩ := List.getElem_of_mem hx
    have main : ∀ j, j < zs.length → ∃ a, (a < zs.length ∧ keeps zs.toArray a = true) ∧ zs.toArray[a]! = zs.toArray[j]! := by
      intro j
      induction j with
      | zero => intro h; exact ⟨0, ⟨h, by simp [keeps]⟩, rfl⟩
      | succ j ih =>
        intro h
        by_cases he : zs.toArray[j + 1]! = zs.toArray[j]!
        · obtain ⟨a, h1, h2⟩ := ih (by omega)
          exact ⟨a, h1, h2.trans he.symm⟩
        · exact ⟨j + 1, ⟨h, keeps_pos (by simpa using he)⟩, rfl⟩
    obtain ⟨a, h1, h2⟩ := main j hj
    exact ⟨a, h1, by rw [h2]; simp [hj]⟩
theorem compact_rises (zs : List α) (le : α → α → Prop) (ha : ∀ a b, le a b → le b a → a = b) (hs : ∀ i j (hi : i < zs.length) (hj : j < zs.length), i ≤ j → le zs[i] zs[j]) : (compact zs).Pairwise (fun a b => le a b ∧ a ≠ b) := by
  unfold compact compactUpTo
  rw [List.pairwise_map]
  have h0 : ((List.range zs.length).filter (keeps zs.toArray)).Pairwise (fun a b => a < b ∧ (a < zs.length ∧ b < zs.length) ∧ keeps zs.toArray b = true) := by
    have h1 : ((List.range zs.length).filter (keeps zs.toArray)).Pairwise (· < ·) := List.Pairwise.filter _ List.pairwise_lt_range
    refine List.Pairwise.imp_of_mem (fun {a b} h2 h3 h => ⟨h, ?_, ?_⟩) h1
    · exact ⟨List.mem_range.1 (List.mem_filter.1 h2).1, List.mem_range.1 (List.mem_filter.1 h3).1⟩
    · exact (List.mem_filter.1 h3).2
  refine List.Pairwise.imp (fun {a b} h => ?_) h0
  obtain ⟨h1, ⟨h2, h3⟩, h4⟩ := h
  have ea : zs.toArray[a]! = zs[a] := by simp [h2]
  have eb : zs.toArray[b]! = zs[b] := by simp [h3]
  rw [ea, eb]
  refine ⟨hs a b h2 h3 (by omega), fun e => ?_⟩
  simp only [keeps, decide_eq_true_eq] at h4
  rcases h4 with h4 | h4
  · omega
  · apply h4
    have hb1 : b - 1 < zs.length := by omega
    have ec : zs.toArray[b - 1]! = zs[b - 1] := by simp [hb1]
    rw [eb, ec]
    refine ha _ _ ?_ (hs (b - 1) b hb1 h3 (by omega))
    rw [← e]
    exact hs a (b - 1) h2 hb1 (by omega)
end
end Go.Proofs.Ytejhejpkfjhmkaa.Man

-- Written by wip/xprint.py (the kit's print, run over this seat with some contracts of my own). Not trusted: Lean checks it.
namespace Go.Proofs.Ytejhejpkfjhmkaa.Pr
open Go.RowKit Go.Proofs.YtejhejpkfjhmkaaW.PrintWords Go.Proofs.YtejhejpkfjhmkaaW.PrintLast Go.Proofs.YtejhejpkfjhmkaaW.PrintMore
attribute [local go_sem] max2_int min2_int max_two min_two max_three min_three max_four min_four   -- for this text's walks alone
set_option linter.unusedVariables false
set_option linter.unusedSimpArgs false
def errW : Option Int → Value
  | none => .nilIface
  | some c => .iface 0 (.int .i64 c)
theorem errW_none : errW none = .nilIface := rfl
theorem errW_some (c : Int) : errW (some c) = .iface 0 (.int .i64 c) := rfl
theorem info3 : (Try.prog.info? 3).map (fun i => (i.zero, i.size, i.bytes)) = some (some (.int .i64 0), 1, 8) := by kernel_rfl
theorem info26 : (Try.prog.info? 26).map (fun i => (i.zero, i.size, i.bytes)) = some (some (.slice none 0 0), 1, 24) := by kernel_rfl
-- the values' own types
def rd_L1 (xs : List (List Int)) (i : Int) : (List Int) := xs.getD i.toNat ([] : List Int)
theorem at_L1 {w : World} {A : Option Addr} {n : Nat} {xs : List (List Int)} (h : Kd.C (Kd.slice 3 (Kd.int .i64)) w A n xs) (i : Int) (h0 : 0 ≤ i) (h1 : i < n) : ∃ ad A0 c0, A = some ad ∧ w.cell? (ad.add i.toNat) = some (.slice A0 (rd_L1 xs i).length c0) ∧ (rd_L1 xs i).length ≤ c0 ∧ (Kd.int .i64).C w A0 (rd_L1 xs i).length (rd_L1 xs i) := by
  obtain ⟨ad, c, e, _, hK, hc0⟩ := Kd.C_get h ([] : List Int) i h0 h1
  have hc : ∀ j u, c[j]? = some u → w.cell? (ad.add (i.toNat * 1 + j)) = some u := hc0
  obtain ⟨A0, c0, rfl, l0, g0⟩ := hK
  exact ⟨ad, A0, c0, e, by have hq := hc 0 _ rfl; rwa [Nat.mul_one, Nat.add_zero] at hq, l0, g0⟩
end Go.Proofs.Ytejhejpkfjhmkaa.Pr

namespace Go.Proofs.Ytejhejpkfjhmkaa.Man
open Go.RowKit Go.Proofs.Ytejhejpkfjhmkaa.Pr Go.Proofs.YtejhejpkfjhmkaaW.PrintWords
set_option maxRecDepth 100000
set_option linter.unusedVariables false
set_option linter.unusedSimpArgs false
theorem mapM_get {α β : Type} (f : α → Option β) : ∀ (l : List α) (r : List β), l.mapM f = some r → r.length = l.length ∧ ∀ (i : Nat) a, l[i]? = some a → ∃ b, r[i]? = some b ∧ f a = some b := by
  intro l
  induction l with
  | nil => intro r h; simp at h; subst h; exact ⟨rfl, fun i a h => by simp at h⟩
  | cons x l ih =>
    intro r h
    simp only [List.mapM_cons, Option.bind_eq_bind, Option.bind_eq_some_iff, Option.pure_def, Option.some.injEq] at h
    obtain ⟨b, hb, r', hr', rfl⟩ := h
    obtain ⟨h1, h2⟩ := ih r' hr'
    refine ⟨by simp [h1], fun i a ha => ?_⟩
    cases i with
    | zero => simp at ha; subst ha; exact ⟨b, rfl, hb⟩
    | succ i => simpa using h2 i a (by simpa using ha)
theorem cells_get {w : World} {b n : Nat} {a : Addr} {c : List Value} (h : w.cells? b a n = some c) : c.length = n ∧ ∀ (i : Nat) u, c[i]? = some u → w.cell? (a.add i) = some u := by
  unfold World.cells? at h
  split at h
  · obtain ⟨h1, h2⟩ := mapM_get _ _ _ h
    rw [List.length_range] at h1
    refine ⟨h1, fun i u hu => ?_⟩
    have hi : i < n := by rw [← h1]; exact (List.getElem?_eq_some_iff.1 hu).1
    obtain ⟨b, hb, hf⟩ := h2 i i (by simp [hi])
    rw [hu] at hb; cases hb; exact hf
  · cases h
theorem addr_add (a : Addr) (i j : Nat) : a.add (i + j) = (a.add i).add j := by
  unfold Addr.add
  by_cases h1 : i = 0
  · subst h1; simp
  · by_cases h2 : j = 0
    · subst h2; simp [h1]
    · simp [h1, h2, Nat.add_assoc]
theorem bridge_slice {H : Type} {enc : TypeId × Value → H} {w : World} {α : Type} {t e : TypeId} (hu : Try.prog.underlying t = some (.slice e)) (d : Kd α) (z : α) (hsz : Try.prog.cellsOf e = d.sz) (Q : α → Nat → Prop) (fuel : Nat) {held : Bool} {sp : Nat → Bool}
    (hE : ∀ cs (D : DataW H) ps, DataW.trod enc Try.prog w 0 sp held fuel e cs = some (D, ps) → ∃ x, d.K w x cs ∧ Q x (Rows.uptoBulk D)) (cs : List Value) (D : DataW H) (ps : List MemPlace)
    (h : DataW.trod enc Try.prog w 0 sp held (fuel + 1) t cs = some (D, ps)) :
    ∃ (A : Option Addr) (c : Nat) (xs : List α) (Ds : List (DataW H)), cs = [.slice A xs.length c] ∧ xs.length ≤ c ∧ d.C w A xs.length xs ∧ Rows.uptoBulkAll Ds + 1 ≤ Rows.uptoBulk D ∧ xs.length = Ds.length ∧ ∀ (i : Nat) x D', xs[i]? = some x → Ds[i]? = some D' → Q x (Rows.uptoBulk D') := by
  unfold DataW.trod at h
  rw [hu] at h
  split at h <;> rename_i he
  all_goals first | (cases he; done) | skip
  · -- nil
    cases h
    exact ⟨none, 0, [], [], rfl, Nat.le_refl _, Kd.C_nil _ _, by simp [Rows.uptoBulkAll, Rows.uptoBulk], rfl, fun i x D' hx => by simp at hx⟩
  · rename_i e2 a len cap
    cases he
    dsimp only at h
    split at h
    · rename_i hc
      simp only [Option.bind_eq_some_iff, Option.map_eq_some_iff] at h
      obtain ⟨els, hels, rest, _, hD⟩ := h
      simp only [Prod.mk.injEq] at hD
      obtain ⟨rfl, _⟩ := hD
      obtain ⟨hl, hg⟩ := mapM_get _ _ _ hels
      rw [List.length_range] at hl
      have hx : ∀ i, i < len → ∃ cs, cs.length = d.sz ∧ (∀ (j : Nat) u, cs[j]? = some u → w.cell? ((a.add (i * d.sz)).add j) = some u) ∧ ∃ x, d.K w x cs ∧ ∀ q, els[i]? = some q → Q x (Rows.uptoBulk q.1) := by
        intro i hi
        obtain ⟨q, hq, hf⟩ := hg i i (by simp [hi])
        simp only [Option.bind_eq_some_iff] at hf
        obtain ⟨cs, hcs, ht⟩ := hf
        obtain ⟨h1, h2⟩ := cells_get hcs
        obtain ⟨x, hK, hQ⟩ := hE cs q.1 q.2 ht
        rw [hsz] at h1 h2
        exact ⟨cs, h1, h2, x, hK, fun q' hq' => by rw [hq] at hq'; cases hq'; exact hQ⟩
      have hch : ∃ f : Nat → α, ∀ i, i < len → ∃ cs, cs.length = d.sz ∧ (∀ (j : Nat) u, cs[j]? = some u → w.cell? ((a.add (i * d.sz)).add j) = some u) ∧ d.K w (f i) cs ∧ ∀ q, els[i]? = some q → Q (f i) (Rows.uptoBulk q.1) := by
        refine ⟨fun i => if hi : i < len then Classical.choose (Classical.choose_spec (hx i hi)).2.2 else z, fun i hi => ?_⟩
        have hs := Classical.choose_spec (hx i hi)
        refine ⟨Classical.choose (hx i hi), hs.1, hs.2.1, ?_⟩
        simp only [dif_pos hi]
        exact Classical.choose_spec hs.2.2
      obtain ⟨f, hf⟩ := hch
      refine ⟨some a, cap, (List.range len).map f, els.map (·.1), by simp, by simp; exact hc.2.1, ⟨rfl, ?_, fun _ => ⟨a, rfl, fun j p hj => ?_⟩⟩, ?_, by simp [hl], fun i x D' hi hD' => ?_⟩
      · have := hc.2.2; simp [maxLen] at this ⊢; omega
      · simp only [List.getElem?_map, Option.map_eq_some_iff] at hj
        obtain ⟨j', hj', rfl⟩ := hj
        obtain ⟨h1, h2⟩ := List.getElem?_eq_some_iff.1 hj'
        simp at h1 h2; subst h2
        obtain ⟨cs, c1, c2, c3, _⟩ := hf j h1
        refine ⟨cs, c1, c3, fun i u hu => ?_⟩
        rw [← c2 i u hu]
        congr 1
        exact addr_add a _ _
      · simp only [Rows.uptoBulk]; omega
      · simp only [List.getElem?_map, Option.map_eq_some_iff] at hi hD'
        obtain ⟨i', hi', rfl⟩ := hi
        obtain ⟨q, hq, rfl⟩ := hD'
        obtain ⟨h1, h2⟩ := List.getElem?_eq_some_iff.1 hi'
        simp at h1 h2; subst h2
        obtain ⟨cs, c1, c2, c3, c4⟩ := hf i h1
        exact c4 q hq
    · cases h
  all_goals first | (cases h; done) | skip
theorem bridge_int {H : Type} {enc : TypeId × Value → H} {w : World} {t : TypeId} {k : IntKind} (hu : Try.prog.underlying t = some (.int k)) {held : Bool} {sp : Nat → Bool} (fuel : Nat) (cs : List Value) (D : DataW H) (ps : List MemPlace)
    (h : DataW.trod enc Try.prog w 0 sp held fuel t cs = some (D, ps)) : ∃ n, cs = [.int k n] := by
  cases fuel with
  | zero => cases h
  | succ fuel =>
  unfold DataW.trod at h
  rw [hu] at h
  split at h <;> rename_i he
  all_goals first | (cases he; done) | skip
  · rename_i k2 k3 n
    cases he
    split at h
    · rename_i hk; exact ⟨n, by rw [hk.1]⟩
    · cases h
  all_goals first | (cases h; done) | skip
theorem cellsT_int1 : Try.prog.cellsOf 3 = 1 := by kernel_rfl
theorem bridge_int1 {H : Type} {enc : TypeId × Value → H} {w : World} {held : Bool} {sp : Nat → Bool} (fuel : Nat) (cs : List Value) (D : DataW H) (ps : List MemPlace)
    (h : DataW.trod enc Try.prog w 0 sp held fuel 3 cs = some (D, ps)) : ∃ n, (Kd.int .i64).K w n cs ∧ True := by
  obtain ⟨n, rfl⟩ := bridge_int Try.underlying3 _ _ _ _ h
  exact ⟨n, rfl, trivial⟩
theorem cellsT_ints1 : Try.prog.cellsOf 26 = 1 := by kernel_rfl
theorem bridge_ints {H : Type} {enc : TypeId × Value → H} {w : World} {held : Bool} {sp : Nat → Bool} (fuel : Nat) (cs : List Value) (D : DataW H) (ps : List MemPlace)
    (h : DataW.trod enc Try.prog w 0 sp held fuel 26 cs = some (D, ps)) : ∃ l, (Kd.slice 3 (Kd.int .i64)).K w l cs ∧ True := by
  cases fuel with
  | zero => cases h
  | succ fuel =>
  obtain ⟨A, c, l, Ds, e, m, q, _⟩ := bridge_slice Try.underlying26 (Kd.int .i64) (0 : Int) cellsT_int1 (fun _ _ => True) fuel (fun cs D ps h => bridge_int1 fuel cs D ps h) _ _ _ h
  exact ⟨l, ⟨A, c, e, m, q⟩, trivial⟩
theorem bridge_graph {H : Type} {enc : TypeId × Value → H} {w : World} {held : Bool} {sp : Nat → Bool} (fuel : Nat) (cs : List Value) (D : DataW H) (ps : List MemPlace)
    (h : DataW.trod enc Try.prog w 0 sp held fuel 22 cs = some (D, ps)) : ∃ A c l, cs = [.slice A l.length c] ∧ l.length ≤ c ∧ Kd.C (Kd.slice 3 (Kd.int .i64)) w A l.length l := by
  cases fuel with
  | zero => cases h
  | succ fuel =>
  obtain ⟨A, c, l, Ds, e, m, q, _⟩ := bridge_slice Try.underlying22 (Kd.slice 3 (Kd.int .i64)) ([] : List Int) cellsT_ints1 (fun _ _ => True) fuel (fun cs D ps h => bridge_ints fuel cs D ps h) _ _ _ h
  exact ⟨A, c, l, e, m, q⟩
end Go.Proofs.Ytejhejpkfjhmkaa.Man

namespace Go.Proofs.Ytejhejpkfjhmkaa.Man
open Go.RowKit Go.Proofs.Ytejhejpkfjhmkaa.Pr Go.Proofs.YtejhejpkfjhmkaaW.PrintWords
set_option linter.unusedVariables false
set_option linter.unusedSimpArgs false
def Ev {α : Type} (f : Nat → Option α) (r : α) : Prop := ∃ k, ∀ k', k ≤ k' → f k' = some r
theorem Ev.const {α : Type} (r : α) : Ev (fun _ => some r) r := ⟨0, fun _ _ => rfl⟩
theorem Ev.bind {α β : Type} {f : Nat → Option α} {g : Nat → α → Option β} {a : α} {b : β} (h : Ev f a) (h2 : Ev (fun k => g k a) b) : Ev (fun k => (f k).bind (g k)) b := by
  obtain ⟨k1, e1⟩ := h
  obtain ⟨k2, e2⟩ := h2
  exact ⟨max k1 k2, fun k' hk => by show (f k').bind (g k') = some b; rw [e1 k' (by omega)]; exact e2 k' (by omega)⟩
theorem Ev.succ {α : Type} {f g : Nat → Option α} {r : α} (h : Ev g r) (hs : ∀ k, f (k + 1) = g k) : Ev f r := by
  obtain ⟨k, e⟩ := h
  exact ⟨k + 1, fun k' hk => by obtain ⟨j, rfl⟩ : ∃ j, k' = j + 1 := ⟨k' - 1, by omega⟩; rw [hs]; exact e j (by omega)⟩
theorem Ev.step {α : Type} {f : Nat → Option α} {r : α} (h : Ev (fun k => f (k + 1)) r) : Ev f r := h.succ (fun _ => rfl)
theorem pz (n : Nat) (h : n ≤ 1050000) : wrap64 ((n : Int) + 1) = ((n + 1 : Nat) : Int) := by simp only [wrap64]; omega
end Go.Proofs.Ytejhejpkfjhmkaa.Man

namespace Go.Proofs.Ytejhejpkfjhmkaa.Man
open Go.RowKit Go.Shelf Go.Proofs.Ytejhejpkfjhmkaa.Pr Go.Proofs.YtejhejpkfjhmkaaW.PrintWords
attribute [local go_sem] Oper.semAt_some
set_option linter.unusedVariables false
set_option linter.unusedSimpArgs false
def leftOf (listed : Array Bool) : Nat := (listed.toList.filter (fun b => !b)).length
theorem left_set (l : List Bool) (i : Nat) (h : l[i]? = some false) : ((l.set i true).filter (fun b => !b)).length + 1 = (l.filter (fun b => !b)).length := by
  induction l generalizing i with
  | nil => simp at h
  | cons b r ih =>
    cases i with
    | zero => obtain rfl : b = false := by simpa using h
              simp
    | succ i =>
      have := ih i (by simpa using h)
      cases b <;> simp <;> omega
theorem ready_mem {md : Region.Mode} {ops : Array Oper} {listed : Array Bool} {i : Nat} (h : i ∈ Region.ready md ops listed) : listed.toList[i]? = some false := by
  unfold Region.ready at h
  have := (List.mem_filter.1 h).2
  simp only [Bool.and_eq_true, Bool.not_eq_true'] at this
  have h1 := this.1
  rw [Array.getD_eq_getD_getElem?] at h1
  rw [Array.getElem?_toList]
  cases hh : listed[i]? with
  | none => rw [hh] at h1; simp at h1
  | some b => rw [hh] at h1; simp at h1; rw [h1]
theorem wpAnyIn_inv {F : Fence} {n : Nat} {P : Program} {md : Region.Mode} {ops : Array Oper} {Q : Exit → Act → World → Prop} (I : Array Bool → Act → World → Prop)
    (hstep : ∀ listed a w i, I listed a w → i ∈ Region.ready md ops listed → wpOpIn F n P ops Q i (fun a w => I (listed.setIfInBounds i true) a w) a w)
    (hend : ∀ listed a w, I listed a w → Region.ready md ops listed = [] → Q .normal a w) :
    ∀ fuel listed a w, leftOf listed ≤ fuel → I listed a w → wpAnyIn F n P md ops Q fuel listed a w := by
  intro fuel
  induction fuel with
  | zero =>
    intro listed a w hf hi
    have hr : Region.ready md ops listed = [] := by
      cases hh : Region.ready md ops listed with
      | nil => rfl
      | cons i r =>
        have h1 := ready_mem (md := md) (ops := ops) (listed := listed) (i := i) (by rw [hh]; simp)
        have := left_set _ _ h1
        unfold leftOf at hf; omega
    exact ⟨hr, hend _ _ _ hi hr⟩
  | succ fuel ih =>
    intro listed a w hf hi
    refine ⟨fun hr => hend _ _ _ hi hr, fun i hi' => wpOpIn_mono (fun a' w' h => ih _ a' w' ?_ h) (hstep _ _ _ i hi hi')⟩
    have h1 := ready_mem hi'
    have := left_set _ _ h1
    unfold leftOf at hf ⊢
    simp only [Array.toList_setIfInBounds]
    omega
theorem wpOpIn_value {F : Fence} {n : Nat} {P : Program} {ops : Array Oper} {Q : Exit → Act → World → Prop} {i : Nat} {K : Act → World → Prop} {a : Act} {w w' : World} {o : Oper} {r : Value}
    (ho : ops[i]? = some o) (hg : o.guard = none) (hd : ∀ c, o.op ≠ .defer c) (hab : o.about P w a.eval = none)
    (hrun : (execOp a.eval o).run P w = .ok (.value r) w') (hK : K (a.put o.dst r) w') : wpOpIn F n P ops Q i K a w := by
  unfold wpOpIn
  simp only [ho, Region.wanted, hg, if_true]
  refine ⟨fun f h => (by rw [hab] at h; cases h), ?_⟩
  rw [Oper.semAt_eq _ _ _ hd, hrun]
  exact hK
theorem wpOpIn_skip {F : Fence} {n : Nat} {P : Program} {ops : Array Oper} {Q : Exit → Act → World → Prop} {i : Nat} {K : Act → World → Prop} {a : Act} {w w' : World} {o : Oper}
    (ho : ops[i]? = some o) (hg : o.guard = none) (hd : ∀ c, o.op ≠ .defer c) (hab : o.about P w a.eval = none)
    (hrun : (execOp a.eval o).run P w = .ok .skip w') (hK : K (a.put o.dst undef) w') : wpOpIn F n P ops Q i K a w := by
  unfold wpOpIn
  simp only [ho, Region.wanted, hg, if_true]
  refine ⟨fun f h => (by rw [hab] at h; cases h), ?_⟩
  rw [Oper.semAt_eq _ _ _ hd, hrun]
  exact hK
def dstOf (ops : Array Oper) (j : Nat) : Option Tmp := (ops[j]?).bind (·.dst)
def flowOk (ops : Array Oper) (n : Nat) : Bool :=
  (List.range ops.size).all fun i => (match dstOf ops i with | none => true | some d => decide (d < n)) &&
    (List.range ops.size).all fun j => i == j || (dstOf ops i).isNone || !((dstOf ops i) == (dstOf ops j))
def putTmps (ops : Array Oper) (val : Nat → Value) (t : Array Value) : Nat → Array Value
  | 0 => t
  | j + 1 => match dstOf ops j with
    | some d => (putTmps ops val t j).setIfInBounds d (val j)
    | none => putTmps ops val t j
def waitsOk (ops : Array Oper) : Bool := (List.range ops.size).all fun i => match ops[i]? with
  | some o => o.after.all fun e => !Region.binds .any e || decide (e.on < i)
  | none => true
structure Agrees (ops : Array Oper) (base : Act) (val : Nat → Value) (done : Nat → Bool) (a : Act) : Prop where
  defers : a.defers = base.defers
  size : a.tmps.size = base.tmps.size
  has : ∀ j d, dstOf ops j = some d → done j = true → a.tmps.getD d undef = val j
  other : ∀ t, (∀ j, dstOf ops j ≠ some t) → a.tmps.getD t undef = base.tmps.getD t undef
def upd (done : Nat → Bool) (i : Nat) : Nat → Bool := fun j => if j = i then true else done j
theorem flow_lt {ops : Array Oper} {n : Nat} (h : flowOk ops n = true) {j d : Nat} (hd : dstOf ops j = some d) : d < n := by
  have hj : j < ops.size := by
    by_cases hj : j < ops.size
    · exact hj
    · simp [dstOf, Array.getElem?_eq_none (Nat.le_of_not_lt hj)] at hd
  have := List.all_eq_true.1 h j (List.mem_range.2 hj)
  simp only [hd, Bool.and_eq_true, decide_eq_true_eq] at this
  exact this.1
theorem flow_inj {ops : Array Oper} {n : Nat} (h : flowOk ops n = true) {i j d : Nat} (hi : dstOf ops i = some d) (hj : dstOf ops j = some d) : i = j := by
  have lt : ∀ {k : Nat}, dstOf ops k = some d → k < ops.size := fun {k} hk => by
    by_cases hj : k < ops.size
    · exact hj
    · simp [dstOf, Array.getElem?_eq_none (Nat.le_of_not_lt hj)] at hk
  have := List.all_eq_true.1 h i (List.mem_range.2 (lt hi))
  simp only [Bool.and_eq_true] at this
  have := List.all_eq_true.1 this.2 j (List.mem_range.2 (lt hj))
  rw [hi, hj] at this
  simpa using this
theorem getD_set (t : Array Value) (d : Nat) (v : Value) (k : Nat) : (t.setIfInBounds d v).getD k undef = if k = d ∧ d < t.size then v else t.getD k undef := by
  rw [Array.getD_eq_getD_getElem?, Array.getD_eq_getD_getElem?, Array.getElem?_setIfInBounds]
  by_cases h : d = k
  · subst h
    by_cases h2 : d < t.size
    · simp [h2]
    · simp [h2]
  · rw [if_neg h, if_neg (fun e => h e.1.symm)]
theorem Agrees.put {ops : Array Oper} {base : Act} {val : Nat → Value} {done : Nat → Bool} {a : Act} (hok : flowOk ops base.tmps.size = true) (h : Agrees ops base val done a) (i : Nat) {o : Oper} (ho : ops[i]? = some o) :
    Agrees ops base val (upd done i) (a.put o.dst (val i)) := by
  have hdi : dstOf ops i = o.dst := by simp [dstOf, ho]
  cases hd : o.dst with
  | none =>
    refine ⟨h.defers, h.size, fun j d hj hdn => ?_, h.other⟩
    refine h.has j d hj ?_
    unfold upd at hdn
    split at hdn
    · rename_i e; subst e; rw [hdi, hd] at hj; cases hj
    · exact hdn
  | some d =>
    rw [hd] at hdi
    refine ⟨h.defers, by simp [Act.put, h.size], fun j d' hj hdn => ?_, fun t ht => ?_⟩
    · simp only [Act.put, getD_set]
      by_cases e : d' = d
      · subst e
        obtain rfl := flow_inj hok hj hdi
        rw [if_pos ⟨rfl, by rw [h.size]; exact flow_lt hok hdi⟩]
      · rw [if_neg (fun x => e x.1)]
        refine h.has j d' hj ?_
        unfold upd at hdn
        split at hdn
        · rename_i e2; subst e2; rw [hdi] at hj; cases hj; exact absurd rfl e
        · exact hdn
    · simp only [Act.put, getD_set]
      rw [if_neg (fun x => ht i (by rw [hdi, x.1]))]
      exact h.other t ht
theorem putTmps_size (ops : Array Oper) (val : Nat → Value) (t : Array Value) (n : Nat) : (putTmps ops val t n).size = t.size := by
  induction n with
  | zero => rfl
  | succ n ih => unfold putTmps; split <;> simp [ih]
theorem putTmps_get {ops : Array Oper} {N : Nat} (hok : flowOk ops N = true) (val : Nat → Value) (t : Array Value) (hN : t.size = N) : ∀ n k, (putTmps ops val t n).getD k undef = if h : ∃ j, j < n ∧ dstOf ops j = some k then val (Classical.choose h) else t.getD k undef := by
  intro n
  induction n with
  | zero => intro k; rw [dif_neg (by rintro ⟨j, hj, _⟩; omega)]; rfl
  | succ n ih =>
    intro k
    unfold putTmps
    cases hd : dstOf ops n with
    | none =>
      simp only [ih]
      have : (∃ j, j < n ∧ dstOf ops j = some k) ↔ (∃ j, j < n + 1 ∧ dstOf ops j = some k) :=
        ⟨fun ⟨j, h1, h2⟩ => ⟨j, by omega, h2⟩, fun ⟨j, h1, h2⟩ => ⟨j, by (have : j ≠ n := fun e => (by subst e; rw [hd] at h2; cases h2)); omega, h2⟩⟩
      by_cases hh : ∃ j, j < n ∧ dstOf ops j = some k
      · rw [dif_pos hh, dif_pos (this.1 hh)]
        congr 1
        exact flow_inj hok (Classical.choose_spec hh).2 (Classical.choose_spec (this.1 hh)).2
      · rw [dif_neg hh, dif_neg (fun h => hh (this.2 h))]
    | some d =>
      simp only [getD_set, putTmps_size]
      by_cases e : k = d
      · subst e
        have hh : ∃ j, j < n + 1 ∧ dstOf ops j = some k := ⟨n, by omega, hd⟩
        rw [if_pos ⟨rfl, by rw [hN]; exact flow_lt hok hd⟩, dif_pos hh]
        congr 1
        exact flow_inj hok hd (Classical.choose_spec hh).2
      · rw [if_neg (fun x => e x.1), ih]
        have : (∃ j, j < n ∧ dstOf ops j = some k) ↔ (∃ j, j < n + 1 ∧ dstOf ops j = some k) :=
          ⟨fun ⟨j, h1, h2⟩ => ⟨j, by omega, h2⟩, fun ⟨j, h1, h2⟩ => ⟨j, by (have : j ≠ n := fun e' => (by subst e'; rw [hd] at h2; cases h2; exact e rfl)); omega, h2⟩⟩
        by_cases hh : ∃ j, j < n ∧ dstOf ops j = some k
        · rw [dif_pos hh, dif_pos (this.1 hh)]
          congr 1
          exact flow_inj hok (Classical.choose_spec hh).2 (Classical.choose_spec (this.1 hh)).2
        · rw [dif_neg hh, dif_neg (fun h => hh (this.2 h))]
theorem Agrees.all {ops : Array Oper} {base : Act} {val : Nat → Value} {done : Nat → Bool} {a : Act} (hok : flowOk ops base.tmps.size = true) (h : Agrees ops base val done a) (hd : ∀ j, j < ops.size → done j = true) :
    a = { tmps := putTmps ops val base.tmps ops.size, defers := base.defers } := by
  obtain ⟨at_, ad⟩ := a
  have h1 := h.defers
  have h2 := h.size
  simp only at h1 h2
  subst h1
  congr 1
  apply Array.ext
  · rw [putTmps_size]; exact h2
  · intro k k1 k2
    have e1 : at_[k] = at_.getD k undef := by simp [k1]
    have e2 : (putTmps ops val base.tmps ops.size)[k] = (putTmps ops val base.tmps ops.size).getD k undef := by rw [Array.getD_eq_getD_getElem?, Array.getElem?_eq_getElem k2]; rfl
    rw [e1, e2, putTmps_get hok val base.tmps rfl]
    by_cases hh : ∃ j, j < ops.size ∧ dstOf ops j = some k
    · rw [dif_pos hh]
      exact h.has _ k (Classical.choose_spec hh).2 (hd _ (Classical.choose_spec hh).1)
    · rw [dif_neg hh]
      refine h.other k (fun j hj => hh ⟨j, ?_, hj⟩)
      by_cases hlt : j < ops.size
      · exact hlt
      · simp [dstOf, Array.getElem?_eq_none (Nat.le_of_not_lt hlt)] at hj
theorem wpAnyIn_flow {F : Fence} {n : Nat} {P : Program} {ops : Array Oper} {Q : Exit → Act → World → Prop} (base : Act) (val : Nat → Value) (S : (Nat → Bool) → World → Prop) (hok : flowOk ops base.tmps.size = true) (hwt : waitsOk ops = true) (w0 : World)
    (h0 : S (fun _ => false) w0)
    (hstep : ∀ i o done a w, ops[i]? = some o → done i = false → (∀ e ∈ o.after, Region.binds .any e = true → done e.on = true) → Agrees ops base val done a → S done w →
      ∀ K : Act → World → Prop, (∀ w', S (upd done i) w' → K (a.put o.dst (val i)) w') → wpOpIn F n P ops Q i K a w)
    (hend : ∀ w done, (∀ j, j < ops.size → done j = true) → S done w → Q .normal { tmps := putTmps ops val base.tmps ops.size, defers := base.defers } w) :
    wpAnyIn F n P .any ops Q ops.size (Array.replicate ops.size false) base w0 := by
  refine wpAnyIn_inv (fun listed a w => listed.size = ops.size ∧ ∃ done, (∀ j, j < ops.size → listed[j]? = some (done j)) ∧ Agrees ops base val done a ∧ S done w) ?_ ?_ _ _ _ _ (by simp [leftOf]) ⟨by simp, fun _ => false, fun j hj => by simp [hj], ⟨rfl, rfl, fun _ _ _ h => (by cases h), fun _ _ => rfl⟩, h0⟩
  · rintro listed a w i ⟨hs, done, hl, ha, hS⟩ hr
    have hmem := ready_mem hr
    have hlt : i < ops.size := by
      rw [Array.getElem?_toList] at hmem
      have := (Array.getElem?_eq_some_iff.1 hmem).1
      omega
    have hdi : done i = false := by
      rw [Array.getElem?_toList, hl i hlt] at hmem; simpa using hmem
    have ho : ops[i]? = some ops[i] := Array.getElem?_eq_getElem hlt
    refine hstep i ops[i] done a w ho hdi (fun e he hb => ?_) ha hS _ (fun w' hw' => ⟨by simp [hs], upd done i, fun j hj => ?_, ha.put hok i ho, hw'⟩)
    · have := (List.mem_filter.1 hr).2
      simp only [Bool.and_eq_true, ho, Option.map_some, Option.getD_some] at this
      have h2 := Array.all_eq_true_iff_forall_mem.1 this.2 e he
      rw [hb] at h2
      simp only [Bool.not_true, Bool.false_or] at h2
      rw [Array.getD_eq_getD_getElem?] at h2
      by_cases hlt2 : e.on < ops.size
      · rw [hl e.on hlt2] at h2; simpa using h2
      · rw [Array.getElem?_eq_none (by omega)] at h2; simp at h2
    · rw [Array.getElem?_setIfInBounds]
      by_cases e : i = j
      · subst e; rw [if_pos rfl, if_pos (by omega)]; simp [upd]
      · rw [if_neg e, hl j hj]; simp [upd, Ne.symm e]
  · rintro listed a w ⟨hs, done, hl, ha, hS⟩ hr
    -- nothing is ready, so all have been done (or some wait for ever: then ready would not be empty for the least one)
    have hall : ∀ j, j < ops.size → done j = true := by
      intro j
      induction j using Nat.strongRecOn with
      | _ j ih =>
      intro hj
      cases hdj : done j with
      | true => rfl
      | false =>
        exfalso
        have : j ∈ Region.ready .any ops listed := by
          unfold Region.ready
          refine List.mem_filter.2 ⟨List.mem_range.2 hj, ?_⟩
          simp only [Bool.and_eq_true]
          refine ⟨by rw [Array.getD_eq_getD_getElem?, hl j hj, hdj]; rfl, ?_⟩
          rw [Array.getElem?_eq_getElem hj]
          simp only [Option.map_some, Option.getD_some]
          refine Array.all_eq_true_iff_forall_mem.2 fun e he => ?_
          have hw := List.all_eq_true.1 hwt j (List.mem_range.2 hj)
          rw [Array.getElem?_eq_getElem hj] at hw
          have hw2 := Array.all_eq_true_iff_forall_mem.1 hw e he
          cases hb : Region.binds .any e with
          | false => simp
          | true =>
            rw [hb] at hw2
            simp only [Bool.not_true, Bool.false_or, decide_eq_true_eq] at hw2
            have hlt : e.on < ops.size := by omega
            simp only [Bool.not_true, Bool.false_or]
            rw [Array.getD_eq_getD_getElem?, hl e.on hlt, ih e.on hw2 hlt]; rfl
        rw [hr] at this; cases this
    rw [ha.all hok hall]
    exact hend w done hall hS
theorem Agrees.keep {ops : Array Oper} {base : Act} {val : Nat → Value} {done : Nat → Bool} {a : Act} (h : Agrees ops base val done a) (t : Tmp) (hc : ((List.range ops.size).all fun j => !(dstOf ops j == some t)) = true) : a.eval (.tmp t) = base.eval (.tmp t) :=
  h.other t (fun j hj => by
    have hlt : j < ops.size := by
      by_cases hlt : j < ops.size
      · exact hlt
      · simp [dstOf, Array.getElem?_eq_none (Nat.le_of_not_lt hlt)] at hj
    have := List.all_eq_true.1 hc j (List.mem_range.2 hlt)
    rw [hj] at this
    simp at this)
theorem Agrees.val_ {ops : Array Oper} {base : Act} {val : Nat → Value} {done : Nat → Bool} {a : Act} (h : Agrees ops base val done a) {j t : Nat} (hj : dstOf ops j = some t) (hd : done j = true) : a.eval (.tmp t) = val j := h.has j t hj hd
def setv (val : Nat → Value) (i : Nat) (r : Value) : Nat → Value := fun j => if j = i then r else val j
theorem Agrees.put2 {ops : Array Oper} {base : Act} {val : Nat → Value} {done : Nat → Bool} {a : Act} (hok : flowOk ops base.tmps.size = true) (h : Agrees ops base val done a) (i : Nat) {o : Oper} (ho : ops[i]? = some o) (hd : done i = false) (r : Value) :
    Agrees ops base (setv val i r) (upd done i) (a.put o.dst r) := by
  have h2 : Agrees ops base (setv val i r) done a := ⟨h.defers, h.size, fun j d hj hdn => by
    rw [h.has j d hj hdn]; unfold setv; rw [if_neg (fun e => by subst e; rw [hd] at hdn; cases hdn)], h.other⟩
  have h3 := h2.put hok i ho
  have e : setv val i r i = r := by simp [setv]
  rw [e] at h3; exact h3
theorem wpAnyIn_flow2 {F : Fence} {n : Nat} {P : Program} {ops : Array Oper} {Q : Exit → Act → World → Prop} (base : Act) (v0 : Nat → Value) (S : (Nat → Bool) → (Nat → Value) → World → Prop) (hok : flowOk ops base.tmps.size = true) (hwt : waitsOk ops = true) (w0 : World)
    (h0 : S (fun _ => false) v0 w0)
    (hstep : ∀ i o done val a w, ops[i]? = some o → done i = false → (∀ e ∈ o.after, Region.binds .any e = true → done e.on = true) → Agrees ops base val done a → S done val w →
      ∀ K : Act → World → Prop, (∀ r w', S (upd done i) (setv val i r) w' → K (a.put o.dst r) w') → wpOpIn F n P ops Q i K a w)
    (hend : ∀ w done val, (∀ j, j < ops.size → done j = true) → S done val w → Q .normal { tmps := putTmps ops val base.tmps ops.size, defers := base.defers } w) :
    wpAnyIn F n P .any ops Q ops.size (Array.replicate ops.size false) base w0 := by
  refine wpAnyIn_inv (fun listed a w => listed.size = ops.size ∧ ∃ done val, (∀ j, j < ops.size → listed[j]? = some (done j)) ∧ Agrees ops base val done a ∧ S done val w) ?_ ?_ _ _ _ _ (by simp [leftOf]) ⟨by simp, fun _ => false, v0, fun j hj => by simp [hj], ⟨rfl, rfl, fun _ _ _ h => (by cases h), fun _ _ => rfl⟩, h0⟩
  · rintro listed a w i ⟨hs, done, val, hl, ha, hS⟩ hr
    have hmem := ready_mem hr
    have hlt : i < ops.size := by
      rw [Array.getElem?_toList] at hmem
      have := (Array.getElem?_eq_some_iff.1 hmem).1
      omega
    have hdi : done i = false := by
      rw [Array.getElem?_toList, hl i hlt] at hmem; simpa using hmem
    have ho : ops[i]? = some ops[i] := Array.getElem?_eq_getElem hlt
    refine hstep i ops[i] done val a w ho hdi (fun e he hb => ?_) ha hS _ (fun r w' hw' => ⟨by simp [hs], upd done i, setv val i r, fun j hj => ?_, ha.put2 hok i ho hdi r, hw'⟩)
    · have := (List.mem_filter.1 hr).2
      simp only [Bool.and_eq_true, ho, Option.map_some, Option.getD_some] at this
      have h2 := Array.all_eq_true_iff_forall_mem.1 this.2 e he
      rw [hb] at h2
      simp only [Bool.not_true, Bool.false_or] at h2
      rw [Array.getD_eq_getD_getElem?] at h2
      by_cases hlt2 : e.on < ops.size
      · rw [hl e.on hlt2] at h2; simpa using h2
      · rw [Array.getElem?_eq_none (by omega)] at h2; simp at h2
    · rw [Array.getElem?_setIfInBounds]
      by_cases e : i = j
      · subst e; rw [if_pos rfl, if_pos (by omega)]; simp [upd]
      · rw [if_neg e, hl j hj]; simp [upd, Ne.symm e]
  · rintro listed a w ⟨hs, done, val, hl, ha, hS⟩ hr
    -- nothing is ready, so all have been done (or some wait for ever: then ready would not be empty for the least one)
    have hall : ∀ j, j < ops.size → done j = true := by
      intro j
      induction j using Nat.strongRecOn with
      | _ j ih =>
      intro hj
      cases hdj : done j with
      | true => rfl
      | false =>
        exfalso
        have : j ∈ Region.ready .any ops listed := by
          unfold Region.ready
          refine List.mem_filter.2 ⟨List.mem_range.2 hj, ?_⟩
          simp only [Bool.and_eq_true]
          refine ⟨by rw [Array.getD_eq_getD_getElem?, hl j hj, hdj]; rfl, ?_⟩
          rw [Array.getElem?_eq_getElem hj]
          simp only [Option.map_some, Option.getD_some]
          refine Array.all_eq_true_iff_forall_mem.2 fun e he => ?_
          have hw := List.all_eq_true.1 hwt j (List.mem_range.2 hj)
          rw [Array.getElem?_eq_getElem hj] at hw
          have hw2 := Array.all_eq_true_iff_forall_mem.1 hw e he
          cases hb : Region.binds .any e with
          | false => simp
          | true =>
            rw [hb] at hw2
            simp only [Bool.not_true, Bool.false_or, decide_eq_true_eq] at hw2
            have hlt : e.on < ops.size := by omega
            simp only [Bool.not_true, Bool.false_or]
            rw [Array.getD_eq_getD_getElem?, hl e.on hlt, ih e.on hw2 hlt]; rfl
        rw [hr] at this; cases this
    rw [ha.all hok hall]
    exact hend w done val hall hS
end Go.Proofs.Ytejhejpkfjhmkaa.Man

namespace Go.Proofs.Ytejhejpkfjhmkaa.Man
open Go.RowKit Go.Shelf Go.Proofs.Ytejhejpkfjhmkaa.Pr Go.Proofs.YtejhejpkfjhmkaaW.PrintWords
attribute [local go_sem] Oper.semAt_some
set_option linter.unusedVariables false
set_option linter.unusedSimpArgs false
theorem mixedO : Try.prog.follows .mixedOrders = true := by kernel_rfl
theorem opIn_value {F : Fence} {n : Nat} {P : Program} {ops : Array Oper} {Q : Exit → Act → World → Prop} {i : Nat} {K : Act → World → Prop} {a : Act} {w w' : World} {o : Oper} {r : Value}
    (ho : ops[i]? = some o) (hw : Region.wanted o (yielded ops a.tmps) = true) (hd : ∀ c, o.op ≠ .defer c) (hab : o.about P w a.eval = none)
    (hrun : (execOp a.eval o).run P w = .ok (.value r) w') (hK : K (a.put o.dst r) w') : wpOpIn F n P ops Q i K a w := by
  unfold wpOpIn
  simp only [ho, hw, if_true]
  refine ⟨fun f h => (by rw [hab] at h; cases h), ?_⟩
  rw [Oper.semAt_eq _ _ _ hd, hrun]
  exact hK
end Go.Proofs.Ytejhejpkfjhmkaa.Man

namespace Go.Proofs.Ytejhejpkfjhmkaa.Man
open Go.RowKit Go.Shelf Go.Proofs.Ytejhejpkfjhmkaa.Pr Go.Proofs.YtejhejpkfjhmkaaW.PrintWords
theorem opIn_append {n : Nat} {P : Program} {ops : Array Oper} {Q : Exit → Act → World → Prop} {i : Nat} {K : Act → World → Prop} {a : Act} {W : World} {o : Oper} (ho : ops[i]? = some o) (hw : Region.wanted o (yielded ops a.tmps) = true)
    {s x : Operand} {t t' : TypeId} (hop : o.op = .call { callee := .builtin .append, args := #[s, x], argTypes := #[t, t'] })
    (h : Oper.wp P o a W K (fun _ _ _ => False)) : wpOpIn Fence.wide n P ops Q i K a W := by
  unfold wpOpIn
  simp only [ho, hw, if_true]
  refine ⟨fun f h => trivial, ?_⟩
  rw [Oper.semAt_eq _ _ _ (by rw [hop]; intro c h; cases h)]
  unfold Oper.wp at h
  have e : (execOp a.eval o).run P W = ((Builtin.append_ #[t, t'] o.type #[a.eval s, a.eval x]).run P W).andThen fun v w' => .ok (.value v) w' := by
    simp [execOp, hop, resolve, invoke, builtin]
  rw [e] at h ⊢
  cases hr : (Builtin.append_ #[t, t'] o.type #[a.eval s, a.eval x]).run P W with
  | ok v w' => rw [hr] at h; exact h
  | halt r w' => rw [hr] at h; cases r <;> exact h.elim
theorem opIn_appendI {n : Nat} {P : Program} {ops : Array Oper} {Q : Exit → Act → World → Prop} {i : Nat} {K : Act → World → Prop} {a : Act} {W : World} {o : Oper} (ho : ops[i]? = some o) (hw : Region.wanted o (yielded ops a.tmps) = true)
    {s x : Operand} {t t' : TypeId} (hop : o.op = .call { callee := .builtin .append, args := #[s, x], argTypes := #[t, t'] })
    (h : if Region.wanted o (yielded ops a.tmps) = true then Oper.wp P o a W K (fun _ _ _ => False) else K (a.put o.dst undef) W) : wpOpIn Fence.wide n P ops Q i K a W :=
  opIn_append ho hw hop (by rw [if_pos hw] at h; exact h)
end Go.Proofs.Ytejhejpkfjhmkaa.Man

-- Written by wip/xprint.py (the kit's print, run over this seat with some contracts of my own). Not trusted: Lean checks it.
namespace Go.Proofs.Ytejhejpkfjhmkaa.Pr
open Go.RowKit Go.Proofs.YtejhejpkfjhmkaaW.PrintWords Go.Proofs.YtejhejpkfjhmkaaW.PrintLast Go.Proofs.YtejhejpkfjhmkaaW.PrintMore
attribute [local go_sem] max2_int min2_int max_two min_two max_three min_three max_four min_four   -- for this text's walks alone
set_option linter.unusedVariables false
set_option linter.unusedSimpArgs false
def r12_Ints.l0 : Nat → List Int → List Int → Int → Option (Bool)
  | 0, _, _, _ => none
  | k + 1, x0, x1, x5 => if x5 < (x0.length : Int) then (if 0 ≤ x5 then (if x5 < (x1.length : Int) then (if (rd x0 x5) = (rd x1 x5) then (r12_Ints.l0 k x0 x1 (wrap64 (x5 + 1))) else (some false)) else (none)) else (none)) else (some true)
def r12_Ints.f (k : Nat) (l0 : List Int) (l1 : List Int) : Option (Bool) := if (l0.length : Int) = (l1.length : Int) then (r12_Ints.l0 k l0 l1 0) else (some false)
set_option maxHeartbeats 8000000 in
set_option maxRecDepth 100000 in
theorem r12_Ints.calls (k : Nat) (A0 : Option Addr) (c0 : Nat) (l0 : List Int) (A1 : Option Addr) (c1 : Nat) (l1 : List Int) (r : Bool) (w : World) (hr0 : Kd.C (Kd.int .i64) w A0 l0.length l0) (hc0 : l0.length ≤ c0) (hr1 : Kd.C (Kd.int .i64) w A1 l1.length l1) (hc1 : l1.length ≤ c1) (h : r12_Ints.f k l0 l1 = some r) :
    Calls Try.prog 9 #[.slice A0 l0.length c0, .slice A1 l1.length c1] w fun e w' => e = .returned (.bool r) ∧ Drawn0 w w' := by
 have HR0 := Aside0.mk hr0
 have HC0 := Aside0.mk hc0
 clear hr0 hc0
 have HR1 := Aside0.mk hr1
 have HC1 := Aside0.mk hc1
 clear hr1 hc1
 have H : (if (l0.length : Int) = (l1.length : Int) then (r12_Ints.l0 k l0 l1 0) else (some false)) = some r := h
 clear h
 by_cases c3 : (l0.length : Int) = (l1.length : Int)
 ·rw [if_pos c3] at H
  have c3b0 : ((l0.length : Int) == (l1.length : Int)) = true := beq_iff_eq.mpr c3
  have c3b1 : ((l0.length : Int) != (l1.length : Int)) = false := bne_eq_false_iff_eq.mpr c3
  have c3b2 : (l0.length == l1.length) = true := by first | simpa using c3 | (simp at c3 ⊢; omega)
  clear c3
  have H' := Aside0.mk H
  clear H
  go_enter Try.func9, Try.ntmps9
  go_wp2
  repeat (go_quiet (fail); try go_wp2)
  go_loopg [5] k (fun kq v5 w' => ∃ (x5_1 : Int), v5 = .int .i64 x5_1 ∧ Aside0 (r12_Ints.l0 kq l0 l1 x5_1 = some r) ∧ Aside0 (kq ≤ k) ∧ Drawn0 w w')
  case atStart => exact ⟨(0), (by first | rfl | (simp; done) | (simp [*]; done)), H', ⟨Nat.le_refl _⟩, by repeat (first | exact Drawn0.refl _ | apply Drawn0.step)⟩
  case round =>
   clear H'
   try clear c1
   try clear p2
   try clear c3
   try clear c3b0
   try clear c3b1
   try clear c3b2
   obtain ⟨x5_1, rfl, HA, HK1, ⟨m1, rfl⟩⟩ := hrel
   cases gk with
   | zero => exact absurd HA.out (by simp [r12_Ints.l0])
   | succ k1 =>
    have H := HA.out
    clear HA
    simp only [r12_Ints.l0] at H
    by_cases c4 : x5_1 < (l0.length : Int)
    ·rw [if_pos c4] at H
     have c4b0 : decide (x5_1 < (l0.length : Int)) = true := decide_eq_true c4
     clear c4
     by_cases c5 : 0 ≤ x5_1
     ·rw [if_pos c5] at H
      have c5b0 : decide (0 ≤ x5_1) = true := decide_eq_true c5
      clear c5
      by_cases c6 : x5_1 < (l1.length : Int)
      ·rw [if_pos c6] at H
       have c6b0 : decide (x5_1 < (l1.length : Int)) = true := decide_eq_true c6
       clear c6
       by_cases c7 : (rd l0 x5_1) = (rd l1 x5_1)
       ·rw [if_pos c7] at H
        have c7b0 : ((rd l0 x5_1) == (rd l1 x5_1)) = true := beq_iff_eq.mpr c7
        have c7b1 : ((rd l0 x5_1) != (rd l1 x5_1)) = false := bne_eq_false_iff_eq.mpr c7
        clear c7
        have H' := Aside0.mk H
        clear H
        have p101 : 0 ≤ (x5_1 : Int) := of_decide_eq_true (by first | (with_reducible assumption) | assumption)
        have q101 : x5_1 < (l0.length : Int) := of_decide_eq_true (by first | (with_reducible assumption) | assumption)
        obtain ⟨ad101, e101, hx101_0⟩ := Kd.at_int HR0.out x5_1 p101 q101
        cases e101
        replace p101 := eq_true p101
        replace q101 := eq_true q101
        have p102 : 0 ≤ (x5_1 : Int) := of_decide_eq_true (by first | (with_reducible assumption) | assumption)
        have q102 : x5_1 < (l1.length : Int) := of_decide_eq_true (by first | (with_reducible assumption) | assumption)
        obtain ⟨ad102, e102, hx102_0⟩ := Kd.at_int HR1.out x5_1 p102 q102
        cases e102
        replace p102 := eq_true p102
        replace q102 := eq_true q102
        go_wp2
        repeat (go_quiet (fail); try go_wp2)
        go_roundg k1
        case measure => have := HK1.out; omega
        case rel => exact ⟨(wrap64 (x5_1 + 1)), (by first | rfl | (simp; done) | (simp [*]; done)), H', ⟨by have := HK1.out; omega⟩, by repeat (first | exact Drawn0.refl _ | apply Drawn0.step)⟩
       ·rw [if_neg c7] at H
        have c7b0 : ((rd l0 x5_1) == (rd l1 x5_1)) = false := beq_eq_false_iff_ne.mpr c7
        have c7b1 : ((rd l0 x5_1) != (rd l1 x5_1)) = true := bne_iff_ne.mpr c7
        obtain rfl := Option.some.inj H
        have p101 : 0 ≤ (x5_1 : Int) := of_decide_eq_true (by first | (with_reducible assumption) | assumption)
        have q101 : x5_1 < (l0.length : Int) := of_decide_eq_true (by first | (with_reducible assumption) | assumption)
        obtain ⟨ad101, e101, hx101_0⟩ := Kd.at_int HR0.out x5_1 p101 q101
        cases e101
        replace p101 := eq_true p101
        replace q101 := eq_true q101
        have p102 : 0 ≤ (x5_1 : Int) := of_decide_eq_true (by first | (with_reducible assumption) | assumption)
        have q102 : x5_1 < (l1.length : Int) := of_decide_eq_true (by first | (with_reducible assumption) | assumption)
        obtain ⟨ad102, e102, hx102_0⟩ := Kd.at_int HR1.out x5_1 p102 q102
        cases e102
        replace p102 := eq_true p102
        replace q102 := eq_true q102
        go_wp2
        repeat (go_quiet (fail); try go_wp2)
        go_ret
        exact ⟨by first | rfl | (simp; done) | (simp [*]; done), by repeat (first | exact Drawn0.refl _ | apply Drawn0.step)⟩
      ·rw [if_neg c6] at H
       exact absurd H (by simp)
     ·rw [if_neg c5] at H
      exact absurd H (by simp)
    ·rw [if_neg c4] at H
     have c4b0 : decide (x5_1 < (l0.length : Int)) = false := decide_eq_false c4
     clear c4
     obtain rfl := Option.some.inj H
     go_wp2
     repeat (go_quiet (fail); try go_wp2)
     go_ret
     exact ⟨by first | rfl | (simp; done) | (simp [*]; done), by repeat (first | exact Drawn0.refl _ | apply Drawn0.step)⟩
 ·rw [if_neg c3] at H
  have c3b0 : ((l0.length : Int) == (l1.length : Int)) = false := beq_eq_false_iff_ne.mpr c3
  have c3b1 : ((l0.length : Int) != (l1.length : Int)) = true := bne_iff_ne.mpr c3
  have c3b2 : (l0.length == l1.length) = false := by first | simpa using c3 | (simp at c3 ⊢; omega)
  obtain rfl := Option.some.inj H
  go_enter Try.func9, Try.ntmps9
  go_wp2
  repeat (go_quiet (fail); try go_wp2)
  go_ret
  exact ⟨by first | rfl | (simp; done) | (simp [*]; done), by repeat (first | exact Drawn0.refl _ | apply Drawn0.step)⟩
def r12_Same.l0 : Nat → List (List Int) → List (List Int) → Int → Option (Bool)
  | 0, _, _, _ => none
  | k + 1, x0, x1, x5 => if x5 < (x0.length : Int) then (if 0 ≤ x5 then (if x5 < (x1.length : Int) then ((r12_Ints.f k (rd_L1 x0 x5) (rd_L1 x1 x5)).bind fun t105 => (if t105 = true then (r12_Same.l0 k x0 x1 (wrap64 (x5 + 1))) else (some false))) else (none)) else (none)) else (some true)
def r12_Same.f (k : Nat) (l0 : List (List Int)) (l1 : List (List Int)) : Option (Bool) := if (l0.length : Int) = (l1.length : Int) then (r12_Same.l0 k l0 l1 0) else (some false)
set_option maxHeartbeats 8000000 in
set_option maxRecDepth 100000 in
theorem r12_Same.calls (k : Nat) (A0 : Option Addr) (c0 : Nat) (l0 : List (List Int)) (A1 : Option Addr) (c1 : Nat) (l1 : List (List Int)) (r : Bool) (w : World) (hr0 : Kd.C (Kd.slice 3 (Kd.int .i64)) w A0 l0.length l0) (hc0 : l0.length ≤ c0) (hr1 : Kd.C (Kd.slice 3 (Kd.int .i64)) w A1 l1.length l1) (hc1 : l1.length ≤ c1) (h : r12_Same.f k l0 l1 = some r) :
    Calls Try.prog 14 #[.slice A0 l0.length c0, .slice A1 l1.length c1] w fun e w' => e = .returned (.bool r) ∧ Drawn0 w w' := by
 have HR0 := Aside0.mk hr0
 have HC0 := Aside0.mk hc0
 clear hr0 hc0
 have HR1 := Aside0.mk hr1
 have HC1 := Aside0.mk hc1
 clear hr1 hc1
 have H : (if (l0.length : Int) = (l1.length : Int) then (r12_Same.l0 k l0 l1 0) else (some false)) = some r := h
 clear h
 by_cases c3 : (l0.length : Int) = (l1.length : Int)
 ·rw [if_pos c3] at H
  have c3b0 : ((l0.length : Int) == (l1.length : Int)) = true := beq_iff_eq.mpr c3
  have c3b1 : ((l0.length : Int) != (l1.length : Int)) = false := bne_eq_false_iff_eq.mpr c3
  have c3b2 : (l0.length == l1.length) = true := by first | simpa using c3 | (simp at c3 ⊢; omega)
  clear c3
  have H' := Aside0.mk H
  clear H
  go_enter Try.func14, Try.ntmps14
  go_wp2
  repeat (go_quiet (fail); try go_wp2)
  go_loopg [5] k (fun kq v5 w' => ∃ (x5_1 : Int), v5 = .int .i64 x5_1 ∧ Aside0 (r12_Same.l0 kq l0 l1 x5_1 = some r) ∧ Aside0 (kq ≤ k) ∧ Drawn0 w w')
  case atStart => exact ⟨(0), (by first | rfl | (simp; done) | (simp [*]; done)), H', ⟨Nat.le_refl _⟩, by repeat (first | exact Drawn0.refl _ | apply Drawn0.step)⟩
  case round =>
   clear H'
   try clear c1
   try clear p2
   try clear c3
   try clear c3b0
   try clear c3b1
   try clear c3b2
   obtain ⟨x5_1, rfl, HA, HK1, ⟨m1, rfl⟩⟩ := hrel
   cases gk with
   | zero => exact absurd HA.out (by simp [r12_Same.l0])
   | succ k1 =>
    have H := HA.out
    clear HA
    simp only [r12_Same.l0] at H
    by_cases c4 : x5_1 < (l0.length : Int)
    ·rw [if_pos c4] at H
     have c4b0 : decide (x5_1 < (l0.length : Int)) = true := decide_eq_true c4
     clear c4
     by_cases c5 : 0 ≤ x5_1
     ·rw [if_pos c5] at H
      have c5b0 : decide (0 ≤ x5_1) = true := decide_eq_true c5
      clear c5
      by_cases c6 : x5_1 < (l1.length : Int)
      ·rw [if_pos c6] at H
       have c6b0 : decide (x5_1 < (l1.length : Int)) = true := decide_eq_true c6
       clear c6
       replace H := Option.bind_eq_some_iff.mp H
       obtain ⟨t105, A70, H⟩ := H
       replace H : (if t105 = true then (r12_Same.l0 k1 l0 l1 (wrap64 (x5_1 + 1))) else (some false)) = some r := H
       have A7 := Aside0.mk A70
       clear A70
       by_cases c8 : t105 = true
       ·subst c8
        have H1 : (r12_Same.l0 k1 l0 l1 (wrap64 (x5_1 + 1))) = some r := by rw [if_pos rfl] at H; exact H
        clear H
        have H := H1
        clear H1
        have H' := Aside0.mk H
        clear H
        have p103 : 0 ≤ (x5_1 : Int) := of_decide_eq_true (by first | (with_reducible assumption) | assumption)
        have q103 : x5_1 < (l0.length : Int) := of_decide_eq_true (by first | (with_reducible assumption) | assumption)
        obtain ⟨ad103, A103_0, c103_0, e103, hx103_0, hl103_0, hi103_0⟩ := at_L1 HR0.out x5_1 p103 q103
        cases e103
        have HR103_0 := Aside0.mk hi103_0
        have HC103_0 := Aside0.mk hl103_0
        clear hi103_0 hl103_0
        replace p103 := eq_true p103
        replace q103 := eq_true q103
        have p104 : 0 ≤ (x5_1 : Int) := of_decide_eq_true (by first | (with_reducible assumption) | assumption)
        have q104 : x5_1 < (l1.length : Int) := of_decide_eq_true (by first | (with_reducible assumption) | assumption)
        obtain ⟨ad104, A104_0, c104_0, e104, hx104_0, hl104_0, hi104_0⟩ := at_L1 HR1.out x5_1 p104 q104
        cases e104
        have HR104_0 := Aside0.mk hi104_0
        have HC104_0 := Aside0.mk hl104_0
        clear hi104_0 hl104_0
        replace p104 := eq_true p104
        replace q104 := eq_true q104
        go_wp2_with (first | (go_at_call 9; (with_reducible refine (r12_Ints.calls k1 _ _ (rd_L1 l0 x5_1) _ _ (rd_L1 l1 x5_1) true _ ?side1 ?side2 ?side3 ?side4 A7.out).mono ?_); (case side1 => repeat (first | exact HR103_0.out | (with_reducible refine Kd.C_alloc ?_ _) | (with_reducible refine Kd.C_drewN ?_ _) | (with_reducible refine Kd.C_drew ?_))); (case side2 => exact HC103_0.out); (case side3 => repeat (first | exact HR104_0.out | (with_reducible refine Kd.C_alloc ?_ _) | (with_reducible refine Kd.C_drewN ?_ _) | (with_reducible refine Kd.C_drew ?_))); (case side4 => exact HC104_0.out); rintro e w' ⟨rfl, ⟨nd, rfl⟩⟩; (try first | exact ⟨rfl, _, World.drewN_drewN _ _ _⟩ | exact ⟨rfl, _, Eq.trans (World.drewN_drewN _ _ _) (congrArg (World.drewN _) (Nat.add_assoc _ _ _))⟩)))
        repeat (go_quiet (first | (go_at_call 9; (with_reducible refine (r12_Ints.calls k1 _ _ (rd_L1 l0 x5_1) _ _ (rd_L1 l1 x5_1) true _ ?side1 ?side2 ?side3 ?side4 A7.out).mono ?_); (case side1 => repeat (first | exact HR103_0.out | (with_reducible refine Kd.C_alloc ?_ _) | (with_reducible refine Kd.C_drewN ?_ _) | (with_reducible refine Kd.C_drew ?_))); (case side2 => exact HC103_0.out); (case side3 => repeat (first | exact HR104_0.out | (with_reducible refine Kd.C_alloc ?_ _) | (with_reducible refine Kd.C_drewN ?_ _) | (with_reducible refine Kd.C_drew ?_))); (case side4 => exact HC104_0.out); rintro e w' ⟨rfl, ⟨nd, rfl⟩⟩; (try first | exact ⟨rfl, _, World.drewN_drewN _ _ _⟩ | exact ⟨rfl, _, Eq.trans (World.drewN_drewN _ _ _) (congrArg (World.drewN _) (Nat.add_assoc _ _ _))⟩))); try go_wp2_with (first | (go_at_call 9; (with_reducible refine (r12_Ints.calls k1 _ _ (rd_L1 l0 x5_1) _ _ (rd_L1 l1 x5_1) true _ ?side1 ?side2 ?side3 ?side4 A7.out).mono ?_); (case side1 => repeat (first | exact HR103_0.out | (with_reducible refine Kd.C_alloc ?_ _) | (with_reducible refine Kd.C_drewN ?_ _) | (with_reducible refine Kd.C_drew ?_))); (case side2 => exact HC103_0.out); (case side3 => repeat (first | exact HR104_0.out | (with_reducible refine Kd.C_alloc ?_ _) | (with_reducible refine Kd.C_drewN ?_ _) | (with_reducible refine Kd.C_drew ?_))); (case side4 => exact HC104_0.out); rintro e w' ⟨rfl, ⟨nd, rfl⟩⟩; (try first | exact ⟨rfl, _, World.drewN_drewN _ _ _⟩ | exact ⟨rfl, _, Eq.trans (World.drewN_drewN _ _ _) (congrArg (World.drewN _) (Nat.add_assoc _ _ _))⟩))))
        go_roundg k1
        case measure => have := HK1.out; omega
        case rel => exact ⟨(wrap64 (x5_1 + 1)), (by first | rfl | (simp; done) | (simp [*]; done)), H', ⟨by have := HK1.out; omega⟩, by repeat (first | exact Drawn0.refl _ | apply Drawn0.step)⟩
       ·replace c8 := Bool.eq_false_iff.mpr c8
        subst c8
        have H1 : (some false) = some r := by rw [if_neg (show ¬ (false = true) by decide)] at H; exact H
        clear H
        have H := H1
        clear H1
        obtain rfl := Option.some.inj H
        have p103 : 0 ≤ (x5_1 : Int) := of_decide_eq_true (by first | (with_reducible assumption) | assumption)
        have q103 : x5_1 < (l0.length : Int) := of_decide_eq_true (by first | (with_reducible assumption) | assumption)
        obtain ⟨ad103, A103_0, c103_0, e103, hx103_0, hl103_0, hi103_0⟩ := at_L1 HR0.out x5_1 p103 q103
        cases e103
        have HR103_0 := Aside0.mk hi103_0
        have HC103_0 := Aside0.mk hl103_0
        clear hi103_0 hl103_0
        replace p103 := eq_true p103
        replace q103 := eq_true q103
        have p104 : 0 ≤ (x5_1 : Int) := of_decide_eq_true (by first | (with_reducible assumption) | assumption)
        have q104 : x5_1 < (l1.length : Int) := of_decide_eq_true (by first | (with_reducible assumption) | assumption)
        obtain ⟨ad104, A104_0, c104_0, e104, hx104_0, hl104_0, hi104_0⟩ := at_L1 HR1.out x5_1 p104 q104
        cases e104
        have HR104_0 := Aside0.mk hi104_0
        have HC104_0 := Aside0.mk hl104_0
        clear hi104_0 hl104_0
        replace p104 := eq_true p104
        replace q104 := eq_true q104
        go_wp2_with (first | (go_at_call 9; (with_reducible refine (r12_Ints.calls k1 _ _ (rd_L1 l0 x5_1) _ _ (rd_L1 l1 x5_1) false _ ?side1 ?side2 ?side3 ?side4 A7.out).mono ?_); (case side1 => repeat (first | exact HR103_0.out | (with_reducible refine Kd.C_alloc ?_ _) | (with_reducible refine Kd.C_drewN ?_ _) | (with_reducible refine Kd.C_drew ?_))); (case side2 => exact HC103_0.out); (case side3 => repeat (first | exact HR104_0.out | (with_reducible refine Kd.C_alloc ?_ _) | (with_reducible refine Kd.C_drewN ?_ _) | (with_reducible refine Kd.C_drew ?_))); (case side4 => exact HC104_0.out); rintro e w' ⟨rfl, ⟨nd, rfl⟩⟩; (try first | exact ⟨rfl, _, World.drewN_drewN _ _ _⟩ | exact ⟨rfl, _, Eq.trans (World.drewN_drewN _ _ _) (congrArg (World.drewN _) (Nat.add_assoc _ _ _))⟩)))
        repeat (go_quiet (first | (go_at_call 9; (with_reducible refine (r12_Ints.calls k1 _ _ (rd_L1 l0 x5_1) _ _ (rd_L1 l1 x5_1) false _ ?side1 ?side2 ?side3 ?side4 A7.out).mono ?_); (case side1 => repeat (first | exact HR103_0.out | (with_reducible refine Kd.C_alloc ?_ _) | (with_reducible refine Kd.C_drewN ?_ _) | (with_reducible refine Kd.C_drew ?_))); (case side2 => exact HC103_0.out); (case side3 => repeat (first | exact HR104_0.out | (with_reducible refine Kd.C_alloc ?_ _) | (with_reducible refine Kd.C_drewN ?_ _) | (with_reducible refine Kd.C_drew ?_))); (case side4 => exact HC104_0.out); rintro e w' ⟨rfl, ⟨nd, rfl⟩⟩; (try first | exact ⟨rfl, _, World.drewN_drewN _ _ _⟩ | exact ⟨rfl, _, Eq.trans (World.drewN_drewN _ _ _) (congrArg (World.drewN _) (Nat.add_assoc _ _ _))⟩))); try go_wp2_with (first | (go_at_call 9; (with_reducible refine (r12_Ints.calls k1 _ _ (rd_L1 l0 x5_1) _ _ (rd_L1 l1 x5_1) false _ ?side1 ?side2 ?side3 ?side4 A7.out).mono ?_); (case side1 => repeat (first | exact HR103_0.out | (with_reducible refine Kd.C_alloc ?_ _) | (with_reducible refine Kd.C_drewN ?_ _) | (with_reducible refine Kd.C_drew ?_))); (case side2 => exact HC103_0.out); (case side3 => repeat (first | exact HR104_0.out | (with_reducible refine Kd.C_alloc ?_ _) | (with_reducible refine Kd.C_drewN ?_ _) | (with_reducible refine Kd.C_drew ?_))); (case side4 => exact HC104_0.out); rintro e w' ⟨rfl, ⟨nd, rfl⟩⟩; (try first | exact ⟨rfl, _, World.drewN_drewN _ _ _⟩ | exact ⟨rfl, _, Eq.trans (World.drewN_drewN _ _ _) (congrArg (World.drewN _) (Nat.add_assoc _ _ _))⟩))))
        go_ret
        exact ⟨by first | rfl | (simp; done) | (simp [*]; done), by repeat (first | exact Drawn0.refl _ | apply Drawn0.step)⟩
      ·rw [if_neg c6] at H
       exact absurd H (by simp)
     ·rw [if_neg c5] at H
      exact absurd H (by simp)
    ·rw [if_neg c4] at H
     have c4b0 : decide (x5_1 < (l0.length : Int)) = false := decide_eq_false c4
     clear c4
     obtain rfl := Option.some.inj H
     go_wp2
     repeat (go_quiet (fail); try go_wp2)
     go_ret
     exact ⟨by first | rfl | (simp; done) | (simp [*]; done), by repeat (first | exact Drawn0.refl _ | apply Drawn0.step)⟩
 ·rw [if_neg c3] at H
  have c3b0 : ((l0.length : Int) == (l1.length : Int)) = false := beq_eq_false_iff_ne.mpr c3
  have c3b1 : ((l0.length : Int) != (l1.length : Int)) = true := bne_iff_ne.mpr c3
  have c3b2 : (l0.length == l1.length) = false := by first | simpa using c3 | (simp at c3 ⊢; omega)
  obtain rfl := Option.some.inj H
  go_enter Try.func14, Try.ntmps14
  go_wp2
  repeat (go_quiet (fail); try go_wp2)
  go_ret
  exact ⟨by first | rfl | (simp; done) | (simp [*]; done), by repeat (first | exact Drawn0.refl _ | apply Drawn0.step)⟩
def r12_Has.l0 : Nat → List Int → Int → Int → Option (Bool)
  | 0, _, _, _ => none
  | k + 1, x0, x1, x5 => if x5 < (x0.length : Int) then (if 0 ≤ x5 then (if (rd x0 x5) = x1 then (some true) else (r12_Has.l0 k x0 x1 (wrap64 (x5 + 1)))) else (none)) else (some false)
def r12_Has.f (k : Nat) (l0 : List Int) (a1 : Int) : Option (Bool) := r12_Has.l0 k l0 a1 0
set_option maxHeartbeats 8000000 in
set_option maxRecDepth 100000 in
theorem r12_Has.calls (k : Nat) (A0 : Option Addr) (c0 : Nat) (l0 : List Int) (a1 : Int) (r : Bool) (w : World) (hr0 : Kd.C (Kd.int .i64) w A0 l0.length l0) (hc0 : l0.length ≤ c0) (h : r12_Has.f k l0 a1 = some r) :
    Calls Try.prog 18 #[.slice A0 l0.length c0, .int .i64 a1] w fun e w' => e = .returned (.bool r) ∧ Drawn0 w w' := by
 have HR0 := Aside0.mk hr0
 have HC0 := Aside0.mk hc0
 clear hr0 hc0
 have H : (r12_Has.l0 k l0 a1 0) = some r := h
 clear h
 have H' := Aside0.mk H
 clear H
 go_enter Try.func18, Try.ntmps18
 go_wp2
 go_loopg [5] k (fun kq v5 w' => ∃ (x5_1 : Int), v5 = .int .i64 x5_1 ∧ Aside0 (r12_Has.l0 kq l0 a1 x5_1 = some r) ∧ Aside0 (kq ≤ k) ∧ Drawn0 w w')
 case atStart => exact ⟨(0), (by first | rfl | (simp; done) | (simp [*]; done)), H', ⟨Nat.le_refl _⟩, by repeat (first | exact Drawn0.refl _ | apply Drawn0.step)⟩
 case round =>
  clear H'
  try clear c1
  try clear p2
  obtain ⟨x5_1, rfl, HA, HK1, ⟨m1, rfl⟩⟩ := hrel
  cases gk with
  | zero => exact absurd HA.out (by simp [r12_Has.l0])
  | succ k1 =>
   have H := HA.out
   clear HA
   simp only [r12_Has.l0] at H
   by_cases c3 : x5_1 < (l0.length : Int)
   ·rw [if_pos c3] at H
    have c3b0 : decide (x5_1 < (l0.length : Int)) = true := decide_eq_true c3
    clear c3
    by_cases c4 : 0 ≤ x5_1
    ·rw [if_pos c4] at H
     have c4b0 : decide (0 ≤ x5_1) = true := decide_eq_true c4
     clear c4
     by_cases c5 : (rd l0 x5_1) = a1
     ·rw [if_pos c5] at H
      have c5b0 : ((rd l0 x5_1) == a1) = true := beq_iff_eq.mpr c5
      have c5b1 : ((rd l0 x5_1) != a1) = false := bne_eq_false_iff_eq.mpr c5
      clear c5
      obtain rfl := Option.some.inj H
      have p106 : 0 ≤ (x5_1 : Int) := of_decide_eq_true (by first | (with_reducible assumption) | assumption)
      have q106 : x5_1 < (l0.length : Int) := of_decide_eq_true (by first | (with_reducible assumption) | assumption)
      obtain ⟨ad106, e106, hx106_0⟩ := Kd.at_int HR0.out x5_1 p106 q106
      cases e106
      replace p106 := eq_true p106
      replace q106 := eq_true q106
      go_wp2
      go_ret
      exact ⟨by first | rfl | (simp; done) | (simp [*]; done), by repeat (first | exact Drawn0.refl _ | apply Drawn0.step)⟩
     ·rw [if_neg c5] at H
      have c5b0 : ((rd l0 x5_1) == a1) = false := beq_eq_false_iff_ne.mpr c5
      have c5b1 : ((rd l0 x5_1) != a1) = true := bne_iff_ne.mpr c5
      have H' := Aside0.mk H
      clear H
      have p106 : 0 ≤ (x5_1 : Int) := of_decide_eq_true (by first | (with_reducible assumption) | assumption)
      have q106 : x5_1 < (l0.length : Int) := of_decide_eq_true (by first | (with_reducible assumption) | assumption)
      obtain ⟨ad106, e106, hx106_0⟩ := Kd.at_int HR0.out x5_1 p106 q106
      cases e106
      replace p106 := eq_true p106
      replace q106 := eq_true q106
      go_wp2
      go_roundg k1
      case measure => have := HK1.out; omega
      case rel => exact ⟨(wrap64 (x5_1 + 1)), (by first | rfl | (simp; done) | (simp [*]; done)), H', ⟨by have := HK1.out; omega⟩, by repeat (first | exact Drawn0.refl _ | apply Drawn0.step)⟩
    ·rw [if_neg c4] at H
     exact absurd H (by simp)
   ·rw [if_neg c3] at H
    have c3b0 : decide (x5_1 < (l0.length : Int)) = false := decide_eq_false c3
    clear c3
    obtain rfl := Option.some.inj H
    go_wp2
    go_ret
    exact ⟨by first | rfl | (simp; done) | (simp [*]; done), by repeat (first | exact Drawn0.refl _ | apply Drawn0.step)⟩
mutual
def r12_May.l0 : Nat → List (List Int) → Int → Option (Bool)
  | 0, _, _ => none
  | k + 1, x0, x3 => if x3 < (x0.length : Int) then (r12_May.l1 k x0 x3 0) else (some (decide ((x0.length : Int) ≤ 1000)))
def r12_May.l1 : Nat → List (List Int) → Int → Int → Option (Bool)
  | 0, _, _, _ => none
  | k + 1, x0, x3, x4 => if 0 ≤ x3 then (if x3 < (x0.length : Int) then (if x4 < ((rd_L1 x0 x3).length : Int) then (if 0 ≤ x4 then (if (rd (rd_L1 x0 x3) x4) < 0 then (some false) else (if (rd (rd_L1 x0 x3) x4) ≥ (x0.length : Int) then (some false) else (if x4 > 0 then (if 0 ≤ (wrap64 (x4 - 1)) then (if (wrap64 (x4 - 1)) < ((rd_L1 x0 x3).length : Int) then (if (rd (rd_L1 x0 x3) (wrap64 (x4 - 1))) ≥ (rd (rd_L1 x0 x3) x4) then (some false) else (r12_May.l1 k x0 x3 (wrap64 (x4 + 1)))) else (none)) else (none)) else (r12_May.l1 k x0 x3 (wrap64 (x4 + 1)))))) else (none)) else (r12_May.l0 k x0 (wrap64 (x3 + 1)))) else (none)) else (none)
end
def r12_May.f (k : Nat) (l0 : List (List Int)) : Option (Bool) := r12_May.l0 k l0 0
set_option maxHeartbeats 8000000 in
set_option maxRecDepth 100000 in
theorem r12_May.calls (k : Nat) (A0 : Option Addr) (c0 : Nat) (l0 : List (List Int)) (r : Bool) (w : World) (hr0 : Kd.C (Kd.slice 3 (Kd.int .i64)) w A0 l0.length l0) (hc0 : l0.length ≤ c0) (h : r12_May.f k l0 = some r) :
    Calls Try.prog 17 #[.slice A0 l0.length c0] w fun e w' => e = .returned (.bool r) ∧ Drawn0 w w' := by
 have HR0 := Aside0.mk hr0
 have HC0 := Aside0.mk hc0
 clear hr0 hc0
 have H : (r12_May.l0 k l0 0) = some r := h
 clear h
 have H' := Aside0.mk H
 clear H
 go_enter Try.func17, Try.ntmps17
 go_wp2
 repeat (go_quiet (fail); try go_wp2)
 go_loopg [3] k (fun kq v3 w' => ∃ (x3_1 : Int), v3 = .int .i64 x3_1 ∧ Aside0 (r12_May.l0 kq l0 x3_1 = some r) ∧ Aside0 (kq ≤ k) ∧ Drawn0 w w')
 case atStart => exact ⟨(0), (by first | rfl | (simp; done) | (simp [*]; done)), H', ⟨Nat.le_refl _⟩, by repeat (first | exact Drawn0.refl _ | apply Drawn0.step)⟩
 case round =>
  clear H'
  try clear c1
  obtain ⟨x3_1, rfl, HA, HK1, ⟨m1, rfl⟩⟩ := hrel
  cases gk with
  | zero => exact absurd HA.out (by simp [r12_May.l0])
  | succ k1 =>
   have H := HA.out
   clear HA
   simp only [r12_May.l0] at H
   by_cases c2 : x3_1 < (l0.length : Int)
   ·rw [if_pos c2] at H
    have c2b0 : decide (x3_1 < (l0.length : Int)) = true := decide_eq_true c2
    clear c2
    have H' := Aside0.mk H
    clear H
    go_wp2
    repeat (go_quiet (fail); try go_wp2)
    go_loopg [4] k1 (fun kq v4 w' => ∃ (x4_2 : Int), v4 = .int .i64 x4_2 ∧ Aside0 (r12_May.l1 kq l0 x3_1 x4_2 = some r) ∧ Aside0 (kq ≤ k1) ∧ Drawn0 w w')
    case atStart => exact ⟨(0), (by first | rfl | (simp; done) | (simp [*]; done)), H', ⟨Nat.le_refl _⟩, by repeat (first | exact Drawn0.refl _ | apply Drawn0.step)⟩
    case round =>
     clear H'
     try clear c1
     try clear c2
     try clear c2b0
     try clear p2
     obtain ⟨x4_2, rfl, HA, HK2, ⟨m2, rfl⟩⟩ := hrel
     cases gk with
     | zero => exact absurd HA.out (by simp [r12_May.l1])
     | succ k2 =>
      have H := HA.out
      clear HA
      simp only [r12_May.l1] at H
      by_cases c3 : 0 ≤ x3_1
      ·rw [if_pos c3] at H
       have c3b0 : decide (0 ≤ x3_1) = true := decide_eq_true c3
       clear c3
       by_cases c4 : x3_1 < (l0.length : Int)
       ·rw [if_pos c4] at H
        have c4b0 : decide (x3_1 < (l0.length : Int)) = true := decide_eq_true c4
        clear c4
        by_cases c5 : x4_2 < ((rd_L1 l0 x3_1).length : Int)
        ·rw [if_pos c5] at H
         have c5b0 : decide (x4_2 < ((rd_L1 l0 x3_1).length : Int)) = true := decide_eq_true c5
         clear c5
         by_cases c6 : 0 ≤ x4_2
         ·rw [if_pos c6] at H
          have c6b0 : decide (0 ≤ x4_2) = true := decide_eq_true c6
          clear c6
          by_cases c7 : (rd (rd_L1 l0 x3_1) x4_2) < 0
          ·rw [if_pos c7] at H
           have c7b0 : decide ((rd (rd_L1 l0 x3_1) x4_2) < 0) = true := decide_eq_true c7
           clear c7
           obtain rfl := Option.some.inj H
           have p107 : 0 ≤ (x3_1 : Int) := of_decide_eq_true (by first | (with_reducible assumption) | assumption)
           have q107 : x3_1 < (l0.length : Int) := of_decide_eq_true (by first | (with_reducible assumption) | assumption)
           obtain ⟨ad107, A107_0, c107_0, e107, hx107_0, hl107_0, hi107_0⟩ := at_L1 HR0.out x3_1 p107 q107
           cases e107
           have HR107_0 := Aside0.mk hi107_0
           have HC107_0 := Aside0.mk hl107_0
           clear hi107_0 hl107_0
           replace p107 := eq_true p107
           replace q107 := eq_true q107
           have p108 : 0 ≤ (x3_1 : Int) := of_decide_eq_true (by first | (with_reducible assumption) | assumption)
           have q108 : x3_1 < (l0.length : Int) := of_decide_eq_true (by first | (with_reducible assumption) | assumption)
           obtain ⟨ad108, A108_0, c108_0, e108, hx108_0, hl108_0, hi108_0⟩ := at_L1 HR0.out x3_1 p108 q108
           obtain rfl : ad107 = ad108 := (by injection e108)
           have HR108_0 := Aside0.mk hi108_0
           have HC108_0 := Aside0.mk hl108_0
           clear hi108_0 hl108_0
           replace p108 := eq_true p108
           replace q108 := eq_true q108
           have ea_ := Option.some.inj (hx107_0.symm.trans hx108_0)
           injection ea_ with ea_ en_ ec_
           subst ea_
           subst ec_
           clear en_
           have p109 : 0 ≤ (x4_2 : Int) := of_decide_eq_true (by first | (with_reducible assumption) | assumption)
           have q109 : x4_2 < ((rd_L1 l0 x3_1).length : Int) := of_decide_eq_true (by first | (with_reducible assumption) | assumption)
           obtain ⟨ad109, e109, hx109_0⟩ := Kd.at_int HR108_0.out x4_2 p109 q109
           cases e109
           replace p109 := eq_true p109
           replace q109 := eq_true q109
           go_wp2
           repeat (go_quiet (fail); try go_wp2)
           go_ret
           exact ⟨by first | rfl | (simp; done) | (simp [*]; done), by repeat (first | exact Drawn0.refl _ | apply Drawn0.step)⟩
          ·rw [if_neg c7] at H
           have c7b0 : decide ((rd (rd_L1 l0 x3_1) x4_2) < 0) = false := decide_eq_false c7
           clear c7
           by_cases c8 : (rd (rd_L1 l0 x3_1) x4_2) ≥ (l0.length : Int)
           ·rw [if_pos c8] at H
            have c8b0 : decide ((l0.length : Int) ≤ (rd (rd_L1 l0 x3_1) x4_2)) = true := decide_eq_true c8
            clear c8
            obtain rfl := Option.some.inj H
            have p107 : 0 ≤ (x3_1 : Int) := of_decide_eq_true (by first | (with_reducible assumption) | assumption)
            have q107 : x3_1 < (l0.length : Int) := of_decide_eq_true (by first | (with_reducible assumption) | assumption)
            obtain ⟨ad107, A107_0, c107_0, e107, hx107_0, hl107_0, hi107_0⟩ := at_L1 HR0.out x3_1 p107 q107
            cases e107
            have HR107_0 := Aside0.mk hi107_0
            have HC107_0 := Aside0.mk hl107_0
            clear hi107_0 hl107_0
            replace p107 := eq_true p107
            replace q107 := eq_true q107
            have p108 : 0 ≤ (x3_1 : Int) := of_decide_eq_true (by first | (with_reducible assumption) | assumption)
            have q108 : x3_1 < (l0.length : Int) := of_decide_eq_true (by first | (with_reducible assumption) | assumption)
            obtain ⟨ad108, A108_0, c108_0, e108, hx108_0, hl108_0, hi108_0⟩ := at_L1 HR0.out x3_1 p108 q108
            obtain rfl : ad107 = ad108 := (by injection e108)
            have HR108_0 := Aside0.mk hi108_0
            have HC108_0 := Aside0.mk hl108_0
            clear hi108_0 hl108_0
            replace p108 := eq_true p108
            replace q108 := eq_true q108
            have ea_ := Option.some.inj (hx107_0.symm.trans hx108_0)
            injection ea_ with ea_ en_ ec_
            subst ea_
            subst ec_
            clear en_
            have p109 : 0 ≤ (x4_2 : Int) := of_decide_eq_true (by first | (with_reducible assumption) | assumption)
            have q109 : x4_2 < ((rd_L1 l0 x3_1).length : Int) := of_decide_eq_true (by first | (with_reducible assumption) | assumption)
            obtain ⟨ad109, e109, hx109_0⟩ := Kd.at_int HR108_0.out x4_2 p109 q109
            cases e109
            replace p109 := eq_true p109
            replace q109 := eq_true q109
            have p110 : 0 ≤ (x3_1 : Int) := of_decide_eq_true (by first | (with_reducible assumption) | assumption)
            have q110 : x3_1 < (l0.length : Int) := of_decide_eq_true (by first | (with_reducible assumption) | assumption)
            obtain ⟨ad110, A110_0, c110_0, e110, hx110_0, hl110_0, hi110_0⟩ := at_L1 HR0.out x3_1 p110 q110
            obtain rfl : ad107 = ad110 := (by injection e110)
            have HR110_0 := Aside0.mk hi110_0
            have HC110_0 := Aside0.mk hl110_0
            clear hi110_0 hl110_0
            replace p110 := eq_true p110
            replace q110 := eq_true q110
            have ea_ := Option.some.inj (hx107_0.symm.trans hx110_0)
            injection ea_ with ea_ en_ ec_
            subst ea_
            subst ec_
            clear en_
            have p111 : 0 ≤ (x4_2 : Int) := of_decide_eq_true (by first | (with_reducible assumption) | assumption)
            have q111 : x4_2 < ((rd_L1 l0 x3_1).length : Int) := of_decide_eq_true (by first | (with_reducible assumption) | assumption)
            obtain ⟨ad111, e111, hx111_0⟩ := Kd.at_int HR110_0.out x4_2 p111 q111
            cases e111
            replace p111 := eq_true p111
            replace q111 := eq_true q111
            go_wp2
            repeat (go_quiet (fail); try go_wp2)
            go_ret
            exact ⟨by first | rfl | (simp; done) | (simp [*]; done), by repeat (first | exact Drawn0.refl _ | apply Drawn0.step)⟩
           ·rw [if_neg c8] at H
            have c8b0 : decide ((l0.length : Int) ≤ (rd (rd_L1 l0 x3_1) x4_2)) = false := decide_eq_false c8
            clear c8
            by_cases c9 : x4_2 > 0
            ·rw [if_pos c9] at H
             have c9b0 : decide (0 < x4_2) = true := decide_eq_true c9
             clear c9
             obtain ⟨ji10, hji10⟩ : ∃ j_ : Int, (wrap64 (x4_2 - 1)) = j_ := ⟨_, rfl⟩
             replace H : (if 0 ≤ (ji10) then (if (ji10) < ((rd_L1 l0 x3_1).length : Int) then (if (rd (rd_L1 l0 x3_1) (ji10)) ≥ (rd (rd_L1 l0 x3_1) x4_2) then (some false) else (r12_May.l1 k2 l0 x3_1 (wrap64 (x4_2 + 1)))) else (none)) else (none)) = some r := by first | (rw [hji10] at H; exact H) | (simp only [hji10] at H ⊢; exact H)
             have hji10w : (IntKind.i64.wrap (x4_2 - 1)) = ji10 := (i64_w _).trans hji10
             by_cases c11 : 0 ≤ (ji10)
             ·rw [if_pos c11] at H
              have c11b0 : decide (0 ≤ (ji10)) = true := decide_eq_true c11
              clear c11
              by_cases c12 : (ji10) < ((rd_L1 l0 x3_1).length : Int)
              ·rw [if_pos c12] at H
               have c12b0 : decide ((ji10) < ((rd_L1 l0 x3_1).length : Int)) = true := decide_eq_true c12
               clear c12
               by_cases c13 : (rd (rd_L1 l0 x3_1) (ji10)) ≥ (rd (rd_L1 l0 x3_1) x4_2)
               ·rw [if_pos c13] at H
                have c13b0 : decide ((rd (rd_L1 l0 x3_1) x4_2) ≤ (rd (rd_L1 l0 x3_1) (ji10))) = true := decide_eq_true c13
                clear c13
                obtain rfl := Option.some.inj H
                have p107 : 0 ≤ (x3_1 : Int) := of_decide_eq_true (by first | (with_reducible assumption) | assumption)
                have q107 : x3_1 < (l0.length : Int) := of_decide_eq_true (by first | (with_reducible assumption) | assumption)
                obtain ⟨ad107, A107_0, c107_0, e107, hx107_0, hl107_0, hi107_0⟩ := at_L1 HR0.out x3_1 p107 q107
                cases e107
                have HR107_0 := Aside0.mk hi107_0
                have HC107_0 := Aside0.mk hl107_0
                clear hi107_0 hl107_0
                replace p107 := eq_true p107
                replace q107 := eq_true q107
                have p108 : 0 ≤ (x3_1 : Int) := of_decide_eq_true (by first | (with_reducible assumption) | assumption)
                have q108 : x3_1 < (l0.length : Int) := of_decide_eq_true (by first | (with_reducible assumption) | assumption)
                obtain ⟨ad108, A108_0, c108_0, e108, hx108_0, hl108_0, hi108_0⟩ := at_L1 HR0.out x3_1 p108 q108
                obtain rfl : ad107 = ad108 := (by injection e108)
                have HR108_0 := Aside0.mk hi108_0
                have HC108_0 := Aside0.mk hl108_0
                clear hi108_0 hl108_0
                replace p108 := eq_true p108
                replace q108 := eq_true q108
                have ea_ := Option.some.inj (hx107_0.symm.trans hx108_0)
                injection ea_ with ea_ en_ ec_
                subst ea_
                subst ec_
                clear en_
                have p109 : 0 ≤ (x4_2 : Int) := of_decide_eq_true (by first | (with_reducible assumption) | assumption)
                have q109 : x4_2 < ((rd_L1 l0 x3_1).length : Int) := of_decide_eq_true (by first | (with_reducible assumption) | assumption)
                obtain ⟨ad109, e109, hx109_0⟩ := Kd.at_int HR108_0.out x4_2 p109 q109
                cases e109
                replace p109 := eq_true p109
                replace q109 := eq_true q109
                have p110 : 0 ≤ (x3_1 : Int) := of_decide_eq_true (by first | (with_reducible assumption) | assumption)
                have q110 : x3_1 < (l0.length : Int) := of_decide_eq_true (by first | (with_reducible assumption) | assumption)
                obtain ⟨ad110, A110_0, c110_0, e110, hx110_0, hl110_0, hi110_0⟩ := at_L1 HR0.out x3_1 p110 q110
                obtain rfl : ad107 = ad110 := (by injection e110)
                have HR110_0 := Aside0.mk hi110_0
                have HC110_0 := Aside0.mk hl110_0
                clear hi110_0 hl110_0
                replace p110 := eq_true p110
                replace q110 := eq_true q110
                have ea_ := Option.some.inj (hx107_0.symm.trans hx110_0)
                injection ea_ with ea_ en_ ec_
                subst ea_
                subst ec_
                clear en_
                have p111 : 0 ≤ (x4_2 : Int) := of_decide_eq_true (by first | (with_reducible assumption) | assumption)
                have q111 : x4_2 < ((rd_L1 l0 x3_1).length : Int) := of_decide_eq_true (by first | (with_reducible assumption) | assumption)
                obtain ⟨ad111, e111, hx111_0⟩ := Kd.at_int HR110_0.out x4_2 p111 q111
                cases e111
                replace p111 := eq_true p111
                replace q111 := eq_true q111
                have p112 : 0 ≤ (x3_1 : Int) := of_decide_eq_true (by first | (with_reducible assumption) | assumption)
                have q112 : x3_1 < (l0.length : Int) := of_decide_eq_true (by first | (with_reducible assumption) | assumption)
                obtain ⟨ad112, A112_0, c112_0, e112, hx112_0, hl112_0, hi112_0⟩ := at_L1 HR0.out x3_1 p112 q112
                obtain rfl : ad107 = ad112 := (by injection e112)
                have HR112_0 := Aside0.mk hi112_0
                have HC112_0 := Aside0.mk hl112_0
                clear hi112_0 hl112_0
                replace p112 := eq_true p112
                replace q112 := eq_true q112
                have ea_ := Option.some.inj (hx107_0.symm.trans hx112_0)
                injection ea_ with ea_ en_ ec_
                subst ea_
                subst ec_
                clear en_
                have p113 : 0 ≤ ((ji10) : Int) := of_decide_eq_true (by first | (with_reducible assumption) | assumption)
                have q113 : (ji10) < ((rd_L1 l0 x3_1).length : Int) := of_decide_eq_true (by first | (with_reducible assumption) | assumption)
                obtain ⟨ad113, e113, hx113_0⟩ := Kd.at_int HR112_0.out (ji10) p113 q113
                cases e113
                replace p113 := eq_true p113
                replace q113 := eq_true q113
                have p114 : 0 ≤ (x3_1 : Int) := of_decide_eq_true (by first | (with_reducible assumption) | assumption)
                have q114 : x3_1 < (l0.length : Int) := of_decide_eq_true (by first | (with_reducible assumption) | assumption)
                obtain ⟨ad114, A114_0, c114_0, e114, hx114_0, hl114_0, hi114_0⟩ := at_L1 HR0.out x3_1 p114 q114
                obtain rfl : ad107 = ad114 := (by injection e114)
                have HR114_0 := Aside0.mk hi114_0
                have HC114_0 := Aside0.mk hl114_0
                clear hi114_0 hl114_0
                replace p114 := eq_true p114
                replace q114 := eq_true q114
                have ea_ := Option.some.inj (hx107_0.symm.trans hx114_0)
                injection ea_ with ea_ en_ ec_
                subst ea_
                subst ec_
                clear en_
                have p115 : 0 ≤ (x4_2 : Int) := of_decide_eq_true (by first | (with_reducible assumption) | assumption)
                have q115 : x4_2 < ((rd_L1 l0 x3_1).length : Int) := of_decide_eq_true (by first | (with_reducible assumption) | assumption)
                obtain ⟨ad115, e115, hx115_0⟩ := Kd.at_int HR114_0.out x4_2 p115 q115
                cases e115
                replace p115 := eq_true p115
                replace q115 := eq_true q115
                go_wp2
                repeat (go_quiet (fail); try go_wp2)
                go_ret
                exact ⟨by first | rfl | (simp; done) | (simp only [← hji10] <;> (first | rfl | simp)) | (simp [*]; done), by repeat (first | exact Drawn0.refl _ | apply Drawn0.step)⟩
               ·rw [if_neg c13] at H
                have c13b0 : decide ((rd (rd_L1 l0 x3_1) x4_2) ≤ (rd (rd_L1 l0 x3_1) (ji10))) = false := decide_eq_false c13
                clear c13
                have H' := Aside0.mk H
                clear H
                have p107 : 0 ≤ (x3_1 : Int) := of_decide_eq_true (by first | (with_reducible assumption) | assumption)
                have q107 : x3_1 < (l0.length : Int) := of_decide_eq_true (by first | (with_reducible assumption) | assumption)
                obtain ⟨ad107, A107_0, c107_0, e107, hx107_0, hl107_0, hi107_0⟩ := at_L1 HR0.out x3_1 p107 q107
                cases e107
                have HR107_0 := Aside0.mk hi107_0
                have HC107_0 := Aside0.mk hl107_0
                clear hi107_0 hl107_0
                replace p107 := eq_true p107
                replace q107 := eq_true q107
                have p108 : 0 ≤ (x3_1 : Int) := of_decide_eq_true (by first | (with_reducible assumption) | assumption)
                have q108 : x3_1 < (l0.length : Int) := of_decide_eq_true (by first | (with_reducible assumption) | assumption)
                obtain ⟨ad108, A108_0, c108_0, e108, hx108_0, hl108_0, hi108_0⟩ := at_L1 HR0.out x3_1 p108 q108
                obtain rfl : ad107 = ad108 := (by injection e108)
                have HR108_0 := Aside0.mk hi108_0
                have HC108_0 := Aside0.mk hl108_0
                clear hi108_0 hl108_0
                replace p108 := eq_true p108
                replace q108 := eq_true q108
                have ea_ := Option.some.inj (hx107_0.symm.trans hx108_0)
                injection ea_ with ea_ en_ ec_
                subst ea_
                subst ec_
                clear en_
                have p109 : 0 ≤ (x4_2 : Int) := of_decide_eq_true (by first | (with_reducible assumption) | assumption)
                have q109 : x4_2 < ((rd_L1 l0 x3_1).length : Int) := of_decide_eq_true (by first | (with_reducible assumption) | assumption)
                obtain ⟨ad109, e109, hx109_0⟩ := Kd.at_int HR108_0.out x4_2 p109 q109
                cases e109
                replace p109 := eq_true p109
                replace q109 := eq_true q109
                have p110 : 0 ≤ (x3_1 : Int) := of_decide_eq_true (by first | (with_reducible assumption) | assumption)
                have q110 : x3_1 < (l0.length : Int) := of_decide_eq_true (by first | (with_reducible assumption) | assumption)
                obtain ⟨ad110, A110_0, c110_0, e110, hx110_0, hl110_0, hi110_0⟩ := at_L1 HR0.out x3_1 p110 q110
                obtain rfl : ad107 = ad110 := (by injection e110)
                have HR110_0 := Aside0.mk hi110_0
                have HC110_0 := Aside0.mk hl110_0
                clear hi110_0 hl110_0
                replace p110 := eq_true p110
                replace q110 := eq_true q110
                have ea_ := Option.some.inj (hx107_0.symm.trans hx110_0)
                injection ea_ with ea_ en_ ec_
                subst ea_
                subst ec_
                clear en_
                have p111 : 0 ≤ (x4_2 : Int) := of_decide_eq_true (by first | (with_reducible assumption) | assumption)
                have q111 : x4_2 < ((rd_L1 l0 x3_1).length : Int) := of_decide_eq_true (by first | (with_reducible assumption) | assumption)
                obtain ⟨ad111, e111, hx111_0⟩ := Kd.at_int HR110_0.out x4_2 p111 q111
                cases e111
                replace p111 := eq_true p111
                replace q111 := eq_true q111
                have p112 : 0 ≤ (x3_1 : Int) := of_decide_eq_true (by first | (with_reducible assumption) | assumption)
                have q112 : x3_1 < (l0.length : Int) := of_decide_eq_true (by first | (with_reducible assumption) | assumption)
                obtain ⟨ad112, A112_0, c112_0, e112, hx112_0, hl112_0, hi112_0⟩ := at_L1 HR0.out x3_1 p112 q112
                obtain rfl : ad107 = ad112 := (by injection e112)
                have HR112_0 := Aside0.mk hi112_0
                have HC112_0 := Aside0.mk hl112_0
                clear hi112_0 hl112_0
                replace p112 := eq_true p112
                replace q112 := eq_true q112
                have ea_ := Option.some.inj (hx107_0.symm.trans hx112_0)
                injection ea_ with ea_ en_ ec_
                subst ea_
                subst ec_
                clear en_
                have p113 : 0 ≤ ((ji10) : Int) := of_decide_eq_true (by first | (with_reducible assumption) | assumption)
                have q113 : (ji10) < ((rd_L1 l0 x3_1).length : Int) := of_decide_eq_true (by first | (with_reducible assumption) | assumption)
                obtain ⟨ad113, e113, hx113_0⟩ := Kd.at_int HR112_0.out (ji10) p113 q113
                cases e113
                replace p113 := eq_true p113
                replace q113 := eq_true q113
                have p114 : 0 ≤ (x3_1 : Int) := of_decide_eq_true (by first | (with_reducible assumption) | assumption)
                have q114 : x3_1 < (l0.length : Int) := of_decide_eq_true (by first | (with_reducible assumption) | assumption)
                obtain ⟨ad114, A114_0, c114_0, e114, hx114_0, hl114_0, hi114_0⟩ := at_L1 HR0.out x3_1 p114 q114
                obtain rfl : ad107 = ad114 := (by injection e114)
                have HR114_0 := Aside0.mk hi114_0
                have HC114_0 := Aside0.mk hl114_0
                clear hi114_0 hl114_0
                replace p114 := eq_true p114
                replace q114 := eq_true q114
                have ea_ := Option.some.inj (hx107_0.symm.trans hx114_0)
                injection ea_ with ea_ en_ ec_
                subst ea_
                subst ec_
                clear en_
                have p115 : 0 ≤ (x4_2 : Int) := of_decide_eq_true (by first | (with_reducible assumption) | assumption)
                have q115 : x4_2 < ((rd_L1 l0 x3_1).length : Int) := of_decide_eq_true (by first | (with_reducible assumption) | assumption)
                obtain ⟨ad115, e115, hx115_0⟩ := Kd.at_int HR114_0.out x4_2 p115 q115
                cases e115
                replace p115 := eq_true p115
                replace q115 := eq_true q115
                go_wp2
                repeat (go_quiet (fail); try go_wp2)
                go_roundg k2
                case measure => have := HK1.out; have := HK2.out; omega
                case rel => exact ⟨(wrap64 (x4_2 + 1)), (by first | rfl | (simp; done) | (simp [*]; done)), H', ⟨by have := HK1.out; have := HK2.out; omega⟩, by repeat (first | exact Drawn0.refl _ | apply Drawn0.step)⟩
              ·rw [if_neg c12] at H
               exact absurd H (by simp)
             ·rw [if_neg c11] at H
              exact absurd H (by simp)
            ·rw [if_neg c9] at H
             have c9b0 : decide (0 < x4_2) = false := decide_eq_false c9
             clear c9
             have H' := Aside0.mk H
             clear H
             have p107 : 0 ≤ (x3_1 : Int) := of_decide_eq_true (by first | (with_reducible assumption) | assumption)
             have q107 : x3_1 < (l0.length : Int) := of_decide_eq_true (by first | (with_reducible assumption) | assumption)
             obtain ⟨ad107, A107_0, c107_0, e107, hx107_0, hl107_0, hi107_0⟩ := at_L1 HR0.out x3_1 p107 q107
             cases e107
             have HR107_0 := Aside0.mk hi107_0
             have HC107_0 := Aside0.mk hl107_0
             clear hi107_0 hl107_0
             replace p107 := eq_true p107
             replace q107 := eq_true q107
             have p108 : 0 ≤ (x3_1 : Int) := of_decide_eq_true (by first | (with_reducible assumption) | assumption)
             have q108 : x3_1 < (l0.length : Int) := of_decide_eq_true (by first | (with_reducible assumption) | assumption)
             obtain ⟨ad108, A108_0, c108_0, e108, hx108_0, hl108_0, hi108_0⟩ := at_L1 HR0.out x3_1 p108 q108
             obtain rfl : ad107 = ad108 := (by injection e108)
             have HR108_0 := Aside0.mk hi108_0
             have HC108_0 := Aside0.mk hl108_0
             clear hi108_0 hl108_0
             replace p108 := eq_true p108
             replace q108 := eq_true q108
             have ea_ := Option.some.inj (hx107_0.symm.trans hx108_0)
             injection ea_ with ea_ en_ ec_
             subst ea_
             subst ec_
             clear en_
             have p109 : 0 ≤ (x4_2 : Int) := of_decide_eq_true (by first | (with_reducible assumption) | assumption)
             have q109 : x4_2 < ((rd_L1 l0 x3_1).length : Int) := of_decide_eq_true (by first | (with_reducible assumption) | assumption)
             obtain ⟨ad109, e109, hx109_0⟩ := Kd.at_int HR108_0.out x4_2 p109 q109
             cases e109
             replace p109 := eq_true p109
             replace q109 := eq_true q109
             have p110 : 0 ≤ (x3_1 : Int) := of_decide_eq_true (by first | (with_reducible assumption) | assumption)
             have q110 : x3_1 < (l0.length : Int) := of_decide_eq_true (by first | (with_reducible assumption) | assumption)
             obtain ⟨ad110, A110_0, c110_0, e110, hx110_0, hl110_0, hi110_0⟩ := at_L1 HR0.out x3_1 p110 q110
             obtain rfl : ad107 = ad110 := (by injection e110)
             have HR110_0 := Aside0.mk hi110_0
             have HC110_0 := Aside0.mk hl110_0
             clear hi110_0 hl110_0
             replace p110 := eq_true p110
             replace q110 := eq_true q110
             have ea_ := Option.some.inj (hx107_0.symm.trans hx110_0)
             injection ea_ with ea_ en_ ec_
             subst ea_
             subst ec_
             clear en_
             have p111 : 0 ≤ (x4_2 : Int) := of_decide_eq_true (by first | (with_reducible assumption) | assumption)
             have q111 : x4_2 < ((rd_L1 l0 x3_1).length : Int) := of_decide_eq_true (by first | (with_reducible assumption) | assumption)
             obtain ⟨ad111, e111, hx111_0⟩ := Kd.at_int HR110_0.out x4_2 p111 q111
             cases e111
             replace p111 := eq_true p111
             replace q111 := eq_true q111
             go_wp2
             repeat (go_quiet (fail); try go_wp2)
             go_roundg k2
             case measure => have := HK1.out; have := HK2.out; omega
             case rel => exact ⟨(wrap64 (x4_2 + 1)), (by first | rfl | (simp; done) | (simp [*]; done)), H', ⟨by have := HK1.out; have := HK2.out; omega⟩, by repeat (first | exact Drawn0.refl _ | apply Drawn0.step)⟩
         ·rw [if_neg c6] at H
          exact absurd H (by simp)
        ·rw [if_neg c5] at H
         have c5b0 : decide (x4_2 < ((rd_L1 l0 x3_1).length : Int)) = false := decide_eq_false c5
         clear c5
         have H' := Aside0.mk H
         clear H
         have p107 : 0 ≤ (x3_1 : Int) := of_decide_eq_true (by first | (with_reducible assumption) | assumption)
         have q107 : x3_1 < (l0.length : Int) := of_decide_eq_true (by first | (with_reducible assumption) | assumption)
         obtain ⟨ad107, A107_0, c107_0, e107, hx107_0, hl107_0, hi107_0⟩ := at_L1 HR0.out x3_1 p107 q107
         cases e107
         have HR107_0 := Aside0.mk hi107_0
         have HC107_0 := Aside0.mk hl107_0
         clear hi107_0 hl107_0
         replace p107 := eq_true p107
         replace q107 := eq_true q107
         go_wp2
         repeat (go_quiet (fail); try go_wp2)
         go_roundg k2
         case measure => have := HK1.out; have := HK2.out; omega
         case rel => exact ⟨(wrap64 (x3_1 + 1)), (by first | rfl | (simp; done) | (simp [*]; done)), H', ⟨by have := HK1.out; have := HK2.out; omega⟩, by repeat (first | exact Drawn0.refl _ | apply Drawn0.step)⟩
       ·rw [if_neg c4] at H
        exact absurd H (by simp)
      ·rw [if_neg c3] at H
       exact absurd H (by simp)
   ·rw [if_neg c2] at H
    have c2b0 : decide (x3_1 < (l0.length : Int)) = false := decide_eq_false c2
    clear c2
    obtain rfl := Option.some.inj H
    go_wp2
    repeat (go_quiet (fail); try go_wp2)
    go_ret
    exact ⟨by first | rfl | (simp; done) | (simp [*]; done), by repeat (first | exact Drawn0.refl _ | apply Drawn0.step)⟩
mutual
def r12_Turn.l0 : Nat → List (List Int) → List (List Int) → Int → Option ((List (List Int)))
  | 0, _, _, _ => none
  | k + 1, x0, x3, x4 => if x4 < (x0.length : Int) then (r12_Turn.l1 k x0 x3 x4 (([] : List Int)) 0) else (some x3)
def r12_Turn.l1 : Nat → List (List Int) → List (List Int) → Int → List Int → Int → Option ((List (List Int)))
  | 0, _, _, _, _, _ => none
  | k + 1, x0, x3, x4, x5, x6 => if x6 < (x0.length : Int) then (if 0 ≤ x6 then ((r12_Has.f k (rd_L1 x0 x6) x4).bind fun t124 => (if t124 = true then (if x5.length < 17592186044416 then (r12_Turn.l1 k x0 x3 x4 (x5 ++ [x6]) (wrap64 (x6 + 1))) else (none)) else (r12_Turn.l1 k x0 x3 x4 x5 (wrap64 (x6 + 1))))) else (none)) else (if x3.length < 5864062014805 then (r12_Turn.l0 k x0 (x3 ++ [x5]) (wrap64 (x4 + 1))) else (none))
end
def r12_Turn.f (k : Nat) (l0 : List (List Int)) : Option ((List (List Int))) := (r12_May.f k l0).bind fun t116 => (if t116 = true then (r12_Turn.l0 k l0 (([] : List (List Int))) 0) else (some ([] : List (List Int))))
set_option maxHeartbeats 8000000 in
set_option maxRecDepth 100000 in
theorem r12_Turn.calls (k : Nat) (A0 : Option Addr) (c0 : Nat) (l0 : List (List Int)) (r : List (List Int)) (w : World) (hr0 : Kd.C (Kd.slice 3 (Kd.int .i64)) w A0 l0.length l0) (hc0 : l0.length ≤ c0) (h : r12_Turn.f k l0 = some r) :
    Calls Try.prog 20 #[.slice A0 l0.length c0] w fun e w' => ∃ v0_ : Value, e = .returned (v0_) ∧ Kd.S (Kd.slice 3 (Kd.int .i64)) 26 w' w.heap.size (fun _ => True) v0_ r ∧ Below w.heap.size w w' := by
 have HR0 := Aside0.mk hr0
 have HC0 := Aside0.mk hc0
 clear hr0 hc0
 have HB := Aside0.mk (Below.refl w.heap.size w)
 have H : ((r12_May.f k l0).bind fun t116 => (if t116 = true then (r12_Turn.l0 k l0 (([] : List (List Int))) 0) else (some ([] : List (List Int))))) = some r := h
 clear h
 replace H := Option.bind_eq_some_iff.mp H
 obtain ⟨t116, A20, H⟩ := H
 replace H : (if t116 = true then (r12_Turn.l0 k l0 (([] : List (List Int))) 0) else (some ([] : List (List Int)))) = some r := H
 have A2 := Aside0.mk A20
 clear A20
 by_cases c3 : t116 = true
 ·subst c3
  have H1 : (r12_Turn.l0 k l0 (([] : List (List Int))) 0) = some r := by rw [if_pos rfl] at H; exact H
  clear H
  have H := H1
  clear H1
  obtain ⟨y117, hy117⟩ : ∃ y_ : List (List Int), y_ = (([] : List (List Int))) := ⟨_, rfl⟩
  replace H : (r12_Turn.l0 k l0 y117 0) = some r := by first | (rw [hy117]; with_reducible exact H) | (have H2_ := (Option.bind_some _ _).symm.trans H; rw [hy117]; with_reducible exact H2_) | (have H2_ := (Option.bind_some _ _).symm.trans H; with_reducible exact H2_) | with_reducible exact H | (rw [hy117]; exact H) | exact H
  have Ny117 := Aside0.mk hy117
  clear hy117
  have H' := Aside0.mk H
  clear H
  go_enter Try.func20, Try.ntmps20
  go_wp2_with (first | ((with_reducible refine gate_callee (f := 17) rfl ?_); refine goesL_ (some 8) rfl rfl Try.func17 (by kernel_rfl) rfl #[.slice A0 l0.length c0] rfl (by (try simp only [List.map_toArray, List.map_cons, List.map_nil]); first | done | rfl | (simp only [List.length_drop, List.length_take]; rfl)) ?_; (with_reducible refine (r12_May.calls k _ _ l0 true _ ?side1 ?side2 A2.out).mono ?_); (case side1 => repeat (first | exact HR0.out | (with_reducible refine Kd.C_alloc ?_ _) | (with_reducible refine Kd.C_drewN ?_ _) | (with_reducible refine Kd.C_drew ?_))); (case side2 => exact HC0.out); rintro e w' ⟨rfl, ⟨nd, rfl⟩⟩; refine ⟨_, rfl, ?_⟩) | ((with_reducible refine gate_dst (N := 10) rfl ?_); refine Kd.S_lit (Kd.slice 3 (Kd.int .i64)) _ 26 ?hg (N := 10) ?hd (xs := ([] : List (List Int))) (inner := []) (ok := fun _ => True) (okp := fun _ => True) ?hr ?hp (fun _ hk => hk) trivial (Below.refl _ _) (Nat.le_refl _) (by simp) ?_; (case hd => rfl); (case hg => rfl); (case hr => first | (go_simp; done) | (go_simp; rfl)); (case hp => exact (Reps.none _ _)); intro v118 w4 ho5 hb hg_ hnew_; clear hg_ hnew_; (first | rw [← Ny117.out] at ho5 | (simp only [Int.reduceToNat] at ho5; rw [← Ny117.out] at ho5)); have n0_ := Aside0.mk (Kd.S_lower ho5 (below_size (by repeat (first | (with_reducible first | exact HB.out | apply below_alloc | apply pw_below_drewN | apply below_drew1) | exact HB.out)))); have n1_ := Aside0.mk (below_step (by repeat (first | (with_reducible first | exact HB.out | apply below_alloc | apply pw_below_drewN | apply below_drew1) | exact HB.out)) hb); clear HB; have HO119 := n0_; have HB := n1_; clear n0_ n1_; clear hb ho5))
  go_loopg [3, 4] k (fun kq v3 v4 w' => ∃ (x3_1 : List (List Int)) (x4_1 : Int), v4 = .int .i64 x4_1 ∧ Aside0 (r12_Turn.l0 kq l0 x3_1 x4_1 = some r) ∧ Aside0 (kq ≤ k) ∧ Aside0 (Kd.S (Kd.slice 3 (Kd.int .i64)) 26 w' w.heap.size (fun _ => True) v3 x3_1) ∧ Aside0 (Below w.heap.size w w'))
  case atStart => exact ⟨(y117), (0), (by first | rfl | (simp; done) | (simp [*]; done)), H', ⟨Nat.le_refl _⟩, ⟨by (with_reducible repeat (first | apply Kd.S_alloc | apply Kd.S_drewN | apply Kd.S_drew)); exact HO119.out⟩, ⟨by repeat (first | (with_reducible first | exact HB.out | apply below_alloc | apply pw_below_drewN | apply below_drew1) | exact HB.out)⟩⟩
  case round =>
   clear H'
   try clear c1
   try clear c2
   try clear p2
   try clear c3
   obtain ⟨x3_1, x4_1, rfl, HA, HK1, HO_3, HB⟩ := hrel
   cases gk with
   | zero => exact absurd HA.out (by simp [r12_Turn.l0])
   | succ k1 =>
    have H := HA.out
    clear HA
    simp only [r12_Turn.l0] at H
    by_cases c6 : x4_1 < (l0.length : Int)
    ·rw [if_pos c6] at H
     have c6b0 : decide (x4_1 < (l0.length : Int)) = true := decide_eq_true c6
     clear c6
     obtain ⟨y120, hy120⟩ : ∃ y_ : List Int, y_ = (([] : List Int)) := ⟨_, rfl⟩
     replace H : (r12_Turn.l1 k1 l0 x3_1 x4_1 y120 0) = some r := by first | (rw [hy120]; with_reducible exact H) | (have H2_ := (Option.bind_some _ _).symm.trans H; rw [hy120]; with_reducible exact H2_) | (have H2_ := (Option.bind_some _ _).symm.trans H; with_reducible exact H2_) | with_reducible exact H | (rw [hy120]; exact H) | exact H
     have Ny120 := Aside0.mk hy120
     clear hy120
     have H' := Aside0.mk H
     clear H
     go_wp2_with (first | ((with_reducible refine gate_dst (N := 17) rfl ?_); refine Kd.R_lit (Kd.int .i64) _ 3 ?hg (N := 17) ?hd (xs := ([] : List Int)) (inner := []) (ok := fun _ => True) (okp := fun _ => True) ?hr ?hp (fun _ hk => hk) trivial (Below.refl _ _) (Nat.le_refl _) (by simp) ?_; (case hd => rfl); (case hg => rfl); (case hr => first | (go_simp; done) | (go_simp; rfl)); (case hp => exact (Reps.none _ _)); intro v121 w7 ho8 hb hg_ hnew_; clear hg_ hnew_; (first | rw [← Ny120.out] at ho8 | (simp only [Int.reduceToNat] at ho8; rw [← Ny120.out] at ho8)); have n0_ := Aside0.mk (Kd.S_elder' (by (with_reducible repeat (first | apply Kd.S_alloc | apply Kd.S_drewN | apply Kd.S_drew)); exact HO_3.out) (Kd.R_base ho8) hb); have n1_ := Aside0.mk (Kd.R_lower ho8 (below_size (by repeat (first | (with_reducible first | exact HB.out | apply below_alloc | apply pw_below_drewN | apply below_drew1) | exact HB.out)))); have n2_ := Aside0.mk (below_step (by repeat (first | (with_reducible first | exact HB.out | apply below_alloc | apply pw_below_drewN | apply below_drew1) | exact HB.out)) hb); clear HO_3; clear HB; have HO_3 := n0_; have HO122 := n1_; have HB := n2_; clear n0_ n1_ n2_; clear hb ho8))
     go_loopg [5, 6] k1 (fun kq v5 v6 w' => ∃ (x5_2 : List Int) (x6_2 : Int), v6 = .int .i64 x6_2 ∧ Aside0 (r12_Turn.l1 kq l0 x3_1 x4_1 x5_2 x6_2 = some r) ∧ Aside0 (kq ≤ k1) ∧ Aside0 (Kd.S (Kd.slice 3 (Kd.int .i64)) 26 w' w.heap.size (fun k_ => some k_ ≠ (v5 : Value).ownBlock) u3 x3_1) ∧ Aside0 (Kd.R (Kd.int .i64) 3 w' w.heap.size (fun _ => True) v5 x5_2) ∧ Aside0 (Below w.heap.size w w'))
     case atStart => exact ⟨(y120), (0), (by first | rfl | (simp; done) | (simp [*]; done)), H', ⟨Nat.le_refl _⟩, ⟨by (with_reducible repeat (first | apply Kd.S_alloc | apply Kd.S_drewN | apply Kd.S_drew)); exact Kd.S_mono HO_3.out (fun _ hk => hk.2)⟩, ⟨by (with_reducible repeat (first | apply Kd.R_alloc | apply Kd.R_drewN | apply Kd.R_drew)); exact HO122.out⟩, ⟨by repeat (first | (with_reducible first | exact HB.out | apply below_alloc | apply pw_below_drewN | apply below_drew1) | exact HB.out)⟩⟩
     case round =>
      clear H'
      try clear c1
      try clear c2
      try clear p2
      try clear c3
      try clear c6
      try clear c6b0
      try clear p2
      obtain ⟨x5_2, x6_2, rfl, HA, HK2, HO_3, HO_5, HB⟩ := hrel
      cases gk with
      | zero => exact absurd HA.out (by simp [r12_Turn.l1])
      | succ k2 =>
       have H := HA.out
       clear HA
       simp only [r12_Turn.l1] at H
       by_cases c9 : x6_2 < (l0.length : Int)
       ·rw [if_pos c9] at H
        have c9b0 : decide (x6_2 < (l0.length : Int)) = true := decide_eq_true c9
        clear c9
        by_cases c10 : 0 ≤ x6_2
        ·rw [if_pos c10] at H
         have c10b0 : decide (0 ≤ x6_2) = true := decide_eq_true c10
         clear c10
         replace H := Option.bind_eq_some_iff.mp H
         obtain ⟨t124, A110, H⟩ := H
         replace H : (if t124 = true then (if x5_2.length < 17592186044416 then (r12_Turn.l1 k2 l0 x3_1 x4_1 (x5_2 ++ [x6_2]) (wrap64 (x6_2 + 1))) else (none)) else (r12_Turn.l1 k2 l0 x3_1 x4_1 x5_2 (wrap64 (x6_2 + 1)))) = some r := H
         have A11 := Aside0.mk A110
         clear A110
         by_cases c12 : t124 = true
         ·subst c12
          have H1 : (if x5_2.length < 17592186044416 then (r12_Turn.l1 k2 l0 x3_1 x4_1 (x5_2 ++ [x6_2]) (wrap64 (x6_2 + 1))) else (none)) = some r := by rw [if_pos rfl] at H; exact H
          clear H
          have H := H1
          clear H1
          by_cases c13 : x5_2.length < 17592186044416
          ·rw [if_pos c13] at H
           have LMc13 := Aside0.mk c13
           clear c13
           obtain ⟨y125, hy125⟩ : ∃ y_ : List Int, y_ = (x5_2 ++ [x6_2]) := ⟨_, rfl⟩
           replace H : (r12_Turn.l1 k2 l0 x3_1 x4_1 y125 (wrap64 (x6_2 + 1))) = some r := by first | (rw [hy125]; with_reducible exact H) | (have H2_ := (Option.bind_some _ _).symm.trans H; rw [hy125]; with_reducible exact H2_) | (have H2_ := (Option.bind_some _ _).symm.trans H; with_reducible exact H2_) | with_reducible exact H | (rw [hy125]; exact H) | exact H
           have Ny125 := Aside0.mk hy125
           clear hy125
           have H' := Aside0.mk H
           clear H
           have p123 : 0 ≤ (x6_2 : Int) := of_decide_eq_true (by first | (with_reducible assumption) | assumption)
           have q123 : x6_2 < (l0.length : Int) := of_decide_eq_true (by first | (with_reducible assumption) | assumption)
           obtain ⟨ad123, A123_0, c123_0, e123, hx123_0, hl123_0, hi123_0⟩ := at_L1 HR0.out x6_2 p123 q123
           cases e123
           replace hx123_0 := (HB.out.cell (World.block_lt_of_cell? w _ hx123_0)).trans hx123_0
           have HR123_0 := Aside0.mk hi123_0
           have HC123_0 := Aside0.mk hl123_0
           clear hi123_0 hl123_0
           replace p123 := eq_true p123
           replace q123 := eq_true q123
           go_wp2_with (first | ((with_reducible refine gate_callee (f := 18) rfl ?_); refine goesL_ (some 29) rfl rfl Try.func18 (by kernel_rfl) rfl #[.slice A123_0 (rd_L1 l0 x6_2).length c123_0, .int .i64 x4_1] rfl (by (try simp only [List.map_toArray, List.map_cons, List.map_nil]); first | done | rfl | (simp only [List.length_drop, List.length_take]; rfl)) ?_; (with_reducible refine (r12_Has.calls k2 _ _ (rd_L1 l0 x6_2) x4_1 true _ ?side1 ?side2 A11.out).mono ?_); (case side1 => repeat (first | exact (Kd.C_below HR123_0.out HB.out) | (with_reducible refine Kd.C_alloc ?_ _) | (with_reducible refine Kd.C_drewN ?_ _) | (with_reducible refine Kd.C_drew ?_))); (case side2 => exact HC123_0.out); rintro e w' ⟨rfl, ⟨nd, rfl⟩⟩; refine ⟨_, rfl, ?_⟩) | ((with_reducible refine gate_builtin (b := .append) (xs := #[.tmp 30, .tmp 32]) rfl ?_); at_builtin; refine Kd.R_append (Kd.int .i64) (w0 := w) w.heap.size rfl (.tmp 30) (.tmp 32) 26 3 (.int .i64 0) 8 rfl Try.underlying26 info3 rfl (by decide) (by omega) u5 x5_2 x6_2 [.int .i64 x6_2] (fun _ => True) (fun _ => False) rfl rfl ?aP (fun _ hk => hk.elim) ?aF ?aO ?aB ?aS ?aL ?_; (case aP => exact rfl); (case aB => exact (by repeat (first | (with_reducible first | exact HB.out | apply below_alloc | apply pw_below_drewN | apply below_drew1) | exact HB.out))); (case aF => exact (fun _ _ => trivial)); (case aO => exact (by (with_reducible repeat (first | apply Kd.R_alloc | apply Kd.R_drewN | apply Kd.R_drew)); exact HO_5.out)); (case aS => exact (below_size (by repeat (first | (with_reducible first | exact HB.out | apply below_alloc | apply pw_below_drewN | apply below_drew1) | exact HB.out)))); (case aL => have := LMc13.out; omega); intro v126 w14 ho hb hg hat; rw [← Ny125.out] at ho; have n0_ := Aside0.mk (Kd.S_after (ok := (fun _ => True)) (by (with_reducible repeat (first | apply Kd.S_alloc | apply Kd.S_drewN | apply Kd.S_drew)); exact Kd.S_mono HO_3.out (fun _ hk => ⟨trivial, hk⟩)) hg hat); have n1_ := Aside0.mk (hb); have n2_ := Aside0.mk (ho); clear HO_3; clear HB; clear HO_5; have HO_3 := n0_; have HB := n1_; have HO127 := n2_; clear n0_ n1_ n2_; clear ho hb hg hat))
           go_roundg k2
           case measure => have := HK1.out; have := HK2.out; omega
           case rel => exact ⟨(y125), (wrap64 (x6_2 + 1)), (by first | rfl | (simp; done) | (simp [*]; done)), H', ⟨by have := HK1.out; have := HK2.out; omega⟩, ⟨by (with_reducible repeat (first | apply Kd.S_alloc | apply Kd.S_drewN | apply Kd.S_drew)); exact Kd.S_mono HO_3.out (fun _ hk => hk.2)⟩, ⟨by (with_reducible repeat (first | apply Kd.R_alloc | apply Kd.R_drewN | apply Kd.R_drew)); exact HO127.out⟩, ⟨by repeat (first | (with_reducible first | exact HB.out | apply below_alloc | apply pw_below_drewN | apply below_drew1) | exact HB.out)⟩⟩
          ·rw [if_neg c13] at H
           exact absurd H (by simp)
         ·replace c12 := Bool.eq_false_iff.mpr c12
          subst c12
          have H1 : (r12_Turn.l1 k2 l0 x3_1 x4_1 x5_2 (wrap64 (x6_2 + 1))) = some r := by rw [if_neg (show ¬ (false = true) by decide)] at H; exact H
          clear H
          have H := H1
          clear H1
          have H' := Aside0.mk H
          clear H
          have p123 : 0 ≤ (x6_2 : Int) := of_decide_eq_true (by first | (with_reducible assumption) | assumption)
          have q123 : x6_2 < (l0.length : Int) := of_decide_eq_true (by first | (with_reducible assumption) | assumption)
          obtain ⟨ad123, A123_0, c123_0, e123, hx123_0, hl123_0, hi123_0⟩ := at_L1 HR0.out x6_2 p123 q123
          cases e123
          replace hx123_0 := (HB.out.cell (World.block_lt_of_cell? w _ hx123_0)).trans hx123_0
          have HR123_0 := Aside0.mk hi123_0
          have HC123_0 := Aside0.mk hl123_0
          clear hi123_0 hl123_0
          replace p123 := eq_true p123
          replace q123 := eq_true q123
          go_wp2_with (first | ((with_reducible refine gate_callee (f := 18) rfl ?_); refine goesL_ (some 29) rfl rfl Try.func18 (by kernel_rfl) rfl #[.slice A123_0 (rd_L1 l0 x6_2).length c123_0, .int .i64 x4_1] rfl (by (try simp only [List.map_toArray, List.map_cons, List.map_nil]); first | done | rfl | (simp only [List.length_drop, List.length_take]; rfl)) ?_; (with_reducible refine (r12_Has.calls k2 _ _ (rd_L1 l0 x6_2) x4_1 false _ ?side1 ?side2 A11.out).mono ?_); (case side1 => repeat (first | exact (Kd.C_below HR123_0.out HB.out) | (with_reducible refine Kd.C_alloc ?_ _) | (with_reducible refine Kd.C_drewN ?_ _) | (with_reducible refine Kd.C_drew ?_))); (case side2 => exact HC123_0.out); rintro e w' ⟨rfl, ⟨nd, rfl⟩⟩; refine ⟨_, rfl, ?_⟩))
          go_roundg k2
          case measure => have := HK1.out; have := HK2.out; omega
          case rel => exact ⟨(x5_2), (wrap64 (x6_2 + 1)), (by first | rfl | (simp; done) | (simp [*]; done)), H', ⟨by have := HK1.out; have := HK2.out; omega⟩, ⟨by (with_reducible repeat (first | apply Kd.S_alloc | apply Kd.S_drewN | apply Kd.S_drew)); exact HO_3.out⟩, ⟨by (with_reducible repeat (first | apply Kd.R_alloc | apply Kd.R_drewN | apply Kd.R_drew)); exact HO_5.out⟩, ⟨by repeat (first | (with_reducible first | exact HB.out | apply below_alloc | apply pw_below_drewN | apply below_drew1) | exact HB.out)⟩⟩
        ·rw [if_neg c10] at H
         exact absurd H (by simp)
       ·rw [if_neg c9] at H
        have c9b0 : decide (x6_2 < (l0.length : Int)) = false := decide_eq_false c9
        clear c9
        by_cases c15 : x3_1.length < 5864062014805
        ·rw [if_pos c15] at H
         have LMc15 := Aside0.mk c15
         clear c15
         obtain ⟨y128, hy128⟩ : ∃ y_ : List (List Int), y_ = (x3_1 ++ [x5_2]) := ⟨_, rfl⟩
         replace H : (r12_Turn.l0 k2 l0 y128 (wrap64 (x4_1 + 1))) = some r := by first | (rw [hy128]; with_reducible exact H) | (have H2_ := (Option.bind_some _ _).symm.trans H; rw [hy128]; with_reducible exact H2_) | (have H2_ := (Option.bind_some _ _).symm.trans H; with_reducible exact H2_) | with_reducible exact H | (rw [hy128]; exact H) | exact H
         have Ny128 := Aside0.mk hy128
         clear hy128
         have H' := Aside0.mk H
         clear H
         obtain ⟨Ao17, co17, eo17⟩ := Kd.R_slice HO_5.out
         subst eo17
         go_wp2_with (first | ((with_reducible refine gate_builtin (b := .append) (xs := #[.tmp 34, .tmp 36]) rfl ?_); at_builtin; refine Kd.S_append (Kd.slice 3 (Kd.int .i64)) (w0 := w) w.heap.size rfl (.tmp 34) (.tmp 36) 22 26 (.slice none 0 0) 24 rfl Try.underlying22 info26 rfl (by decide) (by omega) u3 x3_1 x5_2 [.slice Ao17 x5_2.length co17] (fun _ => True) (fun k_ => some k_ = (.slice Ao17 x5_2.length co17 : Value).ownBlock) rfl rfl ?aP (fun k_ hk_ => ((Kd.R_mono (ok' := fun k_ => ((fun _ => True)) k_ ∧ some k_ ≠ (u3 : Value).ownBlock) (Kd.R_apart' (HO_5.out) (Kd.S_typed HO_3.out) (by decide)) (fun k_ hk => ⟨trivial, hk.2⟩))).1 k_ hk_.symm) ?aF ?aO ?aB ?aS ?aL ?_; (case aP => exact Kd.M_row (Kd.R_mono (Kd.R_tight rfl (Kd.R_mono (ok' := fun k_ => ((fun _ => True)) k_ ∧ some k_ ≠ (u3 : Value).ownBlock) (Kd.R_apart' (HO_5.out) (Kd.S_typed HO_3.out) (by decide)) (fun k_ hk => ⟨trivial, hk.2⟩))) (fun _ h_ => h_))); (case aB => exact (by repeat (first | (with_reducible first | exact HB.out | apply below_alloc | apply pw_below_drewN | apply below_drew1) | exact HB.out))); (case aF => exact (fun _ _ => trivial)); (case aO => exact (by (with_reducible repeat (first | apply Kd.S_alloc | apply Kd.S_drewN | apply Kd.S_drew)); exact Kd.S_mono HO_3.out (fun k_ hk => ⟨trivial, fun e_ => hk e_⟩))); (case aS => exact (below_size (by repeat (first | (with_reducible first | exact HB.out | apply below_alloc | apply pw_below_drewN | apply below_drew1) | exact HB.out)))); (case aL => have := LMc15.out; omega); intro v129 w16 ho hb hg hat; rw [← Ny128.out] at ho; have n0_ := Aside0.mk (hb); have n1_ := Aside0.mk (ho); clear HB; clear HO_3; clear HO_5; have HB := n0_; have HO130 := n1_; clear n0_ n1_; clear ho hb hg hat))
         go_roundg k2
         case measure => have := HK1.out; have := HK2.out; omega
         case rel => exact ⟨(y128), (wrap64 (x4_1 + 1)), (by first | rfl | (simp; done) | (simp [*]; done)), H', ⟨by have := HK1.out; have := HK2.out; omega⟩, ⟨by (with_reducible repeat (first | apply Kd.S_alloc | apply Kd.S_drewN | apply Kd.S_drew)); exact HO130.out⟩, ⟨by repeat (first | (with_reducible first | exact HB.out | apply below_alloc | apply pw_below_drewN | apply below_drew1) | exact HB.out)⟩⟩
        ·rw [if_neg c15] at H
         exact absurd H (by simp)
    ·rw [if_neg c6] at H
     have c6b0 : decide (x4_1 < (l0.length : Int)) = false := decide_eq_false c6
     clear c6
     obtain rfl := Option.some.inj H
     go_wp2
     go_ret
     exact ⟨_, by first | rfl | (simp [errW_none, errW_some] <;> rfl) | (simp [*, errW_none, errW_some] <;> rfl), by (with_reducible repeat (first | apply Kd.S_alloc | apply Kd.S_drewN | apply Kd.S_drew)); exact HO_3.out, by repeat (first | (with_reducible first | exact HB.out | apply below_alloc | apply pw_below_drewN | apply below_drew1) | exact HB.out)⟩
 ·replace c3 := Bool.eq_false_iff.mpr c3
  subst c3
  have H1 : (some ([] : List (List Int))) = some r := by rw [if_neg (show ¬ (false = true) by decide)] at H; exact H
  clear H
  have H := H1
  clear H1
  obtain rfl := Option.some.inj H
  go_enter Try.func20, Try.ntmps20
  go_wp2_with (first | ((with_reducible refine gate_callee (f := 17) rfl ?_); refine goesL_ (some 8) rfl rfl Try.func17 (by kernel_rfl) rfl #[.slice A0 l0.length c0] rfl (by (try simp only [List.map_toArray, List.map_cons, List.map_nil]); first | done | rfl | (simp only [List.length_drop, List.length_take]; rfl)) ?_; (with_reducible refine (r12_May.calls k _ _ l0 false _ ?side1 ?side2 A2.out).mono ?_); (case side1 => repeat (first | exact HR0.out | (with_reducible refine Kd.C_alloc ?_ _) | (with_reducible refine Kd.C_drewN ?_ _) | (with_reducible refine Kd.C_drew ?_))); (case side2 => exact HC0.out); rintro e w' ⟨rfl, ⟨nd, rfl⟩⟩; refine ⟨_, rfl, ?_⟩))
  go_ret
  exact ⟨_, by first | rfl | (simp [errW_none, errW_some] <;> rfl) | (simp [*, errW_none, errW_some] <;> rfl), by first | exact Kd.S_nil _ _ _ _ _ | exact Kd.N_nil _ _ _ _ _ | exact Kd.V_nil _ _ _ _ _ | exact Kd.Q_nil _ _ _ _ _ | exact Kd.R_nil _ _ _ _ _, by repeat (first | (with_reducible first | exact HB.out | apply below_alloc | apply pw_below_drewN | apply below_drew1) | exact HB.out)⟩
mutual
def r12_Reach.j0 : Nat → List (List Int) → Int → Bool → Option (List Int)
  | 0, _, _, _ => none
  | k + 1, x0, x1, x25 => if x25 = true then (some ([] : List Int)) else (r12_Reach.l0 k x0 x1 (([] : List Bool)) 0)
def r12_Reach.l0 : Nat → List (List Int) → Int → List Bool → Int → Option (List Int)
  | 0, _, _, _, _ => none
  | k + 1, x0, x1, x5, x6 => if x6 < (x0.length : Int) then (if x5.length < 140737488355328 then (r12_Reach.l0 k x0 x1 (x5 ++ [(x6 == x1)]) (wrap64 (x6 + 1))) else (none)) else (r12_Reach.l1 k x0 x5 0)
def r12_Reach.j5 : Nat → List (List Int) → List Bool → Option (List Int)
  | 0, _, _ => none
  | k + 1, x0, x5 => r12_Reach.l4 k x0 x5 (([] : List Int)) 0
def r12_Reach.l4 : Nat → List (List Int) → List Bool → List Int → Int → Option (List Int)
  | 0, _, _, _, _ => none
  | k + 1, x0, x5, x11, x12 => if x12 < (x0.length : Int) then (if 0 ≤ x12 then (if x12 < (x5.length : Int) then (if rdOf false x5 x12 = true then (if x11.length < 17592186044416 then (r12_Reach.l4 k x0 x5 (x11 ++ [x12]) (wrap64 (x12 + 1))) else (none)) else (r12_Reach.l4 k x0 x5 x11 (wrap64 (x12 + 1)))) else (none)) else (none)) else (some x11)
def r12_Reach.l1 : Nat → List (List Int) → List Bool → Int → Option (List Int)
  | 0, _, _, _ => none
  | k + 1, x0, x5, x7 => if x7 < (x0.length : Int) then (r12_Reach.l2 k x0 x5 x7 false 0) else (r12_Reach.j5 k x0 x5)
def r12_Reach.l2 : Nat → List (List Int) → List Bool → Int → Bool → Int → Option (List Int)
  | 0, _, _, _, _, _ => none
  | k + 1, x0, x5, x7, x8, x9 => if x9 < (x0.length : Int) then (r12_Reach.l3 k x0 x5 x7 x8 x9 0) else (if x8 = true then (r12_Reach.l1 k x0 x5 (wrap64 (x7 + 1))) else (r12_Reach.j5 k x0 x5))
def r12_Reach.l3 : Nat → List (List Int) → List Bool → Int → Bool → Int → Int → Option (List Int)
  | 0, _, _, _, _, _, _ => none
  | k + 1, x0, x5, x7, x8, x9, x10 => if 0 ≤ x9 then (if x9 < (x0.length : Int) then (if x10 < ((rd_L1 x0 x9).length : Int) then (if x9 < (x5.length : Int) then (if rdOf false x5 x9 = true then (if x8 = true then (if 0 ≤ x10 then (if 0 ≤ (rd (rd_L1 x0 x9) x10) then (if (rd (rd_L1 x0 x9) x10) < (x5.length : Int) then (r12_Reach.l3 k x0 (x5.set ((rd (rd_L1 x0 x9) x10) : Int).toNat true) x7 true x9 (wrap64 (x10 + 1))) else (none)) else (none)) else (none)) else (if 0 ≤ x10 then (if 0 ≤ (rd (rd_L1 x0 x9) x10) then (if (rd (rd_L1 x0 x9) x10) < (x5.length : Int) then (r12_Reach.l3 k x0 (x5.set ((rd (rd_L1 x0 x9) x10) : Int).toNat true) x7 (!(rdOf false x5 (rd (rd_L1 x0 x9) x10))) x9 (wrap64 (x10 + 1))) else (none)) else (none)) else (none))) else (r12_Reach.l2 k x0 x5 x7 x8 (wrap64 (x9 + 1)))) else (none)) else (r12_Reach.l2 k x0 x5 x7 x8 (wrap64 (x9 + 1)))) else (none)) else (none)
end
def r12_Reach.f (k : Nat) (l0 : List (List Int)) (a1 : Int) : Option (List Int) := (r12_May.f k l0).bind fun t131 => (if t131 = true then (if a1 < 0 then (r12_Reach.j0 k l0 a1 true) else (r12_Reach.j0 k l0 a1 (decide (a1 ≥ (l0.length : Int))))) else (r12_Reach.j0 k l0 a1 true))
mutual
def graph_May.l0 : Nat → List (List Int) → List (List Int) → Int → Int → Option (Bool)
  | 0, _, _, _, _ => none
  | k + 1, x0, x7, x8, x9 => if x9 < x8 then (if 0 ≤ x9 then (if x9 < (x7.length : Int) then (graph_May.l1 k x0 (rd_L1 x7 x9) x7 x8 x9 (rd_L1 x7 x9) ((rd_L1 x7 x9).length : Int) 0) else (none)) else (none)) else (some (decide ((x0.length : Int) ≤ 1000)))
def graph_May.l1 : Nat → List (List Int) → List Int → List (List Int) → Int → Int → List Int → Int → Int → Option (Bool)
  | 0, _, _, _, _, _, _, _, _ => none
  | k + 1, x0, x4, x7, x8, x9, x13, x14, x15 => if x15 < x14 then (if 0 ≤ x15 then (if x15 < (x13.length : Int) then (if (rd x13 x15) < 0 then (some false) else (if (rd x13 x15) ≥ (x0.length : Int) then (some false) else (if x15 > 0 then (if 0 ≤ (wrap64 (x15 - 1)) then (if (wrap64 (x15 - 1)) < (x4.length : Int) then (if (rd x4 (wrap64 (x15 - 1))) ≥ (rd x13 x15) then (some false) else (graph_May.l1 k x0 x4 x7 x8 x9 x13 x14 (wrap64 (x15 + 1)))) else (none)) else (none)) else (graph_May.l1 k x0 x4 x7 x8 x9 x13 x14 (wrap64 (x15 + 1)))))) else (none)) else (none)) else (graph_May.l0 k x0 x7 x8 (wrap64 (x9 + 1)))
end
def graph_May.f (k : Nat) (l0 : List (List Int)) : Option (Bool) := graph_May.l0 k l0 l0 (l0.length : Int) 0
set_option maxHeartbeats 8000000 in
set_option maxRecDepth 100000 in
theorem graph_May.calls (k : Nat) (A0 : Option Addr) (c0 : Nat) (l0 : List (List Int)) (r : Bool) (w : World) (hr0 : Kd.C (Kd.slice 3 (Kd.int .i64)) w A0 l0.length l0) (hc0 : l0.length ≤ c0) (h : graph_May.f k l0 = some r) :
    Calls Try.prog 21 #[.slice A0 l0.length c0] w fun e w' => e = .returned (.bool r) ∧ Drawn0 w w' := by
 have HR0 := Aside0.mk hr0
 have HC0 := Aside0.mk hc0
 clear hr0 hc0
 have H : (graph_May.l0 k l0 l0 (l0.length : Int) 0) = some r := h
 clear h
 have H' := Aside0.mk H
 clear H
 go_enter Try.func21, Try.ntmps21
 go_wp2
 go_loopg [9] k (fun kq v9 w' => ∃ (x9_1 : Int), v9 = .int .i64 x9_1 ∧ Aside0 (graph_May.l0 kq l0 l0 (l0.length : Int) x9_1 = some r) ∧ Aside0 (kq ≤ k) ∧ Drawn0 w w')
 case atStart => exact ⟨(0), (by first | rfl | (simp; done) | (simp [*]; done)), H', ⟨Nat.le_refl _⟩, by repeat (first | exact Drawn0.refl _ | apply Drawn0.step)⟩
 case round =>
  clear H'
  obtain ⟨x9_1, rfl, HA, HK1, ⟨m1, rfl⟩⟩ := hrel
  cases gk with
  | zero => exact absurd HA.out (by simp [graph_May.l0])
  | succ k1 =>
   have H := HA.out
   clear HA
   simp only [graph_May.l0] at H
   by_cases c2 : x9_1 < (l0.length : Int)
   ·rw [if_pos c2] at H
    have c2b0 : decide (x9_1 < (l0.length : Int)) = true := decide_eq_true c2
    clear c2
    by_cases c3 : 0 ≤ x9_1
    ·rw [if_pos c3] at H
     have c3b0 : decide (0 ≤ x9_1) = true := decide_eq_true c3
     clear c3
     by_cases c4 : x9_1 < (l0.length : Int)
     ·rw [if_pos c4] at H
      have c4b0 : decide (x9_1 < (l0.length : Int)) = true := decide_eq_true c4
      clear c4
      have H' := Aside0.mk H
      clear H
      have p156 : 0 ≤ (x9_1 : Int) := of_decide_eq_true (by first | (with_reducible assumption) | assumption)
      have q156 : x9_1 < (l0.length : Int) := of_decide_eq_true (by first | (with_reducible assumption) | assumption)
      obtain ⟨ad156, A156_0, c156_0, e156, hx156_0, hl156_0, hi156_0⟩ := at_L1 HR0.out x9_1 p156 q156
      cases e156
      have HR156_0 := Aside0.mk hi156_0
      have HC156_0 := Aside0.mk hl156_0
      clear hi156_0 hl156_0
      replace p156 := eq_true p156
      replace q156 := eq_true q156
      go_wp2
      go_loopg [15] k1 (fun kq v15 w' => ∃ (x15_2 : Int), v15 = .int .i64 x15_2 ∧ Aside0 (graph_May.l1 kq l0 (rd_L1 l0 x9_1) l0 (l0.length : Int) x9_1 (rd_L1 l0 x9_1) ((rd_L1 l0 x9_1).length : Int) x15_2 = some r) ∧ Aside0 (kq ≤ k1) ∧ Drawn0 w w')
      case atStart => exact ⟨(0), (by first | rfl | (simp; done) | (simp [*]; done)), H', ⟨Nat.le_refl _⟩, by repeat (first | exact Drawn0.refl _ | apply Drawn0.step)⟩
      case round =>
       clear H'
       try clear c1
       try clear p1
       try clear q1
       try clear hx1
       try clear c2
       try clear c2b0
       try clear p2
       try clear c3
       try clear c3b0
       try clear c4
       try clear c4b0
       try clear hx156_0
       try clear p156
       try clear q156
       obtain ⟨x15_2, rfl, HA, HK2, ⟨m2, rfl⟩⟩ := hrel
       cases gk with
       | zero => exact absurd HA.out (by simp [graph_May.l1])
       | succ k2 =>
        have H := HA.out
        clear HA
        simp only [graph_May.l1] at H
        by_cases c5 : x15_2 < ((rd_L1 l0 x9_1).length : Int)
        ·rw [if_pos c5] at H
         have c5b0 : decide (x15_2 < ((rd_L1 l0 x9_1).length : Int)) = true := decide_eq_true c5
         clear c5
         by_cases c6 : 0 ≤ x15_2
         ·rw [if_pos c6] at H
          have c6b0 : decide (0 ≤ x15_2) = true := decide_eq_true c6
          clear c6
          by_cases c7 : x15_2 < ((rd_L1 l0 x9_1).length : Int)
          ·rw [if_pos c7] at H
           have c7b0 : decide (x15_2 < ((rd_L1 l0 x9_1).length : Int)) = true := decide_eq_true c7
           clear c7
           by_cases c8 : (rd (rd_L1 l0 x9_1) x15_2) < 0
           ·rw [if_pos c8] at H
            have c8b0 : decide ((rd (rd_L1 l0 x9_1) x15_2) < 0) = true := decide_eq_true c8
            clear c8
            obtain rfl := Option.some.inj H
            have p157 : 0 ≤ (x15_2 : Int) := of_decide_eq_true (by first | (with_reducible assumption) | assumption)
            have q157 : x15_2 < ((rd_L1 l0 x9_1).length : Int) := of_decide_eq_true (by first | (with_reducible assumption) | assumption)
            obtain ⟨ad157, e157, hx157_0⟩ := Kd.at_int HR156_0.out x15_2 p157 q157
            cases e157
            replace p157 := eq_true p157
            replace q157 := eq_true q157
            go_wp2
            go_ret
            exact ⟨by first | rfl | (simp; done) | (simp [*]; done), by repeat (first | exact Drawn0.refl _ | apply Drawn0.step)⟩
           ·rw [if_neg c8] at H
            have c8b0 : decide ((rd (rd_L1 l0 x9_1) x15_2) < 0) = false := decide_eq_false c8
            clear c8
            by_cases c9 : (rd (rd_L1 l0 x9_1) x15_2) ≥ (l0.length : Int)
            ·rw [if_pos c9] at H
             have c9b0 : decide ((l0.length : Int) ≤ (rd (rd_L1 l0 x9_1) x15_2)) = true := decide_eq_true c9
             clear c9
             obtain rfl := Option.some.inj H
             have p157 : 0 ≤ (x15_2 : Int) := of_decide_eq_true (by first | (with_reducible assumption) | assumption)
             have q157 : x15_2 < ((rd_L1 l0 x9_1).length : Int) := of_decide_eq_true (by first | (with_reducible assumption) | assumption)
             obtain ⟨ad157, e157, hx157_0⟩ := Kd.at_int HR156_0.out x15_2 p157 q157
             cases e157
             replace p157 := eq_true p157
             replace q157 := eq_true q157
             go_wp2
             go_ret
             exact ⟨by first | rfl | (simp; done) | (simp [*]; done), by repeat (first | exact Drawn0.refl _ | apply Drawn0.step)⟩
            ·rw [if_neg c9] at H
             have c9b0 : decide ((l0.length : Int) ≤ (rd (rd_L1 l0 x9_1) x15_2)) = false := decide_eq_false c9
             clear c9
             by_cases c10 : x15_2 > 0
             ·rw [if_pos c10] at H
              have c10b0 : decide (0 < x15_2) = true := decide_eq_true c10
              clear c10
              obtain ⟨ji11, hji11⟩ : ∃ j_ : Int, (wrap64 (x15_2 - 1)) = j_ := ⟨_, rfl⟩
              replace H : (if 0 ≤ (ji11) then (if (ji11) < ((rd_L1 l0 x9_1).length : Int) then (if (rd (rd_L1 l0 x9_1) (ji11)) ≥ (rd (rd_L1 l0 x9_1) x15_2) then (some false) else (graph_May.l1 k2 l0 (rd_L1 l0 x9_1) l0 (l0.length : Int) x9_1 (rd_L1 l0 x9_1) ((rd_L1 l0 x9_1).length : Int) (wrap64 (x15_2 + 1)))) else (none)) else (none)) = some r := by first | (rw [hji11] at H; exact H) | (simp only [hji11] at H ⊢; exact H)
              have hji11w : (IntKind.i64.wrap (x15_2 - 1)) = ji11 := (i64_w _).trans hji11
              by_cases c12 : 0 ≤ (ji11)
              ·rw [if_pos c12] at H
               have c12b0 : decide (0 ≤ (ji11)) = true := decide_eq_true c12
               clear c12
               by_cases c13 : (ji11) < ((rd_L1 l0 x9_1).length : Int)
               ·rw [if_pos c13] at H
                have c13b0 : decide ((ji11) < ((rd_L1 l0 x9_1).length : Int)) = true := decide_eq_true c13
                clear c13
                by_cases c14 : (rd (rd_L1 l0 x9_1) (ji11)) ≥ (rd (rd_L1 l0 x9_1) x15_2)
                ·rw [if_pos c14] at H
                 have c14b0 : decide ((rd (rd_L1 l0 x9_1) x15_2) ≤ (rd (rd_L1 l0 x9_1) (ji11))) = true := decide_eq_true c14
                 clear c14
                 obtain rfl := Option.some.inj H
                 have p157 : 0 ≤ (x15_2 : Int) := of_decide_eq_true (by first | (with_reducible assumption) | assumption)
                 have q157 : x15_2 < ((rd_L1 l0 x9_1).length : Int) := of_decide_eq_true (by first | (with_reducible assumption) | assumption)
                 obtain ⟨ad157, e157, hx157_0⟩ := Kd.at_int HR156_0.out x15_2 p157 q157
                 cases e157
                 replace p157 := eq_true p157
                 replace q157 := eq_true q157
                 have p158 : 0 ≤ ((ji11) : Int) := of_decide_eq_true (by first | (with_reducible assumption) | assumption)
                 have q158 : (ji11) < ((rd_L1 l0 x9_1).length : Int) := of_decide_eq_true (by first | (with_reducible assumption) | assumption)
                 obtain ⟨ad158, e158, hx158_0⟩ := Kd.at_int HR156_0.out (ji11) p158 q158
                 obtain rfl : ad157 = ad158 := (by injection e158)
                 replace p158 := eq_true p158
                 replace q158 := eq_true q158
                 go_wp2
                 go_ret
                 exact ⟨by first | rfl | (simp; done) | (simp only [← hji11] <;> (first | rfl | simp)) | (simp [*]; done), by repeat (first | exact Drawn0.refl _ | apply Drawn0.step)⟩
                ·rw [if_neg c14] at H
                 have c14b0 : decide ((rd (rd_L1 l0 x9_1) x15_2) ≤ (rd (rd_L1 l0 x9_1) (ji11))) = false := decide_eq_false c14
                 clear c14
                 have H' := Aside0.mk H
                 clear H
                 have p157 : 0 ≤ (x15_2 : Int) := of_decide_eq_true (by first | (with_reducible assumption) | assumption)
                 have q157 : x15_2 < ((rd_L1 l0 x9_1).length : Int) := of_decide_eq_true (by first | (with_reducible assumption) | assumption)
                 obtain ⟨ad157, e157, hx157_0⟩ := Kd.at_int HR156_0.out x15_2 p157 q157
                 cases e157
                 replace p157 := eq_true p157
                 replace q157 := eq_true q157
                 have p158 : 0 ≤ ((ji11) : Int) := of_decide_eq_true (by first | (with_reducible assumption) | assumption)
                 have q158 : (ji11) < ((rd_L1 l0 x9_1).length : Int) := of_decide_eq_true (by first | (with_reducible assumption) | assumption)
                 obtain ⟨ad158, e158, hx158_0⟩ := Kd.at_int HR156_0.out (ji11) p158 q158
                 obtain rfl : ad157 = ad158 := (by injection e158)
                 replace p158 := eq_true p158
                 replace q158 := eq_true q158
                 go_wp2
                 go_roundg k2
                 case measure => have := HK1.out; have := HK2.out; omega
                 case rel => exact ⟨(wrap64 (x15_2 + 1)), (by first | rfl | (simp; done) | (simp [*]; done)), H', ⟨by have := HK1.out; have := HK2.out; omega⟩, by repeat (first | exact Drawn0.refl _ | apply Drawn0.step)⟩
               ·rw [if_neg c13] at H
                exact absurd H (by simp)
              ·rw [if_neg c12] at H
               exact absurd H (by simp)
             ·rw [if_neg c10] at H
              have c10b0 : decide (0 < x15_2) = false := decide_eq_false c10
              clear c10
              have H' := Aside0.mk H
              clear H
              have p157 : 0 ≤ (x15_2 : Int) := of_decide_eq_true (by first | (with_reducible assumption) | assumption)
              have q157 : x15_2 < ((rd_L1 l0 x9_1).length : Int) := of_decide_eq_true (by first | (with_reducible assumption) | assumption)
              obtain ⟨ad157, e157, hx157_0⟩ := Kd.at_int HR156_0.out x15_2 p157 q157
              cases e157
              replace p157 := eq_true p157
              replace q157 := eq_true q157
              go_wp2
              go_roundg k2
              case measure => have := HK1.out; have := HK2.out; omega
              case rel => exact ⟨(wrap64 (x15_2 + 1)), (by first | rfl | (simp; done) | (simp [*]; done)), H', ⟨by have := HK1.out; have := HK2.out; omega⟩, by repeat (first | exact Drawn0.refl _ | apply Drawn0.step)⟩
          ·rw [if_neg c7] at H
           exact absurd H (by simp)
         ·rw [if_neg c6] at H
          exact absurd H (by simp)
        ·rw [if_neg c5] at H
         have c5b0 : decide (x15_2 < ((rd_L1 l0 x9_1).length : Int)) = false := decide_eq_false c5
         clear c5
         have H' := Aside0.mk H
         clear H
         go_wp2
         go_roundg k2
         case measure => have := HK1.out; have := HK2.out; omega
         case rel => exact ⟨(wrap64 (x9_1 + 1)), (by first | rfl | (simp; done) | (simp [*]; done)), H', ⟨by have := HK1.out; have := HK2.out; omega⟩, by repeat (first | exact Drawn0.refl _ | apply Drawn0.step)⟩
     ·rw [if_neg c4] at H
      exact absurd H (by simp)
    ·rw [if_neg c3] at H
     exact absurd H (by simp)
   ·rw [if_neg c2] at H
    have c2b0 : decide (x9_1 < (l0.length : Int)) = false := decide_eq_false c2
    clear c2
    obtain rfl := Option.some.inj H
    go_wp2
    go_ret
    exact ⟨by first | rfl | (simp; done) | (simp [*]; done), by repeat (first | exact Drawn0.refl _ | apply Drawn0.step)⟩
mutual
def graph_Turn.l0 : Nat → List (List Int) → List (List Int) → Int → Int → Option ((List (List Int)))
  | 0, _, _, _, _ => none
  | k + 1, x3, x14, x15, x16 => if x16 < x15 then (if 0 ≤ x16 then (if x16 < (x14.length : Int) then (graph_Turn.l1 k x3 x16 x14 x15 x16 (rd_L1 x14 x16) ((rd_L1 x14 x16).length : Int) 0) else (none)) else (none)) else (some x3)
def graph_Turn.l1 : Nat → List (List Int) → Int → List (List Int) → Int → Int → List Int → Int → Int → Option ((List (List Int)))
  | 0, _, _, _, _, _, _, _, _ => none
  | k + 1, x3, x4, x14, x15, x16, x21, x22, x23 => if x23 < x22 then (if 0 ≤ x23 then (if x23 < (x21.length : Int) then (if 0 ≤ (rd x21 x23) then (if (rd x21 x23) < (x3.length : Int) then (if (rd_L1 x3 (rd x21 x23)).length < 17592186044416 then (graph_Turn.l1 k (x3.set ((rd x21 x23) : Int).toNat ((rd_L1 x3 (rd x21 x23)) ++ [x4])) x4 x14 x15 x16 x21 x22 (wrap64 (x23 + 1))) else (none)) else (none)) else (none)) else (none)) else (none)) else (graph_Turn.l0 k x3 x14 x15 (wrap64 (x16 + 1)))
end
def graph_Turn.f (k : Nat) (l0 : List (List Int)) : Option ((List (List Int))) := (graph_May.f k l0).bind fun t159 => (if t159 = true then (if 0 ≤ (l0.length : Int) then (if ((l0.length : Int) : Int).toNat ≤ 11728124029610 then (graph_Turn.l0 k (List.replicate ((l0.length : Int) : Int).toNat []) l0 (l0.length : Int) 0) else (none)) else (none)) else (some ([] : List (List Int))))
set_option maxHeartbeats 8000000 in
set_option maxRecDepth 100000 in
theorem graph_Turn.calls (k : Nat) (A0 : Option Addr) (c0 : Nat) (l0 : List (List Int)) (r : List (List Int)) (w : World) (hr0 : Kd.C (Kd.slice 3 (Kd.int .i64)) w A0 l0.length l0) (hc0 : l0.length ≤ c0) (h : graph_Turn.f k l0 = some r) :
    Calls Try.prog 24 #[.slice A0 l0.length c0] w fun e w' => ∃ v0_ : Value, e = .returned (v0_) ∧ Kd.S (Kd.slice 3 (Kd.int .i64)) 26 w' w.heap.size (fun _ => True) v0_ r ∧ Below w.heap.size w w' := by
 have HR0 := Aside0.mk hr0
 have HC0 := Aside0.mk hc0
 clear hr0 hc0
 have HB := Aside0.mk (Below.refl w.heap.size w)
 have H : ((graph_May.f k l0).bind fun t159 => (if t159 = true then (if 0 ≤ (l0.length : Int) then (if ((l0.length : Int) : Int).toNat ≤ 11728124029610 then (graph_Turn.l0 k (List.replicate ((l0.length : Int) : Int).toNat []) l0 (l0.length : Int) 0) else (none)) else (none)) else (some ([] : List (List Int))))) = some r := h
 clear h
 replace H := Option.bind_eq_some_iff.mp H
 obtain ⟨t159, A20, H⟩ := H
 replace H : (if t159 = true then (if 0 ≤ (l0.length : Int) then (if ((l0.length : Int) : Int).toNat ≤ 11728124029610 then (graph_Turn.l0 k (List.replicate ((l0.length : Int) : Int).toNat []) l0 (l0.length : Int) 0) else (none)) else (none)) else (some ([] : List (List Int)))) = some r := H
 have A2 := Aside0.mk A20
 clear A20
 by_cases c3 : t159 = true
 ·subst c3
  have H1 : (if 0 ≤ (l0.length : Int) then (if ((l0.length : Int) : Int).toNat ≤ 11728124029610 then (graph_Turn.l0 k (List.replicate ((l0.length : Int) : Int).toNat []) l0 (l0.length : Int) 0) else (none)) else (none)) = some r := by rw [if_pos rfl] at H; exact H
  clear H
  have H := H1
  clear H1
  by_cases c4 : 0 ≤ (l0.length : Int)
  ·rw [if_pos c4] at H
   have c4b0 := eq_true c4
   have c4b1 : decide (0 ≤ (l0.length : Int)) = true := decide_eq_true c4
   clear c4
   by_cases c5 : ((l0.length : Int) : Int).toNat ≤ 11728124029610
   ·rw [if_pos c5] at H
    have c5b0 := eq_true c5
    have c5b1 : decide (((l0.length : Int) : Int).toNat ≤ 11728124029610) = true := decide_eq_true c5
    clear c5
    obtain ⟨y160, hy160⟩ : ∃ y_ : List (List Int), y_ = (List.replicate ((l0.length : Int) : Int).toNat []) := ⟨_, rfl⟩
    replace H : (graph_Turn.l0 k y160 l0 (l0.length : Int) 0) = some r := by first | (rw [hy160]; with_reducible exact H) | (have H2_ := (Option.bind_some _ _).symm.trans H; rw [hy160]; with_reducible exact H2_) | (have H2_ := (Option.bind_some _ _).symm.trans H; with_reducible exact H2_) | with_reducible exact H | (rw [hy160]; exact H) | exact H
    have Ny160 := Aside0.mk hy160
    clear hy160
    have H' := Aside0.mk H
    clear H
    go_enter Try.func24, Try.ntmps24
    go_wp2_with (first | ((with_reducible refine gate_callee (f := 21) rfl ?_); refine goesL_ (some 9) rfl rfl Try.func21 (by kernel_rfl) rfl #[.slice A0 l0.length c0] rfl (by (try simp only [List.map_toArray, List.map_cons, List.map_nil]); first | done | rfl | (simp only [List.length_drop, List.length_take]; rfl)) ?_; (with_reducible refine (graph_May.calls k _ _ l0 true _ ?side1 ?side2 A2.out).mono ?_); (case side1 => repeat (first | exact HR0.out | (with_reducible refine Kd.C_alloc ?_ _) | (with_reducible refine Kd.C_drewN ?_ _) | (with_reducible refine Kd.C_drew ?_))); (case side2 => exact HC0.out); rintro e w' ⟨rfl, ⟨nd, rfl⟩⟩; refine ⟨_, rfl, ?_⟩) | ((with_reducible refine gate_dst (N := 13) rfl ?_); refine Kd.S_make (Kd.slice 3 (Kd.int .i64)) _ 26 rfl (N := 13) rfl 22 _ _ rfl (l0.length : Int) rfl rfl Try.underlying22 (.slice none 0 0) 24 info26 rfl (by decide) (by omega) [] (ok := fun _ => True) (okp := fun _ => True) ⟨_, rfl, Kd.R_nil _ _ _ _ _⟩ (fun _ hk => hk) trivial (of_decide_eq_true (by first | (with_reducible assumption) | assumption)) (Nat.le_trans (Nat.mul_le_mul_right _ (of_decide_eq_true (by first | (with_reducible assumption) | assumption) : (l0.length : Int).toNat ≤ 11728124029610)) (by omega)) (Below.refl _ _) (Nat.le_refl _) ?_; intro v161 w6 ho7 hb hg_ hnew_; clear hg_ hnew_; (first | rw [← Ny160.out] at ho7 | (simp only [Int.reduceToNat] at ho7; rw [← Ny160.out] at ho7)); have n0_ := Aside0.mk (Kd.S_lower ho7 (below_size (by repeat (first | (with_reducible first | exact HB.out | apply below_alloc | apply pw_below_drewN | apply below_drew1) | exact HB.out)))); have n1_ := Aside0.mk (below_step (by repeat (first | (with_reducible first | exact HB.out | apply below_alloc | apply pw_below_drewN | apply below_drew1) | exact HB.out)) hb); clear HB; have HO162 := n0_; have HB := n1_; clear n0_ n1_; clear hb ho7))
    go_loopg [16] k (fun kq v16 w' => ∃ (x3_1 : List (List Int)) (x16_1 : Int), v16 = .int .i64 x16_1 ∧ Aside0 (graph_Turn.l0 kq x3_1 l0 (l0.length : Int) x16_1 = some r) ∧ Aside0 (kq ≤ k) ∧ Aside0 (Kd.S (Kd.slice 3 (Kd.int .i64)) 26 w' w.heap.size (fun _ => True) v161 x3_1) ∧ Aside0 (Below w.heap.size w w'))
    case atStart => exact ⟨(y160), (0), (by first | rfl | (simp; done) | (simp [*]; done)), H', ⟨Nat.le_refl _⟩, ⟨by (with_reducible repeat (first | apply Kd.S_alloc | apply Kd.S_drewN | apply Kd.S_drew)); exact HO162.out⟩, ⟨by repeat (first | (with_reducible first | exact HB.out | apply below_alloc | apply pw_below_drewN | apply below_drew1) | exact HB.out)⟩⟩
    case round =>
     clear H'
     try clear c2
     try clear p2
     try clear c3
     try clear c4
     try clear c4b0
     try clear c4b1
     try clear c5
     try clear c5b0
     try clear c5b1
     obtain ⟨x3_1, x16_1, rfl, HA, HK1, HO_3, HB⟩ := hrel
     cases gk with
     | zero => exact absurd HA.out (by simp [graph_Turn.l0])
     | succ k1 =>
      have H := HA.out
      clear HA
      simp only [graph_Turn.l0] at H
      by_cases c8 : x16_1 < (l0.length : Int)
      ·rw [if_pos c8] at H
       have c8b0 : decide (x16_1 < (l0.length : Int)) = true := decide_eq_true c8
       clear c8
       by_cases c9 : 0 ≤ x16_1
       ·rw [if_pos c9] at H
        have c9b0 : decide (0 ≤ x16_1) = true := decide_eq_true c9
        clear c9
        by_cases c10 : x16_1 < (l0.length : Int)
        ·rw [if_pos c10] at H
         have c10b0 : decide (x16_1 < (l0.length : Int)) = true := decide_eq_true c10
         clear c10
         have H' := Aside0.mk H
         clear H
         have p163 : 0 ≤ (x16_1 : Int) := of_decide_eq_true (by first | (with_reducible assumption) | assumption)
         have q163 : x16_1 < (l0.length : Int) := of_decide_eq_true (by first | (with_reducible assumption) | assumption)
         obtain ⟨ad163, A163_0, c163_0, e163, hx163_0, hl163_0, hi163_0⟩ := at_L1 HR0.out x16_1 p163 q163
         cases e163
         replace hx163_0 := (HB.out.cell (World.block_lt_of_cell? w _ hx163_0)).trans hx163_0
         have HR163_0 := Aside0.mk hi163_0
         have HC163_0 := Aside0.mk hl163_0
         clear hi163_0 hl163_0
         replace p163 := eq_true p163
         replace q163 := eq_true q163
         go_wp2
         go_loopg [23] k1 (fun kq v23 w' => ∃ (x3_2 : List (List Int)) (x23_2 : Int), v23 = .int .i64 x23_2 ∧ Aside0 (graph_Turn.l1 kq x3_2 x16_1 l0 (l0.length : Int) x16_1 (rd_L1 l0 x16_1) ((rd_L1 l0 x16_1).length : Int) x23_2 = some r) ∧ Aside0 (kq ≤ k1) ∧ Aside0 (Kd.S (Kd.slice 3 (Kd.int .i64)) 26 w' w.heap.size (fun _ => True) v161 x3_2) ∧ Aside0 (Below w.heap.size w w'))
         case atStart => exact ⟨(x3_1), (0), (by first | rfl | (simp; done) | (simp [*]; done)), H', ⟨Nat.le_refl _⟩, ⟨by (with_reducible repeat (first | apply Kd.S_alloc | apply Kd.S_drewN | apply Kd.S_drew)); exact HO_3.out⟩, ⟨by repeat (first | (with_reducible first | exact HB.out | apply below_alloc | apply pw_below_drewN | apply below_drew1) | exact HB.out)⟩⟩
         case round =>
          clear H'
          try clear c1
          try clear p1
          try clear q1
          try clear hx1
          try clear c2
          try clear p2
          try clear c3
          try clear c4
          try clear c4b0
          try clear c4b1
          try clear c5
          try clear c5b0
          try clear c5b1
          try clear c8
          try clear c8b0
          try clear c9
          try clear c9b0
          try clear c10
          try clear c10b0
          try clear hx163_0
          try clear p163
          try clear p2
          try clear q163
          obtain ⟨x3_2, x23_2, rfl, HA, HK2, HO_3, HB⟩ := hrel
          cases gk with
          | zero => exact absurd HA.out (by simp [graph_Turn.l1])
          | succ k2 =>
           have H := HA.out
           clear HA
           simp only [graph_Turn.l1] at H
           by_cases c11 : x23_2 < ((rd_L1 l0 x16_1).length : Int)
           ·rw [if_pos c11] at H
            have c11b0 : decide (x23_2 < ((rd_L1 l0 x16_1).length : Int)) = true := decide_eq_true c11
            clear c11
            by_cases c12 : 0 ≤ x23_2
            ·rw [if_pos c12] at H
             have c12b0 : decide (0 ≤ x23_2) = true := decide_eq_true c12
             clear c12
             by_cases c13 : x23_2 < ((rd_L1 l0 x16_1).length : Int)
             ·rw [if_pos c13] at H
              have c13b0 : decide (x23_2 < ((rd_L1 l0 x16_1).length : Int)) = true := decide_eq_true c13
              clear c13
              by_cases c14 : 0 ≤ (rd (rd_L1 l0 x16_1) x23_2)
              ·rw [if_pos c14] at H
               have c14b0 : decide (0 ≤ (rd (rd_L1 l0 x16_1) x23_2)) = true := decide_eq_true c14
               clear c14
               by_cases c15 : (rd (rd_L1 l0 x16_1) x23_2) < (x3_2.length : Int)
               ·rw [if_pos c15] at H
                have c15b0 : decide ((rd (rd_L1 l0 x16_1) x23_2) < (x3_2.length : Int)) = true := decide_eq_true c15
                clear c15
                by_cases c16 : (rd_L1 x3_2 (rd (rd_L1 l0 x16_1) x23_2)).length < 17592186044416
                ·rw [if_pos c16] at H
                 have LMc16 := Aside0.mk c16
                 clear c16
                 obtain ⟨y166, hy166⟩ : ∃ y_ : List Int, y_ = ((rd_L1 x3_2 (rd (rd_L1 l0 x16_1) x23_2)) ++ [x16_1]) := ⟨_, rfl⟩
                 replace H : (graph_Turn.l1 k2 (x3_2.set ((rd (rd_L1 l0 x16_1) x23_2) : Int).toNat y166) x16_1 l0 (l0.length : Int) x16_1 (rd_L1 l0 x16_1) ((rd_L1 l0 x16_1).length : Int) (wrap64 (x23_2 + 1))) = some r := by first | (rw [hy166]; with_reducible exact H) | (have H2_ := (Option.bind_some _ _).symm.trans H; rw [hy166]; with_reducible exact H2_) | (have H2_ := (Option.bind_some _ _).symm.trans H; with_reducible exact H2_) | with_reducible exact H | (rw [hy166]; exact H) | exact H
                 have Ny166 := Aside0.mk hy166
                 clear hy166
                 obtain ⟨y169, hy169⟩ : ∃ y_ : List (List Int), y_ = (x3_2.set ((rd (rd_L1 l0 x16_1) x23_2) : Int).toNat y166) := ⟨_, rfl⟩
                 replace H : (graph_Turn.l1 k2 y169 x16_1 l0 (l0.length : Int) x16_1 (rd_L1 l0 x16_1) ((rd_L1 l0 x16_1).length : Int) (wrap64 (x23_2 + 1))) = some r := by first | (rw [hy169]; with_reducible exact H) | (have H2_ := (Option.bind_some _ _).symm.trans H; rw [hy169]; with_reducible exact H2_) | (have H2_ := (Option.bind_some _ _).symm.trans H; with_reducible exact H2_) | with_reducible exact H | (rw [hy169]; exact H) | exact H
                 have Ny169 := Aside0.mk hy169
                 clear hy169
                 have H' := Aside0.mk H
                 clear H
                 have p164 : 0 ≤ (x23_2 : Int) := of_decide_eq_true (by first | (with_reducible assumption) | assumption)
                 have q164 : x23_2 < ((rd_L1 l0 x16_1).length : Int) := of_decide_eq_true (by first | (with_reducible assumption) | assumption)
                 obtain ⟨ad164, e164, hx164_0⟩ := Kd.at_int HR163_0.out x23_2 p164 q164
                 cases e164
                 replace hx164_0 := (HB.out.cell (World.block_lt_of_cell? w _ hx164_0)).trans hx164_0
                 replace p164 := eq_true p164
                 replace q164 := eq_true q164
                 obtain ⟨Ao18, co18, eo18⟩ := Kd.S_slice HO_3.out
                 subst eo18
                 have p165 : 0 ≤ ((rd (rd_L1 l0 x16_1) x23_2) : Int) := of_decide_eq_true (by first | (with_reducible assumption) | assumption)
                 have q165 : (rd (rd_L1 l0 x16_1) x23_2) < (x3_2.length : Int) := of_decide_eq_true (by first | (with_reducible assumption) | assumption)
                 obtain ⟨ad165, A165_0, c165_0, e165, hx165_0, hl165_0, hi165_0⟩ := at_L1 (Kd.S_reads' HO_3.out).2.2 (rd (rd_L1 l0 x16_1) x23_2) p165 q165
                 cases e165
                 obtain ⟨ce165, hce165, hMe165, hcc165⟩ := Kd.S_get HO_3.out [] (rd (rd_L1 l0 x16_1) x23_2) p165 (by first | exact q165 | exact of_decide_eq_true (by first | (with_reducible assumption) | assumption) | (have e_ := (Kd.S_reads' HO_3.out).1; omega))
                 obtain ⟨ve165_0, rfl, ge165_0⟩ := hMe165
                 have hv165_0 := hcc165 0 _ rfl
                 rw [Nat.add_zero, show ((Kd.slice 3 (Kd.int .i64))).sz = 1 from rfl, Nat.mul_one] at hv165_0
                 replace hv165_0 := Option.some.inj (hv165_0.symm.trans hx165_0)
                 rw [hv165_0] at ge165_0
                 have HL165_0 := Aside0.mk (show Kd.R (Kd.int .i64) 3 _ _ _ _ (rd_L1 x3_2 (rd (rd_L1 l0 x16_1) x23_2)) from ge165_0)
                 clear hv165_0 ge165_0
                 have HX165_0 := Aside0.mk hx165_0
                 clear hcc165 hce165
                 have HR165_0 := Aside0.mk hi165_0
                 have HC165_0 := Aside0.mk hl165_0
                 clear hi165_0 hl165_0
                 replace p165 := eq_true p165
                 replace q165 := eq_true q165
                 obtain ⟨go19, co19, eo19, gb19, gl19, cl19, HG19⟩ := Kd.S_form HO_3.out (by have h_ : ((rd (rd_L1 l0 x16_1) x23_2) : Int) < ((x3_2.length : Int) : Int) := of_decide_eq_true (by first | (with_reducible assumption) | assumption); have h2_ : 0 ≤ ((rd (rd_L1 l0 x16_1) x23_2) : Int) := (of_decide_eq_true (by first | (with_reducible assumption) | assumption)); omega)
                 (first | cases eo19 | (injection eo19 with ea_ en_ ec_; (first | subst ea_ | (injection ea_ with ea_; subst ea_)); subst ec_; clear en_))
                 have GB19 := Aside0.mk gb19
                 have GG19 := Aside0.mk HG19
                 clear gb19 gl19 HG19
                 (first | simp only [add_plain] at hx165_0 | skip)
                 obtain ⟨oki19, ce19, hcl19, hM19, hcc19, _, _, hH19⟩ := Kd.S_elem HO_3.out [] ((rd (rd_L1 l0 x16_1) x23_2) : Int) (of_decide_eq_true (by first | (with_reducible assumption) | assumption)) (by have h_ : ((rd (rd_L1 l0 x16_1) x23_2) : Int) < ((x3_2.length : Int) : Int) := of_decide_eq_true (by first | (with_reducible assumption) | assumption); first | exact h_ | (have e_ := (Kd.S_reads' HO_3.out).1; omega) | simpa using h_)
                 obtain ⟨ve19_0, rfl, ge19_0⟩ := hM19
                 have hv19 := hcc19 0 _ rfl
                 have hX19 := HX165_0.out
                 (try simp only [add_plain] at hX19)
                 (try simp only [Nat.add_zero] at hv19)
                 (try rw [show ((Kd.slice 3 (Kd.int .i64))).sz = 1 from rfl, Nat.mul_one] at hv19)
                 replace hv19 := Option.some.inj (hv19.symm.trans hX19)
                 subst hv19
                 clear hX19 hcc19 hcl19
                 have UU19 := Aside0.mk (show Kd.R (Kd.int .i64) 3 _ w.heap.size oki19 (.slice A165_0 (rd_L1 x3_2 (rd (rd_L1 l0 x16_1) x23_2)).length c165_0) (rd_L1 x3_2 (rd (rd_L1 l0 x16_1) x23_2)) from ge19_0)
                 have HH19 := Aside0.mk hH19
                 have HN19 := Aside0.mk (Kd.S_reads' HO_3.out).1
                 clear hH19 ge19_0
                 go_wp2_with (first | ((with_reducible refine gate_builtin (b := .append) (xs := #[.tmp 32, .tmp 34]) rfl ?_); at_builtin; refine Kd.R_append (Kd.int .i64) (w0 := w) w.heap.size rfl (.tmp 32) (.tmp 34) 26 3 (.int .i64 0) 8 rfl Try.underlying26 info3 rfl (by decide) (by omega) (.slice A165_0 (rd_L1 x3_2 (rd (rd_L1 l0 x16_1) x23_2)).length c165_0) (rd_L1 x3_2 (rd (rd_L1 l0 x16_1) x23_2)) x16_1 [.int .i64 x16_1] (fun k_ => oki19 k_ ∨ ((fun _ => True)) k_ ∧ wr.heap.size ≤ k_) (fun _ => False) rfl rfl ?aP (fun _ hk => hk.elim) ?aF ?aO ?aB ?aS ?aL ?_; (case aP => exact rfl); (case aB => exact (by repeat (first | (with_reducible first | exact HB.out | apply below_alloc | apply pw_below_drewN | apply below_drew1) | exact HB.out))); (case aF => exact (fun k_ hk => .inr ⟨trivial, hk⟩)); (case aO => exact (by (with_reducible repeat (first | apply Kd.R_alloc | apply Kd.R_drewN | apply Kd.R_drew)); exact Kd.R_mono UU19.out (fun _ hk => .inl hk))); (case aS => exact (below_size (by repeat (first | (with_reducible first | exact HB.out | apply below_alloc | apply pw_below_drewN | apply below_drew1) | exact HB.out)))); (case aL => have := LMc16.out; omega); intro v167 w20 ho hb hg hat; rw [← Ny166.out] at ho; have n0_ := Aside0.mk (hb); have n1_ := Aside0.mk (Kd.H_grown (Kd.H_widen (by repeat (first | exact HH19.out | refine Kd.H_alloc ?_ _ | refine Kd.H_drewN ?_ _ | refine Kd.H_drew ?_))) hg (fun k_ e_ => .inl (UU19.out.1 k_ e_))); have n2_ := Aside0.mk (ho); clear HB; clear HH19; clear HO_3; clear UU19; clear HL165_0; have HB := n0_; have HH19 := n1_; have HO168 := n2_; clear n0_ n1_ n2_; clear ho hb hg hat; have p17 : 0 ≤ ((rd (rd_L1 l0 x16_1) x23_2) : Int) := of_decide_eq_true (by first | (with_reducible assumption) | assumption); have q17 : ((rd (rd_L1 l0 x16_1) x23_2) : Int) < ((x3_2.length : Int) : Int) := of_decide_eq_true (by first | (with_reducible assumption) | assumption); replace p17 := eq_true p17; replace q17 := eq_true q17; obtain ⟨Ao23, co23, eo23⟩ := Kd.R_slice HO168.out; subst eo23; obtain ⟨_, _, hraw21, _, _, hcc21, _⟩ := Kd.H_raw HH19.out (of_decide_eq_true (by first | (with_reducible assumption) | assumption)) (by have h_ : ((rd (rd_L1 l0 x16_1) x23_2) : Int) < ((x3_2.length : Int) : Int) := of_decide_eq_true (by first | (with_reducible assumption) | assumption); first | exact h_ | (have e_ := (HN19.out); omega) | simpa using h_); obtain ⟨_, hfr21⟩ := Kd.H_at HH19.out (of_decide_eq_true (by first | (with_reducible assumption) | assumption)) (by have h_ : ((rd (rd_L1 l0 x16_1) x23_2) : Int) < ((x3_2.length : Int) : Int) := of_decide_eq_true (by first | (with_reducible assumption) | assumption); first | exact h_ | (have e_ := (HN19.out); omega) | simpa using h_); have hx21_0 := hcc21 0 _ rfl; have hf21_0 := hfr21 0; (try simp only [Nat.add_zero] at hx21_0 hf21_0); (try rw [show ((Kd.slice 3 (Kd.int .i64))).sz = 1 from rfl, Nat.mul_one] at hx21_0); (try rw [show ((Kd.slice 3 (Kd.int .i64))).sz = 1 from rfl, Nat.mul_one] at hf21_0); have HP21 := Kd.S_seg0 HH19.out (of_decide_eq_true (by first | (with_reducible assumption) | assumption)) (by have h_ : ((rd (rd_L1 l0 x16_1) x23_2) : Int) < ((x3_2.length : Int) : Int) := of_decide_eq_true (by first | (with_reducible assumption) | assumption); first | exact h_ | (have e_ := (HN19.out); omega) | simpa using h_) (seg := [.slice Ao23 y166.length co23]) (j := 0) (show 1 ≤ 1 from by decide) (x' := y166) (Kd.M_row HO168.out) (fun _ hk => hk); (try simp only [show ((Kd.slice 3 (Kd.int .i64))).sz = 1 from rfl, Nat.mul_one, Nat.add_zero] at HP21); clear hcc21 hfr21) | ((with_reducible refine gate_store (t := 26) (p := 36) rfl ?_); refine store_event (t := 26) (p := 36) (v := ?vo_w22) (w1 := (w20.setCell ⟨go19, ((rd (rd_L1 l0 x16_1) x23_2) : Int).toNat, none⟩ (.slice Ao23 y166.length co23))) ?hg ?ho ?hn ?hr ?_; (case ho => rfl); (case hg => rfl); (case hn => rfl); (case hr => first | (go_simp; done) | (go_simp; rfl)); intro w22 hw; have hg : w20.grownBy w22 (some go19) := (by rw [hw]; exact HP21.2); have hp_ : Kd.S (Kd.slice 3 (Kd.int .i64)) 26 w22 w.heap.size (fun _ => True) (.slice (some ⟨go19, 0, none⟩) x3_2.length co18) y169 := (by rw [hw, Ny169.out]; exact HP21.1); clear HP21; have n0_ := Aside0.mk ((by rw [hw]; exact below_set HB.out GB19.out : Below w.heap.size w w22)); have n1_ := Aside0.mk (hp_); clear HB; clear HO168; clear HH19; have HB := n0_; have HO_3 := n1_; clear n0_ n1_; clear hg hw hp_ hraw21))
                 go_roundg k2
                 case measure => have := HK1.out; have := HK2.out; omega
                 case rel => exact ⟨(y169), (wrap64 (x23_2 + 1)), (by first | rfl | (simp; done) | (simp [*]; done)), H', ⟨by have := HK1.out; have := HK2.out; omega⟩, ⟨by (with_reducible repeat (first | apply Kd.S_alloc | apply Kd.S_drewN | apply Kd.S_drew)); exact HO_3.out⟩, ⟨by repeat (first | (with_reducible first | exact HB.out | apply below_alloc | apply pw_below_drewN | apply below_drew1) | exact HB.out)⟩⟩
                ·rw [if_neg c16] at H
                 exact absurd H (by simp)
               ·rw [if_neg c15] at H
                exact absurd H (by simp)
              ·rw [if_neg c14] at H
               exact absurd H (by simp)
             ·rw [if_neg c13] at H
              exact absurd H (by simp)
            ·rw [if_neg c12] at H
             exact absurd H (by simp)
           ·rw [if_neg c11] at H
            have c11b0 : decide (x23_2 < ((rd_L1 l0 x16_1).length : Int)) = false := decide_eq_false c11
            clear c11
            have H' := Aside0.mk H
            clear H
            go_wp2
            go_roundg k2
            case measure => have := HK1.out; have := HK2.out; omega
            case rel => exact ⟨(x3_2), (wrap64 (x16_1 + 1)), (by first | rfl | (simp; done) | (simp [*]; done)), H', ⟨by have := HK1.out; have := HK2.out; omega⟩, ⟨by (with_reducible repeat (first | apply Kd.S_alloc | apply Kd.S_drewN | apply Kd.S_drew)); exact HO_3.out⟩, ⟨by repeat (first | (with_reducible first | exact HB.out | apply below_alloc | apply pw_below_drewN | apply below_drew1) | exact HB.out)⟩⟩
        ·rw [if_neg c10] at H
         exact absurd H (by simp)
       ·rw [if_neg c9] at H
        exact absurd H (by simp)
      ·rw [if_neg c8] at H
       have c8b0 : decide (x16_1 < (l0.length : Int)) = false := decide_eq_false c8
       clear c8
       obtain rfl := Option.some.inj H
       go_wp2
       go_ret
       exact ⟨_, by first | rfl | (simp [errW_none, errW_some] <;> rfl) | (simp [*, errW_none, errW_some] <;> rfl), by (with_reducible repeat (first | apply Kd.S_alloc | apply Kd.S_drewN | apply Kd.S_drew)); exact HO_3.out, by repeat (first | (with_reducible first | exact HB.out | apply below_alloc | apply pw_below_drewN | apply below_drew1) | exact HB.out)⟩
   ·rw [if_neg c5] at H
    exact absurd H (by simp)
  ·rw [if_neg c4] at H
   exact absurd H (by simp)
 ·replace c3 := Bool.eq_false_iff.mpr c3
  subst c3
  have H1 : (some ([] : List (List Int))) = some r := by rw [if_neg (show ¬ (false = true) by decide)] at H; exact H
  clear H
  have H := H1
  clear H1
  obtain rfl := Option.some.inj H
  go_enter Try.func24, Try.ntmps24
  go_wp2_with (first | ((with_reducible refine gate_callee (f := 21) rfl ?_); refine goesL_ (some 9) rfl rfl Try.func21 (by kernel_rfl) rfl #[.slice A0 l0.length c0] rfl (by (try simp only [List.map_toArray, List.map_cons, List.map_nil]); first | done | rfl | (simp only [List.length_drop, List.length_take]; rfl)) ?_; (with_reducible refine (graph_May.calls k _ _ l0 false _ ?side1 ?side2 A2.out).mono ?_); (case side1 => repeat (first | exact HR0.out | (with_reducible refine Kd.C_alloc ?_ _) | (with_reducible refine Kd.C_drewN ?_ _) | (with_reducible refine Kd.C_drew ?_))); (case side2 => exact HC0.out); rintro e w' ⟨rfl, ⟨nd, rfl⟩⟩; refine ⟨_, rfl, ?_⟩))
  go_ret
  exact ⟨_, by first | rfl | (simp [errW_none, errW_some] <;> rfl) | (simp [*, errW_none, errW_some] <;> rfl), by first | exact Kd.S_nil _ _ _ _ _ | exact Kd.N_nil _ _ _ _ _ | exact Kd.V_nil _ _ _ _ _ | exact Kd.Q_nil _ _ _ _ _ | exact Kd.R_nil _ _ _ _ _, by repeat (first | (with_reducible first | exact HB.out | apply below_alloc | apply pw_below_drewN | apply below_drew1) | exact HB.out)⟩
def r13_Knot.f (k : Nat) (l0 : List (List Int)) (a1 : Int) (a2 : Int) : Option (Bool) := if 0 ≤ a1 then (if a1 < (l0.length : Int) then ((r12_Has.f k (rd_L1 l0 a1) a2).bind fun t171 => (if t171 = true then (if 0 ≤ a2 then (if a2 < (l0.length : Int) then ((r12_Has.f k (rd_L1 l0 a2) a1).bind fun t173 => (some t173)) else (none)) else (none)) else (some false))) else (none)) else (none)
def r13_Reaches.l0 : Nat → List (List Int) → List (List Int) → Int → Option ((List (List Int)))
  | 0, _, _, _ => none
  | k + 1, x0, x3, x4 => if x4 < (x0.length : Int) then ((r12_Reach.f k x0 x4).bind fun t177 => (if x3.length < 5864062014805 then (r13_Reaches.l0 k x0 (x3 ++ [t177]) (wrap64 (x4 + 1))) else (none))) else (some x3)
def r13_Reaches.f (k : Nat) (l0 : List (List Int)) : Option ((List (List Int))) := r13_Reaches.l0 k l0 (([] : List (List Int))) 0
def r13_ready.l0 : Nat → List (List Int) → List Int → Int → Int → Option (Bool)
  | 0, _, _, _, _ => none
  | k + 1, x0, x1, x2, x7 => if 0 ≤ x2 then (if x2 < (x0.length : Int) then (if x7 < ((rd_L1 x0 x2).length : Int) then (if 0 ≤ x7 then (if 0 ≤ (rd (rd_L1 x0 x2) x7) then (if (rd (rd_L1 x0 x2) x7) < (x1.length : Int) then (if (rd x1 (rd (rd_L1 x0 x2) x7)) < 0 then ((r13_Knot.f k x0 x2 (rd (rd_L1 x0 x2) x7)).bind fun t187 => (if t187 = true then (r13_ready.l0 k x0 x1 x2 (wrap64 (x7 + 1))) else (some false))) else (r13_ready.l0 k x0 x1 x2 (wrap64 (x7 + 1)))) else (none)) else (none)) else (none)) else (some true)) else (none)) else (none)
def r13_ready.f (k : Nat) (l0 : List (List Int)) (l1 : List Int) (a2 : Int) : Option (Bool) := r13_ready.l0 k l0 l1 a2 0
mutual
def r13_Of.l0 : Nat → List (List Int) → List (List Int) → List Int → Int → Option (List Int)
  | 0, _, _, _, _ => none
  | k + 1, x0, x3, x4, x5 => if x5 < (x0.length : Int) then (if x4.length < 17592186044416 then (r13_Of.l0 k x0 x3 (x4 ++ [(-1)]) (wrap64 (x5 + 1))) else (none)) else (r13_Of.l1 k x0 x3 x4 0)
def r13_Of.l1 : Nat → List (List Int) → List (List Int) → List Int → Int → Option (List Int)
  | 0, _, _, _, _ => none
  | k + 1, x0, x3, x4, x6 => if x6 < (x0.length : Int) then (r13_Of.l2 k x0 x3 x4 x6 0) else (some x4)
def r13_Of.j3 : Nat → List (List Int) → List (List Int) → List Int → Int → Int → Option (List Int)
  | 0, _, _, _, _, _ => none
  | k + 1, x0, x3, x4, x6, x7 => if x7 = (x0.length : Int) then (some x4) else (r13_Of.l3 k x0 x3 x4 x6 x7 0)
def r13_Of.l3 : Nat → List (List Int) → List (List Int) → List Int → Int → Int → Int → Option (List Int)
  | 0, _, _, _, _, _, _ => none
  | k + 1, x0, x3, x4, x6, x7, x8 => if x8 < (x0.length : Int) then ((r13_Knot.f k x3 x7 x8).bind fun t200 => (if t200 = true then (if 0 ≤ x8 then (if x8 < (x4.length : Int) then (r13_Of.l3 k x0 x3 (x4.set (x8 : Int).toNat x6) x6 x7 (wrap64 (x8 + 1))) else (none)) else (none)) else (r13_Of.l3 k x0 x3 x4 x6 x7 (wrap64 (x8 + 1))))) else (r13_Of.l1 k x0 x3 x4 (wrap64 (x6 + 1)))
def r13_Of.l2 : Nat → List (List Int) → List (List Int) → List Int → Int → Int → Option (List Int)
  | 0, _, _, _, _, _ => none
  | k + 1, x0, x3, x4, x6, x7 => if x7 < (x0.length : Int) then (if 0 ≤ x7 then (if x7 < (x4.length : Int) then (if (rd x4 x7) ≥ 0 then (r13_Of.l2 k x0 x3 x4 x6 (wrap64 (x7 + 1))) else ((r13_ready.f k x3 x4 x7).bind fun t199 => (if t199 = true then (r13_Of.j3 k x0 x3 x4 x6 x7) else (r13_Of.l2 k x0 x3 x4 x6 (wrap64 (x7 + 1)))))) else (none)) else (none)) else (r13_Of.j3 k x0 x3 x4 x6 x7)
end
def r13_Of.f (k : Nat) (l0 : List (List Int)) : Option (List Int) := (r12_May.f k l0).bind fun t188 => (if t188 = true then ((r13_Reaches.f k l0).bind fun t189 => (r13_Of.l0 k l0 t189 (([] : List Int)) 0)) else (some ([] : List Int)))
end Go.Proofs.Ytejhejpkfjhmkaa.Pr

namespace Go.Proofs.Ytejhejpkfjhmkaa.Man
open Go.RowKit Go.Proofs.Ytejhejpkfjhmkaa.Pr Go.Proofs.YtejhejpkfjhmkaaW.PrintWords
set_option linter.unusedVariables false
set_option linter.unusedSimpArgs false
theorem wz (n : Nat) (h : n < 9223372036854775807) : wrap64 ((n : Int) + 1) = ((n + 1 : Nat) : Int) := by simp only [wrap64]; omega
inductive GRch (g : List (List Int)) (a : Nat) : Nat → Prop
  | refl : GRch g a a
  | step {b : Nat} {m : Int} : GRch g a b → m ∈ g.getD b [] → GRch g a m.toNat
theorem GRch.trans {g : List (List Int)} {a b c : Nat} (h : GRch g a b) (k : GRch g b c) : GRch g a c := by
  induction k with
  | refl => exact h
  | step _ hm ih => exact .step ih hm
def On (seen : List Bool) (v : Nat) : Prop := seen[v]? = some true
theorem on_set {l : List Bool} {n v : Nat} (h : On l v) : On (l.set n true) v := by
  unfold On at *
  rw [List.getElem?_set]
  split
  · rename_i e; subst e
    rw [if_pos (by have := (List.getElem?_eq_some_iff.1 h).1; exact this)]
  · exact h
theorem on_of_set {l : List Bool} {n v : Nat} (h : On (l.set n true) v) : v = n ∨ On l v := by
  unfold On at *
  rw [List.getElem?_set] at h
  split at h
  · rename_i e; exact .inl e.symm
  · exact .inr h
theorem off_set : ∀ (l : List Bool) (n : Nat), l[n]? = some false → ((l.set n true).filter (fun x => !x)).length + 1 = (l.filter (fun x => !x)).length := by
  intro l
  induction l with
  | nil => intro n h; simp at h
  | cons x r ih =>
    intro n h
    cases n with
    | zero => simp at h; subst h; simp
    | succ n =>
      have h2 := ih n (by simpa using h)
      cases x <;> simp_all <;> omega
def pick (s : List Bool) (j : Nat) : List Int := ((List.range j).filter (fun v => s.getD v false)).map Int.ofNat
theorem pick_on {s : List Bool} {j : Nat} (h : s[j]? = some true) : pick s (j + 1) = pick s j ++ [(j : Int)] := by
  unfold pick
  rw [List.range_succ, List.filter_append, List.map_append]
  simp [List.getD_eq_getElem?_getD, h]
theorem pick_off {s : List Bool} {j : Nat} (h : s[j]? = some false) : pick s (j + 1) = pick s j := by
  unfold pick
  rw [List.range_succ, List.filter_append, List.map_append]
  simp [List.getD_eq_getElem?_getD, h]
open Classical in
noncomputable def reachL (g : List (List Int)) (n : Nat) : List Int := ((List.range g.length).filter (fun v => decide (GRch g n v))).map Int.ofNat
theorem pm (n : Nat) (h : n ≤ 1050000) : wrap64 (((n + 1 : Nat) : Int) - 1) = (n : Int) := by simp only [wrap64]; omega
def Sm (g : List (List Int)) : Prop := g.length ≤ 1050000 ∧ ∀ i : Nat, (g.getD i []).length ≤ 1050000
def okAt (N : Nat) (r : List Int) (j : Nat) : Bool := !(decide (rd r (j : Int) < 0)) && (!(decide (rd r (j : Int) ≥ (N : Int))) && (decide (j = 0) || !(decide (rd r (((j - 1 : Nat)) : Int) ≥ rd r (j : Int)))))
def rowTail (N : Nat) (r : List Int) : Nat → Nat → Bool
  | 0, _ => true
  | m + 1, j => okAt N r j && rowTail N r m (j + 1)
def allTail (g : List (List Int)) : Nat → Nat → Bool
  | 0, _ => decide ((g.length : Int) ≤ 1000)
  | m + 1, i => rowTail g.length (g.getD i []) (g.getD i []).length 0 && allTail g m (i + 1)
def mayB (g : List (List Int)) : Bool := allTail g g.length 0
theorem rdLg (g : List (List Int)) (i : Nat) : rd_L1 g (i : Int) = g.getD i [] := rfl
theorem rmay_row (g : List (List Int)) (hs : Sm g) (i : Nat) (hi : i < g.length) (b : Bool) (h : Ev (fun k => r12_May.l0 k g ((i + 1 : Nat) : Int)) b) :
    ∀ m j : Nat, j + m = (g.getD i []).length → Ev (fun k => r12_May.l1 k g (i : Int) (j : Int)) (rowTail g.length (g.getD i []) m j && b) := by
  have hr := hs.2 i
  have hn := hs.1
  have c1 : 0 ≤ (i : Int) := Int.natCast_nonneg i
  have c2 : (i : Int) < (g.length : Int) := Int.ofNat_lt.2 hi
  intro m
  induction m with
  | zero =>
    intro j hj
    refine Ev.step ?_
    have c3 : ¬ (j : Int) < ((g.getD i []).length : Int) := by omega
    simp only [r12_May.l1, if_pos c1, if_pos c2, rdLg, if_neg c3, pz i (by omega), rowTail, Bool.true_and]
    exact h
  | succ m ih =>
    intro j hj
    have e := ih (j + 1) (by omega)
    refine Ev.step ?_
    have c3 : (j : Int) < ((g.getD i []).length : Int) := by omega
    have c4 : 0 ≤ (j : Int) := Int.natCast_nonneg j
    simp only [r12_May.l1, if_pos c1, if_pos c2, rdLg, if_pos c3, if_pos c4, pz j (by omega), rowTail, okAt]
    by_cases d1 : rd (g.getD i []) (j : Int) < 0
    · simp only [if_pos d1, decide_eq_true d1, Bool.not_true, Bool.false_and]; exact Ev.const _
    · by_cases d2 : rd (g.getD i []) (j : Int) ≥ (g.length : Int)
      · simp only [if_neg d1, decide_eq_false d1, if_pos d2, decide_eq_true d2, Bool.not_true, Bool.not_false, Bool.false_and, Bool.and_false]; exact Ev.const _
      · cases j with
        | zero =>
          simp only [if_neg d1, decide_eq_false d1, if_neg d2, decide_eq_false d2, Bool.not_false, Bool.true_and, if_neg (show ¬ ((0 : Nat) : Int) > 0 by decide), decide_true, Bool.true_or]
          exact e
        | succ j' =>
          have c5 : (((j' + 1 : Nat)) : Int) > 0 := by omega
          have c6 : 0 ≤ ((j' : Nat) : Int) := Int.natCast_nonneg j'
          have c7 : ((j' : Nat) : Int) < ((g.getD i []).length : Int) := by omega
          simp only [if_neg d1, decide_eq_false d1, if_neg d2, decide_eq_false d2, Bool.not_false, Bool.true_and, if_pos c5, pm j' (by omega), if_pos c6, if_pos c7, Nat.add_sub_cancel, decide_eq_false (show ¬ j' + 1 = 0 by omega), Bool.false_or]
          by_cases d3 : rd (g.getD i []) (j' : Int) ≥ rd (g.getD i []) (((j' + 1 : Nat)) : Int)
          · simp only [if_pos d3, decide_eq_true d3, Bool.not_true, Bool.false_and]; exact Ev.const _
          · simp only [if_neg d3, decide_eq_false d3, Bool.not_false, Bool.true_and]; exact e
theorem rmay_ev (g : List (List Int)) (hs : Sm g) : Ev (fun k => r12_May.f k g) (mayB g) := by
  have main : ∀ m i : Nat, i + m = g.length → Ev (fun k => r12_May.l0 k g (i : Int)) (allTail g m i) := by
    intro m
    induction m with
    | zero =>
      intro i hi
      refine Ev.step ?_
      have c : ¬ (i : Int) < (g.length : Int) := by omega
      simp only [r12_May.l0, if_neg c, allTail]
      exact Ev.const _
    | succ m ih =>
      intro i hi
      refine Ev.step ?_
      have c : (i : Int) < (g.length : Int) := by omega
      simp only [r12_May.l0, if_pos c, allTail]
      exact rmay_row g hs i (by omega) _ (ih (i + 1) (by omega)) _ 0 (by omega)
  exact main g.length 0 (by omega)
theorem gmay_row (g : List (List Int)) (hs : Sm g) (i : Nat) (hi : i < g.length) (b : Bool) (h : Ev (fun k => graph_May.l0 k g g (g.length : Int) ((i + 1 : Nat) : Int)) b) :
    ∀ m j : Nat, j + m = (g.getD i []).length → Ev (fun k => graph_May.l1 k g (g.getD i []) g (g.length : Int) (i : Int) (g.getD i []) ((g.getD i []).length : Int) (j : Int)) (rowTail g.length (g.getD i []) m j && b) := by
  have hr := hs.2 i
  have hn := hs.1
  intro m
  induction m with
  | zero =>
    intro j hj
    refine Ev.step ?_
    have c3 : ¬ (j : Int) < ((g.getD i []).length : Int) := by omega
    simp only [graph_May.l1, if_neg c3, pz i (by omega), rowTail, Bool.true_and]
    exact h
  | succ m ih =>
    intro j hj
    have e := ih (j + 1) (by omega)
    refine Ev.step ?_
    have c3 : (j : Int) < ((g.getD i []).length : Int) := by omega
    have c4 : 0 ≤ (j : Int) := Int.natCast_nonneg j
    simp only [graph_May.l1, if_pos c3, if_pos c4, pz j (by omega), rowTail, okAt]
    by_cases d1 : rd (g.getD i []) (j : Int) < 0
    · simp only [if_pos d1, decide_eq_true d1, Bool.not_true, Bool.false_and]; exact Ev.const _
    · by_cases d2 : rd (g.getD i []) (j : Int) ≥ (g.length : Int)
      · simp only [if_neg d1, decide_eq_false d1, if_pos d2, decide_eq_true d2, Bool.not_true, Bool.not_false, Bool.false_and, Bool.and_false]; exact Ev.const _
      · cases j with
        | zero =>
          simp only [if_neg d1, decide_eq_false d1, if_neg d2, decide_eq_false d2, Bool.not_false, Bool.true_and, if_neg (show ¬ ((0 : Nat) : Int) > 0 by decide), decide_true, Bool.true_or]
          exact e
        | succ j' =>
          have c5 : (((j' + 1 : Nat)) : Int) > 0 := by omega
          have c6 : 0 ≤ ((j' : Nat) : Int) := Int.natCast_nonneg j'
          have c7 : ((j' : Nat) : Int) < ((g.getD i []).length : Int) := by omega
          simp only [if_neg d1, decide_eq_false d1, if_neg d2, decide_eq_false d2, Bool.not_false, Bool.true_and, if_pos c5, pm j' (by omega), if_pos c6, if_pos c7, Nat.add_sub_cancel, decide_eq_false (show ¬ j' + 1 = 0 by omega), Bool.false_or]
          by_cases d3 : rd (g.getD i []) (j' : Int) ≥ rd (g.getD i []) (((j' + 1 : Nat)) : Int)
          · simp only [if_pos d3, decide_eq_true d3, Bool.not_true, Bool.false_and]; exact Ev.const _
          · simp only [if_neg d3, decide_eq_false d3, Bool.not_false, Bool.true_and]; exact e
theorem gmay_ev (g : List (List Int)) (hs : Sm g) : Ev (fun k => graph_May.f k g) (mayB g) := by
  have main : ∀ m i : Nat, i + m = g.length → Ev (fun k => graph_May.l0 k g g (g.length : Int) (i : Int)) (allTail g m i) := by
    intro m
    induction m with
    | zero =>
      intro i hi
      refine Ev.step ?_
      have c : ¬ (i : Int) < (g.length : Int) := by omega
      simp only [graph_May.l0, if_neg c, allTail]
      exact Ev.const _
    | succ m ih =>
      intro i hi
      refine Ev.step ?_
      have c : (i : Int) < (g.length : Int) := by omega
      have c0 : 0 ≤ (i : Int) := Int.natCast_nonneg i
      simp only [graph_May.l0, if_pos c, if_pos c0, rdLg, allTail]
      exact gmay_row g hs i (by omega) _ (ih (i + 1) (by omega)) _ 0 (by omega)
  exact main g.length 0 (by omega)
theorem rowTail_spec {N : Nat} {r : List Int} : ∀ (m j : Nat), rowTail N r m j = true → ∀ i, j ≤ i → i < j + m → 0 ≤ rd r (i : Int) ∧ rd r (i : Int) < N ∧ (i ≠ 0 → rd r ((i - 1 : Nat) : Int) < rd r (i : Int)) := by
  intro m
  induction m with
  | zero => intro j _ i h1 h2; omega
  | succ m ih =>
    intro j h i h1 h2
    simp only [rowTail, Bool.and_eq_true] at h
    by_cases e : i = j
    · subst e
      have h3 := h.1
      simp only [okAt, Bool.and_eq_true, Bool.or_eq_true, Bool.not_eq_true', decide_eq_true_eq, decide_eq_false_iff_not] at h3
      exact ⟨by omega, by omega, fun h0 => by rcases h3.2.2 with h4 | h4 <;> omega⟩
    · exact ih (j + 1) h.2 i (by omega) (by omega)
theorem allTail_spec {g : List (List Int)} : ∀ (m i : Nat), i + m = g.length → allTail g m i = true → g.length ≤ 1000 ∧ ∀ v, i ≤ v → v < g.length → rowTail g.length (g.getD v []) (g.getD v []).length 0 = true := by
  intro m
  induction m with
  | zero =>
    intro i hi h
    simp only [allTail, decide_eq_true_eq] at h
    exact ⟨by omega, fun v h1 h2 => by omega⟩
  | succ m ih =>
    intro i hi h
    simp only [allTail, Bool.and_eq_true] at h
    obtain ⟨q1, q2⟩ := ih (i + 1) (by omega) h.2
    refine ⟨q1, fun v h1 h2 => ?_⟩
    by_cases e : v = i
    · subst e; exact h.1
    · exact q2 v (by omega) h2
theorem mayB_spec {g : List (List Int)} (h : mayB g = true) : g.length ≤ 1000 ∧ (∀ v, v < g.length → ∀ j, j < (g.getD v []).length → 0 ≤ rd (g.getD v []) (j : Int) ∧ rd (g.getD v []) (j : Int) < g.length ∧ (j ≠ 0 → rd (g.getD v []) ((j - 1 : Nat) : Int) < rd (g.getD v []) (j : Int))) := by
  obtain ⟨q1, q2⟩ := allTail_spec g.length 0 (by omega) h
  exact ⟨q1, fun v hv j hj => rowTail_spec _ 0 (q2 v (Nat.zero_le _) hv) j (Nat.zero_le _) (by omega)⟩
theorem rd_of_mem {r : List Int} {m : Int} (h : m ∈ r) : ∃ j, j < r.length ∧ rd r (j : Int) = m := by
  obtain ⟨j, hj, e⟩ := List.getElem_of_mem h
  exact ⟨j, hj, by unfold rd; rw [Int.toNat_natCast, List.getD_eq_getElem?_getD, List.getElem?_eq_getElem hj]; simpa using e⟩
theorem mayB_in {g : List (List Int)} (h : mayB g = true) : ∀ v, v < g.length → ∀ m ∈ g.getD v [], 0 ≤ m ∧ m < g.length := by
  intro v hv m hm
  obtain ⟨j, hj, rfl⟩ := rd_of_mem hm
  have := (mayB_spec h).2 v hv j hj
  exact ⟨this.1, this.2.1⟩
noncomputable def reachF (g : List (List Int)) (n : Int) : List Int := if mayB g = true ∧ 0 ≤ n ∧ n < g.length then reachL g n.toNat else []
end Go.Proofs.Ytejhejpkfjhmkaa.Man

namespace Go.Proofs.Ytejhejpkfjhmkaa.Man
open Go.RowKit Go.Proofs.Ytejhejpkfjhmkaa.Pr Go.Proofs.YtejhejpkfjhmkaaW.PrintWords
set_option linter.unusedVariables false
set_option linter.unusedSimpArgs false
def off (s : List Bool) : Nat := (s.filter (fun b => !b)).length
theorem rdOf_on {s : List Bool} {v : Nat} : rdOf false s (v : Int) = true ↔ On s v := by
  unfold rdOf On
  rw [Int.toNat_natCast, List.getD_eq_getElem?_getD]
  cases s[v]? with
  | none => simp
  | some b => simp
structure RSt (g : List (List Int)) (n : Nat) (s0 s : List Bool) (more : Bool) : Prop where
  len : s.length = g.length
  self : On s n
  rch : ∀ v, On s v → GRch g n v
  le : off s ≤ off s0
  same : more = false → s = s0
  less : more = true → off s < off s0
theorem RSt.step {g : List (List Int)} {n : Nat} {s0 s : List Bool} {more : Bool} (h : RSt g n s0 s more) {i m : Nat} (hi : On s i) (hm : (m : Int) ∈ g.getD i []) (hN : m < g.length) : RSt g n s0 (s.set m true) (more || !(rdOf false s (m : Int))) := by
  by_cases hon : On s m
  · have e : s.set m true = s := by
      apply List.ext_getElem?
      intro k
      rw [List.getElem?_set]
      split
      · rename_i ek; subst ek
        unfold On at hon
        rw [hon]; simp [(List.getElem?_eq_some_iff.1 hon).1]
      · rfl
    rw [e, rdOf_on.2 hon]
    simpa using h
  · have hf : s[m]? = some false := by
      have hl : m < s.length := by rw [h.len]; exact hN
      rw [List.getElem?_eq_getElem hl]
      cases hb : s[m] with
      | false => rfl
      | true => exact absurd (by unfold On; rw [List.getElem?_eq_getElem hl, hb]) hon
    have ho := off_set s m hf
    have hle := h.le
    have hr : rdOf false s (m : Int) = false := by
      cases hb : rdOf false s (m : Int) with
      | false => rfl
      | true => exact absurd (rdOf_on.1 hb) hon
    have h1 : off (s.set m true) < off s0 := by unfold off at *; omega
    rw [hr]
    refine ⟨by rw [List.length_set]; exact h.len, on_set h.self, fun v hv => ?_, Nat.le_of_lt h1, fun e => by simp at e, fun _ => h1⟩
    rcases on_of_set hv with rfl | hv
    · have := GRch.step (h.rch i hi) hm
      rwa [Int.toNat_natCast] at this
    · exact h.rch v hv
def Shut (g : List (List Int)) (s : List Bool) (i : Nat) : Prop := ∀ v, v < i → On s v → ∀ m ∈ g.getD v [], On s m.toNat
section
variable {g : List (List Int)} {n : Nat} {res : List Int} {x7 : Int}
theorem rr_row (hs : Sm g) (hg : ∀ v, v < g.length → ∀ m ∈ g.getD v [], 0 ≤ m ∧ m < g.length) (s0 : List Bool) (i : Nat) (hi : i < g.length)
    (hnext : ∀ s more, RSt g n s0 s more → (more = false → Shut g s (i + 1)) → Ev (fun k => r12_Reach.l2 k g s x7 more ((i + 1 : Nat) : Int)) res) :
    ∀ m j : Nat, j + m = (g.getD i []).length → ∀ s more, RSt g n s0 s more → (more = false → Shut g s i ∧ ∀ x ∈ (g.getD i []).take j, On s i → On s x.toNat) → Ev (fun k => r12_Reach.l3 k g s x7 more (i : Int) (j : Int)) res := by
  have hr := hs.2 i
  have hn := hs.1
  have c1 : 0 ≤ (i : Int) := Int.natCast_nonneg i
  have c2 : (i : Int) < (g.length : Int) := Int.ofNat_lt.2 hi
  have fin : ∀ s more, RSt g n s0 s more → (more = false → Shut g s i ∧ (On s i → ∀ x ∈ g.getD i [], On s x.toNat)) → Ev (fun k => r12_Reach.l2 k g s x7 more ((i + 1 : Nat) : Int)) res := by
    intro s more h hc
    refine hnext s more h (fun e => ?_)
    obtain ⟨q1, q2⟩ := hc e
    intro v hv hon m hm
    by_cases ev : v = i
    · subst ev; exact q2 hon m hm
    · exact q1 v (by omega) hon m hm
  intro m
  induction m with
  | zero =>
    intro j hj s more h hc
    refine Ev.step ?_
    have c3 : ¬ (j : Int) < ((g.getD i []).length : Int) := by omega
    simp only [r12_Reach.l3, if_pos c1, if_pos c2, rdLg, if_neg c3, pz i (by omega)]
    exact fin s more h (fun e => ⟨(hc e).1, fun hon x hx => (hc e).2 x (by rw [List.take_of_length_le (by omega)]; exact hx) hon⟩)
  | succ m ih =>
    intro j hj s more h hc
    refine Ev.step ?_
    have hjl : j < (g.getD i []).length := by omega
    have c3 : (j : Int) < ((g.getD i []).length : Int) := by omega
    have c4 : (i : Int) < (s.length : Int) := by rw [h.len]; exact c2
    have c5 : 0 ≤ (j : Int) := Int.natCast_nonneg j
    by_cases hon : On s i
    · have hmem : (g.getD i [])[j] ∈ g.getD i [] := List.getElem_mem hjl
      obtain ⟨m0, m1⟩ := hg i hi _ hmem
      obtain ⟨x, hx⟩ : ∃ x : Nat, (g.getD i [])[j] = (x : Int) := ⟨((g.getD i [])[j]).toNat, by omega⟩
      have hrd : rd (g.getD i []) (j : Int) = (x : Int) := by
        unfold rd; rw [Int.toNat_natCast, List.getD_eq_getElem?_getD (l := g.getD i []), List.getElem?_eq_getElem hjl]; exact hx
      rw [hx] at hmem m1
      have hxN : x < g.length := by omega
      have d1 : 0 ≤ (x : Int) := Int.natCast_nonneg x
      have d2 : (x : Int) < (s.length : Int) := by rw [h.len]; exact m1
      have hst := h.step hon hmem hxN
      have e := ih (j + 1) (by omega) (s.set x true) (more || !(rdOf false s (x : Int))) hst (fun em => by
        simp only [Bool.or_eq_false_iff, Bool.not_eq_false'] at em
        obtain ⟨e1, e2⟩ := em
        have hsx := rdOf_on.1 e2
        obtain ⟨q1, q2⟩ := hc e1
        refine ⟨fun v hv ho y hy => ?_, fun y hy ho => ?_⟩
        · rcases on_of_set ho with rfl | ho
          · exact on_set (q1 _ hv hsx y hy)
          · exact on_set (q1 v hv ho y hy)
        · rw [List.take_succ_eq_append_getElem hjl, List.mem_append] at hy
          rcases hy with hy | hy
          · exact on_set (q2 y hy hon)
          · simp only [List.mem_singleton] at hy
            rw [hy, hx, Int.toNat_natCast]; exact on_set hsx)
      simp only [r12_Reach.l3, if_pos c1, if_pos c2, rdLg, if_pos c3, if_pos c4, if_pos (rdOf_on.2 hon), if_pos c5, hrd, if_pos d1, if_pos d2, Int.toNat_natCast, pz j (by omega)]
      cases more with
      | true => simp only [if_true]; simpa using e
      | false => simp only [Bool.false_eq_true, if_false]; simpa using e
    · have hoff : ¬ rdOf false s (i : Int) = true := fun e => hon (rdOf_on.1 e)
      simp only [r12_Reach.l3, if_pos c1, if_pos c2, rdLg, if_pos c3, if_pos c4, if_neg hoff, pz i (by omega)]
      exact fin s more h (fun e => ⟨(hc e).1, fun h1 => absurd h1 hon⟩)
theorem rr_round (hs : Sm g) (hg : ∀ v, v < g.length → ∀ m ∈ g.getD v [], 0 ≤ m ∧ m < g.length) (s0 : List Bool)
    (hmore : ∀ s, RSt g n s0 s true → Ev (fun k => r12_Reach.l1 k g s (wrap64 (x7 + 1))) res) (hdone : RSt g n s0 s0 false → Shut g s0 g.length → Ev (fun k => r12_Reach.j5 k g s0) res) :
    ∀ m i : Nat, i + m = g.length → ∀ s more, RSt g n s0 s more → (more = false → Shut g s i) → Ev (fun k => r12_Reach.l2 k g s x7 more (i : Int)) res := by
  intro m
  induction m with
  | zero =>
    intro i hi s more h hc
    refine Ev.step ?_
    have c : ¬ (i : Int) < (g.length : Int) := by omega
    simp only [r12_Reach.l2, if_neg c]
    cases more with
    | true => simp only [if_true]; exact hmore s h
    | false =>
      simp only [Bool.false_eq_true, if_false]
      have e := h.same rfl
      subst e
      exact hdone h (by rw [show g.length = i by omega]; exact hc rfl)
  | succ m ih =>
    intro i hi s more h hc
    refine Ev.step ?_
    have c : (i : Int) < (g.length : Int) := by omega
    simp only [r12_Reach.l2, if_pos c]
    exact rr_row hs hg s0 i (by omega) (fun s' more' h' hc' => ih (i + 1) (by omega) s' more' h' hc') (g.getD i []).length 0 (by omega) s more h (fun e => ⟨hc e, fun x hx => by simp at hx⟩)
end
theorem rr_out (g : List (List Int)) (hs : Sm g) (s : List Bool) (hl : s.length = g.length) : Ev (fun k => r12_Reach.j5 k g s) (pick s g.length) := by
  have hn := hs.1
  have main : ∀ m j : Nat, j + m = g.length → Ev (fun k => r12_Reach.l4 k g s (pick s j) (j : Int)) (pick s g.length) := by
    intro m
    induction m with
    | zero =>
      intro j hj
      refine Ev.step ?_
      have c : ¬ (j : Int) < (g.length : Int) := by omega
      simp only [r12_Reach.l4, if_neg c]
      rw [show j = g.length by omega]; exact Ev.const _
    | succ m ih =>
      intro j hj
      have e := ih (j + 1) (by omega)
      refine Ev.step ?_
      have c : (j : Int) < (g.length : Int) := by omega
      have c0 : 0 ≤ (j : Int) := Int.natCast_nonneg j
      have c1 : (j : Int) < (s.length : Int) := by rw [hl]; exact c
      have hpl : (pick s j).length < 17592186044416 := by
        have : (pick s j).length ≤ j := by
          unfold pick; rw [List.length_map]
          exact Nat.le_trans (List.length_filter_le _ _) (by simp)
        omega
      simp only [r12_Reach.l4, if_pos c, if_pos c0, if_pos c1, if_pos hpl, pz j (by omega)]
      have hj2 : j < s.length := by omega
      by_cases h : On s j
      · rw [pick_on h] at e
        simp only [if_pos (rdOf_on.2 h)]; exact e
      · have hf : s[j]? = some false := by
          rw [List.getElem?_eq_getElem hj2]
          cases hb : s[j] with
          | false => rfl
          | true => exact absurd (by unfold On; rw [List.getElem?_eq_getElem hj2, hb]) h
        rw [pick_off hf] at e
        simp only [if_neg (fun e' => h (rdOf_on.1 e'))]; exact e
  refine Ev.step ?_
  simp only [r12_Reach.j5]
  have := main g.length 0 (by omega)
  simpa [pick] using this
theorem shut_reach {g : List (List Int)} {n : Nat} {s : List Bool} (hr : ∀ v, On s v → GRch g n v) (hn : On s n) (hg : ∀ v, v < g.length → ∀ m ∈ g.getD v [], 0 ≤ m ∧ m < g.length) (hl : s.length = g.length) (hc : Shut g s g.length) : pick s g.length = reachL g n := by
  have hlt : ∀ v, On s v → v < g.length := fun v hv => by
    have := (List.getElem?_eq_some_iff.1 hv).1; omega
  have hon : ∀ v, On s v ↔ GRch g n v := by
    intro v
    constructor
    · exact hr v
    · intro h
      induction h with
      | refl => exact hn
      | step _ hm ih => exact hc _ (hlt _ ih) ih _ hm
  unfold pick reachL
  congr 1
  apply List.filter_congr
  intro v hv'
  have := hon v
  unfold On at this
  rw [List.getD_eq_getElem?_getD]
  cases hs : s[v]? with
  | none => rw [hs] at this; simp at this; simp [this]
  | some b => rw [hs] at this; cases b <;> simp at this <;> simp [this]
theorem rr_rounds (g : List (List Int)) (n : Nat) (hs : Sm g) (hg : ∀ v, v < g.length → ∀ m ∈ g.getD v [], 0 ≤ m ∧ m < g.length) : ∀ (u : Nat) (s : List Bool) (r : Nat), off s ≤ u → s.length = g.length → On s n → (∀ v, On s v → GRch g n v) → r + off s < g.length → Ev (fun k => r12_Reach.l1 k g s (r : Int)) (reachL g n) := by
  have hn := hs.1
  intro u
  induction u using Nat.strongRecOn with
  | _ u ih =>
    intro s r hu hl hself hr hro
    refine Ev.step ?_
    have c : (r : Int) < (g.length : Int) := by omega
    simp only [r12_Reach.l1, if_pos c]
    refine rr_round hs hg s (fun s' h' => ?_) (fun _ hsh => ?_) g.length 0 (by omega) s false ⟨hl, hself, hr, Nat.le_refl _, fun _ => rfl, fun e => by cases e⟩ (fun _ v hv => by omega)
    · rw [pz r (by omega)]
      have hls := h'.less rfl
      exact ih (off s') (by omega) s' (r + 1) (Nat.le_refl _) h'.len h'.self h'.rch (by omega)
    · rw [← shut_reach hr hself hg hl hsh]
      exact rr_out g hs s hl
theorem rr_begin (g : List (List Int)) (n : Nat) (hs : Sm g) (hg : ∀ v, v < g.length → ∀ m ∈ g.getD v [], 0 ≤ m ∧ m < g.length) (hn : n < g.length) : ∀ m i : Nat, i + m = g.length → Ev (fun k => r12_Reach.l0 k g (n : Int) (((List.replicate g.length false).set n true).take i) (i : Int)) (reachL g n) := by
  have hN := hs.1
  obtain ⟨full, hf⟩ : ∃ f, f = (List.replicate g.length false).set n true := ⟨_, rfl⟩
  have hl : full.length = g.length := by rw [hf]; simp
  have hget : ∀ v, v < g.length → full[v]? = some ((v : Int) == (n : Int)) := by
    intro v hv
    rw [hf, List.getElem?_set]
    split
    · rename_i e; subst e; simp [hn]
    · rename_i e
      rw [List.getElem?_replicate, if_pos hv]
      have : ¬ (v : Int) = (n : Int) := by omega
      simp [this]
  have hself : On full n := by unfold On; rw [hget n hn]; simp
  have hr : ∀ v, On full v → GRch g n v := by
    intro v hv
    have hlt : v < g.length := by have := (List.getElem?_eq_some_iff.1 hv).1; omega
    unfold On at hv
    rw [hget v hlt] at hv
    simp at hv
    have : v = n := by omega
    rw [this]; exact .refl
  have hoff : off full + 1 = g.length := by
    have h1 : (List.replicate g.length false)[n]? = some false := by rw [List.getElem?_replicate, if_pos hn]
    have h2 := off_set _ n h1
    rw [← hf] at h2
    unfold off
    rw [h2]
    simp
  rw [← hf]
  intro m
  induction m with
  | zero =>
    intro i hi
    refine Ev.step ?_
    have c : ¬ (i : Int) < (g.length : Int) := by omega
    simp only [r12_Reach.l0, if_neg c]
    rw [List.take_of_length_le (by omega)]
    exact rr_rounds g n hs hg _ full 0 (Nat.le_refl _) hl hself hr (by omega)
  | succ m ih =>
    intro i hi
    have e := ih (i + 1) (by omega)
    refine Ev.step ?_
    have c : (i : Int) < (g.length : Int) := by omega
    have c1 : (full.take i).length < 140737488355328 := by rw [List.length_take]; omega
    simp only [r12_Reach.l0, if_pos c, if_pos c1, pz i (by omega)]
    have ht : full.take (i + 1) = full.take i ++ [((i : Int) == (n : Int))] := by
      rw [List.take_add_one, hget i (by omega)]; rfl
    rw [ht] at e
    exact e
theorem rreach_ev (g : List (List Int)) (hs : Sm g) (n : Int) : Ev (fun k => r12_Reach.f k g n) (reachF g n) := by
  have jt : reachF g n = [] → Ev (fun k => r12_Reach.j0 k g n true) (reachF g n) := by
    intro h
    rw [h]
    refine Ev.step ?_
    simp only [r12_Reach.j0, if_true]
    exact Ev.const _
  refine Ev.bind (rmay_ev g hs) ?_
  cases hb : mayB g with
  | false =>
    simp only [Bool.false_eq_true, if_false]
    exact jt (by unfold reachF; rw [if_neg (by rw [hb]; simp)])
  | true =>
    simp only [if_true]
    by_cases h0 : n < 0
    · simp only [if_pos h0]
      exact jt (by unfold reachF; rw [if_neg (by omega)])
    · simp only [if_neg h0]
      by_cases h1 : n ≥ (g.length : Int)
      · simp only [decide_eq_true h1]
        exact jt (by unfold reachF; rw [if_neg (by omega)])
      · simp only [decide_eq_false h1]
        obtain ⟨m, rfl⟩ : ∃ m : Nat, n = (m : Int) := ⟨n.toNat, by omega⟩
        have e : reachF g (m : Int) = reachL g m := by unfold reachF; rw [if_pos ⟨hb, by omega, by omega⟩, Int.toNat_natCast]
        rw [e]
        refine Ev.step ?_
        simp only [r12_Reach.j0, Bool.false_eq_true, if_false]
        have := rr_begin g m hs (mayB_in hb) (by omega) g.length 0 (by omega)
        simpa using this
end Go.Proofs.Ytejhejpkfjhmkaa.Man

namespace Go.Proofs.Ytejhejpkfjhmkaa.Man
open Go.RowKit Go.Proofs.Ytejhejpkfjhmkaa.Pr Go.Proofs.YtejhejpkfjhmkaaW.PrintWords
set_option linter.unusedVariables false
set_option linter.unusedSimpArgs false
theorem rd_lt {r : List Int} {j : Nat} (h : j < r.length) : rd r (j : Int) = r[j] := by
  unfold rd; rw [Int.toNat_natCast, List.getD_eq_getElem?_getD, List.getElem?_eq_getElem h]; rfl
theorem has_ev (l : List Int) (x : Int) (hl : l.length ≤ 1050000) : Ev (fun k => r12_Has.f k l x) (decide (x ∈ l)) := by
  have main : ∀ m i : Nat, i + m = l.length → Ev (fun k => r12_Has.l0 k l x (i : Int)) (decide (x ∈ l.drop i)) := by
    intro m
    induction m with
    | zero =>
      intro i hi
      refine Ev.step ?_
      have c : ¬ (i : Int) < (l.length : Int) := by omega
      simp only [r12_Has.l0, if_neg c]
      rw [List.drop_of_length_le (by omega)]
      exact Ev.const _
    | succ m ih =>
      intro i hi
      have e := ih (i + 1) (by omega)
      refine Ev.step ?_
      have hi2 : i < l.length := by omega
      have c : (i : Int) < (l.length : Int) := by omega
      have c0 : 0 ≤ (i : Int) := Int.natCast_nonneg i
      simp only [r12_Has.l0, if_pos c, if_pos c0, rd_lt hi2, pz i (by omega)]
      rw [List.drop_eq_getElem_cons hi2]
      by_cases h : l[i] = x
      · simp only [if_pos h]
        rw [show decide (x ∈ l[i] :: l.drop (i + 1)) = true by simp [h]]
        exact Ev.const _
      · simp only [if_neg h]
        have hiff : (x ∈ l[i] :: l.drop (i + 1)) ↔ x ∈ l.drop (i + 1) := by
          rw [List.mem_cons]; exact ⟨fun h' => h'.resolve_left (Ne.symm h), .inr⟩
        simp only [hiff]
        exact e
  have := main l.length 0 (by omega)
  rw [List.drop_zero] at this
  exact this
def col (g : List (List Int)) (t : Nat) (i : Nat) : List Int := ((List.range i).filter (fun k => decide ((t : Int) ∈ g.getD k []))).map Int.ofNat
def turnF (g : List (List Int)) : List (List Int) := if mayB g = true then (List.range g.length).map (fun t => col g t g.length) else []
theorem col_succ (g : List (List Int)) (t i : Nat) : col g t (i + 1) = col g t i ++ (if (t : Int) ∈ g.getD i [] then [(i : Int)] else []) := by
  unfold col
  rw [List.range_succ, List.filter_append, List.map_append]
  by_cases h : (t : Int) ∈ g.getD i []
  · simp only [List.filter_cons, h, decide_true, if_true, List.filter_nil, List.map_cons, List.map_nil]; rfl
  · simp only [List.filter_cons, h, decide_false, if_false, List.filter_nil, List.map_nil, Bool.false_eq_true]
theorem col_len (g : List (List Int)) (t i : Nat) : (col g t i).length ≤ i := by
  unfold col; rw [List.length_map]; exact Nat.le_trans (List.length_filter_le _ _) (by simp)
theorem rturn_row (g : List (List Int)) (hs : Sm g) (t : Nat) (ht : t < g.length) (out : List (List Int)) (ho : out.length ≤ 1050000) (res : List (List Int)) (h : Ev (fun k => r12_Turn.l0 k g (out ++ [col g t g.length]) ((t + 1 : Nat) : Int)) res) :
    ∀ m i : Nat, i + m = g.length → Ev (fun k => r12_Turn.l1 k g out (t : Int) (col g t i) (i : Int)) res := by
  have hn := hs.1
  intro m
  induction m with
  | zero =>
    intro i hi
    refine Ev.step ?_
    have c : ¬ (i : Int) < (g.length : Int) := by omega
    have c2 : out.length < 5864062014805 := by omega
    simp only [r12_Turn.l1, if_neg c, if_pos c2, pz t (by omega)]
    rw [show i = g.length by omega]; exact h
  | succ m ih =>
    intro i hi
    have e := ih (i + 1) (by omega)
    refine Ev.step ?_
    have c : (i : Int) < (g.length : Int) := by omega
    have c0 : 0 ≤ (i : Int) := Int.natCast_nonneg i
    have c1 : (col g t i).length < 17592186044416 := by have := col_len g t i; omega
    simp only [r12_Turn.l1, if_pos c, if_pos c0, rdLg]
    refine Ev.bind (has_ev _ _ (hs.2 i)) ?_
    rw [col_succ] at e
    by_cases hm : (t : Int) ∈ g.getD i []
    · rw [if_pos hm] at e
      simp only [decide_eq_true hm, if_true, if_pos c1, pz i (by omega)]; exact e
    · rw [if_neg hm, List.append_nil] at e
      simp only [decide_eq_false hm, Bool.false_eq_true, if_false, pz i (by omega)]; exact e
theorem rturn_ev (g : List (List Int)) (hs : Sm g) : Ev (fun k => r12_Turn.f k g) (turnF g) := by
  have hn := hs.1
  have main : ∀ m t : Nat, t + m = g.length → Ev (fun k => r12_Turn.l0 k g ((List.range t).map (fun t => col g t g.length)) (t : Int)) ((List.range g.length).map (fun t => col g t g.length)) := by
    intro m
    induction m with
    | zero =>
      intro t ht
      refine Ev.step ?_
      have c : ¬ (t : Int) < (g.length : Int) := by omega
      simp only [r12_Turn.l0, if_neg c]
      rw [show t = g.length by omega]; exact Ev.const _
    | succ m ih =>
      intro t ht
      have e := ih (t + 1) (by omega)
      rw [List.range_succ, List.map_append, List.map_cons, List.map_nil] at e
      refine Ev.step ?_
      have c : (t : Int) < (g.length : Int) := by omega
      simp only [r12_Turn.l0, if_pos c]
      have := rturn_row g hs t (by omega) _ (by simp; omega) _ e g.length 0 (by omega)
      simpa [col] using this
  refine Ev.bind (rmay_ev g hs) ?_
  unfold turnF
  cases hb : mayB g with
  | false => simp only [Bool.false_eq_true, if_false]; exact Ev.const _
  | true =>
    simp only [if_true]
    have := main g.length 0 (by omega)
    simpa using this
theorem row_rises {g : List (List Int)} (hm : mayB g = true) {i : Nat} (hi : i < g.length) : ∀ b a : Nat, a < b → b < (g.getD i []).length → rd (g.getD i []) (a : Int) < rd (g.getD i []) (b : Int) := by
  intro b
  induction b with
  | zero => intro a h; omega
  | succ b ih =>
    intro a h1 h2
    have h3 := ((mayB_spec hm).2 i hi (b + 1) h2).2.2 (by omega)
    simp only [Nat.add_sub_cancel] at h3
    by_cases e : a = b
    · subst e; exact h3
    · have := ih a (by omega) (by omega); omega
theorem row_new {g : List (List Int)} (hm : mayB g = true) {i j : Nat} (hi : i < g.length) (hj : j < (g.getD i []).length) : ¬ (g.getD i [])[j] ∈ (g.getD i []).take j := by
  intro h
  obtain ⟨a, ha, e⟩ := List.getElem_of_mem h
  rw [List.length_take] at ha
  rw [List.getElem_take] at e
  have h1 := row_rises hm hi j a (by omega) hj
  rw [rd_lt (by omega), rd_lt hj] at h1
  omega
def part (g : List (List Int)) (i j : Nat) : List (List Int) := (List.range g.length).map (fun t => col g t i ++ (if (t : Int) ∈ (g.getD i []).take j then [(i : Int)] else []))
theorem part_get (g : List (List Int)) (i j t : Nat) (ht : t < g.length) : (part g i j).getD t [] = col g t i ++ (if (t : Int) ∈ (g.getD i []).take j then [(i : Int)] else []) := by
  unfold part
  rw [List.getD_eq_getElem?_getD, List.getElem?_map, List.getElem?_range ht]; rfl
theorem part_step {g : List (List Int)} (hm : mayB g = true) {i j x : Nat} (hi : i < g.length) (hj : j < (g.getD i []).length) (hx : (g.getD i [])[j] = (x : Int)) (hxN : x < g.length) : (part g i j).set x ((part g i j).getD x [] ++ [(i : Int)]) = part g i (j + 1) := by
  have hnew := row_new hm hi hj
  rw [hx] at hnew
  apply List.ext_getElem?
  intro t
  rw [List.getElem?_set]
  have hlen : (part g i j).length = g.length := by unfold part; simp
  by_cases ht : t < g.length
  · have hr : (part g i (j + 1))[t]? = some (col g t i ++ (if (t : Int) ∈ (g.getD i []).take (j + 1) then [(i : Int)] else [])) := by
      unfold part; rw [List.getElem?_map, List.getElem?_range ht]; rfl
    rw [hr, List.take_succ_eq_append_getElem hj, hx]
    split
    · rename_i e; subst e
      rw [if_pos (by rw [hlen]; exact ht), part_get g i j x ht, if_neg hnew, if_pos (by simp), List.append_nil]
    · rename_i e
      have hr2 : (part g i j)[t]? = some (col g t i ++ (if (t : Int) ∈ (g.getD i []).take j then [(i : Int)] else [])) := by
        unfold part; rw [List.getElem?_map, List.getElem?_range ht]; rfl
      rw [hr2]
      have hne : ¬ (t : Int) = (x : Int) := by omega
      by_cases hin : (t : Int) ∈ (g.getD i []).take j
      · rw [if_pos hin, if_pos (List.mem_append.2 (.inl hin))]
      · rw [if_neg hin, if_neg (fun h' => (List.mem_append.1 h').elim hin (fun h'' => hne (List.mem_singleton.1 h'')))]
  · have h1 : (part g i (j + 1))[t]? = none := by rw [List.getElem?_eq_none]; unfold part; simp; omega
    have h2 : (part g i j)[t]? = none := by rw [List.getElem?_eq_none]; rw [hlen]; omega
    rw [h1, if_neg (by omega), h2]
theorem part_next (g : List (List Int)) (i : Nat) : part g i (g.getD i []).length = part g (i + 1) 0 := by
  unfold part
  apply List.map_congr_left
  intro t _
  rw [List.take_length, col_succ]
  simp
theorem gturn_row (g : List (List Int)) (hs : Sm g) (hm : mayB g = true) (i : Nat) (hi : i < g.length) (res : List (List Int)) (h : Ev (fun k => graph_Turn.l0 k (part g (i + 1) 0) g (g.length : Int) ((i + 1 : Nat) : Int)) res) :
    ∀ m j : Nat, j + m = (g.getD i []).length → Ev (fun k => graph_Turn.l1 k (part g i j) (i : Int) g (g.length : Int) (i : Int) (g.getD i []) ((g.getD i []).length : Int) (j : Int)) res := by
  have hr := hs.2 i
  have hn := hs.1
  intro m
  induction m with
  | zero =>
    intro j hj
    refine Ev.step ?_
    have c3 : ¬ (j : Int) < ((g.getD i []).length : Int) := by omega
    simp only [graph_Turn.l1, if_neg c3, pz i (by omega)]
    rw [show j = (g.getD i []).length by omega, part_next]; exact h
  | succ m ih =>
    intro j hj
    have e := ih (j + 1) (by omega)
    refine Ev.step ?_
    have hjl : j < (g.getD i []).length := by omega
    have c3 : (j : Int) < ((g.getD i []).length : Int) := by omega
    have c4 : 0 ≤ (j : Int) := Int.natCast_nonneg j
    obtain ⟨m0, m1⟩ := mayB_in hm i hi _ (List.getElem_mem hjl)
    obtain ⟨x, hx⟩ : ∃ x : Nat, (g.getD i [])[j] = (x : Int) := ⟨((g.getD i [])[j]).toNat, by omega⟩
    rw [hx] at m1
    have hxN : x < g.length := by omega
    have hrd : rd (g.getD i []) (j : Int) = (x : Int) := by rw [rd_lt hjl]; exact hx
    have d1 : 0 ≤ (x : Int) := Int.natCast_nonneg x
    have hlen : (part g i j).length = g.length := by unfold part; simp
    have d2 : (x : Int) < ((part g i j).length : Int) := by rw [hlen]; exact m1
    have d3 : ((part g i j).getD x []).length < 17592186044416 := by
      rw [part_get g i j x hxN, List.length_append]
      have := col_len g x i
      split <;> simp <;> omega
    simp only [graph_Turn.l1, if_pos c3, if_pos c4, hrd, if_pos d1, if_pos d2, rdLg, if_pos d3, Int.toNat_natCast, pz j (by omega), part_step hm hi hjl hx hxN]
    exact e
theorem gturn_ev (g : List (List Int)) (hs : Sm g) : Ev (fun k => graph_Turn.f k g) (turnF g) := by
  have hn := hs.1
  refine Ev.bind (gmay_ev g hs) ?_
  unfold turnF
  cases hb : mayB g with
  | false => simp only [Bool.false_eq_true, if_false]; exact Ev.const _
  | true =>
    have main : ∀ m i : Nat, i + m = g.length → Ev (fun k => graph_Turn.l0 k (part g i 0) g (g.length : Int) (i : Int)) ((List.range g.length).map (fun t => col g t g.length)) := by
      intro m
      induction m with
      | zero =>
        intro i hi
        refine Ev.step ?_
        have c : ¬ (i : Int) < (g.length : Int) := by omega
        simp only [graph_Turn.l0, if_neg c]
        rw [show i = g.length by omega, show part g g.length 0 = (List.range g.length).map (fun t => col g t g.length) by unfold part; simp]
        exact Ev.const _
      | succ m ih =>
        intro i hi
        refine Ev.step ?_
        have c : (i : Int) < (g.length : Int) := by omega
        have c0 : 0 ≤ (i : Int) := Int.natCast_nonneg i
        simp only [graph_Turn.l0, if_pos c, if_pos c0, rdLg]
        exact gturn_row g hs hb i (by omega) _ (ih (i + 1) (by omega)) (g.getD i []).length 0 (by omega)
    have c1 : 0 ≤ (g.length : Int) := Int.natCast_nonneg _
    have c2 : g.length ≤ 11728124029610 := by omega
    simp only [if_true, if_pos c1, Int.toNat_natCast, if_pos c2]
    have e := main g.length 0 (by omega)
    rw [show part g 0 0 = List.replicate g.length [] by
      unfold part; apply List.ext_getElem?; intro t
      rw [List.getElem?_map, List.getElem?_replicate]
      by_cases ht : t < g.length
      · rw [List.getElem?_range ht, if_pos ht]; simp [col]
      · rw [List.getElem?_eq_none (by simp; omega), if_neg ht]; rfl] at e
    exact e
theorem ints_ev (l : List Int) (hl : l.length ≤ 1050000) : Ev (fun k => r12_Ints.f k l l) true := by
  have main : ∀ m i : Nat, i + m = l.length → Ev (fun k => r12_Ints.l0 k l l (i : Int)) true := by
    intro m
    induction m with
    | zero =>
      intro i hi
      refine Ev.step ?_
      have c : ¬ (i : Int) < (l.length : Int) := by omega
      simp only [r12_Ints.l0, if_neg c]
      exact Ev.const _
    | succ m ih =>
      intro i hi
      have e := ih (i + 1) (by omega)
      refine Ev.step ?_
      have c : (i : Int) < (l.length : Int) := by omega
      have c0 : 0 ≤ (i : Int) := Int.natCast_nonneg i
      simp only [r12_Ints.l0, if_pos c, if_pos c0, if_true, pz i (by omega)]
      exact e
  have := main l.length 0 (by omega)
  simp only [r12_Ints.f, if_true]
  exact this
theorem same_ev (g : List (List Int)) (hs : Sm g) : Ev (fun k => r12_Same.f k g g) true := by
  have hn := hs.1
  have main : ∀ m i : Nat, i + m = g.length → Ev (fun k => r12_Same.l0 k g g (i : Int)) true := by
    intro m
    induction m with
    | zero =>
      intro i hi
      refine Ev.step ?_
      have c : ¬ (i : Int) < (g.length : Int) := by omega
      simp only [r12_Same.l0, if_neg c]
      exact Ev.const _
    | succ m ih =>
      intro i hi
      have e := ih (i + 1) (by omega)
      refine Ev.step ?_
      have c : (i : Int) < (g.length : Int) := by omega
      have c0 : 0 ≤ (i : Int) := Int.natCast_nonneg i
      simp only [r12_Same.l0, if_pos c, if_pos c0, rdLg]
      refine Ev.bind (ints_ev _ (hs.2 i)) ?_
      simp only [if_true, pz i (by omega)]
      exact e
  have := main g.length 0 (by omega)
  simp only [r12_Same.f, if_true]
  exact this
end Go.Proofs.Ytejhejpkfjhmkaa.Man
