/- A part of the proof that SccFolded returns true for every argument. Parts: Knt ScR ScT Pr3 Pr4 Pr5 Pr6 Pr7 PgF. No conditions beyond the given statement's own. -/
import Derived.Test.YtejhejpkfjhmkaaSFo2
import Derived.Test.YtejhejpkfjhmkaaSFo3

/- What Of's walk lays, in the words of the numbering. -/
namespace Go.Proofs.Ytejhejpkfjhmkaa.Man
open Go.RowKit Go.Shelf Go.Proofs.Ytejhejpkfjhmkaa.Pr Go.Proofs.YtejhejpkfjhmkaaW.PrintWords Go.Proofs.Ytejhejpkfjhmkaa.Tarj
set_option linter.unusedVariables false
set_option linter.unusedSimpArgs false
theorem csr13 (xs : List Int) : (Lib.compact (srt xs)).Pairwise (· < ·) := by
  have hp : (srt xs).Pairwise (fun a b => decide (a ≤ b) = true) := List.pairwise_mergeSort (fun a b c h1 h2 => by simp only [decide_eq_true_eq] at *; omega) (fun a b => by simp only [Bool.or_eq_true, decide_eq_true_eq]; omega) xs
  refine List.Pairwise.imp (fun {a b} h => by have := h.1; have := h.2; omega) (compact_rises (srt xs) (fun a b => a ≤ b) (fun a b h1 h2 => by omega) (fun i j hi hj h => ?_))
  by_cases e : i = j
  · subst e; omega
  · have := (List.pairwise_iff_getElem.1 hp) i j hi hj (by omega)
    simpa using this
theorem csm13 (xs : List Int) (x : Int) : x ∈ Lib.compact (srt xs) ↔ x ∈ xs := (compact_mem _ _).trans (List.mergeSort_perm xs _).mem_iff
theorem mem_toI {l : List Nat} {x : Nat} : (x : Int) ∈ toI l ↔ x ∈ l := by
  unfold toI
  rw [List.mem_map]
  exact ⟨fun ⟨y, hy, e⟩ => by simp only [Int.ofNat_eq_natCast] at e; have : y = x := by omega
                              exact this ▸ hy, fun h => ⟨x, h, rfl⟩⟩
theorem cmpN_mem {l : List Nat} {x : Nat} : x ∈ cmpN l ↔ x ∈ l := by
  rw [← mem_toI, toI_cmpN, csm13, mem_toI]
theorem toI_rises {l : List Nat} (h : (toI l).Pairwise (· < ·)) : l.Pairwise (· < ·) := by
  unfold toI at h
  rw [List.pairwise_map] at h
  exact h.imp (fun h => by simp only [Int.ofNat_eq_natCast] at h; omega)
theorem cmpN_rises (l : List Nat) : (cmpN l).Pairwise (· < ·) := toI_rises (by rw [toI_cmpN]; exact csr13 _)
theorem nodup_rises {l : List Nat} (h : l.Pairwise (· < ·)) : l.Nodup := h.imp (fun h => by omega)
theorem rowIns_mem {cls : Nat → Nat} {x m i j : Nat} {r : Nat → List Nat} : j ∈ rowIns cls x r m i ↔ j ∈ r i ∨ (cls x = i ∧ cls m = j ∧ j ≠ i) := by
  unfold rowIns
  by_cases e : cls m = cls x
  · rw [if_pos e]
    exact ⟨.inl, fun q => q.elim id (fun q => absurd (q.2.1.symm.trans (e.trans q.1)) q.2.2)⟩
  · rw [if_neg e]
    by_cases e2 : i = cls x
    · subst e2
      rw [Tarj.upd_same, List.mem_append, List.mem_singleton]
      exact ⟨fun q => q.imp id (fun q => ⟨rfl, q.symm, fun w => e (by rw [← q, w])⟩), fun q => q.imp id (fun q => q.2.1.symm)⟩
    · rw [Tarj.upd_other _ _ e2]
      exact ⟨.inl, fun q => q.elim id (fun q => absurd q.1.symm e2)⟩
theorem rowFold_mem {cls : Nat → Nat} {x i j : Nat} : ∀ (a : List Nat) (r : Nat → List Nat), j ∈ a.foldl (rowIns cls x) r i ↔ j ∈ r i ∨ (cls x = i ∧ ∃ y, y ∈ a ∧ cls y = j ∧ j ≠ i)
  | [], r => by simp
  | m :: a, r => by
    rw [List.foldl_cons, rowFold_mem a, rowIns_mem]
    constructor
    · rintro ((q | ⟨q1, q2, q3⟩) | ⟨q, y, hy, q2⟩)
      · exact .inl q
      · exact .inr ⟨q1, m, List.mem_cons_self, q2, q3⟩
      · exact .inr ⟨q, y, List.mem_cons_of_mem _ hy, q2⟩
    · rintro (q | ⟨q, y, hy, q2⟩)
      · exact .inl (.inl q)
      · rcases List.mem_cons.1 hy with rfl | hy
        · exact .inl (.inr ⟨q, q2⟩)
        · exact .inr ⟨q, y, hy, q2⟩
theorem rowsAt_mem {cls : Nat → Nat} {adj : Nat → List Nat} {i j : Nat} : ∀ n : Nat, j ∈ rowsAt cls adj n i ↔ j ≠ i ∧ ∃ x, x < n ∧ cls x = i ∧ ∃ y, y ∈ adj x ∧ cls y = j
  | 0 => by
    constructor
    · intro h; cases h
    · rintro ⟨_, x, h, _⟩; exact absurd h (Nat.not_lt_zero _)
  | n + 1 => by
    have e : rowsAt cls adj (n + 1) = (adj n).foldl (rowIns cls n) (rowsAt cls adj n) := by
      unfold rowsAt; rw [List.range_succ, List.foldl_append]; rfl
    rw [e, rowFold_mem, rowsAt_mem n]
    constructor
    · rintro (⟨q, x, hx, w⟩ | ⟨q, y, hy, q2, q3⟩)
      · exact ⟨q, x, by omega, w⟩
      · exact ⟨q3, n, by omega, q, y, hy, q2⟩
    · rintro ⟨q, x, hx, q2, y, hy, q3⟩
      by_cases e : x = n
      · subst e; exact .inr ⟨q2, y, hy, q3, q⟩
      · exact .inl ⟨q, x, by omega, q2, y, hy, q3⟩
theorem ofRow_get (k x : Nat) : ∀ (l : List Nat) (f : Nat → Nat), ofRow k l f x = if x ∈ l then k else f x
  | [], f => by simp [ofRow]
  | a :: t, f => by
    have ih := ofRow_get k x t (Tarj.upd f a k)
    have e : ofRow k (a :: t) f x = ofRow k t (Tarj.upd f a k) x := rfl
    rw [e, ih]
    by_cases h : x ∈ t
    · rw [if_pos h, if_pos (List.mem_cons_of_mem _ h)]
    · rw [if_neg h]
      by_cases e2 : x = a
      · subst e2; rw [Tarj.upd_same, if_pos List.mem_cons_self]
      · rw [Tarj.upd_other _ _ e2, if_neg (fun w => (List.mem_cons.1 w).elim e2 h)]
theorem ofAt_get {L : List (List Nat)} (hd : L.Pairwise (fun l m => ∀ x, x ∈ l → x ∉ m)) {k x : Nat} (hk : k < L.length) (hx : x ∈ L[k]) : ∀ n, k < n → n ≤ L.length → ofAt L n x = k
  | 0, h, _ => absurd h (Nat.not_lt_zero _)
  | n + 1, h, hn => by
    have hg : L.getD n [] = L[n]'(by omega) := by rw [List.getD_eq_getElem?_getD, List.getElem?_eq_getElem (by omega)]; rfl
    rw [ofAt_succ, ofRow_get, hg]
    by_cases e : k = n
    · subst e; rw [if_pos hx]
    · have := (List.pairwise_iff_getElem.1 hd) k n hk (by omega) (by omega) x hx
      rw [if_neg this]
      exact ofAt_get hd hk hx n (by omega) (by omega)
section
variable {adj : Nat → List Nat} {N : Nat}
def rowK (adj : Nat → List Nat) (N : Nat) (cls : Nat → Nat) (k : Nat) : List Nat := cmpN (rowsAt cls adj N k)
def rowsK (adj : Nat → List Nat) (N : Nat) (cls : Nat → Nat) (K : Nat) : List (List Int) := (List.range K).map fun i => toI (rowK adj N cls i)
def turnK (adj : Nat → List Nat) (N : Nat) (cls : Nat → Nat) (K k : Nat) : List Nat := (List.range K).filter fun i => decide (k ∈ rowK adj N cls i)
theorem rowsK_len (adj : Nat → List Nat) (N : Nat) (cls : Nat → Nat) (K : Nat) : (rowsK adj N cls K).length = K := by unfold rowsK; simp
theorem rowsK_get {cls : Nat → Nat} {K k : Nat} (h : k < K) : (rowsK adj N cls K).getD k [] = toI (rowK adj N cls k) := by
  unfold rowsK; rw [List.getD_eq_getElem?_getD, List.getElem?_map, List.getElem?_range h]; rfl
theorem kh_ok (hN : ∀ x, x < N → ∀ y, y ∈ adj x → y < N) {L : List (List Nat)} (hL : L = knotsF adj N) {K : Nat} (hK : K = L.length) : KH adj N K (ofAt L K) (lowAt L K) (rowK adj N (ofAt L K)) (turnK adj N (ofAt L K) K) := by
  obtain ⟨k1, k2, k3⟩ := knots_ok hN
  rw [← hL] at k1 k2 k3
  have inK : ∀ x, x < N → ∃ hk : ofAt L K x < L.length, x ∈ L[ofAt L K x] := fun x hx => by
    obtain ⟨l, hl, hxl⟩ := (k3 x).2 hx
    obtain ⟨k, hk, rfl⟩ := List.getElem_of_mem hl
    have := ofAt_get k2 hk hxl K (by omega) (by omega)
    refine ⟨by omega, ?_⟩
    simp only [this]; exact hxl
  have atK : ∀ k (hk : k < L.length) x, x ∈ L[k] → x < N ∧ ofAt L K x = k := fun k hk x hx => ⟨(k3 x).1 ⟨_, List.getElem_mem hk, hx⟩, ofAt_get k2 hk hx K (by omega) (by omega)⟩
  have low : ∀ k (hk : k < L.length), ∃ hp : 0 < L[k].length, lowAt L K k = L[k][0] := fun k hk => by
    have hp := List.length_pos_iff.2 (k1 _ (List.getElem_mem hk)).1
    refine ⟨hp, ?_⟩
    unfold lowAt
    rw [if_pos (by omega), List.getD_eq_getElem?_getD (l := L), List.getElem?_eq_getElem hk, Option.getD_some, List.getD_eq_getElem?_getD, List.getElem?_eq_getElem hp]; rfl
  have cl : ∀ x, x < N → ofAt L K x < K := fun x hx => by obtain ⟨h, _⟩ := inK x hx; omega
  refine ⟨hN, cl, fun x y hx hy => ?_, fun k hk => ?_, fun x hx => ?_, fun k hk j => ?_, fun k hk => nodup_rises (cmpN_rises _), fun k hk j => ?_, fun k hk => (List.nodup_range).filter _⟩
  · obtain ⟨hk, hxk⟩ := inK x hx
    have hkn := (k1 _ (List.getElem_mem hk)).2.2 x hxk y
    constructor
    · intro e
      obtain ⟨hk2, hyk⟩ := inK y hy
      simp only [← e] at hyk
      exact hkn.1 hyk
    · intro s
      exact (atK _ hk y (hkn.2 s)).2.symm
  · obtain ⟨hp, e⟩ := low k (by omega)
    rw [e]
    exact atK k (by omega) _ (List.getElem_mem hp)
  · obtain ⟨hk, hxk⟩ := inK x hx
    obtain ⟨hp, e⟩ := low _ hk
    rw [e]
    obtain ⟨i, hi, hxi⟩ := List.getElem_of_mem hxk
    have hs := (k1 _ (List.getElem_mem hk)).2.1
    rcases Nat.eq_zero_or_pos i with q | q
    · subst q; rw [hxi]; exact Nat.le_refl _
    · have := (List.pairwise_iff_getElem.1 hs) 0 i hp hi q
      rw [hxi] at this; exact this
  · unfold rowK
    rw [cmpN_mem, rowsAt_mem]
  · unfold turnK
    rw [List.mem_filter, List.mem_range, decide_eq_true_eq]
theorem rowK_lt {cls : Nat → Nat} {K k : Nat} (hN : ∀ x, x < N → ∀ y, y ∈ adj x → y < N) (hc : ∀ x, x < N → cls x < K) {j : Nat} (h : j ∈ rowK adj N cls k) : j < K := by
  unfold rowK at h
  rw [cmpN_mem, rowsAt_mem] at h
  obtain ⟨_, x, hx, _, y, hy, e⟩ := h
  rw [← e]; exact hc y (hN x hx y hy)
theorem rowsK_may {cls : Nat → Nat} {K : Nat} (hN : ∀ x, x < N → ∀ y, y ∈ adj x → y < N) (hc : ∀ x, x < N → cls x < K) (hK : K ≤ 1000) : mayB (rowsK adj N cls K) = true := by
  refine mayB_mk (by rw [rowsK_len]; exact hK) (fun v hv => ?_) (fun v hv m hm => ?_)
  · rw [rowsK_len] at hv
    rw [rowsK_get hv]
    unfold rowK; rw [toI_cmpN]; exact csr13 _
  · rw [rowsK_len] at hv ⊢
    rw [rowsK_get hv] at hm
    obtain ⟨j, hj, rfl⟩ := List.mem_map.1 hm
    have := rowK_lt hN hc hj
    simp only [Int.ofNat_eq_natCast]
    omega
theorem turnK_eq {cls : Nat → Nat} {K : Nat} (hN : ∀ x, x < N → ∀ y, y ∈ adj x → y < N) (hc : ∀ x, x < N → cls x < K) (hK : K ≤ 1000) : turnF (rowsK adj N cls K) = (List.range K).map fun k => toI (turnK adj N cls K k) := by
  unfold turnF
  rw [if_pos (rowsK_may hN hc hK), rowsK_len]
  apply List.map_congr_left
  intro t _
  unfold col turnK toI
  congr 1
  apply List.filter_congr
  intro i hi
  rw [show (rowsK adj N cls K).getD i [] = toI (rowK adj N cls i) from rowsK_get (List.mem_range.1 hi)]
  exact decide_eq_decide.2 mem_toI
end
end Go.Proofs.Ytejhejpkfjhmkaa.Man

namespace Go.Proofs.Ytejhejpkfjhmkaa.Man
open Go.RowKit Go.Shelf Go.Proofs.Ytejhejpkfjhmkaa.Pr Go.Proofs.YtejhejpkfjhmkaaW.PrintWords Go.Proofs.YtejhejpkfjhmkaaW.PrintMore Go.Proofs.Ytejhejpkfjhmkaa.Tarj
attribute [local go_sem] Oper.semAt_some
set_option linter.unusedVariables false
set_option linter.unusedSimpArgs false
set_option maxRecDepth 100000 in
set_option maxHeartbeats 16000000 in
theorem of_try (g : List (List Int)) (hgo : GOk g) (A : Option Addr) (c kM : Nat) (W : World) (hg : kL.C W A g.length g) (hlc : g.length ≤ c) (hmay : graph_May.f kM g = some true) :
    Calls Try.prog 10 #[.slice A g.length c] W fun e W' => ∃ bo M num, e = .returned (.slice (some ⟨bo, 0, none⟩) g.length g.length) ∧ Nmb (adjF g) g.length M num ∧ W.heap.size ≤ bo ∧ W'.heap[bo]? = some (.cells (ints g.length num) 3 (0, 0)) ∧ Below W.heap.size W W' := by
  have hmayc := fun w (h : kL.C w A g.length g) => graph_May.calls kM A c g true w h hlc hmay
  have HMAY := Lib.hid hmayc
  have HG := Lib.hid hg
  have GO := Lib.hid hgo
  have hgl := hgo.len
  clear hmayc hg hgo hmay
  go_enter Try.func10, Try.ntmps10
  go_upto_region 3 with (first
    | (go_at_call 21; (with_reducible refine (HMAY.out _ HG.out).mono ?_; rintro z w1 ⟨rfl, hdr⟩; have HDR := Lib.hid hdr; clear hdr)))
  obtain ⟨nd, rfl⟩ := HDR.out.out
  have hgF : Kd.F kL (W.drewN nd) (fun k => k < (W.drewN nd).heap.size) A g.length g := Kd.C_F (Kd.heap_slice 3 (Kd.heap_int .i64)) (Kd.C_below HG.out (pw_below_drewN (Below.refl _ _) nd))
  have hb1 : Below W.heap.size W (W.drewN nd) := pw_below_drewN (Below.refl _ _) nd
  clear HDR
  generalize W.drewN nd = W1 at hgF hb1 ⊢
  have HGF := Lib.hid hgF
  have HB1 := Lib.hid hb1
  have HMI := Lib.hid (makeI g.length hgl)
  have HMB := Lib.hid (makeB g.length hgl)
  clear hgF hb1
  refine (wpIn_wide (n := 5)).1 ?_
  refine wpIn_region_any mixedO ?_
  refine wpAnyIn_flow2 _ (fun _ => undef) (fun done val Z => S3 A g.length c W1 done val Z) rfl (by kernel_rfl) _ ?hz3 ?st3 ?en3
  case hz3 => exact S3.start A g.length c W1
  case st3 =>
    intro i o done val a Z ho hdn hdep hag hS K2 hK2
    have hm : i < 13 := by
      by_cases h : i < 13
      · exact h
      · rw [Array.getElem?_eq_none (by simp; omega)] at ho; cases ho
    obtain rfl | rfl | rfl | rfl | rfl | rfl | rfl | rfl | rfl | rfl | rfl | rfl | rfl : i = 0 ∨ i = 1 ∨ i = 2 ∨ i = 3 ∨ i = 4 ∨ i = 5 ∨ i = 6 ∨ i = 7 ∨ i = 8 ∨ i = 9 ∨ i = 10 ∨ i = 11 ∨ i = 12 := by omega
    · cases ho
      have e0 : a.eval (.tmp 0) = .slice A g.length c := hag.keep 0 rfl
      refine opIn_value (i := 0) (r := .slice A g.length c) (w' := Z) rfl rfl (fun c h => by cases h) rfl ?_ (hK2 _ _ (hS.do_ 0 rfl rfl))
      have ec : ∀ v, a.eval (.const v) = v := fun _ => rfl
      generalize a.eval = ev at *
      simp [execOp, go_sem, ec, e0]
    · cases ho
      have e0 : a.eval (.tmp 0) = .slice A g.length c := hag.keep 0 rfl
      refine opIn_value (i := 1) (r := .slice A g.length c) (w' := Z) rfl rfl (fun c h => by cases h) rfl ?_ (hK2 _ _ (hS.do_ 1 rfl rfl))
      have ec : ∀ v, a.eval (.const v) = v := fun _ => rfl
      generalize a.eval = ev at *
      simp [execOp, go_sem, ec, e0]
    · cases ho
      have e28 := (hag.val_ (j := 1) (t := 28) rfl (hdep ⟨1, .data⟩ (by simp) rfl)).trans (hS.v1 (hdep ⟨1, .data⟩ (by simp) rfl))
      refine opIn_value (i := 2) (r := .int .i64 (g.length : Nat)) (w' := Z) rfl rfl (fun c h => by cases h) rfl ?_ (hK2 _ _ (hS.do_ 2 rfl rfl))
      have ec : ∀ v, a.eval (.const v) = v := fun _ => rfl
      generalize a.eval = ev at *
      simp [execOp, go_sem, ec, e28]
    · cases ho
      have e29 := (hag.val_ (j := 2) (t := 29) rfl (hdep ⟨2, .data⟩ (by simp) rfl)).trans (hS.v2 (hdep ⟨2, .data⟩ (by simp) rfl))
      have hmk := HMI.out Z
      refine opIn_value (i := 3) (r := .slice (some ⟨Z.heap.size, 0, none⟩) g.length g.length) (w' := Z.alloc (.cells (ints g.length (fun _ => 0)) 3)) rfl rfl (fun c h => by cases h) rfl ?_ (hK2 _ _ (hS.do3 hdn))
      generalize a.eval = ev at *
      simp [execOp, go_sem, e29, hmk]
    · cases ho
      have e0 : a.eval (.tmp 0) = .slice A g.length c := hag.keep 0 rfl
      refine opIn_value (i := 4) (r := .slice A g.length c) (w' := Z) rfl rfl (fun c h => by cases h) rfl ?_ (hK2 _ _ (hS.do_ 4 rfl rfl))
      have ec : ∀ v, a.eval (.const v) = v := fun _ => rfl
      generalize a.eval = ev at *
      simp [execOp, go_sem, ec, e0]
    · cases ho
      have e31 := (hag.val_ (j := 4) (t := 31) rfl (hdep ⟨4, .data⟩ (by simp) rfl)).trans (hS.v4 (hdep ⟨4, .data⟩ (by simp) rfl))
      refine opIn_value (i := 5) (r := .int .i64 (g.length : Nat)) (w' := Z) rfl rfl (fun c h => by cases h) rfl ?_ (hK2 _ _ (hS.do_ 5 rfl rfl))
      have ec : ∀ v, a.eval (.const v) = v := fun _ => rfl
      generalize a.eval = ev at *
      simp [execOp, go_sem, ec, e31]
    · cases ho
      have e32 := (hag.val_ (j := 5) (t := 32) rfl (hdep ⟨5, .data⟩ (by simp) rfl)).trans (hS.v5 (hdep ⟨5, .data⟩ (by simp) rfl))
      have hmk := HMI.out Z
      refine opIn_value (i := 6) (r := .slice (some ⟨Z.heap.size, 0, none⟩) g.length g.length) (w' := Z.alloc (.cells (ints g.length (fun _ => 0)) 3)) rfl rfl (fun c h => by cases h) rfl ?_ (hK2 _ _ (hS.do6 hdn))
      generalize a.eval = ev at *
      simp [execOp, go_sem, e32, hmk]
    · cases ho
      have e0 : a.eval (.tmp 0) = .slice A g.length c := hag.keep 0 rfl
      refine opIn_value (i := 7) (r := .slice A g.length c) (w' := Z) rfl rfl (fun c h => by cases h) rfl ?_ (hK2 _ _ (hS.do_ 7 rfl rfl))
      have ec : ∀ v, a.eval (.const v) = v := fun _ => rfl
      generalize a.eval = ev at *
      simp [execOp, go_sem, ec, e0]
    · cases ho
      have e34 := (hag.val_ (j := 7) (t := 34) rfl (hdep ⟨7, .data⟩ (by simp) rfl)).trans (hS.v7 (hdep ⟨7, .data⟩ (by simp) rfl))
      refine opIn_value (i := 8) (r := .int .i64 (g.length : Nat)) (w' := Z) rfl rfl (fun c h => by cases h) rfl ?_ (hK2 _ _ (hS.do_ 8 rfl rfl))
      have ec : ∀ v, a.eval (.const v) = v := fun _ => rfl
      generalize a.eval = ev at *
      simp [execOp, go_sem, ec, e34]
    · cases ho
      have e35 := (hag.val_ (j := 8) (t := 35) rfl (hdep ⟨8, .data⟩ (by simp) rfl)).trans (hS.v8 (hdep ⟨8, .data⟩ (by simp) rfl))
      have hmk := HMB.out Z
      refine opIn_value (i := 9) (r := .slice (some ⟨Z.heap.size, 0, none⟩) g.length g.length) (w' := Z.alloc (.cells (bls g.length (fun _ => false)) 4)) rfl rfl (fun c h => by cases h) rfl ?_ (hK2 _ _ (hS.do9 hdn))
      generalize a.eval = ev at *
      simp [execOp, go_sem, e35, hmk]
    · cases ho
      have e27 := (hag.val_ (j := 0) (t := 27) rfl (hdep ⟨0, .data⟩ (by simp) rfl)).trans (hS.v0 (hdep ⟨0, .data⟩ (by simp) rfl))
      have e30 := hag.val_ (j := 3) (t := 30) rfl (hdep ⟨3, .data⟩ (by simp) rfl)
      have e33 := hag.val_ (j := 6) (t := 33) rfl (hdep ⟨6, .data⟩ (by simp) rfl)
      have e36 := hag.val_ (j := 9) (t := 36) rfl (hdep ⟨9, .data⟩ (by simp) rfl)
      obtain ⟨⟨p3, hs3, _⟩, ⟨p6, hs6, _⟩, ⟨p9, hs9, _⟩⟩ := And.intro (hS.s3 (hdep ⟨3, .data⟩ (by simp) rfl)) (And.intro (hS.s6 (hdep ⟨6, .data⟩ (by simp) rfl)) (hS.s9 (hdep ⟨9, .data⟩ (by simp) rfl)))
      rw [hs3] at e30
      rw [hs6] at e33
      rw [hs9] at e36
      refine opIn_value (i := 10) (r := .agg #[.slice A g.length c, .slice (some ⟨p3, 0, none⟩) g.length g.length, .slice (some ⟨p6, 0, none⟩) g.length g.length, .slice none 0 0, .slice (some ⟨p9, 0, none⟩) g.length g.length, .int .i64 0, .slice none 0 0]) (w' := Z) rfl rfl (fun c h => by cases h) rfl ?_ (hK2 _ _ (hS.do10 hdn hs3 hs6 hs9 (hdep ⟨3, .data⟩ (by simp) rfl) (hdep ⟨6, .data⟩ (by simp) rfl) (hdep ⟨9, .data⟩ (by simp) rfl)))
      generalize a.eval = ev at *
      simp [execOp, go_sem, e27, e30, e33, e36]
    · cases ho
      have e37 := hag.val_ (j := 10) (t := 37) rfl (hdep ⟨10, .data⟩ (by simp) rfl)
      obtain ⟨p3, p6, p9, hs10⟩ := hS.s10 (hdep ⟨10, .data⟩ (by simp) rfl)
      rw [hs10.1] at e37; unfold fin0 at e37
      refine opIn_value (i := 11) (r := .pointer (some ⟨Z.heap.size, 0, none⟩)) (w' := Z.alloc (.cells #[.slice A g.length c, .slice (some ⟨p3, 0, none⟩) g.length g.length, .slice (some ⟨p6, 0, none⟩) g.length g.length, .slice none 0 0, .slice (some ⟨p9, 0, none⟩) g.length g.length, .int .i64 0, .slice none 0 0] 38)) rfl rfl (fun c h => by cases h) rfl ?_ (hK2 _ _ (hS.do11 hdn (hdep ⟨10, .data⟩ (by simp) rfl) hs10.2.1 hs10.2.2.1 hs10.2.2.2))
      generalize a.eval = ev at *
      simp [execOp, go_sem, e37]
    · cases ho
      have e38 := hag.val_ (j := 11) (t := 38) rfl (hdep ⟨11, .data⟩ (by simp) rfl)
      obtain ⟨F, p3, p6, p9, hs11⟩ := hS.s11 (hdep ⟨11, .data⟩ (by simp) rfl)
      rw [hs11.1] at e38
      refine opIn_value (i := 12) (r := .pointer (some ⟨F, 0, none⟩)) (w' := Z) rfl rfl (fun c h => by cases h) rfl ?_ (hK2 _ _ (hS.do12 hdn (hdep ⟨11, .data⟩ (by simp) rfl) hs11.1))
      generalize a.eval = ev at *
      simp [execOp, go_sem, e38]
  case en3 =>
    intro Z done val hdn hS
    simp only [putTmps, dstOf, List.size_toArray, List.length_cons, List.length_nil, Nat.reduceAdd, List.getElem?_toArray, List.getElem?_cons_zero, List.getElem?_cons_succ, Option.bind_some, List.setIfInBounds_toArray, List.set_cons_zero, List.set_cons_succ]
    obtain ⟨F, b1, b2, b4, e12, fs0⟩ := hS.fs (hdn 12 (by decide)) HGF.out
    rw [e12]
    have HOL := Lib.hid (OL.start fs0 hS.be hS.be.size)
    obtain ⟨B, hB⟩ : ∃ B, W1.heap.size = B := ⟨_, rfl⟩
    rw [hB] at HOL
    have HBS := Lib.hid hB
    clear hS hdn fs0 e12 hB HMI HMB
    go_wp2
    go_loopg [41] g.length (fun kq v41 w' => ∃ (n : Nat) (s : St) (vs vk : Value), n + kq = g.length ∧ v41 = .int .i64 (n : Nat) ∧ Hid (OL B F b1 b2 b4 A c g W1 n s vs vk w'))
    case atStart => exact ⟨0, _, _, _, by omega, rfl, HOL⟩
    case round =>
      obtain ⟨n, s, vs, vk, hn', rfl, HL⟩ := hrel
      clear HOL
      have ck := HL.out.fs.cf
      by_cases hn : n < g.length
      · have hn0 : (0 : Int) ≤ (n : Int) := Int.natCast_nonneg n
        have cn := HL.out.fs.cn hn
        have hw := pzS n (by omega)
        obtain ⟨k1, rfl⟩ : ∃ k1, gk = k1 + 1 := ⟨gk - 1, by omega⟩
        by_cases hi0 : s.index n = 0
        · have hib : ((s.index n : Int) == 0) = true := by rw [hi0]; rfl
          have hcall := visit_any g GO.out A c B F b1 b2 b4 g.length s [] n vs vk wr HL.out.fs HL.out.inv HL.out.ct HL.out.tt hi0 hn (fun _ h => by cases h) (whites_max _ _) HL.out.bz
          have HCALL := Lib.hid hcall
          have HI0 := Lib.hid hi0
          clear hcall hi0
          go_wp2_with (first
            | (go_at_call 22; (with_reducible refine HCALL.out.mono ?_; rintro z w2 ⟨rfl, ⟨vs3, vk3, hfs3⟩, hbe3⟩; have HFS3 := Lib.hid hfs3; have HBE3 := Lib.hid hbe3; clear hfs3 hbe3 ck cn)))
          go_roundg k1
          case measure => exact Nat.lt_succ_self _
          case rel =>
            refine ⟨n + 1, _, vs3, vk3, by rw [Nat.add_assoc, Nat.add_comm 1]; exact hn', by first | rw [hw] | simp [hw], Lib.hid ⟨?_, ?_, ?_, ?_, HFS3.out, HL.out.be.trans HBE3.out, Nat.le_trans HL.out.bz HBE3.out.size⟩⟩
            · rw [roots_succ, ← HL.out.is, if_pos HI0.out]
            · obtain ⟨e, p⟩ := visit_ok GO.out.adj g.length s [] n HL.out.inv HI0.out hn (fun _ h => by cases h) (whites_max _ _)
              exact p.inv
            · rw [(visit_cnt GO.out.adj g.length n s hn HI0.out).1]; exact HL.out.ct
            · exact (visit_cnt GO.out.adj g.length n s hn HI0.out).2 HL.out.tt
        · have hib : ((s.index n : Int) == 0) = false := by simpa using hi0
          have HI0 := Lib.hid hi0
          clear hi0
          go_wp2
          clear ck cn
          go_roundg k1
          case measure => exact Nat.lt_succ_self _
          case rel => exact ⟨n + 1, s, vs, vk, by rw [Nat.add_assoc, Nat.add_comm 1]; exact hn', by first | rw [hw] | simp [hw], Lib.hid ⟨by rw [roots_succ, ← HL.out.is, if_neg HI0.out], HL.out.inv, HL.out.ct, HL.out.tt, HL.out.fs, HL.out.be, HL.out.bz⟩⟩
      · have hne : n = g.length := by omega
        subst hne
        have hkl := knots_le HL.out.inv HL.out.tt HL.out.ct
        obtain ⟨Ak, cK, ek⟩ := Kd.N_slice HL.out.fs.kn
        obtain ⟨K, hK⟩ : ∃ K, K = s.knots.length := ⟨_, rfl⟩
        have hKm : (s.knots.map toI).length = K := by rw [List.length_map, hK]
        rw [hKm] at ek
        subst ek
        obtain ⟨bof, hbof⟩ : ∃ b, wr.heap.size = b := ⟨_, rfl⟩
        obtain ⟨W4, hW4⟩ : ∃ W4, wr.alloc (.cells (ints g.length (fun _ => 0)) 3) = W4 := ⟨_, rfl⟩
        obtain ⟨bl, hbl⟩ : ∃ b, W4.heap.size = b := ⟨_, rfl⟩
        obtain ⟨W5, hW5⟩ : ∃ W5, W4.alloc (.cells (ints K (fun _ => 0)) 3) = W5 := ⟨_, rfl⟩
        have hmi1 := makeI g.length hgl wr
        have hmi2 := makeI K (by omega) W4
        rw [hbof, hW4] at hmi1
        rw [hbl, hW5] at hmi2
        have hkc : K ≤ cK := by
          obtain ⟨_, h2, _⟩ := Kd.N_reads' HL.out.fs.kn
          exact h2
        have hkF : Kd.F kL wr (fun k => k < wr.heap.size) Ak s.knots.length (s.knots.map toI) := by
          have h1 := Kd.N_F (Kd.N_bound HL.out.fs.kn)
          rw [hK] at h1
          exact Kd.F_mono h1 (fun k hk => hk.2)
        have hba : Below bof wr W5 := by
          rw [← hW5, ← hW4, ← hbof]
          exact below_alloc (below_alloc (Below.refl _ _) _) _
        have hkm : KM B bof bof bl g.length K s.knots (.slice Ak K cK) (ofAt s.knots 0) (lowAt s.knots 0) W1 W5 := by
          have hlt : wr.heap.size < W4.heap.size := by rw [← hW4]; exact blk_lt (World.alloc_heap_new wr _)
          rw [hbof, hbl] at hlt
          have hz := HL.out.bz
          rw [hbof] at hkF hz
          refine ⟨Kd.F_below hkF (by rw [hbof]; exact hba), ?_, ?_, HL.out.be.trans (hba.mono hz), ⟨Nat.le_refl _, Nat.le_of_lt hlt, hz⟩, Nat.ne_of_lt hlt⟩
          · rw [← hW5, ← hW4, ← hbof]
            exact blk_alloc (World.alloc_heap_new wr _) _
          · have : lowAt s.knots 0 = fun _ => 0 := by funext x; simp [lowAt]
            rw [this, ← hW5, ← hbl]
            exact World.alloc_heap_new _ _
        have HKM := Lib.hid hkm
        have HBA := Lib.hid hba
        have HKL := Lib.hid hkl
        have HKK := Lib.hid hK
        have hFb : F < bof := by rw [← hbof]; exact blk_lt HL.out.fs.f
        have HFB := Lib.hid hFb
        clear hkm hkF hkl hK hKm hba hFb
        go_upto_region 11 with (fail)
        have fs4 := HL.out.fs.below (show Below wr.heap.size wr W4 from by rw [← hW4]; exact below_alloc (Below.refl wr.heap.size wr) _)
        clear ck
        have ck := fs4.cf
        go_upto_region 12 with (fail)
        have fs5 := HL.out.fs.below (show Below wr.heap.size wr W5 from by rw [hbof]; exact HBA.out)
        clear ck hmi1 hmi2 fs4
        have ck := fs5.cf
        obtain ⟨Wa, hWa⟩ : ∃ W, W = wr := ⟨_, rfl⟩
        have HWA := Lib.hid hWa
        rw [← hWa] at HBA
        have HFS := Lib.hid (show FS B F b1 b2 b4 A c g s vs (.slice Ak K cK) Wa from by rw [hWa]; exact HL.out.fs)
        have HIS := Lib.hid HL.out.is
        have HIV := Lib.hid HL.out.inv
        have HBZ := Lib.hid (show bof = Wa.heap.size from by rw [hWa]; exact hbof.symm)
        clear fs5 hWa hbof hbl hW4 hW5 HL
        go_wp2
        clear ck
        go_loopg [70] K (fun kq v70 w' => ∃ (k : Nat), k + kq = K ∧ v70 = .int .i64 (k : Nat) ∧ Hid (Below bof Wa w') ∧ Hid (KM B bof bof bl g.length K s.knots (.slice Ak K cK) (ofAt s.knots k) (lowAt s.knots k) W1 w'))
        case atStart => exact ⟨0, by omega, rfl, HBA, HKM⟩
        case round =>
          obtain ⟨k, hk', rfl, HBW, HQ⟩ := hrel
          clear HKM HBA
          by_cases hk : k < K
          · obtain ⟨ad, A0, c0, eA, hrow, hle, hF0⟩ := rowA HQ.out.kn k (by rw [← HKK.out]; exact hk)
            have eA' : Ak = some ad := eA
            subst eA'
            obtain ⟨l, hl⟩ : ∃ l, l = s.knots.getD k [] := ⟨_, rfl⟩
            have hml : (s.knots.map toI).getD k [] = toI l := by
              rw [hl, List.getD_eq_getElem?_getD, List.getD_eq_getElem?_getD, List.getElem?_map, List.getElem?_eq_getElem (by rw [← HKK.out]; exact hk)]; rfl
            rw [hml, toI_len] at hrow hle hF0
            have hlm : l ∈ s.knots := by
              rw [hl, List.getD_eq_getElem?_getD, List.getElem?_eq_getElem (by rw [← HKK.out]; exact hk)]
              exact List.getElem_mem _
            have hlp : 0 < l.length := List.length_pos_iff.2 (HIV.out.kcl l hlm).1
            have hln : ∀ x, x ∈ l → x < g.length := fun x hx => HIV.out.vlt x ((HIV.out.kmem x).1 ⟨l, hlm, hx⟩).1
            have HLN := Lib.hid hln
            have HLL := Lib.hid hl
            have HF0 := Lib.hid hF0
            obtain ⟨ad0, eA0, hz0⟩ := Kd.at_int (Kd.F_now HF0.out) 0 (Int.le_refl 0) (by omega)
            subst eA0
            obtain ⟨x0, hx0⟩ : ∃ x, x = l.getD 0 0 := ⟨_, rfl⟩
            have hz1 : wr.cell? (ad0.add 0) = some (.int .i64 (x0 : Nat)) := by
              rw [show (0 : Nat) = (0 : Int).toNat from rfl, hz0]
              unfold rd
              rw [show (0 : Int).toNat = 0 from rfl, toI_get _ _ hlp, hx0, List.getD_eq_getElem?_getD, List.getElem?_eq_getElem hlp]; rfl
            have hz2 : wr.cell? ad0 = some (.int .i64 (x0 : Nat)) := by
              have e : ad0.add 0 = ad0 := by unfold Addr.add; simp
              rwa [e] at hz1
            have zl := blk_cell HQ.out.lo k
            have zlf := blk_frozen HQ.out.lo k
            rw [ints_get _ hk] at zl
            have hw := pzS k (by have := HKL.out; have := HKK.out; omega)
            have hk0 : (0 : Int) ≤ (k : Int) := Int.natCast_nonneg k
            obtain ⟨k1, rfl⟩ : ∃ k1, gk = k1 + 1 := ⟨gk - 1, by omega⟩
            have HX0 := Lib.hid hx0
            clear hl hml hlm hln hF0 hz0 hx0
            go_upto_region 16 with (fail)
            have hq1 := HQ.out.setLo k x0
            have hlow : Tarj.upd (lowAt s.knots k) k x0 = lowAt s.knots (k + 1) := by rw [lowAt_succ, HX0.out, HLL.out]
            rw [hlow] at hq1
            have hge := HQ.out.ge
            have hF6 : Kd.F kI (wr.setCell ⟨bl, k, none⟩ (.int .i64 (x0 : Nat))) (fun q => q < bof) (some ad0) l.length (toI l) := Kd.F_far (p := ⟨bl, k, none⟩) HF0.out (fun q hq e => by (have e' : q = bl := e); omega) _
            have HF6 := Lib.hid hF6
            have HBW6 := Lib.hid (HBW.out.setCell (p := ⟨bl, k, none⟩) hge.2.1 (.int .i64 (x0 : Nat)))
            have HQ1 := Lib.hid (show KM B bof bof bl g.length K s.knots (.slice (some ad) K cK) (ofRow k (l.take 0) (ofAt s.knots k)) (lowAt s.knots (k + 1)) W1 _ from by rw [List.take_zero]; exact hq1)
            clear hq1 hlow hz1 hz2 zl zlf hrow hF6 hge HQ HF0 HBW
            generalize wr.setCell ⟨bl, k, none⟩ (.int .i64 (x0 : Nat)) = W6 at HQ1 HF6 HBW6 ⊢
            go_wp2
            go_loopg [83] l.length (fun kq v83 w' => ∃ (j : Nat), j + kq = l.length ∧ v83 = .int .i64 (j : Nat) ∧ Hid (Below bof Wa w') ∧ Hid (Kd.F kI w' (fun q => q < bof) (some ad0) l.length (toI l)) ∧ Hid (KM B bof bof bl g.length K s.knots (.slice (some ad) K cK) (ofRow k (l.take j) (ofAt s.knots k)) (lowAt s.knots (k + 1)) W1 w'))
            case atStart => exact ⟨0, by omega, rfl, HBW6, HF6, HQ1⟩
            case round =>
              obtain ⟨j, hj, rfl, HBW7, HF7, HQ7⟩ := hrel
              by_cases hlt : j < l.length
              · obtain ⟨x, hx, hxn⟩ : ∃ x, x = l[j] ∧ x < g.length := ⟨_, rfl, HLN.out _ (List.getElem_mem hlt)⟩
                obtain ⟨ad1, eA1, hz0⟩ := Kd.at_int (Kd.F_now HF7.out) (j : Int) (Int.natCast_nonneg j) (Int.ofNat_lt.2 hlt)
                cases eA1
                rw [Int.toNat_natCast] at hz0
                have hz1 : wr.cell? (ad0.add j) = some (.int .i64 (x : Nat)) := by
                  rw [hz0]; unfold rd; rw [Int.toNat_natCast, toI_get _ _ hlt, hx]
                have zo := blk_cell HQ7.out.of x
                have zof := blk_frozen HQ7.out.of x
                rw [ints_get _ hxn] at zo
                have hx0 : (0 : Int) ≤ (x : Int) := Int.natCast_nonneg x
                have hlen := (Kd.F_now HF7.out).2.1
                have hwj : wrap64 ((j : Int) + 1) = ((j + 1 : Nat) : Int) := by simp only [wrap64]; omega
                have hge := HQ7.out.ge
                have HF9 := Lib.hid (Kd.F_far (p := ⟨bof, x, none⟩) HF7.out (fun q hq e => by (have e' : q = bof := e); omega) (.int .i64 (k : Nat)))
                have HBW9 := Lib.hid (HBW7.out.setCell (p := ⟨bof, x, none⟩) (Nat.le_refl _) (.int .i64 (k : Nat)))
                have hq9 := HQ7.out.setOf x k
                rw [hx, ← ofRow_succ k l j hlt, ← hx] at hq9
                have HQ9 := Lib.hid hq9
                obtain ⟨k2, rfl⟩ : ∃ k2, gk = k2 + 1 := ⟨gk - 1, by omega⟩
                have HJ := Lib.hid hj
                clear hz0 hq9 hge hx hlen HF7 HQ7 HBW7 HX0 HF6 HQ1 HBW6 hk' hj
                go_wp2
                go_roundg k2
                case measure => exact Nat.lt_succ_self _
                case rel => exact ⟨j + 1, by rw [Nat.add_assoc, Nat.add_comm 1]; exact HJ.out, by first | rw [hwj] | simp [hwj], HBW9, HF9, HQ9⟩
              · have hje : j = l.length := by omega
                have hq9 := HQ7.out
                rw [hje, List.take_length, HLL.out, ← ofAt_succ] at hq9
                have HQ9 := Lib.hid hq9
                clear hq9 hje
                go_wp2
                go_roundg k1
                case measure => exact Nat.lt_succ_self _
                case rel => exact ⟨k + 1, by rw [Nat.add_assoc, Nat.add_comm 1]; exact hk', by first | rw [hw] | simp [hw], HBW7, HQ9⟩
          · have hke : K = k := by omega
            subst hke
            have hKN : K ≤ 1000 := by have := HKL.out; have := HKK.out; omega
            have hfs8 := HFS.out.below (show Below Wa.heap.size Wa wr from by rw [← HBZ.out]; exact HBW.out)
            have ck := hfs8.cf
            obtain ⟨cls, hcls⟩ : ∃ f, f = ofAt s.knots K := ⟨_, rfl⟩
            obtain ⟨lw, hlw⟩ : ∃ f, f = lowAt s.knots K := ⟨_, rfl⟩
            have hks : s.knots = knotsF (adjF g) g.length := by rw [HIS.out]; rfl
            have hKH := kh_ok GO.out.adj hks HKK.out
            have hq8 := HQ.out
            rw [← hcls, ← hlw] at hKH hq8
            have hge8 := hq8.ge
            have hg8 : Kd.F kL wr (fun q => q < wr.heap.size) A g.length g := Kd.F_mono hfs8.gF (fun q hq => by have := blk_lt hq8.of; omega)
            have hfold := fold_any g GO.out A c bof K cls wr hg8 hq8.of hKN hKH.cl hlc
            rw [show (fun i => cmpN (rowsAt cls (adjF g) g.length i)) = rowK (adjF g) g.length cls from rfl] at hfold
            have HFOLD := Lib.hid hfold
            have HKH := Lib.hid hKH
            have HQ8 := Lib.hid hq8
            have hlwof := Lib.hid (And.intro hq8.of hq8.lo)
            clear hfold hg8 hq8 hKH hks hfs8 hcls hlw HQ HIS HIV HFS hge8
            go_upto_region 23 with (first
              | (go_at_call 23; (with_reducible refine HFOLD.out.mono ?_; rintro z w8 ⟨bo, rfl, ⟨v8, hfd8⟩, hbe8⟩; have HFD8 := Lib.hid hfd8; have HBE8 := Lib.hid hbe8; clear hfd8 hbe8)))
            clear ck
            have hmay8 := rowsK_may (K := K) HKH.out.hN HKH.out.cl hKN
            obtain ⟨kT, hkT⟩ := gturn_ev _ (may_gok hmay8).sm
            have hturn := graph_Turn.calls kT (some ⟨bo, 0, none⟩) K (rowsK (adjF g) g.length cls K) _ w8 (by rw [rowsK_len]; exact HFD8.out.reads hKN) (by rw [rowsK_len]; exact Nat.le_refl _) (hkT kT (Nat.le_refl _))
            rw [rowsK_len, turnK_eq HKH.out.hN HKH.out.cl hKN] at hturn
            have HTURN := Lib.hid hturn
            clear hturn hkT hmay8
            go_upto_region 24 with (first
              | (go_at_call 24; (with_reducible refine HTURN.out.mono ?_; rintro z w9 ⟨v9, rfl, hs9, hbe9⟩; have HS9 := Lib.hid hs9; have HBE9 := Lib.hid hbe9; clear hs9 hbe9)))
            have hs9l : ((List.range K).map fun k => toI (turnK (adjF g) g.length cls K k)).length = K := by simp
            obtain ⟨At, cT, et⟩ := Kd.N_slice (Kd.S_N HS9.out)
            rw [hs9l] at et
            subst et
            have hcT : K ≤ cT := by
              obtain ⟨_, h2, _⟩ := Kd.N_reads' (Kd.S_N HS9.out)
              exact h2
            have htF : Kd.F kL w9 (fun q => q < w9.heap.size) At K ((List.range K).map fun k => toI (turnK (adjF g) g.length cls K k)) := by
              have h1 := Kd.N_F (Kd.N_bound (Kd.S_N HS9.out))
              exact Kd.F_mono h1 (fun q hq => hq.2)
            obtain ⟨blf, hblf⟩ : ∃ b, w9.heap.size = b := ⟨_, rfl⟩
            obtain ⟨w10, hw10⟩ : ∃ w, w9.alloc (.cells (ints K (fun _ => 0)) 3) = w := ⟨_, rfl⟩
            have hmi3 := makeI K hKN w9
            rw [hblf, hw10] at hmi3
            have hlf10 : w10.heap[blf]? = some (.cells (ints K (fun _ => 0)) 3 (0, 0)) := by rw [← hw10, ← hblf]; exact World.alloc_heap_new _ _
            have hbe10 : Below w9.heap.size w9 w10 := by rw [← hw10]; exact below_alloc (Below.refl _ _) _
            have HTF := Lib.hid htF
            have HBE10 := Lib.hid hbe10
            have HLF10 := Lib.hid hlf10
            have HBLF := Lib.hid hblf
            clear htF hbe10 hlf10 hblf hw10 hs9l
            go_upto_region 25 with (fail)
            clear hmi3
            go_upto_region 26 with (fail)
            obtain ⟨r, hr⟩ : ∃ r, r = rowK (adjF g) g.length cls := ⟨_, rfl⟩
            obtain ⟨tn, htn⟩ : ∃ t, t = turnK (adjF g) g.length cls K := ⟨_, rfl⟩
            have hkh := HKH.out
            have hfd := HFD8.out
            have htf := HTF.out
            rw [← hr, ← htn] at hkh
            rw [← hr] at hfd
            rw [← htn] at htf
            have hz1 := HBE8.out.size
            have hz2 := HBE9.out.size
            have hbfl := blk_lt HQ8.out.of
            have hbll := blk_lt HQ8.out.lo
            have hge := HQ8.out.ge
            have hbl := HBLF.out
            have hb810 : Below w8.heap.size w8 w10 := HBE9.out.trans (HBE10.out.mono hz2)
            have hbr10 : Below wr.heap.size wr w10 := HBE8.out.trans (hb810.mono hz1)
            have hps := PS.start (blk_below HQ8.out.lo hbr10) HLF10.out (HQ8.out.be.trans (hbr10.mono (by omega))) (show B ≤ blf by omega) (show bl ≠ blf by omega)
            obtain ⟨R, hR⟩ : ∃ R, w10.heap.size = R := ⟨_, rfl⟩
            obtain ⟨Wr, hWr⟩ : ∃ w, w10.alloc (.cells #[.slice none 0 0, .slice (some ⟨bl, 0, none⟩) K K] 43) = w := ⟨_, rfl⟩
            have hbrr : Below w10.heap.size w10 Wr := by rw [← hWr]; exact below_alloc (Below.refl _ _) _
            rw [hR, hWr, ← lfA_zero r] at hps
            rw [hR, hWr]
            have hbo : Wr.heap[bo]? = some (.cells (vals K v8) 26 (0, 0)) := blk_below (blk_below hfd.o hb810) hbrr
            have hbol : bo < blf := Nat.lt_of_lt_of_le (blk_lt hfd.o) (by omega)
            have hbofr : Wr.heap[bof]? = some (.cells (ints g.length cls) 3 (0, 0)) := blk_below (blk_below HQ8.out.of hbr10) hbrr
            have hv8 : ∀ i, i < K → ∃ A c, v8 i = .slice A (r i).length c := fun i hi => by
              obtain ⟨A, c, e⟩ := Kd.R_slice (hfd.r i hi)
              rw [toI_len] at e
              exact ⟨A, c, e⟩
            have htr : Kd.F kL Wr (fun q => q < blf) At K ((List.range K).map fun k => toI (tn k)) := by
              rw [hbl] at htf
              exact Kd.F_step htf (fun k hk hlt => (hbrr.block k (by have := HBE10.out.size; omega)).trans (HBE10.out.block k hlt))
            have HKH2 := Lib.hid hkh
            have HPS0 := Lib.hid hps
            have HBO := Lib.hid (And.intro hbo hbol)
            have HBOF := Lib.hid (And.intro hbofr (show bof < blf by omega))
            have HV8 := Lib.hid hv8
            have HTR := Lib.hid htr
            have HBB := Lib.hid (show W.heap.size ≤ bof by have := HBS.out; have := HB1.out.size; omega)
            have HBG := Lib.hid (show B ≤ bof by omega)
            have HBG2 := Lib.hid (show W.heap.size ≤ B by have := HBS.out; have := HB1.out.size; omega)
            clear hkh hfd htf hz1 hz2 hbfl hbll hge hbl hb810 hbr10 hps hbrr hbo hbol hbofr hv8 htr hr htn hR hWr HKH HFD8 HTF HBE8 HBE9 HBE10 HLF10 HBLF HS9 HTURN HFOLD HQ8 hlwof HBW
            clear HKK HKL HWA HBZ HFB
            go_wp2
            go_loopg [111] K (fun kq v111 w' => ∃ (i : Nat) (v : Value) (l : List Nat), i + kq = K ∧ v111 = .int .i64 (i : Nat) ∧ Hid (PS B R bl blf K lw v l (lfA r i) W1 Wr w') ∧ Hid ((∀ k, k ∈ l ↔ k < i ∧ (r k).length = 0) ∧ l.Nodup))
            case atStart => exact ⟨0, _, [], by omega, rfl, HPS0, Lib.hid ⟨fun k => ⟨fun h => (by cases h), fun h => absurd h.1 (Nat.not_lt_zero _)⟩, List.nodup_nil⟩⟩
            case round =>
              obtain ⟨i, v, l, hi', rfl, HPS, HLM⟩ := hrel
              clear HPS0
              by_cases hi : i < K
              · obtain ⟨A0, c0, e0⟩ := HV8.out i hi
                have hzo : wr.heap[bo]? = some (.cells (vals K v8) 26 (0, 0)) := (HPS.out.fz bo (by have := HPS.out.bb; have := HBO.out.2; omega) (by have := HBO.out.2; omega)).trans HBO.out.1
                have zr : wr.cell? ⟨bo, i, none⟩ = some (.slice A0 (r i).length c0) := by rw [← e0]; exact (blk_cell hzo i).trans (vals_get _ hi)
                have zl : wr.cell? ⟨blf, i, none⟩ = some (.int .i64 (lfA r i i : Nat)) := (blk_cell HPS.out.lf i).trans (ints_get _ hi)
                have zlf := blk_frozen HPS.out.lf i
                have hw := pzS i (by omega)
                have hi0 : (0 : Int) ≤ (i : Int) := Int.natCast_nonneg i
                obtain ⟨k1, rfl⟩ : ∃ k1, gk = k1 + 1 := ⟨gk - 1, by omega⟩
                clear hzo e0
                go_upto_region 30 with (fail)
                have hps6 := HPS.out.setLeft i (r i).length
                rw [lfA_succ] at hps6
                have HPS6 := Lib.hid hps6
                clear hps6 zr zl zlf
                generalize wr.setCell ⟨blf, i, none⟩ (.int .i64 ((r i).length : Nat)) = W6 at HPS6 ⊢
                have zl : W6.cell? ⟨blf, i, none⟩ = some (.int .i64 (lfA r (i + 1) i : Nat)) := (blk_cell HPS6.out.lf i).trans (ints_get _ hi)
                rw [show lfA r (i + 1) i = (r i).length from by unfold lfA; rw [if_pos (Nat.lt_succ_self i)]] at zl
                by_cases h0 : (r i).length = 0
                · have hib : (((r i).length : Int) == 0) = true := by rw [h0]; rfl
                  have hll : l.length ≤ i := nodup_le HLM.out.2 (fun x hx => ((HLM.out.1 x).1 hx).1)
                  have hpush := hpush_any HPS6.out.rs HPS6.out.hp i hi (by omega) HPS6.out.hz
                  have HPUSH := Lib.hid hpush
                  have H0 := Lib.hid h0
                  clear hpush hll h0
                  go_wp2_with (first
                    | (go_at_call 25; (with_reducible refine HPUSH.out.mono ?_; rintro z w7 ⟨rfl, v7, l7, hrs7, hpm7, hhp7, hht7⟩; have HRS7 := Lib.hid hrs7; have HPM7 := Lib.hid hpm7; have HHP7 := Lib.hid hhp7; have HHT7 := Lib.hid hht7; clear hrs7 hpm7 hhp7 hht7 zl)))
                  go_roundg k1
                  case measure => exact Nat.lt_succ_self _
                  case rel =>
                    refine ⟨i + 1, v7, l7, by rw [Nat.add_assoc, Nat.add_comm 1]; exact hi', by first | rw [hw] | simp [hw], Lib.hid (HPS6.out.ht HRS7.out HHP7.out HHT7.out), Lib.hid ⟨fun k => ?_, ?_⟩⟩
                    · rw [HPM7.out.mem_iff, List.mem_append, List.mem_singleton, HLM.out.1 k]
                      constructor
                      · rintro (q | rfl)
                        · exact ⟨by omega, q.2⟩
                        · exact ⟨Nat.lt_succ_self _, H0.out⟩
                      · rintro ⟨q1, q2⟩
                        by_cases e : k = i
                        · exact .inr e
                        · exact .inl ⟨by omega, q2⟩
                    · refine HPM7.out.nodup_iff.2 (List.nodup_append.2 ⟨HLM.out.2, by simp, fun a ha b hb e => ?_⟩)
                      rw [List.mem_singleton.1 hb] at e
                      have := ((HLM.out.1 a).1 ha).1
                      omega
                · have hib : (((r i).length : Int) == 0) = false := by simpa using h0
                  have H0 := Lib.hid h0
                  clear h0
                  go_wp2
                  go_roundg k1
                  case measure => exact Nat.lt_succ_self _
                  case rel =>
                    refine ⟨i + 1, v, l, by rw [Nat.add_assoc, Nat.add_comm 1]; exact hi', by first | rw [hw] | simp [hw], HPS6, Lib.hid ⟨fun k => ?_, HLM.out.2⟩⟩
                    rw [HLM.out.1 k]
                    exact ⟨fun q => ⟨by omega, q.2⟩, fun q => ⟨by (by_cases e : k = i; · exact absurd (e ▸ q.2) H0.out); omega, q.2⟩⟩
              · have hie : K = i := by omega
                subst hie
                have hki := KI.start (l := l) HKH2.out (left := lfA r K) (fun k hk => by unfold lfA; rw [if_pos hk]) HLM.out.1 HLM.out.2
                have hnm := NM.start HPS.out
                have hps2 := HPS.out.below (below_alloc (Below.refl wr.heap.size wr) (.cells (ints K (fun _ => 0)) 3))
                have hmi4 := makeI K hKN wr
                obtain ⟨bn, hbn⟩ : ∃ b, wr.heap.size = b := ⟨_, rfl⟩
                obtain ⟨w12, hw12⟩ : ∃ w, wr.alloc (.cells (ints K (fun _ => 0)) 3) = w := ⟨_, rfl⟩
                rw [hbn, hw12] at hmi4 hnm
                rw [hw12] at hps2
                have HKI := Lib.hid hki
                have HNM := Lib.hid hnm
                have HPS2 := Lib.hid hps2
                clear hki hnm hps2 hbn hw12 HPS HLM
                go_upto_region 34 with (fail)
                clear hmi4
                go_wp2
                go_loopg [18] K (fun kq v18 w' => ∃ (n : Nat) (dn : Nat → Bool) (num left : Nat → Nat) (v : Value) (l : List Nat), n + kq = K ∧ v18 = .int .i64 (n : Nat) ∧ Hid (PS B R bl blf K lw v l left W1 Wr w') ∧ Hid (NM R bn K num v w') ∧ Hid (KI (adjF g) g.length K cls r n dn num left l))
                case atStart => exact ⟨0, _, _, _, _, _, by omega, rfl, HPS2, HNM, HKI⟩
                case round =>
                  obtain ⟨n, dn, num, left, v, l, hn2, rfl, HPS, HNM, HKI⟩ := hrel
                  clear HPS2
                  have hlen := len_any HPS.out.rs
                  have HLEN := Lib.hid hlen
                  have hll := nodup_le HKI.out.ln (fun x hx => HKI.out.num_lt x hx)
                  have hn0 : (0 : Int) ≤ (n : Int) := Int.natCast_nonneg n
                  have hnK := HKI.out.len
                  have hw := pzS n (by omega)
                  clear hlen
                  by_cases hl0 : 0 < l.length
                  · have hgt : (l.length : Int) > 0 := by omega
                    have hpop := hpop_any HPS.out.rs HPS.out.hp hl0 HPS.out.hz
                    have HPOP := Lib.hid hpop
                    have hta := tAss
                    obtain ⟨k1, rfl⟩ : ∃ k1, gk = k1 + 1 := by
                      cases l with
                      | nil => exact absurd hl0 (Nat.lt_irrefl 0)
                      | cons y l' =>
                        obtain ⟨q1, q2, _⟩ := (HKI.out.lm y).1 List.mem_cons_self
                        have h1 := HKI.out.ct
                        have h2 := nd_in (dn := dn) q2 (List.nodup_range (n := K)) (List.mem_range.2 q1)
                        exact ⟨gk - 1, by omega⟩
                    clear hpop hl0 hll
                    go_upto_region 38 with (first
                      | (go_at_call 26; (with_reducible refine HLEN.out.mono ?_; rintro z w2 ⟨rfl, hw2⟩; obtain rfl : wr = w2 := hw2.symm))
                      | (go_at_call 27; (with_reducible refine HPOP.out.mono ?_; rintro z w2 ⟨x, v2, l2, rfl, hrs2, hpm2, hhp2, hht2, hmin2⟩; have HRS2 := Lib.hid hrs2; have HPM2 := Lib.hid hpm2; have HHP2 := Lib.hid hhp2; have HHT2 := Lib.hid hht2; have HMIN2 := Lib.hid hmin2; clear hrs2 hpm2 hhp2 hht2 hmin2)))
                    clear hta hgt
                    have hxl : x ∈ l := HPM2.out.mem_iff.1 List.mem_cons_self
                    have hxK := HKI.out.num_lt x hxl
                    have hps2 := HPS.out.ht HRS2.out HHP2.out HHT2.out
                    have hnm2 := HNM.out.ht (blk_lt HNM.out.nm) HHT2.out
                    have hx0 : (0 : Int) ≤ (x : Int) := Int.natCast_nonneg x
                    have zn : w2.cell? ⟨bn, x, none⟩ = some (.int .i64 (num x : Nat)) := (blk_cell hnm2.nm x).trans (ints_get _ hxK)
                    have znf := blk_frozen hnm2.nm x
                    have HPS3 := Lib.hid (hps2.setNum hnm2 x (.int .i64 (n : Nat)))
                    have HNM3 := Lib.hid (hnm2.set x n)
                    have HXL := Lib.hid hxl
                    clear hps2 hnm2 HRS2 HHP2 HHT2 HPS HNM hxl
                    go_upto_region 39 with (fail)
                    clear zn znf
                    generalize w2.setCell ⟨bn, x, none⟩ (.int .i64 (n : Nat)) = W3 at HPS3 HNM3 ⊢
                    obtain ⟨ad, A0, c0, eA, hrow, hle, hF0⟩ := rowA (HPS3.out.old HTR.out) x hxK
                    subst eA
                    obtain ⟨t, ht⟩ : ∃ t, t = tn x := ⟨_, rfl⟩
                    have hgt3 : ((List.range K).map fun k => toI (tn k)).getD x [] = toI t := by
                      rw [ht, List.getD_eq_getElem?_getD, List.getElem?_map, List.getElem?_range hxK]; rfl
                    rw [hgt3, toI_len] at hrow hle hF0
                    have HF0 := Lib.hid hF0
                    have HT := Lib.hid ht
                    have htnd : t.Nodup := by rw [ht]; exact HKH2.out.tnn x hxK
                    have HTND := Lib.hid htnd
                    have htK : ∀ m, m ∈ t → m < K ∧ dn m = false ∧ 1 ≤ left m ∧ m ≠ x ∧ m ∉ l := fun m hm => HKI.out.told HKH2.out HXL.out (by rw [← ht]; exact hm)
                    have HTK := Lib.hid htK
                    have hl2n : l2.Nodup := (List.nodup_cons.1 (HPM2.out.nodup_iff.2 HKI.out.ln)).2
                    have hl2l : ∀ m, m ∈ t → m ∉ l2 := fun m hm q => (htK m hm).2.2.2.2 (HPM2.out.mem_iff.1 (List.mem_cons_of_mem _ q))
                    have HL2L := Lib.hid hl2l
                    have hlb : ∀ m, m < K → left m ≤ 1000 := fun m hm => by
                      rw [HKI.out.lf m hm]
                      refine Nat.le_trans (List.length_filter_le _ _) (Nat.le_trans (nodup_le (K := K) (HKH2.out.rn m hm) (fun y hy => ?_)) hKN)
                      obtain ⟨_, q, _, _, u, hu, e⟩ := (HKH2.out.rm m hm y).1 hy
                      exact e ▸ HKH2.out.cl u (HKH2.out.hN q (by assumption) u hu)
                    have HLB := Lib.hid hlb
                    have HKJ0 := Lib.hid (KJ.start t left hl2n)
                    clear hgt3 hF0 ht htnd htK hl2n hl2l hlb
                    go_wp2
                    go_loopg [153] t.length (fun kq v153 w' => ∃ (j : Nat) (left1 : Nat → Nat) (v1 : Value) (l1 : List Nat), j + kq = t.length ∧ v153 = .int .i64 (j : Nat) ∧ Hid (Kd.F kI w' (fun q => q < blf) A0 t.length (toI t)) ∧ Hid (PS B R bl blf K lw v1 l1 left1 W1 Wr w') ∧ Hid (NM R bn K (Tarj.upd num x n) v1 w') ∧ Hid (KJ t left l2 j left1 l1))
                    case atStart => exact ⟨0, _, _, _, by omega, rfl, HF0, HPS3, HNM3, HKJ0⟩
                    case round =>
                      obtain ⟨j, left1, v1, l1, hj, rfl, HF, HPS, HNM, HKJ⟩ := hrel
                      clear HPS3 HNM3 HKJ0 HF0
                      by_cases hlt : j < t.length
                      · obtain ⟨m, hm⟩ : ∃ m, m = t[j] := ⟨_, rfl⟩
                        have hmt : m ∈ t := by rw [hm]; exact List.getElem_mem hlt
                        obtain ⟨hmK, hmd, hml, hmx, _⟩ := HTK.out m hmt
                        obtain ⟨ad1, eA1, hz0⟩ := Kd.at_int (Kd.F_now HF.out) (j : Int) (Int.natCast_nonneg j) (Int.ofNat_lt.2 hlt)
                        subst eA1
                        rw [Int.toNat_natCast] at hz0
                        have hz1 : wr.cell? (ad1.add j) = some (.int .i64 (m : Nat)) := by
                          rw [hz0]; unfold rd; rw [Int.toNat_natCast, toI_get _ _ hlt, hm]
                        have hval : left1 m = left m := by rw [hm]; exact HKJ.out.val HTND.out hlt
                        have hl1 : 1 ≤ left1 m := by rw [hval]; exact hml
                        have hlm : left1 m ≤ 1000 := by rw [hval]; exact HLB.out m hmK
                        have zl : wr.cell? ⟨blf, m, none⟩ = some (.int .i64 (left1 m : Nat)) := (blk_cell HPS.out.lf m).trans (ints_get _ hmK)
                        have zlf := blk_frozen HPS.out.lf m
                        have hm0 : (0 : Int) ≤ (m : Int) := Int.natCast_nonneg m
                        have hlen := (Kd.F_now HF.out).2.1
                        have hwj : wrap64 ((j : Int) + 1) = ((j + 1 : Nat) : Int) := by simp only [wrap64]; omega
                        have hws : wrap64 ((left1 m : Int) - 1) = ((left1 m - 1 : Nat) : Int) := by simp only [wrap64]; omega
                        have hml2 : m ∉ l2 := HL2L.out m hmt
                        have HM := Lib.hid hm
                        have HML2 := Lib.hid hml2
                        have HJ := Lib.hid hj
                        obtain ⟨k2, rfl⟩ : ∃ k2, gk = k2 + 1 := ⟨gk - 1, by omega⟩
                        clear hz0 hval hl1 hlm hlen hml hmd hmx hml2 hmt hm hj
                        go_upto_region 43 with (fail)
                        have HPS5 := Lib.hid (HPS.out.setLeft m (left1 m - 1))
                        have HNM5 := Lib.hid (HNM.out.setLeft HPS.out.bb.2.1 m (.int .i64 ((left1 m - 1 : Nat))))
                        have HF5 := Lib.hid (Kd.F_far (p := ⟨blf, m, none⟩) HF.out (fun q hq e => by (have e' : q = blf := e); omega) (.int .i64 ((left1 m - 1 : Nat))))
                        clear zl zlf hws hz1
                        generalize wr.setCell ⟨blf, m, none⟩ (.int .i64 ((left1 m - 1 : Nat))) = W5 at HPS5 HNM5 HF5 ⊢
                        have zl : W5.cell? ⟨blf, m, none⟩ = some (.int .i64 ((left1 m - 1 : Nat) : Int)) := by
                          have := (blk_cell HPS5.out.lf m).trans (ints_get _ hmK)
                          rw [Tarj.upd_same] at this
                          exact this
                        by_cases h0 : left1 m - 1 = 0
                        · have hib : (((left1 m - 1 : Nat) : Int) == 0) = true := by rw [h0]; rfl
                          have hml1 : m ∉ l1 := by rw [HM.out]; exact HKJ.out.new HTND.out hlt (by rw [← HM.out]; exact HML2.out)
                          have hcn : (m :: l1).length ≤ K := nodup_le (List.nodup_cons.2 ⟨hml1, HKJ.out.ln⟩) (fun y hy => (List.mem_cons.1 hy).elim (fun e => e ▸ hmK) (fun q => HPS.out.rs.mem y q))
                          rw [List.length_cons] at hcn
                          have hpush := hpush_any HPS5.out.rs HPS5.out.hp m hmK (by omega) HPS5.out.hz
                          have HPUSH := Lib.hid hpush
                          have H0 := Lib.hid h0
                          clear hpush hcn hml1 h0
                          go_wp2_with (first
                            | (go_at_call 25; (with_reducible refine HPUSH.out.mono ?_; rintro z w7 ⟨rfl, v7, l7, hrs7, hpm7, hhp7, hht7⟩; have HRS7 := Lib.hid hrs7; have HPM7 := Lib.hid hpm7; have HHP7 := Lib.hid hhp7; have HHT7 := Lib.hid hht7; clear hrs7 hpm7 hhp7 hht7 zl)))
                          go_roundg k2
                          case measure => exact Nat.lt_succ_self _
                          case rel =>
                            refine ⟨j + 1, Tarj.upd left1 m (left1 m - 1), v7, l7, by rw [Nat.add_assoc, Nat.add_comm 1]; exact HJ.out, by first | rw [hwj] | simp [hwj], Lib.hid (Kd.F_step HF5.out (fun q hq hlt2 => HHT7.out.be.block q (by have := HPS5.out.bb; omega))), Lib.hid (HPS5.out.ht HRS7.out HHP7.out HHT7.out), Lib.hid (HNM5.out.ht (blk_lt HNM5.out.nm) HHT7.out), Lib.hid ?_⟩
                            have hm := HM.out
                            have := HKJ.out.step HTND.out hlt (by rw [← hm]; exact HML2.out) (l1 := l7) (by rw [← hm, if_pos H0.out]; exact HPM7.out)
                            rw [← hm] at this
                            exact this
                        · have hib : (((left1 m - 1 : Nat) : Int) == 0) = false := by simpa using h0
                          have H0 := Lib.hid h0
                          clear h0
                          go_wp2
                          go_roundg k2
                          case measure => exact Nat.lt_succ_self _
                          case rel =>
                            refine ⟨j + 1, Tarj.upd left1 m (left1 m - 1), v1, l1, by rw [Nat.add_assoc, Nat.add_comm 1]; exact HJ.out, by first | rw [hwj] | simp [hwj], HF5, HPS5, HNM5, Lib.hid ?_⟩
                            have hm := HM.out
                            have := HKJ.out.step HTND.out hlt (by rw [← hm]; exact HML2.out) (l1 := l1) (by rw [← hm, if_neg H0.out])
                            rw [← hm] at this
                            exact this
                      · have hje : t.length = j := by omega
                        have hKI2 := HKI.out.next HKH2.out HPM2.out HMIN2.out (left1 := left1) (l1 := l1) (by rw [← HT.out, hje]; exact HKJ.out)
                        have HKI2 := Lib.hid hKI2
                        clear hKI2 hje
                        go_wp2
                        go_roundg k1
                        case measure => exact Nat.lt_succ_self _
                        case rel => exact ⟨n + 1, _, _, left1, v1, l1, by rw [Nat.add_assoc, Nat.add_comm 1]; exact hn2, by first | rw [hw] | simp [hw], HPS, HNM, HKI2⟩
                  · have hln : l = [] := List.eq_nil_of_length_eq_zero (by omega)
                    subst hln
                    have hNmb := HKI.out.done HKH2.out
                    have HNMB := Lib.hid hNmb
                    have hgt : ¬ (((([] : List Nat).length : Nat) : Int) > 0) := by simp
                    have hbb := HPS.out.bb
                    have hofr := (HPS.out.fz bof (by have := HBOF.out.2; omega) (by have := HBOF.out.2; omega)).trans HBOF.out.1
                    rw [← mixF_zero num cls] at hofr
                    have HFIN := Lib.hid (show wr.heap[bof]? = some (.cells (ints g.length (mixF num cls 0)) 3 (0, 0)) ∧ wr.heap[bn]? = some (.cells (ints K num) 3 (0, 0)) ∧ Below B W1 wr from ⟨hofr, HNM.out.nm, HPS.out.be⟩)
                    have HNE := Lib.hid (show bof ≠ bn ∧ B ≤ bof from ⟨by have := HBOF.out.2; have := HNM.out.nb.1; omega, HBG.out⟩)
                    clear hNmb hl0 hll hbb hofr HPS HNM HKI
                    go_upto_region 46 with (first
                      | (go_at_call 26; (with_reducible refine HLEN.out.mono ?_; rintro z w2 ⟨rfl, hw2⟩; obtain rfl : wr = w2 := hw2.symm)))
                    go_wp2
                    go_loopg [176] g.length (fun kq v176 w' => ∃ (i : Nat), i + kq = g.length ∧ v176 = .int .i64 (i : Nat) ∧ Hid (w'.heap[bof]? = some (.cells (ints g.length (mixF num cls i)) 3 (0, 0)) ∧ w'.heap[bn]? = some (.cells (ints K num) 3 (0, 0)) ∧ Below B W1 w'))
                    case atStart => exact ⟨0, by omega, rfl, HFIN⟩
                    case round =>
                      obtain ⟨i, hi', rfl, HI⟩ := hrel
                      clear HFIN
                      by_cases hi : i < g.length
                      · have hcK := HKH2.out.cl i hi
                        have zo : wr.cell? ⟨bof, i, none⟩ = some (.int .i64 (cls i : Nat)) := by
                          have := (blk_cell HI.out.1 i).trans (ints_get _ hi)
                          rw [mixF_at] at this; exact this
                        have zof := blk_frozen HI.out.1 i
                        have zn : wr.cell? ⟨bn, cls i, none⟩ = some (.int .i64 (num (cls i) : Nat)) := (blk_cell HI.out.2.1 (cls i)).trans (ints_get _ hcK)
                        have hi0 : (0 : Int) ≤ (i : Int) := Int.natCast_nonneg i
                        have hc0 : (0 : Int) ≤ (cls i : Int) := Int.natCast_nonneg (cls i)
                        have hwi := pzS i (by omega)
                        obtain ⟨k1, rfl⟩ : ∃ k1, gk = k1 + 1 := ⟨gk - 1, by omega⟩
                        have HI2 := Lib.hid (show (wr.setCell ⟨bof, i, none⟩ (.int .i64 (num (cls i) : Nat))).heap[bof]? = some (.cells (ints g.length (mixF num cls (i + 1))) 3 (0, 0)) ∧ (wr.setCell ⟨bof, i, none⟩ (.int .i64 (num (cls i) : Nat))).heap[bn]? = some (.cells (ints K num) 3 (0, 0)) ∧ Below B W1 (wr.setCell ⟨bof, i, none⟩ (.int .i64 (num (cls i) : Nat))) from
                          ⟨by rw [← mixF_succ]; exact blk_put HI.out.1 i _ (ints_set _ _ _ _), blk_far HI.out.2.1 (Ne.symm HNE.out.1) _, HI.out.2.2.setCell (p := ⟨bof, i, none⟩) HNE.out.2 _⟩)
                        clear HI
                        go_wp2
                        go_roundg k1
                        case measure => exact Nat.lt_succ_self _
                        case rel => exact ⟨i + 1, by rw [Nat.add_assoc, Nat.add_comm 1]; exact hi', by first | rw [hwi] | simp [hwi], HI2⟩
                      · have hie : g.length = i := by omega
                        go_wp2
                        go_ret
                        refine ⟨bof, n, _, rfl, HNMB.out, HBB.out, ?_, HB1.out.trans (HI.out.2.2.mono HBG2.out)⟩
                        rw [HI.out.1]
                        congr 2
                        rw [← hie]
                        unfold ints
                        congr 1
                        apply List.map_congr_left
                        intro q hq
                        rw [List.mem_range] at hq
                        unfold mixF
                        rw [if_pos hq]
end Go.Proofs.Ytejhejpkfjhmkaa.Man

namespace Go.Proofs.Ytejhejpkfjhmkaa.Man
open Go.RowKit Go.Shelf Go.Proofs.Ytejhejpkfjhmkaa.Pr Go.Proofs.YtejhejpkfjhmkaaW.PrintWords Go.Proofs.YtejhejpkfjhmkaaW.PrintMore Go.Proofs.Ytejhejpkfjhmkaa.Tarj
attribute [local go_sem] Oper.semAt_some max2_int min2_int max_two min_two
set_option linter.unusedVariables false
set_option linter.unusedSimpArgs false
theorem toL_ints (N : Nat) (num : Nat → Nat) : (ints N num).toList = (toL N num).map (Value.int .i64) := by
  unfold ints toL; rw [List.map_map]; rfl
theorem R_ints {W : World} {b base N : Nat} {num : Nat → Nat} (h : W.heap[b]? = some (.cells (ints N num) 3 (0, 0))) (hb : base ≤ b) (hN : N ≤ 1000) : kI.R 3 W base (fun _ => True) (.slice (some ⟨b, 0, none⟩) N N) (toL N num) := by
  refine Kd.R_of_own ?_ (fun _ _ => trivial)
  have hs : (ints N num).size = N := by unfold ints; simp
  refine ⟨by show ((toL N num).map (Value.int .i64)).length = (toL N num).length * 1; simp, .inr ⟨b, N, ints N num, by rw [toL_len], hb, h, by rw [toL_len]; exact Nat.le_refl _, Nat.le_trans hN (by decide), by rw [hs]; omega, ?_⟩⟩
  rw [toL_len, toL_ints, List.take_of_length_le (by simp [toL_len])]
  rfl
theorem FD.own {B bo M : Nat} {v : Nat → Value} {r : Nat → List Nat} {W : World} (h : FD B bo M v r W) (hM : M ≤ 1000) : Kd.S kL 26 W B (fun _ => True) (.slice (some ⟨bo, 0, none⟩) M M) ((List.range M).map fun i => toI (r i)) := by
  classical
  let f : Nat → Nat := fun k => if q : ∃ i, i < M ∧ (v i).ownBlock = some k then Classical.choose q else 0
  have hf : ∀ i, i < M → ∀ k, (v i).ownBlock = some k → f k = i := fun i hi k hk => by
    have q : ∃ i, i < M ∧ (v i).ownBlock = some k := ⟨i, hi, hk⟩
    have e : f k = Classical.choose q := dif_pos q
    obtain ⟨h1, h2⟩ := Classical.choose_spec q
    rw [e]
    apply Classical.byContradiction
    intro hne
    exact h.d _ i h1 hi hne k h2 hk
  have hs : (vals M v).size = M := by unfold vals; simp
  refine ⟨f, fun _ _ => trivial, (List.range M).map v, ⟨by show ((List.range M).map v).length = (((List.range M).map fun i => toI (r i)).zipIdx).length * 1; simp, .inr ⟨bo, M, vals M v, by simp, h.b, h.o, by simp, Nat.le_trans hM (by decide), by rw [hs]; show M = M * 1; omega, ?_⟩⟩, ⟨by show ((List.range M).map v).length = (((List.range M).map fun i => toI (r i)).zipIdx).length * 1; simp, fun j p hp => ?_⟩⟩
  · unfold vals
    show ((List.range M).map v).take _ = _
    rw [List.take_of_length_le (by simp; show M ≤ M * 1; omega)]
  · rw [List.getElem?_zipIdx] at hp
    obtain ⟨x, hx, rfl⟩ := Option.map_eq_some_iff.1 hp
    obtain ⟨hj, rfl⟩ := List.getElem?_eq_some_iff.1 hx
    have hj' : j < M := by simpa using hj
    simp only [List.getElem_map, List.getElem_range]
    refine ⟨v j, ?_, ?_⟩
    · show (((List.range M).map v).drop (j * 1)).take 1 = [v j]
      rw [Nat.mul_one, List.drop_eq_getElem_cons (by simpa using hj'), List.take_succ_cons, List.take_zero]
      simp
    · refine Kd.R_reok rfl (h.r j hj') (fun k hk => ⟨⟨trivial, fun e => ?_⟩, by rw [hf j hj' k hk]; simp⟩)
      have : k = bo := by simpa [Value.ownBlock] using e
      exact (h.r j hj').1 k hk this
set_option maxRecDepth 100000 in
set_option maxHeartbeats 8000000 in
theorem of_no (k : Nat) (g : List (List Int)) (A : Option Addr) (c : Nat) (w : World) (hc : g.length ≤ c) (hC : kL.C w A g.length g) (hm : graph_May.f k g = some false) :
    Calls Try.prog 10 #[.slice A g.length c] w fun e w' => e = .returned (.slice none 0 0) ∧ Below w.heap.size w w' := by
  have HM := Lib.hid (graph_May.calls k A c g false w hC hc hm)
  clear hC
  go_enter Try.func10, Try.ntmps10
  go_wp2_with (first
    | (go_at_call 21; (with_reducible refine HM.out.mono ?_; rintro z w1 ⟨rfl, hdr⟩; have HB := Lib.hid hdr.below; clear hdr)))
  go_ret
  exact ⟨rfl, HB.out⟩
theorem of_block (g : List (List Int)) (hm : mayB g = true) (A : Option Addr) (c : Nat) (W : World) (hC : kL.C W A g.length g) (hc : g.length ≤ c) :
    Calls Try.prog 10 #[.slice A g.length c] W fun e W' => ∃ bo, e = .returned (.slice (some ⟨bo, 0, none⟩) g.length g.length) ∧ W.heap.size ≤ bo ∧ W'.heap[bo]? = some (.cells (ints g.length (numN g)) 3 (0, 0)) ∧ Below W.heap.size W W' := by
  obtain ⟨kM, hk⟩ := gmay_ev g (may_gok hm).sm
  rw [hm] at hk
  refine (of_try g (may_gok hm) A c kM W hC hc (hk kM (Nat.le_refl _))).mono ?_
  rintro e W' ⟨bo, M, num, rfl, h1, h2, h3, h4⟩
  refine ⟨bo, rfl, h2, ?_, h4⟩
  rw [h3]
  have := (of_eq hm h1).2.1
  congr 2
  unfold ints
  congr 1
  apply List.map_congr_left
  intro x hx
  rw [this x (List.mem_range.1 hx)]
theorem of_any (g : List (List Int)) (hs : Sm g) (A : Option Addr) (c : Nat) (W : World) (hC : kL.C W A g.length g) (hc : g.length ≤ c) :
    Calls Try.prog 10 #[.slice A g.length c] W fun e W' => ∃ v, e = .returned v ∧ kI.R 3 W' W.heap.size (fun _ => True) v (ofF g) ∧ Below W.heap.size W W' := by
  by_cases hm : mayB g = true
  · refine (of_block g hm A c W hC hc).mono ?_
    rintro e W' ⟨bo, rfl, h2, h3, h4⟩
    refine ⟨_, rfl, ?_, h4⟩
    unfold ofF
    rw [if_pos hm]
    exact R_ints h3 h2 (mayB_spec hm).1
  · obtain ⟨kM, hk⟩ := gmay_ev g hs
    rw [Bool.eq_false_iff.2 hm] at hk
    refine (of_no kM g A c W hc hC (hk kM (Nat.le_refl _))).mono ?_
    rintro e W' ⟨rfl, h⟩
    refine ⟨_, rfl, ?_, h⟩
    unfold ofF
    rw [if_neg hm]
    exact Kd.R_nil _ _ _ _ _
set_option maxRecDepth 100000 in
set_option maxHeartbeats 8000000 in
theorem many_any (g : List (List Int)) (hs : Sm g) (A : Option Addr) (c : Nat) (W : World) (hC : kL.C W A g.length g) (hc : g.length ≤ c) :
    Calls Try.prog 12 #[.slice A g.length c] W fun e W' => e = .returned (.int .i64 (manyF g)) ∧ Below W.heap.size W W' := by
  have HOF := Lib.hid (of_any g hs A c W hC hc)
  obtain ⟨N, num, hN, hb, hL, hM⟩ : ∃ N num, N ≤ 1000 ∧ (∀ x, x < N → num x ≤ 1000) ∧ ofF g = toL N num ∧ manyF g = ((pmx num N : Nat) : Int) := by
    by_cases hm : mayB g = true
    · have h := numN_ok hm
      have hml := many_le hm
      have hN := (mayB_spec hm).1
      refine ⟨g.length, numN g, hN, fun x hx => by have := h.lt x hx; omega, by unfold ofF; rw [if_pos hm], ?_⟩
      rw [pmx_all h]; rfl
    · refine ⟨0, fun _ => 0, by omega, fun x hx => absurd hx (Nat.not_lt_zero _), by unfold ofF; rw [if_neg hm]; rfl, ?_⟩
      unfold manyF; rw [many_no hm]; rfl
  rw [hL] at HOF
  rw [hM]
  have HBD := Lib.hid hb
  clear hL hM hC hb
  go_enter Try.func12, Try.ntmps12
  go_upto_region 2 with (fail)
  go_wp2_with (first
    | (go_at_call 10; (with_reducible refine HOF.out.mono ?_; rintro z w1 ⟨v1, rfl, hr1, hb1⟩; obtain ⟨A1, c1, e1⟩ := Kd.R_slice hr1; rw [toL_len] at e1; subst e1; have HR1 := Lib.hid hr1; have HB1 := Lib.hid hb1; clear hr1 hb1)))
  go_loopg [3, 9] N (fun kq v3 v9 w' => ∃ (i : Nat), i + kq = N ∧ v9 = .int .i64 (i : Nat) ∧ v3 = .int .i64 (pmx num i : Nat) ∧ w' = w1)
  case atStart => exact ⟨0, by omega, rfl, rfl, rfl⟩
  case round =>
    obtain ⟨i, hi', rfl, rfl, rfl⟩ := hrel
    by_cases hi : i < N
    · obtain ⟨A2, c2, e2, _, hC2⟩ := Kd.R_reads HR1.out
      rw [toL_len] at e2
      cases e2
      obtain ⟨ad, eA, hz⟩ := Kd.at_int hC2 (i : Int) (Int.natCast_nonneg i) (by rw [toL_len]; exact Int.ofNat_lt.2 hi)
      subst eA
      rw [Int.toNat_natCast, toL_rd hi] at hz
      have hi0 : (0 : Int) ≤ (i : Int) := Int.natCast_nonneg i
      have hn := HBD.out i hi
      have hw := pzS i (by omega)
      have hwn := pzS (num i) hn
      obtain ⟨k1, rfl⟩ : ∃ k1, gk = k1 + 1 := ⟨gk - 1, by omega⟩
      clear hC2 hn
      by_cases hq : pmx num i < num i + 1
      · have hq' : ((pmx num i : Nat) : Int) < ((num i : Nat) : Int) + 1 := by omega
        have hp : pmx num (i + 1) = num i + 1 := by rw [show pmx num (i + 1) = max (pmx num i) (num i + 1) from rfl]; omega
        clear hq
        go_wp2
        go_roundg k1
        case measure => exact Nat.lt_succ_self _
        case rel => exact ⟨i + 1, by rw [Nat.add_assoc, Nat.add_comm 1]; exact hi', by first | rw [hw] | simp [hw], congrArg (Value.int .i64) (by rw [hp]; omega), rfl⟩
      · have hq' : ¬ ((pmx num i : Nat) : Int) < ((num i : Nat) : Int) + 1 := by omega
        have hp : pmx num (i + 1) = pmx num i := by rw [show pmx num (i + 1) = max (pmx num i) (num i + 1) from rfl]; omega
        clear hq
        go_wp2
        go_roundg k1
        case measure => exact Nat.lt_succ_self _
        case rel => exact ⟨i + 1, by rw [Nat.add_assoc, Nat.add_comm 1]; exact hi', by first | rw [hw] | simp [hw], congrArg (Value.int .i64) (by rw [hp]), rfl⟩
    · have hie : i = N := by omega
      subst hie
      go_wp2
      go_ret
      exact ⟨rfl, HB1.out⟩
theorem rises_ext : ∀ (a b : List Nat), a.Pairwise (· < ·) → b.Pairwise (· < ·) → (∀ x, x ∈ a ↔ x ∈ b) → a = b
  | [], [], _, _, _ => rfl
  | [], y :: b, _, _, h => by cases (h y).2 List.mem_cons_self
  | x :: a, [], _, _, h => by cases (h x).1 List.mem_cons_self
  | x :: a, y :: b, ha, hb, h => by
    obtain ⟨a1, a2⟩ := List.pairwise_cons.1 ha
    obtain ⟨b1, b2⟩ := List.pairwise_cons.1 hb
    have e : x = y := by
      rcases List.mem_cons.1 ((h x).1 List.mem_cons_self) with q | q
      · exact q
      · rcases List.mem_cons.1 ((h y).2 List.mem_cons_self) with w | w
        · exact w.symm
        · have := b1 x q; have := a1 y w; omega
    subst e
    congr 1
    refine rises_ext a b a2 b2 (fun z => ?_)
    constructor
    · intro hz
      rcases List.mem_cons.1 ((h z).1 (List.mem_cons_of_mem _ hz)) with q | q
      · have := a1 z hz; omega
      · exact q
    · intro hz
      rcases List.mem_cons.1 ((h z).2 (List.mem_cons_of_mem _ hz)) with q | q
      · have := b1 z hz; omega
      · exact q
open Classical in
theorem foldF_rows {g : List (List Int)} (hm : mayB g = true) : foldF g = (List.range (manyN g)).map fun i => toI (rowK (adjF g) g.length (numN g) i) := by
  unfold foldF
  apply List.map_congr_left
  intro k _
  unfold foldR toI
  congr 1
  refine rises_ext _ _ ((List.pairwise_lt_range).filter _) (cmpN_rises _) (fun x => ?_)
  rw [List.mem_filter, List.mem_range, decide_eq_true_iff]
  unfold rowK
  rw [cmpN_mem, rowsAt_mem]
  constructor
  · exact fun h => h.2
  · rintro ⟨h1, x', hx, e, y, hy, e2⟩
    exact ⟨by rw [← e2]; exact (numN_ok hm).lt y ((may_gok hm).adj x' hx y hy), h1, x', hx, e, y, hy, e2⟩
set_option maxRecDepth 100000 in
set_option maxHeartbeats 8000000 in
theorem fold_no (k : Nat) (g : List (List Int)) (A : Option Addr) (c : Nat) (w : World) (hc : g.length ≤ c) (hC : kL.C w A g.length g) (hm : graph_May.f k g = some false) :
    Calls Try.prog 15 #[.slice A g.length c] w fun e w' => e = .returned (.slice none 0 0) ∧ Below w.heap.size w w' := by
  have HM := Lib.hid (graph_May.calls k A c g false w hC hc hm)
  clear hC
  go_enter Try.func15, Try.ntmps15
  go_wp2_with (first
    | (go_at_call 21; (with_reducible refine HM.out.mono ?_; rintro z w1 ⟨rfl, hdr⟩; have HB := Lib.hid hdr.below; clear hdr)))
  go_ret
  exact ⟨rfl, HB.out⟩
set_option maxRecDepth 100000 in
set_option maxHeartbeats 8000000 in
theorem fold_yes (k : Nat) (g : List (List Int)) (hm : mayB g = true) (A : Option Addr) (c : Nat) (w : World) (hc : g.length ≤ c) (hC : kL.C w A g.length g) (hk : graph_May.f k g = some true) :
    Calls Try.prog 15 #[.slice A g.length c] w fun e w' => ∃ v, e = .returned v ∧ Kd.S kL 26 w' w.heap.size (fun _ => True) v (foldF g) ∧ Below w.heap.size w w' := by
  have HC := Lib.hid hC
  have HM := Lib.hid (graph_May.calls k A c g true w hC hc hk)
  have hgo := may_gok hm
  have hMN : manyN g ≤ 1000 := Nat.le_trans (many_le hm) (mayB_spec hm).1
  have HOF := Lib.hid (fun (w1 : World) (h : kL.C w1 A g.length g) => of_block g hm A c w1 h hc)
  have HMN := Lib.hid (fun (w1 : World) (h : kL.C w1 A g.length g) => many_any g hgo.sm A c w1 h hc)
  rw [foldF_rows hm]
  have emn : manyF g = ((manyN g : Nat) : Int) := rfl
  have HFD := Lib.hid (fun (w3 : World) (bof : Nat) (h : Kd.F kL w3 (fun q => q < w3.heap.size) A g.length g) (ho : w3.heap[bof]? = some (.cells (ints g.length (numN g)) 3 (0, 0))) => fold_any g hgo A c bof (manyN g) (numN g) w3 h ho hMN (numN_ok hm).lt hc)
  rw [show (fun i => cmpN (rowsAt (numN g) (adjF g) g.length i)) = rowK (adjF g) g.length (numN g) from rfl] at HFD
  rw [emn] at HMN
  clear hC hgo emn
  have HB := Lib.hid (Below.refl w.heap.size w)
  go_enter Try.func15, Try.ntmps15
  go_wp2_with (first
    | (go_at_call 21; (with_reducible refine HM.out.mono ?_; rintro z w1 ⟨rfl, hdr⟩; have HB := Lib.hid hdr.below; clear hdr))
    | (go_at_call 10; (with_reducible refine (HOF.out _ (Kd.C_below HC.out HB.out)).mono ?_; rintro z w2 ⟨bof, rfl, hlo, hbf, hb2⟩; have HB := Lib.hid (below_step HB.out hb2); have HBF := Lib.hid hbf; clear hlo hbf hb2))
    | (go_at_call 12; (with_reducible refine (HMN.out _ (Kd.C_below HC.out HB.out)).mono ?_; rintro z w3 ⟨rfl, hb3⟩; have HB := Lib.hid (below_step HB.out hb3); have HBF := Lib.hid (blk_below HBF.out hb3); clear hb3))
    | (go_at_call 23; (with_reducible refine (HFD.out _ _ (Kd.C_F (Kd.heap_slice 3 (Kd.heap_int .i64)) (Kd.C_below HC.out HB.out)) HBF.out).mono ?_; rintro z w4 ⟨bo, rfl, ⟨v4, hfd⟩, hb4⟩; have HFR := Lib.hid (hfd.own hMN); have HSZ := Lib.hid HB.out.size; have HB := Lib.hid (below_step HB.out hb4); clear hfd hb4)))
  go_ret
  exact ⟨_, rfl, Kd.S_lower HFR.out HSZ.out, HB.out⟩
theorem fold_anyS (g : List (List Int)) (hs : Sm g) (A : Option Addr) (c : Nat) (w : World) (hC : kL.C w A g.length g) (hc : g.length ≤ c) :
    Calls Try.prog 15 #[.slice A g.length c] w fun e w' => ∃ v, e = .returned v ∧ Kd.S kL 26 w' w.heap.size (fun _ => True) v (foldF g) ∧ Below w.heap.size w w' := by
  obtain ⟨kM, hk⟩ := gmay_ev g hs
  by_cases hm : mayB g = true
  · rw [hm] at hk
    exact fold_yes kM g hm A c w hc hC (hk kM (Nat.le_refl _))
  · rw [Bool.eq_false_iff.2 hm] at hk
    refine (fold_no kM g A c w hc hC (hk kM (Nat.le_refl _))).mono ?_
    rintro e W' ⟨rfl, h⟩
    refine ⟨_, rfl, ?_, h⟩
    have : foldF g = [] := by unfold foldF; rw [many_no hm]; rfl
    rw [this]
    exact Kd.S_nil _ _ _ _ _
end Go.Proofs.Ytejhejpkfjhmkaa.Man

-- Written by wip/xprint.py (the kit's print, run over this seat with some contracts of my own). Not trusted: Lean checks it.
namespace Go.Proofs.Ytejhejpkfjhmkaa.Pr
open Go.RowKit Go.Proofs.YtejhejpkfjhmkaaW.PrintWords Go.Proofs.YtejhejpkfjhmkaaW.PrintLast Go.Proofs.YtejhejpkfjhmkaaW.PrintMore
attribute [local go_sem] max2_int min2_int max_two min_two max_three min_three max_four min_four   -- for this text's walks alone
set_option linter.unusedVariables false
set_option linter.unusedSimpArgs false
open Classical in
noncomputable def scc_Of.f (k : Nat) (l0 : List (List Int)) : Option (List Int) := if Man.Sm l0 then some (Man.ofF l0) else none
theorem scc_Of.calls (k : Nat) (A0 : Option Addr) (c0 : Nat) (l0 : List (List Int)) (r : List Int) (w : World) (hr0 : Kd.C (Kd.slice 3 (Kd.int .i64)) w A0 l0.length l0) (hc0 : l0.length ≤ c0) (h : scc_Of.f k l0 = some r) :
    Calls Try.prog 10 #[.slice A0 l0.length c0] w fun e w' => ∃ v0_ : Value, e = .returned (v0_) ∧ Kd.R (Kd.int .i64) 3 w' w.heap.size (fun _ => True) v0_ r ∧ Below w.heap.size w w' :=
  by
  unfold scc_Of.f at h
  split at h
  · next hN =>
    cases h
    exact Man.of_any l0 hN A0 c0 w hr0 hc0
  · cases h
end Go.Proofs.Ytejhejpkfjhmkaa.Pr

-- Written by wip/xprint.py (the kit's print, run over this seat with some contracts of my own). Not trusted: Lean checks it.
namespace Go.Proofs.Ytejhejpkfjhmkaa.Pr
open Go.RowKit Go.Proofs.YtejhejpkfjhmkaaW.PrintWords Go.Proofs.YtejhejpkfjhmkaaW.PrintLast Go.Proofs.YtejhejpkfjhmkaaW.PrintMore
attribute [local go_sem] max2_int min2_int max_two min_two max_three min_three max_four min_four   -- for this text's walks alone
set_option linter.unusedVariables false
set_option linter.unusedSimpArgs false
open Classical in
noncomputable def scc_Many.f (k : Nat) (l0 : List (List Int)) : Option (Int) := if Man.Sm l0 then some (Man.manyF l0) else none
theorem scc_Many.calls (k : Nat) (A0 : Option Addr) (c0 : Nat) (l0 : List (List Int)) (r : Int) (w : World) (hr0 : Kd.C (Kd.slice 3 (Kd.int .i64)) w A0 l0.length l0) (hc0 : l0.length ≤ c0) (h : scc_Many.f k l0 = some r) :
    Calls Try.prog 12 #[.slice A0 l0.length c0] w fun e w' => e = .returned (.int .i64 r) ∧ Below w.heap.size w w' :=
  by
  unfold scc_Many.f at h
  split at h
  · next hN =>
    cases h
    exact Man.many_any l0 hN A0 c0 w hr0 hc0
  · cases h
end Go.Proofs.Ytejhejpkfjhmkaa.Pr

-- Written by wip/xprint.py (the kit's print, run over this seat with some contracts of my own). Not trusted: Lean checks it.
namespace Go.Proofs.Ytejhejpkfjhmkaa.Pr
open Go.RowKit Go.Proofs.YtejhejpkfjhmkaaW.PrintWords Go.Proofs.YtejhejpkfjhmkaaW.PrintLast Go.Proofs.YtejhejpkfjhmkaaW.PrintMore
attribute [local go_sem] max2_int min2_int max_two min_two max_three min_three max_four min_four   -- for this text's walks alone
set_option linter.unusedVariables false
set_option linter.unusedSimpArgs false
open Classical in
noncomputable def scc_Fold.f (k : Nat) (l0 : List (List Int)) : Option ((List (List Int))) := if Man.Sm l0 then some (Man.foldF l0) else none
theorem scc_Fold.calls (k : Nat) (A0 : Option Addr) (c0 : Nat) (l0 : List (List Int)) (r : List (List Int)) (w : World) (hr0 : Kd.C (Kd.slice 3 (Kd.int .i64)) w A0 l0.length l0) (hc0 : l0.length ≤ c0) (h : scc_Fold.f k l0 = some r) :
    Calls Try.prog 15 #[.slice A0 l0.length c0] w fun e w' => ∃ v0_ : Value, e = .returned (v0_) ∧ Kd.S (Kd.slice 3 (Kd.int .i64)) 26 w' w.heap.size (fun _ => True) v0_ r ∧ Below w.heap.size w w' :=
  by
  unfold scc_Fold.f at h
  split at h
  · next hN =>
    cases h
    exact Man.fold_anyS l0 hN A0 c0 w hr0 hc0
  · cases h
end Go.Proofs.Ytejhejpkfjhmkaa.Pr

-- Written by wip/xprint.py (the kit's print, run over this seat with some contracts of my own). Not trusted: Lean checks it.
namespace Go.Proofs.Ytejhejpkfjhmkaa.Pr
open Go.RowKit Go.Proofs.YtejhejpkfjhmkaaW.PrintWords Go.Proofs.YtejhejpkfjhmkaaW.PrintLast Go.Proofs.YtejhejpkfjhmkaaW.PrintMore
attribute [local go_sem] max2_int min2_int max_two min_two max_three min_three max_four min_four   -- for this text's walks alone
set_option linter.unusedVariables false
set_option linter.unusedSimpArgs false
noncomputable def w13_fixed.f (k : Nat)  : Option (Bool) := (some (([(([1] : List Int)), (([0, 2] : List Int)), (([] : List Int))] : List (List Int)) : List (List Int))).bind fun y246 => ((scc_Of.f k y246).bind fun t249 => ((r12_Ints.f k t249 (([1, 1, 0] : List Int))).bind fun t255 => (if t255 = true then ((scc_Many.f k y246).bind fun t256 => (if t256 = 2 then ((scc_Fold.f k y246).bind fun t257 => ((r12_Same.f k t257 (([(([] : List Int)), (([0] : List Int))] : List (List Int)))).bind fun t269 => (if t269 = true then ((scc_Of.f k (([(([5] : List Int))] : List (List Int)))).bind fun t276 => (some ((t276.length : Int) == 0))) else (some false)))) else (some false))) else (some false))))
set_option maxHeartbeats 8000000 in
set_option maxRecDepth 100000 in
theorem w13_fixed.calls (k : Nat)  (r : Bool) (w : World) (h : w13_fixed.f k  = some r) :
    Calls Try.prog 8 #[] w fun e w' => e = .returned (.bool r) ∧ Below w.heap.size w w' := by
 have HB := Aside0.mk (Below.refl w.heap.size w)
 have H : ((some (([(([1] : List Int)), (([0, 2] : List Int)), (([] : List Int))] : List (List Int)) : List (List Int))).bind fun y246 => ((scc_Of.f k y246).bind fun t249 => ((r12_Ints.f k t249 (([1, 1, 0] : List Int))).bind fun t255 => (if t255 = true then ((scc_Many.f k y246).bind fun t256 => (if t256 = 2 then ((scc_Fold.f k y246).bind fun t257 => ((r12_Same.f k t257 (([(([] : List Int)), (([0] : List Int))] : List (List Int)))).bind fun t269 => (if t269 = true then ((scc_Of.f k (([(([5] : List Int))] : List (List Int)))).bind fun t276 => (some ((t276.length : Int) == 0))) else (some false)))) else (some false))) else (some false))))) = some r := h
 clear h
 obtain ⟨y237, hy237⟩ : ∃ y_ : List Int, y_ = (([1] : List Int)) := ⟨_, rfl⟩
 replace H : ((some (([y237, (([0, 2] : List Int)), (([] : List Int))] : List (List Int)) : List (List Int))).bind fun y246 => ((scc_Of.f k y246).bind fun t249 => ((r12_Ints.f k t249 (([1, 1, 0] : List Int))).bind fun t255 => (if t255 = true then ((scc_Many.f k y246).bind fun t256 => (if t256 = 2 then ((scc_Fold.f k y246).bind fun t257 => ((r12_Same.f k t257 (([(([] : List Int)), (([0] : List Int))] : List (List Int)))).bind fun t269 => (if t269 = true then ((scc_Of.f k (([(([5] : List Int))] : List (List Int)))).bind fun t276 => (some ((t276.length : Int) == 0))) else (some false)))) else (some false))) else (some false))))) = some r := by first | (rw [hy237]; with_reducible exact H) | (have H2_ := (Option.bind_some _ _).symm.trans H; rw [hy237]; with_reducible exact H2_) | (have H2_ := (Option.bind_some _ _).symm.trans H; with_reducible exact H2_) | with_reducible exact H | (rw [hy237]; exact H) | exact H
 have Ny237 := Aside0.mk hy237
 clear hy237
 obtain ⟨y240, hy240⟩ : ∃ y_ : List Int, y_ = (([0, 2] : List Int)) := ⟨_, rfl⟩
 replace H : ((some (([y237, y240, (([] : List Int))] : List (List Int)) : List (List Int))).bind fun y246 => ((scc_Of.f k y246).bind fun t249 => ((r12_Ints.f k t249 (([1, 1, 0] : List Int))).bind fun t255 => (if t255 = true then ((scc_Many.f k y246).bind fun t256 => (if t256 = 2 then ((scc_Fold.f k y246).bind fun t257 => ((r12_Same.f k t257 (([(([] : List Int)), (([0] : List Int))] : List (List Int)))).bind fun t269 => (if t269 = true then ((scc_Of.f k (([(([5] : List Int))] : List (List Int)))).bind fun t276 => (some ((t276.length : Int) == 0))) else (some false)))) else (some false))) else (some false))))) = some r := by first | (rw [hy240]; with_reducible exact H) | (have H2_ := (Option.bind_some _ _).symm.trans H; rw [hy240]; with_reducible exact H2_) | (have H2_ := (Option.bind_some _ _).symm.trans H; with_reducible exact H2_) | with_reducible exact H | (rw [hy240]; exact H) | exact H
 have Ny240 := Aside0.mk hy240
 clear hy240
 obtain ⟨y243, hy243⟩ : ∃ y_ : List Int, y_ = (([] : List Int)) := ⟨_, rfl⟩
 replace H : ((some (([y237, y240, y243] : List (List Int)) : List (List Int))).bind fun y246 => ((scc_Of.f k y246).bind fun t249 => ((r12_Ints.f k t249 (([1, 1, 0] : List Int))).bind fun t255 => (if t255 = true then ((scc_Many.f k y246).bind fun t256 => (if t256 = 2 then ((scc_Fold.f k y246).bind fun t257 => ((r12_Same.f k t257 (([(([] : List Int)), (([0] : List Int))] : List (List Int)))).bind fun t269 => (if t269 = true then ((scc_Of.f k (([(([5] : List Int))] : List (List Int)))).bind fun t276 => (some ((t276.length : Int) == 0))) else (some false)))) else (some false))) else (some false))))) = some r := by first | (rw [hy243]; with_reducible exact H) | (have H2_ := (Option.bind_some _ _).symm.trans H; rw [hy243]; with_reducible exact H2_) | (have H2_ := (Option.bind_some _ _).symm.trans H; with_reducible exact H2_) | with_reducible exact H | (rw [hy243]; exact H) | exact H
 have Ny243 := Aside0.mk hy243
 clear hy243
 obtain ⟨y246, hy246⟩ : ∃ y_ : List (List Int), y_ = (([y237, y240, y243] : List (List Int))) := ⟨_, rfl⟩
 replace H : ((scc_Of.f k y246).bind fun t249 => ((r12_Ints.f k t249 (([1, 1, 0] : List Int))).bind fun t255 => (if t255 = true then ((scc_Many.f k y246).bind fun t256 => (if t256 = 2 then ((scc_Fold.f k y246).bind fun t257 => ((r12_Same.f k t257 (([(([] : List Int)), (([0] : List Int))] : List (List Int)))).bind fun t269 => (if t269 = true then ((scc_Of.f k (([(([5] : List Int))] : List (List Int)))).bind fun t276 => (some ((t276.length : Int) == 0))) else (some false)))) else (some false))) else (some false)))) = some r := by first | (rw [hy246]; with_reducible exact H) | (have H2_ := (Option.bind_some _ _).symm.trans H; rw [hy246]; with_reducible exact H2_) | (have H2_ := (Option.bind_some _ _).symm.trans H; with_reducible exact H2_) | with_reducible exact H | (rw [hy246]; exact H) | exact H
 have Ny246 := Aside0.mk hy246
 clear hy246
 replace H := Option.bind_eq_some_iff.mp H
 obtain ⟨t249, A10, H⟩ := H
 replace H : ((r12_Ints.f k t249 (([1, 1, 0] : List Int))).bind fun t255 => (if t255 = true then ((scc_Many.f k y246).bind fun t256 => (if t256 = 2 then ((scc_Fold.f k y246).bind fun t257 => ((r12_Same.f k t257 (([(([] : List Int)), (([0] : List Int))] : List (List Int)))).bind fun t269 => (if t269 = true then ((scc_Of.f k (([(([5] : List Int))] : List (List Int)))).bind fun t276 => (some ((t276.length : Int) == 0))) else (some false)))) else (some false))) else (some false))) = some r := H
 have A1 := Aside0.mk A10
 clear A10
 obtain ⟨y252, hy252⟩ : ∃ y_ : List Int, y_ = (([1, 1, 0] : List Int)) := ⟨_, rfl⟩
 replace H : ((r12_Ints.f k t249 y252).bind fun t255 => (if t255 = true then ((scc_Many.f k y246).bind fun t256 => (if t256 = 2 then ((scc_Fold.f k y246).bind fun t257 => ((r12_Same.f k t257 (([(([] : List Int)), (([0] : List Int))] : List (List Int)))).bind fun t269 => (if t269 = true then ((scc_Of.f k (([(([5] : List Int))] : List (List Int)))).bind fun t276 => (some ((t276.length : Int) == 0))) else (some false)))) else (some false))) else (some false))) = some r := by first | (rw [hy252]; with_reducible exact H) | (have H2_ := (Option.bind_some _ _).symm.trans H; rw [hy252]; with_reducible exact H2_) | (have H2_ := (Option.bind_some _ _).symm.trans H; with_reducible exact H2_) | with_reducible exact H | (rw [hy252]; exact H) | exact H
 have Ny252 := Aside0.mk hy252
 clear hy252
 replace H := Option.bind_eq_some_iff.mp H
 obtain ⟨t255, A20, H⟩ := H
 replace H : (if t255 = true then ((scc_Many.f k y246).bind fun t256 => (if t256 = 2 then ((scc_Fold.f k y246).bind fun t257 => ((r12_Same.f k t257 (([(([] : List Int)), (([0] : List Int))] : List (List Int)))).bind fun t269 => (if t269 = true then ((scc_Of.f k (([(([5] : List Int))] : List (List Int)))).bind fun t276 => (some ((t276.length : Int) == 0))) else (some false)))) else (some false))) else (some false)) = some r := H
 have A2 := Aside0.mk A20
 clear A20
 by_cases c3 : t255 = true
 ·subst c3
  have H1 : ((scc_Many.f k y246).bind fun t256 => (if t256 = 2 then ((scc_Fold.f k y246).bind fun t257 => ((r12_Same.f k t257 (([(([] : List Int)), (([0] : List Int))] : List (List Int)))).bind fun t269 => (if t269 = true then ((scc_Of.f k (([(([5] : List Int))] : List (List Int)))).bind fun t276 => (some ((t276.length : Int) == 0))) else (some false)))) else (some false))) = some r := by rw [if_pos rfl] at H; exact H
  clear H
  have H := H1
  clear H1
  replace H := Option.bind_eq_some_iff.mp H
  obtain ⟨t256, A40, H⟩ := H
  replace H : (if t256 = 2 then ((scc_Fold.f k y246).bind fun t257 => ((r12_Same.f k t257 (([(([] : List Int)), (([0] : List Int))] : List (List Int)))).bind fun t269 => (if t269 = true then ((scc_Of.f k (([(([5] : List Int))] : List (List Int)))).bind fun t276 => (some ((t276.length : Int) == 0))) else (some false)))) else (some false)) = some r := H
  have A4 := Aside0.mk A40
  clear A40
  by_cases c5 : t256 = 2
  ·rw [if_pos c5] at H
   have c5b0 : (t256 == 2) = true := beq_iff_eq.mpr c5
   have c5b1 : (t256 != 2) = false := bne_eq_false_iff_eq.mpr c5
   clear c5
   replace H := Option.bind_eq_some_iff.mp H
   obtain ⟨t257, A60, H⟩ := H
   replace H : ((r12_Same.f k t257 (([(([] : List Int)), (([0] : List Int))] : List (List Int)))).bind fun t269 => (if t269 = true then ((scc_Of.f k (([(([5] : List Int))] : List (List Int)))).bind fun t276 => (some ((t276.length : Int) == 0))) else (some false))) = some r := H
   have A6 := Aside0.mk A60
   clear A60
   obtain ⟨y260, hy260⟩ : ∃ y_ : List Int, y_ = (([] : List Int)) := ⟨_, rfl⟩
   replace H : ((r12_Same.f k t257 (([y260, (([0] : List Int))] : List (List Int)))).bind fun t269 => (if t269 = true then ((scc_Of.f k (([(([5] : List Int))] : List (List Int)))).bind fun t276 => (some ((t276.length : Int) == 0))) else (some false))) = some r := by first | (rw [hy260]; with_reducible exact H) | (have H2_ := (Option.bind_some _ _).symm.trans H; rw [hy260]; with_reducible exact H2_) | (have H2_ := (Option.bind_some _ _).symm.trans H; with_reducible exact H2_) | with_reducible exact H | (rw [hy260]; exact H) | exact H
   have Ny260 := Aside0.mk hy260
   clear hy260
   obtain ⟨y263, hy263⟩ : ∃ y_ : List Int, y_ = (([0] : List Int)) := ⟨_, rfl⟩
   replace H : ((r12_Same.f k t257 (([y260, y263] : List (List Int)))).bind fun t269 => (if t269 = true then ((scc_Of.f k (([(([5] : List Int))] : List (List Int)))).bind fun t276 => (some ((t276.length : Int) == 0))) else (some false))) = some r := by first | (rw [hy263]; with_reducible exact H) | (have H2_ := (Option.bind_some _ _).symm.trans H; rw [hy263]; with_reducible exact H2_) | (have H2_ := (Option.bind_some _ _).symm.trans H; with_reducible exact H2_) | with_reducible exact H | (rw [hy263]; exact H) | exact H
   have Ny263 := Aside0.mk hy263
   clear hy263
   obtain ⟨y266, hy266⟩ : ∃ y_ : List (List Int), y_ = (([y260, y263] : List (List Int))) := ⟨_, rfl⟩
   replace H : ((r12_Same.f k t257 y266).bind fun t269 => (if t269 = true then ((scc_Of.f k (([(([5] : List Int))] : List (List Int)))).bind fun t276 => (some ((t276.length : Int) == 0))) else (some false))) = some r := by first | (rw [hy266]; with_reducible exact H) | (have H2_ := (Option.bind_some _ _).symm.trans H; rw [hy266]; with_reducible exact H2_) | (have H2_ := (Option.bind_some _ _).symm.trans H; with_reducible exact H2_) | with_reducible exact H | (rw [hy266]; exact H) | exact H
   have Ny266 := Aside0.mk hy266
   clear hy266
   replace H := Option.bind_eq_some_iff.mp H
   obtain ⟨t269, A70, H⟩ := H
   replace H : (if t269 = true then ((scc_Of.f k (([(([5] : List Int))] : List (List Int)))).bind fun t276 => (some ((t276.length : Int) == 0))) else (some false)) = some r := H
   have A7 := Aside0.mk A70
   clear A70
   by_cases c8 : t269 = true
   ·subst c8
    have H1 : ((scc_Of.f k (([(([5] : List Int))] : List (List Int)))).bind fun t276 => (some ((t276.length : Int) == 0))) = some r := by rw [if_pos rfl] at H; exact H
    clear H
    have H := H1
    clear H1
    obtain ⟨y270, hy270⟩ : ∃ y_ : List Int, y_ = (([5] : List Int)) := ⟨_, rfl⟩
    replace H : ((scc_Of.f k (([y270] : List (List Int)))).bind fun t276 => (some ((t276.length : Int) == 0))) = some r := by first | (rw [hy270]; with_reducible exact H) | (have H2_ := (Option.bind_some _ _).symm.trans H; rw [hy270]; with_reducible exact H2_) | (have H2_ := (Option.bind_some _ _).symm.trans H; with_reducible exact H2_) | with_reducible exact H | (rw [hy270]; exact H) | exact H
    have Ny270 := Aside0.mk hy270
    clear hy270
    obtain ⟨y273, hy273⟩ : ∃ y_ : List (List Int), y_ = (([y270] : List (List Int))) := ⟨_, rfl⟩
    replace H : ((scc_Of.f k y273).bind fun t276 => (some ((t276.length : Int) == 0))) = some r := by first | (rw [hy273]; with_reducible exact H) | (have H2_ := (Option.bind_some _ _).symm.trans H; rw [hy273]; with_reducible exact H2_) | (have H2_ := (Option.bind_some _ _).symm.trans H; with_reducible exact H2_) | with_reducible exact H | (rw [hy273]; exact H) | exact H
    have Ny273 := Aside0.mk hy273
    clear hy273
    replace H := Option.bind_eq_some_iff.mp H
    obtain ⟨t276, A90, H⟩ := H
    replace H : (some ((t276.length : Int) == 0)) = some r := H
    have A9 := Aside0.mk A90
    clear A90
    obtain rfl := Option.some.inj H
    go_enter Try.func8, Try.ntmps8
    go_wp2_with (first | ((with_reducible refine gate_dst (N := 2) rfl ?_); (try (refine gate_guard (by rfl) ?_; dsimp only)); refine Kd.R_lit (Kd.int .i64) _ 3 ?hg (N := 2) ?hd (xs := ([1] : List Int)) (inner := [.int .i64 1]) (ok := fun _ => True) (okp := fun _ => True) ?hr ?hp (fun _ hk => hk) trivial (Below.refl _ _) (Nat.le_refl _) (by simp) ?_; (case hd => rfl); (case hg => rfl); (case hr => first | (go_simp; done) | (go_simp; rfl)); (case hp => exact (Reps.one (show Kd.M (Kd.int .i64) _ _ _ 1 [.int .i64 1] from rfl) (Reps.none _ _))); intro v238 w10 ho11 hb hg_ hnew_; clear hg_ hnew_; (first | rw [← Ny237.out] at ho11 | (simp only [Int.reduceToNat] at ho11; rw [← Ny237.out] at ho11)); have n0_ := Aside0.mk (Kd.R_lower ho11 (below_size (by repeat (first | (with_reducible first | exact HB.out | apply below_alloc | apply pw_below_drewN | apply below_drew1) | exact HB.out)))); have n1_ := Aside0.mk (below_step (by repeat (first | (with_reducible first | exact HB.out | apply below_alloc | apply pw_below_drewN | apply below_drew1) | exact HB.out)) hb); clear HB; have HO239 := n0_; have HB := n1_; clear n0_ n1_; clear hb ho11) | ((with_reducible refine gate_dst (N := 3) rfl ?_); (try (refine gate_guard (by rfl) ?_; dsimp only)); refine Kd.R_lit (Kd.int .i64) _ 3 ?hg (N := 3) ?hd (xs := ([0, 2] : List Int)) (inner := [.int .i64 0, .int .i64 2]) (ok := fun _ => True) (okp := fun _ => True) ?hr ?hp (fun _ hk => hk) trivial (Below.refl _ _) (Nat.le_refl _) (by simp) ?_; (case hd => rfl); (case hg => rfl); (case hr => first | (go_simp; done) | (go_simp; rfl)); (case hp => exact (Reps.one (show Kd.M (Kd.int .i64) _ _ _ 0 [.int .i64 0] from rfl) (Reps.one (show Kd.M (Kd.int .i64) _ _ _ 2 [.int .i64 2] from rfl) (Reps.none _ _)))); intro v241 w12 ho13 hb hg_ hnew_; clear hg_ hnew_; (first | rw [← Ny240.out] at ho13 | (simp only [Int.reduceToNat] at ho13; rw [← Ny240.out] at ho13)); have n0_ := Aside0.mk (Kd.R_elder' (by (with_reducible repeat (first | apply Kd.R_alloc | apply Kd.R_drewN | apply Kd.R_drew)); exact HO239.out) (Kd.R_base ho13) hb); have n1_ := Aside0.mk (Kd.R_lower (Kd.R_new' ho13 (Kd.R_lt (by (with_reducible repeat (first | apply Kd.R_alloc | apply Kd.R_drewN | apply Kd.R_drew)); exact HO239.out))) (below_size (by repeat (first | (with_reducible first | exact HB.out | apply below_alloc | apply pw_below_drewN | apply below_drew1) | exact HB.out)))); have n2_ := Aside0.mk (below_step (by repeat (first | (with_reducible first | exact HB.out | apply below_alloc | apply pw_below_drewN | apply below_drew1) | exact HB.out)) hb); clear HO239; clear HB; have HO239 := n0_; have HO242 := n1_; have HB := n2_; clear n0_ n1_ n2_; clear hb ho13) | ((with_reducible refine gate_dst (N := 4) rfl ?_); (try (refine gate_guard (by rfl) ?_; dsimp only)); refine Kd.R_lit (Kd.int .i64) _ 3 ?hg (N := 4) ?hd (xs := ([] : List Int)) (inner := []) (ok := fun _ => True) (okp := fun _ => True) ?hr ?hp (fun _ hk => hk) trivial (Below.refl _ _) (Nat.le_refl _) (by simp) ?_; (case hd => rfl); (case hg => rfl); (case hr => first | (go_simp; done) | (go_simp; rfl)); (case hp => exact (Reps.none _ _)); intro v244 w14 ho15 hb hg_ hnew_; clear hg_ hnew_; (first | rw [← Ny243.out] at ho15 | (simp only [Int.reduceToNat] at ho15; rw [← Ny243.out] at ho15)); have n0_ := Aside0.mk (Kd.R_elder' (by (with_reducible repeat (first | apply Kd.R_alloc | apply Kd.R_drewN | apply Kd.R_drew)); exact HO239.out) (Kd.R_base ho15) hb); have n1_ := Aside0.mk (Kd.R_elder' (by (with_reducible repeat (first | apply Kd.R_alloc | apply Kd.R_drewN | apply Kd.R_drew)); exact HO242.out) (Kd.R_base ho15) hb); have n2_ := Aside0.mk (Kd.R_lower (Kd.R_new' (Kd.R_new' ho15 (Kd.R_lt (by (with_reducible repeat (first | apply Kd.R_alloc | apply Kd.R_drewN | apply Kd.R_drew)); exact HO239.out))) (Kd.R_lt (by (with_reducible repeat (first | apply Kd.R_alloc | apply Kd.R_drewN | apply Kd.R_drew)); exact HO242.out))) (below_size (by repeat (first | (with_reducible first | exact HB.out | apply below_alloc | apply pw_below_drewN | apply below_drew1) | exact HB.out)))); have n3_ := Aside0.mk (below_step (by repeat (first | (with_reducible first | exact HB.out | apply below_alloc | apply pw_below_drewN | apply below_drew1) | exact HB.out)) hb); clear HO239; clear HO242; clear HB; have HO239 := n0_; have HO242 := n1_; have HO245 := n2_; have HB := n3_; clear n0_ n1_ n2_ n3_; clear hb ho15; obtain ⟨Ao16, co16, eo16⟩ := Kd.R_slice HO239.out; subst eo16; obtain ⟨Ao17, co17, eo17⟩ := Kd.R_slice HO242.out; subst eo17; obtain ⟨Ao18, co18, eo18⟩ := Kd.R_slice HO245.out; subst eo18) | ((with_reducible refine gate_dst (N := 5) rfl ?_); (try (refine gate_guard (by rfl) ?_; dsimp only)); refine Kd.N_lit (Kd.slice 3 (Kd.int .i64)) _ 26 ?hg (N' := 5) ?hd (xs := ([y237, y240, y243] : List (List Int))) (inner := [.slice Ao16 y237.length co16, .slice Ao17 y240.length co17, .slice Ao18 y243.length co18]) (ok := (fun _ => True)) (okp := (fun _ => True)) ?hr ?hp (fun _ hk => hk) ((show ∀ k_, w14.heap.size ≤ k_ → (fun _ => True) k_ from fun k_ hk => trivial) _ (Nat.le_refl _)) (Below.refl _ _) (Nat.le_refl _) (by simp) ?_; (case hd => rfl); (case hg => rfl); (case hr => first | (go_simp; done) | (go_simp; rfl)); (case hp => exact (Reps.one (show Kd.FK (Kd.slice 3 (Kd.int .i64)) _ _ y237 [.slice Ao16 y237.length co16] from (Kd.FK_slice_mk (Kd.R_reads' (Kd.R_mono (ok' := (fun _ => True)) (HO239.out) (fun k_ hk => trivial))).2.1 (Kd.R_F (Kd.R_mono (ok' := (fun _ => True)) (HO239.out) (fun k_ hk => trivial))))) (Reps.one (show Kd.FK (Kd.slice 3 (Kd.int .i64)) _ _ y240 [.slice Ao17 y240.length co17] from (Kd.FK_slice_mk (Kd.R_reads' (Kd.R_mono (ok' := (fun _ => True)) (HO242.out) (fun k_ hk => trivial))).2.1 (Kd.R_F (Kd.R_mono (ok' := (fun _ => True)) (HO242.out) (fun k_ hk => trivial))))) (Reps.one (show Kd.FK (Kd.slice 3 (Kd.int .i64)) _ _ y243 [.slice Ao18 y243.length co18] from (Kd.FK_slice_mk (Kd.R_reads' (Kd.R_mono (ok' := (fun _ => True)) (HO245.out) (fun k_ hk => trivial))).2.1 (Kd.R_F (Kd.R_mono (ok' := (fun _ => True)) (HO245.out) (fun k_ hk => trivial))))) (Reps.none _ _))))); intro v247 w19 ho20 hb hg_ hnew_; clear hg_ hnew_; (first | rw [← Ny246.out] at ho20 | (simp only [Int.reduceToNat] at ho20; rw [← Ny246.out] at ho20)); have n0_ := Aside0.mk (Kd.N_lower ho20 (below_size (by repeat (first | (with_reducible first | exact HB.out | apply below_alloc | apply pw_below_drewN | apply below_drew1) | exact HB.out)))); have n1_ := Aside0.mk (below_step (by repeat (first | (with_reducible first | exact HB.out | apply below_alloc | apply pw_below_drewN | apply below_drew1) | exact HB.out)) hb); clear HB; clear HO239; clear HO242; clear HO245; have HO248 := n0_; have HB := n1_; clear n0_ n1_; clear hb ho20; obtain ⟨Ao21, co21, eo21⟩ := Kd.N_slice HO248.out; subst eo21) | ((with_reducible refine gate_callee (f := 10) rfl ?_); refine goesL_ (some 7) rfl rfl Try.func10 (by kernel_rfl) rfl #[.slice Ao21 y246.length co21] rfl (by (try simp only [List.map_toArray, List.map_cons, List.map_nil]); first | done | rfl | (simp only [List.length_drop, List.length_take]; rfl)) ?_; (with_reducible refine (scc_Of.calls k _ _ y246 t249 _ ?side1 ?side2 A1.out).mono ?_); (case side1 => repeat (first | exact (Kd.N_reads' HO248.out).2.2 | (with_reducible refine Kd.C_alloc ?_ _) | (with_reducible refine Kd.C_drewN ?_ _) | (with_reducible refine Kd.C_drew ?_))); (case side2 => exact (Kd.N_reads' HO248.out).2.1); rintro e w22 ⟨v250, rfl, ho0, hb⟩; refine ⟨_, rfl, ?_⟩; have n0_ := Aside0.mk (Kd.N_elder' (by (with_reducible repeat (first | apply Kd.N_alloc | apply Kd.N_drewN | apply Kd.N_drew)); exact HO248.out) (Kd.R_base ho0) hb); have n1_ := Aside0.mk (Kd.R_lower ho0 (below_size (by repeat (first | (with_reducible first | exact HB.out | apply below_alloc | apply pw_below_drewN | apply below_drew1) | exact HB.out)))); have n2_ := Aside0.mk (below_step (by repeat (first | (with_reducible first | exact HB.out | apply below_alloc | apply pw_below_drewN | apply below_drew1) | exact HB.out)) hb); clear HO248; clear HB; have HO248 := n0_; have HO251 := n1_; have HB := n2_; clear n0_ n1_ n2_; (try clear hb); (try clear hb2); (try clear hk); (try clear hi); (try clear ho0)) | ((with_reducible refine gate_dst (N := 8) rfl ?_); (try (refine gate_guard (by rfl) ?_; dsimp only)); refine Kd.R_lit (Kd.int .i64) _ 3 ?hg (N := 8) ?hd (xs := ([1, 1, 0] : List Int)) (inner := [.int .i64 1, .int .i64 1, .int .i64 0]) (ok := fun _ => True) (okp := fun _ => True) ?hr ?hp (fun _ hk => hk) trivial (Below.refl _ _) (Nat.le_refl _) (by simp) ?_; (case hd => rfl); (case hg => rfl); (case hr => first | (go_simp; done) | (go_simp; rfl)); (case hp => exact (Reps.one (show Kd.M (Kd.int .i64) _ _ _ 1 [.int .i64 1] from rfl) (Reps.one (show Kd.M (Kd.int .i64) _ _ _ 1 [.int .i64 1] from rfl) (Reps.one (show Kd.M (Kd.int .i64) _ _ _ 0 [.int .i64 0] from rfl) (Reps.none _ _))))); intro v253 w23 ho24 hb hg_ hnew_; clear hg_ hnew_; (first | rw [← Ny252.out] at ho24 | (simp only [Int.reduceToNat] at ho24; rw [← Ny252.out] at ho24)); have n0_ := Aside0.mk (Kd.N_elder' (by (with_reducible repeat (first | apply Kd.N_alloc | apply Kd.N_drewN | apply Kd.N_drew)); exact HO248.out) (Kd.R_base ho24) hb); have n1_ := Aside0.mk (Kd.R_elder' (by (with_reducible repeat (first | apply Kd.R_alloc | apply Kd.R_drewN | apply Kd.R_drew)); exact HO251.out) (Kd.R_base ho24) hb); have n2_ := Aside0.mk (Kd.R_lower (Kd.R_new' ho24 (Kd.R_lt (by (with_reducible repeat (first | apply Kd.R_alloc | apply Kd.R_drewN | apply Kd.R_drew)); exact HO251.out))) (below_size (by repeat (first | (with_reducible first | exact HB.out | apply below_alloc | apply pw_below_drewN | apply below_drew1) | exact HB.out)))); have n3_ := Aside0.mk (below_step (by repeat (first | (with_reducible first | exact HB.out | apply below_alloc | apply pw_below_drewN | apply below_drew1) | exact HB.out)) hb); clear HO248; clear HO251; clear HB; have HO248 := n0_; have HO251 := n1_; have HO254 := n2_; have HB := n3_; clear n0_ n1_ n2_ n3_; clear hb ho24; obtain ⟨Ao25, co25, eo25⟩ := Kd.R_slice HO251.out; subst eo25; obtain ⟨Ao26, co26, eo26⟩ := Kd.R_slice HO254.out; subst eo26) | ((with_reducible refine gate_callee (f := 9) rfl ?_); refine goesL_ (some 9) rfl rfl Try.func9 (by kernel_rfl) rfl #[.slice Ao25 t249.length co25, .slice Ao26 y252.length co26] rfl (by (try simp only [List.map_toArray, List.map_cons, List.map_nil]); first | done | rfl | (simp only [List.length_drop, List.length_take]; rfl)) ?_; (with_reducible refine (r12_Ints.calls k _ _ t249 _ _ y252 true _ ?side1 ?side2 ?side3 ?side4 A2.out).mono ?_); (case side1 => repeat (first | exact (Kd.R_reads' HO251.out).2.2 | (with_reducible refine Kd.C_alloc ?_ _) | (with_reducible refine Kd.C_drewN ?_ _) | (with_reducible refine Kd.C_drew ?_))); (case side2 => exact (Kd.R_reads' HO251.out).2.1); (case side3 => repeat (first | exact (Kd.R_reads' HO254.out).2.2 | (with_reducible refine Kd.C_alloc ?_ _) | (with_reducible refine Kd.C_drewN ?_ _) | (with_reducible refine Kd.C_drew ?_))); (case side4 => exact (Kd.R_reads' HO254.out).2.1); rintro e w' ⟨rfl, ⟨nd, rfl⟩⟩; refine ⟨_, rfl, ?_⟩) | (go_at_call 12; (with_reducible refine (scc_Many.calls k _ _ y246 t256 _ ?side1 ?side2 A4.out).mono ?_); (case side1 => repeat (first | exact (Kd.N_reads' HO248.out).2.2 | (with_reducible refine Kd.C_alloc ?_ _) | (with_reducible refine Kd.C_drewN ?_ _) | (with_reducible refine Kd.C_drew ?_))); (case side2 => exact (Kd.N_reads' HO248.out).2.1); rintro e w27 ⟨rfl, hb⟩; have n0_ := Aside0.mk (Kd.N_below (by (with_reducible repeat (first | apply Kd.N_alloc | apply Kd.N_drewN | apply Kd.N_drew)); exact HO248.out) hb); have n1_ := Aside0.mk (Kd.R_below (by (with_reducible repeat (first | apply Kd.R_alloc | apply Kd.R_drewN | apply Kd.R_drew)); exact HO251.out) hb); have n2_ := Aside0.mk (Kd.R_below (by (with_reducible repeat (first | apply Kd.R_alloc | apply Kd.R_drewN | apply Kd.R_drew)); exact HO254.out) hb); have n3_ := Aside0.mk (below_step (by repeat (first | (with_reducible first | exact HB.out | apply below_alloc | apply pw_below_drewN | apply below_drew1) | exact HB.out)) hb); clear HO248; clear HO251; clear HO254; clear HB; have HO248 := n0_; have HO251 := n1_; have HO254 := n2_; have HB := n3_; clear n0_ n1_ n2_ n3_; (try clear hb); (try clear hb2); (try clear hk); (try clear hi)) | (go_at_call 15; (with_reducible refine (scc_Fold.calls k _ _ y246 t257 _ ?side1 ?side2 A6.out).mono ?_); (case side1 => repeat (first | exact (Kd.N_reads' HO248.out).2.2 | (with_reducible refine Kd.C_alloc ?_ _) | (with_reducible refine Kd.C_drewN ?_ _) | (with_reducible refine Kd.C_drew ?_))); (case side2 => exact (Kd.N_reads' HO248.out).2.1); rintro e w28 ⟨v258, rfl, ho0, hb⟩; have n0_ := Aside0.mk (Kd.N_elder' (by (with_reducible repeat (first | apply Kd.N_alloc | apply Kd.N_drewN | apply Kd.N_drew)); exact HO248.out) (Kd.N_base (Kd.S_N ho0)) hb); have n1_ := Aside0.mk (Kd.R_below (by (with_reducible repeat (first | apply Kd.R_alloc | apply Kd.R_drewN | apply Kd.R_drew)); exact HO251.out) hb); have n2_ := Aside0.mk (Kd.R_below (by (with_reducible repeat (first | apply Kd.R_alloc | apply Kd.R_drewN | apply Kd.R_drew)); exact HO254.out) hb); have n3_ := Aside0.mk (Kd.N_lower (Kd.N_mono (ok' := fun k_ => some k_ ≠ (.slice Ao21 y246.length co21 : Value).ownBlock ∧ some k_ ≠ (.slice Ao25 t249.length co25 : Value).ownBlock ∧ some k_ ≠ (.slice Ao26 y252.length co26 : Value).ownBlock) (Kd.S_N (Kd.S_bound ho0)) (fun k_ hk_ => ⟨(Kd.fresh' (Kd.N_lt (by (with_reducible repeat (first | apply Kd.N_alloc | apply Kd.N_drewN | apply Kd.N_drew)); exact HO248.out)) k_ hk_.2.1), (Kd.fresh' (Kd.R_lt (by (with_reducible repeat (first | apply Kd.R_alloc | apply Kd.R_drewN | apply Kd.R_drew)); exact HO251.out)) k_ hk_.2.1), (Kd.fresh' (Kd.R_lt (by (with_reducible repeat (first | apply Kd.R_alloc | apply Kd.R_drewN | apply Kd.R_drew)); exact HO254.out)) k_ hk_.2.1)⟩)) (below_size (by repeat (first | (with_reducible first | exact HB.out | apply below_alloc | apply pw_below_drewN | apply below_drew1) | exact HB.out)))); have n4_ := Aside0.mk (below_step (by repeat (first | (with_reducible first | exact HB.out | apply below_alloc | apply pw_below_drewN | apply below_drew1) | exact HB.out)) hb); clear HO248; clear HO251; clear HO254; clear HB; have HO248 := n0_; have HO251 := n1_; have HO254 := n2_; have HO259 := n3_; have HB := n4_; clear n0_ n1_ n2_ n3_ n4_; (try clear hb); (try clear hb2); (try clear hk); (try clear hi); (try clear ho0)) | ((with_reducible refine gate_dst (N := 18) rfl ?_); (try (refine gate_guard (by rfl) ?_; dsimp only)); refine Kd.R_lit (Kd.int .i64) _ 3 ?hg (N := 18) ?hd (xs := ([] : List Int)) (inner := []) (ok := fun _ => True) (okp := fun _ => True) ?hr ?hp (fun _ hk => hk) trivial (Below.refl _ _) (Nat.le_refl _) (by simp) ?_; (case hd => rfl); (case hg => rfl); (case hr => first | (go_simp; done) | (go_simp; rfl)); (case hp => exact (Reps.none _ _)); intro v261 w29 ho30 hb hg_ hnew_; clear hg_ hnew_; (first | rw [← Ny260.out] at ho30 | (simp only [Int.reduceToNat] at ho30; rw [← Ny260.out] at ho30)); have n0_ := Aside0.mk (Kd.N_elder' (by (with_reducible repeat (first | apply Kd.N_alloc | apply Kd.N_drewN | apply Kd.N_drew)); exact HO248.out) (Kd.R_base ho30) hb); have n1_ := Aside0.mk (Kd.R_elder' (by (with_reducible repeat (first | apply Kd.R_alloc | apply Kd.R_drewN | apply Kd.R_drew)); exact HO251.out) (Kd.R_base ho30) hb); have n2_ := Aside0.mk (Kd.R_elder' (by (with_reducible repeat (first | apply Kd.R_alloc | apply Kd.R_drewN | apply Kd.R_drew)); exact HO254.out) (Kd.R_base ho30) hb); have n3_ := Aside0.mk (Kd.N_elder' (by (with_reducible repeat (first | apply Kd.N_alloc | apply Kd.N_drewN | apply Kd.N_drew)); exact HO259.out) (Kd.R_base ho30) hb); have n4_ := Aside0.mk (Kd.R_lower (Kd.R_new' (Kd.R_new' ho30 (Kd.R_lt (by (with_reducible repeat (first | apply Kd.R_alloc | apply Kd.R_drewN | apply Kd.R_drew)); exact HO251.out))) (Kd.R_lt (by (with_reducible repeat (first | apply Kd.R_alloc | apply Kd.R_drewN | apply Kd.R_drew)); exact HO254.out))) (below_size (by repeat (first | (with_reducible first | exact HB.out | apply below_alloc | apply pw_below_drewN | apply below_drew1) | exact HB.out)))); have n5_ := Aside0.mk (below_step (by repeat (first | (with_reducible first | exact HB.out | apply below_alloc | apply pw_below_drewN | apply below_drew1) | exact HB.out)) hb); clear HO248; clear HO251; clear HO254; clear HO259; clear HB; have HO248 := n0_; have HO251 := n1_; have HO254 := n2_; have HO259 := n3_; have HO262 := n4_; have HB := n5_; clear n0_ n1_ n2_ n3_ n4_ n5_; clear hb ho30) | ((with_reducible refine gate_dst (N := 19) rfl ?_); (try (refine gate_guard (by rfl) ?_; dsimp only)); refine Kd.R_lit (Kd.int .i64) _ 3 ?hg (N := 19) ?hd (xs := ([0] : List Int)) (inner := [.int .i64 0]) (ok := fun _ => True) (okp := fun _ => True) ?hr ?hp (fun _ hk => hk) trivial (Below.refl _ _) (Nat.le_refl _) (by simp) ?_; (case hd => rfl); (case hg => rfl); (case hr => first | (go_simp; done) | (go_simp; rfl)); (case hp => exact (Reps.one (show Kd.M (Kd.int .i64) _ _ _ 0 [.int .i64 0] from rfl) (Reps.none _ _))); intro v264 w31 ho32 hb hg_ hnew_; clear hg_ hnew_; (first | rw [← Ny263.out] at ho32 | (simp only [Int.reduceToNat] at ho32; rw [← Ny263.out] at ho32)); have n0_ := Aside0.mk (Kd.N_elder' (by (with_reducible repeat (first | apply Kd.N_alloc | apply Kd.N_drewN | apply Kd.N_drew)); exact HO248.out) (Kd.R_base ho32) hb); have n1_ := Aside0.mk (Kd.R_elder' (by (with_reducible repeat (first | apply Kd.R_alloc | apply Kd.R_drewN | apply Kd.R_drew)); exact HO251.out) (Kd.R_base ho32) hb); have n2_ := Aside0.mk (Kd.R_elder' (by (with_reducible repeat (first | apply Kd.R_alloc | apply Kd.R_drewN | apply Kd.R_drew)); exact HO254.out) (Kd.R_base ho32) hb); have n3_ := Aside0.mk (Kd.N_elder' (by (with_reducible repeat (first | apply Kd.N_alloc | apply Kd.N_drewN | apply Kd.N_drew)); exact HO259.out) (Kd.R_base ho32) hb); have n4_ := Aside0.mk (Kd.R_elder' (by (with_reducible repeat (first | apply Kd.R_alloc | apply Kd.R_drewN | apply Kd.R_drew)); exact HO262.out) (Kd.R_base ho32) hb); have n5_ := Aside0.mk (Kd.R_lower (Kd.R_new' (Kd.R_new' (Kd.R_new' ho32 (Kd.R_lt (by (with_reducible repeat (first | apply Kd.R_alloc | apply Kd.R_drewN | apply Kd.R_drew)); exact HO251.out))) (Kd.R_lt (by (with_reducible repeat (first | apply Kd.R_alloc | apply Kd.R_drewN | apply Kd.R_drew)); exact HO254.out))) (Kd.R_lt (by (with_reducible repeat (first | apply Kd.R_alloc | apply Kd.R_drewN | apply Kd.R_drew)); exact HO262.out))) (below_size (by repeat (first | (with_reducible first | exact HB.out | apply below_alloc | apply pw_below_drewN | apply below_drew1) | exact HB.out)))); have n6_ := Aside0.mk (below_step (by repeat (first | (with_reducible first | exact HB.out | apply below_alloc | apply pw_below_drewN | apply below_drew1) | exact HB.out)) hb); clear HO248; clear HO251; clear HO254; clear HO259; clear HO262; clear HB; have HO248 := n0_; have HO251 := n1_; have HO254 := n2_; have HO259 := n3_; have HO262 := n4_; have HO265 := n5_; have HB := n6_; clear n0_ n1_ n2_ n3_ n4_ n5_ n6_; clear hb ho32; obtain ⟨Ao33, co33, eo33⟩ := Kd.R_slice HO262.out; subst eo33; obtain ⟨Ao34, co34, eo34⟩ := Kd.R_slice HO265.out; subst eo34) | ((with_reducible refine gate_dst (N := 20) rfl ?_); (try (refine gate_guard (by rfl) ?_; dsimp only)); refine Kd.N_lit (Kd.slice 3 (Kd.int .i64)) _ 26 ?hg (N' := 20) ?hd (xs := ([y260, y263] : List (List Int))) (inner := [.slice Ao33 y260.length co33, .slice Ao34 y263.length co34]) (ok := (fun k_ => some k_ ≠ (.slice Ao21 y246.length co21 : Value).ownBlock ∧ some k_ ≠ (.slice Ao25 t249.length co25 : Value).ownBlock ∧ some k_ ≠ (.slice Ao26 y252.length co26 : Value).ownBlock ∧ some k_ ≠ (v258 : Value).ownBlock)) (okp := (fun k_ => some k_ ≠ (.slice Ao21 y246.length co21 : Value).ownBlock ∧ some k_ ≠ (.slice Ao25 t249.length co25 : Value).ownBlock ∧ some k_ ≠ (.slice Ao26 y252.length co26 : Value).ownBlock ∧ some k_ ≠ (v258 : Value).ownBlock)) ?hr ?hp (fun _ hk => hk) ((show ∀ k_, w31.heap.size ≤ k_ → (fun k_ => some k_ ≠ (.slice Ao21 y246.length co21 : Value).ownBlock ∧ some k_ ≠ (.slice Ao25 t249.length co25 : Value).ownBlock ∧ some k_ ≠ (.slice Ao26 y252.length co26 : Value).ownBlock ∧ some k_ ≠ (v258 : Value).ownBlock) k_ from fun k_ hk => ⟨Kd.fresh' (Kd.N_lt (by (with_reducible repeat (first | apply Kd.N_alloc | apply Kd.N_drewN | apply Kd.N_drew)); exact HO248.out)) k_ hk, Kd.fresh' (Kd.R_lt (by (with_reducible repeat (first | apply Kd.R_alloc | apply Kd.R_drewN | apply Kd.R_drew)); exact HO251.out)) k_ hk, Kd.fresh' (Kd.R_lt (by (with_reducible repeat (first | apply Kd.R_alloc | apply Kd.R_drewN | apply Kd.R_drew)); exact HO254.out)) k_ hk, Kd.fresh' (Kd.N_lt (by (with_reducible repeat (first | apply Kd.N_alloc | apply Kd.N_drewN | apply Kd.N_drew)); exact HO259.out)) k_ hk⟩) _ (Nat.le_refl _)) (Below.refl _ _) (Nat.le_refl _) (by simp) ?_; (case hd => rfl); (case hg => rfl); (case hr => first | (go_simp; done) | (go_simp; rfl)); (case hp => exact (Reps.one (show Kd.FK (Kd.slice 3 (Kd.int .i64)) _ _ y260 [.slice Ao33 y260.length co33] from (Kd.FK_slice_mk (Kd.R_reads' (Kd.R_mono (ok' := (fun k_ => some k_ ≠ (.slice Ao21 y246.length co21 : Value).ownBlock ∧ some k_ ≠ (.slice Ao25 t249.length co25 : Value).ownBlock ∧ some k_ ≠ (.slice Ao26 y252.length co26 : Value).ownBlock ∧ some k_ ≠ (v258 : Value).ownBlock)) (Kd.R_apart' (Kd.R_apart' (HO262.out) (Kd.N_typed HO248.out) (by decide)) (Kd.N_typed HO259.out) (by decide)) (fun k_ hk => ⟨hk.1.2, ⟨hk.1.1.1.1.2, ⟨hk.1.1.1.2, hk.2⟩⟩⟩))).2.1 (Kd.R_F (Kd.R_mono (ok' := (fun k_ => some k_ ≠ (.slice Ao21 y246.length co21 : Value).ownBlock ∧ some k_ ≠ (.slice Ao25 t249.length co25 : Value).ownBlock ∧ some k_ ≠ (.slice Ao26 y252.length co26 : Value).ownBlock ∧ some k_ ≠ (v258 : Value).ownBlock)) (Kd.R_apart' (Kd.R_apart' (HO262.out) (Kd.N_typed HO248.out) (by decide)) (Kd.N_typed HO259.out) (by decide)) (fun k_ hk => ⟨hk.1.2, ⟨hk.1.1.1.1.2, ⟨hk.1.1.1.2, hk.2⟩⟩⟩))))) (Reps.one (show Kd.FK (Kd.slice 3 (Kd.int .i64)) _ _ y263 [.slice Ao34 y263.length co34] from (Kd.FK_slice_mk (Kd.R_reads' (Kd.R_mono (ok' := (fun k_ => some k_ ≠ (.slice Ao21 y246.length co21 : Value).ownBlock ∧ some k_ ≠ (.slice Ao25 t249.length co25 : Value).ownBlock ∧ some k_ ≠ (.slice Ao26 y252.length co26 : Value).ownBlock ∧ some k_ ≠ (v258 : Value).ownBlock)) (Kd.R_apart' (Kd.R_apart' (HO265.out) (Kd.N_typed HO248.out) (by decide)) (Kd.N_typed HO259.out) (by decide)) (fun k_ hk => ⟨hk.1.2, ⟨hk.1.1.1.1.2, ⟨hk.1.1.1.2, hk.2⟩⟩⟩))).2.1 (Kd.R_F (Kd.R_mono (ok' := (fun k_ => some k_ ≠ (.slice Ao21 y246.length co21 : Value).ownBlock ∧ some k_ ≠ (.slice Ao25 t249.length co25 : Value).ownBlock ∧ some k_ ≠ (.slice Ao26 y252.length co26 : Value).ownBlock ∧ some k_ ≠ (v258 : Value).ownBlock)) (Kd.R_apart' (Kd.R_apart' (HO265.out) (Kd.N_typed HO248.out) (by decide)) (Kd.N_typed HO259.out) (by decide)) (fun k_ hk => ⟨hk.1.2, ⟨hk.1.1.1.1.2, ⟨hk.1.1.1.2, hk.2⟩⟩⟩))))) (Reps.none _ _)))); intro v267 w35 ho36 hb hg_ hnew_; clear hg_ hnew_; (first | rw [← Ny266.out] at ho36 | (simp only [Int.reduceToNat] at ho36; rw [← Ny266.out] at ho36)); have n0_ := Aside0.mk (Kd.N_elder' (by (with_reducible repeat (first | apply Kd.N_alloc | apply Kd.N_drewN | apply Kd.N_drew)); exact HO248.out) (Kd.N_base ho36) hb); have n1_ := Aside0.mk (Kd.R_below (by (with_reducible repeat (first | apply Kd.R_alloc | apply Kd.R_drewN | apply Kd.R_drew)); exact HO251.out) hb); have n2_ := Aside0.mk (Kd.R_below (by (with_reducible repeat (first | apply Kd.R_alloc | apply Kd.R_drewN | apply Kd.R_drew)); exact HO254.out) hb); have n3_ := Aside0.mk (Kd.N_elder' (by (with_reducible repeat (first | apply Kd.N_alloc | apply Kd.N_drewN | apply Kd.N_drew)); exact HO259.out) (Kd.N_base ho36) hb); have n4_ := Aside0.mk (Kd.N_lower ho36 (below_size (by repeat (first | (with_reducible first | exact HB.out | apply below_alloc | apply pw_below_drewN | apply below_drew1) | exact HB.out)))); have n5_ := Aside0.mk (below_step (by repeat (first | (with_reducible first | exact HB.out | apply below_alloc | apply pw_below_drewN | apply below_drew1) | exact HB.out)) hb); clear HO248; clear HO251; clear HO254; clear HO259; clear HB; clear HO262; clear HO265; have HO248 := n0_; have HO251 := n1_; have HO254 := n2_; have HO259 := n3_; have HO268 := n4_; have HB := n5_; clear n0_ n1_ n2_ n3_ n4_ n5_; clear hb ho36; obtain ⟨Ao37, co37, eo37⟩ := Kd.N_slice HO259.out; subst eo37; obtain ⟨Ao38, co38, eo38⟩ := Kd.N_slice HO268.out; subst eo38) | (go_at_call 14; (with_reducible refine (r12_Same.calls k _ _ t257 _ _ y266 true _ ?side1 ?side2 ?side3 ?side4 A7.out).mono ?_); (case side1 => repeat (first | exact (Kd.N_reads' HO259.out).2.2 | (with_reducible refine Kd.C_alloc ?_ _) | (with_reducible refine Kd.C_drewN ?_ _) | (with_reducible refine Kd.C_drew ?_))); (case side2 => exact (Kd.N_reads' HO259.out).2.1); (case side3 => repeat (first | exact (Kd.N_reads' HO268.out).2.2 | (with_reducible refine Kd.C_alloc ?_ _) | (with_reducible refine Kd.C_drewN ?_ _) | (with_reducible refine Kd.C_drew ?_))); (case side4 => exact (Kd.N_reads' HO268.out).2.1); rintro e w' ⟨rfl, ⟨nd, rfl⟩⟩) | ((with_reducible refine gate_dst (N := 24) rfl ?_); (try (refine gate_guard (by rfl) ?_; dsimp only)); refine Kd.R_lit (Kd.int .i64) _ 3 ?hg (N := 24) ?hd (xs := ([5] : List Int)) (inner := [.int .i64 5]) (ok := fun _ => True) (okp := fun _ => True) ?hr ?hp (fun _ hk => hk) trivial (Below.refl _ _) (Nat.le_refl _) (by simp) ?_; (case hd => rfl); (case hg => rfl); (case hr => first | (go_simp; done) | (go_simp; rfl)); (case hp => exact (Reps.one (show Kd.M (Kd.int .i64) _ _ _ 5 [.int .i64 5] from rfl) (Reps.none _ _))); intro v271 w39 ho40 hb hg_ hnew_; clear hg_ hnew_; (first | rw [← Ny270.out] at ho40 | (simp only [Int.reduceToNat] at ho40; rw [← Ny270.out] at ho40)); have n0_ := Aside0.mk (Kd.N_elder' (by (with_reducible repeat (first | apply Kd.N_alloc | apply Kd.N_drewN | apply Kd.N_drew)); exact HO248.out) (Kd.R_base ho40) hb); have n1_ := Aside0.mk (Kd.R_elder' (by (with_reducible repeat (first | apply Kd.R_alloc | apply Kd.R_drewN | apply Kd.R_drew)); exact HO251.out) (Kd.R_base ho40) hb); have n2_ := Aside0.mk (Kd.R_elder' (by (with_reducible repeat (first | apply Kd.R_alloc | apply Kd.R_drewN | apply Kd.R_drew)); exact HO254.out) (Kd.R_base ho40) hb); have n3_ := Aside0.mk (Kd.N_elder' (by (with_reducible repeat (first | apply Kd.N_alloc | apply Kd.N_drewN | apply Kd.N_drew)); exact HO259.out) (Kd.R_base ho40) hb); have n4_ := Aside0.mk (Kd.N_elder' (by (with_reducible repeat (first | apply Kd.N_alloc | apply Kd.N_drewN | apply Kd.N_drew)); exact HO268.out) (Kd.R_base ho40) hb); have n5_ := Aside0.mk (Kd.R_lower (Kd.R_new' (Kd.R_new' ho40 (Kd.R_lt (by (with_reducible repeat (first | apply Kd.R_alloc | apply Kd.R_drewN | apply Kd.R_drew)); exact HO251.out))) (Kd.R_lt (by (with_reducible repeat (first | apply Kd.R_alloc | apply Kd.R_drewN | apply Kd.R_drew)); exact HO254.out))) (below_size (by repeat (first | (with_reducible first | exact HB.out | apply below_alloc | apply pw_below_drewN | apply below_drew1) | exact HB.out)))); have n6_ := Aside0.mk (below_step (by repeat (first | (with_reducible first | exact HB.out | apply below_alloc | apply pw_below_drewN | apply below_drew1) | exact HB.out)) hb); clear HO248; clear HO251; clear HO254; clear HO259; clear HO268; clear HB; have HO248 := n0_; have HO251 := n1_; have HO254 := n2_; have HO259 := n3_; have HO268 := n4_; have HO272 := n5_; have HB := n6_; clear n0_ n1_ n2_ n3_ n4_ n5_ n6_; clear hb ho40; obtain ⟨Ao41, co41, eo41⟩ := Kd.R_slice HO272.out; subst eo41) | ((with_reducible refine gate_dst (N := 25) rfl ?_); (try (refine gate_guard (by rfl) ?_; dsimp only)); refine Kd.N_lit (Kd.slice 3 (Kd.int .i64)) _ 26 ?hg (N' := 25) ?hd (xs := ([y270] : List (List Int))) (inner := [.slice Ao41 y270.length co41]) (ok := (fun k_ => some k_ ≠ (.slice Ao21 y246.length co21 : Value).ownBlock ∧ some k_ ≠ (.slice Ao25 t249.length co25 : Value).ownBlock ∧ some k_ ≠ (.slice Ao26 y252.length co26 : Value).ownBlock ∧ some k_ ≠ (.slice Ao37 t257.length co37 : Value).ownBlock ∧ some k_ ≠ (.slice Ao38 y266.length co38 : Value).ownBlock)) (okp := (fun k_ => some k_ ≠ (.slice Ao21 y246.length co21 : Value).ownBlock ∧ some k_ ≠ (.slice Ao25 t249.length co25 : Value).ownBlock ∧ some k_ ≠ (.slice Ao26 y252.length co26 : Value).ownBlock ∧ some k_ ≠ (.slice Ao37 t257.length co37 : Value).ownBlock ∧ some k_ ≠ (.slice Ao38 y266.length co38 : Value).ownBlock)) ?hr ?hp (fun _ hk => hk) ((show ∀ k_, w39.heap.size ≤ k_ → (fun k_ => some k_ ≠ (.slice Ao21 y246.length co21 : Value).ownBlock ∧ some k_ ≠ (.slice Ao25 t249.length co25 : Value).ownBlock ∧ some k_ ≠ (.slice Ao26 y252.length co26 : Value).ownBlock ∧ some k_ ≠ (.slice Ao37 t257.length co37 : Value).ownBlock ∧ some k_ ≠ (.slice Ao38 y266.length co38 : Value).ownBlock) k_ from fun k_ hk => ⟨Kd.fresh' (Kd.N_lt (by (with_reducible repeat (first | apply Kd.N_alloc | apply Kd.N_drewN | apply Kd.N_drew)); exact HO248.out)) k_ hk, Kd.fresh' (Kd.R_lt (by (with_reducible repeat (first | apply Kd.R_alloc | apply Kd.R_drewN | apply Kd.R_drew)); exact HO251.out)) k_ hk, Kd.fresh' (Kd.R_lt (by (with_reducible repeat (first | apply Kd.R_alloc | apply Kd.R_drewN | apply Kd.R_drew)); exact HO254.out)) k_ hk, Kd.fresh' (Kd.N_lt (by (with_reducible repeat (first | apply Kd.N_alloc | apply Kd.N_drewN | apply Kd.N_drew)); exact HO259.out)) k_ hk, Kd.fresh' (Kd.N_lt (by (with_reducible repeat (first | apply Kd.N_alloc | apply Kd.N_drewN | apply Kd.N_drew)); exact HO268.out)) k_ hk⟩) _ (Nat.le_refl _)) (Below.refl _ _) (Nat.le_refl _) (by simp) ?_; (case hd => rfl); (case hg => rfl); (case hr => first | (go_simp; done) | (go_simp; rfl)); (case hp => exact (Reps.one (show Kd.FK (Kd.slice 3 (Kd.int .i64)) _ _ y270 [.slice Ao41 y270.length co41] from (Kd.FK_slice_mk (Kd.R_reads' (Kd.R_mono (ok' := (fun k_ => some k_ ≠ (.slice Ao21 y246.length co21 : Value).ownBlock ∧ some k_ ≠ (.slice Ao25 t249.length co25 : Value).ownBlock ∧ some k_ ≠ (.slice Ao26 y252.length co26 : Value).ownBlock ∧ some k_ ≠ (.slice Ao37 t257.length co37 : Value).ownBlock ∧ some k_ ≠ (.slice Ao38 y266.length co38 : Value).ownBlock)) (Kd.R_apart' (Kd.R_apart' (Kd.R_apart' (HO272.out) (Kd.N_typed HO248.out) (by decide)) (Kd.N_typed HO259.out) (by decide)) (Kd.N_typed HO268.out) (by decide)) (fun k_ hk => ⟨hk.1.1.2, ⟨hk.1.1.1.1.2, ⟨hk.1.1.1.2, ⟨hk.1.2, hk.2⟩⟩⟩⟩))).2.1 (Kd.R_F (Kd.R_mono (ok' := (fun k_ => some k_ ≠ (.slice Ao21 y246.length co21 : Value).ownBlock ∧ some k_ ≠ (.slice Ao25 t249.length co25 : Value).ownBlock ∧ some k_ ≠ (.slice Ao26 y252.length co26 : Value).ownBlock ∧ some k_ ≠ (.slice Ao37 t257.length co37 : Value).ownBlock ∧ some k_ ≠ (.slice Ao38 y266.length co38 : Value).ownBlock)) (Kd.R_apart' (Kd.R_apart' (Kd.R_apart' (HO272.out) (Kd.N_typed HO248.out) (by decide)) (Kd.N_typed HO259.out) (by decide)) (Kd.N_typed HO268.out) (by decide)) (fun k_ hk => ⟨hk.1.1.2, ⟨hk.1.1.1.1.2, ⟨hk.1.1.1.2, ⟨hk.1.2, hk.2⟩⟩⟩⟩))))) (Reps.none _ _))); intro v274 w42 ho43 hb hg_ hnew_; clear hg_ hnew_; (first | rw [← Ny273.out] at ho43 | (simp only [Int.reduceToNat] at ho43; rw [← Ny273.out] at ho43)); have n0_ := Aside0.mk (Kd.N_elder' (by (with_reducible repeat (first | apply Kd.N_alloc | apply Kd.N_drewN | apply Kd.N_drew)); exact HO248.out) (Kd.N_base ho43) hb); have n1_ := Aside0.mk (Kd.R_below (by (with_reducible repeat (first | apply Kd.R_alloc | apply Kd.R_drewN | apply Kd.R_drew)); exact HO251.out) hb); have n2_ := Aside0.mk (Kd.R_below (by (with_reducible repeat (first | apply Kd.R_alloc | apply Kd.R_drewN | apply Kd.R_drew)); exact HO254.out) hb); have n3_ := Aside0.mk (Kd.N_elder' (by (with_reducible repeat (first | apply Kd.N_alloc | apply Kd.N_drewN | apply Kd.N_drew)); exact HO259.out) (Kd.N_base ho43) hb); have n4_ := Aside0.mk (Kd.N_elder' (by (with_reducible repeat (first | apply Kd.N_alloc | apply Kd.N_drewN | apply Kd.N_drew)); exact HO268.out) (Kd.N_base ho43) hb); have n5_ := Aside0.mk (Kd.N_lower ho43 (below_size (by repeat (first | (with_reducible first | exact HB.out | apply below_alloc | apply pw_below_drewN | apply below_drew1) | exact HB.out)))); have n6_ := Aside0.mk (below_step (by repeat (first | (with_reducible first | exact HB.out | apply below_alloc | apply pw_below_drewN | apply below_drew1) | exact HB.out)) hb); clear HO248; clear HO251; clear HO254; clear HO259; clear HO268; clear HB; clear HO272; have HO248 := n0_; have HO251 := n1_; have HO254 := n2_; have HO259 := n3_; have HO268 := n4_; have HO275 := n5_; have HB := n6_; clear n0_ n1_ n2_ n3_ n4_ n5_ n6_; clear hb ho43; obtain ⟨Ao44, co44, eo44⟩ := Kd.N_slice HO275.out; subst eo44) | (go_at_call 10; (with_reducible refine (scc_Of.calls k _ _ y273 t276 _ ?side1 ?side2 A9.out).mono ?_); (case side1 => repeat (first | exact (Kd.N_reads' HO275.out).2.2 | (with_reducible refine Kd.C_alloc ?_ _) | (with_reducible refine Kd.C_drewN ?_ _) | (with_reducible refine Kd.C_drew ?_))); (case side2 => exact (Kd.N_reads' HO275.out).2.1); rintro e w45 ⟨v277, rfl, ho0, hb⟩; have n0_ := Aside0.mk (Kd.N_elder' (by (with_reducible repeat (first | apply Kd.N_alloc | apply Kd.N_drewN | apply Kd.N_drew)); exact HO248.out) (Kd.R_base ho0) hb); have n1_ := Aside0.mk (Kd.R_elder' (by (with_reducible repeat (first | apply Kd.R_alloc | apply Kd.R_drewN | apply Kd.R_drew)); exact HO251.out) (Kd.R_base ho0) hb); have n2_ := Aside0.mk (Kd.R_elder' (by (with_reducible repeat (first | apply Kd.R_alloc | apply Kd.R_drewN | apply Kd.R_drew)); exact HO254.out) (Kd.R_base ho0) hb); have n3_ := Aside0.mk (Kd.N_elder' (by (with_reducible repeat (first | apply Kd.N_alloc | apply Kd.N_drewN | apply Kd.N_drew)); exact HO259.out) (Kd.R_base ho0) hb); have n4_ := Aside0.mk (Kd.N_elder' (by (with_reducible repeat (first | apply Kd.N_alloc | apply Kd.N_drewN | apply Kd.N_drew)); exact HO268.out) (Kd.R_base ho0) hb); have n5_ := Aside0.mk (Kd.N_elder' (by (with_reducible repeat (first | apply Kd.N_alloc | apply Kd.N_drewN | apply Kd.N_drew)); exact HO275.out) (Kd.R_base ho0) hb); have n6_ := Aside0.mk (Kd.R_lower (Kd.R_new' (Kd.R_new' ho0 (Kd.R_lt (by (with_reducible repeat (first | apply Kd.R_alloc | apply Kd.R_drewN | apply Kd.R_drew)); exact HO251.out))) (Kd.R_lt (by (with_reducible repeat (first | apply Kd.R_alloc | apply Kd.R_drewN | apply Kd.R_drew)); exact HO254.out))) (below_size (by repeat (first | (with_reducible first | exact HB.out | apply below_alloc | apply pw_below_drewN | apply below_drew1) | exact HB.out)))); have n7_ := Aside0.mk (below_step (by repeat (first | (with_reducible first | exact HB.out | apply below_alloc | apply pw_below_drewN | apply below_drew1) | exact HB.out)) hb); clear HO248; clear HO251; clear HO254; clear HO259; clear HO268; clear HO275; clear HB; have HO248 := n0_; have HO251 := n1_; have HO254 := n2_; have HO259 := n3_; have HO268 := n4_; have HO275 := n5_; have HO278 := n6_; have HB := n7_; clear n0_ n1_ n2_ n3_ n4_ n5_ n6_ n7_; (try clear hb); (try clear hb2); (try clear hk); (try clear hi); (try clear ho0); obtain ⟨Ao46, co46, eo46⟩ := Kd.R_slice HO278.out; subst eo46))
    go_ret
    exact ⟨by first | rfl | (simp [errW_none, errW_some] <;> rfl) | (simp [*, errW_none, errW_some] <;> rfl), by repeat (first | (with_reducible first | exact HB.out | apply below_alloc | apply pw_below_drewN | apply below_drew1) | exact HB.out)⟩
   ·replace c8 := Bool.eq_false_iff.mpr c8
    subst c8
    have H1 : (some false) = some r := by rw [if_neg (show ¬ (false = true) by decide)] at H; exact H
    clear H
    have H := H1
    clear H1
    obtain rfl := Option.some.inj H
    go_enter Try.func8, Try.ntmps8
    go_wp2_with (first | ((with_reducible refine gate_dst (N := 2) rfl ?_); (try (refine gate_guard (by rfl) ?_; dsimp only)); refine Kd.R_lit (Kd.int .i64) _ 3 ?hg (N := 2) ?hd (xs := ([1] : List Int)) (inner := [.int .i64 1]) (ok := fun _ => True) (okp := fun _ => True) ?hr ?hp (fun _ hk => hk) trivial (Below.refl _ _) (Nat.le_refl _) (by simp) ?_; (case hd => rfl); (case hg => rfl); (case hr => first | (go_simp; done) | (go_simp; rfl)); (case hp => exact (Reps.one (show Kd.M (Kd.int .i64) _ _ _ 1 [.int .i64 1] from rfl) (Reps.none _ _))); intro v238 w47 ho48 hb hg_ hnew_; clear hg_ hnew_; (first | rw [← Ny237.out] at ho48 | (simp only [Int.reduceToNat] at ho48; rw [← Ny237.out] at ho48)); have n0_ := Aside0.mk (Kd.R_lower ho48 (below_size (by repeat (first | (with_reducible first | exact HB.out | apply below_alloc | apply pw_below_drewN | apply below_drew1) | exact HB.out)))); have n1_ := Aside0.mk (below_step (by repeat (first | (with_reducible first | exact HB.out | apply below_alloc | apply pw_below_drewN | apply below_drew1) | exact HB.out)) hb); clear HB; have HO239 := n0_; have HB := n1_; clear n0_ n1_; clear hb ho48) | ((with_reducible refine gate_dst (N := 3) rfl ?_); (try (refine gate_guard (by rfl) ?_; dsimp only)); refine Kd.R_lit (Kd.int .i64) _ 3 ?hg (N := 3) ?hd (xs := ([0, 2] : List Int)) (inner := [.int .i64 0, .int .i64 2]) (ok := fun _ => True) (okp := fun _ => True) ?hr ?hp (fun _ hk => hk) trivial (Below.refl _ _) (Nat.le_refl _) (by simp) ?_; (case hd => rfl); (case hg => rfl); (case hr => first | (go_simp; done) | (go_simp; rfl)); (case hp => exact (Reps.one (show Kd.M (Kd.int .i64) _ _ _ 0 [.int .i64 0] from rfl) (Reps.one (show Kd.M (Kd.int .i64) _ _ _ 2 [.int .i64 2] from rfl) (Reps.none _ _)))); intro v241 w49 ho50 hb hg_ hnew_; clear hg_ hnew_; (first | rw [← Ny240.out] at ho50 | (simp only [Int.reduceToNat] at ho50; rw [← Ny240.out] at ho50)); have n0_ := Aside0.mk (Kd.R_elder' (by (with_reducible repeat (first | apply Kd.R_alloc | apply Kd.R_drewN | apply Kd.R_drew)); exact HO239.out) (Kd.R_base ho50) hb); have n1_ := Aside0.mk (Kd.R_lower (Kd.R_new' ho50 (Kd.R_lt (by (with_reducible repeat (first | apply Kd.R_alloc | apply Kd.R_drewN | apply Kd.R_drew)); exact HO239.out))) (below_size (by repeat (first | (with_reducible first | exact HB.out | apply below_alloc | apply pw_below_drewN | apply below_drew1) | exact HB.out)))); have n2_ := Aside0.mk (below_step (by repeat (first | (with_reducible first | exact HB.out | apply below_alloc | apply pw_below_drewN | apply below_drew1) | exact HB.out)) hb); clear HO239; clear HB; have HO239 := n0_; have HO242 := n1_; have HB := n2_; clear n0_ n1_ n2_; clear hb ho50) | ((with_reducible refine gate_dst (N := 4) rfl ?_); (try (refine gate_guard (by rfl) ?_; dsimp only)); refine Kd.R_lit (Kd.int .i64) _ 3 ?hg (N := 4) ?hd (xs := ([] : List Int)) (inner := []) (ok := fun _ => True) (okp := fun _ => True) ?hr ?hp (fun _ hk => hk) trivial (Below.refl _ _) (Nat.le_refl _) (by simp) ?_; (case hd => rfl); (case hg => rfl); (case hr => first | (go_simp; done) | (go_simp; rfl)); (case hp => exact (Reps.none _ _)); intro v244 w51 ho52 hb hg_ hnew_; clear hg_ hnew_; (first | rw [← Ny243.out] at ho52 | (simp only [Int.reduceToNat] at ho52; rw [← Ny243.out] at ho52)); have n0_ := Aside0.mk (Kd.R_elder' (by (with_reducible repeat (first | apply Kd.R_alloc | apply Kd.R_drewN | apply Kd.R_drew)); exact HO239.out) (Kd.R_base ho52) hb); have n1_ := Aside0.mk (Kd.R_elder' (by (with_reducible repeat (first | apply Kd.R_alloc | apply Kd.R_drewN | apply Kd.R_drew)); exact HO242.out) (Kd.R_base ho52) hb); have n2_ := Aside0.mk (Kd.R_lower (Kd.R_new' (Kd.R_new' ho52 (Kd.R_lt (by (with_reducible repeat (first | apply Kd.R_alloc | apply Kd.R_drewN | apply Kd.R_drew)); exact HO239.out))) (Kd.R_lt (by (with_reducible repeat (first | apply Kd.R_alloc | apply Kd.R_drewN | apply Kd.R_drew)); exact HO242.out))) (below_size (by repeat (first | (with_reducible first | exact HB.out | apply below_alloc | apply pw_below_drewN | apply below_drew1) | exact HB.out)))); have n3_ := Aside0.mk (below_step (by repeat (first | (with_reducible first | exact HB.out | apply below_alloc | apply pw_below_drewN | apply below_drew1) | exact HB.out)) hb); clear HO239; clear HO242; clear HB; have HO239 := n0_; have HO242 := n1_; have HO245 := n2_; have HB := n3_; clear n0_ n1_ n2_ n3_; clear hb ho52; obtain ⟨Ao53, co53, eo53⟩ := Kd.R_slice HO239.out; subst eo53; obtain ⟨Ao54, co54, eo54⟩ := Kd.R_slice HO242.out; subst eo54; obtain ⟨Ao55, co55, eo55⟩ := Kd.R_slice HO245.out; subst eo55) | ((with_reducible refine gate_dst (N := 5) rfl ?_); (try (refine gate_guard (by rfl) ?_; dsimp only)); refine Kd.N_lit (Kd.slice 3 (Kd.int .i64)) _ 26 ?hg (N' := 5) ?hd (xs := ([y237, y240, y243] : List (List Int))) (inner := [.slice Ao53 y237.length co53, .slice Ao54 y240.length co54, .slice Ao55 y243.length co55]) (ok := (fun _ => True)) (okp := (fun _ => True)) ?hr ?hp (fun _ hk => hk) ((show ∀ k_, w51.heap.size ≤ k_ → (fun _ => True) k_ from fun k_ hk => trivial) _ (Nat.le_refl _)) (Below.refl _ _) (Nat.le_refl _) (by simp) ?_; (case hd => rfl); (case hg => rfl); (case hr => first | (go_simp; done) | (go_simp; rfl)); (case hp => exact (Reps.one (show Kd.FK (Kd.slice 3 (Kd.int .i64)) _ _ y237 [.slice Ao53 y237.length co53] from (Kd.FK_slice_mk (Kd.R_reads' (Kd.R_mono (ok' := (fun _ => True)) (HO239.out) (fun k_ hk => trivial))).2.1 (Kd.R_F (Kd.R_mono (ok' := (fun _ => True)) (HO239.out) (fun k_ hk => trivial))))) (Reps.one (show Kd.FK (Kd.slice 3 (Kd.int .i64)) _ _ y240 [.slice Ao54 y240.length co54] from (Kd.FK_slice_mk (Kd.R_reads' (Kd.R_mono (ok' := (fun _ => True)) (HO242.out) (fun k_ hk => trivial))).2.1 (Kd.R_F (Kd.R_mono (ok' := (fun _ => True)) (HO242.out) (fun k_ hk => trivial))))) (Reps.one (show Kd.FK (Kd.slice 3 (Kd.int .i64)) _ _ y243 [.slice Ao55 y243.length co55] from (Kd.FK_slice_mk (Kd.R_reads' (Kd.R_mono (ok' := (fun _ => True)) (HO245.out) (fun k_ hk => trivial))).2.1 (Kd.R_F (Kd.R_mono (ok' := (fun _ => True)) (HO245.out) (fun k_ hk => trivial))))) (Reps.none _ _))))); intro v247 w56 ho57 hb hg_ hnew_; clear hg_ hnew_; (first | rw [← Ny246.out] at ho57 | (simp only [Int.reduceToNat] at ho57; rw [← Ny246.out] at ho57)); have n0_ := Aside0.mk (Kd.N_lower ho57 (below_size (by repeat (first | (with_reducible first | exact HB.out | apply below_alloc | apply pw_below_drewN | apply below_drew1) | exact HB.out)))); have n1_ := Aside0.mk (below_step (by repeat (first | (with_reducible first | exact HB.out | apply below_alloc | apply pw_below_drewN | apply below_drew1) | exact HB.out)) hb); clear HB; clear HO239; clear HO242; clear HO245; have HO248 := n0_; have HB := n1_; clear n0_ n1_; clear hb ho57; obtain ⟨Ao58, co58, eo58⟩ := Kd.N_slice HO248.out; subst eo58) | ((with_reducible refine gate_callee (f := 10) rfl ?_); refine goesL_ (some 7) rfl rfl Try.func10 (by kernel_rfl) rfl #[.slice Ao58 y246.length co58] rfl (by (try simp only [List.map_toArray, List.map_cons, List.map_nil]); first | done | rfl | (simp only [List.length_drop, List.length_take]; rfl)) ?_; (with_reducible refine (scc_Of.calls k _ _ y246 t249 _ ?side1 ?side2 A1.out).mono ?_); (case side1 => repeat (first | exact (Kd.N_reads' HO248.out).2.2 | (with_reducible refine Kd.C_alloc ?_ _) | (with_reducible refine Kd.C_drewN ?_ _) | (with_reducible refine Kd.C_drew ?_))); (case side2 => exact (Kd.N_reads' HO248.out).2.1); rintro e w59 ⟨v250, rfl, ho0, hb⟩; refine ⟨_, rfl, ?_⟩; have n0_ := Aside0.mk (Kd.N_elder' (by (with_reducible repeat (first | apply Kd.N_alloc | apply Kd.N_drewN | apply Kd.N_drew)); exact HO248.out) (Kd.R_base ho0) hb); have n1_ := Aside0.mk (Kd.R_lower ho0 (below_size (by repeat (first | (with_reducible first | exact HB.out | apply below_alloc | apply pw_below_drewN | apply below_drew1) | exact HB.out)))); have n2_ := Aside0.mk (below_step (by repeat (first | (with_reducible first | exact HB.out | apply below_alloc | apply pw_below_drewN | apply below_drew1) | exact HB.out)) hb); clear HO248; clear HB; have HO248 := n0_; have HO251 := n1_; have HB := n2_; clear n0_ n1_ n2_; (try clear hb); (try clear hb2); (try clear hk); (try clear hi); (try clear ho0)) | ((with_reducible refine gate_dst (N := 8) rfl ?_); (try (refine gate_guard (by rfl) ?_; dsimp only)); refine Kd.R_lit (Kd.int .i64) _ 3 ?hg (N := 8) ?hd (xs := ([1, 1, 0] : List Int)) (inner := [.int .i64 1, .int .i64 1, .int .i64 0]) (ok := fun _ => True) (okp := fun _ => True) ?hr ?hp (fun _ hk => hk) trivial (Below.refl _ _) (Nat.le_refl _) (by simp) ?_; (case hd => rfl); (case hg => rfl); (case hr => first | (go_simp; done) | (go_simp; rfl)); (case hp => exact (Reps.one (show Kd.M (Kd.int .i64) _ _ _ 1 [.int .i64 1] from rfl) (Reps.one (show Kd.M (Kd.int .i64) _ _ _ 1 [.int .i64 1] from rfl) (Reps.one (show Kd.M (Kd.int .i64) _ _ _ 0 [.int .i64 0] from rfl) (Reps.none _ _))))); intro v253 w60 ho61 hb hg_ hnew_; clear hg_ hnew_; (first | rw [← Ny252.out] at ho61 | (simp only [Int.reduceToNat] at ho61; rw [← Ny252.out] at ho61)); have n0_ := Aside0.mk (Kd.N_elder' (by (with_reducible repeat (first | apply Kd.N_alloc | apply Kd.N_drewN | apply Kd.N_drew)); exact HO248.out) (Kd.R_base ho61) hb); have n1_ := Aside0.mk (Kd.R_elder' (by (with_reducible repeat (first | apply Kd.R_alloc | apply Kd.R_drewN | apply Kd.R_drew)); exact HO251.out) (Kd.R_base ho61) hb); have n2_ := Aside0.mk (Kd.R_lower (Kd.R_new' ho61 (Kd.R_lt (by (with_reducible repeat (first | apply Kd.R_alloc | apply Kd.R_drewN | apply Kd.R_drew)); exact HO251.out))) (below_size (by repeat (first | (with_reducible first | exact HB.out | apply below_alloc | apply pw_below_drewN | apply below_drew1) | exact HB.out)))); have n3_ := Aside0.mk (below_step (by repeat (first | (with_reducible first | exact HB.out | apply below_alloc | apply pw_below_drewN | apply below_drew1) | exact HB.out)) hb); clear HO248; clear HO251; clear HB; have HO248 := n0_; have HO251 := n1_; have HO254 := n2_; have HB := n3_; clear n0_ n1_ n2_ n3_; clear hb ho61; obtain ⟨Ao62, co62, eo62⟩ := Kd.R_slice HO251.out; subst eo62; obtain ⟨Ao63, co63, eo63⟩ := Kd.R_slice HO254.out; subst eo63) | ((with_reducible refine gate_callee (f := 9) rfl ?_); refine goesL_ (some 9) rfl rfl Try.func9 (by kernel_rfl) rfl #[.slice Ao62 t249.length co62, .slice Ao63 y252.length co63] rfl (by (try simp only [List.map_toArray, List.map_cons, List.map_nil]); first | done | rfl | (simp only [List.length_drop, List.length_take]; rfl)) ?_; (with_reducible refine (r12_Ints.calls k _ _ t249 _ _ y252 true _ ?side1 ?side2 ?side3 ?side4 A2.out).mono ?_); (case side1 => repeat (first | exact (Kd.R_reads' HO251.out).2.2 | (with_reducible refine Kd.C_alloc ?_ _) | (with_reducible refine Kd.C_drewN ?_ _) | (with_reducible refine Kd.C_drew ?_))); (case side2 => exact (Kd.R_reads' HO251.out).2.1); (case side3 => repeat (first | exact (Kd.R_reads' HO254.out).2.2 | (with_reducible refine Kd.C_alloc ?_ _) | (with_reducible refine Kd.C_drewN ?_ _) | (with_reducible refine Kd.C_drew ?_))); (case side4 => exact (Kd.R_reads' HO254.out).2.1); rintro e w' ⟨rfl, ⟨nd, rfl⟩⟩; refine ⟨_, rfl, ?_⟩) | (go_at_call 12; (with_reducible refine (scc_Many.calls k _ _ y246 t256 _ ?side1 ?side2 A4.out).mono ?_); (case side1 => repeat (first | exact (Kd.N_reads' HO248.out).2.2 | (with_reducible refine Kd.C_alloc ?_ _) | (with_reducible refine Kd.C_drewN ?_ _) | (with_reducible refine Kd.C_drew ?_))); (case side2 => exact (Kd.N_reads' HO248.out).2.1); rintro e w64 ⟨rfl, hb⟩; have n0_ := Aside0.mk (Kd.N_below (by (with_reducible repeat (first | apply Kd.N_alloc | apply Kd.N_drewN | apply Kd.N_drew)); exact HO248.out) hb); have n1_ := Aside0.mk (Kd.R_below (by (with_reducible repeat (first | apply Kd.R_alloc | apply Kd.R_drewN | apply Kd.R_drew)); exact HO251.out) hb); have n2_ := Aside0.mk (Kd.R_below (by (with_reducible repeat (first | apply Kd.R_alloc | apply Kd.R_drewN | apply Kd.R_drew)); exact HO254.out) hb); have n3_ := Aside0.mk (below_step (by repeat (first | (with_reducible first | exact HB.out | apply below_alloc | apply pw_below_drewN | apply below_drew1) | exact HB.out)) hb); clear HO248; clear HO251; clear HO254; clear HB; have HO248 := n0_; have HO251 := n1_; have HO254 := n2_; have HB := n3_; clear n0_ n1_ n2_ n3_; (try clear hb); (try clear hb2); (try clear hk); (try clear hi)) | (go_at_call 15; (with_reducible refine (scc_Fold.calls k _ _ y246 t257 _ ?side1 ?side2 A6.out).mono ?_); (case side1 => repeat (first | exact (Kd.N_reads' HO248.out).2.2 | (with_reducible refine Kd.C_alloc ?_ _) | (with_reducible refine Kd.C_drewN ?_ _) | (with_reducible refine Kd.C_drew ?_))); (case side2 => exact (Kd.N_reads' HO248.out).2.1); rintro e w65 ⟨v258, rfl, ho0, hb⟩; have n0_ := Aside0.mk (Kd.N_elder' (by (with_reducible repeat (first | apply Kd.N_alloc | apply Kd.N_drewN | apply Kd.N_drew)); exact HO248.out) (Kd.N_base (Kd.S_N ho0)) hb); have n1_ := Aside0.mk (Kd.R_below (by (with_reducible repeat (first | apply Kd.R_alloc | apply Kd.R_drewN | apply Kd.R_drew)); exact HO251.out) hb); have n2_ := Aside0.mk (Kd.R_below (by (with_reducible repeat (first | apply Kd.R_alloc | apply Kd.R_drewN | apply Kd.R_drew)); exact HO254.out) hb); have n3_ := Aside0.mk (Kd.N_lower (Kd.N_mono (ok' := fun k_ => some k_ ≠ (.slice Ao58 y246.length co58 : Value).ownBlock ∧ some k_ ≠ (.slice Ao62 t249.length co62 : Value).ownBlock ∧ some k_ ≠ (.slice Ao63 y252.length co63 : Value).ownBlock) (Kd.S_N (Kd.S_bound ho0)) (fun k_ hk_ => ⟨(Kd.fresh' (Kd.N_lt (by (with_reducible repeat (first | apply Kd.N_alloc | apply Kd.N_drewN | apply Kd.N_drew)); exact HO248.out)) k_ hk_.2.1), (Kd.fresh' (Kd.R_lt (by (with_reducible repeat (first | apply Kd.R_alloc | apply Kd.R_drewN | apply Kd.R_drew)); exact HO251.out)) k_ hk_.2.1), (Kd.fresh' (Kd.R_lt (by (with_reducible repeat (first | apply Kd.R_alloc | apply Kd.R_drewN | apply Kd.R_drew)); exact HO254.out)) k_ hk_.2.1)⟩)) (below_size (by repeat (first | (with_reducible first | exact HB.out | apply below_alloc | apply pw_below_drewN | apply below_drew1) | exact HB.out)))); have n4_ := Aside0.mk (below_step (by repeat (first | (with_reducible first | exact HB.out | apply below_alloc | apply pw_below_drewN | apply below_drew1) | exact HB.out)) hb); clear HO248; clear HO251; clear HO254; clear HB; have HO248 := n0_; have HO251 := n1_; have HO254 := n2_; have HO259 := n3_; have HB := n4_; clear n0_ n1_ n2_ n3_ n4_; (try clear hb); (try clear hb2); (try clear hk); (try clear hi); (try clear ho0)) | ((with_reducible refine gate_dst (N := 18) rfl ?_); (try (refine gate_guard (by rfl) ?_; dsimp only)); refine Kd.R_lit (Kd.int .i64) _ 3 ?hg (N := 18) ?hd (xs := ([] : List Int)) (inner := []) (ok := fun _ => True) (okp := fun _ => True) ?hr ?hp (fun _ hk => hk) trivial (Below.refl _ _) (Nat.le_refl _) (by simp) ?_; (case hd => rfl); (case hg => rfl); (case hr => first | (go_simp; done) | (go_simp; rfl)); (case hp => exact (Reps.none _ _)); intro v261 w66 ho67 hb hg_ hnew_; clear hg_ hnew_; (first | rw [← Ny260.out] at ho67 | (simp only [Int.reduceToNat] at ho67; rw [← Ny260.out] at ho67)); have n0_ := Aside0.mk (Kd.N_elder' (by (with_reducible repeat (first | apply Kd.N_alloc | apply Kd.N_drewN | apply Kd.N_drew)); exact HO248.out) (Kd.R_base ho67) hb); have n1_ := Aside0.mk (Kd.R_elder' (by (with_reducible repeat (first | apply Kd.R_alloc | apply Kd.R_drewN | apply Kd.R_drew)); exact HO251.out) (Kd.R_base ho67) hb); have n2_ := Aside0.mk (Kd.R_elder' (by (with_reducible repeat (first | apply Kd.R_alloc | apply Kd.R_drewN | apply Kd.R_drew)); exact HO254.out) (Kd.R_base ho67) hb); have n3_ := Aside0.mk (Kd.N_elder' (by (with_reducible repeat (first | apply Kd.N_alloc | apply Kd.N_drewN | apply Kd.N_drew)); exact HO259.out) (Kd.R_base ho67) hb); have n4_ := Aside0.mk (Kd.R_lower (Kd.R_new' (Kd.R_new' ho67 (Kd.R_lt (by (with_reducible repeat (first | apply Kd.R_alloc | apply Kd.R_drewN | apply Kd.R_drew)); exact HO251.out))) (Kd.R_lt (by (with_reducible repeat (first | apply Kd.R_alloc | apply Kd.R_drewN | apply Kd.R_drew)); exact HO254.out))) (below_size (by repeat (first | (with_reducible first | exact HB.out | apply below_alloc | apply pw_below_drewN | apply below_drew1) | exact HB.out)))); have n5_ := Aside0.mk (below_step (by repeat (first | (with_reducible first | exact HB.out | apply below_alloc | apply pw_below_drewN | apply below_drew1) | exact HB.out)) hb); clear HO248; clear HO251; clear HO254; clear HO259; clear HB; have HO248 := n0_; have HO251 := n1_; have HO254 := n2_; have HO259 := n3_; have HO262 := n4_; have HB := n5_; clear n0_ n1_ n2_ n3_ n4_ n5_; clear hb ho67) | ((with_reducible refine gate_dst (N := 19) rfl ?_); (try (refine gate_guard (by rfl) ?_; dsimp only)); refine Kd.R_lit (Kd.int .i64) _ 3 ?hg (N := 19) ?hd (xs := ([0] : List Int)) (inner := [.int .i64 0]) (ok := fun _ => True) (okp := fun _ => True) ?hr ?hp (fun _ hk => hk) trivial (Below.refl _ _) (Nat.le_refl _) (by simp) ?_; (case hd => rfl); (case hg => rfl); (case hr => first | (go_simp; done) | (go_simp; rfl)); (case hp => exact (Reps.one (show Kd.M (Kd.int .i64) _ _ _ 0 [.int .i64 0] from rfl) (Reps.none _ _))); intro v264 w68 ho69 hb hg_ hnew_; clear hg_ hnew_; (first | rw [← Ny263.out] at ho69 | (simp only [Int.reduceToNat] at ho69; rw [← Ny263.out] at ho69)); have n0_ := Aside0.mk (Kd.N_elder' (by (with_reducible repeat (first | apply Kd.N_alloc | apply Kd.N_drewN | apply Kd.N_drew)); exact HO248.out) (Kd.R_base ho69) hb); have n1_ := Aside0.mk (Kd.R_elder' (by (with_reducible repeat (first | apply Kd.R_alloc | apply Kd.R_drewN | apply Kd.R_drew)); exact HO251.out) (Kd.R_base ho69) hb); have n2_ := Aside0.mk (Kd.R_elder' (by (with_reducible repeat (first | apply Kd.R_alloc | apply Kd.R_drewN | apply Kd.R_drew)); exact HO254.out) (Kd.R_base ho69) hb); have n3_ := Aside0.mk (Kd.N_elder' (by (with_reducible repeat (first | apply Kd.N_alloc | apply Kd.N_drewN | apply Kd.N_drew)); exact HO259.out) (Kd.R_base ho69) hb); have n4_ := Aside0.mk (Kd.R_elder' (by (with_reducible repeat (first | apply Kd.R_alloc | apply Kd.R_drewN | apply Kd.R_drew)); exact HO262.out) (Kd.R_base ho69) hb); have n5_ := Aside0.mk (Kd.R_lower (Kd.R_new' (Kd.R_new' (Kd.R_new' ho69 (Kd.R_lt (by (with_reducible repeat (first | apply Kd.R_alloc | apply Kd.R_drewN | apply Kd.R_drew)); exact HO251.out))) (Kd.R_lt (by (with_reducible repeat (first | apply Kd.R_alloc | apply Kd.R_drewN | apply Kd.R_drew)); exact HO254.out))) (Kd.R_lt (by (with_reducible repeat (first | apply Kd.R_alloc | apply Kd.R_drewN | apply Kd.R_drew)); exact HO262.out))) (below_size (by repeat (first | (with_reducible first | exact HB.out | apply below_alloc | apply pw_below_drewN | apply below_drew1) | exact HB.out)))); have n6_ := Aside0.mk (below_step (by repeat (first | (with_reducible first | exact HB.out | apply below_alloc | apply pw_below_drewN | apply below_drew1) | exact HB.out)) hb); clear HO248; clear HO251; clear HO254; clear HO259; clear HO262; clear HB; have HO248 := n0_; have HO251 := n1_; have HO254 := n2_; have HO259 := n3_; have HO262 := n4_; have HO265 := n5_; have HB := n6_; clear n0_ n1_ n2_ n3_ n4_ n5_ n6_; clear hb ho69; obtain ⟨Ao70, co70, eo70⟩ := Kd.R_slice HO262.out; subst eo70; obtain ⟨Ao71, co71, eo71⟩ := Kd.R_slice HO265.out; subst eo71) | ((with_reducible refine gate_dst (N := 20) rfl ?_); (try (refine gate_guard (by rfl) ?_; dsimp only)); refine Kd.N_lit (Kd.slice 3 (Kd.int .i64)) _ 26 ?hg (N' := 20) ?hd (xs := ([y260, y263] : List (List Int))) (inner := [.slice Ao70 y260.length co70, .slice Ao71 y263.length co71]) (ok := (fun k_ => some k_ ≠ (.slice Ao58 y246.length co58 : Value).ownBlock ∧ some k_ ≠ (.slice Ao62 t249.length co62 : Value).ownBlock ∧ some k_ ≠ (.slice Ao63 y252.length co63 : Value).ownBlock ∧ some k_ ≠ (v258 : Value).ownBlock)) (okp := (fun k_ => some k_ ≠ (.slice Ao58 y246.length co58 : Value).ownBlock ∧ some k_ ≠ (.slice Ao62 t249.length co62 : Value).ownBlock ∧ some k_ ≠ (.slice Ao63 y252.length co63 : Value).ownBlock ∧ some k_ ≠ (v258 : Value).ownBlock)) ?hr ?hp (fun _ hk => hk) ((show ∀ k_, w68.heap.size ≤ k_ → (fun k_ => some k_ ≠ (.slice Ao58 y246.length co58 : Value).ownBlock ∧ some k_ ≠ (.slice Ao62 t249.length co62 : Value).ownBlock ∧ some k_ ≠ (.slice Ao63 y252.length co63 : Value).ownBlock ∧ some k_ ≠ (v258 : Value).ownBlock) k_ from fun k_ hk => ⟨Kd.fresh' (Kd.N_lt (by (with_reducible repeat (first | apply Kd.N_alloc | apply Kd.N_drewN | apply Kd.N_drew)); exact HO248.out)) k_ hk, Kd.fresh' (Kd.R_lt (by (with_reducible repeat (first | apply Kd.R_alloc | apply Kd.R_drewN | apply Kd.R_drew)); exact HO251.out)) k_ hk, Kd.fresh' (Kd.R_lt (by (with_reducible repeat (first | apply Kd.R_alloc | apply Kd.R_drewN | apply Kd.R_drew)); exact HO254.out)) k_ hk, Kd.fresh' (Kd.N_lt (by (with_reducible repeat (first | apply Kd.N_alloc | apply Kd.N_drewN | apply Kd.N_drew)); exact HO259.out)) k_ hk⟩) _ (Nat.le_refl _)) (Below.refl _ _) (Nat.le_refl _) (by simp) ?_; (case hd => rfl); (case hg => rfl); (case hr => first | (go_simp; done) | (go_simp; rfl)); (case hp => exact (Reps.one (show Kd.FK (Kd.slice 3 (Kd.int .i64)) _ _ y260 [.slice Ao70 y260.length co70] from (Kd.FK_slice_mk (Kd.R_reads' (Kd.R_mono (ok' := (fun k_ => some k_ ≠ (.slice Ao58 y246.length co58 : Value).ownBlock ∧ some k_ ≠ (.slice Ao62 t249.length co62 : Value).ownBlock ∧ some k_ ≠ (.slice Ao63 y252.length co63 : Value).ownBlock ∧ some k_ ≠ (v258 : Value).ownBlock)) (Kd.R_apart' (Kd.R_apart' (HO262.out) (Kd.N_typed HO248.out) (by decide)) (Kd.N_typed HO259.out) (by decide)) (fun k_ hk => ⟨hk.1.2, ⟨hk.1.1.1.1.2, ⟨hk.1.1.1.2, hk.2⟩⟩⟩))).2.1 (Kd.R_F (Kd.R_mono (ok' := (fun k_ => some k_ ≠ (.slice Ao58 y246.length co58 : Value).ownBlock ∧ some k_ ≠ (.slice Ao62 t249.length co62 : Value).ownBlock ∧ some k_ ≠ (.slice Ao63 y252.length co63 : Value).ownBlock ∧ some k_ ≠ (v258 : Value).ownBlock)) (Kd.R_apart' (Kd.R_apart' (HO262.out) (Kd.N_typed HO248.out) (by decide)) (Kd.N_typed HO259.out) (by decide)) (fun k_ hk => ⟨hk.1.2, ⟨hk.1.1.1.1.2, ⟨hk.1.1.1.2, hk.2⟩⟩⟩))))) (Reps.one (show Kd.FK (Kd.slice 3 (Kd.int .i64)) _ _ y263 [.slice Ao71 y263.length co71] from (Kd.FK_slice_mk (Kd.R_reads' (Kd.R_mono (ok' := (fun k_ => some k_ ≠ (.slice Ao58 y246.length co58 : Value).ownBlock ∧ some k_ ≠ (.slice Ao62 t249.length co62 : Value).ownBlock ∧ some k_ ≠ (.slice Ao63 y252.length co63 : Value).ownBlock ∧ some k_ ≠ (v258 : Value).ownBlock)) (Kd.R_apart' (Kd.R_apart' (HO265.out) (Kd.N_typed HO248.out) (by decide)) (Kd.N_typed HO259.out) (by decide)) (fun k_ hk => ⟨hk.1.2, ⟨hk.1.1.1.1.2, ⟨hk.1.1.1.2, hk.2⟩⟩⟩))).2.1 (Kd.R_F (Kd.R_mono (ok' := (fun k_ => some k_ ≠ (.slice Ao58 y246.length co58 : Value).ownBlock ∧ some k_ ≠ (.slice Ao62 t249.length co62 : Value).ownBlock ∧ some k_ ≠ (.slice Ao63 y252.length co63 : Value).ownBlock ∧ some k_ ≠ (v258 : Value).ownBlock)) (Kd.R_apart' (Kd.R_apart' (HO265.out) (Kd.N_typed HO248.out) (by decide)) (Kd.N_typed HO259.out) (by decide)) (fun k_ hk => ⟨hk.1.2, ⟨hk.1.1.1.1.2, ⟨hk.1.1.1.2, hk.2⟩⟩⟩))))) (Reps.none _ _)))); intro v267 w72 ho73 hb hg_ hnew_; clear hg_ hnew_; (first | rw [← Ny266.out] at ho73 | (simp only [Int.reduceToNat] at ho73; rw [← Ny266.out] at ho73)); have n0_ := Aside0.mk (Kd.N_elder' (by (with_reducible repeat (first | apply Kd.N_alloc | apply Kd.N_drewN | apply Kd.N_drew)); exact HO248.out) (Kd.N_base ho73) hb); have n1_ := Aside0.mk (Kd.R_below (by (with_reducible repeat (first | apply Kd.R_alloc | apply Kd.R_drewN | apply Kd.R_drew)); exact HO251.out) hb); have n2_ := Aside0.mk (Kd.R_below (by (with_reducible repeat (first | apply Kd.R_alloc | apply Kd.R_drewN | apply Kd.R_drew)); exact HO254.out) hb); have n3_ := Aside0.mk (Kd.N_elder' (by (with_reducible repeat (first | apply Kd.N_alloc | apply Kd.N_drewN | apply Kd.N_drew)); exact HO259.out) (Kd.N_base ho73) hb); have n4_ := Aside0.mk (Kd.N_lower ho73 (below_size (by repeat (first | (with_reducible first | exact HB.out | apply below_alloc | apply pw_below_drewN | apply below_drew1) | exact HB.out)))); have n5_ := Aside0.mk (below_step (by repeat (first | (with_reducible first | exact HB.out | apply below_alloc | apply pw_below_drewN | apply below_drew1) | exact HB.out)) hb); clear HO248; clear HO251; clear HO254; clear HO259; clear HB; clear HO262; clear HO265; have HO248 := n0_; have HO251 := n1_; have HO254 := n2_; have HO259 := n3_; have HO268 := n4_; have HB := n5_; clear n0_ n1_ n2_ n3_ n4_ n5_; clear hb ho73; obtain ⟨Ao74, co74, eo74⟩ := Kd.N_slice HO259.out; subst eo74; obtain ⟨Ao75, co75, eo75⟩ := Kd.N_slice HO268.out; subst eo75) | (go_at_call 14; (with_reducible refine (r12_Same.calls k _ _ t257 _ _ y266 false _ ?side1 ?side2 ?side3 ?side4 A7.out).mono ?_); (case side1 => repeat (first | exact (Kd.N_reads' HO259.out).2.2 | (with_reducible refine Kd.C_alloc ?_ _) | (with_reducible refine Kd.C_drewN ?_ _) | (with_reducible refine Kd.C_drew ?_))); (case side2 => exact (Kd.N_reads' HO259.out).2.1); (case side3 => repeat (first | exact (Kd.N_reads' HO268.out).2.2 | (with_reducible refine Kd.C_alloc ?_ _) | (with_reducible refine Kd.C_drewN ?_ _) | (with_reducible refine Kd.C_drew ?_))); (case side4 => exact (Kd.N_reads' HO268.out).2.1); rintro e w' ⟨rfl, ⟨nd, rfl⟩⟩))
    go_ret
    exact ⟨by first | rfl | (simp [errW_none, errW_some] <;> rfl) | (simp [*, errW_none, errW_some] <;> rfl), by repeat (first | (with_reducible first | exact HB.out | apply below_alloc | apply pw_below_drewN | apply below_drew1) | exact HB.out)⟩
  ·rw [if_neg c5] at H
   have c5b0 : (t256 == 2) = false := beq_eq_false_iff_ne.mpr c5
   have c5b1 : (t256 != 2) = true := bne_iff_ne.mpr c5
   obtain rfl := Option.some.inj H
   go_enter Try.func8, Try.ntmps8
   go_wp2_with (first | ((with_reducible refine gate_dst (N := 2) rfl ?_); (try (refine gate_guard (by rfl) ?_; dsimp only)); refine Kd.R_lit (Kd.int .i64) _ 3 ?hg (N := 2) ?hd (xs := ([1] : List Int)) (inner := [.int .i64 1]) (ok := fun _ => True) (okp := fun _ => True) ?hr ?hp (fun _ hk => hk) trivial (Below.refl _ _) (Nat.le_refl _) (by simp) ?_; (case hd => rfl); (case hg => rfl); (case hr => first | (go_simp; done) | (go_simp; rfl)); (case hp => exact (Reps.one (show Kd.M (Kd.int .i64) _ _ _ 1 [.int .i64 1] from rfl) (Reps.none _ _))); intro v238 w76 ho77 hb hg_ hnew_; clear hg_ hnew_; (first | rw [← Ny237.out] at ho77 | (simp only [Int.reduceToNat] at ho77; rw [← Ny237.out] at ho77)); have n0_ := Aside0.mk (Kd.R_lower ho77 (below_size (by repeat (first | (with_reducible first | exact HB.out | apply below_alloc | apply pw_below_drewN | apply below_drew1) | exact HB.out)))); have n1_ := Aside0.mk (below_step (by repeat (first | (with_reducible first | exact HB.out | apply below_alloc | apply pw_below_drewN | apply below_drew1) | exact HB.out)) hb); clear HB; have HO239 := n0_; have HB := n1_; clear n0_ n1_; clear hb ho77) | ((with_reducible refine gate_dst (N := 3) rfl ?_); (try (refine gate_guard (by rfl) ?_; dsimp only)); refine Kd.R_lit (Kd.int .i64) _ 3 ?hg (N := 3) ?hd (xs := ([0, 2] : List Int)) (inner := [.int .i64 0, .int .i64 2]) (ok := fun _ => True) (okp := fun _ => True) ?hr ?hp (fun _ hk => hk) trivial (Below.refl _ _) (Nat.le_refl _) (by simp) ?_; (case hd => rfl); (case hg => rfl); (case hr => first | (go_simp; done) | (go_simp; rfl)); (case hp => exact (Reps.one (show Kd.M (Kd.int .i64) _ _ _ 0 [.int .i64 0] from rfl) (Reps.one (show Kd.M (Kd.int .i64) _ _ _ 2 [.int .i64 2] from rfl) (Reps.none _ _)))); intro v241 w78 ho79 hb hg_ hnew_; clear hg_ hnew_; (first | rw [← Ny240.out] at ho79 | (simp only [Int.reduceToNat] at ho79; rw [← Ny240.out] at ho79)); have n0_ := Aside0.mk (Kd.R_elder' (by (with_reducible repeat (first | apply Kd.R_alloc | apply Kd.R_drewN | apply Kd.R_drew)); exact HO239.out) (Kd.R_base ho79) hb); have n1_ := Aside0.mk (Kd.R_lower (Kd.R_new' ho79 (Kd.R_lt (by (with_reducible repeat (first | apply Kd.R_alloc | apply Kd.R_drewN | apply Kd.R_drew)); exact HO239.out))) (below_size (by repeat (first | (with_reducible first | exact HB.out | apply below_alloc | apply pw_below_drewN | apply below_drew1) | exact HB.out)))); have n2_ := Aside0.mk (below_step (by repeat (first | (with_reducible first | exact HB.out | apply below_alloc | apply pw_below_drewN | apply below_drew1) | exact HB.out)) hb); clear HO239; clear HB; have HO239 := n0_; have HO242 := n1_; have HB := n2_; clear n0_ n1_ n2_; clear hb ho79) | ((with_reducible refine gate_dst (N := 4) rfl ?_); (try (refine gate_guard (by rfl) ?_; dsimp only)); refine Kd.R_lit (Kd.int .i64) _ 3 ?hg (N := 4) ?hd (xs := ([] : List Int)) (inner := []) (ok := fun _ => True) (okp := fun _ => True) ?hr ?hp (fun _ hk => hk) trivial (Below.refl _ _) (Nat.le_refl _) (by simp) ?_; (case hd => rfl); (case hg => rfl); (case hr => first | (go_simp; done) | (go_simp; rfl)); (case hp => exact (Reps.none _ _)); intro v244 w80 ho81 hb hg_ hnew_; clear hg_ hnew_; (first | rw [← Ny243.out] at ho81 | (simp only [Int.reduceToNat] at ho81; rw [← Ny243.out] at ho81)); have n0_ := Aside0.mk (Kd.R_elder' (by (with_reducible repeat (first | apply Kd.R_alloc | apply Kd.R_drewN | apply Kd.R_drew)); exact HO239.out) (Kd.R_base ho81) hb); have n1_ := Aside0.mk (Kd.R_elder' (by (with_reducible repeat (first | apply Kd.R_alloc | apply Kd.R_drewN | apply Kd.R_drew)); exact HO242.out) (Kd.R_base ho81) hb); have n2_ := Aside0.mk (Kd.R_lower (Kd.R_new' (Kd.R_new' ho81 (Kd.R_lt (by (with_reducible repeat (first | apply Kd.R_alloc | apply Kd.R_drewN | apply Kd.R_drew)); exact HO239.out))) (Kd.R_lt (by (with_reducible repeat (first | apply Kd.R_alloc | apply Kd.R_drewN | apply Kd.R_drew)); exact HO242.out))) (below_size (by repeat (first | (with_reducible first | exact HB.out | apply below_alloc | apply pw_below_drewN | apply below_drew1) | exact HB.out)))); have n3_ := Aside0.mk (below_step (by repeat (first | (with_reducible first | exact HB.out | apply below_alloc | apply pw_below_drewN | apply below_drew1) | exact HB.out)) hb); clear HO239; clear HO242; clear HB; have HO239 := n0_; have HO242 := n1_; have HO245 := n2_; have HB := n3_; clear n0_ n1_ n2_ n3_; clear hb ho81; obtain ⟨Ao82, co82, eo82⟩ := Kd.R_slice HO239.out; subst eo82; obtain ⟨Ao83, co83, eo83⟩ := Kd.R_slice HO242.out; subst eo83; obtain ⟨Ao84, co84, eo84⟩ := Kd.R_slice HO245.out; subst eo84) | ((with_reducible refine gate_dst (N := 5) rfl ?_); (try (refine gate_guard (by rfl) ?_; dsimp only)); refine Kd.N_lit (Kd.slice 3 (Kd.int .i64)) _ 26 ?hg (N' := 5) ?hd (xs := ([y237, y240, y243] : List (List Int))) (inner := [.slice Ao82 y237.length co82, .slice Ao83 y240.length co83, .slice Ao84 y243.length co84]) (ok := (fun _ => True)) (okp := (fun _ => True)) ?hr ?hp (fun _ hk => hk) ((show ∀ k_, w80.heap.size ≤ k_ → (fun _ => True) k_ from fun k_ hk => trivial) _ (Nat.le_refl _)) (Below.refl _ _) (Nat.le_refl _) (by simp) ?_; (case hd => rfl); (case hg => rfl); (case hr => first | (go_simp; done) | (go_simp; rfl)); (case hp => exact (Reps.one (show Kd.FK (Kd.slice 3 (Kd.int .i64)) _ _ y237 [.slice Ao82 y237.length co82] from (Kd.FK_slice_mk (Kd.R_reads' (Kd.R_mono (ok' := (fun _ => True)) (HO239.out) (fun k_ hk => trivial))).2.1 (Kd.R_F (Kd.R_mono (ok' := (fun _ => True)) (HO239.out) (fun k_ hk => trivial))))) (Reps.one (show Kd.FK (Kd.slice 3 (Kd.int .i64)) _ _ y240 [.slice Ao83 y240.length co83] from (Kd.FK_slice_mk (Kd.R_reads' (Kd.R_mono (ok' := (fun _ => True)) (HO242.out) (fun k_ hk => trivial))).2.1 (Kd.R_F (Kd.R_mono (ok' := (fun _ => True)) (HO242.out) (fun k_ hk => trivial))))) (Reps.one (show Kd.FK (Kd.slice 3 (Kd.int .i64)) _ _ y243 [.slice Ao84 y243.length co84] from (Kd.FK_slice_mk (Kd.R_reads' (Kd.R_mono (ok' := (fun _ => True)) (HO245.out) (fun k_ hk => trivial))).2.1 (Kd.R_F (Kd.R_mono (ok' := (fun _ => True)) (HO245.out) (fun k_ hk => trivial))))) (Reps.none _ _))))); intro v247 w85 ho86 hb hg_ hnew_; clear hg_ hnew_; (first | rw [← Ny246.out] at ho86 | (simp only [Int.reduceToNat] at ho86; rw [← Ny246.out] at ho86)); have n0_ := Aside0.mk (Kd.N_lower ho86 (below_size (by repeat (first | (with_reducible first | exact HB.out | apply below_alloc | apply pw_below_drewN | apply below_drew1) | exact HB.out)))); have n1_ := Aside0.mk (below_step (by repeat (first | (with_reducible first | exact HB.out | apply below_alloc | apply pw_below_drewN | apply below_drew1) | exact HB.out)) hb); clear HB; clear HO239; clear HO242; clear HO245; have HO248 := n0_; have HB := n1_; clear n0_ n1_; clear hb ho86; obtain ⟨Ao87, co87, eo87⟩ := Kd.N_slice HO248.out; subst eo87) | ((with_reducible refine gate_callee (f := 10) rfl ?_); refine goesL_ (some 7) rfl rfl Try.func10 (by kernel_rfl) rfl #[.slice Ao87 y246.length co87] rfl (by (try simp only [List.map_toArray, List.map_cons, List.map_nil]); first | done | rfl | (simp only [List.length_drop, List.length_take]; rfl)) ?_; (with_reducible refine (scc_Of.calls k _ _ y246 t249 _ ?side1 ?side2 A1.out).mono ?_); (case side1 => repeat (first | exact (Kd.N_reads' HO248.out).2.2 | (with_reducible refine Kd.C_alloc ?_ _) | (with_reducible refine Kd.C_drewN ?_ _) | (with_reducible refine Kd.C_drew ?_))); (case side2 => exact (Kd.N_reads' HO248.out).2.1); rintro e w88 ⟨v250, rfl, ho0, hb⟩; refine ⟨_, rfl, ?_⟩; have n0_ := Aside0.mk (Kd.N_elder' (by (with_reducible repeat (first | apply Kd.N_alloc | apply Kd.N_drewN | apply Kd.N_drew)); exact HO248.out) (Kd.R_base ho0) hb); have n1_ := Aside0.mk (Kd.R_lower ho0 (below_size (by repeat (first | (with_reducible first | exact HB.out | apply below_alloc | apply pw_below_drewN | apply below_drew1) | exact HB.out)))); have n2_ := Aside0.mk (below_step (by repeat (first | (with_reducible first | exact HB.out | apply below_alloc | apply pw_below_drewN | apply below_drew1) | exact HB.out)) hb); clear HO248; clear HB; have HO248 := n0_; have HO251 := n1_; have HB := n2_; clear n0_ n1_ n2_; (try clear hb); (try clear hb2); (try clear hk); (try clear hi); (try clear ho0)) | ((with_reducible refine gate_dst (N := 8) rfl ?_); (try (refine gate_guard (by rfl) ?_; dsimp only)); refine Kd.R_lit (Kd.int .i64) _ 3 ?hg (N := 8) ?hd (xs := ([1, 1, 0] : List Int)) (inner := [.int .i64 1, .int .i64 1, .int .i64 0]) (ok := fun _ => True) (okp := fun _ => True) ?hr ?hp (fun _ hk => hk) trivial (Below.refl _ _) (Nat.le_refl _) (by simp) ?_; (case hd => rfl); (case hg => rfl); (case hr => first | (go_simp; done) | (go_simp; rfl)); (case hp => exact (Reps.one (show Kd.M (Kd.int .i64) _ _ _ 1 [.int .i64 1] from rfl) (Reps.one (show Kd.M (Kd.int .i64) _ _ _ 1 [.int .i64 1] from rfl) (Reps.one (show Kd.M (Kd.int .i64) _ _ _ 0 [.int .i64 0] from rfl) (Reps.none _ _))))); intro v253 w89 ho90 hb hg_ hnew_; clear hg_ hnew_; (first | rw [← Ny252.out] at ho90 | (simp only [Int.reduceToNat] at ho90; rw [← Ny252.out] at ho90)); have n0_ := Aside0.mk (Kd.N_elder' (by (with_reducible repeat (first | apply Kd.N_alloc | apply Kd.N_drewN | apply Kd.N_drew)); exact HO248.out) (Kd.R_base ho90) hb); have n1_ := Aside0.mk (Kd.R_elder' (by (with_reducible repeat (first | apply Kd.R_alloc | apply Kd.R_drewN | apply Kd.R_drew)); exact HO251.out) (Kd.R_base ho90) hb); have n2_ := Aside0.mk (Kd.R_lower (Kd.R_new' ho90 (Kd.R_lt (by (with_reducible repeat (first | apply Kd.R_alloc | apply Kd.R_drewN | apply Kd.R_drew)); exact HO251.out))) (below_size (by repeat (first | (with_reducible first | exact HB.out | apply below_alloc | apply pw_below_drewN | apply below_drew1) | exact HB.out)))); have n3_ := Aside0.mk (below_step (by repeat (first | (with_reducible first | exact HB.out | apply below_alloc | apply pw_below_drewN | apply below_drew1) | exact HB.out)) hb); clear HO248; clear HO251; clear HB; have HO248 := n0_; have HO251 := n1_; have HO254 := n2_; have HB := n3_; clear n0_ n1_ n2_ n3_; clear hb ho90; obtain ⟨Ao91, co91, eo91⟩ := Kd.R_slice HO251.out; subst eo91; obtain ⟨Ao92, co92, eo92⟩ := Kd.R_slice HO254.out; subst eo92) | ((with_reducible refine gate_callee (f := 9) rfl ?_); refine goesL_ (some 9) rfl rfl Try.func9 (by kernel_rfl) rfl #[.slice Ao91 t249.length co91, .slice Ao92 y252.length co92] rfl (by (try simp only [List.map_toArray, List.map_cons, List.map_nil]); first | done | rfl | (simp only [List.length_drop, List.length_take]; rfl)) ?_; (with_reducible refine (r12_Ints.calls k _ _ t249 _ _ y252 true _ ?side1 ?side2 ?side3 ?side4 A2.out).mono ?_); (case side1 => repeat (first | exact (Kd.R_reads' HO251.out).2.2 | (with_reducible refine Kd.C_alloc ?_ _) | (with_reducible refine Kd.C_drewN ?_ _) | (with_reducible refine Kd.C_drew ?_))); (case side2 => exact (Kd.R_reads' HO251.out).2.1); (case side3 => repeat (first | exact (Kd.R_reads' HO254.out).2.2 | (with_reducible refine Kd.C_alloc ?_ _) | (with_reducible refine Kd.C_drewN ?_ _) | (with_reducible refine Kd.C_drew ?_))); (case side4 => exact (Kd.R_reads' HO254.out).2.1); rintro e w' ⟨rfl, ⟨nd, rfl⟩⟩; refine ⟨_, rfl, ?_⟩) | (go_at_call 12; (with_reducible refine (scc_Many.calls k _ _ y246 t256 _ ?side1 ?side2 A4.out).mono ?_); (case side1 => repeat (first | exact (Kd.N_reads' HO248.out).2.2 | (with_reducible refine Kd.C_alloc ?_ _) | (with_reducible refine Kd.C_drewN ?_ _) | (with_reducible refine Kd.C_drew ?_))); (case side2 => exact (Kd.N_reads' HO248.out).2.1); rintro e w93 ⟨rfl, hb⟩; have n0_ := Aside0.mk (Kd.N_below (by (with_reducible repeat (first | apply Kd.N_alloc | apply Kd.N_drewN | apply Kd.N_drew)); exact HO248.out) hb); have n1_ := Aside0.mk (Kd.R_below (by (with_reducible repeat (first | apply Kd.R_alloc | apply Kd.R_drewN | apply Kd.R_drew)); exact HO251.out) hb); have n2_ := Aside0.mk (Kd.R_below (by (with_reducible repeat (first | apply Kd.R_alloc | apply Kd.R_drewN | apply Kd.R_drew)); exact HO254.out) hb); have n3_ := Aside0.mk (below_step (by repeat (first | (with_reducible first | exact HB.out | apply below_alloc | apply pw_below_drewN | apply below_drew1) | exact HB.out)) hb); clear HO248; clear HO251; clear HO254; clear HB; have HO248 := n0_; have HO251 := n1_; have HO254 := n2_; have HB := n3_; clear n0_ n1_ n2_ n3_; (try clear hb); (try clear hb2); (try clear hk); (try clear hi)))
   go_ret
   exact ⟨by first | rfl | (simp [errW_none, errW_some] <;> rfl) | (simp [*, errW_none, errW_some] <;> rfl), by repeat (first | (with_reducible first | exact HB.out | apply below_alloc | apply pw_below_drewN | apply below_drew1) | exact HB.out)⟩
 ·replace c3 := Bool.eq_false_iff.mpr c3
  subst c3
  have H1 : (some false) = some r := by rw [if_neg (show ¬ (false = true) by decide)] at H; exact H
  clear H
  have H := H1
  clear H1
  obtain rfl := Option.some.inj H
  go_enter Try.func8, Try.ntmps8
  go_wp2_with (first | ((with_reducible refine gate_dst (N := 2) rfl ?_); (try (refine gate_guard (by rfl) ?_; dsimp only)); refine Kd.R_lit (Kd.int .i64) _ 3 ?hg (N := 2) ?hd (xs := ([1] : List Int)) (inner := [.int .i64 1]) (ok := fun _ => True) (okp := fun _ => True) ?hr ?hp (fun _ hk => hk) trivial (Below.refl _ _) (Nat.le_refl _) (by simp) ?_; (case hd => rfl); (case hg => rfl); (case hr => first | (go_simp; done) | (go_simp; rfl)); (case hp => exact (Reps.one (show Kd.M (Kd.int .i64) _ _ _ 1 [.int .i64 1] from rfl) (Reps.none _ _))); intro v238 w94 ho95 hb hg_ hnew_; clear hg_ hnew_; (first | rw [← Ny237.out] at ho95 | (simp only [Int.reduceToNat] at ho95; rw [← Ny237.out] at ho95)); have n0_ := Aside0.mk (Kd.R_lower ho95 (below_size (by repeat (first | (with_reducible first | exact HB.out | apply below_alloc | apply pw_below_drewN | apply below_drew1) | exact HB.out)))); have n1_ := Aside0.mk (below_step (by repeat (first | (with_reducible first | exact HB.out | apply below_alloc | apply pw_below_drewN | apply below_drew1) | exact HB.out)) hb); clear HB; have HO239 := n0_; have HB := n1_; clear n0_ n1_; clear hb ho95) | ((with_reducible refine gate_dst (N := 3) rfl ?_); (try (refine gate_guard (by rfl) ?_; dsimp only)); refine Kd.R_lit (Kd.int .i64) _ 3 ?hg (N := 3) ?hd (xs := ([0, 2] : List Int)) (inner := [.int .i64 0, .int .i64 2]) (ok := fun _ => True) (okp := fun _ => True) ?hr ?hp (fun _ hk => hk) trivial (Below.refl _ _) (Nat.le_refl _) (by simp) ?_; (case hd => rfl); (case hg => rfl); (case hr => first | (go_simp; done) | (go_simp; rfl)); (case hp => exact (Reps.one (show Kd.M (Kd.int .i64) _ _ _ 0 [.int .i64 0] from rfl) (Reps.one (show Kd.M (Kd.int .i64) _ _ _ 2 [.int .i64 2] from rfl) (Reps.none _ _)))); intro v241 w96 ho97 hb hg_ hnew_; clear hg_ hnew_; (first | rw [← Ny240.out] at ho97 | (simp only [Int.reduceToNat] at ho97; rw [← Ny240.out] at ho97)); have n0_ := Aside0.mk (Kd.R_elder' (by (with_reducible repeat (first | apply Kd.R_alloc | apply Kd.R_drewN | apply Kd.R_drew)); exact HO239.out) (Kd.R_base ho97) hb); have n1_ := Aside0.mk (Kd.R_lower (Kd.R_new' ho97 (Kd.R_lt (by (with_reducible repeat (first | apply Kd.R_alloc | apply Kd.R_drewN | apply Kd.R_drew)); exact HO239.out))) (below_size (by repeat (first | (with_reducible first | exact HB.out | apply below_alloc | apply pw_below_drewN | apply below_drew1) | exact HB.out)))); have n2_ := Aside0.mk (below_step (by repeat (first | (with_reducible first | exact HB.out | apply below_alloc | apply pw_below_drewN | apply below_drew1) | exact HB.out)) hb); clear HO239; clear HB; have HO239 := n0_; have HO242 := n1_; have HB := n2_; clear n0_ n1_ n2_; clear hb ho97) | ((with_reducible refine gate_dst (N := 4) rfl ?_); (try (refine gate_guard (by rfl) ?_; dsimp only)); refine Kd.R_lit (Kd.int .i64) _ 3 ?hg (N := 4) ?hd (xs := ([] : List Int)) (inner := []) (ok := fun _ => True) (okp := fun _ => True) ?hr ?hp (fun _ hk => hk) trivial (Below.refl _ _) (Nat.le_refl _) (by simp) ?_; (case hd => rfl); (case hg => rfl); (case hr => first | (go_simp; done) | (go_simp; rfl)); (case hp => exact (Reps.none _ _)); intro v244 w98 ho99 hb hg_ hnew_; clear hg_ hnew_; (first | rw [← Ny243.out] at ho99 | (simp only [Int.reduceToNat] at ho99; rw [← Ny243.out] at ho99)); have n0_ := Aside0.mk (Kd.R_elder' (by (with_reducible repeat (first | apply Kd.R_alloc | apply Kd.R_drewN | apply Kd.R_drew)); exact HO239.out) (Kd.R_base ho99) hb); have n1_ := Aside0.mk (Kd.R_elder' (by (with_reducible repeat (first | apply Kd.R_alloc | apply Kd.R_drewN | apply Kd.R_drew)); exact HO242.out) (Kd.R_base ho99) hb); have n2_ := Aside0.mk (Kd.R_lower (Kd.R_new' (Kd.R_new' ho99 (Kd.R_lt (by (with_reducible repeat (first | apply Kd.R_alloc | apply Kd.R_drewN | apply Kd.R_drew)); exact HO239.out))) (Kd.R_lt (by (with_reducible repeat (first | apply Kd.R_alloc | apply Kd.R_drewN | apply Kd.R_drew)); exact HO242.out))) (below_size (by repeat (first | (with_reducible first | exact HB.out | apply below_alloc | apply pw_below_drewN | apply below_drew1) | exact HB.out)))); have n3_ := Aside0.mk (below_step (by repeat (first | (with_reducible first | exact HB.out | apply below_alloc | apply pw_below_drewN | apply below_drew1) | exact HB.out)) hb); clear HO239; clear HO242; clear HB; have HO239 := n0_; have HO242 := n1_; have HO245 := n2_; have HB := n3_; clear n0_ n1_ n2_ n3_; clear hb ho99; obtain ⟨Ao100, co100, eo100⟩ := Kd.R_slice HO239.out; subst eo100; obtain ⟨Ao101, co101, eo101⟩ := Kd.R_slice HO242.out; subst eo101; obtain ⟨Ao102, co102, eo102⟩ := Kd.R_slice HO245.out; subst eo102) | ((with_reducible refine gate_dst (N := 5) rfl ?_); (try (refine gate_guard (by rfl) ?_; dsimp only)); refine Kd.N_lit (Kd.slice 3 (Kd.int .i64)) _ 26 ?hg (N' := 5) ?hd (xs := ([y237, y240, y243] : List (List Int))) (inner := [.slice Ao100 y237.length co100, .slice Ao101 y240.length co101, .slice Ao102 y243.length co102]) (ok := (fun _ => True)) (okp := (fun _ => True)) ?hr ?hp (fun _ hk => hk) ((show ∀ k_, w98.heap.size ≤ k_ → (fun _ => True) k_ from fun k_ hk => trivial) _ (Nat.le_refl _)) (Below.refl _ _) (Nat.le_refl _) (by simp) ?_; (case hd => rfl); (case hg => rfl); (case hr => first | (go_simp; done) | (go_simp; rfl)); (case hp => exact (Reps.one (show Kd.FK (Kd.slice 3 (Kd.int .i64)) _ _ y237 [.slice Ao100 y237.length co100] from (Kd.FK_slice_mk (Kd.R_reads' (Kd.R_mono (ok' := (fun _ => True)) (HO239.out) (fun k_ hk => trivial))).2.1 (Kd.R_F (Kd.R_mono (ok' := (fun _ => True)) (HO239.out) (fun k_ hk => trivial))))) (Reps.one (show Kd.FK (Kd.slice 3 (Kd.int .i64)) _ _ y240 [.slice Ao101 y240.length co101] from (Kd.FK_slice_mk (Kd.R_reads' (Kd.R_mono (ok' := (fun _ => True)) (HO242.out) (fun k_ hk => trivial))).2.1 (Kd.R_F (Kd.R_mono (ok' := (fun _ => True)) (HO242.out) (fun k_ hk => trivial))))) (Reps.one (show Kd.FK (Kd.slice 3 (Kd.int .i64)) _ _ y243 [.slice Ao102 y243.length co102] from (Kd.FK_slice_mk (Kd.R_reads' (Kd.R_mono (ok' := (fun _ => True)) (HO245.out) (fun k_ hk => trivial))).2.1 (Kd.R_F (Kd.R_mono (ok' := (fun _ => True)) (HO245.out) (fun k_ hk => trivial))))) (Reps.none _ _))))); intro v247 w103 ho104 hb hg_ hnew_; clear hg_ hnew_; (first | rw [← Ny246.out] at ho104 | (simp only [Int.reduceToNat] at ho104; rw [← Ny246.out] at ho104)); have n0_ := Aside0.mk (Kd.N_lower ho104 (below_size (by repeat (first | (with_reducible first | exact HB.out | apply below_alloc | apply pw_below_drewN | apply below_drew1) | exact HB.out)))); have n1_ := Aside0.mk (below_step (by repeat (first | (with_reducible first | exact HB.out | apply below_alloc | apply pw_below_drewN | apply below_drew1) | exact HB.out)) hb); clear HB; clear HO239; clear HO242; clear HO245; have HO248 := n0_; have HB := n1_; clear n0_ n1_; clear hb ho104; obtain ⟨Ao105, co105, eo105⟩ := Kd.N_slice HO248.out; subst eo105) | ((with_reducible refine gate_callee (f := 10) rfl ?_); refine goesL_ (some 7) rfl rfl Try.func10 (by kernel_rfl) rfl #[.slice Ao105 y246.length co105] rfl (by (try simp only [List.map_toArray, List.map_cons, List.map_nil]); first | done | rfl | (simp only [List.length_drop, List.length_take]; rfl)) ?_; (with_reducible refine (scc_Of.calls k _ _ y246 t249 _ ?side1 ?side2 A1.out).mono ?_); (case side1 => repeat (first | exact (Kd.N_reads' HO248.out).2.2 | (with_reducible refine Kd.C_alloc ?_ _) | (with_reducible refine Kd.C_drewN ?_ _) | (with_reducible refine Kd.C_drew ?_))); (case side2 => exact (Kd.N_reads' HO248.out).2.1); rintro e w106 ⟨v250, rfl, ho0, hb⟩; refine ⟨_, rfl, ?_⟩; have n0_ := Aside0.mk (Kd.N_elder' (by (with_reducible repeat (first | apply Kd.N_alloc | apply Kd.N_drewN | apply Kd.N_drew)); exact HO248.out) (Kd.R_base ho0) hb); have n1_ := Aside0.mk (Kd.R_lower ho0 (below_size (by repeat (first | (with_reducible first | exact HB.out | apply below_alloc | apply pw_below_drewN | apply below_drew1) | exact HB.out)))); have n2_ := Aside0.mk (below_step (by repeat (first | (with_reducible first | exact HB.out | apply below_alloc | apply pw_below_drewN | apply below_drew1) | exact HB.out)) hb); clear HO248; clear HB; have HO248 := n0_; have HO251 := n1_; have HB := n2_; clear n0_ n1_ n2_; (try clear hb); (try clear hb2); (try clear hk); (try clear hi); (try clear ho0)) | ((with_reducible refine gate_dst (N := 8) rfl ?_); (try (refine gate_guard (by rfl) ?_; dsimp only)); refine Kd.R_lit (Kd.int .i64) _ 3 ?hg (N := 8) ?hd (xs := ([1, 1, 0] : List Int)) (inner := [.int .i64 1, .int .i64 1, .int .i64 0]) (ok := fun _ => True) (okp := fun _ => True) ?hr ?hp (fun _ hk => hk) trivial (Below.refl _ _) (Nat.le_refl _) (by simp) ?_; (case hd => rfl); (case hg => rfl); (case hr => first | (go_simp; done) | (go_simp; rfl)); (case hp => exact (Reps.one (show Kd.M (Kd.int .i64) _ _ _ 1 [.int .i64 1] from rfl) (Reps.one (show Kd.M (Kd.int .i64) _ _ _ 1 [.int .i64 1] from rfl) (Reps.one (show Kd.M (Kd.int .i64) _ _ _ 0 [.int .i64 0] from rfl) (Reps.none _ _))))); intro v253 w107 ho108 hb hg_ hnew_; clear hg_ hnew_; (first | rw [← Ny252.out] at ho108 | (simp only [Int.reduceToNat] at ho108; rw [← Ny252.out] at ho108)); have n0_ := Aside0.mk (Kd.N_elder' (by (with_reducible repeat (first | apply Kd.N_alloc | apply Kd.N_drewN | apply Kd.N_drew)); exact HO248.out) (Kd.R_base ho108) hb); have n1_ := Aside0.mk (Kd.R_elder' (by (with_reducible repeat (first | apply Kd.R_alloc | apply Kd.R_drewN | apply Kd.R_drew)); exact HO251.out) (Kd.R_base ho108) hb); have n2_ := Aside0.mk (Kd.R_lower (Kd.R_new' ho108 (Kd.R_lt (by (with_reducible repeat (first | apply Kd.R_alloc | apply Kd.R_drewN | apply Kd.R_drew)); exact HO251.out))) (below_size (by repeat (first | (with_reducible first | exact HB.out | apply below_alloc | apply pw_below_drewN | apply below_drew1) | exact HB.out)))); have n3_ := Aside0.mk (below_step (by repeat (first | (with_reducible first | exact HB.out | apply below_alloc | apply pw_below_drewN | apply below_drew1) | exact HB.out)) hb); clear HO248; clear HO251; clear HB; have HO248 := n0_; have HO251 := n1_; have HO254 := n2_; have HB := n3_; clear n0_ n1_ n2_ n3_; clear hb ho108; obtain ⟨Ao109, co109, eo109⟩ := Kd.R_slice HO251.out; subst eo109; obtain ⟨Ao110, co110, eo110⟩ := Kd.R_slice HO254.out; subst eo110) | ((with_reducible refine gate_callee (f := 9) rfl ?_); refine goesL_ (some 9) rfl rfl Try.func9 (by kernel_rfl) rfl #[.slice Ao109 t249.length co109, .slice Ao110 y252.length co110] rfl (by (try simp only [List.map_toArray, List.map_cons, List.map_nil]); first | done | rfl | (simp only [List.length_drop, List.length_take]; rfl)) ?_; (with_reducible refine (r12_Ints.calls k _ _ t249 _ _ y252 false _ ?side1 ?side2 ?side3 ?side4 A2.out).mono ?_); (case side1 => repeat (first | exact (Kd.R_reads' HO251.out).2.2 | (with_reducible refine Kd.C_alloc ?_ _) | (with_reducible refine Kd.C_drewN ?_ _) | (with_reducible refine Kd.C_drew ?_))); (case side2 => exact (Kd.R_reads' HO251.out).2.1); (case side3 => repeat (first | exact (Kd.R_reads' HO254.out).2.2 | (with_reducible refine Kd.C_alloc ?_ _) | (with_reducible refine Kd.C_drewN ?_ _) | (with_reducible refine Kd.C_drew ?_))); (case side4 => exact (Kd.R_reads' HO254.out).2.1); rintro e w' ⟨rfl, ⟨nd, rfl⟩⟩; refine ⟨_, rfl, ?_⟩))
  go_ret
  exact ⟨by first | rfl | (simp [errW_none, errW_some] <;> rfl) | (simp [*, errW_none, errW_some] <;> rfl), by repeat (first | (with_reducible first | exact HB.out | apply below_alloc | apply pw_below_drewN | apply below_drew1) | exact HB.out)⟩
end Go.Proofs.Ytejhejpkfjhmkaa.Pr

-- Written by wip/xprint.py (the kit's print, run over this seat with some contracts of my own). Not trusted: Lean checks it.
namespace Go.Proofs.Ytejhejpkfjhmkaa.Pr
open Go.RowKit Go.Proofs.YtejhejpkfjhmkaaW.PrintWords Go.Proofs.YtejhejpkfjhmkaaW.PrintLast Go.Proofs.YtejhejpkfjhmkaaW.PrintMore
attribute [local go_sem] max2_int min2_int max_two min_two max_three min_three max_four min_four   -- for this text's walks alone
set_option linter.unusedVariables false
set_option linter.unusedSimpArgs false
mutual
noncomputable def w13_SccFolded.j0 : Nat → List (List Int) → Bool → Option (Bool)
  | 0, _, _ => none
  | k + 1, x0, x21 => if x21 = true then ((w13_fixed.f k).bind fun t327 => (some t327)) else ((scc_Fold.f k x0).bind fun t328 => ((scc_Many.f k x0).bind fun t331 => (if (t328.length : Int) = t331 then ((scc_Many.f k t328).bind fun t332 => (w13_SccFolded.j1 k x0 t328 (t332 != (t328.length : Int)))) else (w13_SccFolded.j1 k x0 t328 true))))
noncomputable def w13_SccFolded.j1 : Nat → List (List Int) → List (List Int) → Bool → Option (Bool)
  | 0, _, _, _ => none
  | k + 1, x0, x3, x36 => if x36 = true then (some false) else (w13_SccFolded.l0 k x0 x3 0)
noncomputable def w13_SccFolded.l0 : Nat → List (List Int) → List (List Int) → Int → Option (Bool)
  | 0, _, _, _ => none
  | k + 1, x0, x3, x4 => if x4 < (x3.length : Int) then (w13_SccFolded.l1 k x0 x3 x4 0) else ((scc_Of.f k x0).bind fun t336 => ((r12_Turn.f k x0).bind fun t339 => ((scc_Of.f k t339).bind fun t342 => (if (t336.length : Int) = (x0.length : Int) then (w13_SccFolded.j4 k x0 t336 t342 ((t342.length : Int) != (x0.length : Int))) else (w13_SccFolded.j4 k x0 t336 t342 true)))))
noncomputable def w13_SccFolded.l1 : Nat → List (List Int) → List (List Int) → Int → Int → Option (Bool)
  | 0, _, _, _, _ => none
  | k + 1, x0, x3, x4, x5 => if 0 ≤ x4 then (if x4 < (x3.length : Int) then (if x5 < ((rd_L1 x3 x4).length : Int) then (if 0 ≤ x5 then (if (rd (rd_L1 x3 x4) x5) ≥ x4 then (some false) else (w13_SccFolded.l1 k x0 x3 x4 (wrap64 (x5 + 1)))) else (none)) else (w13_SccFolded.l0 k x0 x3 (wrap64 (x4 + 1)))) else (none)) else (none)
noncomputable def w13_SccFolded.j4 : Nat → List (List Int) → List Int → List Int → Bool → Option (Bool)
  | 0, _, _, _, _ => none
  | k + 1, x0, x6, x7, x77 => if x77 = true then (some false) else (w13_SccFolded.l2 k x0 x6 x7 0)
noncomputable def w13_SccFolded.l2 : Nat → List (List Int) → List Int → List Int → Int → Option (Bool)
  | 0, _, _, _, _ => none
  | k + 1, x0, x6, x7, x8 => if x8 < (x0.length : Int) then (w13_SccFolded.l3 k x0 x6 x7 x8 0) else (some true)
noncomputable def w13_SccFolded.l3 : Nat → List (List Int) → List Int → List Int → Int → Int → Option (Bool)
  | 0, _, _, _, _, _ => none
  | k + 1, x0, x6, x7, x8, x9 => if x9 < x8 then (if 0 ≤ x8 then (if x8 < (x6.length : Int) then (if 0 ≤ x9 then (if x9 < (x6.length : Int) then (if x8 < (x7.length : Int) then (if x9 < (x7.length : Int) then (if (((rd x6 x8) == (rd x6 x9)) != ((rd x7 x8) == (rd x7 x9))) = true then (some false) else (w13_SccFolded.l3 k x0 x6 x7 x8 (wrap64 (x9 + 1)))) else (none)) else (none)) else (none)) else (none)) else (none)) else (none)) else (w13_SccFolded.l2 k x0 x6 x7 (wrap64 (x8 + 1)))
end
noncomputable def w13_SccFolded.f (k : Nat) (l0 : List (List Int)) : Option (Bool) := (w13_fixed.f k).bind fun t324 => (if t324 = true then ((w13_small.f k l0).bind fun t325 => (if t325 = true then ((r12_May.f k l0).bind fun t326 => (w13_SccFolded.j0 k l0 (!t326))) else (w13_SccFolded.j0 k l0 true))) else (w13_SccFolded.j0 k l0 true))
set_option maxHeartbeats 8000000 in
set_option maxRecDepth 100000 in
theorem w13_SccFolded.calls (k : Nat) (A0 : Option Addr) (c0 : Nat) (l0 : List (List Int)) (r : Bool) (w : World) (hr0 : Kd.C (Kd.slice 3 (Kd.int .i64)) w A0 l0.length l0) (hc0 : l0.length ≤ c0) (h : w13_SccFolded.f k l0 = some r) :
    Calls Try.prog 5 #[.slice A0 l0.length c0] w fun e w' => e = .returned (.bool r) ∧ Below w.heap.size w w' := by
 have HR0 := Aside0.mk hr0
 have HC0 := Aside0.mk hc0
 clear hr0 hc0
 have HB := Aside0.mk (Below.refl w.heap.size w)
 have H : ((w13_fixed.f k).bind fun t324 => (if t324 = true then ((w13_small.f k l0).bind fun t325 => (if t325 = true then ((r12_May.f k l0).bind fun t326 => (w13_SccFolded.j0 k l0 (!t326))) else (w13_SccFolded.j0 k l0 true))) else (w13_SccFolded.j0 k l0 true))) = some r := h
 clear h
 have HC2 := Aside0.mk H
 clear H
 go_enter Try.func5, Try.ntmps5
 go_upto_region 1 with (fail)
 repeat (go_quiet (fail); go_upto_region 1 with (fail))
 go_cut [21] (fun v21 wc => ∃ (kq : Nat) (x21_1 : Bool), v21 = .bool x21_1 ∧ Aside0 (w13_SccFolded.j0 kq l0 x21_1 = some r) ∧ Aside0 (kq ≤ k) ∧ Aside0 (Below w.heap.size w wc))
 case first =>
  have H := HC2.out
  clear HC2
  replace H := Option.bind_eq_some_iff.mp H
  obtain ⟨t324, A30, H⟩ := H
  replace H : (if t324 = true then ((w13_small.f k l0).bind fun t325 => (if t325 = true then ((r12_May.f k l0).bind fun t326 => (w13_SccFolded.j0 k l0 (!t326))) else (w13_SccFolded.j0 k l0 true))) else (w13_SccFolded.j0 k l0 true)) = some r := H
  have A3 := Aside0.mk A30
  clear A30
  by_cases c4 : t324 = true
  ·subst c4
   have H1 : ((w13_small.f k l0).bind fun t325 => (if t325 = true then ((r12_May.f k l0).bind fun t326 => (w13_SccFolded.j0 k l0 (!t326))) else (w13_SccFolded.j0 k l0 true))) = some r := by rw [if_pos rfl] at H; exact H
   clear H
   have H := H1
   clear H1
   replace H := Option.bind_eq_some_iff.mp H
   obtain ⟨t325, A50, H⟩ := H
   replace H : (if t325 = true then ((r12_May.f k l0).bind fun t326 => (w13_SccFolded.j0 k l0 (!t326))) else (w13_SccFolded.j0 k l0 true)) = some r := H
   have A5 := Aside0.mk A50
   clear A50
   by_cases c6 : t325 = true
   ·subst c6
    have H1 : ((r12_May.f k l0).bind fun t326 => (w13_SccFolded.j0 k l0 (!t326))) = some r := by rw [if_pos rfl] at H; exact H
    clear H
    have H := H1
    clear H1
    replace H := Option.bind_eq_some_iff.mp H
    obtain ⟨t326, A70, H⟩ := H
    replace H : (w13_SccFolded.j0 k l0 (!t326)) = some r := H
    have A7 := Aside0.mk A70
    clear A70
    have H' := Aside0.mk H
    clear H
    go_wp2_with (first | (go_at_call 8; (with_reducible refine (w13_fixed.calls k  true _ A3.out).mono ?_); rintro e w8 ⟨rfl, hb⟩; have n0_ := Aside0.mk (below_step (by repeat (first | (with_reducible first | exact HB.out | apply below_alloc | apply pw_below_drewN | apply below_drew1) | exact HB.out)) hb); clear HB; have HB := n0_; clear n0_; (try clear hb); (try clear hb2); (try clear hk); (try clear hi)) | (go_at_call 7; (with_reducible refine (w13_small.calls k _ _ l0 true _ ?side1 ?side2 A5.out).mono ?_); (case side1 => repeat (first | exact (Kd.C_below HR0.out HB.out) | (with_reducible refine Kd.C_alloc ?_ _) | (with_reducible refine Kd.C_drewN ?_ _) | (with_reducible refine Kd.C_drew ?_))); (case side2 => exact HC0.out); rintro e w' ⟨rfl, ⟨nd, rfl⟩⟩; (try first | exact ⟨rfl, _, World.drewN_drewN _ _ _⟩ | exact ⟨rfl, _, Eq.trans (World.drewN_drewN _ _ _) (congrArg (World.drewN _) (Nat.add_assoc _ _ _))⟩)) | (go_at_call 17; (with_reducible refine (r12_May.calls k _ _ l0 t326 _ ?side1 ?side2 A7.out).mono ?_); (case side1 => repeat (first | exact (Kd.C_below HR0.out (by repeat (first | (with_reducible first | exact HB.out | apply below_alloc | apply pw_below_drewN | apply below_drew1) | exact HB.out))) | (with_reducible refine Kd.C_alloc ?_ _) | (with_reducible refine Kd.C_drewN ?_ _) | (with_reducible refine Kd.C_drew ?_))); (case side2 => exact HC0.out); rintro e w' ⟨rfl, ⟨nd, rfl⟩⟩; (try first | exact ⟨rfl, _, World.drewN_drewN _ _ _⟩ | exact ⟨rfl, _, Eq.trans (World.drewN_drewN _ _ _) (congrArg (World.drewN _) (Nat.add_assoc _ _ _))⟩)))
    repeat (go_quiet (first | (go_at_call 8; (with_reducible refine (w13_fixed.calls k  true _ A3.out).mono ?_); rintro e w8 ⟨rfl, hb⟩; have n0_ := Aside0.mk (below_step (by repeat (first | (with_reducible first | exact HB.out | apply below_alloc | apply pw_below_drewN | apply below_drew1) | exact HB.out)) hb); clear HB; have HB := n0_; clear n0_; (try clear hb); (try clear hb2); (try clear hk); (try clear hi)) | (go_at_call 7; (with_reducible refine (w13_small.calls k _ _ l0 true _ ?side1 ?side2 A5.out).mono ?_); (case side1 => repeat (first | exact (Kd.C_below HR0.out HB.out) | (with_reducible refine Kd.C_alloc ?_ _) | (with_reducible refine Kd.C_drewN ?_ _) | (with_reducible refine Kd.C_drew ?_))); (case side2 => exact HC0.out); rintro e w' ⟨rfl, ⟨nd, rfl⟩⟩; (try first | exact ⟨rfl, _, World.drewN_drewN _ _ _⟩ | exact ⟨rfl, _, Eq.trans (World.drewN_drewN _ _ _) (congrArg (World.drewN _) (Nat.add_assoc _ _ _))⟩)) | (go_at_call 17; (with_reducible refine (r12_May.calls k _ _ l0 t326 _ ?side1 ?side2 A7.out).mono ?_); (case side1 => repeat (first | exact (Kd.C_below HR0.out (by repeat (first | (with_reducible first | exact HB.out | apply below_alloc | apply pw_below_drewN | apply below_drew1) | exact HB.out))) | (with_reducible refine Kd.C_alloc ?_ _) | (with_reducible refine Kd.C_drewN ?_ _) | (with_reducible refine Kd.C_drew ?_))); (case side2 => exact HC0.out); rintro e w' ⟨rfl, ⟨nd, rfl⟩⟩; (try first | exact ⟨rfl, _, World.drewN_drewN _ _ _⟩ | exact ⟨rfl, _, Eq.trans (World.drewN_drewN _ _ _) (congrArg (World.drewN _) (Nat.add_assoc _ _ _))⟩))); try go_wp2_with (first | (go_at_call 8; (with_reducible refine (w13_fixed.calls k  true _ A3.out).mono ?_); rintro e w8 ⟨rfl, hb⟩; have n0_ := Aside0.mk (below_step (by repeat (first | (with_reducible first | exact HB.out | apply below_alloc | apply pw_below_drewN | apply below_drew1) | exact HB.out)) hb); clear HB; have HB := n0_; clear n0_; (try clear hb); (try clear hb2); (try clear hk); (try clear hi)) | (go_at_call 7; (with_reducible refine (w13_small.calls k _ _ l0 true _ ?side1 ?side2 A5.out).mono ?_); (case side1 => repeat (first | exact (Kd.C_below HR0.out HB.out) | (with_reducible refine Kd.C_alloc ?_ _) | (with_reducible refine Kd.C_drewN ?_ _) | (with_reducible refine Kd.C_drew ?_))); (case side2 => exact HC0.out); rintro e w' ⟨rfl, ⟨nd, rfl⟩⟩; (try first | exact ⟨rfl, _, World.drewN_drewN _ _ _⟩ | exact ⟨rfl, _, Eq.trans (World.drewN_drewN _ _ _) (congrArg (World.drewN _) (Nat.add_assoc _ _ _))⟩)) | (go_at_call 17; (with_reducible refine (r12_May.calls k _ _ l0 t326 _ ?side1 ?side2 A7.out).mono ?_); (case side1 => repeat (first | exact (Kd.C_below HR0.out (by repeat (first | (with_reducible first | exact HB.out | apply below_alloc | apply pw_below_drewN | apply below_drew1) | exact HB.out))) | (with_reducible refine Kd.C_alloc ?_ _) | (with_reducible refine Kd.C_drewN ?_ _) | (with_reducible refine Kd.C_drew ?_))); (case side2 => exact HC0.out); rintro e w' ⟨rfl, ⟨nd, rfl⟩⟩; (try first | exact ⟨rfl, _, World.drewN_drewN _ _ _⟩ | exact ⟨rfl, _, Eq.trans (World.drewN_drewN _ _ _) (congrArg (World.drewN _) (Nat.add_assoc _ _ _))⟩))))
    go_meet
    case rel => exact ⟨_, (!t326), (by first | rfl | (simp; done) | (simp [*]; done)), H', ⟨by first | omega | exact Nat.le_refl _⟩, ⟨by repeat (first | (with_reducible first | exact HB.out | apply below_alloc | apply pw_below_drewN | apply below_drew1) | exact HB.out)⟩⟩
   ·replace c6 := Bool.eq_false_iff.mpr c6
    subst c6
    have H1 : (w13_SccFolded.j0 k l0 true) = some r := by rw [if_neg (show ¬ (false = true) by decide)] at H; exact H
    clear H
    have H := H1
    clear H1
    have H' := Aside0.mk H
    clear H
    go_wp2_with (first | (go_at_call 8; (with_reducible refine (w13_fixed.calls k  true _ A3.out).mono ?_); rintro e w9 ⟨rfl, hb⟩; have n0_ := Aside0.mk (below_step (by repeat (first | (with_reducible first | exact HB.out | apply below_alloc | apply pw_below_drewN | apply below_drew1) | exact HB.out)) hb); clear HB; have HB := n0_; clear n0_; (try clear hb); (try clear hb2); (try clear hk); (try clear hi)) | (go_at_call 7; (with_reducible refine (w13_small.calls k _ _ l0 false _ ?side1 ?side2 A5.out).mono ?_); (case side1 => repeat (first | exact (Kd.C_below HR0.out HB.out) | (with_reducible refine Kd.C_alloc ?_ _) | (with_reducible refine Kd.C_drewN ?_ _) | (with_reducible refine Kd.C_drew ?_))); (case side2 => exact HC0.out); rintro e w' ⟨rfl, ⟨nd, rfl⟩⟩; (try first | exact ⟨rfl, _, World.drewN_drewN _ _ _⟩ | exact ⟨rfl, _, Eq.trans (World.drewN_drewN _ _ _) (congrArg (World.drewN _) (Nat.add_assoc _ _ _))⟩)))
    repeat (go_quiet (first | (go_at_call 8; (with_reducible refine (w13_fixed.calls k  true _ A3.out).mono ?_); rintro e w9 ⟨rfl, hb⟩; have n0_ := Aside0.mk (below_step (by repeat (first | (with_reducible first | exact HB.out | apply below_alloc | apply pw_below_drewN | apply below_drew1) | exact HB.out)) hb); clear HB; have HB := n0_; clear n0_; (try clear hb); (try clear hb2); (try clear hk); (try clear hi)) | (go_at_call 7; (with_reducible refine (w13_small.calls k _ _ l0 false _ ?side1 ?side2 A5.out).mono ?_); (case side1 => repeat (first | exact (Kd.C_below HR0.out HB.out) | (with_reducible refine Kd.C_alloc ?_ _) | (with_reducible refine Kd.C_drewN ?_ _) | (with_reducible refine Kd.C_drew ?_))); (case side2 => exact HC0.out); rintro e w' ⟨rfl, ⟨nd, rfl⟩⟩; (try first | exact ⟨rfl, _, World.drewN_drewN _ _ _⟩ | exact ⟨rfl, _, Eq.trans (World.drewN_drewN _ _ _) (congrArg (World.drewN _) (Nat.add_assoc _ _ _))⟩))); try go_wp2_with (first | (go_at_call 8; (with_reducible refine (w13_fixed.calls k  true _ A3.out).mono ?_); rintro e w9 ⟨rfl, hb⟩; have n0_ := Aside0.mk (below_step (by repeat (first | (with_reducible first | exact HB.out | apply below_alloc | apply pw_below_drewN | apply below_drew1) | exact HB.out)) hb); clear HB; have HB := n0_; clear n0_; (try clear hb); (try clear hb2); (try clear hk); (try clear hi)) | (go_at_call 7; (with_reducible refine (w13_small.calls k _ _ l0 false _ ?side1 ?side2 A5.out).mono ?_); (case side1 => repeat (first | exact (Kd.C_below HR0.out HB.out) | (with_reducible refine Kd.C_alloc ?_ _) | (with_reducible refine Kd.C_drewN ?_ _) | (with_reducible refine Kd.C_drew ?_))); (case side2 => exact HC0.out); rintro e w' ⟨rfl, ⟨nd, rfl⟩⟩; (try first | exact ⟨rfl, _, World.drewN_drewN _ _ _⟩ | exact ⟨rfl, _, Eq.trans (World.drewN_drewN _ _ _) (congrArg (World.drewN _) (Nat.add_assoc _ _ _))⟩))))
    go_meet
    case rel => exact ⟨_, (true), (by first | rfl | (simp; done) | (simp [*]; done)), H', ⟨by first | omega | exact Nat.le_refl _⟩, ⟨by repeat (first | (with_reducible first | exact HB.out | apply below_alloc | apply pw_below_drewN | apply below_drew1) | exact HB.out)⟩⟩
  ·replace c4 := Bool.eq_false_iff.mpr c4
   subst c4
   have H1 : (w13_SccFolded.j0 k l0 true) = some r := by rw [if_neg (show ¬ (false = true) by decide)] at H; exact H
   clear H
   have H := H1
   clear H1
   have H' := Aside0.mk H
   clear H
   go_wp2_with (first | (go_at_call 8; (with_reducible refine (w13_fixed.calls k  false _ A3.out).mono ?_); rintro e w10 ⟨rfl, hb⟩; have n0_ := Aside0.mk (below_step (by repeat (first | (with_reducible first | exact HB.out | apply below_alloc | apply pw_below_drewN | apply below_drew1) | exact HB.out)) hb); clear HB; have HB := n0_; clear n0_; (try clear hb); (try clear hb2); (try clear hk); (try clear hi)))
   repeat (go_quiet (first | (go_at_call 8; (with_reducible refine (w13_fixed.calls k  false _ A3.out).mono ?_); rintro e w10 ⟨rfl, hb⟩; have n0_ := Aside0.mk (below_step (by repeat (first | (with_reducible first | exact HB.out | apply below_alloc | apply pw_below_drewN | apply below_drew1) | exact HB.out)) hb); clear HB; have HB := n0_; clear n0_; (try clear hb); (try clear hb2); (try clear hk); (try clear hi))); try go_wp2_with (first | (go_at_call 8; (with_reducible refine (w13_fixed.calls k  false _ A3.out).mono ?_); rintro e w10 ⟨rfl, hb⟩; have n0_ := Aside0.mk (below_step (by repeat (first | (with_reducible first | exact HB.out | apply below_alloc | apply pw_below_drewN | apply below_drew1) | exact HB.out)) hb); clear HB; have HB := n0_; clear n0_; (try clear hb); (try clear hb2); (try clear hk); (try clear hi))))
   go_meet
   case rel => exact ⟨_, (true), (by first | rfl | (simp; done) | (simp [*]; done)), H', ⟨by first | omega | exact Nat.le_refl _⟩, ⟨by repeat (first | (with_reducible first | exact HB.out | apply below_alloc | apply pw_below_drewN | apply below_drew1) | exact HB.out)⟩⟩
 case rest =>
  clear HC2
  try clear p2
  try clear c4
  try clear c5
  try clear c6
  obtain ⟨kq, x21_1, rfl, HA, HJ1, HB⟩ := hcut
  cases kq with
  | zero => exact absurd HA.out (by simp [w13_SccFolded.j0])
  | succ kj1 =>
   have H := HA.out
   clear HA
   simp only [w13_SccFolded.j0] at H
   by_cases c11 : x21_1 = true
   ·subst c11
    have H1 : ((w13_fixed.f kj1).bind fun t327 => (some t327)) = some r := by rw [if_pos rfl] at H; exact H
    clear H
    have H := H1
    clear H1
    replace H := Option.bind_eq_some_iff.mp H
    obtain ⟨t327, A120, H⟩ := H
    replace H : (some t327) = some r := H
    have A12 := Aside0.mk A120
    clear A120
    obtain rfl := Option.some.inj H
    go_wp2_with (first | (go_at_call 8; (with_reducible refine (w13_fixed.calls kj1  t327 _ A12.out).mono ?_); rintro e w13 ⟨rfl, hb⟩; have n0_ := Aside0.mk (below_step (by repeat (first | (with_reducible first | exact HB.out | apply below_alloc | apply pw_below_drewN | apply below_drew1) | exact HB.out)) hb); clear HB; have HB := n0_; clear n0_; (try clear hb); (try clear hb2); (try clear hk); (try clear hi)))
    repeat (go_quiet (first | (go_at_call 8; (with_reducible refine (w13_fixed.calls kj1  t327 _ A12.out).mono ?_); rintro e w13 ⟨rfl, hb⟩; have n0_ := Aside0.mk (below_step (by repeat (first | (with_reducible first | exact HB.out | apply below_alloc | apply pw_below_drewN | apply below_drew1) | exact HB.out)) hb); clear HB; have HB := n0_; clear n0_; (try clear hb); (try clear hb2); (try clear hk); (try clear hi))); try go_wp2_with (first | (go_at_call 8; (with_reducible refine (w13_fixed.calls kj1  t327 _ A12.out).mono ?_); rintro e w13 ⟨rfl, hb⟩; have n0_ := Aside0.mk (below_step (by repeat (first | (with_reducible first | exact HB.out | apply below_alloc | apply pw_below_drewN | apply below_drew1) | exact HB.out)) hb); clear HB; have HB := n0_; clear n0_; (try clear hb); (try clear hb2); (try clear hk); (try clear hi))))
    go_ret
    exact ⟨by first | rfl | (simp [errW_none, errW_some] <;> rfl) | (simp [*, errW_none, errW_some] <;> rfl), by repeat (first | (with_reducible first | exact HB.out | apply below_alloc | apply pw_below_drewN | apply below_drew1) | exact HB.out)⟩
   ·replace c11 := Bool.eq_false_iff.mpr c11
    subst c11
    have H1 : ((scc_Fold.f kj1 l0).bind fun t328 => ((scc_Many.f kj1 l0).bind fun t331 => (if (t328.length : Int) = t331 then ((scc_Many.f kj1 t328).bind fun t332 => (w13_SccFolded.j1 kj1 l0 t328 (t332 != (t328.length : Int)))) else (w13_SccFolded.j1 kj1 l0 t328 true)))) = some r := by rw [if_neg (show ¬ (false = true) by decide)] at H; exact H
    clear H
    have H := H1
    clear H1
    replace H := Option.bind_eq_some_iff.mp H
    obtain ⟨t328, A140, H⟩ := H
    replace H : ((scc_Many.f kj1 l0).bind fun t331 => (if (t328.length : Int) = t331 then ((scc_Many.f kj1 t328).bind fun t332 => (w13_SccFolded.j1 kj1 l0 t328 (t332 != (t328.length : Int)))) else (w13_SccFolded.j1 kj1 l0 t328 true))) = some r := H
    have A14 := Aside0.mk A140
    clear A140
    have HC15 := Aside0.mk H
    clear H
    go_upto_region 4 with (first | (go_at_call 15; (with_reducible refine (scc_Fold.calls kj1 _ _ l0 t328 _ ?side1 ?side2 A14.out).mono ?_); (case side1 => repeat (first | exact (Kd.C_below HR0.out HB.out) | (with_reducible refine Kd.C_alloc ?_ _) | (with_reducible refine Kd.C_drewN ?_ _) | (with_reducible refine Kd.C_drew ?_))); (case side2 => exact HC0.out); rintro e w16 ⟨v329, rfl, ho0, hb⟩; have n0_ := Aside0.mk (Kd.S_lower ho0 (below_size (by repeat (first | (with_reducible first | exact HB.out | apply below_alloc | apply pw_below_drewN | apply below_drew1) | exact HB.out)))); have n1_ := Aside0.mk (below_step (by repeat (first | (with_reducible first | exact HB.out | apply below_alloc | apply pw_below_drewN | apply below_drew1) | exact HB.out)) hb); clear HB; have HO330 := n0_; have HB := n1_; clear n0_ n1_; (try clear hb); (try clear hb2); (try clear hk); (try clear hi); (try clear ho0)))
    repeat (go_quiet (first | (go_at_call 15; (with_reducible refine (scc_Fold.calls kj1 _ _ l0 t328 _ ?side1 ?side2 A14.out).mono ?_); (case side1 => repeat (first | exact (Kd.C_below HR0.out HB.out) | (with_reducible refine Kd.C_alloc ?_ _) | (with_reducible refine Kd.C_drewN ?_ _) | (with_reducible refine Kd.C_drew ?_))); (case side2 => exact HC0.out); rintro e w16 ⟨v329, rfl, ho0, hb⟩; have n0_ := Aside0.mk (Kd.S_lower ho0 (below_size (by repeat (first | (with_reducible first | exact HB.out | apply below_alloc | apply pw_below_drewN | apply below_drew1) | exact HB.out)))); have n1_ := Aside0.mk (below_step (by repeat (first | (with_reducible first | exact HB.out | apply below_alloc | apply pw_below_drewN | apply below_drew1) | exact HB.out)) hb); clear HB; have HO330 := n0_; have HB := n1_; clear n0_ n1_; (try clear hb); (try clear hb2); (try clear hk); (try clear hi); (try clear ho0))); go_upto_region 4 with (first | (go_at_call 15; (with_reducible refine (scc_Fold.calls kj1 _ _ l0 t328 _ ?side1 ?side2 A14.out).mono ?_); (case side1 => repeat (first | exact (Kd.C_below HR0.out HB.out) | (with_reducible refine Kd.C_alloc ?_ _) | (with_reducible refine Kd.C_drewN ?_ _) | (with_reducible refine Kd.C_drew ?_))); (case side2 => exact HC0.out); rintro e w16 ⟨v329, rfl, ho0, hb⟩; have n0_ := Aside0.mk (Kd.S_lower ho0 (below_size (by repeat (first | (with_reducible first | exact HB.out | apply below_alloc | apply pw_below_drewN | apply below_drew1) | exact HB.out)))); have n1_ := Aside0.mk (below_step (by repeat (first | (with_reducible first | exact HB.out | apply below_alloc | apply pw_below_drewN | apply below_drew1) | exact HB.out)) hb); clear HB; have HO330 := n0_; have HB := n1_; clear n0_ n1_; (try clear hb); (try clear hb2); (try clear hk); (try clear hi); (try clear ho0))))
    (try simp only [Act.put, List.setIfInBounds_toArray, List.set_cons_zero, List.set_cons_succ])
    go_cut [36] (fun v36 wc => ∃ (kq : Nat) (x36_14 : Bool), v36 = .bool x36_14 ∧ Aside0 (w13_SccFolded.j1 kq l0 t328 x36_14 = some r) ∧ Aside0 (kq ≤ kj1) ∧ Aside0 (Kd.S (Kd.slice 3 (Kd.int .i64)) 26 wc w.heap.size (fun _ => True) v329 t328) ∧ Aside0 (Below w.heap.size w wc))
    case first =>
     have H := HC15.out
     clear HC15
     replace H := Option.bind_eq_some_iff.mp H
     obtain ⟨t331, A170, H⟩ := H
     replace H : (if (t328.length : Int) = t331 then ((scc_Many.f kj1 t328).bind fun t332 => (w13_SccFolded.j1 kj1 l0 t328 (t332 != (t328.length : Int)))) else (w13_SccFolded.j1 kj1 l0 t328 true)) = some r := H
     have A17 := Aside0.mk A170
     clear A170
     by_cases c18 : (t328.length : Int) = t331
     ·rw [if_pos c18] at H
      have c18b0 : ((t328.length : Int) == t331) = true := beq_iff_eq.mpr c18
      have c18b1 : ((t328.length : Int) != t331) = false := bne_eq_false_iff_eq.mpr c18
      clear c18
      (first | rw [c18b0] | (simp only [i64_w, i32_w]; rw [c18b0]) | skip)
      replace H := Option.bind_eq_some_iff.mp H
      obtain ⟨t332, A190, H⟩ := H
      replace H : (w13_SccFolded.j1 kj1 l0 t328 (t332 != (t328.length : Int))) = some r := H
      have A19 := Aside0.mk A190
      clear A190
      have H' := Aside0.mk H
      clear H
      obtain ⟨Ao20, co20, eo20⟩ := Kd.S_slice HO330.out
      subst eo20
      go_wp2_with (first | (go_at_call 12; (with_reducible refine (scc_Many.calls kj1 _ _ l0 t331 _ ?side1 ?side2 A17.out).mono ?_); (case side1 => repeat (first | exact (Kd.C_below HR0.out HB.out) | (with_reducible refine Kd.C_alloc ?_ _) | (with_reducible refine Kd.C_drewN ?_ _) | (with_reducible refine Kd.C_drew ?_))); (case side2 => exact HC0.out); rintro e w21 ⟨rfl, hb⟩; have n0_ := Aside0.mk (Kd.S_below (by (with_reducible repeat (first | apply Kd.S_alloc | apply Kd.S_drewN | apply Kd.S_drew)); exact HO330.out) hb); have n1_ := Aside0.mk (below_step (by repeat (first | (with_reducible first | exact HB.out | apply below_alloc | apply pw_below_drewN | apply below_drew1) | exact HB.out)) hb); clear HO330; clear HB; have HO330 := n0_; have HB := n1_; clear n0_ n1_; (try clear hb); (try clear hb2); (try clear hk); (try clear hi)) | (go_at_call 12; (with_reducible refine (scc_Many.calls kj1 _ _ t328 t332 _ ?side1 ?side2 A19.out).mono ?_); (case side1 => repeat (first | exact (Kd.S_reads' HO330.out).2.2 | (with_reducible refine Kd.C_alloc ?_ _) | (with_reducible refine Kd.C_drewN ?_ _) | (with_reducible refine Kd.C_drew ?_))); (case side2 => exact (Kd.S_reads' HO330.out).2.1); rintro e w22 ⟨rfl, hb⟩; have n0_ := Aside0.mk (Kd.S_below (by (with_reducible repeat (first | apply Kd.S_alloc | apply Kd.S_drewN | apply Kd.S_drew)); exact HO330.out) hb); have n1_ := Aside0.mk (below_step (by repeat (first | (with_reducible first | exact HB.out | apply below_alloc | apply pw_below_drewN | apply below_drew1) | exact HB.out)) hb); clear HO330; clear HB; have HO330 := n0_; have HB := n1_; clear n0_ n1_; (try clear hb); (try clear hb2); (try clear hk); (try clear hi)))
      repeat (go_quiet (first | (go_at_call 12; (with_reducible refine (scc_Many.calls kj1 _ _ l0 t331 _ ?side1 ?side2 A17.out).mono ?_); (case side1 => repeat (first | exact (Kd.C_below HR0.out HB.out) | (with_reducible refine Kd.C_alloc ?_ _) | (with_reducible refine Kd.C_drewN ?_ _) | (with_reducible refine Kd.C_drew ?_))); (case side2 => exact HC0.out); rintro e w21 ⟨rfl, hb⟩; have n0_ := Aside0.mk (Kd.S_below (by (with_reducible repeat (first | apply Kd.S_alloc | apply Kd.S_drewN | apply Kd.S_drew)); exact HO330.out) hb); have n1_ := Aside0.mk (below_step (by repeat (first | (with_reducible first | exact HB.out | apply below_alloc | apply pw_below_drewN | apply below_drew1) | exact HB.out)) hb); clear HO330; clear HB; have HO330 := n0_; have HB := n1_; clear n0_ n1_; (try clear hb); (try clear hb2); (try clear hk); (try clear hi)) | (go_at_call 12; (with_reducible refine (scc_Many.calls kj1 _ _ t328 t332 _ ?side1 ?side2 A19.out).mono ?_); (case side1 => repeat (first | exact (Kd.S_reads' HO330.out).2.2 | (with_reducible refine Kd.C_alloc ?_ _) | (with_reducible refine Kd.C_drewN ?_ _) | (with_reducible refine Kd.C_drew ?_))); (case side2 => exact (Kd.S_reads' HO330.out).2.1); rintro e w22 ⟨rfl, hb⟩; have n0_ := Aside0.mk (Kd.S_below (by (with_reducible repeat (first | apply Kd.S_alloc | apply Kd.S_drewN | apply Kd.S_drew)); exact HO330.out) hb); have n1_ := Aside0.mk (below_step (by repeat (first | (with_reducible first | exact HB.out | apply below_alloc | apply pw_below_drewN | apply below_drew1) | exact HB.out)) hb); clear HO330; clear HB; have HO330 := n0_; have HB := n1_; clear n0_ n1_; (try clear hb); (try clear hb2); (try clear hk); (try clear hi))); try go_wp2_with (first | (go_at_call 12; (with_reducible refine (scc_Many.calls kj1 _ _ l0 t331 _ ?side1 ?side2 A17.out).mono ?_); (case side1 => repeat (first | exact (Kd.C_below HR0.out HB.out) | (with_reducible refine Kd.C_alloc ?_ _) | (with_reducible refine Kd.C_drewN ?_ _) | (with_reducible refine Kd.C_drew ?_))); (case side2 => exact HC0.out); rintro e w21 ⟨rfl, hb⟩; have n0_ := Aside0.mk (Kd.S_below (by (with_reducible repeat (first | apply Kd.S_alloc | apply Kd.S_drewN | apply Kd.S_drew)); exact HO330.out) hb); have n1_ := Aside0.mk (below_step (by repeat (first | (with_reducible first | exact HB.out | apply below_alloc | apply pw_below_drewN | apply below_drew1) | exact HB.out)) hb); clear HO330; clear HB; have HO330 := n0_; have HB := n1_; clear n0_ n1_; (try clear hb); (try clear hb2); (try clear hk); (try clear hi)) | (go_at_call 12; (with_reducible refine (scc_Many.calls kj1 _ _ t328 t332 _ ?side1 ?side2 A19.out).mono ?_); (case side1 => repeat (first | exact (Kd.S_reads' HO330.out).2.2 | (with_reducible refine Kd.C_alloc ?_ _) | (with_reducible refine Kd.C_drewN ?_ _) | (with_reducible refine Kd.C_drew ?_))); (case side2 => exact (Kd.S_reads' HO330.out).2.1); rintro e w22 ⟨rfl, hb⟩; have n0_ := Aside0.mk (Kd.S_below (by (with_reducible repeat (first | apply Kd.S_alloc | apply Kd.S_drewN | apply Kd.S_drew)); exact HO330.out) hb); have n1_ := Aside0.mk (below_step (by repeat (first | (with_reducible first | exact HB.out | apply below_alloc | apply pw_below_drewN | apply below_drew1) | exact HB.out)) hb); clear HO330; clear HB; have HO330 := n0_; have HB := n1_; clear n0_ n1_; (try clear hb); (try clear hb2); (try clear hk); (try clear hi))))
      go_meet
      case rel => exact ⟨_, ((t332 != (t328.length : Int))), (by first | rfl | (simp; done) | (simp [*]; done)), H', ⟨by have := HJ1.out; first | omega | exact Nat.le_refl _⟩, ⟨by (with_reducible repeat (first | apply Kd.S_alloc | apply Kd.S_drewN | apply Kd.S_drew)); exact HO330.out⟩, ⟨by repeat (first | (with_reducible first | exact HB.out | apply below_alloc | apply pw_below_drewN | apply below_drew1) | exact HB.out)⟩⟩
     ·rw [if_neg c18] at H
      have c18b0 : ((t328.length : Int) == t331) = false := beq_eq_false_iff_ne.mpr c18
      have c18b1 : ((t328.length : Int) != t331) = true := bne_iff_ne.mpr c18
      (first | rw [c18b0] | (simp only [i64_w, i32_w]; rw [c18b0]) | skip)
      have H' := Aside0.mk H
      clear H
      obtain ⟨Ao23, co23, eo23⟩ := Kd.S_slice HO330.out
      subst eo23
      go_wp2_with (first | (go_at_call 12; (with_reducible refine (scc_Many.calls kj1 _ _ l0 t331 _ ?side1 ?side2 A17.out).mono ?_); (case side1 => repeat (first | exact (Kd.C_below HR0.out HB.out) | (with_reducible refine Kd.C_alloc ?_ _) | (with_reducible refine Kd.C_drewN ?_ _) | (with_reducible refine Kd.C_drew ?_))); (case side2 => exact HC0.out); rintro e w24 ⟨rfl, hb⟩; have n0_ := Aside0.mk (Kd.S_below (by (with_reducible repeat (first | apply Kd.S_alloc | apply Kd.S_drewN | apply Kd.S_drew)); exact HO330.out) hb); have n1_ := Aside0.mk (below_step (by repeat (first | (with_reducible first | exact HB.out | apply below_alloc | apply pw_below_drewN | apply below_drew1) | exact HB.out)) hb); clear HO330; clear HB; have HO330 := n0_; have HB := n1_; clear n0_ n1_; (try clear hb); (try clear hb2); (try clear hk); (try clear hi)))
      repeat (go_quiet (first | (go_at_call 12; (with_reducible refine (scc_Many.calls kj1 _ _ l0 t331 _ ?side1 ?side2 A17.out).mono ?_); (case side1 => repeat (first | exact (Kd.C_below HR0.out HB.out) | (with_reducible refine Kd.C_alloc ?_ _) | (with_reducible refine Kd.C_drewN ?_ _) | (with_reducible refine Kd.C_drew ?_))); (case side2 => exact HC0.out); rintro e w24 ⟨rfl, hb⟩; have n0_ := Aside0.mk (Kd.S_below (by (with_reducible repeat (first | apply Kd.S_alloc | apply Kd.S_drewN | apply Kd.S_drew)); exact HO330.out) hb); have n1_ := Aside0.mk (below_step (by repeat (first | (with_reducible first | exact HB.out | apply below_alloc | apply pw_below_drewN | apply below_drew1) | exact HB.out)) hb); clear HO330; clear HB; have HO330 := n0_; have HB := n1_; clear n0_ n1_; (try clear hb); (try clear hb2); (try clear hk); (try clear hi))); try go_wp2_with (first | (go_at_call 12; (with_reducible refine (scc_Many.calls kj1 _ _ l0 t331 _ ?side1 ?side2 A17.out).mono ?_); (case side1 => repeat (first | exact (Kd.C_below HR0.out HB.out) | (with_reducible refine Kd.C_alloc ?_ _) | (with_reducible refine Kd.C_drewN ?_ _) | (with_reducible refine Kd.C_drew ?_))); (case side2 => exact HC0.out); rintro e w24 ⟨rfl, hb⟩; have n0_ := Aside0.mk (Kd.S_below (by (with_reducible repeat (first | apply Kd.S_alloc | apply Kd.S_drewN | apply Kd.S_drew)); exact HO330.out) hb); have n1_ := Aside0.mk (below_step (by repeat (first | (with_reducible first | exact HB.out | apply below_alloc | apply pw_below_drewN | apply below_drew1) | exact HB.out)) hb); clear HO330; clear HB; have HO330 := n0_; have HB := n1_; clear n0_ n1_; (try clear hb); (try clear hb2); (try clear hk); (try clear hi))))
      go_meet
      case rel => exact ⟨_, (true), (by first | rfl | (simp; done) | (simp [*]; done)), H', ⟨by have := HJ1.out; first | omega | exact Nat.le_refl _⟩, ⟨by (with_reducible repeat (first | apply Kd.S_alloc | apply Kd.S_drewN | apply Kd.S_drew)); exact HO330.out⟩, ⟨by repeat (first | (with_reducible first | exact HB.out | apply below_alloc | apply pw_below_drewN | apply below_drew1) | exact HB.out)⟩⟩
    case rest =>
     clear HC15
     try clear c1
     try clear p2
     try clear c4
     try clear c5
     try clear c6
     try clear c11
     try clear c18
     try clear c18b0
     try clear c18b1
     try clear p2
     obtain ⟨kq, x36_14, rfl, HA, HJ14, HO_3, HB⟩ := hcut
     cases kq with
     | zero => exact absurd HA.out (by simp [w13_SccFolded.j1])
     | succ kj14 =>
      have H := HA.out
      clear HA
      simp only [w13_SccFolded.j1] at H
      by_cases c25 : x36_14 = true
      ·subst c25
       have H1 : (some false) = some r := by rw [if_pos rfl] at H; exact H
       clear H
       have H := H1
       clear H1
       obtain rfl := Option.some.inj H
       go_wp2
       repeat (go_quiet (fail); try go_wp2)
       go_ret
       exact ⟨by first | rfl | (simp [errW_none, errW_some] <;> rfl) | (simp [*, errW_none, errW_some] <;> rfl), by repeat (first | (with_reducible first | exact HB.out | apply below_alloc | apply pw_below_drewN | apply below_drew1) | exact HB.out)⟩
      ·replace c25 := Bool.eq_false_iff.mpr c25
       subst c25
       have H1 : (w13_SccFolded.l0 kj14 l0 t328 0) = some r := by rw [if_neg (show ¬ (false = true) by decide)] at H; exact H
       clear H
       have H := H1
       clear H1
       have H' := Aside0.mk H
       clear H
       go_wp2
       repeat (go_quiet (fail); try go_wp2)
       go_loopg [4] kj14 (fun kq v4 w' => ∃ (x4_3 : Int), v4 = .int .i64 x4_3 ∧ Aside0 (w13_SccFolded.l0 kq l0 t328 x4_3 = some r) ∧ Aside0 (kq ≤ kj14) ∧ Aside0 (Kd.S (Kd.slice 3 (Kd.int .i64)) 26 w' w.heap.size (fun _ => True) v329 t328) ∧ Aside0 (Below w.heap.size w w'))
       case atStart => exact ⟨(0), (by first | rfl | (simp; done) | (simp [*]; done)), H', ⟨Nat.le_refl _⟩, ⟨by (with_reducible repeat (first | apply Kd.S_alloc | apply Kd.S_drewN | apply Kd.S_drew)); exact HO_3.out⟩, ⟨by repeat (first | (with_reducible first | exact HB.out | apply below_alloc | apply pw_below_drewN | apply below_drew1) | exact HB.out)⟩⟩
       case round =>
        clear H'
        try clear c1
        try clear c2
        try clear p2
        try clear c4
        try clear c5
        try clear c6
        try clear c11
        try clear c18
        try clear c18b0
        try clear c18b1
        try clear c25
        try clear p2
        obtain ⟨x4_3, rfl, HA, HK3, HO_3, HB⟩ := hrel
        cases gk with
        | zero => exact absurd HA.out (by simp [w13_SccFolded.l0])
        | succ k3 =>
         have H := HA.out
         clear HA
         simp only [w13_SccFolded.l0] at H
         by_cases c26 : x4_3 < (t328.length : Int)
         ·rw [if_pos c26] at H
          have c26b0 : decide (x4_3 < (t328.length : Int)) = true := decide_eq_true c26
          clear c26
          have H' := Aside0.mk H
          clear H
          obtain ⟨Ao27, co27, eo27⟩ := Kd.S_slice HO_3.out
          subst eo27
          go_wp2
          repeat (go_quiet (fail); try go_wp2)
          go_loopg [5] k3 (fun kq v5 w' => ∃ (x5_4 : Int), v5 = .int .i64 x5_4 ∧ Aside0 (w13_SccFolded.l1 kq l0 t328 x4_3 x5_4 = some r) ∧ Aside0 (kq ≤ k3) ∧ Aside0 (Kd.S (Kd.slice 3 (Kd.int .i64)) 26 w' w.heap.size (fun _ => True) (.slice Ao27 t328.length co27) t328) ∧ Aside0 (Below w.heap.size w w'))
          case atStart => exact ⟨(0), (by first | rfl | (simp; done) | (simp [*]; done)), H', ⟨Nat.le_refl _⟩, ⟨by (with_reducible repeat (first | apply Kd.S_alloc | apply Kd.S_drewN | apply Kd.S_drew)); exact HO_3.out⟩, ⟨by repeat (first | (with_reducible first | exact HB.out | apply below_alloc | apply pw_below_drewN | apply below_drew1) | exact HB.out)⟩⟩
          case round =>
           clear H'
           try clear c1
           try clear c2
           try clear p2
           try clear c4
           try clear c5
           try clear c6
           try clear c11
           try clear c18
           try clear c18b0
           try clear c18b1
           try clear c25
           try clear c26
           try clear c26b0
           try clear p2
           obtain ⟨x5_4, rfl, HA, HK4, HO_3, HB⟩ := hrel
           cases gk with
           | zero => exact absurd HA.out (by simp [w13_SccFolded.l1])
           | succ k4 =>
            have H := HA.out
            clear HA
            simp only [w13_SccFolded.l1] at H
            by_cases c28 : 0 ≤ x4_3
            ·rw [if_pos c28] at H
             have c28b0 : decide (0 ≤ x4_3) = true := decide_eq_true c28
             clear c28
             by_cases c29 : x4_3 < (t328.length : Int)
             ·rw [if_pos c29] at H
              have c29b0 : decide (x4_3 < (t328.length : Int)) = true := decide_eq_true c29
              clear c29
              by_cases c30 : x5_4 < ((rd_L1 t328 x4_3).length : Int)
              ·rw [if_pos c30] at H
               have c30b0 : decide (x5_4 < ((rd_L1 t328 x4_3).length : Int)) = true := decide_eq_true c30
               clear c30
               by_cases c31 : 0 ≤ x5_4
               ·rw [if_pos c31] at H
                have c31b0 : decide (0 ≤ x5_4) = true := decide_eq_true c31
                clear c31
                by_cases c32 : (rd (rd_L1 t328 x4_3) x5_4) ≥ x4_3
                ·rw [if_pos c32] at H
                 have c32b0 : decide (x4_3 ≤ (rd (rd_L1 t328 x4_3) x5_4)) = true := decide_eq_true c32
                 clear c32
                 obtain rfl := Option.some.inj H
                 have p333 : 0 ≤ (x4_3 : Int) := of_decide_eq_true (by first | (with_reducible assumption) | assumption)
                 have q333 : x4_3 < (t328.length : Int) := of_decide_eq_true (by first | (with_reducible assumption) | assumption)
                 obtain ⟨ad333, A333_0, c333_0, e333, hx333_0, hl333_0, hi333_0⟩ := at_L1 (Kd.S_reads' HO_3.out).2.2 x4_3 p333 q333
                 cases e333
                 obtain ⟨ce333, hce333, hMe333, hcc333⟩ := Kd.S_get HO_3.out [] x4_3 p333 (by first | exact q333 | exact of_decide_eq_true (by first | (with_reducible assumption) | assumption) | (have e_ := (Kd.S_reads' HO_3.out).1; omega))
                 obtain ⟨ve333_0, rfl, ge333_0⟩ := hMe333
                 have hv333_0 := hcc333 0 _ rfl
                 rw [Nat.add_zero, show ((Kd.slice 3 (Kd.int .i64))).sz = 1 from rfl, Nat.mul_one] at hv333_0
                 replace hv333_0 := Option.some.inj (hv333_0.symm.trans hx333_0)
                 rw [hv333_0] at ge333_0
                 have HL333_0 := Aside0.mk (show Kd.R (Kd.int .i64) 3 _ _ _ _ (rd_L1 t328 x4_3) from ge333_0)
                 clear hv333_0 ge333_0
                 clear hcc333 hce333
                 have HR333_0 := Aside0.mk hi333_0
                 have HC333_0 := Aside0.mk hl333_0
                 clear hi333_0 hl333_0
                 replace p333 := eq_true p333
                 replace q333 := eq_true q333
                 have p334 : 0 ≤ (x4_3 : Int) := of_decide_eq_true (by first | (with_reducible assumption) | assumption)
                 have q334 : x4_3 < (t328.length : Int) := of_decide_eq_true (by first | (with_reducible assumption) | assumption)
                 obtain ⟨ad334, A334_0, c334_0, e334, hx334_0, hl334_0, hi334_0⟩ := at_L1 (Kd.S_reads' HO_3.out).2.2 x4_3 p334 q334
                 obtain rfl : ad333 = ad334 := (by injection e334)
                 obtain ⟨ce334, hce334, hMe334, hcc334⟩ := Kd.S_get HO_3.out [] x4_3 p334 (by first | exact q334 | exact of_decide_eq_true (by first | (with_reducible assumption) | assumption) | (have e_ := (Kd.S_reads' HO_3.out).1; omega))
                 obtain ⟨ve334_0, rfl, ge334_0⟩ := hMe334
                 have hv334_0 := hcc334 0 _ rfl
                 rw [Nat.add_zero, show ((Kd.slice 3 (Kd.int .i64))).sz = 1 from rfl, Nat.mul_one] at hv334_0
                 replace hv334_0 := Option.some.inj (hv334_0.symm.trans hx334_0)
                 rw [hv334_0] at ge334_0
                 have HL334_0 := Aside0.mk (show Kd.R (Kd.int .i64) 3 _ _ _ _ (rd_L1 t328 x4_3) from ge334_0)
                 clear hv334_0 ge334_0
                 clear hcc334 hce334
                 have HR334_0 := Aside0.mk hi334_0
                 have HC334_0 := Aside0.mk hl334_0
                 clear hi334_0 hl334_0
                 replace p334 := eq_true p334
                 replace q334 := eq_true q334
                 have ea_ := Option.some.inj (hx333_0.symm.trans hx334_0)
                 injection ea_ with ea_ en_ ec_
                 subst ea_
                 subst ec_
                 clear en_
                 have p335 : 0 ≤ (x5_4 : Int) := of_decide_eq_true (by first | (with_reducible assumption) | assumption)
                 have q335 : x5_4 < ((rd_L1 t328 x4_3).length : Int) := of_decide_eq_true (by first | (with_reducible assumption) | assumption)
                 obtain ⟨ad335, e335, hx335_0⟩ := Kd.at_int (by repeat (first | (with_reducible exact HR334_0.out) | (with_reducible refine Kd.C_alloc ?_ _) | (with_reducible refine Kd.C_drewN ?_ _) | (with_reducible refine Kd.C_drew ?_) | exact HR334_0.out)) x5_4 p335 q335
                 cases e335
                 replace p335 := eq_true p335
                 replace q335 := eq_true q335
                 go_wp2
                 repeat (go_quiet (fail); try go_wp2)
                 go_ret
                 exact ⟨by first | rfl | (simp [errW_none, errW_some] <;> rfl) | (simp [*, errW_none, errW_some] <;> rfl), by repeat (first | (with_reducible first | exact HB.out | apply below_alloc | apply pw_below_drewN | apply below_drew1) | exact HB.out)⟩
                ·rw [if_neg c32] at H
                 have c32b0 : decide (x4_3 ≤ (rd (rd_L1 t328 x4_3) x5_4)) = false := decide_eq_false c32
                 clear c32
                 have H' := Aside0.mk H
                 clear H
                 have p333 : 0 ≤ (x4_3 : Int) := of_decide_eq_true (by first | (with_reducible assumption) | assumption)
                 have q333 : x4_3 < (t328.length : Int) := of_decide_eq_true (by first | (with_reducible assumption) | assumption)
                 obtain ⟨ad333, A333_0, c333_0, e333, hx333_0, hl333_0, hi333_0⟩ := at_L1 (Kd.S_reads' HO_3.out).2.2 x4_3 p333 q333
                 cases e333
                 obtain ⟨ce333, hce333, hMe333, hcc333⟩ := Kd.S_get HO_3.out [] x4_3 p333 (by first | exact q333 | exact of_decide_eq_true (by first | (with_reducible assumption) | assumption) | (have e_ := (Kd.S_reads' HO_3.out).1; omega))
                 obtain ⟨ve333_0, rfl, ge333_0⟩ := hMe333
                 have hv333_0 := hcc333 0 _ rfl
                 rw [Nat.add_zero, show ((Kd.slice 3 (Kd.int .i64))).sz = 1 from rfl, Nat.mul_one] at hv333_0
                 replace hv333_0 := Option.some.inj (hv333_0.symm.trans hx333_0)
                 rw [hv333_0] at ge333_0
                 have HL333_0 := Aside0.mk (show Kd.R (Kd.int .i64) 3 _ _ _ _ (rd_L1 t328 x4_3) from ge333_0)
                 clear hv333_0 ge333_0
                 clear hcc333 hce333
                 have HR333_0 := Aside0.mk hi333_0
                 have HC333_0 := Aside0.mk hl333_0
                 clear hi333_0 hl333_0
                 replace p333 := eq_true p333
                 replace q333 := eq_true q333
                 have p334 : 0 ≤ (x4_3 : Int) := of_decide_eq_true (by first | (with_reducible assumption) | assumption)
                 have q334 : x4_3 < (t328.length : Int) := of_decide_eq_true (by first | (with_reducible assumption) | assumption)
                 obtain ⟨ad334, A334_0, c334_0, e334, hx334_0, hl334_0, hi334_0⟩ := at_L1 (Kd.S_reads' HO_3.out).2.2 x4_3 p334 q334
                 obtain rfl : ad333 = ad334 := (by injection e334)
                 obtain ⟨ce334, hce334, hMe334, hcc334⟩ := Kd.S_get HO_3.out [] x4_3 p334 (by first | exact q334 | exact of_decide_eq_true (by first | (with_reducible assumption) | assumption) | (have e_ := (Kd.S_reads' HO_3.out).1; omega))
                 obtain ⟨ve334_0, rfl, ge334_0⟩ := hMe334
                 have hv334_0 := hcc334 0 _ rfl
                 rw [Nat.add_zero, show ((Kd.slice 3 (Kd.int .i64))).sz = 1 from rfl, Nat.mul_one] at hv334_0
                 replace hv334_0 := Option.some.inj (hv334_0.symm.trans hx334_0)
                 rw [hv334_0] at ge334_0
                 have HL334_0 := Aside0.mk (show Kd.R (Kd.int .i64) 3 _ _ _ _ (rd_L1 t328 x4_3) from ge334_0)
                 clear hv334_0 ge334_0
                 clear hcc334 hce334
                 have HR334_0 := Aside0.mk hi334_0
                 have HC334_0 := Aside0.mk hl334_0
                 clear hi334_0 hl334_0
                 replace p334 := eq_true p334
                 replace q334 := eq_true q334
                 have ea_ := Option.some.inj (hx333_0.symm.trans hx334_0)
                 injection ea_ with ea_ en_ ec_
                 subst ea_
                 subst ec_
                 clear en_
                 have p335 : 0 ≤ (x5_4 : Int) := of_decide_eq_true (by first | (with_reducible assumption) | assumption)
                 have q335 : x5_4 < ((rd_L1 t328 x4_3).length : Int) := of_decide_eq_true (by first | (with_reducible assumption) | assumption)
                 obtain ⟨ad335, e335, hx335_0⟩ := Kd.at_int (by repeat (first | (with_reducible exact HR334_0.out) | (with_reducible refine Kd.C_alloc ?_ _) | (with_reducible refine Kd.C_drewN ?_ _) | (with_reducible refine Kd.C_drew ?_) | exact HR334_0.out)) x5_4 p335 q335
                 cases e335
                 replace p335 := eq_true p335
                 replace q335 := eq_true q335
                 go_wp2
                 repeat (go_quiet (fail); try go_wp2)
                 go_roundg k4
                 case measure => have := HJ1.out; have := HJ14.out; have := HK3.out; have := HK4.out; omega
                 case rel => exact ⟨(wrap64 (x5_4 + 1)), (by first | rfl | (simp; done) | (simp [*]; done)), H', ⟨by have := HJ1.out; have := HJ14.out; have := HK3.out; have := HK4.out; omega⟩, ⟨by (with_reducible repeat (first | apply Kd.S_alloc | apply Kd.S_drewN | apply Kd.S_drew)); exact HO_3.out⟩, ⟨by repeat (first | (with_reducible first | exact HB.out | apply below_alloc | apply pw_below_drewN | apply below_drew1) | exact HB.out)⟩⟩
               ·rw [if_neg c31] at H
                exact absurd H (by simp)
              ·rw [if_neg c30] at H
               have c30b0 : decide (x5_4 < ((rd_L1 t328 x4_3).length : Int)) = false := decide_eq_false c30
               clear c30
               have H' := Aside0.mk H
               clear H
               have p333 : 0 ≤ (x4_3 : Int) := of_decide_eq_true (by first | (with_reducible assumption) | assumption)
               have q333 : x4_3 < (t328.length : Int) := of_decide_eq_true (by first | (with_reducible assumption) | assumption)
               obtain ⟨ad333, A333_0, c333_0, e333, hx333_0, hl333_0, hi333_0⟩ := at_L1 (Kd.S_reads' HO_3.out).2.2 x4_3 p333 q333
               cases e333
               obtain ⟨ce333, hce333, hMe333, hcc333⟩ := Kd.S_get HO_3.out [] x4_3 p333 (by first | exact q333 | exact of_decide_eq_true (by first | (with_reducible assumption) | assumption) | (have e_ := (Kd.S_reads' HO_3.out).1; omega))
               obtain ⟨ve333_0, rfl, ge333_0⟩ := hMe333
               have hv333_0 := hcc333 0 _ rfl
               rw [Nat.add_zero, show ((Kd.slice 3 (Kd.int .i64))).sz = 1 from rfl, Nat.mul_one] at hv333_0
               replace hv333_0 := Option.some.inj (hv333_0.symm.trans hx333_0)
               rw [hv333_0] at ge333_0
               have HL333_0 := Aside0.mk (show Kd.R (Kd.int .i64) 3 _ _ _ _ (rd_L1 t328 x4_3) from ge333_0)
               clear hv333_0 ge333_0
               clear hcc333 hce333
               have HR333_0 := Aside0.mk hi333_0
               have HC333_0 := Aside0.mk hl333_0
               clear hi333_0 hl333_0
               replace p333 := eq_true p333
               replace q333 := eq_true q333
               go_wp2
               repeat (go_quiet (fail); try go_wp2)
               go_roundg k4
               case measure => have := HJ1.out; have := HJ14.out; have := HK3.out; have := HK4.out; omega
               case rel => exact ⟨(wrap64 (x4_3 + 1)), (by first | rfl | (simp; done) | (simp [*]; done)), H', ⟨by have := HJ1.out; have := HJ14.out; have := HK3.out; have := HK4.out; omega⟩, ⟨by (with_reducible repeat (first | apply Kd.S_alloc | apply Kd.S_drewN | apply Kd.S_drew)); exact HO_3.out⟩, ⟨by repeat (first | (with_reducible first | exact HB.out | apply below_alloc | apply pw_below_drewN | apply below_drew1) | exact HB.out)⟩⟩
             ·rw [if_neg c29] at H
              exact absurd H (by simp)
            ·rw [if_neg c28] at H
             exact absurd H (by simp)
         ·rw [if_neg c26] at H
          have c26b0 : decide (x4_3 < (t328.length : Int)) = false := decide_eq_false c26
          clear c26
          replace H := Option.bind_eq_some_iff.mp H
          obtain ⟨t336, A330, H⟩ := H
          replace H : ((r12_Turn.f k3 l0).bind fun t339 => ((scc_Of.f k3 t339).bind fun t342 => (if (t336.length : Int) = (l0.length : Int) then (w13_SccFolded.j4 k3 l0 t336 t342 ((t342.length : Int) != (l0.length : Int))) else (w13_SccFolded.j4 k3 l0 t336 t342 true)))) = some r := H
          have A33 := Aside0.mk A330
          clear A330
          replace H := Option.bind_eq_some_iff.mp H
          obtain ⟨t339, A340, H⟩ := H
          replace H : ((scc_Of.f k3 t339).bind fun t342 => (if (t336.length : Int) = (l0.length : Int) then (w13_SccFolded.j4 k3 l0 t336 t342 ((t342.length : Int) != (l0.length : Int))) else (w13_SccFolded.j4 k3 l0 t336 t342 true))) = some r := H
          have A34 := Aside0.mk A340
          clear A340
          replace H := Option.bind_eq_some_iff.mp H
          obtain ⟨t342, A350, H⟩ := H
          replace H : (if (t336.length : Int) = (l0.length : Int) then (w13_SccFolded.j4 k3 l0 t336 t342 ((t342.length : Int) != (l0.length : Int))) else (w13_SccFolded.j4 k3 l0 t336 t342 true)) = some r := H
          have A35 := Aside0.mk A350
          clear A350
          have HC36 := Aside0.mk H
          clear H
          obtain ⟨Ao37, co37, eo37⟩ := Kd.S_slice HO_3.out
          subst eo37
          go_upto_region 15 with (first | (go_at_call 10; (with_reducible refine (scc_Of.calls k3 _ _ l0 t336 _ ?side1 ?side2 A33.out).mono ?_); (case side1 => repeat (first | exact (Kd.C_below HR0.out HB.out) | (with_reducible refine Kd.C_alloc ?_ _) | (with_reducible refine Kd.C_drewN ?_ _) | (with_reducible refine Kd.C_drew ?_))); (case side2 => exact HC0.out); rintro e w38 ⟨v337, rfl, ho0, hb⟩; have n0_ := Aside0.mk (Kd.S_elder' (by (with_reducible repeat (first | apply Kd.S_alloc | apply Kd.S_drewN | apply Kd.S_drew)); exact HO_3.out) (Kd.R_base ho0) hb); have n1_ := Aside0.mk (Kd.R_lower ho0 (below_size (by repeat (first | (with_reducible first | exact HB.out | apply below_alloc | apply pw_below_drewN | apply below_drew1) | exact HB.out)))); have n2_ := Aside0.mk (below_step (by repeat (first | (with_reducible first | exact HB.out | apply below_alloc | apply pw_below_drewN | apply below_drew1) | exact HB.out)) hb); clear HO_3; clear HB; have HO_3 := n0_; have HO338 := n1_; have HB := n2_; clear n0_ n1_ n2_; (try clear hb); (try clear hb2); (try clear hk); (try clear hi); (try clear ho0)) | (go_at_call 20; (with_reducible refine (r12_Turn.calls k3 _ _ l0 t339 _ ?side1 ?side2 A34.out).mono ?_); (case side1 => repeat (first | exact (Kd.C_below HR0.out HB.out) | (with_reducible refine Kd.C_alloc ?_ _) | (with_reducible refine Kd.C_drewN ?_ _) | (with_reducible refine Kd.C_drew ?_))); (case side2 => exact HC0.out); rintro e w39 ⟨v340, rfl, ho0, hb⟩; have n0_ := Aside0.mk (Kd.S_elder' (by (with_reducible repeat (first | apply Kd.S_alloc | apply Kd.S_drewN | apply Kd.S_drew)); exact HO_3.out) (Kd.S_base ho0) hb); have n1_ := Aside0.mk (Kd.R_below (by (with_reducible repeat (first | apply Kd.R_alloc | apply Kd.R_drewN | apply Kd.R_drew)); exact HO338.out) hb); have n2_ := Aside0.mk (Kd.S_lower (Kd.S_new' (Kd.S_new' ho0 (Kd.S_lt (by (with_reducible repeat (first | apply Kd.S_alloc | apply Kd.S_drewN | apply Kd.S_drew)); exact HO_3.out))) (Kd.R_lt (by (with_reducible repeat (first | apply Kd.R_alloc | apply Kd.R_drewN | apply Kd.R_drew)); exact HO338.out))) (below_size (by repeat (first | (with_reducible first | exact HB.out | apply below_alloc | apply pw_below_drewN | apply below_drew1) | exact HB.out)))); have n3_ := Aside0.mk (below_step (by repeat (first | (with_reducible first | exact HB.out | apply below_alloc | apply pw_below_drewN | apply below_drew1) | exact HB.out)) hb); clear HO_3; clear HO338; clear HB; have HO_3 := n0_; have HO338 := n1_; have HO341 := n2_; have HB := n3_; clear n0_ n1_ n2_ n3_; (try clear hb); (try clear hb2); (try clear hk); (try clear hi); (try clear ho0); obtain ⟨Ao40, co40, eo40⟩ := Kd.S_slice HO341.out; subst eo40) | (go_at_call 10; (with_reducible refine (scc_Of.calls k3 _ _ t339 t342 _ ?side1 ?side2 A35.out).mono ?_); (case side1 => repeat (first | exact (Kd.S_reads' HO341.out).2.2 | (with_reducible refine Kd.C_alloc ?_ _) | (with_reducible refine Kd.C_drewN ?_ _) | (with_reducible refine Kd.C_drew ?_))); (case side2 => exact (Kd.S_reads' HO341.out).2.1); rintro e w41 ⟨v343, rfl, ho0, hb⟩; have n0_ := Aside0.mk (Kd.S_elder' (by (with_reducible repeat (first | apply Kd.S_alloc | apply Kd.S_drewN | apply Kd.S_drew)); exact HO_3.out) (Kd.R_base ho0) hb); have n1_ := Aside0.mk (Kd.R_elder' (by (with_reducible repeat (first | apply Kd.R_alloc | apply Kd.R_drewN | apply Kd.R_drew)); exact HO338.out) (Kd.R_base ho0) hb); have n2_ := Aside0.mk (Kd.S_elder' (by (with_reducible repeat (first | apply Kd.S_alloc | apply Kd.S_drewN | apply Kd.S_drew)); exact HO341.out) (Kd.R_base ho0) hb); have n3_ := Aside0.mk (Kd.R_lower (Kd.R_new' ho0 (Kd.R_lt (by (with_reducible repeat (first | apply Kd.R_alloc | apply Kd.R_drewN | apply Kd.R_drew)); exact HO338.out))) (below_size (by repeat (first | (with_reducible first | exact HB.out | apply below_alloc | apply pw_below_drewN | apply below_drew1) | exact HB.out)))); have n4_ := Aside0.mk (below_step (by repeat (first | (with_reducible first | exact HB.out | apply below_alloc | apply pw_below_drewN | apply below_drew1) | exact HB.out)) hb); clear HO_3; clear HO338; clear HO341; clear HB; have HO_3 := n0_; have HO338 := n1_; have HO341 := n2_; have HO344 := n3_; have HB := n4_; clear n0_ n1_ n2_ n3_ n4_; (try clear hb); (try clear hb2); (try clear hk); (try clear hi); (try clear ho0)))
          repeat (go_quiet (first | (go_at_call 10; (with_reducible refine (scc_Of.calls k3 _ _ l0 t336 _ ?side1 ?side2 A33.out).mono ?_); (case side1 => repeat (first | exact (Kd.C_below HR0.out HB.out) | (with_reducible refine Kd.C_alloc ?_ _) | (with_reducible refine Kd.C_drewN ?_ _) | (with_reducible refine Kd.C_drew ?_))); (case side2 => exact HC0.out); rintro e w38 ⟨v337, rfl, ho0, hb⟩; have n0_ := Aside0.mk (Kd.S_elder' (by (with_reducible repeat (first | apply Kd.S_alloc | apply Kd.S_drewN | apply Kd.S_drew)); exact HO_3.out) (Kd.R_base ho0) hb); have n1_ := Aside0.mk (Kd.R_lower ho0 (below_size (by repeat (first | (with_reducible first | exact HB.out | apply below_alloc | apply pw_below_drewN | apply below_drew1) | exact HB.out)))); have n2_ := Aside0.mk (below_step (by repeat (first | (with_reducible first | exact HB.out | apply below_alloc | apply pw_below_drewN | apply below_drew1) | exact HB.out)) hb); clear HO_3; clear HB; have HO_3 := n0_; have HO338 := n1_; have HB := n2_; clear n0_ n1_ n2_; (try clear hb); (try clear hb2); (try clear hk); (try clear hi); (try clear ho0)) | (go_at_call 20; (with_reducible refine (r12_Turn.calls k3 _ _ l0 t339 _ ?side1 ?side2 A34.out).mono ?_); (case side1 => repeat (first | exact (Kd.C_below HR0.out HB.out) | (with_reducible refine Kd.C_alloc ?_ _) | (with_reducible refine Kd.C_drewN ?_ _) | (with_reducible refine Kd.C_drew ?_))); (case side2 => exact HC0.out); rintro e w39 ⟨v340, rfl, ho0, hb⟩; have n0_ := Aside0.mk (Kd.S_elder' (by (with_reducible repeat (first | apply Kd.S_alloc | apply Kd.S_drewN | apply Kd.S_drew)); exact HO_3.out) (Kd.S_base ho0) hb); have n1_ := Aside0.mk (Kd.R_below (by (with_reducible repeat (first | apply Kd.R_alloc | apply Kd.R_drewN | apply Kd.R_drew)); exact HO338.out) hb); have n2_ := Aside0.mk (Kd.S_lower (Kd.S_new' (Kd.S_new' ho0 (Kd.S_lt (by (with_reducible repeat (first | apply Kd.S_alloc | apply Kd.S_drewN | apply Kd.S_drew)); exact HO_3.out))) (Kd.R_lt (by (with_reducible repeat (first | apply Kd.R_alloc | apply Kd.R_drewN | apply Kd.R_drew)); exact HO338.out))) (below_size (by repeat (first | (with_reducible first | exact HB.out | apply below_alloc | apply pw_below_drewN | apply below_drew1) | exact HB.out)))); have n3_ := Aside0.mk (below_step (by repeat (first | (with_reducible first | exact HB.out | apply below_alloc | apply pw_below_drewN | apply below_drew1) | exact HB.out)) hb); clear HO_3; clear HO338; clear HB; have HO_3 := n0_; have HO338 := n1_; have HO341 := n2_; have HB := n3_; clear n0_ n1_ n2_ n3_; (try clear hb); (try clear hb2); (try clear hk); (try clear hi); (try clear ho0); obtain ⟨Ao40, co40, eo40⟩ := Kd.S_slice HO341.out; subst eo40) | (go_at_call 10; (with_reducible refine (scc_Of.calls k3 _ _ t339 t342 _ ?side1 ?side2 A35.out).mono ?_); (case side1 => repeat (first | exact (Kd.S_reads' HO341.out).2.2 | (with_reducible refine Kd.C_alloc ?_ _) | (with_reducible refine Kd.C_drewN ?_ _) | (with_reducible refine Kd.C_drew ?_))); (case side2 => exact (Kd.S_reads' HO341.out).2.1); rintro e w41 ⟨v343, rfl, ho0, hb⟩; have n0_ := Aside0.mk (Kd.S_elder' (by (with_reducible repeat (first | apply Kd.S_alloc | apply Kd.S_drewN | apply Kd.S_drew)); exact HO_3.out) (Kd.R_base ho0) hb); have n1_ := Aside0.mk (Kd.R_elder' (by (with_reducible repeat (first | apply Kd.R_alloc | apply Kd.R_drewN | apply Kd.R_drew)); exact HO338.out) (Kd.R_base ho0) hb); have n2_ := Aside0.mk (Kd.S_elder' (by (with_reducible repeat (first | apply Kd.S_alloc | apply Kd.S_drewN | apply Kd.S_drew)); exact HO341.out) (Kd.R_base ho0) hb); have n3_ := Aside0.mk (Kd.R_lower (Kd.R_new' ho0 (Kd.R_lt (by (with_reducible repeat (first | apply Kd.R_alloc | apply Kd.R_drewN | apply Kd.R_drew)); exact HO338.out))) (below_size (by repeat (first | (with_reducible first | exact HB.out | apply below_alloc | apply pw_below_drewN | apply below_drew1) | exact HB.out)))); have n4_ := Aside0.mk (below_step (by repeat (first | (with_reducible first | exact HB.out | apply below_alloc | apply pw_below_drewN | apply below_drew1) | exact HB.out)) hb); clear HO_3; clear HO338; clear HO341; clear HB; have HO_3 := n0_; have HO338 := n1_; have HO341 := n2_; have HO344 := n3_; have HB := n4_; clear n0_ n1_ n2_ n3_ n4_; (try clear hb); (try clear hb2); (try clear hk); (try clear hi); (try clear ho0))); go_upto_region 15 with (first | (go_at_call 10; (with_reducible refine (scc_Of.calls k3 _ _ l0 t336 _ ?side1 ?side2 A33.out).mono ?_); (case side1 => repeat (first | exact (Kd.C_below HR0.out HB.out) | (with_reducible refine Kd.C_alloc ?_ _) | (with_reducible refine Kd.C_drewN ?_ _) | (with_reducible refine Kd.C_drew ?_))); (case side2 => exact HC0.out); rintro e w38 ⟨v337, rfl, ho0, hb⟩; have n0_ := Aside0.mk (Kd.S_elder' (by (with_reducible repeat (first | apply Kd.S_alloc | apply Kd.S_drewN | apply Kd.S_drew)); exact HO_3.out) (Kd.R_base ho0) hb); have n1_ := Aside0.mk (Kd.R_lower ho0 (below_size (by repeat (first | (with_reducible first | exact HB.out | apply below_alloc | apply pw_below_drewN | apply below_drew1) | exact HB.out)))); have n2_ := Aside0.mk (below_step (by repeat (first | (with_reducible first | exact HB.out | apply below_alloc | apply pw_below_drewN | apply below_drew1) | exact HB.out)) hb); clear HO_3; clear HB; have HO_3 := n0_; have HO338 := n1_; have HB := n2_; clear n0_ n1_ n2_; (try clear hb); (try clear hb2); (try clear hk); (try clear hi); (try clear ho0)) | (go_at_call 20; (with_reducible refine (r12_Turn.calls k3 _ _ l0 t339 _ ?side1 ?side2 A34.out).mono ?_); (case side1 => repeat (first | exact (Kd.C_below HR0.out HB.out) | (with_reducible refine Kd.C_alloc ?_ _) | (with_reducible refine Kd.C_drewN ?_ _) | (with_reducible refine Kd.C_drew ?_))); (case side2 => exact HC0.out); rintro e w39 ⟨v340, rfl, ho0, hb⟩; have n0_ := Aside0.mk (Kd.S_elder' (by (with_reducible repeat (first | apply Kd.S_alloc | apply Kd.S_drewN | apply Kd.S_drew)); exact HO_3.out) (Kd.S_base ho0) hb); have n1_ := Aside0.mk (Kd.R_below (by (with_reducible repeat (first | apply Kd.R_alloc | apply Kd.R_drewN | apply Kd.R_drew)); exact HO338.out) hb); have n2_ := Aside0.mk (Kd.S_lower (Kd.S_new' (Kd.S_new' ho0 (Kd.S_lt (by (with_reducible repeat (first | apply Kd.S_alloc | apply Kd.S_drewN | apply Kd.S_drew)); exact HO_3.out))) (Kd.R_lt (by (with_reducible repeat (first | apply Kd.R_alloc | apply Kd.R_drewN | apply Kd.R_drew)); exact HO338.out))) (below_size (by repeat (first | (with_reducible first | exact HB.out | apply below_alloc | apply pw_below_drewN | apply below_drew1) | exact HB.out)))); have n3_ := Aside0.mk (below_step (by repeat (first | (with_reducible first | exact HB.out | apply below_alloc | apply pw_below_drewN | apply below_drew1) | exact HB.out)) hb); clear HO_3; clear HO338; clear HB; have HO_3 := n0_; have HO338 := n1_; have HO341 := n2_; have HB := n3_; clear n0_ n1_ n2_ n3_; (try clear hb); (try clear hb2); (try clear hk); (try clear hi); (try clear ho0); obtain ⟨Ao40, co40, eo40⟩ := Kd.S_slice HO341.out; subst eo40) | (go_at_call 10; (with_reducible refine (scc_Of.calls k3 _ _ t339 t342 _ ?side1 ?side2 A35.out).mono ?_); (case side1 => repeat (first | exact (Kd.S_reads' HO341.out).2.2 | (with_reducible refine Kd.C_alloc ?_ _) | (with_reducible refine Kd.C_drewN ?_ _) | (with_reducible refine Kd.C_drew ?_))); (case side2 => exact (Kd.S_reads' HO341.out).2.1); rintro e w41 ⟨v343, rfl, ho0, hb⟩; have n0_ := Aside0.mk (Kd.S_elder' (by (with_reducible repeat (first | apply Kd.S_alloc | apply Kd.S_drewN | apply Kd.S_drew)); exact HO_3.out) (Kd.R_base ho0) hb); have n1_ := Aside0.mk (Kd.R_elder' (by (with_reducible repeat (first | apply Kd.R_alloc | apply Kd.R_drewN | apply Kd.R_drew)); exact HO338.out) (Kd.R_base ho0) hb); have n2_ := Aside0.mk (Kd.S_elder' (by (with_reducible repeat (first | apply Kd.S_alloc | apply Kd.S_drewN | apply Kd.S_drew)); exact HO341.out) (Kd.R_base ho0) hb); have n3_ := Aside0.mk (Kd.R_lower (Kd.R_new' ho0 (Kd.R_lt (by (with_reducible repeat (first | apply Kd.R_alloc | apply Kd.R_drewN | apply Kd.R_drew)); exact HO338.out))) (below_size (by repeat (first | (with_reducible first | exact HB.out | apply below_alloc | apply pw_below_drewN | apply below_drew1) | exact HB.out)))); have n4_ := Aside0.mk (below_step (by repeat (first | (with_reducible first | exact HB.out | apply below_alloc | apply pw_below_drewN | apply below_drew1) | exact HB.out)) hb); clear HO_3; clear HO338; clear HO341; clear HB; have HO_3 := n0_; have HO338 := n1_; have HO341 := n2_; have HO344 := n3_; have HB := n4_; clear n0_ n1_ n2_ n3_ n4_; (try clear hb); (try clear hb2); (try clear hk); (try clear hi); (try clear ho0))))
          (try simp only [Act.put, List.setIfInBounds_toArray, List.set_cons_zero, List.set_cons_succ])
          go_cut [77] (fun v77 wc => ∃ (kq : Nat) (x77_35 : Bool), v77 = .bool x77_35 ∧ Aside0 (w13_SccFolded.j4 kq l0 t336 t342 x77_35 = some r) ∧ Aside0 (kq ≤ k3) ∧ Aside0 (Kd.R (Kd.int .i64) 3 wc w.heap.size (fun k_ => some k_ ≠ (v343 : Value).ownBlock) v337 t336) ∧ Aside0 (Kd.R (Kd.int .i64) 3 wc w.heap.size (fun k_ => some k_ ≠ (v337 : Value).ownBlock) v343 t342) ∧ Aside0 (Below w.heap.size w wc))
          case first =>
           have H := HC36.out
           clear HC36
           by_cases c42 : (t336.length : Int) = (l0.length : Int)
           ·rw [if_pos c42] at H
            have c42b0 : ((t336.length : Int) == (l0.length : Int)) = true := beq_iff_eq.mpr c42
            have c42b1 : ((t336.length : Int) != (l0.length : Int)) = false := bne_eq_false_iff_eq.mpr c42
            have c42b2 : (t336.length == l0.length) = true := by first | simpa using c42 | (simp at c42 ⊢; omega)
            clear c42
            (first | rw [c42b0] | (simp only [i64_w, i32_w]; rw [c42b0]) | skip)
            have H' := Aside0.mk H
            clear H
            obtain ⟨Ao43, co43, eo43⟩ := Kd.R_slice HO338.out
            subst eo43
            obtain ⟨Ao44, co44, eo44⟩ := Kd.R_slice HO344.out
            subst eo44
            go_wp2
            repeat (go_quiet (fail); try go_wp2)
            go_meet
            case rel => exact ⟨_, (((t342.length : Int) != (l0.length : Int))), (by first | rfl | (simp; done) | (simp [*]; done)), H', ⟨by have := HJ1.out; have := HJ14.out; have := HK3.out; first | omega | exact Nat.le_refl _⟩, ⟨by (with_reducible repeat (first | apply Kd.R_alloc | apply Kd.R_drewN | apply Kd.R_drew)); exact Kd.R_mono HO338.out (fun _ hk => hk.2)⟩, ⟨by (with_reducible repeat (first | apply Kd.R_alloc | apply Kd.R_drewN | apply Kd.R_drew)); exact Kd.R_mono HO344.out (fun _ hk => hk.2)⟩, ⟨by repeat (first | (with_reducible first | exact HB.out | apply below_alloc | apply pw_below_drewN | apply below_drew1) | exact HB.out)⟩⟩
           ·rw [if_neg c42] at H
            have c42b0 : ((t336.length : Int) == (l0.length : Int)) = false := beq_eq_false_iff_ne.mpr c42
            have c42b1 : ((t336.length : Int) != (l0.length : Int)) = true := bne_iff_ne.mpr c42
            have c42b2 : (t336.length == l0.length) = false := by first | simpa using c42 | (simp at c42 ⊢; omega)
            (first | rw [c42b0] | (simp only [i64_w, i32_w]; rw [c42b0]) | skip)
            have H' := Aside0.mk H
            clear H
            obtain ⟨Ao45, co45, eo45⟩ := Kd.R_slice HO338.out
            subst eo45
            go_wp2
            repeat (go_quiet (fail); try go_wp2)
            go_meet
            case rel => exact ⟨_, (true), (by first | rfl | (simp; done) | (simp [*]; done)), H', ⟨by have := HJ1.out; have := HJ14.out; have := HK3.out; first | omega | exact Nat.le_refl _⟩, ⟨by (with_reducible repeat (first | apply Kd.R_alloc | apply Kd.R_drewN | apply Kd.R_drew)); exact Kd.R_mono HO338.out (fun _ hk => hk.2)⟩, ⟨by (with_reducible repeat (first | apply Kd.R_alloc | apply Kd.R_drewN | apply Kd.R_drew)); exact Kd.R_mono HO344.out (fun _ hk => hk.2)⟩, ⟨by repeat (first | (with_reducible first | exact HB.out | apply below_alloc | apply pw_below_drewN | apply below_drew1) | exact HB.out)⟩⟩
          case rest =>
           clear HC36
           try clear c1
           try clear c2
           try clear p2
           try clear c3
           try clear p3
           try clear q3
           try clear hx3
           try clear c4
           try clear c5
           try clear c6
           try clear p6
           try clear c11
           try clear c18
           try clear c18b0
           try clear c18b1
           try clear c25
           try clear c26
           try clear c26b0
           try clear c28
           try clear c28b0
           try clear c29
           try clear c29b0
           try clear c30
           try clear c30b0
           try clear c31
           try clear c31b0
           try clear c32
           try clear c32b0
           try clear c33
           try clear p33
           try clear q33
           try clear hx33
           try clear c42
           try clear c42b0
           try clear c42b1
           try clear c42b2
           try clear hx333_0
           try clear hx334_0
           try clear hx335_0
           try clear p2
           try clear p333
           try clear p334
           try clear p335
           try clear q333
           try clear q334
           try clear q335
           obtain ⟨kq, x77_35, rfl, HA, HJ35, HO_6, HO_7, HB⟩ := hcut
           cases kq with
           | zero => exact absurd HA.out (by simp [w13_SccFolded.j4])
           | succ kj35 =>
            have H := HA.out
            clear HA
            simp only [w13_SccFolded.j4] at H
            by_cases c46 : x77_35 = true
            ·subst c46
             have H1 : (some false) = some r := by rw [if_pos rfl] at H; exact H
             clear H
             have H := H1
             clear H1
             obtain rfl := Option.some.inj H
             go_wp2
             repeat (go_quiet (fail); try go_wp2)
             go_ret
             exact ⟨by first | rfl | (simp [errW_none, errW_some] <;> rfl) | (simp [*, errW_none, errW_some] <;> rfl), by repeat (first | (with_reducible first | exact HB.out | apply below_alloc | apply pw_below_drewN | apply below_drew1) | exact HB.out)⟩
            ·replace c46 := Bool.eq_false_iff.mpr c46
             subst c46
             have H1 : (w13_SccFolded.l2 kj35 l0 t336 t342 0) = some r := by rw [if_neg (show ¬ (false = true) by decide)] at H; exact H
             clear H
             have H := H1
             clear H1
             have H' := Aside0.mk H
             clear H
             go_wp2
             repeat (go_quiet (fail); try go_wp2)
             go_loopg [8] kj35 (fun kq v8 w' => ∃ (x8_5 : Int), v8 = .int .i64 x8_5 ∧ Aside0 (w13_SccFolded.l2 kq l0 t336 t342 x8_5 = some r) ∧ Aside0 (kq ≤ kj35) ∧ Aside0 (Kd.R (Kd.int .i64) 3 w' w.heap.size (fun k_ => some k_ ≠ (v343 : Value).ownBlock) v337 t336) ∧ Aside0 (Kd.R (Kd.int .i64) 3 w' w.heap.size (fun k_ => some k_ ≠ (v337 : Value).ownBlock) v343 t342) ∧ Aside0 (Below w.heap.size w w'))
             case atStart => exact ⟨(0), (by first | rfl | (simp; done) | (simp [*]; done)), H', ⟨Nat.le_refl _⟩, ⟨by (with_reducible repeat (first | apply Kd.R_alloc | apply Kd.R_drewN | apply Kd.R_drew)); exact HO_6.out⟩, ⟨by (with_reducible repeat (first | apply Kd.R_alloc | apply Kd.R_drewN | apply Kd.R_drew)); exact HO_7.out⟩, ⟨by repeat (first | (with_reducible first | exact HB.out | apply below_alloc | apply pw_below_drewN | apply below_drew1) | exact HB.out)⟩⟩
             case round =>
              clear H'
              try clear c1
              try clear c2
              try clear p2
              try clear c3
              try clear p3
              try clear q3
              try clear hx3
              try clear c4
              try clear c5
              try clear c6
              try clear p6
              try clear c11
              try clear c18
              try clear c18b0
              try clear c18b1
              try clear c25
              try clear c26
              try clear c26b0
              try clear c28
              try clear c28b0
              try clear c29
              try clear c29b0
              try clear c30
              try clear c30b0
              try clear c31
              try clear c31b0
              try clear c32
              try clear c32b0
              try clear c33
              try clear p33
              try clear q33
              try clear hx33
              try clear c42
              try clear c42b0
              try clear c42b1
              try clear c42b2
              try clear c46
              try clear hx333_0
              try clear hx334_0
              try clear hx335_0
              try clear p2
              try clear p3
              try clear p33
              try clear p333
              try clear p334
              try clear p335
              try clear p6
              try clear q3
              try clear q33
              try clear q333
              try clear q334
              try clear q335
              obtain ⟨x8_5, rfl, HA, HK5, HO_6, HO_7, HB⟩ := hrel
              cases gk with
              | zero => exact absurd HA.out (by simp [w13_SccFolded.l2])
              | succ k5 =>
               have H := HA.out
               clear HA
               simp only [w13_SccFolded.l2] at H
               by_cases c47 : x8_5 < (l0.length : Int)
               ·rw [if_pos c47] at H
                have c47b0 : decide (x8_5 < (l0.length : Int)) = true := decide_eq_true c47
                clear c47
                have H' := Aside0.mk H
                clear H
                go_wp2
                repeat (go_quiet (fail); try go_wp2)
                go_loopg [9] k5 (fun kq v9 w' => ∃ (x9_6 : Int), v9 = .int .i64 x9_6 ∧ Aside0 (w13_SccFolded.l3 kq l0 t336 t342 x8_5 x9_6 = some r) ∧ Aside0 (kq ≤ k5) ∧ Aside0 (Kd.R (Kd.int .i64) 3 w' w.heap.size (fun k_ => some k_ ≠ (v343 : Value).ownBlock) v337 t336) ∧ Aside0 (Kd.R (Kd.int .i64) 3 w' w.heap.size (fun k_ => some k_ ≠ (v337 : Value).ownBlock) v343 t342) ∧ Aside0 (Below w.heap.size w w'))
                case atStart => exact ⟨(0), (by first | rfl | (simp; done) | (simp [*]; done)), H', ⟨Nat.le_refl _⟩, ⟨by (with_reducible repeat (first | apply Kd.R_alloc | apply Kd.R_drewN | apply Kd.R_drew)); exact HO_6.out⟩, ⟨by (with_reducible repeat (first | apply Kd.R_alloc | apply Kd.R_drewN | apply Kd.R_drew)); exact HO_7.out⟩, ⟨by repeat (first | (with_reducible first | exact HB.out | apply below_alloc | apply pw_below_drewN | apply below_drew1) | exact HB.out)⟩⟩
                case round =>
                 clear H'
                 try clear c1
                 try clear c2
                 try clear p2
                 try clear c3
                 try clear p3
                 try clear q3
                 try clear hx3
                 try clear c4
                 try clear c5
                 try clear c6
                 try clear p6
                 try clear c11
                 try clear c18
                 try clear c18b0
                 try clear c18b1
                 try clear c25
                 try clear c26
                 try clear c26b0
                 try clear c28
                 try clear c28b0
                 try clear c29
                 try clear c29b0
                 try clear c30
                 try clear c30b0
                 try clear c31
                 try clear c31b0
                 try clear c32
                 try clear c32b0
                 try clear c33
                 try clear p33
                 try clear q33
                 try clear hx33
                 try clear c42
                 try clear c42b0
                 try clear c42b1
                 try clear c42b2
                 try clear c46
                 try clear c47
                 try clear c47b0
                 try clear hx333_0
                 try clear hx334_0
                 try clear hx335_0
                 try clear p2
                 try clear p3
                 try clear p33
                 try clear p333
                 try clear p334
                 try clear p335
                 try clear p6
                 try clear q3
                 try clear q33
                 try clear q333
                 try clear q334
                 try clear q335
                 obtain ⟨x9_6, rfl, HA, HK6, HO_6, HO_7, HB⟩ := hrel
                 cases gk with
                 | zero => exact absurd HA.out (by simp [w13_SccFolded.l3])
                 | succ k6 =>
                  have H := HA.out
                  clear HA
                  simp only [w13_SccFolded.l3] at H
                  by_cases c48 : x9_6 < x8_5
                  ·rw [if_pos c48] at H
                   have c48b0 : decide (x9_6 < x8_5) = true := decide_eq_true c48
                   clear c48
                   by_cases c49 : 0 ≤ x8_5
                   ·rw [if_pos c49] at H
                    have c49b0 : decide (0 ≤ x8_5) = true := decide_eq_true c49
                    clear c49
                    by_cases c50 : x8_5 < (t336.length : Int)
                    ·rw [if_pos c50] at H
                     have c50b0 : decide (x8_5 < (t336.length : Int)) = true := decide_eq_true c50
                     clear c50
                     by_cases c51 : 0 ≤ x9_6
                     ·rw [if_pos c51] at H
                      have c51b0 : decide (0 ≤ x9_6) = true := decide_eq_true c51
                      clear c51
                      by_cases c52 : x9_6 < (t336.length : Int)
                      ·rw [if_pos c52] at H
                       have c52b0 : decide (x9_6 < (t336.length : Int)) = true := decide_eq_true c52
                       clear c52
                       by_cases c53 : x8_5 < (t342.length : Int)
                       ·rw [if_pos c53] at H
                        have c53b0 : decide (x8_5 < (t342.length : Int)) = true := decide_eq_true c53
                        clear c53
                        by_cases c54 : x9_6 < (t342.length : Int)
                        ·rw [if_pos c54] at H
                         have c54b0 : decide (x9_6 < (t342.length : Int)) = true := decide_eq_true c54
                         clear c54
                         by_cases c55 : (((rd t336 x8_5) == (rd t336 x9_6)) != ((rd t342 x8_5) == (rd t342 x9_6))) = true
                         ·rw [if_pos c55] at H
                          have c55b0 : (((rd t336 x8_5) == (rd t336 x9_6)) != ((rd t342 x8_5) == (rd t342 x9_6))) = true := c55
                          (try (have c55b1 : decide (((rd t336 x8_5) == (rd t336 x9_6)) = ((rd t342 x8_5) == (rd t342 x9_6))) = false := by simpa using c55))
                          (try (have c55b2 : (((rd t336 x8_5) == (rd t336 x9_6)) == ((rd t342 x8_5) == (rd t342 x9_6))) = false := by simpa using c55))
                          (try (have c55b3 : ¬ (((rd t336 x8_5) == (rd t336 x9_6)) = ((rd t342 x8_5) == (rd t342 x9_6))) := by simpa using c55))
                          clear c55
                          obtain rfl := Option.some.inj H
                          obtain ⟨Ao56, co56, eo56⟩ := Kd.R_slice HO_6.out
                          subst eo56
                          have p345 : 0 ≤ (x8_5 : Int) := of_decide_eq_true (by first | (with_reducible assumption) | assumption)
                          have q345 : x8_5 < (t336.length : Int) := of_decide_eq_true (by first | (with_reducible assumption) | assumption)
                          obtain ⟨ad345, e345, hx345_0⟩ := Kd.at_int (Kd.R_reads' HO_6.out).2.2 x8_5 p345 q345
                          cases e345
                          replace p345 := eq_true p345
                          replace q345 := eq_true q345
                          have p346 : 0 ≤ (x9_6 : Int) := of_decide_eq_true (by first | (with_reducible assumption) | assumption)
                          have q346 : x9_6 < (t336.length : Int) := of_decide_eq_true (by first | (with_reducible assumption) | assumption)
                          obtain ⟨ad346, e346, hx346_0⟩ := Kd.at_int (Kd.R_reads' HO_6.out).2.2 x9_6 p346 q346
                          obtain rfl : ad345 = ad346 := (by injection e346)
                          replace p346 := eq_true p346
                          replace q346 := eq_true q346
                          obtain ⟨Ao57, co57, eo57⟩ := Kd.R_slice HO_7.out
                          subst eo57
                          have p347 : 0 ≤ (x8_5 : Int) := of_decide_eq_true (by first | (with_reducible assumption) | assumption)
                          have q347 : x8_5 < (t342.length : Int) := of_decide_eq_true (by first | (with_reducible assumption) | assumption)
                          obtain ⟨ad347, e347, hx347_0⟩ := Kd.at_int (Kd.R_reads' HO_7.out).2.2 x8_5 p347 q347
                          cases e347
                          replace p347 := eq_true p347
                          replace q347 := eq_true q347
                          have p348 : 0 ≤ (x9_6 : Int) := of_decide_eq_true (by first | (with_reducible assumption) | assumption)
                          have q348 : x9_6 < (t342.length : Int) := of_decide_eq_true (by first | (with_reducible assumption) | assumption)
                          obtain ⟨ad348, e348, hx348_0⟩ := Kd.at_int (Kd.R_reads' HO_7.out).2.2 x9_6 p348 q348
                          obtain rfl : ad347 = ad348 := (by injection e348)
                          replace p348 := eq_true p348
                          replace q348 := eq_true q348
                          go_wp2
                          repeat (go_quiet (fail); try go_wp2)
                          go_ret
                          exact ⟨by first | rfl | (simp [errW_none, errW_some] <;> rfl) | (simp [*, errW_none, errW_some] <;> rfl), by repeat (first | (with_reducible first | exact HB.out | apply below_alloc | apply pw_below_drewN | apply below_drew1) | exact HB.out)⟩
                         ·rw [if_neg c55] at H
                          have c55b0 : (((rd t336 x8_5) == (rd t336 x9_6)) != ((rd t342 x8_5) == (rd t342 x9_6))) = false := by simpa using c55
                          (try (have c55b1 : decide (((rd t336 x8_5) == (rd t336 x9_6)) = ((rd t342 x8_5) == (rd t342 x9_6))) = true := by simpa using c55))
                          (try (have c55b2 : (((rd t336 x8_5) == (rd t336 x9_6)) == ((rd t342 x8_5) == (rd t342 x9_6))) = true := by simpa using c55))
                          clear c55
                          have H' := Aside0.mk H
                          clear H
                          obtain ⟨Ao58, co58, eo58⟩ := Kd.R_slice HO_6.out
                          subst eo58
                          have p345 : 0 ≤ (x8_5 : Int) := of_decide_eq_true (by first | (with_reducible assumption) | assumption)
                          have q345 : x8_5 < (t336.length : Int) := of_decide_eq_true (by first | (with_reducible assumption) | assumption)
                          obtain ⟨ad345, e345, hx345_0⟩ := Kd.at_int (Kd.R_reads' HO_6.out).2.2 x8_5 p345 q345
                          cases e345
                          replace p345 := eq_true p345
                          replace q345 := eq_true q345
                          have p346 : 0 ≤ (x9_6 : Int) := of_decide_eq_true (by first | (with_reducible assumption) | assumption)
                          have q346 : x9_6 < (t336.length : Int) := of_decide_eq_true (by first | (with_reducible assumption) | assumption)
                          obtain ⟨ad346, e346, hx346_0⟩ := Kd.at_int (Kd.R_reads' HO_6.out).2.2 x9_6 p346 q346
                          obtain rfl : ad345 = ad346 := (by injection e346)
                          replace p346 := eq_true p346
                          replace q346 := eq_true q346
                          obtain ⟨Ao59, co59, eo59⟩ := Kd.R_slice HO_7.out
                          subst eo59
                          have p347 : 0 ≤ (x8_5 : Int) := of_decide_eq_true (by first | (with_reducible assumption) | assumption)
                          have q347 : x8_5 < (t342.length : Int) := of_decide_eq_true (by first | (with_reducible assumption) | assumption)
                          obtain ⟨ad347, e347, hx347_0⟩ := Kd.at_int (Kd.R_reads' HO_7.out).2.2 x8_5 p347 q347
                          cases e347
                          replace p347 := eq_true p347
                          replace q347 := eq_true q347
                          have p348 : 0 ≤ (x9_6 : Int) := of_decide_eq_true (by first | (with_reducible assumption) | assumption)
                          have q348 : x9_6 < (t342.length : Int) := of_decide_eq_true (by first | (with_reducible assumption) | assumption)
                          obtain ⟨ad348, e348, hx348_0⟩ := Kd.at_int (Kd.R_reads' HO_7.out).2.2 x9_6 p348 q348
                          obtain rfl : ad347 = ad348 := (by injection e348)
                          replace p348 := eq_true p348
                          replace q348 := eq_true q348
                          go_wp2
                          repeat (go_quiet (fail); try go_wp2)
                          go_roundg k6
                          case measure => have := HJ1.out; have := HJ14.out; have := HK3.out; have := HJ35.out; have := HK5.out; have := HK6.out; omega
                          case rel => exact ⟨(wrap64 (x9_6 + 1)), (by first | rfl | (simp; done) | (simp [*]; done)), H', ⟨by have := HJ1.out; have := HJ14.out; have := HK3.out; have := HJ35.out; have := HK5.out; have := HK6.out; omega⟩, ⟨by (with_reducible repeat (first | apply Kd.R_alloc | apply Kd.R_drewN | apply Kd.R_drew)); exact HO_6.out⟩, ⟨by (with_reducible repeat (first | apply Kd.R_alloc | apply Kd.R_drewN | apply Kd.R_drew)); exact HO_7.out⟩, ⟨by repeat (first | (with_reducible first | exact HB.out | apply below_alloc | apply pw_below_drewN | apply below_drew1) | exact HB.out)⟩⟩
                        ·rw [if_neg c54] at H
                         exact absurd H (by simp)
                       ·rw [if_neg c53] at H
                        exact absurd H (by simp)
                      ·rw [if_neg c52] at H
                       exact absurd H (by simp)
                     ·rw [if_neg c51] at H
                      exact absurd H (by simp)
                    ·rw [if_neg c50] at H
                     exact absurd H (by simp)
                   ·rw [if_neg c49] at H
                    exact absurd H (by simp)
                  ·rw [if_neg c48] at H
                   have c48b0 : decide (x9_6 < x8_5) = false := decide_eq_false c48
                   clear c48
                   have H' := Aside0.mk H
                   clear H
                   go_wp2
                   repeat (go_quiet (fail); try go_wp2)
                   go_roundg k6
                   case measure => have := HJ1.out; have := HJ14.out; have := HK3.out; have := HJ35.out; have := HK5.out; have := HK6.out; omega
                   case rel => exact ⟨(wrap64 (x8_5 + 1)), (by first | rfl | (simp; done) | (simp [*]; done)), H', ⟨by have := HJ1.out; have := HJ14.out; have := HK3.out; have := HJ35.out; have := HK5.out; have := HK6.out; omega⟩, ⟨by (with_reducible repeat (first | apply Kd.R_alloc | apply Kd.R_drewN | apply Kd.R_drew)); exact HO_6.out⟩, ⟨by (with_reducible repeat (first | apply Kd.R_alloc | apply Kd.R_drewN | apply Kd.R_drew)); exact HO_7.out⟩, ⟨by repeat (first | (with_reducible first | exact HB.out | apply below_alloc | apply pw_below_drewN | apply below_drew1) | exact HB.out)⟩⟩
               ·rw [if_neg c47] at H
                have c47b0 : decide (x8_5 < (l0.length : Int)) = false := decide_eq_false c47
                clear c47
                obtain rfl := Option.some.inj H
                go_wp2
                repeat (go_quiet (fail); try go_wp2)
                go_ret
                exact ⟨by first | rfl | (simp [errW_none, errW_some] <;> rfl) | (simp [*, errW_none, errW_some] <;> rfl), by repeat (first | (with_reducible first | exact HB.out | apply below_alloc | apply pw_below_drewN | apply below_drew1) | exact HB.out)⟩
end Go.Proofs.Ytejhejpkfjhmkaa.Pr

/- The laws of layer 13, of the functions that the walk comes to. -/
namespace Go.Proofs.Ytejhejpkfjhmkaa.Man
open Go.RowKit Go.Proofs.Ytejhejpkfjhmkaa.Pr Go.Proofs.YtejhejpkfjhmkaaW.PrintWords Go.Proofs.YtejhejpkfjhmkaaW.PrintMore Go.Proofs.Ytejhejpkfjhmkaa.Tarj Classical
set_option linter.unusedVariables false
set_option linter.unusedSimpArgs false
theorem small13_ev (g : List (List Int)) (hl : g.length ≤ 9223372036854775807) : ∃ b, Ev (fun k => w13_small.f k g) b ∧ (b = true → g.length ≤ 30 ∧ ∀ i : Nat, (g.getD i []).length ≤ 30) := by
  have main : ∀ m i : Nat, i + m = g.length → ∃ b, Ev (fun k => w13_small.l0 k g (i : Int)) b ∧ (b = true → g.length ≤ 30 ∧ ∀ v : Nat, i ≤ v → (g.getD v []).length ≤ 30) := by
    intro m
    induction m with
    | zero =>
      intro i hi
      refine ⟨decide ((g.length : Int) ≤ 30), Ev.step ?_, fun h => ⟨by have := of_decide_eq_true h; omega, fun v hv => ?_⟩⟩
      · have c : ¬ (i : Int) < (g.length : Int) := by omega
        simp only [w13_small.l0, if_neg c]
        exact Ev.const _
      · rw [List.getD_eq_getElem?_getD, List.getElem?_eq_none (by omega)]; simp
    | succ m ih =>
      intro i hi
      obtain ⟨b, e, hb⟩ := ih (i + 1) (by omega)
      have c : (i : Int) < (g.length : Int) := by omega
      have c0 : 0 ≤ (i : Int) := Int.natCast_nonneg i
      by_cases hr : ((rd_L1 g (i : Int)).length : Int) > 30
      · refine ⟨false, Ev.step ?_, fun h => by cases h⟩
        simp only [w13_small.l0, if_pos c, if_pos c0, if_pos hr]
        exact Ev.const _
      · refine ⟨b, Ev.step ?_, fun h => ⟨(hb h).1, fun v hv => ?_⟩⟩
        · simp only [w13_small.l0, if_pos c, if_pos c0, if_neg hr, wz i (Nat.lt_of_lt_of_le (show i < g.length by omega) hl)]
          exact e
        · by_cases ev : v = i
          · subst ev; rw [rdLg] at hr; omega
          · exact (hb h).2 v (by omega)
  obtain ⟨b, e, h⟩ := main g.length 0 (by omega)
  exact ⟨b, e, fun hb => ⟨(h hb).1, fun i => (h hb).2 i (Nat.zero_le _)⟩⟩
theorem of_ev {g : List (List Int)} (hs : Sm g) : Ev (fun k => scc_Of.f k g) (ofF g) := by
  simp only [scc_Of.f, if_pos hs]; exact Ev.const _
theorem many_ev {g : List (List Int)} (hs : Sm g) : Ev (fun k => scc_Many.f k g) (manyF g) := by
  simp only [scc_Many.f, if_pos hs]; exact Ev.const _
theorem fold_ev {g : List (List Int)} (hs : Sm g) : Ev (fun k => scc_Fold.f k g) (foldF g) := by
  simp only [scc_Fold.f, if_pos hs]; exact Ev.const _
def g13 : List (List Int) := [[1], [0, 2], []]
def n13 (x : Nat) : Nat := if x < 2 then 1 else 0
theorem g13_two {y : Nat} (h : Tarj.Rch (adjF g13) 2 y) : y = 2 := h.closed (fun x => x = 2) (fun x hx z hz => by subst hx; cases hz) rfl
theorem g13_01 : Tarj.Rch (adjF g13) 0 1 := .one (by decide)
theorem g13_10 : Tarj.Rch (adjF g13) 1 0 := .one (by decide)
theorem g13_12 : Tarj.Rch (adjF g13) 1 2 := .one (by decide)
theorem g13_nmb : Nmb (adjF g13) g13.length 2 n13 := by
  have lt3 : ∀ x, x < g13.length → x = 0 ∨ x = 1 ∨ x = 2 := fun x hx => by have : x < 3 := hx; omega
  refine ⟨fun x y hx hy => ?_, fun x hx => ?_, fun k hk => ?_⟩
  · rcases lt3 x hx with rfl | rfl | rfl <;> rcases lt3 y hy with rfl | rfl | rfl
    · exact ⟨fun _ => Sc.refl _ _, fun _ => rfl⟩
    · exact ⟨fun _ => ⟨g13_01, g13_10⟩, fun _ => rfl⟩
    · exact ⟨fun e => absurd e (by decide), fun s => by cases g13_two s.2⟩
    · exact ⟨fun _ => ⟨g13_10, g13_01⟩, fun _ => rfl⟩
    · exact ⟨fun _ => Sc.refl _ _, fun _ => rfl⟩
    · exact ⟨fun e => absurd e (by decide), fun s => by cases g13_two s.2⟩
    · exact ⟨fun e => absurd e (by decide), fun s => by cases g13_two s.1⟩
    · exact ⟨fun e => absurd e (by decide), fun s => by cases g13_two s.1⟩
    · exact ⟨fun _ => Sc.refl _ _, fun _ => rfl⟩
  · unfold n13; split <;> omega
  · obtain rfl | rfl : k = 0 ∨ k = 1 := by omega
    · refine ⟨2, by decide, rfl, ⟨by decide, fun y r => .inr (by rw [g13_two r]; exact .refl _)⟩, fun m hm q => ?_⟩
      rcases lt3 m hm with rfl | rfl | rfl
      · rcases q.2 2 (g13_01.trans g13_12) with w | w
        · exact absurd w (Nat.not_lt_zero _)
        · cases g13_two w
      · rcases q.2 2 g13_12 with w | w
        · exact absurd w (Nat.not_lt_zero _)
        · cases g13_two w
      · exact Nat.le_refl _
    · refine ⟨0, by decide, rfl, ⟨by decide, fun y r => ?_⟩, fun m hm q => Nat.zero_le _⟩
      have hy : y < g13.length := r.lt (N := g13.length) (by decide) (by decide)
      rcases lt3 y hy with rfl | rfl | rfl
      · exact .inr (.refl _)
      · exact .inr g13_10
      · exact .inl (by decide)
theorem g13_may : mayB g13 = true := by decide
theorem g13_of : ofF g13 = [1, 1, 0] := (of_eq g13_may g13_nmb).2.2.trans (by decide)
theorem g13_many : manyN g13 = 2 := (of_eq g13_may g13_nmb).1.symm
theorem g13_num : ∀ x, x < 3 → numN g13 x = n13 x := fun x hx => ((of_eq g13_may g13_nmb).2.1 x hx).symm
theorem g13_fold : foldF g13 = [[], [0]] := by
  have e0 : ¬ Ldg (adjF g13) 3 (numN g13) 0 1 := by
    rintro ⟨x, hx, e, y, hy, _⟩
    rw [g13_num x hx] at e
    obtain rfl : x = 2 := by unfold n13 at e; split at e <;> omega
    cases hy
  have e1 : Ldg (adjF g13) 3 (numN g13) 1 0 := ⟨1, by decide, by rw [g13_num 1 (by decide)]; rfl, 2, by decide, by rw [g13_num 2 (by decide)]; rfl⟩
  unfold foldF foldR
  rw [g13_many]
  have r2 : List.range 2 = [0, 1] := rfl
  rw [r2, List.map_cons, List.map_cons, List.map_nil]
  have a00 : decide (0 ≠ 0 ∧ Ldg (adjF g13) g13.length (numN g13) 0 0) = false := decide_eq_false (fun h => h.1 rfl)
  have a01 : decide (1 ≠ 0 ∧ Ldg (adjF g13) g13.length (numN g13) 0 1) = false := decide_eq_false (fun h => e0 h.2)
  have a10 : decide (0 ≠ 1 ∧ Ldg (adjF g13) g13.length (numN g13) 1 0) = true := decide_eq_true ⟨by decide, e1⟩
  have a11 : decide (1 ≠ 1 ∧ Ldg (adjF g13) g13.length (numN g13) 1 1) = false := decide_eq_false (fun h => h.1 rfl)
  rw [List.filter_cons, a00, List.filter_cons, a01, List.filter_cons, a10, List.filter_cons, a11]
  rfl
theorem sm13 : Sm g13 := (may_gok g13_may).sm
theorem fixed13_ev : Ev (fun k => w13_fixed.f k) true := by
  refine Ev.bind (Ev.const g13) ?_
  refine Ev.bind (of_ev sm13) ?_
  rw [g13_of]
  refine Ev.bind (ints_ev _ (by decide)) ?_
  simp only [if_true]
  refine Ev.bind (many_ev sm13) ?_
  have e2 : manyF g13 = 2 := by unfold manyF; rw [g13_many]; rfl
  rw [e2]
  simp only [if_true]
  refine Ev.bind (fold_ev sm13) ?_
  rw [g13_fold]
  refine Ev.bind (same_ev _ ⟨by decide, fun i => ?_⟩) ?_
  · match i with
    | 0 => decide
    | 1 => decide
    | j + 2 => rw [List.getD_eq_getElem?_getD, List.getElem?_eq_none (by simp)]; decide
  simp only [if_true]
  have hs5 : Sm ([[5]] : List (List Int)) := ⟨by decide, fun i => by
    match i with
    | 0 => decide
    | j + 1 => rw [List.getD_eq_getElem?_getD, List.getElem?_eq_none (by simp)]; decide⟩
  refine Ev.bind (of_ev hs5) ?_
  have e5 : ofF [[5]] = [] := by
    unfold ofF
    rw [if_neg (by decide)]
  rw [e5]
  exact Ev.const _
theorem beq_nat (a b : Nat) : (((a : Int) == (b : Int))) = decide (a = b) := by
  rw [Bool.eq_iff_iff, beq_iff_eq, decide_eq_true_iff]; omega
section
variable {g : List (List Int)}
end
end Go.Proofs.Ytejhejpkfjhmkaa.Man
