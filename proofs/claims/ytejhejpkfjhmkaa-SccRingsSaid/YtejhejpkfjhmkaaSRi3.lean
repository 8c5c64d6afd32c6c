/- A part of the proof that SccRings returns true for every argument. Parts: ScB ScF ScI ScJ HpL ScM ScN ScO ScG ScH ScP ScQ ScS Knt ScR ScT Pr3 Pr4 Pr5. No conditions beyond the given statement's own. -/
import Derived.Test.YtejhejpkfjhmkaaSRi2
import Derived.StillTailTactics

namespace Go.Proofs.Ytejhejpkfjhmkaa.Man
open Go.RowKit Go.Shelf Go.Proofs.Ytejhejpkfjhmkaa.Pr Go.Proofs.YtejhejpkfjhmkaaW.PrintWords Go.Proofs.YtejhejpkfjhmkaaW.PrintMore Go.Proofs.Ytejhejpkfjhmkaa.Tarj
attribute [local go_sem] Oper.semAt_some max2_int min2_int max_two min_two
set_option linter.unusedVariables false
set_option linter.unusedSimpArgs false
theorem imin' {a b m : Nat} (h : m = min a b) : (if b < a then (b : Int) else (a : Int)) = (m : Int) := by
  split <;> omega
theorem pzS (n : Nat) (h : n ≤ 1000) : wrap64 ((n : Int) + 1) = ((n + 1 : Nat) : Int) := by simp only [wrap64]; omega
theorem stack_le {adj : Nat → List Nat} {N : Nat} {s : St} {G : List Nat} (h : tot s = s.next) (hc : cnt N s ≤ N) : s.stack.length ≤ N := by
  unfold tot at h; unfold cnt at hc; omega
theorem flat_le : ∀ (L : List (List Nat)), (∀ l, l ∈ L → l ≠ []) → L.length ≤ L.flatten.length
  | [], _ => Nat.le_refl _
  | a :: r, h => by
    have h1 := flat_le r (fun l hl => h l (List.mem_cons_of_mem _ hl))
    have h2 := List.length_pos_iff.2 (h a List.mem_cons_self)
    simp only [List.flatten_cons, List.length_append, List.length_cons]
    omega
theorem knots_le {adj : Nat → List Nat} {N : Nat} {s : St} {G : List Nat} (hi : Inv adj N s G) (h : tot s = s.next) (hc : cnt N s ≤ N) : s.knots.length ≤ N := by
  have := flat_le s.knots (fun l hl => (hi.kcl l hl).1)
  unfold tot at h; unfold cnt at hc; omega
theorem rowA {W : World} {ok : Nat → Prop} {A : Option Addr} {n : Nat} {g : List (List Int)} (h : Kd.F kL W ok A n g) (i : Nat) (hi : i < n) :
    ∃ ad A0 c0, A = some ad ∧ W.cell? (ad.add i) = some (.slice A0 (g.getD i []).length c0) ∧ (g.getD i []).length ≤ c0 ∧ Kd.F kI W ok A0 (g.getD i []).length (g.getD i []) := by
  obtain ⟨ad', c, e, hcl, hK, hcc, _⟩ := Kd.F_get h [] (i : Int) (by omega) (by omega)
  rw [Int.toNat_natCast] at hK hcc
  obtain ⟨A0, c0, rfl, hle, _⟩ := Kd.FK_now hK
  refine ⟨ad', A0, c0, e, by have hq := hcc 0 _ rfl; simpa [Kd.slice] using hq, hle, fun W' hW => ?_⟩
  obtain ⟨A1, c1, e1, _, hC⟩ := hK W' hW
  injection e1 with e2 _
  injection e2 with e3 _ _
  rw [e3]; exact hC
structure VL (B F b1 b2 b4 : Nat) (A : Option Addr) (c : Nat) (g : List (List Int)) (k : Nat) (n : Nat) (s : St) (G : List Nat) (W0 : World) (j : Nat) (t : St) (e : List Nat) (vs vk : Value) (W : World) : Prop where
  is : t = ((adjF g n).take j).foldl (stepF (visitF (adjF g) k) n) (enterF n s)
  li : LInv (adjF g) g.length n s t G ((adjF g n).take j) e
  fs : FS B F b1 b2 b4 A c g t vs vk W
  be : Below B W0 W
  ct : cnt g.length t ≤ g.length
  tt : tot t = t.next
  bz : B ≤ W.heap.size
section
variable {B F b1 b2 b4 : Nat} {A : Option Addr} {c : Nat} {g : List (List Int)} {k n : Nat} {s : St} {G : List Nat} {W0 W : World} {j : Nat} {t : St} {e : List Nat} {vs vk : Value}
theorem VL.pre (h : VL B F b1 b2 b4 A c g k n s G W0 j t e vs vk W) (hs : Inv (adjF g) g.length s G) (hn : n < g.length) (hw : whites g.length s ≤ k + 1) {m : Nat} (hm : m ∈ adjF g n) : (∀ z, z ∈ n :: G → Tarj.Rch (adjF g) z m) ∧ whites g.length t ≤ k := by
  refine ⟨fun z hz => ?_, ?_⟩
  · rcases List.mem_cons.1 hz with rfl | hz
    · exact .one hm
    · refine Tarj.Rch.trans (h.li.inv.frG z (List.mem_cons_of_mem _ hz) n (by rw [h.li.ext]; simp) ?_) (.one hm)
      rw [h.li.idn, (h.li.keep z (hs.svis z (h.li.gs z hz))).1]
      exact Nat.le_succ_of_le (hs.ile z)
  · have := whites_lt (t := t) hn (fun x hx => by rw [(h.li.keep x hx).1]; exact hx) h.li.nw (by rw [h.li.idn]; exact Nat.succ_ne_zero _)
    omega
theorem VL.next (h : VL B F b1 b2 b4 A c g k n s G W0 j t e vs vk W) (hgo : GOk g) (hs : Inv (adjF g) g.length s G) (hn : n < g.length) (hw : whites g.length s ≤ k + 1) {m : Nat} (hm : (adjF g n)[j]? = some m) {W1 : World} {vs1 vk1 : Value}
    (hfs : FS B F b1 b2 b4 A c g (stepF (visitF (adjF g) k) n t m) vs1 vk1 W1) (hb : Below B W W1) : ∃ e1, VL B F b1 b2 b4 A c g k n s G W0 (j + 1) (stepF (visitF (adjF g) k) n t m) e1 vs1 vk1 W1 := by
  obtain ⟨hj, hje⟩ := List.getElem?_eq_some_iff.1 hm
  have hmem : m ∈ adjF g n := hje ▸ List.getElem_mem hj
  have htk : (adjF g n).take (j + 1) = (adjF g n).take j ++ [m] := by rw [List.take_succ_eq_append_getElem hj, hje]
  obtain ⟨p1, p2⟩ := h.pre hs hn hw hmem
  obtain ⟨e1, he1⟩ := step_ok (vis := visitF (adjF g) k) h.li hmem (fun h0 => visit_ok hgo.adj k t (n :: G) m h.li.inv h0 (hgo.adj n hn m hmem) p1 p2)
  have hct : cnt g.length (stepF (visitF (adjF g) k) n t m) = cnt g.length t ∧ (tot t = t.next → tot (stepF (visitF (adjF g) k) n t m) = (stepF (visitF (adjF g) k) n t m).next) := by
    unfold stepF
    split
    · next h0 => exact visit_cnt hgo.adj k m t (hgo.adj n hn m hmem) h0
    · split <;> exact ⟨rfl, fun h => h⟩
  exact ⟨e1, by rw [htk, List.foldl_append, ← h.is]; rfl, by rw [htk]; exact he1, hfs, h.be.trans hb, by rw [hct.1]; exact h.ct, hct.2 h.tt, Nat.le_trans h.bz hb.size⟩
end
set_option maxRecDepth 100000 in
set_option maxHeartbeats 16000000 in
theorem visit_any (g : List (List Int)) (hgo : GOk g) (A : Option Addr) (c B F b1 b2 b4 : Nat) : ∀ (k : Nat) (s : St) (G : List Nat) (n : Nat) (vs vk : Value) (W : World),
    FS B F b1 b2 b4 A c g s vs vk W → Inv (adjF g) g.length s G → cnt g.length s ≤ g.length → tot s = s.next → s.index n = 0 → n < g.length → (∀ z, z ∈ G → Tarj.Rch (adjF g) z n) → whites g.length s ≤ k → B ≤ W.heap.size →
    Calls Try.prog 22 #[.pointer (some ⟨F, 0, none⟩), .int .i64 (n : Nat)] W fun e W' => e = .returned (.tuple #[]) ∧ (∃ vs' vk', FS B F b1 b2 b4 A c g (visitF (adjF g) k n s) vs' vk' W') ∧ Below B W W' := by
  intro k
  induction k with
  | zero =>
    intro s G n vs vk W hfs hinv hc ht h0 hn hG hw hB
    exfalso
    have : whites g.length s = 0 := Nat.le_zero.1 hw
    unfold whites at this
    rw [List.countP_eq_zero] at this
    exact this n (List.mem_range.2 hn) (by simpa using h0)
  | succ k ih =>
    intro s G n vs vk W hfs hinv hc ht h0 hn hG hw hB
    have hn0 : (0 : Int) ≤ (n : Int) := Int.natCast_nonneg n
    have hsn : s.next ≤ 1000 := by have := hgo.len; unfold cnt at hc; omega
    have hnx : wrap64 ((s.next : Int) + 1) = ((s.next + 1 : Nat) : Int) := by simp only [wrap64]; omega
    have LST := Lib.hid (show ((toI s.stack).length + 1) * 8 ≤ 140737488355328 by have := stack_le (adj := adjF g) (G := G) ht hc; have := hgo.len; simp only [toI, List.length_map]; omega)
    have IH := Lib.hid ih
    have GO := Lib.hid hgo
    have FS0 := Lib.hid hfs
    have INV := Lib.hid hinv
    have HC := Lib.hid hc
    have HT := Lib.hid ht
    have H0 := Lib.hid h0
    have HGR := Lib.hid hG
    have HW := Lib.hid hw
    have HBW := Lib.hid hB
    have ck := hfs.cf
    clear ih hgo hfs hinv hc ht h0 hG hw hB
    go_enter Try.func22, Try.ntmps22
    go_upto_region 1 with (fail)
    have h1 : FS B F b1 b2 b4 A c g { s with next := s.next + 1 } vs vk (W.setCell ⟨F, 5, none⟩ (.int .i64 ((s.next : Int) + 1))) := FS0.out.setNext (s.next + 1)
    have hb1 := (FS0.out.far F 5 (.inl rfl) (.int .i64 ((s.next : Int) + 1))).2.2.2
    clear ck
    generalize W.setCell ⟨F, 5, none⟩ (.int .i64 ((s.next : Int) + 1)) = W1 at h1 hb1 ⊢
    have HB1 := Lib.hid hb1
    clear hb1
    refine (wpIn_wide (n := 5)).1 ?_
    refine wpIn_region_any mixedO ?_
    refine wpAnyIn_flow _ (fun ix_ => match ix_ with | 0 => .pointer (some ⟨F, 0, none⟩) | 1 => .pointer (some ⟨F, 0, none⟩) | 2 => .pointer (some ⟨F, 1, none⟩) | 3 => .slice (some ⟨b1, 0, none⟩) g.length g.length | 4 => .int .i64 (n : Nat) | 5 => .pointer (some ⟨F, 0, none⟩) | 6 => .pointer (some ⟨F, 0, none⟩) | 7 => .pointer (some ⟨F, 2, none⟩) | 8 => .slice (some ⟨b2, 0, none⟩) g.length g.length | 9 => .int .i64 (n : Nat) | 10 => .pointer (some ⟨F, 0, none⟩) | 11 => .pointer (some ⟨F, 0, none⟩) | 12 => .pointer (some ⟨F, 5, none⟩) | 13 => .int .i64 ((s.next + 1 : Nat) : Int) | 14 => .pointer (some ⟨F, 0, none⟩) | 15 => .pointer (some ⟨F, 0, none⟩) | 16 => .pointer (some ⟨F, 5, none⟩) | 17 => .int .i64 ((s.next + 1 : Nat) : Int) | 18 => .pointer (some ⟨b1, n, none⟩) | 19 => undef | 20 => .pointer (some ⟨b2, n, none⟩) | 21 => undef | _ => undef) (fun done Z => FS B F b1 b2 b4 A c g ({ s with next := s.next + 1, index := if done 19 = true then Tarj.upd s.index n (s.next + 1) else s.index, low := if done 21 = true then Tarj.upd s.low n (s.next + 1) else s.low }) vs vk Z ∧ Below B W1 Z) rfl (by kernel_rfl) _ ?hzr1 ?str1 ?enr1
    case hzr1 => exact ⟨h1.below (below_drew (Below.refl _ _)), below_drew (Below.refl _ _)⟩
    case str1 =>
      intro m op done a Z ho hdn hdep hag hS K2 hK2
      have hm : m < 22 := by
        by_cases h : m < 22
        · exact h
        · rw [Array.getElem?_eq_none (by simp; omega)] at ho; cases ho
      obtain ⟨⟨zf0, zf1, zf2, zf3, zf4, zf5, zf6⟩, zr3, zr5, zr6⟩ := hS.1.cf
      obtain ⟨⟨zn1, zn2, zn4⟩, zg1, zg2, zg4⟩ := hS.1.cn hn
      obtain rfl | rfl | rfl | rfl | rfl | rfl | rfl | rfl | rfl | rfl | rfl | rfl | rfl | rfl | rfl | rfl | rfl | rfl | rfl | rfl | rfl | rfl : m = 0 ∨ m = 1 ∨ m = 2 ∨ m = 3 ∨ m = 4 ∨ m = 5 ∨ m = 6 ∨ m = 7 ∨ m = 8 ∨ m = 9 ∨ m = 10 ∨ m = 11 ∨ m = 12 ∨ m = 13 ∨ m = 14 ∨ m = 15 ∨ m = 16 ∨ m = 17 ∨ m = 18 ∨ m = 19 ∨ m = 20 ∨ m = 21 := by omega
      · cases ho
        have e0 : a.eval (.tmp 0) = .pointer (some ⟨F, 0, none⟩) := hag.keep 0 rfl
        refine opIn_value (i := 0) rfl rfl (fun c h => by cases h) rfl ?_ (hK2 Z hS)
        have ec : ∀ v, a.eval (.const v) = v := fun _ => rfl
        generalize a.eval = ev at *
        simp [execOp, go_sem, ec, e0]
      · cases ho
        have e13 := hag.val_ (j := 0) (t := 13) rfl (hdep ⟨0, .data⟩ (by simp) rfl)
        refine opIn_value (i := 1) rfl rfl (fun c h => by cases h) rfl ?_ (hK2 Z hS)
        have ec : ∀ v, a.eval (.const v) = v := fun _ => rfl
        generalize a.eval = ev at *
        simp [execOp, go_sem, ec, e13]
      · cases ho
        have e14 := hag.val_ (j := 1) (t := 14) rfl (hdep ⟨1, .data⟩ (by simp) rfl)
        refine opIn_value (i := 2) rfl rfl (fun c h => by cases h) rfl ?_ (hK2 Z hS)
        have ec : ∀ v, a.eval (.const v) = v := fun _ => rfl
        generalize a.eval = ev at *
        simp [execOp, go_sem, ec, e14]
      · cases ho
        have e15 := hag.val_ (j := 2) (t := 15) rfl (hdep ⟨2, .data⟩ (by simp) rfl)
        refine opIn_value (i := 3) rfl rfl (fun c h => by cases h) rfl ?_ (hK2 Z hS)
        have ec : ∀ v, a.eval (.const v) = v := fun _ => rfl
        generalize a.eval = ev at *
        simp [execOp, go_sem, ec, e15, zf1]
      · cases ho
        have e1 : a.eval (.tmp 1) = .int .i64 (n : Nat) := hag.keep 1 rfl
        refine opIn_value (i := 4) rfl rfl (fun c h => by cases h) rfl ?_ (hK2 Z hS)
        have ec : ∀ v, a.eval (.const v) = v := fun _ => rfl
        generalize a.eval = ev at *
        simp [execOp, go_sem, ec, e1]
      · cases ho
        have e0 : a.eval (.tmp 0) = .pointer (some ⟨F, 0, none⟩) := hag.keep 0 rfl
        refine opIn_value (i := 5) rfl rfl (fun c h => by cases h) rfl ?_ (hK2 Z hS)
        have ec : ∀ v, a.eval (.const v) = v := fun _ => rfl
        generalize a.eval = ev at *
        simp [execOp, go_sem, ec, e0]
      · cases ho
        have e18 := hag.val_ (j := 5) (t := 18) rfl (hdep ⟨5, .data⟩ (by simp) rfl)
        refine opIn_value (i := 6) rfl rfl (fun c h => by cases h) rfl ?_ (hK2 Z hS)
        have ec : ∀ v, a.eval (.const v) = v := fun _ => rfl
        generalize a.eval = ev at *
        simp [execOp, go_sem, ec, e18]
      · cases ho
        have e19 := hag.val_ (j := 6) (t := 19) rfl (hdep ⟨6, .data⟩ (by simp) rfl)
        refine opIn_value (i := 7) rfl rfl (fun c h => by cases h) rfl ?_ (hK2 Z hS)
        have ec : ∀ v, a.eval (.const v) = v := fun _ => rfl
        generalize a.eval = ev at *
        simp [execOp, go_sem, ec, e19]
      · cases ho
        have e20 := hag.val_ (j := 7) (t := 20) rfl (hdep ⟨7, .data⟩ (by simp) rfl)
        refine opIn_value (i := 8) rfl rfl (fun c h => by cases h) rfl ?_ (hK2 Z hS)
        have ec : ∀ v, a.eval (.const v) = v := fun _ => rfl
        generalize a.eval = ev at *
        simp [execOp, go_sem, ec, e20, zf2]
      · cases ho
        have e1 : a.eval (.tmp 1) = .int .i64 (n : Nat) := hag.keep 1 rfl
        refine opIn_value (i := 9) rfl rfl (fun c h => by cases h) rfl ?_ (hK2 Z hS)
        have ec : ∀ v, a.eval (.const v) = v := fun _ => rfl
        generalize a.eval = ev at *
        simp [execOp, go_sem, ec, e1]
      · cases ho
        have e0 : a.eval (.tmp 0) = .pointer (some ⟨F, 0, none⟩) := hag.keep 0 rfl
        refine opIn_value (i := 10) rfl rfl (fun c h => by cases h) rfl ?_ (hK2 Z hS)
        have ec : ∀ v, a.eval (.const v) = v := fun _ => rfl
        generalize a.eval = ev at *
        simp [execOp, go_sem, ec, e0]
      · cases ho
        have e23 := hag.val_ (j := 10) (t := 23) rfl (hdep ⟨10, .data⟩ (by simp) rfl)
        refine opIn_value (i := 11) rfl rfl (fun c h => by cases h) rfl ?_ (hK2 Z hS)
        have ec : ∀ v, a.eval (.const v) = v := fun _ => rfl
        generalize a.eval = ev at *
        simp [execOp, go_sem, ec, e23]
      · cases ho
        have e24 := hag.val_ (j := 11) (t := 24) rfl (hdep ⟨11, .data⟩ (by simp) rfl)
        refine opIn_value (i := 12) rfl rfl (fun c h => by cases h) rfl ?_ (hK2 Z hS)
        have ec : ∀ v, a.eval (.const v) = v := fun _ => rfl
        generalize a.eval = ev at *
        simp [execOp, go_sem, ec, e24]
      · cases ho
        have e25 := hag.val_ (j := 12) (t := 25) rfl (hdep ⟨12, .data⟩ (by simp) rfl)
        refine opIn_value (i := 13) rfl rfl (fun c h => by cases h) rfl ?_ (hK2 Z hS)
        have ec : ∀ v, a.eval (.const v) = v := fun _ => rfl
        generalize a.eval = ev at *
        simp [execOp, go_sem, ec, e25, zf5]
      · cases ho
        have e0 : a.eval (.tmp 0) = .pointer (some ⟨F, 0, none⟩) := hag.keep 0 rfl
        refine opIn_value (i := 14) rfl rfl (fun c h => by cases h) rfl ?_ (hK2 Z hS)
        have ec : ∀ v, a.eval (.const v) = v := fun _ => rfl
        generalize a.eval = ev at *
        simp [execOp, go_sem, ec, e0]
      · cases ho
        have e27 := hag.val_ (j := 14) (t := 27) rfl (hdep ⟨14, .data⟩ (by simp) rfl)
        refine opIn_value (i := 15) rfl rfl (fun c h => by cases h) rfl ?_ (hK2 Z hS)
        have ec : ∀ v, a.eval (.const v) = v := fun _ => rfl
        generalize a.eval = ev at *
        simp [execOp, go_sem, ec, e27]
      · cases ho
        have e28 := hag.val_ (j := 15) (t := 28) rfl (hdep ⟨15, .data⟩ (by simp) rfl)
        refine opIn_value (i := 16) rfl rfl (fun c h => by cases h) rfl ?_ (hK2 Z hS)
        have ec : ∀ v, a.eval (.const v) = v := fun _ => rfl
        generalize a.eval = ev at *
        simp [execOp, go_sem, ec, e28]
      · cases ho
        have e29 := hag.val_ (j := 16) (t := 29) rfl (hdep ⟨16, .data⟩ (by simp) rfl)
        refine opIn_value (i := 17) rfl rfl (fun c h => by cases h) rfl ?_ (hK2 Z hS)
        have ec : ∀ v, a.eval (.const v) = v := fun _ => rfl
        generalize a.eval = ev at *
        simp [execOp, go_sem, ec, e29, zf5]
      · cases ho
        have e16 := hag.val_ (j := 3) (t := 16) rfl (hdep ⟨3, .data⟩ (by simp) rfl)
        have e17 := hag.val_ (j := 4) (t := 17) rfl (hdep ⟨4, .data⟩ (by simp) rfl)
        refine opIn_value (i := 18) rfl rfl (fun c h => by cases h) ?_ ?_ (hK2 Z hS)
        · generalize a.eval = ev at *
          simp [Oper.about, resolve, Target.leads, Sem.run_pure, go_sem, e16, e17, hn, hn0]
        · have ec : ∀ v, a.eval (.const v) = v := fun _ => rfl
          generalize a.eval = ev at *
          simp [execOp, go_sem, ec, e16, e17, hn, hn0]
      · cases ho
        have e31 := hag.val_ (j := 18) (t := 31) rfl (hdep ⟨18, .data⟩ (by simp) rfl)
        have e26 := hag.val_ (j := 13) (t := 26) rfl (hdep ⟨13, .data⟩ (by simp) rfl)
        refine wpOpIn_skip (i := 19) rfl rfl (fun c h => by cases h) rfl (w' := Z.setCell ⟨b1, n, none⟩ (.int .i64 ((s.next + 1 : Nat) : Int))) ?_ (hK2 _ (⟨by simpa [Man.upd, hdn] using hS.1.setIndex n (s.next + 1), hS.2.trans (hS.1.far b1 n (.inr (.inl rfl)) _).2.2.2⟩))
        have ec : ∀ v, a.eval (.const v) = v := fun _ => rfl
        generalize a.eval = ev at *
        simp [execOp, go_sem, ec, e31, e26, zn1, zg1]
      · cases ho
        have e21 := hag.val_ (j := 8) (t := 21) rfl (hdep ⟨8, .data⟩ (by simp) rfl)
        have e22 := hag.val_ (j := 9) (t := 22) rfl (hdep ⟨9, .data⟩ (by simp) rfl)
        refine opIn_value (i := 20) rfl rfl (fun c h => by cases h) ?_ ?_ (hK2 Z hS)
        · generalize a.eval = ev at *
          simp [Oper.about, resolve, Target.leads, Sem.run_pure, go_sem, e21, e22, hn, hn0]
        · have ec : ∀ v, a.eval (.const v) = v := fun _ => rfl
          generalize a.eval = ev at *
          simp [execOp, go_sem, ec, e21, e22, hn, hn0]
      · cases ho
        have e32 := hag.val_ (j := 20) (t := 32) rfl (hdep ⟨20, .data⟩ (by simp) rfl)
        have e30 := hag.val_ (j := 17) (t := 30) rfl (hdep ⟨17, .data⟩ (by simp) rfl)
        refine wpOpIn_skip (i := 21) rfl rfl (fun c h => by cases h) rfl (w' := Z.setCell ⟨b2, n, none⟩ (.int .i64 ((s.next + 1 : Nat) : Int))) ?_ (hK2 _ (⟨by simpa [Man.upd, hdn] using hS.1.setLow n (s.next + 1), hS.2.trans (hS.1.far b2 n (.inr (.inr (.inl rfl))) _).2.2.2⟩))
        have ec : ∀ v, a.eval (.const v) = v := fun _ => rfl
        generalize a.eval = ev at *
        simp [execOp, go_sem, ec, e32, e30, zn2, zg2]
    case enr1 =>
      intro Z1 done hdn hS
      simp only [putTmps, dstOf, List.size_toArray, List.length_cons, List.length_nil, Nat.reduceAdd, List.getElem?_toArray, List.getElem?_cons_zero, List.getElem?_cons_succ, Option.bind_some, List.setIfInBounds_toArray, List.set_cons_zero, List.set_cons_succ]
      obtain ⟨fs1, be1⟩ := hS
      simp only [hdn 19 (by decide), hdn 21 (by decide), if_true] at fs1
      have FS1 := Lib.hid fs1
      have BE1 := Lib.hid (HB1.out.trans be1)
      have HBZ := Lib.hid (show B ≤ Z1.heap.size from Nat.le_trans HBW.out BE1.out.size)
      have ST1 := Lib.hid fs1.st
      have FR1 := Lib.hid (show ∀ q, Z1.heap.size ≤ q → q ≠ b1 ∧ q ≠ b2 from fun q hq => ⟨fun x => absurd (blk_lt fs1.x) (Nat.not_lt.2 (x ▸ hq)), fun x => absurd (blk_lt fs1.l) (Nat.not_lt.2 (x ▸ hq))⟩)
      have ck := fs1.cf
      clear fs1 be1 hdn h1
      go_upto_region 3 with (first
        | ((with_reducible refine gate_builtin (b := .append) (xs := #[.tmp 37, .tmp 39]) rfl ?_); at_builtin; refine Kd.R_append kI B rfl (.tmp 37) (.tmp 39) 26 3 (.int .i64 0) 8 rfl Try.underlying26 info3 rfl (by decide) (by omega) vs (toI s.stack) (n : Int) [.int .i64 (n : Nat)] (fun k => k ≠ b1 ∧ k ≠ b2) (fun _ => False) rfl rfl ?mk (fun _ h => h.elim) FR1.out ST1.out (Below.refl B Z1) HBZ.out LST.out ?_; (case mk => rfl); intro v40 w40 ho hb hg hat; obtain ⟨A9, c9, e9, _, _⟩ := Kd.R_reads ho; obtain ⟨nn, hnn⟩ : ∃ nn, nn = (toI s.stack ++ [(n : Int)]).length := ⟨_, rfl⟩; rw [← hnn] at e9; subst e9; clear hnn; have HO := Lib.hid ho; have HG := Lib.hid hg; have HAT := Lib.hid hat; have HB40 := Lib.hid hb; have hf40 := blk_grown FS1.out.f hg FS1.out.nsF; have hfz := blk_frozen hf40 3; have hfc := blk_cell hf40 3; clear ho hb hg hat hf40 ck))
      have ho2 : kI.R 3 w40 B (fun q => q ≠ b1 ∧ q ≠ b2) (.slice A9 nn c9) (toI (s.stack ++ [n])) := by have := HO.out; simpa [toI] using this
      obtain ⟨fs2, be2⟩ := FS1.out.setStack ho2 HG.out HAT.out HB40.out
      clear hfz hfc ho2
      generalize w40.setCell ⟨F, 3, none⟩ (.slice A9 nn c9) = W3 at fs2 be2 ⊢
      have FS2 := Lib.hid fs2
      have BE2 := Lib.hid (BE1.out.trans be2)
      have ck := fs2.cf
      have cn := fs2.cn hn
      clear fs2 be2 HO HG HAT HB40 ST1 FR1 FS1 LST
      go_upto_region 4 with (fail)
      have fs3 : FS B F b1 b2 b4 A c g (enterF n s) (.slice A9 nn c9) vk (W3.setCell ⟨b4, n, none⟩ (.bool true)) := FS2.out.setOn n true
      have be3 := (FS2.out.far b4 n (.inr (.inr (.inr rfl))) (.bool true)).2.2.2
      clear ck cn
      generalize W3.setCell ⟨b4, n, none⟩ (.bool true) = W4 at fs3 be3 ⊢
      obtain ⟨ad, A0, c0, eA, hrow, hle, hF0⟩ := rowA fs3.gF n hn
      subst eA
      obtain ⟨row, hrw⟩ : ∃ r, r = g.getD n [] := ⟨_, rfl⟩
      rw [← hrw] at hrow hle hF0
      have FS3 := Lib.hid fs3
      have BE3 := Lib.hid (BE2.out.trans be3)
      have FR := Lib.hid hF0
      have RW := Lib.hid hrw
      have hrl : row.length ≤ 1000 := by rw [hrw]; exact GO.out.row n
      have ck := fs3.cf
      have HV0 := Lib.hid (show VL B F b1 b2 b4 (some ad) c g k n s G W 0 (enterF n s) [] (.slice A9 nn c9) vk W4 from ⟨rfl, by simpa using enter_ok INV.out H0.out hn HGR.out, FS3.out, BE3.out, by
        have := whites_enter hn H0.out
        have h2 := HC.out
        unfold cnt at h2 ⊢
        show s.next + 1 + _ ≤ _
        omega, by
        have := HT.out
        simp only [tot, enterF, List.length_append, List.length_cons, List.length_nil] at this ⊢
        omega, Nat.le_trans HBW.out BE3.out.size⟩)
      clear hF0 hrw fs3 be3
      go_wp2
      clear ck hrow
      go_loopg [57, 5] row.length (fun kq v57 v5 w' => ∃ (j : Nat) (t : St) (e : List Nat) (vs' vk' : Value), j + kq = row.length ∧ v57 = .int .i64 (j : Nat) ∧ Hid (VL B F b1 b2 b4 (some ad) c g k n s G W j t e vs' vk' w'))
      case atStart => exact ⟨0, _, _, _, _, by omega, rfl, HV0⟩
      case round =>
        obtain ⟨j, t, e, vs2, vk2, hj, rfl, HV⟩ := hrel
        have FW := Lib.hid (Kd.F_step (W1 := wr) FR.out (fun q hq _ => (HV.out.be.block q hq).trans (BE3.out.block q hq).symm))
        have ck := HV.out.fs.cf
        have cn := HV.out.fs.cn hn
        by_cases hlt : j < row.length
        · obtain ⟨ad0, eA0, hm⟩ := Kd.at_int (Kd.F_now FW.out) (j : Int) (Int.natCast_nonneg j) (Int.ofNat_lt.2 hlt)
          subst eA0
          rw [Int.toNat_natCast] at hm
          obtain ⟨mm, emm, hmn, hmj⟩ : ∃ mm : Nat, rd row (j : Int) = (mm : Int) ∧ mm < g.length ∧ (adjF g n)[j]? = some mm := by
            have RW' := RW.out
            have hlt' : j < (g.getD n []).length := by rw [← RW']; exact hlt
            obtain ⟨m0, m1⟩ := GO.out.ent n hn _ (List.getElem_mem hlt')
            refine ⟨((g.getD n [])[j]).toNat, ?_, by omega, by unfold adjF; rw [List.getElem?_map, List.getElem?_eq_getElem hlt']; rfl⟩
            unfold rd; rw [RW', Int.toNat_natCast, List.getD_eq_getElem?_getD (l := g.getD n []), List.getElem?_eq_getElem hlt', Option.getD_some]; omega
          rw [emm] at hm
          clear emm
          have HMJ := Lib.hid hmj
          have hmm0 : (0 : Int) ≤ (mm : Int) := Int.natCast_nonneg mm
          have cm := HV.out.fs.cn hmn
          have hw := pzS j (Nat.le_trans (Nat.le_of_lt hlt) hrl)
          obtain ⟨k1, rfl⟩ : ∃ k1, gk = k1 + 1 := ⟨gk - 1, by omega⟩
          have hmem : mm ∈ adjF g n := by obtain ⟨a, b⟩ := List.getElem?_eq_some_iff.1 hmj; exact b ▸ List.getElem_mem a
          clear hmj
          by_cases hi0 : t.index mm = 0
          · have hib : ((t.index mm : Int) == 0) = true := by rw [hi0]; rfl
            obtain ⟨p1, p2⟩ := HV.out.pre INV.out hn HW.out hmem
            have hcall := IH.out t (n :: G) mm vs2 vk2 wr HV.out.fs HV.out.li.inv HV.out.ct HV.out.tt hi0 hmn p1 p2 HV.out.bz
            obtain ⟨t2, ht2⟩ : ∃ t2, t2 = visitF (adjF g) k mm t := ⟨_, rfl⟩
            rw [← ht2] at hcall
            have HCALL := Lib.hid hcall
            have HI0 := Lib.hid hi0
            have HT2 := Lib.hid ht2
            clear hcall p1 p2 ht2 hi0 hmem
            go_upto_region 9 with (first
              | (go_at_call 22; with_reducible refine HCALL.out.mono ?_; rintro x w2 ⟨rfl, ⟨vs3, vk3, hfs3⟩, hbe3⟩; clear ck cn cm; have FS4 := Lib.hid hfs3; have BE4 := Lib.hid hbe3; have ck := hfs3.cf; have cn := hfs3.cn hn; have cm := hfs3.cn hmn; clear hfs3 hbe3))
            obtain ⟨mv, hmv⟩ : ∃ mv, mv = min (t2.low n) (t2.low mm) := ⟨_, rfl⟩
            have hmin := imin' hmv
            have HMV := Lib.hid hmv
            clear hmv
            go_still_tail 21, mixedO
            change wpList _ _ _ _ _ (World.drew w2)
            have fs5 := FS4.out.below (below_drew (Below.refl w2.heap.size w2))
            have be5 := BE4.out.trans (below_drew (Below.refl B w2))
            clear ck cn cm
            generalize World.drew w2 = w5 at fs5 be5 ⊢
            have ck := fs5.cf
            have cn := fs5.cn hn
            have FS5 := Lib.hid fs5
            have BE5 := Lib.hid be5
            clear fs5 be5
            go_wp2
            have fs6 : FS B F b1 b2 b4 (some ad) c g (stepF (visitF (adjF g) k) n t mm) vs3 vk3 (w5.setCell ⟨b2, n, none⟩ (.int .i64 (mv : Nat))) := by
              unfold stepF; rw [if_pos HI0.out, ← HT2.out, ← HMV.out]; exact FS5.out.setLow n _
            obtain ⟨e1, hv1⟩ := HV.out.next GO.out INV.out hn HW.out HMJ.out fs6 (BE5.out.trans (FS5.out.far b2 n (.inr (.inr (.inl rfl))) _).2.2.2)
            have HV1 := Lib.hid hv1
            clear hv1 fs6 hmin ck cn
            go_roundg k1
            case measure => exact Nat.lt_succ_self _
            case rel => exact ⟨j + 1, _, e1, _, _, by rw [Nat.add_assoc, Nat.add_comm 1]; exact hj, by first | rw [hw] | simp [hw], HV1⟩
          · have hib : ((t.index mm : Int) == 0) = false := by simpa using hi0
            have HI0 := Lib.hid hi0
            clear hi0 hmem
            by_cases hon : t.on mm = true
            · have HON := Lib.hid hon
              rw [hon] at cm
              clear hon
              go_upto_region 11 with (fail)
              obtain ⟨mv, hmv⟩ : ∃ mv, mv = min (t.low n) (t.index mm) := ⟨_, rfl⟩
              have hmin := imin' hmv
              have HMV := Lib.hid hmv
              clear hmv
              go_still_tail 21, mixedO
              change wpList _ _ _ _ _ (World.drew wr)
              have fs5 := HV.out.fs.below (below_drew (Below.refl wr.heap.size wr))
              have be5 := below_drew (Below.refl B wr)
              clear ck cn cm hm
              generalize World.drew wr = w5 at fs5 be5 ⊢
              have ck := fs5.cf
              have cn := fs5.cn hn
              have FS5 := Lib.hid fs5
              have BE5 := Lib.hid be5
              clear fs5 be5
              go_wp2
              have fs6 : FS B F b1 b2 b4 (some ad) c g (stepF (visitF (adjF g) k) n t mm) vs2 vk2 (w5.setCell ⟨b2, n, none⟩ (.int .i64 (mv : Nat))) := by
                unfold stepF; rw [if_neg HI0.out, if_pos HON.out, ← HMV.out]; exact FS5.out.setLow n _
              obtain ⟨e1, hv1⟩ := HV.out.next GO.out INV.out hn HW.out HMJ.out fs6 (BE5.out.trans (FS5.out.far b2 n (.inr (.inr (.inl rfl))) _).2.2.2)
              have HV1 := Lib.hid hv1
              clear hv1 fs6 hmin ck cn
              go_roundg k1
              case measure => exact Nat.lt_succ_self _
              case rel => exact ⟨j + 1, _, e1, _, _, by rw [Nat.add_assoc, Nat.add_comm 1]; exact hj, by first | rw [hw] | simp [hw], HV1⟩
            · have HON := Lib.hid hon
              have honf : t.on mm = false := by simpa using hon
              rw [honf] at cm
              clear hon honf
              go_wp2
              have fs6 : FS B F b1 b2 b4 (some ad) c g (stepF (visitF (adjF g) k) n t mm) vs2 vk2 wr := by
                unfold stepF; rw [if_neg HI0.out, if_neg HON.out]; exact HV.out.fs
              obtain ⟨e1, hv1⟩ := HV.out.next GO.out INV.out hn HW.out HMJ.out fs6 (Below.refl B wr)
              have HV1 := Lib.hid hv1
              clear hv1 fs6 ck cn cm hm
              go_roundg k1
              case measure => exact Nat.lt_succ_self _
              case rel => exact ⟨j + 1, _, e1, _, _, by rw [Nat.add_assoc, Nat.add_comm 1]; exact hj, by first | rw [hw] | simp [hw], HV1⟩
        · have hje : j = row.length := by omega
          have hlen : (adjF g n).length = row.length := by rw [RW.out]; simp [adjF]
          have hli : LInv (adjF g) g.length n s t G (adjF g n) e := by have := HV.out.li; rwa [hje, ← hlen, List.take_length] at this
          have hst : n ∈ t.stack := by rw [hli.ext]; simp
          have hvs : visitF (adjF g) (k + 1) n s = leaveF n t := by
            show leaveF n ((adjF g n).foldl (stepF (visitF (adjF g) k) n) (enterF n s)) = _
            rw [HV.out.is, hje, ← hlen, List.take_length]
          have HVS := Lib.hid hvs
          have HST := Lib.hid hst
          clear hli hvs hst hlen hje
          by_cases hl : t.low n = t.index n
          · have hlb : ((t.low n : Int) == (t.index n : Int)) = true := by rw [hl]; simp
            have HLF := Lib.hid (show leaveF n t = knotF n t by unfold leaveF; rw [if_pos hl])
            clear hl
            go_upto_region 13 with (fail)
            go_quiet (fail)
            have fs5 := HV.out.fs.below (pw_below_drewN (Below.refl wr.heap.size wr) nq)
            have be5 := pw_below_drewN (Below.refl B wr) nq
            have FS5 := Lib.hid fs5
            have BE5 := Lib.hid be5
            clear ck cn fs5 be5
            have hkc := knot_any g (some ad) c B F b1 b2 b4 t n vs2 vk2 (wr.drewN nq) FS5.out HST.out (fun x hx => HV.out.li.inv.vlt x (HV.out.li.inv.svis x hx)) (by have := stack_le (adj := adjF g) (G := G) HV.out.tt HV.out.ct; have := GO.out.len; omega) (by have := knots_le HV.out.li.inv HV.out.tt HV.out.ct; have := GO.out.len; omega) (Nat.le_trans HV.out.bz BE5.out.size)
            rw [← HLF.out, ← HVS.out] at hkc
            have HKC := Lib.hid hkc
            clear hkc
            go_wp2_with (first
              | (go_at_call 31; with_reducible refine HKC.out.mono ?_; rintro x w6 ⟨rfl, hfin, hbe6⟩; have HFIN := Lib.hid hfin; have BE6 := Lib.hid hbe6; clear hfin hbe6))
            refine bodyPost_end (results_none rfl _ _ _) rfl ?_
            exact ⟨rfl, HFIN.out, (HV.out.be.trans BE5.out).trans BE6.out⟩
          · have hlb : ((t.low n : Int) == (t.index n : Int)) = false := by simpa using (fun h => hl (by omega))
            have HLF := Lib.hid (show leaveF n t = t by unfold leaveF; rw [if_neg hl])
            clear hl
            go_upto_region 13 with (fail)
            go_quiet (fail)
            have fs5 := HV.out.fs.below (pw_below_drewN (Below.refl wr.heap.size wr) nq)
            have be5 := pw_below_drewN (Below.refl B wr) nq
            have FS5 := Lib.hid fs5
            have BE5 := Lib.hid be5
            clear ck cn fs5 be5
            go_wp2
            refine bodyPost_end (results_none rfl _ _ _) rfl ?_
            exact ⟨rfl, ⟨vs2, vk2, by rw [HVS.out, HLF.out]; exact FS5.out⟩, HV.out.be.trans BE5.out⟩
end Go.Proofs.Ytejhejpkfjhmkaa.Man

namespace Go.Proofs.Ytejhejpkfjhmkaa.Man
open Go.RowKit Go.Shelf Go.Proofs.Ytejhejpkfjhmkaa.Pr Go.Proofs.YtejhejpkfjhmkaaW.PrintWords Go.Proofs.Ytejhejpkfjhmkaa.Tarj
set_option linter.unusedVariables false
set_option linter.unusedSimpArgs false
def vals (N : Nat) (f : Nat → Value) : Array Value := ((List.range N).map f).toArray
theorem vals_set (N : Nat) (f : Nat → Value) (n : Nat) (v : Value) : (vals N f).setIfInBounds n v = vals N (Tarj.upd f n v) := by
  unfold vals
  rw [List.setIfInBounds_toArray, range_set]
theorem vals_get {N n : Nat} (f : Nat → Value) (h : n < N) : (vals N f)[n]? = some (f n) := by simp [vals, h]
structure FD (B bo M : Nat) (v : Nat → Value) (r : Nat → List Nat) (W : World) : Prop where
  o : W.heap[bo]? = some (.cells (vals M v) 26 (0, 0))
  r : ∀ i, i < M → kI.R 3 W B (fun k => k ≠ bo) (v i) (toI (r i))
  d : ∀ i j, i < M → j < M → i ≠ j → ∀ k, (v i).ownBlock = some k → (v j).ownBlock ≠ some k
  b : B ≤ bo
section
variable {B bo M : Nat} {v : Nat → Value} {r : Nat → List Nat} {W W1 : World}
theorem FD.below (h : FD B bo M v r W) (hb : Below W.heap.size W W1) : FD B bo M v r W1 :=
  ⟨blk_below h.o hb, fun i hi => Kd.R_below (h.r i hi) hb, h.d, h.b⟩
theorem FD.lt (h : FD B bo M v r W) {i : Nat} (hi : i < M) : ∀ k, (v i).ownBlock = some k → B ≤ k ∧ k < W.heap.size := fun k hk => by
  have ho := Kd.own_of_R (h.r i hi)
  obtain ⟨cells, hc⟩ := own_typed ho k hk
  exact ⟨own_base ho k hk, blk_lt hc⟩
theorem FD.ne (h : FD B bo M v r W) {i : Nat} (hi : i < M) : some bo ≠ (v i).ownBlock := fun e => (h.r i hi).1 bo e.symm rfl
theorem FD.put (h : FD B bo M v r W) {i : Nat} (hi : i < M) {v1 : Value} {xs : List Nat} (hr : kI.R 3 W1 B (fun k => k ≠ bo) v1 (toI xs)) (hg : W.grownBy W1 (v i).ownBlock) (hat : v1.ownBlock = (v i).ownBlock ∨ ∃ b, v1.ownBlock = some b ∧ W.heap.size ≤ b) :
    FD B bo M (Tarj.upd v i v1) (Tarj.upd r i xs) (W1.setCell ⟨bo, i, none⟩ v1) := by
  have ho := blk_grown h.o hg (h.ne hi)
  refine ⟨blk_put ho i _ (vals_set _ _ _ _), fun j hj => ?_, fun a b ha hb hne k hk => ?_, h.b⟩
  · by_cases e : j = i
    · subst e
      simp only [Tarj.upd, if_true]
      exact Kd.R_far (p := ⟨bo, j, none⟩) hr (fun k hk => hk) _
    · simp only [Tarj.upd, if_neg e]
      refine Kd.R_far (p := ⟨bo, i, none⟩) ?_ (fun k hk => hk) _
      refine Kd.R_mono (Kd.R_grown (Kd.R_reok (ok := fun k => some k = (v j).ownBlock) rfl (h.r j hj) (fun k hk => hk.symm)) hg (fun k hk e2 => h.d j i hj hi e k hk.symm e2.symm)) (fun k hk => (h.r j hj).1 k hk.symm)
  · simp only [Tarj.upd] at hk ⊢
    split at hk
    · next ea =>
      subst ea
      rw [if_neg (fun e => hne e.symm)]
      rcases hat with hat | ⟨q, hq, hle⟩
      · rw [hat] at hk; exact h.d a b ha hb hne k hk
      · rw [hq] at hk
        intro e
        have := (h.lt hb k e).2
        injection hk with hk
        omega
    · next ea =>
      by_cases eb : b = i
      · subst eb
        rw [if_pos rfl]
        rcases hat with hat | ⟨q, hq, hle⟩
        · rw [hat]; exact h.d a b ha hb hne k hk
        · rw [hq]
          intro e
          have := (h.lt ha k hk).2
          injection e with e
          omega
      · rw [if_neg eb]; exact h.d a b ha hb hne k hk
theorem FD.put_below (h : FD B bo M v r W) {i : Nat} (hi : i < M) (v1 : Value) (hg : W.grownBy W1 (v i).ownBlock) (hbb : Below B W W1) : Below B W (W1.setCell ⟨bo, i, none⟩ v1) := hbb.setCell (p := ⟨bo, i, none⟩) h.b _
theorem FD.reads (h : FD B bo M v r W) (hM : M ≤ 1000) : kL.C W (some ⟨bo, 0, none⟩) M ((List.range M).map fun i => toI (r i)) := by
  refine ⟨by simp, by omega, fun hp => ⟨⟨bo, 0, none⟩, rfl, fun j x hx => ?_⟩⟩
  obtain ⟨hj, rfl⟩ := List.getElem?_eq_some_iff.1 hx
  have hj' : j < M := by simpa using hj
  obtain ⟨A, c, e, hl, hC⟩ := Kd.R_reads (h.r j hj')
  simp only [List.getElem_map, List.getElem_range]
  refine ⟨[v j], rfl, ⟨A, c, by rw [e], hl, hC⟩, fun i u hu => ?_⟩
  match i, hu with
  | 0, hu =>
    simp only [List.getElem?_cons_zero, Option.some.injEq] at hu
    subst hu
    rw [add_flat]
    have : 0 + (j * kL.sz + 0) = j := by show 0 + (j * 1 + 0) = j; omega
    rw [this]
    exact (blk_cell h.o j).trans (vals_get _ hj')
theorem FD.cell (h : FD B bo M v r W) {i : Nat} (hi : i < M) : W.cell? ⟨bo, i, none⟩ = some (v i) ∧ W.frozen? ⟨bo, i, none⟩ = false := ⟨(blk_cell h.o i).trans (vals_get _ hi), blk_frozen h.o i⟩
theorem FD.made (hB : B ≤ W.heap.size) : FD B W.heap.size M (fun _ => .slice none 0 0) (fun _ => []) (W.alloc (.cells (vals M (fun _ => .slice none 0 0)) 26)) :=
  ⟨World.alloc_heap_new W _, fun i _ => Kd.R_nil _ _ _ _ _, fun i j _ _ _ k hk => by simp [Value.ownBlock] at hk, hB⟩
end
end Go.Proofs.Ytejhejpkfjhmkaa.Man

namespace Go.Proofs.Ytejhejpkfjhmkaa.Man
open Go.RowKit Go.Shelf Go.Proofs.Ytejhejpkfjhmkaa.Pr Go.Proofs.YtejhejpkfjhmkaaW.PrintWords Go.Proofs.YtejhejpkfjhmkaaW.PrintMore Go.Proofs.Ytejhejpkfjhmkaa.Tarj
attribute [local go_sem] Oper.semAt_some
set_option linter.unusedVariables false
set_option linter.unusedSimpArgs false
structure RS (B R bl K : Nat) (lw : Nat → Nat) (v : Value) (l : List Nat) (W : World) : Prop where
  r : W.heap[R]? = some (.cells #[v, .slice (some ⟨bl, 0, none⟩) K K] 43 (0, 0))
  lo : W.heap[bl]? = some (.cells (ints K lw) 3 (0, 0))
  st : kI.R 3 W B (fun _ => True) v (toI l)
  mem : ∀ x, x ∈ l → x < K
  b : B ≤ R
  bl : bl < B
  len : l.length ≤ 1000
structure Ht (B R : Nat) (W : World) (v : Value) (W' : World) (v' : Value) : Prop where
  be : Below B W W'
  bk : ∀ k, k < W.heap.size → k ≠ R → some k ≠ v.ownBlock → W'.heap[k]? = W.heap[k]?
  at_ : v'.ownBlock = v.ownBlock ∨ ∃ b, v'.ownBlock = some b ∧ W.heap.size ≤ b
section
variable {B R bl K : Nat} {lw : Nat → Nat} {v v1 v2 : Value} {l : List Nat} {W W1 W2 : World}
theorem Ht.refl (B R : Nat) (W : World) (v : Value) : Ht B R W v W v := ⟨Below.refl _ _, fun _ _ _ _ => rfl, .inl rfl⟩
theorem Ht.trans (h : Ht B R W v W1 v1) (k : Ht B R W1 v1 W2 v2) : Ht B R W v W2 v2 := by
  refine ⟨h.be.trans k.be, fun i hi hR hv => (k.bk i (Nat.lt_of_lt_of_le hi h.be.size) hR (fun e => ?_)).trans (h.bk i hi hR hv), ?_⟩
  · rcases h.at_ with a | ⟨b, a, hb⟩
    · rw [a] at e; exact hv e
    · rw [a] at e; injection e with e; omega
  · rcases k.at_ with a | ⟨b, a, hb⟩
    · rw [a]; exact h.at_
    · exact .inr ⟨b, a, Nat.le_trans h.be.size hb⟩
theorem Ht.drew (h : Ht B R W v W1 v1) (n : Nat) : Ht B R W v (W1.drewN n) v1 := h.trans ⟨pw_below_drewN (Below.refl _ _) n, fun _ _ _ _ => rfl, .inl rfl⟩
theorem RS.below (h : RS B R bl K lw v l W) (hb : Below W.heap.size W W1) : RS B R bl K lw v l W1 :=
  ⟨blk_below h.r hb, blk_below h.lo hb, Kd.R_below h.st hb, h.mem, h.b, h.bl, h.len⟩
theorem RS.drew (h : RS B R bl K lw v l W) (n : Nat) : RS B R bl K lw v l (W.drewN n) := h.below (pw_below_drewN (Below.refl _ _) n)
theorem RS.nR (h : RS B R bl K lw v l W) : some R ≠ v.ownBlock := Kd.R_ne h.st h.r (by decide)
theorem RS.nl (h : RS B R bl K lw v l W) : some bl ≠ v.ownBlock := fun e => by
  have := own_base (Kd.own_of_R h.st) bl e.symm
  have := h.bl
  omega
theorem RS.cf (h : RS B R bl K lw v l W) : W.cell? ⟨R, 0, none⟩ = some v ∧ W.cell? ⟨R, 1, none⟩ = some (.slice (some ⟨bl, 0, none⟩) K K) ∧ W.frozen? ⟨R, 0, none⟩ = false :=
  ⟨(blk_cell h.r 0).trans rfl, (blk_cell h.r 1).trans rfl, blk_frozen h.r 0⟩
theorem RS.lwc (h : RS B R bl K lw v l W) {x : Nat} (hx : x < K) : W.cell? ⟨bl, x, none⟩ = some (.int .i64 (lw x : Nat)) := (blk_cell h.lo x).trans (ints_get _ hx)
theorem RS.form (h : RS B R bl K lw v l W) (hp : 0 < l.length) : ∃ g cap, v = .slice (some ⟨g, 0, none⟩) l.length cap ∧ l.length ≤ cap ∧ (∀ i (hi : i < l.length), W.cell? ⟨g, i, none⟩ = some (.int .i64 (l[i] : Nat)) ∧ W.frozen? ⟨g, i, none⟩ = false) := by
  have ho := Kd.own_of_R h.st
  rcases ho.2 with ⟨rfl, h0⟩ | ⟨g, cap, cur, rfl, hb, hh, hn, hc, ht⟩
  · rw [toI_len] at h0; omega
  · rw [toI_len] at hn
    refine ⟨g, cap, by rw [toI_len], hn, fun i hi => ⟨?_, blk_frozen hh i⟩⟩
    obtain ⟨A, c, e, _, hC⟩ := Kd.R_reads h.st
    injection e with e1 _ _
    subst e1
    obtain ⟨ad, e2, hm⟩ := Kd.at_int hC (i : Int) (Int.natCast_nonneg i) (by rw [toI_len]; exact Int.ofNat_lt.2 hi)
    cases e2
    rw [Int.toNat_natCast, add_flat, Nat.zero_add] at hm
    rw [hm]; unfold rd; rw [Int.toNat_natCast, toI_get _ _ hi]
theorem RS.turn (h : RS B R bl K lw v l W) {l1 : List Nat} (hr : kI.R 3 W1 B (fun _ => True) v1 (toI l1)) (hg : W.grownBy W1 v.ownBlock) (hat : v1.ownBlock = v.ownBlock ∨ ∃ b, v1.ownBlock = some b ∧ W.heap.size ≤ b) (hbb : Below B W W1) (hm : ∀ x, x ∈ l1 → x < K) (hl : l1.length ≤ 1000) :
    RS B R bl K lw v1 l1 (W1.setCell ⟨R, 0, none⟩ v1) ∧ Ht B R W v (W1.setCell ⟨R, 0, none⟩ v1) v1 := by
  have hb := h.b
  have hlt := h.bl
  have hf := blk_grown h.r hg h.nR
  have n1 : some R ≠ v1.ownBlock := Kd.R_ne hr hf (by decide)
  refine ⟨⟨blk_put hf 0 _ rfl, blk_far (blk_grown h.lo hg h.nl) (show bl ≠ R by omega) _, ?_, hm, h.b, h.bl, hl⟩, hbb.setCell (p := ⟨R, 0, none⟩) hb _, fun k hk hR hv => ?_, hat⟩
  · exact Kd.R_mono (Kd.R_far (p := ⟨R, 0, none⟩) (Kd.R_reok (ok := fun k => some k = v1.ownBlock) rfl hr (fun k hk => hk.symm)) (fun k hk e => n1 (by rw [← hk]; exact congrArg some (show R = k from e.symm))) _) (fun _ _ => trivial)
  · rw [Below.heap_setCell _ _ _ _ hR]; exact hg.block k hk hv
end
end Go.Proofs.Ytejhejpkfjhmkaa.Man

namespace Go.Proofs.Ytejhejpkfjhmkaa.Man
open Go.RowKit Go.Shelf Go.Proofs.Ytejhejpkfjhmkaa.Pr Go.Proofs.YtejhejpkfjhmkaaW.PrintWords Go.Proofs.YtejhejpkfjhmkaaW.PrintMore Go.Proofs.Ytejhejpkfjhmkaa.Tarj
attribute [local go_sem] Oper.semAt_some
set_option linter.unusedVariables false
set_option linter.unusedSimpArgs false
theorem asInt (x : Int) (w : World) : (Instr.typeAssert (.iface 3 (.int .i64 x)) 20 3 false).run Try.prog w = .ok (.int .i64 x) w := by kernel_rfl
def ixP (R x : Nat) (v : Value) (i : Nat) : Value := match i with | 0 => .pointer (some ⟨R, 0, none⟩) | 1 => .pointer (some ⟨R, 0, none⟩) | 2 => .pointer (some ⟨R, 0, none⟩) | 3 => .pointer (some ⟨R, 0, none⟩) | 4 => v | 5 => .iface 3 (.int .i64 (x : Nat)) | 6 => .int .i64 (x : Nat) | 9 => .pointer (some ⟨R, 0, none⟩) | 10 => .pointer (some ⟨R, 0, none⟩) | _ => undef
def cstP (i : Nat) : Bool := i != 7 && i != 8 && i != 11
structure SP (B R bl K : Nat) (lw : Nat → Nat) (x : Nat) (l : List Nat) (v : Value) (W : World) (done : Nat → Bool) (val : Nat → Value) (Z : World) : Prop where
  rs : RS B R bl K lw v l W
  hx : x < K
  hl : l.length + 1 ≤ 1000
  vv : ∀ i, done i = true → cstP i = true → val i = ixP R x v i
  n4 : done 4 = false → done 8 = false
  n7 : done 7 = false → done 8 = false
  n8 : done 8 = false → done 11 = false
  p8 : done 8 = false → Below W.heap.size W Z
  b7 : done 7 = true → done 8 = false → ∃ Z0, Z = Z0.alloc (.cells #[.int .i64 (x : Nat)] 3) ∧ val 7 = .slice (some ⟨Z0.heap.size, 0, none⟩) 1 1 ∧ Below W.heap.size W Z0
  s8 : done 8 = true → done 11 = false → ∃ v1, val 8 = v1 ∧ kI.R 3 Z B (fun _ => True) v1 (toI (l ++ [x])) ∧ W.grownBy Z v.ownBlock ∧ (v1.ownBlock = v.ownBlock ∨ ∃ b, v1.ownBlock = some b ∧ W.heap.size ≤ b) ∧ Below B W Z
  s11 : done 11 = true → ∃ v1, RS B R bl K lw v1 (l ++ [x]) Z ∧ Ht B R W v Z v1
section
variable {B R bl K : Nat} {lw : Nat → Nat} {x : Nat} {l : List Nat} {v : Value} {W Z : World} {done : Nat → Bool} {val : Nat → Value}
theorem SP.start (h : RS B R bl K lw v l W) (hx : x < K) (hl : l.length + 1 ≤ 1000) : SP B R bl K lw x l v W (fun _ => false) (fun _ => undef) { W with drawn := W.drawn + 1 } :=
  ⟨h, hx, hl, by simp, fun _ => rfl, fun _ => rfl, fun _ => rfl, fun _ => (Below.refl W.heap.size W).drew, by simp, by simp, by simp⟩
theorem SP.v0 (h : SP B R bl K lw x l v W done val Z) (hd : done 0 = true) : val 0 = .pointer (some ⟨R, 0, none⟩) := h.vv 0 hd (by decide)
theorem SP.v1 (h : SP B R bl K lw x l v W done val Z) (hd : done 1 = true) : val 1 = .pointer (some ⟨R, 0, none⟩) := h.vv 1 hd (by decide)
theorem SP.v2 (h : SP B R bl K lw x l v W done val Z) (hd : done 2 = true) : val 2 = .pointer (some ⟨R, 0, none⟩) := h.vv 2 hd (by decide)
theorem SP.v3 (h : SP B R bl K lw x l v W done val Z) (hd : done 3 = true) : val 3 = .pointer (some ⟨R, 0, none⟩) := h.vv 3 hd (by decide)
theorem SP.v4 (h : SP B R bl K lw x l v W done val Z) (hd : done 4 = true) : val 4 = v := h.vv 4 hd (by decide)
theorem SP.v5 (h : SP B R bl K lw x l v W done val Z) (hd : done 5 = true) : val 5 = .iface 3 (.int .i64 (x : Nat)) := h.vv 5 hd (by decide)
theorem SP.v6 (h : SP B R bl K lw x l v W done val Z) (hd : done 6 = true) : val 6 = .int .i64 (x : Nat) := h.vv 6 hd (by decide)
theorem SP.v9 (h : SP B R bl K lw x l v W done val Z) (hd : done 9 = true) : val 9 = .pointer (some ⟨R, 0, none⟩) := h.vv 9 hd (by decide)
theorem SP.v10 (h : SP B R bl K lw x l v W done val Z) (hd : done 10 = true) : val 10 = .pointer (some ⟨R, 0, none⟩) := h.vv 10 hd (by decide)
theorem SP.do_ (h : SP B R bl K lw x l v W done val Z) (i : Nat) (hc : cstP i = true) {y : Value} (hy : y = ixP R x v i) : SP B R bl K lw x l v W (upd done i) (setv val i y) Z := by
  have e7 : i ≠ 7 := by rintro rfl; cases hc
  have e8 : i ≠ 8 := by rintro rfl; cases hc
  have e11 : i ≠ 11 := by rintro rfl; cases hc
  refine ⟨h.rs, h.hx, h.hl, fun j hj hcj => ?_, ?_, ?_, ?_, ?_, ?_, ?_, ?_⟩
  · simp only [upd, setv] at hj ⊢
    by_cases e : j = i
    · rw [if_pos e, e]; exact hy
    · rw [if_neg e] at hj ⊢; exact h.vv j hj hcj
  all_goals simp only [upd, setv, if_neg (Ne.symm e7), if_neg (Ne.symm e8), if_neg (Ne.symm e11)]
  · by_cases e : 4 = i
    · rw [if_pos e]; exact fun q => by cases q
    · rw [if_neg e]; exact h.n4
  · exact h.n7
  · exact h.n8
  · exact h.p8
  · exact h.b7
  · exact h.s8
  · exact h.s11
theorem SP.rd (h : SP B R bl K lw x l v W done val Z) (h4 : done 4 = false) : Z.cell? ⟨R, 0, none⟩ = some v := (h.rs.below (h.p8 (h.n4 h4))).cf.1
theorem SP.do7 (h : SP B R bl K lw x l v W done val Z) (hd : done 7 = false) : SP B R bl K lw x l v W (upd done 7) (setv val 7 (.slice (some ⟨Z.heap.size, 0, none⟩) 1 1)) (Z.alloc (.cells #[.int .i64 (x : Nat)] 3)) := by
  have h8 := h.n7 hd
  have h11 := h.n8 h8
  refine ⟨h.rs, h.hx, h.hl, fun j hj hcj => ?_, ?_, ?_, ?_, ?_, ?_, ?_, ?_⟩
  · have e : j ≠ 7 := by rintro rfl; cases hcj
    simp only [upd, setv, if_neg e] at hj ⊢
    exact h.vv j hj hcj
  all_goals simp only [upd, setv, if_true, if_neg (show (4 : Nat) ≠ 7 by decide), if_neg (show (8 : Nat) ≠ 7 by decide), if_neg (show (11 : Nat) ≠ 7 by decide)]
  · exact h.n4
  · exact fun q => by cases q
  · exact h.n8
  · exact fun q => below_alloc (h.p8 q) _
  · exact fun _ q => ⟨Z, rfl, rfl, h.p8 q⟩
  · intro q; rw [h8] at q; cases q
  · intro q; rw [h11] at q; cases q
theorem SP.do8 {Z0 w1 : World} {v1 : Value} (h : SP B R bl K lw x l v W done val Z) (h4 : done 4 = true) (h7 : done 7 = true) (hd : done 8 = false) (hb0 : Below W.heap.size W Z0)
    (hr : kI.R 3 w1 B (fun _ => True) v1 (toI l ++ [((x : Nat) : Int)])) (hb : Below B W w1) (hg : Z0.grownBy w1 v.ownBlock) (hat : v1.ownBlock = v.ownBlock ∨ ∃ b, v1.ownBlock = some b ∧ Z0.heap.size ≤ b) :
    SP B R bl K lw x l v W (upd done 8) (setv val 8 v1) w1 := by
  have h11 := h.n8 hd
  have hgW : W.grownBy w1 v.ownBlock := ⟨hb.os, hb.tape, hb.output, hb.size, fun k hk hne => (hg.block k (Nat.lt_of_lt_of_le hk hb0.size) hne).trans (hb0.block k hk)⟩
  refine ⟨h.rs, h.hx, h.hl, fun j hj hcj => ?_, ?_, ?_, ?_, ?_, ?_, ?_, ?_⟩
  · have e : j ≠ 8 := by rintro rfl; cases hcj
    simp only [upd, setv, if_neg e] at hj ⊢
    exact h.vv j hj hcj
  all_goals simp only [upd, setv, if_true, if_neg (show (4 : Nat) ≠ 8 by decide), if_neg (show (7 : Nat) ≠ 8 by decide), if_neg (show (11 : Nat) ≠ 8 by decide)]
  · intro q; rw [h4] at q; cases q
  · intro q; rw [h7] at q; cases q
  · exact fun q => by cases q
  · exact fun q => by cases q
  · exact fun _ q => by cases q
  · exact fun _ _ => ⟨v1, rfl, by simpa [toI] using hr, hgW, hat.imp_right (fun ⟨b, e, hle⟩ => ⟨b, e, Nat.le_trans hb0.size hle⟩), hb⟩
  · intro q; rw [h11] at q; cases q
theorem SP.at8 (h : SP B R bl K lw x l v W done val Z) (h8 : done 8 = true) (h11 : done 11 = false) :
    ∃ A9 n9 c9, val 8 = .slice A9 n9 c9 ∧ Z.cell? ⟨R, 0, none⟩ = some v ∧ Z.frozen? ⟨R, 0, none⟩ = false := by
  obtain ⟨v1, e, hr, hg, _, _⟩ := h.s8 h8 h11
  obtain ⟨A, c, e2, _, _⟩ := Kd.R_reads hr
  have ho := blk_grown h.rs.r hg h.rs.nR
  exact ⟨A, _, c, e.trans e2, (blk_cell ho 0).trans rfl, blk_frozen ho _⟩
theorem SP.do11 (h : SP B R bl K lw x l v W done val Z) (h8 : done 8 = true) (hd : done 11 = false) {y v1 : Value} (hv : val 8 = v1) :
    SP B R bl K lw x l v W (upd done 11) (setv val 11 y) (Z.setCell ⟨R, 0, none⟩ v1) := by
  obtain ⟨v2, e, hr, hg, hat, hb⟩ := h.s8 h8 hd
  obtain rfl : v1 = v2 := hv.symm.trans e
  obtain ⟨t1, t2⟩ := h.rs.turn hr hg hat hb (fun y hy => by
    rcases List.mem_append.1 hy with hy | hy
    · exact h.rs.mem y hy
    · rw [List.mem_singleton.1 hy]; exact h.hx) (by rw [List.length_append]; exact h.hl)
  refine ⟨h.rs, h.hx, h.hl, fun j hj hcj => ?_, ?_, ?_, ?_, ?_, ?_, ?_, ?_⟩
  · have e : j ≠ 11 := by rintro rfl; cases hcj
    simp only [upd, setv, if_neg e] at hj ⊢
    exact h.vv j hj hcj
  all_goals simp only [upd, setv, if_true, if_neg (show (4 : Nat) ≠ 11 by decide), if_neg (show (7 : Nat) ≠ 11 by decide), if_neg (show (8 : Nat) ≠ 11 by decide)]
  · exact h.n4
  · exact h.n7
  · intro q; rw [h8] at q; cases q
  · intro q; rw [h8] at q; cases q
  · intro _ q; rw [h8] at q; cases q
  · exact fun _ q => by cases q
  · exact fun _ => ⟨v1, t1, t2⟩
end
theorem len_any {B R bl K : Nat} {lw : Nat → Nat} {v : Value} {l : List Nat} {W : World} (h : RS B R bl K lw v l W) :
    Calls Try.prog 26 #[.pointer (some ⟨R, 0, none⟩)] W fun e W' => e = .returned (.int .i64 (l.length : Nat)) ∧ W' = W := by
  have ck := h.cf
  obtain ⟨A, c, rfl, _, _⟩ := Kd.R_reads h.st
  rw [toI_len] at ck
  go_enter Try.func26, Try.ntmps26
  go_wp2
  go_ret
  exact ⟨rfl, rfl⟩
theorem less_any {B R bl K : Nat} {lw : Nat → Nat} {v : Value} {l : List Nat} {W : World} (h : RS B R bl K lw v l W) (i j : Nat) (hi : i < l.length) (hj : j < l.length) :
    Calls Try.prog 74 #[.pointer (some ⟨R, 0, none⟩), .int .i64 (i : Nat), .int .i64 (j : Nat)] W fun e W' => e = .returned (.bool (decide (lw l[i] < lw l[j]))) ∧ ∃ n, W' = W.drewN n := by
  have ck := h.cf
  obtain ⟨gv, cap, rfl, hcap, hall⟩ := h.form (by omega)
  obtain ⟨a, ha⟩ : ∃ a, a = l[i] := ⟨_, rfl⟩
  obtain ⟨b, hb⟩ : ∃ b, b = l[j] := ⟨_, rfl⟩
  have zi := (hall i hi).1
  have zj := (hall j hj).1
  rw [← ha] at zi ⊢
  rw [← hb] at zj ⊢
  have hak : a < K := h.mem a (ha ▸ List.getElem_mem hi)
  have hbk : b < K := h.mem b (hb ▸ List.getElem_mem hj)
  have ya := h.lwc hak
  have yb := h.lwc hbk
  have ha0 : (0 : Int) ≤ (a : Int) := Int.natCast_nonneg a
  have hb0 : (0 : Int) ≤ (b : Int) := Int.natCast_nonneg b
  have hi0 : (0 : Int) ≤ (i : Int) := Int.natCast_nonneg i
  have hj0 : (0 : Int) ≤ (j : Int) := Int.natCast_nonneg j
  have hres : decide ((lw a : Int) < (lw b : Int)) = decide (lw a < lw b) := by simp
  clear ha hb hall
  go_enter Try.func74, Try.ntmps74
  go_upto_region 1 with (fail)
  go_quiet (fail)
  go_wp2
  go_ret
  exact ⟨by first | rfl | simp [hres], nq, rfl⟩
theorem push_any {B R bl K : Nat} {lw : Nat → Nat} {v : Value} {l : List Nat} {W : World} (h : RS B R bl K lw v l W) (x : Nat) (hx : x < K) (hl : l.length + 1 ≤ 1000) (hB : B ≤ W.heap.size) :
    Calls Try.prog 76 #[.pointer (some ⟨R, 0, none⟩), .iface 3 (.int .i64 (x : Nat))] W fun e W' => e = .returned (.tuple #[]) ∧ ∃ v', RS B R bl K lw v' (l ++ [x]) W' ∧ Ht B R W v W' v' := by
  have ck := h.cf
  have RS0 := Lib.hid h
  have ST := Lib.hid h.st
  have HB := Lib.hid hB
  have HX := Lib.hid hx
  have LST := Lib.hid (show ((toI l).length + 1) * 8 ≤ 140737488355328 by rw [toI_len]; omega)
  obtain ⟨A, c, e, _, _⟩ := Kd.R_reads h.st
  rw [toI_len] at e
  have HE := Lib.hid e
  have HLL := Lib.hid hl
  rw [e] at ck
  clear h hB hx e hl
  go_enter Try.func76, Try.ntmps76
  refine (wpIn_wide (n := 5)).1 ?_
  refine wpIn_region_any mixedO ?_
  refine wpAnyIn_flow2 _ (fun _ => undef) (fun done val Z => SP B R bl K lw x l v W done val Z) rfl (by kernel_rfl) _ ?hz9 ?st9 ?en9
  case hz9 => exact SP.start RS0.out HX.out HLL.out
  case st9 =>
    intro i o done val a Z ho hdn hdep hag hS K2 hK2
    have hm : i < 12 := by
      by_cases h : i < 12
      · exact h
      · rw [Array.getElem?_eq_none (by simp; omega)] at ho; cases ho
    obtain rfl | rfl | rfl | rfl | rfl | rfl | rfl | rfl | rfl | rfl | rfl | rfl : i = 0 ∨ i = 1 ∨ i = 2 ∨ i = 3 ∨ i = 4 ∨ i = 5 ∨ i = 6 ∨ i = 7 ∨ i = 8 ∨ i = 9 ∨ i = 10 ∨ i = 11 := by omega
    · cases ho
      have e0 : a.eval (.tmp 0) = .pointer (some ⟨R, 0, none⟩) := hag.keep 0 rfl
      refine wpOpIn_value (i := 0) (r := .pointer (some ⟨R, 0, none⟩)) (w' := Z) rfl rfl (fun c h => by cases h) rfl ?_ (hK2 _ _ (hS.do_ 0 rfl rfl))
      have ec : ∀ v, a.eval (.const v) = v := fun _ => rfl
      generalize a.eval = ev at *
      simp [execOp, go_sem, ec, e0]
    · cases ho
      have e0 : a.eval (.tmp 0) = .pointer (some ⟨R, 0, none⟩) := hag.keep 0 rfl
      refine wpOpIn_value (i := 1) (r := .pointer (some ⟨R, 0, none⟩)) (w' := Z) rfl rfl (fun c h => by cases h) rfl ?_ (hK2 _ _ (hS.do_ 1 rfl rfl))
      have ec : ∀ v, a.eval (.const v) = v := fun _ => rfl
      generalize a.eval = ev at *
      simp [execOp, go_sem, ec, e0]
    · cases ho
      have e5 := (hag.val_ (j := 1) (t := 5) rfl (hdep ⟨1, .data⟩ (by simp) rfl)).trans (hS.v1 (hdep ⟨1, .data⟩ (by simp) rfl))
      refine wpOpIn_value (i := 2) (r := .pointer (some ⟨R, 0, none⟩)) (w' := Z) rfl rfl (fun c h => by cases h) rfl ?_ (hK2 _ _ (hS.do_ 2 rfl rfl))
      have ec : ∀ v, a.eval (.const v) = v := fun _ => rfl
      generalize a.eval = ev at *
      simp [execOp, go_sem, ec, e5]
    · cases ho
      have e6 := (hag.val_ (j := 2) (t := 6) rfl (hdep ⟨2, .data⟩ (by simp) rfl)).trans (hS.v2 (hdep ⟨2, .data⟩ (by simp) rfl))
      refine wpOpIn_value (i := 3) (r := .pointer (some ⟨R, 0, none⟩)) (w' := Z) rfl rfl (fun c h => by cases h) rfl ?_ (hK2 _ _ (hS.do_ 3 rfl rfl))
      have ec : ∀ v, a.eval (.const v) = v := fun _ => rfl
      generalize a.eval = ev at *
      simp [execOp, go_sem, ec, e6]
    · cases ho
      have e7 := (hag.val_ (j := 3) (t := 7) rfl (hdep ⟨3, .data⟩ (by simp) rfl)).trans (hS.v3 (hdep ⟨3, .data⟩ (by simp) rfl))
      have hz := hS.rd hdn
      refine wpOpIn_value (i := 4) (r := v) (w' := Z) rfl rfl (fun c h => by cases h) rfl ?_ (hK2 _ _ (hS.do_ 4 rfl rfl))
      have ec : ∀ v, a.eval (.const v) = v := fun _ => rfl
      generalize a.eval = ev at *
      simp [execOp, go_sem, ec, e7, hz]
    · cases ho
      have e1 : a.eval (.tmp 1) = .iface 3 (.int .i64 (x : Nat)) := hag.keep 1 rfl
      refine wpOpIn_value (i := 5) (r := .iface 3 (.int .i64 (x : Nat))) (w' := Z) rfl rfl (fun c h => by cases h) rfl ?_ (hK2 _ _ (hS.do_ 5 rfl rfl))
      have ec : ∀ v, a.eval (.const v) = v := fun _ => rfl
      generalize a.eval = ev at *
      simp [execOp, go_sem, ec, e1]
    · cases ho
      have e9 := (hag.val_ (j := 5) (t := 9) rfl (hdep ⟨5, .data⟩ (by simp) rfl)).trans (hS.v5 (hdep ⟨5, .data⟩ (by simp) rfl))
      refine wpOpIn_value (i := 6) (r := .int .i64 (x : Nat)) (w' := Z) rfl rfl (fun c h => by cases h) rfl ?_ (hK2 _ _ (hS.do_ 6 rfl rfl))
      have ec : ∀ v, a.eval (.const v) = v := fun _ => rfl
      generalize a.eval = ev at *
      simp [execOp, go_sem, ec, e9, asInt]
    · cases ho
      have e10 := (hag.val_ (j := 6) (t := 10) rfl (hdep ⟨6, .data⟩ (by simp) rfl)).trans (hS.v6 (hdep ⟨6, .data⟩ (by simp) rfl))
      refine wpOpIn_value (i := 7) (r := .slice (some ⟨Z.heap.size, 0, none⟩) 1 1) (w' := Z.alloc (.cells #[.int .i64 (x : Nat)] 3)) rfl rfl (fun c h => by cases h) rfl ?_ (hK2 _ _ (hS.do7 hdn))
      generalize a.eval = ev at *
      simp [execOp, go_sem, e10]
    · cases ho
      have e8 := (hag.val_ (j := 4) (t := 8) rfl (hdep ⟨4, .data⟩ (by simp) rfl)).trans (hS.v4 (hdep ⟨4, .data⟩ (by simp) rfl))
      have e11 := hag.val_ (j := 7) (t := 11) rfl (hdep ⟨7, .data⟩ (by simp) rfl)
      have h7 := hdep ⟨7, .data⟩ (by simp) rfl
      have h4 := hdep ⟨4, .data⟩ (by simp) rfl
      obtain ⟨Z0, rfl, e7, hb0⟩ := hS.b7 h7 hdn
      rw [e7] at e11
      refine opIn_appendI (i := 8) (s := .tmp 8) (x := .tmp 11) (t := 26) (t' := 26) rfl rfl rfl ?_
      refine Kd.R_append_step kI B (w0 := W) rfl (.tmp 8) (.tmp 11) 26 3 (.int .i64 0) 8 rfl Try.underlying26 info3 rfl (by decide) (by decide) v (toI l) ((x : Nat) : Int) [.int .i64 ((x : Nat) : Int)] (fun _ => True) (fun _ => False) e8 e11 rfl (fun _ hk => hk.elim) (fun _ _ => trivial) (Kd.R_below ST.out hb0) (hb0.mono HB.out) (Nat.le_trans HB.out hb0.size) LST.out ?_
      exact fun v1 w1 hr hb hg hat => hK2 v1 w1 (hS.do8 h4 h7 hdn hb0 hr hb hg hat)
    · cases ho
      have e4 := (hag.val_ (j := 0) (t := 4) rfl (hdep ⟨0, .data⟩ (by simp) rfl)).trans (hS.v0 (hdep ⟨0, .data⟩ (by simp) rfl))
      refine wpOpIn_value (i := 9) (r := .pointer (some ⟨R, 0, none⟩)) (w' := Z) rfl rfl (fun c h => by cases h) rfl ?_ (hK2 _ _ (hS.do_ 9 rfl rfl))
      have ec : ∀ v, a.eval (.const v) = v := fun _ => rfl
      generalize a.eval = ev at *
      simp [execOp, go_sem, ec, e4]
    · cases ho
      have e13 := (hag.val_ (j := 9) (t := 13) rfl (hdep ⟨9, .data⟩ (by simp) rfl)).trans (hS.v9 (hdep ⟨9, .data⟩ (by simp) rfl))
      refine wpOpIn_value (i := 10) (r := .pointer (some ⟨R, 0, none⟩)) (w' := Z) rfl rfl (fun c h => by cases h) rfl ?_ (hK2 _ _ (hS.do_ 10 rfl rfl))
      have ec : ∀ v, a.eval (.const v) = v := fun _ => rfl
      generalize a.eval = ev at *
      simp [execOp, go_sem, ec, e13]
    · cases ho
      have e14 := (hag.val_ (j := 10) (t := 14) rfl (hdep ⟨10, .data⟩ (by simp) rfl)).trans (hS.v10 (hdep ⟨10, .data⟩ (by simp) rfl))
      have e12 := hag.val_ (j := 8) (t := 12) rfl (hdep ⟨8, .data⟩ (by simp) rfl)
      have h8 := hdep ⟨8, .data⟩ (by simp) rfl
      obtain ⟨A9, n9, c9, e9, hz, hzf⟩ := hS.at8 h8 hdn
      rw [e9] at e12
      refine wpOpIn_skip (i := 11) rfl rfl (fun c h => by cases h) rfl (w' := Z.setCell ⟨R, 0, none⟩ (.slice A9 n9 c9)) ?_ (hK2 _ _ (hS.do11 h8 hdn e9))
      have ec : ∀ v, a.eval (.const v) = v := fun _ => rfl
      generalize a.eval = ev at *
      simp [execOp, go_sem, ec, e14, e12, hz, hzf]
  case en9 =>
    intro Z done val hdn hS
    simp only [putTmps, dstOf, List.size_toArray, List.length_cons, List.length_nil, Nat.reduceAdd, List.getElem?_toArray, List.getElem?_cons_zero, List.getElem?_cons_succ, Option.bind_some, List.setIfInBounds_toArray, List.set_cons_zero, List.set_cons_succ]
    obtain ⟨v9, hfd9, hbe9⟩ := hS.s11 (hdn 11 (by decide))
    go_wp2
    refine bodyPost_end (results_none rfl _ _ _) rfl ?_
    exact ⟨rfl, v9, hfd9, hbe9⟩
theorem pop_any {B R bl K : Nat} {lw : Nat → Nat} {v : Value} {l : List Nat} {W : World} (h : RS B R bl K lw v l W) (hp : 0 < l.length) (hB : B ≤ W.heap.size) :
    Calls Try.prog 75 #[.pointer (some ⟨R, 0, none⟩)] W fun e W' => e = .returned (.iface 3 (.int .i64 (l[l.length - 1] : Nat))) ∧ ∃ v', RS B R bl K lw v' (l.take (l.length - 1)) W' ∧ Ht B R W v W' v' := by
  have ck := h.cf
  obtain ⟨gv, cap, rfl, hcap, hall⟩ := h.form hp
  obtain ⟨k, hk⟩ : ∃ k, l.length = k + 1 := ⟨l.length - 1, by omega⟩
  obtain ⟨i3, hi3, hi3s⟩ := Option.map_eq_some_iff.1 info3
  obtain ⟨htk, _, _⟩ := print_take_int (P := Try.prog) (k := .i64) 26 3 Try.underlying26 hi3 (by injection hi3s with _ h2; injection h2) (some ⟨gv, 0, none⟩) cap (toI l) (k : Int) (Int.natCast_nonneg k) (by rw [toI_len]; omega) (by rw [toI_len]; exact hcap)
  rw [toI_len, Int.toNat_natCast, List.length_take, toI_len, Nat.min_eq_left (by omega)] at htk
  have ht : kI.R 3 W B (fun _ => True) (.slice (some ⟨gv, 0, none⟩) k cap) (toI (l.take k)) := by
    have ho0 := Kd.own_of_R h.st
    rw [toI_len] at ho0
    have ho := own_take ho0 (show k ≤ l.length by omega)
    refine Kd.R_of_own ?_ (fun _ _ => trivial)
    have hl : (toI (l.take k)).length = k := by rw [toI_len, List.length_take]; omega
    rw [hl]
    have he : encs (Value.int .i64) (toI (l.take k)) = (encs (Value.int .i64) (toI l)).take (k * 1) := by simp [encs, toI, List.map_take]
    rw [he]
    exact ho
  obtain ⟨b, hb⟩ : ∃ b, b = l[k] := ⟨_, rfl⟩
  have zj := (hall k (by omega)).1
  rw [← hb] at zj
  have hlast : l[l.length - 1] = b := by simp only [hk, Nat.add_sub_cancel, hb]
  rw [hlast]
  have hle : l.length - 1 = k := by omega
  rw [hle]
  rw [hk] at ck htk hcap
  have hw : wrap64 (((k + 1 : Nat) : Int) - 1) = (k : Int) := by have := h.len; simp only [wrap64]; omega
  have hw4 : wrap64 (k : Int) = (k : Int) := by have := h.len; simp only [wrap64]; omega
  have hw3 : IntKind.i64.wrap (k : Int) = (k : Int) := by rw [Go.Proofs.YtejhejpkfjhmkaaW.PrintLast.i64_w]; exact hw4
  have hnk : ¬ ((k : Int) + 1 ≤ (k : Int)) := by omega
  have hk0 : (0 : Int) ≤ (k : Int) := Int.natCast_nonneg k
  have hk1 : k < k + 1 := Nat.lt_succ_self k
  have RS0 := Lib.hid h
  have HT := Lib.hid ht
  have HK := Lib.hid hk
  have HB := Lib.hid hB
  clear h ht hk hb hlast hle hall hp hB hi3 hi3s
  go_enter Try.func75, Try.ntmps75
  go_upto_region 1 with (fail)
  refine (wpIn_wide (n := 5)).1 ?_
  refine wpIn_region_any mixedO ?_
  refine wpAnyIn_flow _ (fun ix_ => match ix_ with | 0 => .pointer (some ⟨R, 0, none⟩) | 1 => .pointer (some ⟨R, 0, none⟩) | 2 => .pointer (some ⟨R, 0, none⟩) | 3 => .slice (some ⟨gv, 0, none⟩) (k + 1) cap | 4 => .pointer (some ⟨R, 0, none⟩) | 5 => .pointer (some ⟨R, 0, none⟩) | 6 => .pointer (some ⟨R, 0, none⟩) | 7 => .slice (some ⟨gv, 0, none⟩) (k + 1) cap | 8 => .int .i64 ((k + 1 : Nat) : Int) | 9 => .int .i64 (k : Nat) | 10 => .pointer (some ⟨gv, k, none⟩) | 11 => .int .i64 (b : Nat) | 12 => .int .i64 (b : Nat) | _ => undef) (fun done Z => Below W.heap.size W Z) rfl (by kernel_rfl) _ ?hzq1 ?stq1 ?enq1
  case hzq1 => exact (Below.refl W.heap.size W).drew
  case stq1 =>
    intro m op done a Z ho hdn hdep hag hS K2 hK2
    have hm : m < 13 := by
      by_cases h : m < 13
      · exact h
      · rw [Array.getElem?_eq_none (by simp; omega)] at ho; cases ho
    have zz := (RS0.out.below hS).cf.1
    rw [HK.out] at zz
    have zk := pw_cell_below hS zj
    have hw2 := hw
    obtain rfl | rfl | rfl | rfl | rfl | rfl | rfl | rfl | rfl | rfl | rfl | rfl | rfl : m = 0 ∨ m = 1 ∨ m = 2 ∨ m = 3 ∨ m = 4 ∨ m = 5 ∨ m = 6 ∨ m = 7 ∨ m = 8 ∨ m = 9 ∨ m = 10 ∨ m = 11 ∨ m = 12 := by omega
    · cases ho
      have e0 : a.eval (.tmp 0) = .pointer (some ⟨R, 0, none⟩) := hag.keep 0 rfl
      refine opIn_value (i := 0) rfl rfl (fun c h => by cases h) rfl ?_ (hK2 Z hS)
      have ec : ∀ v, a.eval (.const v) = v := fun _ => rfl
      generalize a.eval = ev at *
      simp [execOp, go_sem, ec, e0]
    · cases ho
      have e4 := hag.val_ (j := 0) (t := 4) rfl (hdep ⟨0, .data⟩ (by simp) rfl)
      refine opIn_value (i := 1) rfl rfl (fun c h => by cases h) rfl ?_ (hK2 Z hS)
      have ec : ∀ v, a.eval (.const v) = v := fun _ => rfl
      generalize a.eval = ev at *
      simp [execOp, go_sem, ec, e4]
    · cases ho
      have e5 := hag.val_ (j := 1) (t := 5) rfl (hdep ⟨1, .data⟩ (by simp) rfl)
      refine opIn_value (i := 2) rfl rfl (fun c h => by cases h) rfl ?_ (hK2 Z hS)
      have ec : ∀ v, a.eval (.const v) = v := fun _ => rfl
      generalize a.eval = ev at *
      simp [execOp, go_sem, ec, e5]
    · cases ho
      have e6 := hag.val_ (j := 2) (t := 6) rfl (hdep ⟨2, .data⟩ (by simp) rfl)
      refine opIn_value (i := 3) rfl rfl (fun c h => by cases h) rfl ?_ (hK2 Z hS)
      have ec : ∀ v, a.eval (.const v) = v := fun _ => rfl
      generalize a.eval = ev at *
      simp [execOp, go_sem, ec, e6, zz]
    · cases ho
      have e0 : a.eval (.tmp 0) = .pointer (some ⟨R, 0, none⟩) := hag.keep 0 rfl
      refine opIn_value (i := 4) rfl rfl (fun c h => by cases h) rfl ?_ (hK2 Z hS)
      have ec : ∀ v, a.eval (.const v) = v := fun _ => rfl
      generalize a.eval = ev at *
      simp [execOp, go_sem, ec, e0]
    · cases ho
      have e8 := hag.val_ (j := 4) (t := 8) rfl (hdep ⟨4, .data⟩ (by simp) rfl)
      refine opIn_value (i := 5) rfl rfl (fun c h => by cases h) rfl ?_ (hK2 Z hS)
      have ec : ∀ v, a.eval (.const v) = v := fun _ => rfl
      generalize a.eval = ev at *
      simp [execOp, go_sem, ec, e8]
    · cases ho
      have e9 := hag.val_ (j := 5) (t := 9) rfl (hdep ⟨5, .data⟩ (by simp) rfl)
      refine opIn_value (i := 6) rfl rfl (fun c h => by cases h) rfl ?_ (hK2 Z hS)
      have ec : ∀ v, a.eval (.const v) = v := fun _ => rfl
      generalize a.eval = ev at *
      simp [execOp, go_sem, ec, e9]
    · cases ho
      have e10 := hag.val_ (j := 6) (t := 10) rfl (hdep ⟨6, .data⟩ (by simp) rfl)
      refine opIn_value (i := 7) rfl rfl (fun c h => by cases h) rfl ?_ (hK2 Z hS)
      have ec : ∀ v, a.eval (.const v) = v := fun _ => rfl
      generalize a.eval = ev at *
      simp [execOp, go_sem, ec, e10, zz]
    · cases ho
      have e11 := hag.val_ (j := 7) (t := 11) rfl (hdep ⟨7, .data⟩ (by simp) rfl)
      refine opIn_value (i := 8) rfl rfl (fun c h => by cases h) ?_ ?_ (hK2 Z hS)
      · generalize a.eval = ev at *
        simp [Oper.about, resolve, Target.leads, Sem.run_pure, go_sem, e11]
      · have ec : ∀ v, a.eval (.const v) = v := fun _ => rfl
        generalize a.eval = ev at *
        simp [execOp, go_sem, ec, e11]
    · cases ho
      have e12 := hag.val_ (j := 8) (t := 12) rfl (hdep ⟨8, .data⟩ (by simp) rfl)
      refine opIn_value (i := 9) rfl rfl (fun c h => by cases h) rfl ?_ (hK2 Z hS)
      have ec : ∀ v, a.eval (.const v) = v := fun _ => rfl
      generalize a.eval = ev at *
      simp [execOp, go_sem, ec, e12, hw, hw3]
    · cases ho
      have e7 := hag.val_ (j := 3) (t := 7) rfl (hdep ⟨3, .data⟩ (by simp) rfl)
      have e13 := hag.val_ (j := 9) (t := 13) rfl (hdep ⟨9, .data⟩ (by simp) rfl)
      refine opIn_value (i := 10) rfl rfl (fun c h => by cases h) ?_ ?_ (hK2 Z hS)
      · generalize a.eval = ev at *
        simp [Oper.about, resolve, Target.leads, Sem.run_pure, go_sem, e7, e13, hk1, hk0, hnk]
      · have ec : ∀ v, a.eval (.const v) = v := fun _ => rfl
        generalize a.eval = ev at *
        simp [execOp, go_sem, ec, e7, e13, hk1, hk0, hnk]
    · cases ho
      have e14 := hag.val_ (j := 10) (t := 14) rfl (hdep ⟨10, .data⟩ (by simp) rfl)
      refine opIn_value (i := 11) rfl rfl (fun c h => by cases h) rfl ?_ (hK2 Z hS)
      have ec : ∀ v, a.eval (.const v) = v := fun _ => rfl
      generalize a.eval = ev at *
      simp [execOp, go_sem, ec, e14, zk]
    · cases ho
      have e15 := hag.val_ (j := 11) (t := 15) rfl (hdep ⟨11, .data⟩ (by simp) rfl)
      refine opIn_value (i := 12) rfl rfl (fun c h => by cases h) rfl ?_ (hK2 Z hS)
      have ec : ∀ v, a.eval (.const v) = v := fun _ => rfl
      generalize a.eval = ev at *
      simp [execOp, go_sem, ec, e15]
  case enq1 =>
    intro Z1 done hdn hS
    simp only [putTmps, dstOf, List.size_toArray, List.length_cons, List.length_nil, Nat.reduceAdd, List.getElem?_toArray, List.getElem?_cons_zero, List.getElem?_cons_succ, Option.bind_some, List.setIfInBounds_toArray, List.set_cons_zero, List.set_cons_succ]
    have RS1 := Lib.hid (RS0.out.below hS)
    have HB1 := Lib.hid hS
    have ck := RS1.out.cf
    rw [HK.out] at ck
    clear hS hdn
    go_upto_region 2 with (fail)
    go_still_tail 14, mixedO
    change wpList _ _ _ _ _ (World.drew Z1)
    have hb2 := HB1.out.trans (below_drew (Below.refl W.heap.size Z1))
    have rs2 := RS0.out.below hb2
    have ht2 := Kd.R_below HT.out hb2
    clear ck htk
    generalize World.drew Z1 = Z2 at hb2 rs2 ht2 ⊢
    have ck := rs2.cf
    rw [HK.out] at ck
    have HB2 := Lib.hid hb2
    have RS2 := Lib.hid rs2
    have HT2 := Lib.hid ht2
    clear hb2 rs2 ht2
    have c3 : Try.prog.concrete 3 = true := by kernel_rfl
    go_wp2
    go_ret
    obtain ⟨t1, t2⟩ := RS2.out.turn HT2.out ⟨rfl, rfl, rfl, Nat.le_refl _, fun _ _ _ => rfl⟩ (.inl (by simp [Value.ownBlock])) (Below.refl B Z2) (fun x hx => RS0.out.mem x (List.mem_of_mem_take hx)) (by rw [List.length_take]; have := RS0.out.len; omega)
    refine ⟨rfl, _, t1, Ht.trans ⟨HB2.out.mono HB.out, fun q hq _ _ => HB2.out.block q hq, .inl rfl⟩ t2⟩
def swapL (l : List Nat) (i j : Nat) : List Nat := (l.set i (l.getD j 0)).set j (l.getD i 0)
theorem swapL_len (l : List Nat) (i j : Nat) : (swapL l i j).length = l.length := by simp [swapL]
theorem RS.put {B R bl K : Nat} {lw : Nat → Nat} {l : List Nat} {W : World} {gv cap : Nat} (h : RS B R bl K lw (.slice (some ⟨gv, 0, none⟩) l.length cap) l W) (i x : Nat) (hx : x < K) :
    RS B R bl K lw (.slice (some ⟨gv, 0, none⟩) l.length cap) (l.set i x) (W.setCell ⟨gv, i, none⟩ (.int .i64 (x : Nat))) ∧ Ht B R W (.slice (some ⟨gv, 0, none⟩) l.length cap) (W.setCell ⟨gv, i, none⟩ (.int .i64 (x : Nat))) (.slice (some ⟨gv, 0, none⟩) l.length cap) := by
  have nR : R ≠ gv := fun e => h.nR (by rw [e]; rfl)
  have nl : bl ≠ gv := fun e => h.nl (by rw [e]; rfl)
  have ho := Kd.own_of_R h.st
  have hge : B ≤ gv := own_base ho gv rfl
  rw [toI_len] at ho
  have h2 : (W.setCell ⟨gv, i, none⟩ (.int .i64 (x : Nat))).ownsRow B 3 1 (.slice (some ⟨gv, 0, none⟩) l.length cap) (toI (l.set i x)).length (encs (Value.int .i64) (toI (l.set i x))) := by
    have h3 := toI_len l
    have h4 := own_put_of (enc := Value.int .i64) (xs := toI l) (g := gv) (cap := cap) (e := 3) (base := B) (W := W) (by rw [h3]; exact ho) (i : Int) ((x : Nat) : Int)
    rw [Int.toNat_natCast, h3] at h4
    have h5 : (toI l).set i ((x : Nat) : Int) = toI (l.set i x) := by simp [toI, List.map_set]
    rw [h5] at h4
    exact h4
  refine ⟨⟨blk_far h.r nR _, blk_far h.lo nl _, Kd.R_of_own h2 (fun _ _ => trivial), fun y hy => ?_, h.b, h.bl, by rw [List.length_set]; exact h.len⟩, (Below.refl B W).setCell (p := ⟨gv, i, none⟩) hge _, fun k hk _ hv => Below.heap_setCell _ _ _ _ (fun e => hv (by rw [show k = gv from e]; rfl)), .inl rfl⟩
  rcases List.mem_or_eq_of_mem_set hy with hy | rfl
  · exact h.mem y hy
  · exact hx
structure SW (B R bl K : Nat) (lw : Nat → Nat) (gv cap : Nat) (l : List Nat) (i j a b : Nat) (W : World) (d16 d23 d25 d27 : Bool) (Z : World) : Prop where
  rs : RS B R bl K lw (.slice (some ⟨gv, 0, none⟩) l.length cap) (if d27 = true then (l.set i b).set j a else if d25 = true then l.set i b else l) Z
  ht : Ht B R W (.slice (some ⟨gv, 0, none⟩) l.length cap) Z (.slice (some ⟨gv, 0, none⟩) l.length cap)
  ha : l[i]? = some a
  hb : l[j]? = some b
  n16 : d16 = false → d25 = false
  n23 : d23 = false → d25 = false
  n25 : d25 = false → d27 = false
section
variable {B R bl K : Nat} {lw : Nat → Nat} {gv cap : Nat} {l : List Nat} {i j a b : Nat} {W Z : World} {d16 d23 d25 d27 : Bool}
theorem SW.start (h : RS B R bl K lw (.slice (some ⟨gv, 0, none⟩) l.length cap) l W) (ha : l[i]? = some a) (hb : l[j]? = some b) : SW B R bl K lw gv cap l i j a b W false false false false W.drew :=
  ⟨by simpa using h.below (below_drew (Below.refl W.heap.size W)), ⟨below_drew (Below.refl B W), fun _ _ _ _ => rfl, .inl rfl⟩, ha, hb, fun _ => rfl, fun _ => rfl, fun _ => rfl⟩
theorem SW.cl (h : SW B R bl K lw gv cap l i j a b W d16 d23 d25 d27 Z) : (if d27 = true then (l.set i b).set j a else if d25 = true then l.set i b else l).length = l.length := by
  split
  · simp
  · split <;> simp
theorem SW.cell (h : SW B R bl K lw gv cap l i j a b W d16 d23 d25 d27 Z) {x : Nat} (hx : x < l.length) : (∃ u, Z.cell? ⟨gv, x, none⟩ = some u) ∧ Z.frozen? ⟨gv, x, none⟩ = false := by
  have hl := h.cl
  obtain ⟨g, c, e, _, hall⟩ := h.rs.form (by omega)
  injection e with e1 _ _
  injection e1 with e1
  injection e1 with e1 _ _
  subst e1
  have := hall x (by omega)
  exact ⟨⟨_, this.1⟩, this.2⟩
theorem SW.k16 (h : SW B R bl K lw gv cap l i j a b W d16 d23 d25 d27 Z) : SW B R bl K lw gv cap l i j a b W true d23 d25 d27 Z := ⟨h.rs, h.ht, h.ha, h.hb, (fun e => by cases e), h.n23, h.n25⟩
theorem SW.k23 (h : SW B R bl K lw gv cap l i j a b W d16 d23 d25 d27 Z) : SW B R bl K lw gv cap l i j a b W d16 true d25 d27 Z := ⟨h.rs, h.ht, h.ha, h.hb, h.n16, (fun e => by cases e), h.n25⟩
theorem SW.rd (h : SW B R bl K lw gv cap l i j a b W d16 d23 d25 d27 Z) (h5 : d25 = false) {x y : Nat} (hx : l[x]? = some y) : Z.cell? ⟨gv, x, none⟩ = some (.int .i64 (y : Nat)) := by
  have hr := h.rs
  rw [h.n25 h5, h5] at hr
  simp only [Bool.false_eq_true, if_false] at hr
  obtain ⟨h1, h2⟩ := List.getElem?_eq_some_iff.1 hx
  obtain ⟨g, c, e, _, hall⟩ := hr.form (by omega)
  injection e with e1 _ _
  injection e1 with e1
  injection e1 with e1 _ _
  subst e1
  have := (hall x h1).1
  rwa [h2] at this
theorem SW.rdj (h : SW B R bl K lw gv cap l i j a b W d16 d23 d25 d27 Z) (h5 : d16 = false) (hj : j < l.length) : Z.cell? ⟨gv, j, none⟩ = some (.int .i64 (b : Nat)) := h.rd (h.n16 h5) h.hb
theorem SW.rdi (h : SW B R bl K lw gv cap l i j a b W d16 d23 d25 d27 Z) (h5 : d23 = false) (hi : i < l.length) : Z.cell? ⟨gv, i, none⟩ = some (.int .i64 (a : Nat)) := h.rd (h.n23 h5) h.ha
theorem SW.do25 (h : SW B R bl K lw gv cap l i j a b W d16 d23 d25 d27 Z) (h16 : d16 = true) (h23 : d23 = true) (h5 : d25 = false) (hb : b < K) : SW B R bl K lw gv cap l i j a b W d16 d23 true d27 (Z.setCell ⟨gv, i, none⟩ (.int .i64 (b : Nat))) := by
  have hr := h.rs
  have h7 := h.n25 h5
  rw [h7, h5] at hr
  simp only [Bool.false_eq_true, if_false] at hr
  obtain ⟨t1, t2⟩ := hr.put i b hb
  exact ⟨by rw [h7]; simpa using t1, h.ht.trans t2, h.ha, h.hb, fun e => (by rw [h16] at e; cases e), fun e => (by rw [h23] at e; cases e), fun e => by cases e⟩
theorem SW.do27 (h : SW B R bl K lw gv cap l i j a b W d16 d23 d25 d27 Z) (h25 : d25 = true) (h7 : d27 = false) (ha : a < K) (hi : i < l.length) (hj : j < l.length) : SW B R bl K lw gv cap l i j a b W d16 d23 d25 true (Z.setCell ⟨gv, j, none⟩ (.int .i64 (a : Nat))) := by
  have hr := h.rs
  rw [h7, h25] at hr
  simp only [Bool.false_eq_true, if_false, if_true] at hr
  have hl : (l.set i b).length = l.length := List.length_set
  obtain ⟨t1, t2⟩ := RS.put (l := l.set i b) (by rw [hl]; exact hr) j a ha
  rw [hl] at t1 t2
  exact ⟨by simpa using t1, h.ht.trans t2, h.ha, h.hb, h.n16, h.n23, fun e => by rw [h25] at e; cases e⟩
end
theorem swap_any {B R bl K : Nat} {lw : Nat → Nat} {v : Value} {l : List Nat} {W : World} (h : RS B R bl K lw v l W) (i j : Nat) (hi : i < l.length) (hj : j < l.length) :
    Calls Try.prog 77 #[.pointer (some ⟨R, 0, none⟩), .int .i64 (i : Nat), .int .i64 (j : Nat)] W fun e W' => e = .returned (.tuple #[]) ∧ RS B R bl K lw v (swapL l i j) W' ∧ Ht B R W v W' v := by
  obtain ⟨gv, cap, rfl, hcap, _⟩ := h.form (by omega)
  obtain ⟨pa, ha⟩ : ∃ a, l[i]? = some a := ⟨_, List.getElem?_eq_getElem hi⟩
  obtain ⟨pb, hb⟩ : ∃ b, l[j]? = some b := ⟨_, List.getElem?_eq_getElem hj⟩
  have hi0 : (0 : Int) ≤ (i : Int) := Int.natCast_nonneg i
  have hj0 : (0 : Int) ≤ (j : Int) := Int.natCast_nonneg j
  have HAK := Lib.hid (h.mem pa (List.mem_of_getElem? ha))
  have HBK := Lib.hid (h.mem pb (List.mem_of_getElem? hb))
  have HA := Lib.hid ha
  have HBB := Lib.hid hb
  have RS0 := Lib.hid h
  clear ha hb h
  go_enter Try.func77, Try.ntmps77
  refine (wpIn_wide (n := 5)).1 ?_
  refine wpIn_region_any mixedO ?_
  refine wpAnyIn_flow _ (fun ix_ => match ix_ with | 0 => .pointer (some ⟨R, 0, none⟩) | 1 => .pointer (some ⟨R, 0, none⟩) | 2 => .pointer (some ⟨R, 0, none⟩) | 3 => .slice (some ⟨gv, 0, none⟩) l.length cap | 4 => .int .i64 (i : Nat) | 5 => .pointer (some ⟨R, 0, none⟩) | 6 => .pointer (some ⟨R, 0, none⟩) | 7 => .pointer (some ⟨R, 0, none⟩) | 8 => .slice (some ⟨gv, 0, none⟩) l.length cap | 9 => .int .i64 (j : Nat) | 10 => .pointer (some ⟨R, 0, none⟩) | 11 => .pointer (some ⟨R, 0, none⟩) | 12 => .pointer (some ⟨R, 0, none⟩) | 13 => .slice (some ⟨gv, 0, none⟩) l.length cap | 14 => .int .i64 (j : Nat) | 15 => .pointer (some ⟨gv, j, none⟩) | 16 => .int .i64 (pb : Nat) | 17 => .pointer (some ⟨R, 0, none⟩) | 18 => .pointer (some ⟨R, 0, none⟩) | 19 => .pointer (some ⟨R, 0, none⟩) | 20 => .slice (some ⟨gv, 0, none⟩) l.length cap | 21 => .int .i64 (i : Nat) | 22 => .pointer (some ⟨gv, i, none⟩) | 23 => .int .i64 (pa : Nat) | 24 => .pointer (some ⟨gv, i, none⟩) | 25 => undef | 26 => .pointer (some ⟨gv, j, none⟩) | 27 => undef | _ => undef) (fun done Z => SW B R bl K lw gv cap l i j pa pb W (done 16) (done 23) (done 25) (done 27) Z) rfl (by kernel_rfl) _ ?hzsw ?stsw ?ensw
  case hzsw => exact SW.start RS0.out HA.out HBB.out
  case stsw =>
    intro m op done a Z ho hdn hdep hag hS K2 hK2
    have hm : m < 28 := by
      by_cases h : m < 28
      · exact h
      · rw [Array.getElem?_eq_none (by simp; omega)] at ho; cases ho
    have zz := hS.rs.cf
    obtain ⟨⟨ui, zci⟩, zfi⟩ := hS.cell hi
    obtain ⟨⟨uj, zcj⟩, zfj⟩ := hS.cell hj
    obtain rfl | rfl | rfl | rfl | rfl | rfl | rfl | rfl | rfl | rfl | rfl | rfl | rfl | rfl | rfl | rfl | rfl | rfl | rfl | rfl | rfl | rfl | rfl | rfl | rfl | rfl | rfl | rfl : m = 0 ∨ m = 1 ∨ m = 2 ∨ m = 3 ∨ m = 4 ∨ m = 5 ∨ m = 6 ∨ m = 7 ∨ m = 8 ∨ m = 9 ∨ m = 10 ∨ m = 11 ∨ m = 12 ∨ m = 13 ∨ m = 14 ∨ m = 15 ∨ m = 16 ∨ m = 17 ∨ m = 18 ∨ m = 19 ∨ m = 20 ∨ m = 21 ∨ m = 22 ∨ m = 23 ∨ m = 24 ∨ m = 25 ∨ m = 26 ∨ m = 27 := by omega
    · cases ho
      have e0 : a.eval (.tmp 0) = .pointer (some ⟨R, 0, none⟩) := hag.keep 0 rfl
      refine opIn_value (i := 0) rfl rfl (fun c h => by cases h) rfl ?_ (hK2 Z hS)
      have ec : ∀ v, a.eval (.const v) = v := fun _ => rfl
      generalize a.eval = ev at *
      simp [execOp, go_sem, ec, e0]
    · cases ho
      have e6 := hag.val_ (j := 0) (t := 6) rfl (hdep ⟨0, .data⟩ (by simp) rfl)
      refine opIn_value (i := 1) rfl rfl (fun c h => by cases h) rfl ?_ (hK2 Z hS)
      have ec : ∀ v, a.eval (.const v) = v := fun _ => rfl
      generalize a.eval = ev at *
      simp [execOp, go_sem, ec, e6]
    · cases ho
      have e7 := hag.val_ (j := 1) (t := 7) rfl (hdep ⟨1, .data⟩ (by simp) rfl)
      refine opIn_value (i := 2) rfl rfl (fun c h => by cases h) rfl ?_ (hK2 Z hS)
      have ec : ∀ v, a.eval (.const v) = v := fun _ => rfl
      generalize a.eval = ev at *
      simp [execOp, go_sem, ec, e7]
    · cases ho
      have e8 := hag.val_ (j := 2) (t := 8) rfl (hdep ⟨2, .data⟩ (by simp) rfl)
      refine opIn_value (i := 3) rfl rfl (fun c h => by cases h) rfl ?_ (hK2 Z hS)
      have ec : ∀ v, a.eval (.const v) = v := fun _ => rfl
      generalize a.eval = ev at *
      simp [execOp, go_sem, ec, e8, zz.1]
    · cases ho
      have e1 : a.eval (.tmp 1) = .int .i64 (i : Nat) := hag.keep 1 rfl
      refine opIn_value (i := 4) rfl rfl (fun c h => by cases h) rfl ?_ (hK2 Z hS)
      have ec : ∀ v, a.eval (.const v) = v := fun _ => rfl
      generalize a.eval = ev at *
      simp [execOp, go_sem, ec, e1]
    · cases ho
      have e0 : a.eval (.tmp 0) = .pointer (some ⟨R, 0, none⟩) := hag.keep 0 rfl
      refine opIn_value (i := 5) rfl rfl (fun c h => by cases h) rfl ?_ (hK2 Z hS)
      have ec : ∀ v, a.eval (.const v) = v := fun _ => rfl
      generalize a.eval = ev at *
      simp [execOp, go_sem, ec, e0]
    · cases ho
      have e11 := hag.val_ (j := 5) (t := 11) rfl (hdep ⟨5, .data⟩ (by simp) rfl)
      refine opIn_value (i := 6) rfl rfl (fun c h => by cases h) rfl ?_ (hK2 Z hS)
      have ec : ∀ v, a.eval (.const v) = v := fun _ => rfl
      generalize a.eval = ev at *
      simp [execOp, go_sem, ec, e11]
    · cases ho
      have e12 := hag.val_ (j := 6) (t := 12) rfl (hdep ⟨6, .data⟩ (by simp) rfl)
      refine opIn_value (i := 7) rfl rfl (fun c h => by cases h) rfl ?_ (hK2 Z hS)
      have ec : ∀ v, a.eval (.const v) = v := fun _ => rfl
      generalize a.eval = ev at *
      simp [execOp, go_sem, ec, e12]
    · cases ho
      have e13 := hag.val_ (j := 7) (t := 13) rfl (hdep ⟨7, .data⟩ (by simp) rfl)
      refine opIn_value (i := 8) rfl rfl (fun c h => by cases h) rfl ?_ (hK2 Z hS)
      have ec : ∀ v, a.eval (.const v) = v := fun _ => rfl
      generalize a.eval = ev at *
      simp [execOp, go_sem, ec, e13, zz.1]
    · cases ho
      have e2 : a.eval (.tmp 2) = .int .i64 (j : Nat) := hag.keep 2 rfl
      refine opIn_value (i := 9) rfl rfl (fun c h => by cases h) rfl ?_ (hK2 Z hS)
      have ec : ∀ v, a.eval (.const v) = v := fun _ => rfl
      generalize a.eval = ev at *
      simp [execOp, go_sem, ec, e2]
    · cases ho
      have e0 : a.eval (.tmp 0) = .pointer (some ⟨R, 0, none⟩) := hag.keep 0 rfl
      refine opIn_value (i := 10) rfl rfl (fun c h => by cases h) rfl ?_ (hK2 Z hS)
      have ec : ∀ v, a.eval (.const v) = v := fun _ => rfl
      generalize a.eval = ev at *
      simp [execOp, go_sem, ec, e0]
    · cases ho
      have e16 := hag.val_ (j := 10) (t := 16) rfl (hdep ⟨10, .data⟩ (by simp) rfl)
      refine opIn_value (i := 11) rfl rfl (fun c h => by cases h) rfl ?_ (hK2 Z hS)
      have ec : ∀ v, a.eval (.const v) = v := fun _ => rfl
      generalize a.eval = ev at *
      simp [execOp, go_sem, ec, e16]
    · cases ho
      have e17 := hag.val_ (j := 11) (t := 17) rfl (hdep ⟨11, .data⟩ (by simp) rfl)
      refine opIn_value (i := 12) rfl rfl (fun c h => by cases h) rfl ?_ (hK2 Z hS)
      have ec : ∀ v, a.eval (.const v) = v := fun _ => rfl
      generalize a.eval = ev at *
      simp [execOp, go_sem, ec, e17]
    · cases ho
      have e18 := hag.val_ (j := 12) (t := 18) rfl (hdep ⟨12, .data⟩ (by simp) rfl)
      refine opIn_value (i := 13) rfl rfl (fun c h => by cases h) rfl ?_ (hK2 Z hS)
      have ec : ∀ v, a.eval (.const v) = v := fun _ => rfl
      generalize a.eval = ev at *
      simp [execOp, go_sem, ec, e18, zz.1]
    · cases ho
      have e2 : a.eval (.tmp 2) = .int .i64 (j : Nat) := hag.keep 2 rfl
      refine opIn_value (i := 14) rfl rfl (fun c h => by cases h) rfl ?_ (hK2 Z hS)
      have ec : ∀ v, a.eval (.const v) = v := fun _ => rfl
      generalize a.eval = ev at *
      simp [execOp, go_sem, ec, e2]
    · cases ho
      have e19 := hag.val_ (j := 13) (t := 19) rfl (hdep ⟨13, .data⟩ (by simp) rfl)
      have e20 := hag.val_ (j := 14) (t := 20) rfl (hdep ⟨14, .data⟩ (by simp) rfl)
      refine opIn_value (i := 15) rfl rfl (fun c h => by cases h) ?_ ?_ (hK2 Z hS)
      · generalize a.eval = ev at *
        simp [Oper.about, resolve, Target.leads, Sem.run_pure, go_sem, e19, e20, hj, hj0]
      · have ec : ∀ v, a.eval (.const v) = v := fun _ => rfl
        generalize a.eval = ev at *
        simp [execOp, go_sem, ec, e19, e20, hj, hj0]
    · cases ho
      have e21 := hag.val_ (j := 15) (t := 21) rfl (hdep ⟨15, .data⟩ (by simp) rfl)
      refine opIn_value (i := 16) rfl rfl (fun c h => by cases h) rfl ?_ (hK2 Z hS.k16)
      have ec : ∀ v, a.eval (.const v) = v := fun _ => rfl
      generalize a.eval = ev at *
      simp [execOp, go_sem, ec, e21, (hS.rdj hdn hj)]
    · cases ho
      have e0 : a.eval (.tmp 0) = .pointer (some ⟨R, 0, none⟩) := hag.keep 0 rfl
      refine opIn_value (i := 17) rfl rfl (fun c h => by cases h) rfl ?_ (hK2 Z hS)
      have ec : ∀ v, a.eval (.const v) = v := fun _ => rfl
      generalize a.eval = ev at *
      simp [execOp, go_sem, ec, e0]
    · cases ho
      have e23 := hag.val_ (j := 17) (t := 23) rfl (hdep ⟨17, .data⟩ (by simp) rfl)
      refine opIn_value (i := 18) rfl rfl (fun c h => by cases h) rfl ?_ (hK2 Z hS)
      have ec : ∀ v, a.eval (.const v) = v := fun _ => rfl
      generalize a.eval = ev at *
      simp [execOp, go_sem, ec, e23]
    · cases ho
      have e24 := hag.val_ (j := 18) (t := 24) rfl (hdep ⟨18, .data⟩ (by simp) rfl)
      refine opIn_value (i := 19) rfl rfl (fun c h => by cases h) rfl ?_ (hK2 Z hS)
      have ec : ∀ v, a.eval (.const v) = v := fun _ => rfl
      generalize a.eval = ev at *
      simp [execOp, go_sem, ec, e24]
    · cases ho
      have e25 := hag.val_ (j := 19) (t := 25) rfl (hdep ⟨19, .data⟩ (by simp) rfl)
      refine opIn_value (i := 20) rfl rfl (fun c h => by cases h) rfl ?_ (hK2 Z hS)
      have ec : ∀ v, a.eval (.const v) = v := fun _ => rfl
      generalize a.eval = ev at *
      simp [execOp, go_sem, ec, e25, zz.1]
    · cases ho
      have e1 : a.eval (.tmp 1) = .int .i64 (i : Nat) := hag.keep 1 rfl
      refine opIn_value (i := 21) rfl rfl (fun c h => by cases h) rfl ?_ (hK2 Z hS)
      have ec : ∀ v, a.eval (.const v) = v := fun _ => rfl
      generalize a.eval = ev at *
      simp [execOp, go_sem, ec, e1]
    · cases ho
      have e26 := hag.val_ (j := 20) (t := 26) rfl (hdep ⟨20, .data⟩ (by simp) rfl)
      have e27 := hag.val_ (j := 21) (t := 27) rfl (hdep ⟨21, .data⟩ (by simp) rfl)
      refine opIn_value (i := 22) rfl rfl (fun c h => by cases h) ?_ ?_ (hK2 Z hS)
      · generalize a.eval = ev at *
        simp [Oper.about, resolve, Target.leads, Sem.run_pure, go_sem, e26, e27, hi, hi0]
      · have ec : ∀ v, a.eval (.const v) = v := fun _ => rfl
        generalize a.eval = ev at *
        simp [execOp, go_sem, ec, e26, e27, hi, hi0]
    · cases ho
      have e28 := hag.val_ (j := 22) (t := 28) rfl (hdep ⟨22, .data⟩ (by simp) rfl)
      refine opIn_value (i := 23) rfl rfl (fun c h => by cases h) rfl ?_ (hK2 Z hS.k23)
      have ec : ∀ v, a.eval (.const v) = v := fun _ => rfl
      generalize a.eval = ev at *
      simp [execOp, go_sem, ec, e28, (hS.rdi hdn hi)]
    · cases ho
      have e9 := hag.val_ (j := 3) (t := 9) rfl (hdep ⟨3, .data⟩ (by simp) rfl)
      have e10 := hag.val_ (j := 4) (t := 10) rfl (hdep ⟨4, .data⟩ (by simp) rfl)
      refine opIn_value (i := 24) rfl rfl (fun c h => by cases h) ?_ ?_ (hK2 Z hS)
      · generalize a.eval = ev at *
        simp [Oper.about, resolve, Target.leads, Sem.run_pure, go_sem, e9, e10, hi, hi0]
      · have ec : ∀ v, a.eval (.const v) = v := fun _ => rfl
        generalize a.eval = ev at *
        simp [execOp, go_sem, ec, e9, e10, hi, hi0]
    · cases ho
      have e30 := hag.val_ (j := 24) (t := 30) rfl (hdep ⟨24, .data⟩ (by simp) rfl)
      have e22 := hag.val_ (j := 16) (t := 22) rfl (hdep ⟨16, .data⟩ (by simp) rfl)
      refine wpOpIn_skip (i := 25) rfl rfl (fun c h => by cases h) rfl (w' := Z.setCell ⟨gv, i, none⟩ (.int .i64 (pb : Nat))) ?_ (hK2 _ (hS.do25 (hdep ⟨16, .data⟩ (by simp) rfl) (hdep ⟨23, .phase⟩ (by simp) rfl) hdn HBK.out))
      have ec : ∀ v, a.eval (.const v) = v := fun _ => rfl
      generalize a.eval = ev at *
      simp [execOp, go_sem, ec, e30, e22, zci, zfi]
    · cases ho
      have e14 := hag.val_ (j := 8) (t := 14) rfl (hdep ⟨8, .data⟩ (by simp) rfl)
      have e15 := hag.val_ (j := 9) (t := 15) rfl (hdep ⟨9, .data⟩ (by simp) rfl)
      refine opIn_value (i := 26) rfl rfl (fun c h => by cases h) ?_ ?_ (hK2 Z hS)
      · generalize a.eval = ev at *
        simp [Oper.about, resolve, Target.leads, Sem.run_pure, go_sem, e14, e15, hj, hj0]
      · have ec : ∀ v, a.eval (.const v) = v := fun _ => rfl
        generalize a.eval = ev at *
        simp [execOp, go_sem, ec, e14, e15, hj, hj0]
    · cases ho
      have e31 := hag.val_ (j := 26) (t := 31) rfl (hdep ⟨26, .data⟩ (by simp) rfl)
      have e29 := hag.val_ (j := 23) (t := 29) rfl (hdep ⟨23, .data⟩ (by simp) rfl)
      refine wpOpIn_skip (i := 27) rfl rfl (fun c h => by cases h) rfl (w' := Z.setCell ⟨gv, j, none⟩ (.int .i64 (pa : Nat))) ?_ (hK2 _ (hS.do27 (hdep ⟨25, .chain⟩ (by simp) rfl) hdn HAK.out hi hj))
      have ec : ∀ v, a.eval (.const v) = v := fun _ => rfl
      generalize a.eval = ev at *
      simp [execOp, go_sem, ec, e31, e29, zcj, zfj]
  case ensw =>
    intro Z1 done hdn hS
    simp only [putTmps, dstOf, List.size_toArray, List.length_cons, List.length_nil, Nat.reduceAdd, List.getElem?_toArray, List.getElem?_cons_zero, List.getElem?_cons_succ, Option.bind_some, List.setIfInBounds_toArray, List.set_cons_zero, List.set_cons_succ]
    have hr := hS.rs
    have ht := hS.ht
    rw [hdn 27 (by decide)] at hr
    simp only [if_true] at hr
    have HR9 := Lib.hid hr
    have HT9 := Lib.hid ht
    clear hr ht hS hdn
    go_wp2
    refine bodyPost_end (results_none rfl _ _ _) rfl ?_
    refine ⟨rfl, ?_, HT9.out⟩
    have e : swapL l i j = (l.set i pb).set j pa := by
      unfold swapL
      rw [List.getD_eq_getElem?_getD, List.getD_eq_getElem?_getD, HA.out, HBB.out]; rfl
    rw [e]; exact HR9.out
end Go.Proofs.Ytejhejpkfjhmkaa.Man

namespace Go.Proofs.Ytejhejpkfjhmkaa.Man
set_option linter.unusedVariables false
set_option linter.unusedSimpArgs false
def par (i : Nat) : Nat := (i - 1) / 2
def Hp (k : Nat → Nat) (n : Nat) : Prop := ∀ i, 0 < i → i < n → k (par i) ≤ k i
def UpI (k : Nat → Nat) (n j : Nat) : Prop := (∀ i, 0 < i → i < n → i ≠ j → k (par i) ≤ k i) ∧ ∀ i, 0 < i → i < n → 0 < j → par i = j → k (par j) ≤ k i
def DnI (k : Nat → Nat) (n i : Nat) : Prop := (∀ m, 0 < m → m < n → par m ≠ i → k (par m) ≤ k m) ∧ ∀ m, 0 < m → m < n → 0 < i → par m = i → k (par i) ≤ k m
def swk (k : Nat → Nat) (a b : Nat) : Nat → Nat := fun i => if i = a then k b else if i = b then k a else k i
theorem par_lt {i : Nat} (h : 0 < i) : par i < i := by unfold par; omega
theorem UpI.zero {k : Nat → Nat} {n : Nat} (h : UpI k n 0) : Hp k n := fun i h0 hi => h.1 i h0 hi (by omega)
theorem UpI.stop {k : Nat → Nat} {n j : Nat} (h : UpI k n j) (hk : ¬ k j < k (par j)) : Hp k n := fun i h0 hi => by
  by_cases e : i = j
  · subst e; omega
  · exact h.1 i h0 hi e
theorem UpI.step {k : Nat → Nat} {n j : Nat} (h : UpI k n j) (hj : 0 < j) (hn : j < n) (hk : k j < k (par j)) : UpI (swk k (par j) j) n (par j) := by
  have hp := par_lt hj
  refine ⟨fun i h0 hi hne => ?_, fun i h0 hi hp0 he => ?_⟩
  · have hpi := par_lt h0
    by_cases e : i = j
    · subst e
      unfold swk
      rw [if_pos rfl, if_neg (by omega), if_pos rfl]
      omega
    · have h1 := h.1 i h0 hi e
      unfold swk
      rw [if_neg hne, if_neg e]
      by_cases e2 : par i = par j
      · rw [if_pos e2]; rw [e2] at h1; omega
      · rw [if_neg e2]
        by_cases e3 : par i = j
        · rw [if_pos e3]; exact h.2 i h0 hi hj e3
        · rw [if_neg e3]; exact h1
  · have hpp := par_lt hp0
    have hpi := par_lt h0
    have h2 := h.1 (par j) hp0 (by omega) (by omega)
    unfold swk
    rw [if_neg (by omega), if_neg (by omega)]
    rw [if_neg (by omega)]
    by_cases e : i = j
    · rw [if_pos e]; exact h2
    · rw [if_neg e]
      have h1 := h.1 i h0 hi e
      rw [he] at h1
      omega
theorem DnI.stop {k : Nat → Nat} {n i j : Nat} (h : DnI k n i) (hj : ∀ m, 0 < m → m < n → par m = i → k j ≤ k m) (hk : ¬ k j < k i) : Hp k n := fun m h0 hm => by
  by_cases e : par m = i
  · have := hj m h0 hm e; rw [e]; omega
  · exact h.1 m h0 hm e
theorem DnI.none {k : Nat → Nat} {n i : Nat} (h : DnI k n i) (hn : n ≤ 2 * i + 1) : Hp k n := fun m h0 hm => by
  by_cases e : par m = i
  · unfold par at e; omega
  · exact h.1 m h0 hm e
theorem DnI.step {k : Nat → Nat} {n i j : Nat} (h : DnI k n i) (hj : ∀ m, 0 < m → m < n → par m = i → k j ≤ k m) (hk : k j < k i) (hj0 : 0 < j) (hjn : j < n) (hpj : par j = i) : DnI (swk k i j) n j := by
  have hij : i < j := by have := par_lt hj0; omega
  refine ⟨fun m h0 hm hne => ?_, fun m h0 hm _ he => ?_⟩
  · have hpm := par_lt h0
    by_cases e : m = j
    · subst e
      unfold swk
      rw [if_pos hpj, if_neg (by omega), if_pos rfl]
      omega
    · by_cases e2 : par m = i
      · unfold swk
        rw [if_pos e2, if_neg (by omega), if_neg e]
        exact hj m h0 hm e2
      · by_cases e3 : m = i
        · subst e3
          unfold swk
          rw [if_neg (by omega), if_neg (by omega), if_pos rfl]
          exact h.2 j hj0 hjn h0 hpj
        · unfold swk
          rw [if_neg e2, if_neg hne, if_neg e3, if_neg e]
          exact h.1 m h0 hm e2
  · have hpm := par_lt h0
    have h1 := h.1 m h0 hm (by omega)
    rw [he] at h1
    unfold swk
    rw [if_pos hpj, if_neg (by omega), if_neg (by omega)]
    exact h1
theorem Hp.congr {k k' : Nat → Nat} {n : Nat} (h : Hp k n) (e : ∀ m, m < n → k' m = k m) : Hp k' n := fun i h0 hi => by
  have := par_lt h0
  rw [e i hi, e (par i) (by omega)]; exact h i h0 hi
theorem UpI.congr {k k' : Nat → Nat} {n j : Nat} (h : UpI k n j) (e : ∀ m, m < n → k' m = k m) : UpI k' n j := by
  refine ⟨fun i h0 hi hne => ?_, fun i h0 hi hj he => ?_⟩
  · have := par_lt h0
    rw [e i hi, e (par i) (by omega)]; exact h.1 i h0 hi hne
  · have := par_lt h0
    have h3 := par_lt hj
    rw [e i hi, e (par j) (by omega)]; exact h.2 i h0 hi hj he
theorem DnI.congr {k k' : Nat → Nat} {n j : Nat} (h : DnI k n j) (e : ∀ m, m < n → k' m = k m) : DnI k' n j := by
  refine ⟨fun i h0 hi hne => ?_, fun i h0 hi hj he => ?_⟩
  · have := par_lt h0
    rw [e i hi, e (par i) (by omega)]; exact h.1 i h0 hi hne
  · have := par_lt h0
    have h3 := par_lt hj
    rw [e i hi, e (par j) (by omega)]; exact h.2 i h0 hi hj he
theorem Hp.top {k : Nat → Nat} {n : Nat} (h : Hp k n) : ∀ i, i < n → k 0 ≤ k i := by
  intro i
  induction i using Nat.strongRecOn with
  | _ i ih =>
    intro hi
    rcases Nat.eq_zero_or_pos i with h0 | h0
    · rw [h0]; exact Nat.le_refl _
    · have := par_lt h0
      exact Nat.le_trans (ih (par i) this (by omega)) (h i h0 hi)
def kys (lw : Nat → Nat) (l : List Nat) : Nat → Nat := fun i => lw (l.getD i 0)
theorem kys_get (lw : Nat → Nat) (l : List Nat) (i : Nat) (h : i < l.length) : lw l[i] = kys lw l i := by
  unfold kys; rw [List.getD_eq_getElem?_getD, List.getElem?_eq_getElem h]; rfl
theorem kys_swap (lw : Nat → Nat) (l : List Nat) (i j : Nat) (hi : i < l.length) (hj : j < l.length) (m : Nat) (hm : m < l.length) : kys lw (swapL l i j) m = swk (kys lw l) i j m := by
  unfold kys swapL swk
  simp only [List.getD_eq_getElem?_getD]
  rw [List.getElem?_set]
  by_cases e : j = m
  · subst e
    rw [if_pos rfl, List.length_set, if_pos hm]
    by_cases e2 : j = i
    · subst e2; simp
    · simp [e2]
  · rw [if_neg e, List.getElem?_set]
    by_cases e2 : i = m
    · subst e2
      simp [hi]
    · rw [if_neg e2, if_neg (Ne.symm e2), if_neg (Ne.symm e)]
theorem swapL_perm (l : List Nat) (i j : Nat) (hi : i < l.length) (hj : j < l.length) : (swapL l i j).Perm l := by
  rw [List.perm_iff_count]
  intro a
  unfold swapL
  rw [List.count_set (by rw [List.length_set]; exact hj), List.count_set hi]
  have h1 : l.getD j 0 = l[j] := by simp [List.getD_eq_getElem?_getD, hj]
  have h2 : l.getD i 0 = l[i] := by simp [List.getD_eq_getElem?_getD, hi]
  rw [h1, h2, List.getElem_set]
  have p1 : l[i] = a → 0 < l.count a := fun e => List.count_pos_iff.2 (e ▸ List.getElem_mem hi)
  have p2 : l[j] = a → 0 < l.count a := fun e => List.count_pos_iff.2 (e ▸ List.getElem_mem hj)
  by_cases e : i = j
  · subst e
    simp only [if_true]
    by_cases e1 : l[i] = a
    · have := p1 e1; simp [e1]; omega
    · simp [e1]
  · rw [if_neg e]
    by_cases e1 : l[i] = a <;> by_cases e2 : l[j] = a <;> simp [e1, e2] <;> (first | omega | (have := p1 e1; omega) | (have := p2 e2; omega) | skip)
end Go.Proofs.Ytejhejpkfjhmkaa.Man

namespace Go.Proofs.Ytejhejpkfjhmkaa.Man
open Go.RowKit Go.Shelf Go.Proofs.Ytejhejpkfjhmkaa.Pr Go.Proofs.YtejhejpkfjhmkaaW.PrintWords Go.Proofs.YtejhejpkfjhmkaaW.PrintMore Go.Proofs.Ytejhejpkfjhmkaa.Tarj
attribute [local go_sem] Oper.semAt_some
set_option linter.unusedVariables false
set_option linter.unusedSimpArgs false
theorem mLen (R : Nat) (w : World) : (method 198 41 (.pointer (some ⟨R, 0, none⟩)) "Len").run Try.prog w = .ok (26, .pointer (some ⟨R, 0, none⟩)) w := by kernel_rfl
theorem mLess (R : Nat) (w : World) : (method 198 41 (.pointer (some ⟨R, 0, none⟩)) "Less").run Try.prog w = .ok (74, .pointer (some ⟨R, 0, none⟩)) w := by kernel_rfl
theorem mSwap (R : Nat) (w : World) : (method 198 41 (.pointer (some ⟨R, 0, none⟩)) "Swap").run Try.prog w = .ok (77, .pointer (some ⟨R, 0, none⟩)) w := by kernel_rfl
theorem mPush (R : Nat) (w : World) : (method 198 41 (.pointer (some ⟨R, 0, none⟩)) "Push").run Try.prog w = .ok (76, .pointer (some ⟨R, 0, none⟩)) w := by kernel_rfl
theorem mPop (R : Nat) (w : World) : (method 198 41 (.pointer (some ⟨R, 0, none⟩)) "Pop").run Try.prog w = .ok (75, .pointer (some ⟨R, 0, none⟩)) w := by kernel_rfl
structure UP (B R bl K : Nat) (lw : Nat → Nat) (v : Value) (l0 : List Nat) (W0 : World) (j : Nat) (l : List Nat) (W : World) : Prop where
  rs : RS B R bl K lw v l W
  pm : l.Perm l0
  up : UpI (kys lw l) l.length j
  ht : Ht B R W0 v W v
theorem up_any {B R bl K : Nat} {lw : Nat → Nat} {v : Value} {l : List Nat} {W : World} (h : RS B R bl K lw v l W) (j : Nat) (hj : j < l.length) (hu : UpI (kys lw l) l.length j) :
    Calls Try.prog 34 #[.iface 41 (.pointer (some ⟨R, 0, none⟩)), .int .i64 (j : Nat)] W fun e W' => e = .returned (.tuple #[]) ∧ ∃ l', RS B R bl K lw v l' W' ∧ l'.Perm l ∧ Hp (kys lw l') l'.length ∧ Ht B R W v W' v := by
  have hm1 := mLess R
  have hm2 := mSwap R
  have H0 := Lib.hid (show UP B R bl K lw v l W j l W from ⟨h, List.Perm.refl _, hu, Ht.refl _ _ _ _⟩)
  have HLN := Lib.hid h.len
  clear h hu
  go_enter Try.func34, Try.ntmps34
  go_wp2
  go_loopg [1] j (fun kq v1 w' => v1 = .int .i64 (kq : Nat) ∧ kq < l.length ∧ ∃ l', Hid (UP B R bl K lw v l W kq l' w'))
  case atStart => exact ⟨rfl, hj, l, H0⟩
  case round =>
    obtain ⟨rfl, hjl, l1, HU⟩ := hrel
    rcases Nat.eq_zero_or_pos gk with h0 | h0
    · subst h0
      go_wp2
      refine bodyPost_end (results_none rfl _ _ _) rfl ?_
      exact ⟨rfl, l1, HU.out.rs, HU.out.pm, HU.out.up.zero, HU.out.ht⟩
    · obtain ⟨q, rfl⟩ : ∃ q, gk = q + 1 := ⟨gk - 1, by omega⟩
      obtain ⟨p, hp⟩ : ∃ p, p = par (q + 1) := ⟨_, rfl⟩
      have hpq : p = q / 2 := by rw [hp]; unfold par; rw [Nat.add_sub_cancel]
      have hlen1 : l1.length = l.length := HU.out.pm.length_eq
      have hl1 : q + 1 < l1.length := by omega
      have hpl : p < l1.length := by omega
      have hln := HLN.out
      have hw1 : wrap64 (q : Int) = (q : Int) := by simp only [wrap64]; omega
      have hw2 : wrap64 ((q : Int).tdiv 2) = (p : Int) := by
        have e : (q : Int).tdiv 2 = ((q / 2 : Nat) : Int) := by rw [Int.tdiv_eq_ediv_of_nonneg (Int.natCast_nonneg q)]; rfl
        rw [e, ← hpq]
        simp only [wrap64]; omega
      have hw3 : wrap64 ((q : Int) / 2) = (p : Int) := by simp only [wrap64]; omega
      have hne : ((p : Int) == (q : Int) + 1) = false := by simp; omega
      have hless := less_any HU.out.rs (q + 1) p hl1 hpl
      rw [kys_get lw l1 (q + 1) hl1, kys_get lw l1 p hpl] at hless
      have HP := Lib.hid hp
      have HPQ := Lib.hid hpq
      have HL1 := Lib.hid hl1
      have HPL := Lib.hid hpl
      clear hp hpq hl1 hpl hlen1 hln
      by_cases hlt : kys lw l1 (q + 1) < kys lw l1 p
      · rw [show decide (kys lw l1 (q + 1) < kys lw l1 p) = true from decide_eq_true hlt] at hless
        have HLESS := Lib.hid (show Calls Try.prog 74 #[.pointer (some ⟨R, 0, none⟩), .int .i64 ((q : Int) + 1), .int .i64 (p : Nat)] wr fun e W' => e = .returned (.bool true) ∧ ∃ n, W' = wr.drewN n from hless)
        have HLT := Lib.hid hlt
        clear hless hlt
        go_upto_region 2 with (first
          | (go_at_call 74; (with_reducible refine HLESS.out.mono ?_; rintro x w1 ⟨rfl, nd, rfl⟩)))
        have hswap := swap_any (HU.out.rs.drew nd) p (q + 1) HPL.out HL1.out
        have HSWAP := Lib.hid (show Calls Try.prog 77 #[.pointer (some ⟨R, 0, none⟩), .int .i64 (p : Nat), .int .i64 ((q : Int) + 1)] (wr.drewN nd) fun e W' => e = .returned (.tuple #[]) ∧ RS B R bl K lw v (swapL l1 p (q + 1)) W' ∧ Ht B R (wr.drewN nd) v W' v from hswap)
        clear hswap
        go_wp2_with (first
          | (go_at_call 77; (with_reducible refine HSWAP.out.mono ?_; rintro x w2 ⟨rfl, hrs2, hht2⟩; have HRS2 := Lib.hid hrs2; have HHT2 := Lib.hid hht2; clear hrs2 hht2)))
        go_roundg p
        case measure => have := HPQ.out; omega
        case rel =>
          refine ⟨rfl, by have := HPL.out; have := HU.out.pm.length_eq; omega, swapL l1 p (q + 1), Lib.hid ⟨HRS2.out, (swapL_perm l1 p (q + 1) HPL.out HL1.out).trans HU.out.pm, ?_, (HU.out.ht.drew nd).trans HHT2.out⟩⟩
          rw [swapL_len]
          refine UpI.congr ?_ (fun m hm => kys_swap lw l1 p (q + 1) HPL.out HL1.out m hm)
          have hk : kys lw l1 (q + 1) < kys lw l1 (par (q + 1)) := by
            rw [← HP.out]; exact HLT.out
          have := HU.out.up.step (Nat.succ_pos q) HL1.out hk
          rw [← HP.out] at this
          exact this
      · rw [show decide (kys lw l1 (q + 1) < kys lw l1 p) = false from decide_eq_false hlt] at hless
        have HLESS := Lib.hid (show Calls Try.prog 74 #[.pointer (some ⟨R, 0, none⟩), .int .i64 ((q : Int) + 1), .int .i64 (p : Nat)] wr fun e W' => e = .returned (.bool false) ∧ ∃ n, W' = wr.drewN n from hless)
        have HLT := Lib.hid hlt
        clear hless hlt
        go_wp2_with (first
          | (go_at_call 74; (with_reducible refine HLESS.out.mono ?_; rintro x w1 ⟨rfl, nd, rfl⟩)))
        refine bodyPost_end (results_none rfl _ _ _) rfl ?_
        refine ⟨rfl, l1, HU.out.rs.drew nd, HU.out.pm, HU.out.up.stop ?_, HU.out.ht.drew nd⟩
        rw [← HP.out]; exact HLT.out
end Go.Proofs.Ytejhejpkfjhmkaa.Man

namespace Go.Proofs.Ytejhejpkfjhmkaa.Man
open Go.RowKit Go.Shelf Go.Proofs.Ytejhejpkfjhmkaa.Pr Go.Proofs.YtejhejpkfjhmkaaW.PrintWords Go.Proofs.YtejhejpkfjhmkaaW.PrintMore Go.Proofs.Ytejhejpkfjhmkaa.Tarj
attribute [local go_sem] Oper.semAt_some
set_option linter.unusedVariables false
set_option linter.unusedSimpArgs false
structure DN (B R bl K : Nat) (lw : Nat → Nat) (v : Value) (l0 : List Nat) (W0 : World) (n i : Nat) (l : List Nat) (W : World) : Prop where
  rs : RS B R bl K lw v l W
  pm : l.Perm l0
  dn : DnI (kys lw l) n i
  hi : ∀ m, n ≤ m → l[m]? = l0[m]?
  ht : Ht B R W0 v W v
theorem swapL_far (l : List Nat) (i j m : Nat) (hi : i ≠ m) (hj : j ≠ m) : (swapL l i j)[m]? = l[m]? := by
  unfold swapL
  rw [List.getElem?_set, if_neg hj, List.getElem?_set, if_neg hi]
theorem DN.next {B R bl K : Nat} {lw : Nat → Nat} {v : Value} {l0 l : List Nat} {W0 W W1 : World} {n i j : Nat} (h : DN B R bl K lw v l0 W0 n i l W) (hn : n ≤ l0.length) (hj0 : 0 < j) (hjn : j < n) (hin : i < n) (hp : par j = i)
    (hm : ∀ m, 0 < m → m < n → par m = i → kys lw l j ≤ kys lw l m) (hk : kys lw l j < kys lw l i) (hr : RS B R bl K lw v (swapL l i j) W1) (ht : Ht B R W0 v W1 v) : DN B R bl K lw v l0 W0 n j (swapL l i j) W1 := by
  have hl := h.pm.length_eq
  refine ⟨hr, (swapL_perm l i j (by omega) (by omega)).trans h.pm, ?_, fun m hm => (swapL_far l i j m (by omega) (by omega)).trans (h.hi m hm), ht⟩
  exact (h.dn.step hm hk hj0 hjn hp).congr (fun m hm => kys_swap lw l i j (by omega) (by omega) m (by omega))
set_option maxHeartbeats 4000000 in
theorem down_any {B R bl K : Nat} {lw : Nat → Nat} {v : Value} {l : List Nat} {W : World} (h : RS B R bl K lw v l W) (n : Nat) (hn : n ≤ l.length) (hd : DnI (kys lw l) n 0) :
    Calls Try.prog 35 #[.iface 41 (.pointer (some ⟨R, 0, none⟩)), .int .i64 0, .int .i64 (n : Nat)] W fun e W' => (∃ b, e = .returned (.bool b)) ∧ ∃ l', RS B R bl K lw v l' W' ∧ l'.Perm l ∧ Hp (kys lw l') n ∧ (∀ m, n ≤ m → l'[m]? = l[m]?) ∧ Ht B R W v W' v := by
  have hm1 := mLess R
  have hm2 := mSwap R
  have H0 := Lib.hid (show DN B R bl K lw v l W n 0 l W from ⟨h, List.Perm.refl _, hd, fun _ _ => rfl, Ht.refl _ _ _ _⟩)
  have hln := h.len
  have HL0 := Lib.hid hn
  have hn1 : n ≤ 1000 := by omega
  clear h hd hn hln
  go_enter Try.func35, Try.ntmps35
  go_wp2
  go_loopg [7] n (fun kq v7 w' => ∃ (i : Nat) (l' : List Nat), v7 = .int .i64 (i : Nat) ∧ i + kq = n ∧ (i < n ∨ i = 0) ∧ Hid (DN B R bl K lw v l W n i l' w'))
  case atStart => exact ⟨0, l, rfl, by omega, .inr rfl, H0⟩
  case round =>
    obtain ⟨i, l1, rfl, hik, hin, HU⟩ := hrel
    obtain ⟨c, hc⟩ : ∃ c, c = 2 * i + 1 := ⟨_, rfl⟩
    have hw1 : wrap64 (2 * (i : Int)) = 2 * (i : Int) := by simp only [wrap64]; omega
    have hw2 : wrap64 (2 * (i : Int) + 1) = (c : Int) := by simp only [wrap64]; omega
    have hw4 : wrap64 ((c : Int) + 1) = (c : Int) + 1 := by simp only [wrap64]; omega
    have hc0 : ¬ ((c : Int) < 0) := by omega
    have HLN := Lib.hid (show n ≤ l1.length ∧ n ≤ 1000 from ⟨by rw [HU.out.pm.length_eq]; exact HL0.out, hn1⟩)
    by_cases hlt : c < n
    · have hle : ¬ (n ≤ c) := by omega
      have HC := Lib.hid (show c = 2 * i + 1 ∧ i < n ∧ c < n ∧ i + gk = n from ⟨hc, by omega, hlt, hik⟩)
      clear hc hik hin
      by_cases hj2 : c + 1 < n
      · by_cases hkk : kys lw l1 (c + 1) < kys lw l1 c
        · have HK2 := Lib.hid hkk
          have HL2 := Lib.hid (show Calls Try.prog 74 #[.pointer (some ⟨R, 0, none⟩), .int .i64 ((c : Int) + 1), .int .i64 (c : Nat)] (wr) fun e W' => e = .returned (.bool true) ∧ ∃ n, W' = World.drewN (wr) n from by
            have q := less_any (HU.out.rs) (c + 1) c (by have := HLN.out.1; have := HC.out; omega) (by have := HLN.out.1; have := HC.out; omega)
            rw [kys_get lw l1 (c + 1) (by have := HLN.out.1; have := HC.out; omega), kys_get lw l1 c (by have := HLN.out.1; have := HC.out; omega)] at q
            rw [show decide (kys lw l1 (c + 1) < kys lw l1 c) = true from decide_eq_true hkk] at q
            exact q)
          clear hkk
          go_upto_region 8 with (first
            | (go_at_call 74; (with_reducible refine HL2.out.mono ?_; rintro x w1 ⟨rfl, n1, rfl⟩)))
          have hmin : ∀ m, 0 < m → m < n → par m = i → kys lw l1 (c + 1) ≤ kys lw l1 m := by
            intro m h0 hm hp
            have hc := HC.out
            have : m = c ∨ m = c + 1 := by unfold par at hp; omega
            rcases this with rfl | rfl
            · have := HK2.out; omega
            · exact Nat.le_refl _
          have HMIN := Lib.hid hmin
          clear hmin
          by_cases hkk : kys lw l1 (c + 1) < kys lw l1 i
          · have HKK := Lib.hid hkk
            have HL3 := Lib.hid (show Calls Try.prog 74 #[.pointer (some ⟨R, 0, none⟩), .int .i64 ((c : Int) + 1), .int .i64 (i : Nat)] (World.drewN wr n1) fun e W' => e = .returned (.bool true) ∧ ∃ n, W' = World.drewN (World.drewN wr n1) n from by
              have q := less_any (HU.out.rs.drew n1) (c + 1) i (by have := HLN.out.1; have := HC.out; omega) (by have := HLN.out.1; have := HC.out; omega)
              rw [kys_get lw l1 (c + 1) (by have := HLN.out.1; have := HC.out; omega), kys_get lw l1 i (by have := HLN.out.1; have := HC.out; omega)] at q
              rw [show decide (kys lw l1 (c + 1) < kys lw l1 i) = true from decide_eq_true hkk] at q
              exact q)
            clear hkk
            go_upto_region 9 with (first
              | (go_at_call 74; (with_reducible refine HL3.out.mono ?_; rintro x w2 ⟨rfl, n2, rfl⟩)))
            have HSW := Lib.hid (show Calls Try.prog 77 #[.pointer (some ⟨R, 0, none⟩), .int .i64 (i : Nat), .int .i64 ((c : Int) + 1)] (World.drewN wr (n1 + n2)) fun e W' => e = .returned (.tuple #[]) ∧ RS B R bl K lw v (swapL l1 i (c + 1)) W' ∧ Ht B R (World.drewN wr (n1 + n2)) v W' v from swap_any ((HU.out.rs).drew (n1 + n2)) i (c + 1) (by have := HLN.out.1; have := HC.out; omega) (by have := HLN.out.1; have := HC.out; omega))
            go_wp2_with (first
              | (go_at_call 77; (with_reducible refine HSW.out.mono ?_; rintro x w3 ⟨rfl, hrs3, hht3⟩; have HRS3 := Lib.hid hrs3; have HHT3 := Lib.hid hht3; clear hrs3 hht3)))
            go_roundg (n - (c + 1))
            case measure => have := HC.out; omega
            case rel =>
              exact ⟨(c + 1), swapL l1 i (c + 1), rfl, by have := HC.out; omega, by have := HC.out; omega, Lib.hid (HU.out.next HL0.out (by have := HC.out; omega) (by have := HC.out; omega) (by have := HC.out; omega) (by unfold par; have := HC.out; omega) HMIN.out HKK.out HRS3.out (((HU.out.ht).drew (n1 + n2)).trans HHT3.out))⟩
          · have HKK := Lib.hid hkk
            have HL3 := Lib.hid (show Calls Try.prog 74 #[.pointer (some ⟨R, 0, none⟩), .int .i64 ((c : Int) + 1), .int .i64 (i : Nat)] (World.drewN wr n1) fun e W' => e = .returned (.bool false) ∧ ∃ n, W' = World.drewN (World.drewN wr n1) n from by
              have q := less_any (HU.out.rs.drew n1) (c + 1) i (by have := HLN.out.1; have := HC.out; omega) (by have := HLN.out.1; have := HC.out; omega)
              rw [kys_get lw l1 (c + 1) (by have := HLN.out.1; have := HC.out; omega), kys_get lw l1 i (by have := HLN.out.1; have := HC.out; omega)] at q
              rw [show decide (kys lw l1 (c + 1) < kys lw l1 i) = false from decide_eq_false hkk] at q
              exact q)
            clear hkk
            go_wp2_with (first
              | (go_at_call 74; (with_reducible refine HL3.out.mono ?_; rintro x w2 ⟨rfl, n2, rfl⟩)))
            go_ret
            exact ⟨⟨_, rfl⟩, l1, (HU.out.rs).drew (n1 + n2), HU.out.pm, HU.out.dn.stop HMIN.out HKK.out, HU.out.hi, (HU.out.ht).drew (n1 + n2)⟩
        · have HK2 := Lib.hid hkk
          have HL2 := Lib.hid (show Calls Try.prog 74 #[.pointer (some ⟨R, 0, none⟩), .int .i64 ((c : Int) + 1), .int .i64 (c : Nat)] (wr) fun e W' => e = .returned (.bool false) ∧ ∃ n, W' = World.drewN (wr) n from by
            have q := less_any (HU.out.rs) (c + 1) c (by have := HLN.out.1; have := HC.out; omega) (by have := HLN.out.1; have := HC.out; omega)
            rw [kys_get lw l1 (c + 1) (by have := HLN.out.1; have := HC.out; omega), kys_get lw l1 c (by have := HLN.out.1; have := HC.out; omega)] at q
            rw [show decide (kys lw l1 (c + 1) < kys lw l1 c) = false from decide_eq_false hkk] at q
            exact q)
          clear hkk
          go_upto_region 8 with (first
            | (go_at_call 74; (with_reducible refine HL2.out.mono ?_; rintro x w1 ⟨rfl, n1, rfl⟩)))
          have hmin : ∀ m, 0 < m → m < n → par m = i → kys lw l1 c ≤ kys lw l1 m := by
            intro m h0 hm hp
            have hc := HC.out
            have : m = c ∨ m = c + 1 := by unfold par at hp; omega
            rcases this with rfl | rfl
            · exact Nat.le_refl _
            · have := HK2.out; omega
          have HMIN := Lib.hid hmin
          clear hmin
          by_cases hkk : kys lw l1 c < kys lw l1 i
          · have HKK := Lib.hid hkk
            have HL3 := Lib.hid (show Calls Try.prog 74 #[.pointer (some ⟨R, 0, none⟩), .int .i64 (c : Nat), .int .i64 (i : Nat)] (World.drewN wr n1) fun e W' => e = .returned (.bool true) ∧ ∃ n, W' = World.drewN (World.drewN wr n1) n from by
              have q := less_any (HU.out.rs.drew n1) c i (by have := HLN.out.1; have := HC.out; omega) (by have := HLN.out.1; have := HC.out; omega)
              rw [kys_get lw l1 c (by have := HLN.out.1; have := HC.out; omega), kys_get lw l1 i (by have := HLN.out.1; have := HC.out; omega)] at q
              rw [show decide (kys lw l1 c < kys lw l1 i) = true from decide_eq_true hkk] at q
              exact q)
            clear hkk
            go_upto_region 9 with (first
              | (go_at_call 74; (with_reducible refine HL3.out.mono ?_; rintro x w2 ⟨rfl, n2, rfl⟩)))
            have HSW := Lib.hid (show Calls Try.prog 77 #[.pointer (some ⟨R, 0, none⟩), .int .i64 (i : Nat), .int .i64 (c : Nat)] (World.drewN wr (n1 + n2)) fun e W' => e = .returned (.tuple #[]) ∧ RS B R bl K lw v (swapL l1 i c) W' ∧ Ht B R (World.drewN wr (n1 + n2)) v W' v from swap_any ((HU.out.rs).drew (n1 + n2)) i c (by have := HLN.out.1; have := HC.out; omega) (by have := HLN.out.1; have := HC.out; omega))
            go_wp2_with (first
              | (go_at_call 77; (with_reducible refine HSW.out.mono ?_; rintro x w3 ⟨rfl, hrs3, hht3⟩; have HRS3 := Lib.hid hrs3; have HHT3 := Lib.hid hht3; clear hrs3 hht3)))
            go_roundg (n - c)
            case measure => have := HC.out; omega
            case rel =>
              exact ⟨c, swapL l1 i c, rfl, by have := HC.out; omega, by have := HC.out; omega, Lib.hid (HU.out.next HL0.out (by have := HC.out; omega) (by have := HC.out; omega) (by have := HC.out; omega) (by unfold par; have := HC.out; omega) HMIN.out HKK.out HRS3.out (((HU.out.ht).drew (n1 + n2)).trans HHT3.out))⟩
          · have HKK := Lib.hid hkk
            have HL3 := Lib.hid (show Calls Try.prog 74 #[.pointer (some ⟨R, 0, none⟩), .int .i64 (c : Nat), .int .i64 (i : Nat)] (World.drewN wr n1) fun e W' => e = .returned (.bool false) ∧ ∃ n, W' = World.drewN (World.drewN wr n1) n from by
              have q := less_any (HU.out.rs.drew n1) c i (by have := HLN.out.1; have := HC.out; omega) (by have := HLN.out.1; have := HC.out; omega)
              rw [kys_get lw l1 c (by have := HLN.out.1; have := HC.out; omega), kys_get lw l1 i (by have := HLN.out.1; have := HC.out; omega)] at q
              rw [show decide (kys lw l1 c < kys lw l1 i) = false from decide_eq_false hkk] at q
              exact q)
            clear hkk
            go_wp2_with (first
              | (go_at_call 74; (with_reducible refine HL3.out.mono ?_; rintro x w2 ⟨rfl, n2, rfl⟩)))
            go_ret
            exact ⟨⟨_, rfl⟩, l1, (HU.out.rs).drew (n1 + n2), HU.out.pm, HU.out.dn.stop HMIN.out HKK.out, HU.out.hi, (HU.out.ht).drew (n1 + n2)⟩
      · go_upto_region 8 with (fail)
        have hmin : ∀ m, 0 < m → m < n → par m = i → kys lw l1 c ≤ kys lw l1 m := by
          intro m h0 hm hp
          have hc := HC.out
          have : m = c ∨ m = c + 1 := by unfold par at hp; omega
          rcases this with rfl | rfl
          · exact Nat.le_refl _
          · omega
        have HMIN := Lib.hid hmin
        clear hmin
        by_cases hkk : kys lw l1 c < kys lw l1 i
        · have HKK := Lib.hid hkk
          have HL3 := Lib.hid (show Calls Try.prog 74 #[.pointer (some ⟨R, 0, none⟩), .int .i64 (c : Nat), .int .i64 (i : Nat)] (wr) fun e W' => e = .returned (.bool true) ∧ ∃ n, W' = World.drewN (wr) n from by
            have q := less_any (HU.out.rs) c i (by have := HLN.out.1; have := HC.out; omega) (by have := HLN.out.1; have := HC.out; omega)
            rw [kys_get lw l1 c (by have := HLN.out.1; have := HC.out; omega), kys_get lw l1 i (by have := HLN.out.1; have := HC.out; omega)] at q
            rw [show decide (kys lw l1 c < kys lw l1 i) = true from decide_eq_true hkk] at q
            exact q)
          clear hkk
          go_upto_region 9 with (first
            | (go_at_call 74; (with_reducible refine HL3.out.mono ?_; rintro x w2 ⟨rfl, n2, rfl⟩)))
          have HSW := Lib.hid (show Calls Try.prog 77 #[.pointer (some ⟨R, 0, none⟩), .int .i64 (i : Nat), .int .i64 (c : Nat)] (World.drewN wr n2) fun e W' => e = .returned (.tuple #[]) ∧ RS B R bl K lw v (swapL l1 i c) W' ∧ Ht B R (World.drewN wr n2) v W' v from swap_any ((HU.out.rs).drew n2) i c (by have := HLN.out.1; have := HC.out; omega) (by have := HLN.out.1; have := HC.out; omega))
          go_wp2_with (first
            | (go_at_call 77; (with_reducible refine HSW.out.mono ?_; rintro x w3 ⟨rfl, hrs3, hht3⟩; have HRS3 := Lib.hid hrs3; have HHT3 := Lib.hid hht3; clear hrs3 hht3)))
          go_roundg (n - c)
          case measure => have := HC.out; omega
          case rel =>
            exact ⟨c, swapL l1 i c, rfl, by have := HC.out; omega, by have := HC.out; omega, Lib.hid (HU.out.next HL0.out (by have := HC.out; omega) (by have := HC.out; omega) (by have := HC.out; omega) (by unfold par; have := HC.out; omega) HMIN.out HKK.out HRS3.out (((HU.out.ht).drew n2).trans HHT3.out))⟩
        · have HKK := Lib.hid hkk
          have HL3 := Lib.hid (show Calls Try.prog 74 #[.pointer (some ⟨R, 0, none⟩), .int .i64 (c : Nat), .int .i64 (i : Nat)] (wr) fun e W' => e = .returned (.bool false) ∧ ∃ n, W' = World.drewN (wr) n from by
            have q := less_any (HU.out.rs) c i (by have := HLN.out.1; have := HC.out; omega) (by have := HLN.out.1; have := HC.out; omega)
            rw [kys_get lw l1 c (by have := HLN.out.1; have := HC.out; omega), kys_get lw l1 i (by have := HLN.out.1; have := HC.out; omega)] at q
            rw [show decide (kys lw l1 c < kys lw l1 i) = false from decide_eq_false hkk] at q
            exact q)
          clear hkk
          go_wp2_with (first
            | (go_at_call 74; (with_reducible refine HL3.out.mono ?_; rintro x w2 ⟨rfl, n2, rfl⟩)))
          go_ret
          exact ⟨⟨_, rfl⟩, l1, (HU.out.rs).drew n2, HU.out.pm, HU.out.dn.stop HMIN.out HKK.out, HU.out.hi, (HU.out.ht).drew n2⟩
    · have hle : n ≤ c := by omega
      have HC := Lib.hid (show c = 2 * i + 1 from hc)
      clear hc hik hin
      go_wp2
      go_ret
      refine ⟨?_, l1, HU.out.rs, HU.out.pm, HU.out.dn.none (by rw [← HC.out]; exact hle), HU.out.hi, HU.out.ht⟩
      by_cases e : 0 < i
      · right; simp [e]
      · left; simp [e]
theorem hpush_any {B R bl K : Nat} {lw : Nat → Nat} {v : Value} {l : List Nat} {W : World} (h : RS B R bl K lw v l W) (hh : Hp (kys lw l) l.length) (x : Nat) (hx : x < K) (hl : l.length + 1 ≤ 1000) (hB : B ≤ W.heap.size) :
    Calls Try.prog 25 #[.iface 41 (.pointer (some ⟨R, 0, none⟩)), .iface 3 (.int .i64 (x : Nat))] W fun e W' => e = .returned (.tuple #[]) ∧ ∃ v' l', RS B R bl K lw v' l' W' ∧ l'.Perm (l ++ [x]) ∧ Hp (kys lw l') l'.length ∧ Ht B R W v W' v' := by
  have hm1 := mPush R
  have hm2 := mLen R
  have hpush := push_any h x hx hl hB
  have HPUSH := Lib.hid hpush
  have hup : UpI (kys lw (l ++ [x])) (l ++ [x]).length l.length := by
    rw [List.length_append]
    refine ⟨fun i h0 hi hne => ?_, fun i h0 hi hj he => ?_⟩
    · have hi' : i < l.length := by simp at hi; omega
      have hp := par_lt h0
      have e : ∀ m, m < l.length → kys lw (l ++ [x]) m = kys lw l m := fun m hm => by
        unfold kys; rw [List.getD_eq_getElem?_getD, List.getD_eq_getElem?_getD, List.getElem?_append_left hm]
      rw [e i hi', e (par i) (by omega)]
      exact hh i h0 hi'
    · exfalso
      simp at hi
      unfold par at he
      omega
  have HUP := Lib.hid hup
  have hw1 : wrap64 ((l.length : Int)) = (l.length : Int) := by simp only [wrap64]; omega
  have HB := Lib.hid hB
  clear hpush hup hh h hB
  go_enter Try.func25, Try.ntmps25
  go_upto_region 1 with (first
    | (go_at_call 76; (with_reducible refine HPUSH.out.mono ?_; rintro z w1 ⟨rfl, v1, hrs1, hht1⟩; have HRS1 := Lib.hid hrs1; have HHT1 := Lib.hid hht1; clear hrs1 hht1)))
  have hlen := len_any HRS1.out
  have HLEN := Lib.hid hlen
  have HUPA := Lib.hid (up_any HRS1.out l.length (by rw [List.length_append]; exact Nat.lt_succ_self _) HUP.out)
  clear hlen
  have hla : ((l ++ [x]).length : Int) = (l.length : Int) + 1 := by simp
  go_wp2_with (first
    | (go_at_call 26; (with_reducible refine HLEN.out.mono ?_; rintro z w2 ⟨rfl, hw2⟩; obtain rfl : w1 = w2 := hw2.symm))
    | (go_at_call 34; (with_reducible refine HUPA.out.mono ?_; rintro z w3 ⟨rfl, l3, hrs3, hpm3, hhp3, hht3⟩; have HRS3 := Lib.hid hrs3; have HPM3 := Lib.hid hpm3; have HHP3 := Lib.hid hhp3; have HHT3 := Lib.hid hht3; clear hrs3 hpm3 hhp3 hht3)))
  refine bodyPost_end (results_none rfl _ _ _) rfl ?_
  exact ⟨rfl, v1, l3, HRS3.out, HPM3.out, HHP3.out, HHT1.out.trans HHT3.out⟩
end Go.Proofs.Ytejhejpkfjhmkaa.Man

namespace Go.Proofs.Ytejhejpkfjhmkaa.Man
open Go.RowKit Go.Shelf Go.Proofs.Ytejhejpkfjhmkaa.Pr Go.Proofs.YtejhejpkfjhmkaaW.PrintWords Go.Proofs.YtejhejpkfjhmkaaW.PrintMore Go.Proofs.Ytejhejpkfjhmkaa.Tarj
attribute [local go_sem] Oper.semAt_some
set_option linter.unusedVariables false
set_option linter.unusedSimpArgs false
theorem pop_dn {lw : Nat → Nat} {l : List Nat} {k : Nat} (hk : l.length = k + 1) (hh : Hp (kys lw l) l.length) : DnI (kys lw (swapL l 0 k)) k 0 := by
  refine ⟨fun m h0 hm hne => ?_, fun m h0 hm h _ => absurd h (Nat.lt_irrefl 0)⟩
  have hp := par_lt h0
  rw [kys_swap lw l 0 k (by omega) (by omega) m (by omega), kys_swap lw l 0 k (by omega) (by omega) (par m) (by omega)]
  unfold swk
  rw [if_neg hne, if_neg (by omega), if_neg (by omega), if_neg (by omega)]
  exact hh m h0 (by omega)
theorem take_hp {lw : Nat → Nat} {l : List Nat} {k : Nat} (hk : k ≤ l.length) (h : Hp (kys lw l) k) : Hp (kys lw (l.take k)) (l.take k).length := by
  have hl : (l.take k).length = k := by rw [List.length_take]; omega
  rw [hl]
  refine h.congr (fun m hm => ?_)
  unfold kys
  rw [List.getD_eq_getElem?_getD, List.getD_eq_getElem?_getD, List.getElem?_take, if_pos hm]
theorem pop_perm {l l2 : List Nat} {k x : Nat} (hk : l2.length = k + 1) (hx : l2[k]? = some x) (hp : l2.Perm l) : (x :: l2.take k).Perm l := by
  obtain ⟨h1, h2⟩ := List.getElem?_eq_some_iff.1 hx
  have e : l2 = l2.take k ++ [x] := by
    have := List.take_succ_eq_append_getElem h1
    rw [h2] at this
    rw [← this, ← hk, List.take_length]
  refine List.Perm.trans ?_ hp
  conv => rhs; rw [e]
  exact (List.perm_append_singleton x _).symm
theorem hpop_any {B R bl K : Nat} {lw : Nat → Nat} {v : Value} {l : List Nat} {W : World} (h : RS B R bl K lw v l W) (hh : Hp (kys lw l) l.length) (hp : 0 < l.length) (hB : B ≤ W.heap.size) :
    Calls Try.prog 27 #[.iface 41 (.pointer (some ⟨R, 0, none⟩))] W fun e W' => ∃ x v' l', e = .returned (.iface 3 (.int .i64 (x : Nat))) ∧ RS B R bl K lw v' l' W' ∧ (x :: l').Perm l ∧ Hp (kys lw l') l'.length ∧ Ht B R W v W' v' ∧ ∀ y, y ∈ l → lw x ≤ lw y := by
  have hm1 := mLen R
  have hm2 := mSwap R
  have hm3 := mPop R
  obtain ⟨k, hk⟩ : ∃ k, l.length = k + 1 := ⟨l.length - 1, by omega⟩
  have hkl := h.len
  have hw1 : wrap64 (k : Int) = (k : Int) := by simp only [wrap64]; omega
  obtain ⟨x, hx⟩ : ∃ x, l[0]? = some x := ⟨_, List.getElem?_eq_getElem hp⟩
  have hmin : ∀ y, y ∈ l → lw x ≤ lw y := by
    intro y hy
    obtain ⟨i, hi, rfl⟩ := List.getElem_of_mem hy
    have := hh.top i hi
    unfold kys at this
    rw [List.getD_eq_getElem?_getD, List.getD_eq_getElem?_getD, hx, List.getElem?_eq_getElem hi] at this
    exact this
  have hdn := pop_dn hk hh
  have hlen := len_any h
  rw [hk] at hlen
  have hswap := swap_any h 0 k (by omega) (by omega)
  have HLEN := Lib.hid (show Calls Try.prog 26 #[.pointer (some ⟨R, 0, none⟩)] W fun e W' => e = .returned (.int .i64 ((k : Int) + 1)) ∧ W' = W from hlen)
  have HSW := Lib.hid (show Calls Try.prog 77 #[.pointer (some ⟨R, 0, none⟩), .int .i64 0, .int .i64 (k : Nat)] W fun e W' => e = .returned (.tuple #[]) ∧ RS B R bl K lw v (swapL l 0 k) W' ∧ Ht B R W v W' v from hswap)
  have HDNI := Lib.hid hdn
  have HK := Lib.hid hk
  have HX := Lib.hid hx
  have HMIN := Lib.hid hmin
  have HB := Lib.hid hB
  clear hlen hswap hdn hk hx hmin hB h hh hp hkl
  go_enter Try.func27, Try.ntmps27
  go_upto_region 3 with (first
    | (go_at_call 26; (with_reducible refine HLEN.out.mono ?_; rintro z w2 ⟨rfl, hw2⟩; obtain rfl : W = w2 := hw2.symm))
    | (go_at_call 77; (with_reducible refine HSW.out.mono ?_; rintro z w2 ⟨rfl, hrs2, hht2⟩; have HRS2 := Lib.hid hrs2; have HHT2 := Lib.hid hht2; clear hrs2 hht2)))
  have HDOWN := Lib.hid (down_any HRS2.out k (by rw [swapL_len, HK.out]; exact Nat.le_succ k) HDNI.out)
  go_upto_region 4 with (first
    | (go_at_call 35; (with_reducible refine HDOWN.out.mono ?_; rintro z w3 ⟨⟨b3, rfl⟩, l3, hrs3, hpm3, hhp3, hfar3, hht3⟩; have HRS3 := Lib.hid hrs3; have HPM3 := Lib.hid hpm3; have HHP3 := Lib.hid hhp3; have HHT3 := Lib.hid hht3; have HFAR3 := Lib.hid hfar3; clear hrs3 hpm3 hhp3 hht3 hfar3)))
  have hl3 : l3.length = k + 1 := by rw [HPM3.out.length_eq, swapL_len]; exact HK.out
  have hx3 : l3[k]? = some x := by
    rw [HFAR3.out k (Nat.le_refl k)]
    unfold swapL
    rw [List.getElem?_set, if_pos rfl, List.length_set, if_pos (by have := HK.out; omega), List.getD_eq_getElem?_getD, HX.out]; rfl
  have hpop := pop_any HRS3.out (by omega) (Nat.le_trans HB.out (HHT2.out.trans HHT3.out).be.size)
  have hlx : l3[l3.length - 1]'(by omega) = x := by
    obtain ⟨h1, h2⟩ := List.getElem?_eq_some_iff.1 hx3
    have : l3.length - 1 = k := by omega
    simp only [this]; exact h2
  rw [hlx, show l3.length - 1 = k by omega] at hpop
  have HPOP := Lib.hid hpop
  have HL3 := Lib.hid hl3
  have HX3 := Lib.hid hx3
  clear hpop hlx hl3 hx3
  go_wp2_with (first
    | (go_at_call 75; (with_reducible refine HPOP.out.mono ?_; rintro z w4 ⟨rfl, v4, hrs4, hht4⟩; have HRS4 := Lib.hid hrs4; have HHT4 := Lib.hid hht4; clear hrs4 hht4)))
  go_ret
  exact ⟨x, v4, l3.take k, rfl, HRS4.out, pop_perm HL3.out HX3.out (HPM3.out.trans (swapL_perm l 0 k (by have := HK.out; omega) (by have := HK.out; omega))), take_hp (by have := HL3.out; omega) HHP3.out, (HHT2.out.trans HHT3.out).trans HHT4.out, HMIN.out⟩
end Go.Proofs.Ytejhejpkfjhmkaa.Man

namespace Go.Proofs.Ytejhejpkfjhmkaa.Man
open Go.RowKit Go.Shelf Go.Proofs.Ytejhejpkfjhmkaa.Pr Go.Proofs.YtejhejpkfjhmkaaW.PrintWords Go.Proofs.YtejhejpkfjhmkaaW.PrintMore Go.Proofs.Ytejhejpkfjhmkaa.Tarj
set_option linter.unusedVariables false
set_option linter.unusedSimpArgs false
def ix9 (bo bof M n mm : Nat) (g : List (List Int)) (cls : Nat → Nat) (v : Nat → Value) (i : Nat) : Value := match i with | 0 => .slice (some ⟨bo, 0, none⟩) M M | 1 => .slice (some ⟨bof, 0, none⟩) g.length g.length | 2 => .int .i64 (n : Nat) | 3 => .pointer (some ⟨bof, n, none⟩) | 4 => .int .i64 (cls n : Nat) | 5 => .slice (some ⟨bo, 0, none⟩) M M | 6 => .slice (some ⟨bof, 0, none⟩) g.length g.length | 7 => .int .i64 (n : Nat) | 8 => .pointer (some ⟨bof, n, none⟩) | 9 => .int .i64 (cls n : Nat) | 10 => .pointer (some ⟨bo, cls n, none⟩) | 11 => v (cls n) | 12 => .slice (some ⟨bof, 0, none⟩) g.length g.length | 13 => .int .i64 (mm : Nat) | 14 => .pointer (some ⟨bof, mm, none⟩) | 15 => .int .i64 (cls mm : Nat) | 18 => .pointer (some ⟨bo, cls n, none⟩) | _ => undef
def cst9 (i : Nat) : Bool := i != 16 && i != 17 && i != 19
structure S9 (B bo bof M n mm : Nat) (g : List (List Int)) (cls : Nat → Nat) (v : Nat → Value) (r : Nat → List Nat) (W : World) (done : Nat → Bool) (val : Nat → Value) (Z : World) : Prop where
  of : W.heap[bof]? = some (.cells (ints g.length cls) 3 (0, 0))
  lo : bof < B
  fd : FD B bo M v r W
  vv : ∀ i, done i = true → cst9 i = true → val i = ix9 bo bof M n mm g cls v i
  n11 : done 11 = false → done 17 = false
  n16 : done 16 = false → done 17 = false
  n17 : done 17 = false → done 19 = false
  pz : done 17 = false → Below W.heap.size W Z
  b16 : done 16 = true → done 17 = false → ∃ Z0, Z = Z0.alloc (.cells #[.int .i64 (cls mm : Nat)] 3) ∧ val 16 = .slice (some ⟨Z0.heap.size, 0, none⟩) 1 1 ∧ Below W.heap.size W Z0
  s17 : done 17 = true → done 19 = false → ∃ v1, val 17 = v1 ∧ kI.R 3 Z B (fun k => k ≠ bo) v1 (toI (r (cls n) ++ [cls mm])) ∧ W.grownBy Z (v (cls n)).ownBlock ∧ (v1.ownBlock = (v (cls n)).ownBlock ∨ ∃ b, v1.ownBlock = some b ∧ W.heap.size ≤ b) ∧ Below B W Z
  s19 : done 19 = true → ∃ v1, FD B bo M (Tarj.upd v (cls n) v1) (Tarj.upd r (cls n) (r (cls n) ++ [cls mm])) Z ∧ Below B W Z
section
variable {B bo bof M n mm : Nat} {g : List (List Int)} {cls : Nat → Nat} {v : Nat → Value} {r : Nat → List Nat} {W Z : World} {done : Nat → Bool} {val : Nat → Value}
theorem S9.start (of : W.heap[bof]? = some (.cells (ints g.length cls) 3 (0, 0))) (lo : bof < B) (fd : FD B bo M v r W) : S9 B bo bof M n mm g cls v r W (fun _ => false) (fun _ => undef) { W with drawn := W.drawn + 1 } :=
  ⟨of, lo, fd, by simp, fun _ => rfl, fun _ => rfl, fun _ => rfl, fun _ => (Below.refl W.heap.size W).drew, by simp, by simp, by simp⟩
theorem S9.v0 (h : S9 B bo bof M n mm g cls v r W done val Z) (hd : done 0 = true) : val 0 = .slice (some ⟨bo, 0, none⟩) M M := h.vv 0 hd (by decide)
theorem S9.v1 (h : S9 B bo bof M n mm g cls v r W done val Z) (hd : done 1 = true) : val 1 = .slice (some ⟨bof, 0, none⟩) g.length g.length := h.vv 1 hd (by decide)
theorem S9.v2 (h : S9 B bo bof M n mm g cls v r W done val Z) (hd : done 2 = true) : val 2 = .int .i64 (n : Nat) := h.vv 2 hd (by decide)
theorem S9.v3 (h : S9 B bo bof M n mm g cls v r W done val Z) (hd : done 3 = true) : val 3 = .pointer (some ⟨bof, n, none⟩) := h.vv 3 hd (by decide)
theorem S9.v4 (h : S9 B bo bof M n mm g cls v r W done val Z) (hd : done 4 = true) : val 4 = .int .i64 (cls n : Nat) := h.vv 4 hd (by decide)
theorem S9.v5 (h : S9 B bo bof M n mm g cls v r W done val Z) (hd : done 5 = true) : val 5 = .slice (some ⟨bo, 0, none⟩) M M := h.vv 5 hd (by decide)
theorem S9.v6 (h : S9 B bo bof M n mm g cls v r W done val Z) (hd : done 6 = true) : val 6 = .slice (some ⟨bof, 0, none⟩) g.length g.length := h.vv 6 hd (by decide)
theorem S9.v7 (h : S9 B bo bof M n mm g cls v r W done val Z) (hd : done 7 = true) : val 7 = .int .i64 (n : Nat) := h.vv 7 hd (by decide)
theorem S9.v8 (h : S9 B bo bof M n mm g cls v r W done val Z) (hd : done 8 = true) : val 8 = .pointer (some ⟨bof, n, none⟩) := h.vv 8 hd (by decide)
theorem S9.v9 (h : S9 B bo bof M n mm g cls v r W done val Z) (hd : done 9 = true) : val 9 = .int .i64 (cls n : Nat) := h.vv 9 hd (by decide)
theorem S9.v10 (h : S9 B bo bof M n mm g cls v r W done val Z) (hd : done 10 = true) : val 10 = .pointer (some ⟨bo, cls n, none⟩) := h.vv 10 hd (by decide)
theorem S9.v11 (h : S9 B bo bof M n mm g cls v r W done val Z) (hd : done 11 = true) : val 11 = v (cls n) := h.vv 11 hd (by decide)
theorem S9.v12 (h : S9 B bo bof M n mm g cls v r W done val Z) (hd : done 12 = true) : val 12 = .slice (some ⟨bof, 0, none⟩) g.length g.length := h.vv 12 hd (by decide)
theorem S9.v13 (h : S9 B bo bof M n mm g cls v r W done val Z) (hd : done 13 = true) : val 13 = .int .i64 (mm : Nat) := h.vv 13 hd (by decide)
theorem S9.v14 (h : S9 B bo bof M n mm g cls v r W done val Z) (hd : done 14 = true) : val 14 = .pointer (some ⟨bof, mm, none⟩) := h.vv 14 hd (by decide)
theorem S9.v15 (h : S9 B bo bof M n mm g cls v r W done val Z) (hd : done 15 = true) : val 15 = .int .i64 (cls mm : Nat) := h.vv 15 hd (by decide)
theorem S9.v18 (h : S9 B bo bof M n mm g cls v r W done val Z) (hd : done 18 = true) : val 18 = .pointer (some ⟨bo, cls n, none⟩) := h.vv 18 hd (by decide)
theorem S9.do_ (h : S9 B bo bof M n mm g cls v r W done val Z) (i : Nat) (hc : cst9 i = true) {x : Value} (hx : x = ix9 bo bof M n mm g cls v i) : S9 B bo bof M n mm g cls v r W (upd done i) (setv val i x) Z := by
  have e16 : i ≠ 16 := by rintro rfl; cases hc
  have e17 : i ≠ 17 := by rintro rfl; cases hc
  have e19 : i ≠ 19 := by rintro rfl; cases hc
  refine ⟨h.of, h.lo, h.fd, fun j hj hcj => ?_, ?_, ?_, ?_, ?_, ?_, ?_, ?_⟩
  · simp only [upd, setv] at hj ⊢
    by_cases e : j = i
    · rw [if_pos e, e]; exact hx
    · rw [if_neg e] at hj ⊢; exact h.vv j hj hcj
  all_goals simp only [upd, setv, if_neg (Ne.symm e16), if_neg (Ne.symm e17), if_neg (Ne.symm e19)]
  · by_cases e : 11 = i
    · rw [if_pos e]; exact fun q => by cases q
    · rw [if_neg e]; exact h.n11
  · exact h.n16
  · exact h.n17
  · exact h.pz
  · exact h.b16
  · exact h.s17
  · exact h.s19
theorem S9.bB (h : S9 B bo bof M n mm g cls v r W done val Z) : Below B W Z := by
  have hb : B ≤ W.heap.size := Nat.le_trans h.fd.b (Nat.le_of_lt (blk_lt h.fd.o))
  cases e7 : done 17 with
  | false => exact (h.pz e7).mono hb
  | true =>
    cases e9 : done 19 with
    | false => obtain ⟨_, _, _, _, _, q⟩ := h.s17 e7 e9; exact q
    | true => obtain ⟨_, _, q⟩ := h.s19 e9; exact q
theorem S9.rd (h : S9 B bo bof M n mm g cls v r W done val Z) {j : Nat} (hj : j < g.length) : Z.cell? ⟨bof, j, none⟩ = some (.int .i64 (cls j : Nat)) :=
  (blk_cell ((h.bB.block bof h.lo).trans h.of) j).trans (ints_get _ hj)
theorem S9.rdo (h : S9 B bo bof M n mm g cls v r W done val Z) (h11 : done 11 = false) (hcn : cls n < M) : Z.cell? ⟨bo, cls n, none⟩ = some (v (cls n)) :=
  ((h.fd.below (h.pz (h.n11 h11))).cell hcn).1
theorem S9.do16 (h : S9 B bo bof M n mm g cls v r W done val Z) (hd : done 16 = false) : S9 B bo bof M n mm g cls v r W (upd done 16) (setv val 16 (.slice (some ⟨Z.heap.size, 0, none⟩) 1 1)) (Z.alloc (.cells #[.int .i64 (cls mm : Nat)] 3)) := by
  have h17 := h.n16 hd
  have h19 := h.n17 h17
  refine ⟨h.of, h.lo, h.fd, fun j hj hcj => ?_, ?_, ?_, ?_, ?_, ?_, ?_, ?_⟩
  · have e : j ≠ 16 := by rintro rfl; cases hcj
    simp only [upd, setv, if_neg e] at hj ⊢
    exact h.vv j hj hcj
  all_goals simp only [upd, setv, if_true, if_neg (show (11 : Nat) ≠ 16 by decide), if_neg (show (17 : Nat) ≠ 16 by decide), if_neg (show (19 : Nat) ≠ 16 by decide)]
  · exact h.n11
  · exact fun q => by cases q
  · exact h.n17
  · exact fun q => below_alloc (h.pz q) _
  · exact fun _ q => ⟨Z, rfl, rfl, h.pz q⟩
  · intro q; rw [h17] at q; cases q
  · intro q; rw [h19] at q; cases q
theorem S9.do17 {Z0 w1 : World} {v1 : Value} (h : S9 B bo bof M n mm g cls v r W done val Z) (h11 : done 11 = true) (h16 : done 16 = true) (hd : done 17 = false) (hb0 : Below W.heap.size W Z0)
    (hr : kI.R 3 w1 B (fun k => k ≠ bo) v1 (toI (r (cls n)) ++ [((cls mm : Nat) : Int)])) (hb : Below B W w1) (hg : Z0.grownBy w1 (v (cls n)).ownBlock) (hat : v1.ownBlock = (v (cls n)).ownBlock ∨ ∃ b, v1.ownBlock = some b ∧ Z0.heap.size ≤ b) :
    S9 B bo bof M n mm g cls v r W (upd done 17) (setv val 17 v1) w1 := by
  have h19 := h.n17 hd
  have hgW : W.grownBy w1 (v (cls n)).ownBlock := ⟨hb.os, hb.tape, hb.output, hb.size, fun k hk hne => (hg.block k (Nat.lt_of_lt_of_le hk hb0.size) hne).trans (hb0.block k hk)⟩
  refine ⟨h.of, h.lo, h.fd, fun j hj hcj => ?_, ?_, ?_, ?_, ?_, ?_, ?_, ?_⟩
  · have e : j ≠ 17 := by rintro rfl; cases hcj
    simp only [upd, setv, if_neg e] at hj ⊢
    exact h.vv j hj hcj
  all_goals simp only [upd, setv, if_true, if_neg (show (11 : Nat) ≠ 17 by decide), if_neg (show (16 : Nat) ≠ 17 by decide), if_neg (show (19 : Nat) ≠ 17 by decide)]
  · intro q; rw [h11] at q; cases q
  · intro q; rw [h16] at q; cases q
  · exact fun q => by cases q
  · exact fun q => by cases q
  · exact fun _ q => by cases q
  · exact fun _ _ => ⟨v1, rfl, by simpa [toI] using hr, hgW, hat.imp_right (fun ⟨b, e, hle⟩ => ⟨b, e, Nat.le_trans hb0.size hle⟩), hb⟩
  · intro q; rw [h19] at q; cases q
theorem S9.at17 (h : S9 B bo bof M n mm g cls v r W done val Z) (h17 : done 17 = true) (h19 : done 19 = false) (hcn : cls n < M) :
    ∃ A9 n9 c9, val 17 = .slice A9 n9 c9 ∧ Z.cell? ⟨bo, cls n, none⟩ = some (v (cls n)) ∧ Z.frozen? ⟨bo, cls n, none⟩ = false := by
  obtain ⟨v1, e, hr, hg, _, _⟩ := h.s17 h17 h19
  obtain ⟨A, c, e2, _, _⟩ := Kd.R_reads hr
  have ho := blk_grown h.fd.o hg (h.fd.ne hcn)
  exact ⟨A, _, c, e.trans e2, (blk_cell ho _).trans (vals_get _ hcn), blk_frozen ho _⟩
theorem S9.do19 (h : S9 B bo bof M n mm g cls v r W done val Z) (h17 : done 17 = true) (hd : done 19 = false) (hcn : cls n < M) {x v1 : Value} (hv : val 17 = v1) :
    S9 B bo bof M n mm g cls v r W (upd done 19) (setv val 19 x) (Z.setCell ⟨bo, cls n, none⟩ v1) := by
  obtain ⟨v2, e, hr, hg, hat, hb⟩ := h.s17 h17 hd
  obtain rfl : v1 = v2 := hv.symm.trans e
  refine ⟨h.of, h.lo, h.fd, fun j hj hcj => ?_, ?_, ?_, ?_, ?_, ?_, ?_, ?_⟩
  · have e : j ≠ 19 := by rintro rfl; cases hcj
    simp only [upd, setv, if_neg e] at hj ⊢
    exact h.vv j hj hcj
  all_goals simp only [upd, setv, if_true, if_neg (show (11 : Nat) ≠ 19 by decide), if_neg (show (16 : Nat) ≠ 19 by decide), if_neg (show (17 : Nat) ≠ 19 by decide)]
  · exact h.n11
  · exact h.n16
  · intro q; rw [h17] at q; cases q
  · intro q; rw [h17] at q; cases q
  · intro _ q; rw [h17] at q; cases q
  · exact fun _ q => by cases q
  · exact fun _ => ⟨v1, h.fd.put hcn hr hg hat, h.fd.put_below hcn v1 hg hb⟩
end
end Go.Proofs.Ytejhejpkfjhmkaa.Man

namespace Go.Proofs.Ytejhejpkfjhmkaa.Man
open Go.RowKit Go.Shelf Go.Proofs.Ytejhejpkfjhmkaa.Pr Go.Proofs.YtejhejpkfjhmkaaW.PrintWords Go.Proofs.YtejhejpkfjhmkaaW.PrintMore Go.Proofs.Ytejhejpkfjhmkaa.Tarj
attribute [local go_sem] Oper.semAt_some
set_option linter.unusedVariables false
set_option linter.unusedSimpArgs false
def rowIns (cls : Nat → Nat) (n : Nat) (r : Nat → List Nat) (m : Nat) : Nat → List Nat := if cls m = cls n then r else Tarj.upd r (cls n) (r (cls n) ++ [cls m])
def rowsAt (cls : Nat → Nat) (adj : Nat → List Nat) (n : Nat) : Nat → List Nat := (List.range n).foldl (fun r x => (adj x).foldl (rowIns cls x) r) (fun _ => [])
theorem rowIns_len (cls : Nat → Nat) (n : Nat) (r : Nat → List Nat) (m c : Nat) (h : ∀ i, (r i).length ≤ c) : ∀ i, (rowIns cls n r m i).length ≤ c + 1 := by
  intro i
  unfold rowIns
  split
  · exact Nat.le_succ_of_le (h i)
  · simp only [Tarj.upd]
    split
    · rw [List.length_append]; exact Nat.succ_le_succ (h _)
    · exact Nat.le_succ_of_le (h i)
def cmpN (l : List Nat) : List Nat := (Go.Lib.compact (srt (toI l))).map Int.toNat
theorem mem_upto (d : Array Int) : ∀ m, m ≤ d.size → ∀ x, x ∈ Go.Lib.compactUpTo d m → x ∈ d.toList
  | 0, _, x, h => by simp [Go.Lib.compactUpTo] at h
  | m + 1, hm, x, h => by
    rw [Go.Lib.compactUpTo_succ, List.mem_append] at h
    rcases h with h | h
    · exact mem_upto d m (Nat.le_of_succ_le hm) x h
    · split at h
      · rw [List.mem_singleton] at h
        subst h
        rw [getElem!_pos d m hm]
        exact Array.getElem_mem_toList hm
      · cases h
theorem mem_compact {l : List Int} {x : Int} (h : x ∈ Go.Lib.compact l) : x ∈ l := by
  have := mem_upto l.toArray l.length (by simp) x h
  simpa using this
theorem toI_cmpN (l : List Nat) : toI (cmpN l) = Go.Lib.compact (srt (toI l)) := by
  unfold cmpN toI
  rw [List.map_map]
  have key : ∀ L : List Int, (∀ x, x ∈ L → 0 ≤ x) → L.map (Int.ofNat ∘ Int.toNat) = L := by
    intro L
    induction L with
    | nil => intro _; rfl
    | cons a q ih =>
      intro h
      rw [List.map_cons, ih (fun x hx => h x (List.mem_cons_of_mem _ hx))]
      have := h a List.mem_cons_self
      simp only [Function.comp, Int.ofNat_eq_natCast]
      rw [Int.toNat_of_nonneg this]
  refine key _ (fun x hx => ?_)
  have h1 := mem_compact hx
  rw [show (List.map Int.ofNat l) = toI l from rfl, srt_toI] at h1
  obtain ⟨y, _, rfl⟩ := List.mem_map.1 h1
  exact Int.natCast_nonneg y
theorem own_sl {w : World} {base e size n : Nat} {v : Value} {xs : List Value} (h : w.ownsRow base e size v n xs) : ∃ A n' c, v = .slice A n' c := by
  rcases h.2 with ⟨rfl, _⟩ | ⟨g, cap, cur, rfl, _⟩ <;> exact ⟨_, _, _, rfl⟩
structure FL (B bo M : Nat) (v : Nat → Value) (r : Nat → List Nat) (W0 W : World) : Prop where
  fd : FD B bo M v r W
  be : Below B W0 W
set_option maxRecDepth 100000 in
set_option maxHeartbeats 16000000 in
theorem fold_any (g : List (List Int)) (hgo : GOk g) (A : Option Addr) (c bof M : Nat) (cls : Nat → Nat) (W : World) (hg : Kd.F kL W (fun k => k < W.heap.size) A g.length g) (hof : W.heap[bof]? = some (.cells (ints g.length cls) 3 (0, 0)))
    (hM : M ≤ 1000) (hcl : ∀ x, x < g.length → cls x < M) (hlc : g.length ≤ c) :
    Calls Try.prog 23 #[.slice A g.length c, .slice (some ⟨bof, 0, none⟩) g.length g.length, .int .i64 (M : Nat)] W fun e W' => ∃ bo, e = .returned (.slice (some ⟨bo, 0, none⟩) M M) ∧ (∃ v, FD W.heap.size bo M v (fun i => cmpN (rowsAt cls (adjF g) g.length i)) W') ∧ Below W.heap.size W W' := by
  have hMl := print_make_int (P := Try.prog) 22 26 (.slice none 0 0) 24 Try.underlying22 infoL rfl (by decide) (M : Int) (Int.natCast_nonneg M) (by rw [Int.toNat_natCast]; omega)
  rw [Int.toNat_natCast] at hMl
  have hmade : madeCells #[(.slice none 0 0 : Value)] M = vals M (fun _ => .slice none 0 0) := by
    unfold madeCells vals
    apply Array.ext_getElem?
    intro j
    by_cases hj : j < M
    · simp [hj, Nat.mod_one]
    · simp [hj]
  rw [hmade] at hMl
  have hbo : FD W.heap.size W.heap.size M (fun _ => .slice none 0 0) (fun _ => []) (W.alloc (.cells (vals M (fun _ => .slice none 0 0)) 26)) := FD.made (Nat.le_refl _)
  have hbe : Below W.heap.size W (W.alloc (.cells (vals M (fun _ => .slice none 0 0)) 26)) := below_alloc (Below.refl _ _) _
  have hbl : bof < W.heap.size := blk_lt hof
  have GO := Lib.hid hgo
  have HG := Lib.hid hg
  have HOF := Lib.hid hof
  have HCL := Lib.hid hcl
  have HBL := Lib.hid hbl
  have FL0 := Lib.hid (show FL W.heap.size W.heap.size M (fun _ => .slice none 0 0) (fun _ => []) W (W.alloc (.cells (vals M (fun _ => .slice none 0 0)) 26)) from ⟨hbo, hbe⟩)
  have hgl := hgo.len
  clear hmade hbo hbe hgo hg hof hcl hbl
  go_enter Try.func23, Try.ntmps23
  go_upto_region 2 with (fail)
  generalize W.alloc (.cells (vals M (fun _ => .slice none 0 0)) 26) = W2 at FL0 ⊢
  obtain ⟨bo, hbo⟩ : ∃ bo, W.heap.size = bo := ⟨_, rfl⟩
  rw [hbo] at FL0 HG HBL ⊢
  have HBO := Lib.hid hbo
  clear hbo hMl
  go_wp2
  go_loopg [18] g.length (fun kq v18 w' => ∃ (n : Nat) (v : Nat → Value), n + kq = g.length ∧ v18 = .int .i64 (n : Nat) ∧ (∀ i, (rowsAt cls (adjF g) n i).length ≤ n * 1000) ∧ Hid (FL bo bo M v (rowsAt cls (adjF g) n) W w'))
  case atStart => exact ⟨0, _, by omega, rfl, fun i => Nat.zero_le _, FL0⟩
  case round =>
    obtain ⟨n, v0, hn', rfl, hrl, HL⟩ := hrel
    by_cases hn : n < g.length
    · have hn0 : (0 : Int) ≤ (n : Int) := Int.natCast_nonneg n
      have hGr := Kd.F_step (W1 := wr) HG.out (fun k hk _ => HL.out.be.block k hk)
      obtain ⟨ad, A0, c0, eA, hrow, hle, hF0⟩ := rowA hGr n hn
      subst eA
      obtain ⟨row, hrw⟩ : ∃ r, r = g.getD n [] := ⟨_, rfl⟩
      rw [← hrw] at hrow hle hF0
      have FR := Lib.hid hF0
      have RW := Lib.hid hrw
      have hrlen : row.length ≤ 1000 := by rw [hrw]; exact GO.out.row n
      obtain ⟨k1, rfl⟩ : ∃ k1, gk = k1 + 1 := ⟨gk - 1, by omega⟩
      clear hGr hF0 hrw
      go_wp2
      have HL0 := Lib.hid (show FL bo bo M v0 (((adjF g n).take 0).foldl (rowIns cls n) (rowsAt cls (adjF g) n)) W wr from by rw [List.take_zero]; exact HL.out)
      have hrl0 : ∀ i, (((adjF g n).take 0).foldl (rowIns cls n) (rowsAt cls (adjF g) n) i).length ≤ n * 1000 + 0 := by rw [List.take_zero]; exact hrl
      have HRL := Lib.hid hrl
      have FR1 := Lib.hid (show ∀ W', (∀ k, k < bo → W'.heap[k]? = wr.heap[k]?) → Kd.F kI W' (fun k => k < bo) A0 row.length row from fun W' h => Kd.F_step FR.out (fun k hk _ => h k hk))
      have HLW := Lib.hid (show ∀ k, k < bo → wr.heap[k]? = W.heap[k]? from fun k hk => HL.out.be.block k hk)
      clear hrl HL FR hrow
      generalize wr = wr0 at FR1 HLW HL0 ⊢
      go_loopg [25] row.length (fun kq v25 w' => ∃ (j : Nat) (v : Nat → Value), j + kq = row.length ∧ v25 = .int .i64 (j : Nat) ∧ (∀ i, (((adjF g n).take j).foldl (rowIns cls n) (rowsAt cls (adjF g) n) i).length ≤ n * 1000 + j) ∧ Hid (FL bo bo M v (((adjF g n).take j).foldl (rowIns cls n) (rowsAt cls (adjF g) n)) W w'))
      case atStart => exact ⟨0, v0, by omega, rfl, hrl0, HL0⟩
      case round =>
        obtain ⟨j, v, hj, rfl, hrj, HJ⟩ := hrel
        clear HL0 hrl0
        have hkw : ∀ k, k < bo → wr.heap[k]? = wr0.heap[k]? := fun k hk => (HJ.out.be.block k hk).trans (HLW.out k hk).symm
        by_cases hlt : j < row.length
        · obtain ⟨ad0, eA0, hm⟩ := Kd.at_int (Kd.F_now (FR1.out wr hkw)) (j : Int) (Int.natCast_nonneg j) (Int.ofNat_lt.2 hlt)
          subst eA0
          rw [Int.toNat_natCast] at hm
          obtain ⟨mm, emm, hmm, hmj⟩ : ∃ mm : Nat, rd row (j : Int) = (mm : Int) ∧ mm < g.length ∧ (adjF g n)[j]? = some mm := by
            have RW' := RW.out
            have hlt' : j < (g.getD n []).length := by rw [← RW']; exact hlt
            obtain ⟨m0, m1⟩ := GO.out.ent n hn _ (List.getElem_mem hlt')
            refine ⟨((g.getD n [])[j]).toNat, ?_, by omega, by unfold adjF; rw [List.getElem?_map, List.getElem?_eq_getElem hlt']; rfl⟩
            unfold rd; rw [RW', Int.toNat_natCast, List.getD_eq_getElem?_getD (l := g.getD n []), List.getElem?_eq_getElem hlt', Option.getD_some]; omega
          rw [emm] at hm
          clear emm hkw
          have HMJ := Lib.hid hmj
          have hmm0 : (0 : Int) ≤ (mm : Int) := Int.natCast_nonneg mm
          have hw := pzS j (Nat.le_trans (Nat.le_of_lt hlt) hrlen)
          have hcn : cls n < M := HCL.out n hn
          have hcm : cls mm < M := HCL.out mm hmm
          have hcn0 : (0 : Int) ≤ (cls n : Int) := Int.natCast_nonneg _
          have hofw : wr.heap[bof]? = some (.cells (ints g.length cls) 3 (0, 0)) := (HJ.out.be.block bof HBL.out).trans HOF.out
          have HOFW := Lib.hid hofw
          have z1 := (blk_cell hofw n).trans (ints_get _ hn)
          have z2 := (blk_cell hofw mm).trans (ints_get _ hmm)
          have HRJ := Lib.hid hrj
          obtain ⟨k2, rfl⟩ : ∃ k2, gk = k2 + 1 := ⟨gk - 1, by omega⟩
          clear hmj hofw hrj
          have hstep : ((adjF g n).take (j + 1)).foldl (rowIns cls n) (rowsAt cls (adjF g) n) = rowIns cls n (((adjF g n).take j).foldl (rowIns cls n) (rowsAt cls (adjF g) n)) mm := by
            obtain ⟨h1, h2⟩ := List.getElem?_eq_some_iff.1 HMJ.out
            rw [List.take_succ_eq_append_getElem h1, List.foldl_append, h2]; rfl
          have HSTEP := Lib.hid hstep
          clear hstep
          by_cases heq : cls mm = cls n
          · have hne : ((cls mm : Int) != (cls n : Int)) = false := by simp [heq]
            have HEQ := Lib.hid heq
            clear heq
            go_upto_region 8 with (fail)
            go_quiet (fail)
            have hl5 : FL bo bo M v (((adjF g n).take (j + 1)).foldl (rowIns cls n) (rowsAt cls (adjF g) n)) W (wr.drewN nq) := by
              rw [HSTEP.out]; unfold rowIns; rw [if_pos HEQ.out]
              exact ⟨HJ.out.fd.below (pw_below_drewN (Below.refl _ _) nq), HJ.out.be.trans (pw_below_drewN (Below.refl _ _) nq)⟩
            have HL5 := Lib.hid hl5
            have hr5 : ∀ i, (((adjF g n).take (j + 1)).foldl (rowIns cls n) (rowsAt cls (adjF g) n) i).length ≤ n * 1000 + (j + 1) := by
              rw [HSTEP.out]; unfold rowIns; rw [if_pos HEQ.out]
              exact fun i => Nat.le_succ_of_le (HRJ.out i)
            clear hl5 z1 z2 hm
            go_wp2
            go_roundg k2
            case measure => exact Nat.lt_succ_self _
            case rel => exact ⟨j + 1, v, by rw [Nat.add_assoc, Nat.add_comm 1]; exact hj, by first | rw [hw] | simp [hw], hr5, HL5⟩
          · have hne : ((cls mm : Int) != (cls n : Int)) = true := by simpa using (fun h => heq (by omega))
            have HEQ := Lib.hid heq
            clear heq
            go_upto_region 8 with (fail)
            go_quiet (fail)
            have hl5 := HJ.out.fd.below (pw_below_drewN (Below.refl wr.heap.size wr) nq)
            have hb5 := HJ.out.be.trans (pw_below_drewN (Below.refl bo wr) nq)
            have hof5 := (pw_below_drewN (Below.refl bo wr) nq).block bof HBL.out
            rw [HOFW.out] at hof5
            clear z1 z2 hm
            generalize wr.drewN nq = W5 at hl5 hb5 hof5 ⊢
            obtain ⟨r, hr⟩ : ∃ r, r = ((adjF g n).take j).foldl (rowIns cls n) (rowsAt cls (adjF g) n) := ⟨_, rfl⟩
            have HR := Lib.hid hr
            have hlr : ((toI (r (cls n))).length + 1) * 8 ≤ 140737488355328 := by
              have := HRJ.out (cls n)
              rw [← hr] at this
              rw [toI_len]
              have h2 : n ≤ 1000 := by have := GO.out.len; omega
              have h3 : n * 1000 ≤ 1000 * 1000 := Nat.mul_le_mul_right _ h2
              omega
            have HLR := Lib.hid hlr
            rw [← hr] at hl5
            have HFD := Lib.hid hl5
            have HB5 := Lib.hid hb5
            have HOF5 := Lib.hid hof5
            have HB9 := Lib.hid (show bo ≤ W5.heap.size from Nat.le_of_lt (blk_lt hl5.o))
            clear hl5 hb5 hof5 hr hlr
            go_upto_region 9 with (fail)
            refine (wpIn_wide (n := 5)).1 ?_
            refine wpIn_region_any mixedO ?_
            refine wpAnyIn_flow2 _ (fun _ => undef) (fun done val Z => S9 bo bo bof M n mm g cls v r W5 done val Z) rfl (by kernel_rfl) _ ?hz9 ?st9 ?en9
            case hz9 => exact S9.start HOF5.out HBL.out HFD.out
            case st9 =>
              intro i o done val a Z ho hdn hdep hag hS K2 hK2
              have hm : i < 20 := by
                by_cases h : i < 20
                · exact h
                · rw [Array.getElem?_eq_none (by simp; omega)] at ho; cases ho
              obtain rfl | rfl | rfl | rfl | rfl | rfl | rfl | rfl | rfl | rfl | rfl | rfl | rfl | rfl | rfl | rfl | rfl | rfl | rfl | rfl : i = 0 ∨ i = 1 ∨ i = 2 ∨ i = 3 ∨ i = 4 ∨ i = 5 ∨ i = 6 ∨ i = 7 ∨ i = 8 ∨ i = 9 ∨ i = 10 ∨ i = 11 ∨ i = 12 ∨ i = 13 ∨ i = 14 ∨ i = 15 ∨ i = 16 ∨ i = 17 ∨ i = 18 ∨ i = 19 := by omega
              · cases ho
                have e7 : a.eval (.tmp 7) = .slice (some ⟨bo, 0, none⟩) M M := hag.keep 7 rfl
                refine wpOpIn_value (i := 0) (r := .slice (some ⟨bo, 0, none⟩) M M) (w' := Z) rfl rfl (fun c h => by cases h) rfl ?_ (hK2 _ _ (hS.do_ 0 rfl rfl))
                have ec : ∀ v, a.eval (.const v) = v := fun _ => rfl
                generalize a.eval = ev at *
                simp [execOp, go_sem, ec, e7]
              · cases ho
                have e1 : a.eval (.tmp 1) = .slice (some ⟨bof, 0, none⟩) g.length g.length := hag.keep 1 rfl
                refine wpOpIn_value (i := 1) (r := .slice (some ⟨bof, 0, none⟩) g.length g.length) (w' := Z) rfl rfl (fun c h => by cases h) rfl ?_ (hK2 _ _ (hS.do_ 1 rfl rfl))
                have ec : ∀ v, a.eval (.const v) = v := fun _ => rfl
                generalize a.eval = ev at *
                simp [execOp, go_sem, ec, e1]
              · cases ho
                have e8 : a.eval (.tmp 8) = .int .i64 (n : Nat) := hag.keep 8 rfl
                refine wpOpIn_value (i := 2) (r := .int .i64 (n : Nat)) (w' := Z) rfl rfl (fun c h => by cases h) rfl ?_ (hK2 _ _ (hS.do_ 2 rfl rfl))
                have ec : ∀ v, a.eval (.const v) = v := fun _ => rfl
                generalize a.eval = ev at *
                simp [execOp, go_sem, ec, e8]
              · cases ho
                have e39 := (hag.val_ (j := 1) (t := 39) rfl (hdep ⟨1, .data⟩ (by simp) rfl)).trans (hS.v1 (hdep ⟨1, .data⟩ (by simp) rfl))
                have e40 := (hag.val_ (j := 2) (t := 40) rfl (hdep ⟨2, .data⟩ (by simp) rfl)).trans (hS.v2 (hdep ⟨2, .data⟩ (by simp) rfl))
                refine opIn_value (i := 3) (r := .pointer (some ⟨bof, n, none⟩)) (w' := Z) rfl rfl (fun c h => by cases h) ?_ ?_ (hK2 _ _ (hS.do_ 3 rfl rfl))
                · generalize a.eval = ev at *
                  simp [Oper.about, resolve, Target.leads, Sem.run_pure, go_sem, e39, e40, hn, hn0]
                · have ec : ∀ v, a.eval (.const v) = v := fun _ => rfl
                  generalize a.eval = ev at *
                  simp [execOp, go_sem, ec, e39, e40, hn, hn0]
              · cases ho
                have e41 := (hag.val_ (j := 3) (t := 41) rfl (hdep ⟨3, .data⟩ (by simp) rfl)).trans (hS.v3 (hdep ⟨3, .data⟩ (by simp) rfl))
                have hz := hS.rd hn
                refine wpOpIn_value (i := 4) (r := .int .i64 (cls n : Nat)) (w' := Z) rfl rfl (fun c h => by cases h) rfl ?_ (hK2 _ _ (hS.do_ 4 rfl rfl))
                have ec : ∀ v, a.eval (.const v) = v := fun _ => rfl
                generalize a.eval = ev at *
                simp [execOp, go_sem, ec, e41, hz]
              · cases ho
                have e7 : a.eval (.tmp 7) = .slice (some ⟨bo, 0, none⟩) M M := hag.keep 7 rfl
                refine wpOpIn_value (i := 5) (r := .slice (some ⟨bo, 0, none⟩) M M) (w' := Z) rfl rfl (fun c h => by cases h) rfl ?_ (hK2 _ _ (hS.do_ 5 rfl rfl))
                have ec : ∀ v, a.eval (.const v) = v := fun _ => rfl
                generalize a.eval = ev at *
                simp [execOp, go_sem, ec, e7]
              · cases ho
                have e1 : a.eval (.tmp 1) = .slice (some ⟨bof, 0, none⟩) g.length g.length := hag.keep 1 rfl
                refine wpOpIn_value (i := 6) (r := .slice (some ⟨bof, 0, none⟩) g.length g.length) (w' := Z) rfl rfl (fun c h => by cases h) rfl ?_ (hK2 _ _ (hS.do_ 6 rfl rfl))
                have ec : ∀ v, a.eval (.const v) = v := fun _ => rfl
                generalize a.eval = ev at *
                simp [execOp, go_sem, ec, e1]
              · cases ho
                have e8 : a.eval (.tmp 8) = .int .i64 (n : Nat) := hag.keep 8 rfl
                refine wpOpIn_value (i := 7) (r := .int .i64 (n : Nat)) (w' := Z) rfl rfl (fun c h => by cases h) rfl ?_ (hK2 _ _ (hS.do_ 7 rfl rfl))
                have ec : ∀ v, a.eval (.const v) = v := fun _ => rfl
                generalize a.eval = ev at *
                simp [execOp, go_sem, ec, e8]
              · cases ho
                have e44 := (hag.val_ (j := 6) (t := 44) rfl (hdep ⟨6, .data⟩ (by simp) rfl)).trans (hS.v6 (hdep ⟨6, .data⟩ (by simp) rfl))
                have e45 := (hag.val_ (j := 7) (t := 45) rfl (hdep ⟨7, .data⟩ (by simp) rfl)).trans (hS.v7 (hdep ⟨7, .data⟩ (by simp) rfl))
                refine opIn_value (i := 8) (r := .pointer (some ⟨bof, n, none⟩)) (w' := Z) rfl rfl (fun c h => by cases h) ?_ ?_ (hK2 _ _ (hS.do_ 8 rfl rfl))
                · generalize a.eval = ev at *
                  simp [Oper.about, resolve, Target.leads, Sem.run_pure, go_sem, e44, e45, hn, hn0]
                · have ec : ∀ v, a.eval (.const v) = v := fun _ => rfl
                  generalize a.eval = ev at *
                  simp [execOp, go_sem, ec, e44, e45, hn, hn0]
              · cases ho
                have e46 := (hag.val_ (j := 8) (t := 46) rfl (hdep ⟨8, .data⟩ (by simp) rfl)).trans (hS.v8 (hdep ⟨8, .data⟩ (by simp) rfl))
                have hz := hS.rd hn
                refine wpOpIn_value (i := 9) (r := .int .i64 (cls n : Nat)) (w' := Z) rfl rfl (fun c h => by cases h) rfl ?_ (hK2 _ _ (hS.do_ 9 rfl rfl))
                have ec : ∀ v, a.eval (.const v) = v := fun _ => rfl
                generalize a.eval = ev at *
                simp [execOp, go_sem, ec, e46, hz]
              · cases ho
                have e43 := (hag.val_ (j := 5) (t := 43) rfl (hdep ⟨5, .data⟩ (by simp) rfl)).trans (hS.v5 (hdep ⟨5, .data⟩ (by simp) rfl))
                have e47 := (hag.val_ (j := 9) (t := 47) rfl (hdep ⟨9, .data⟩ (by simp) rfl)).trans (hS.v9 (hdep ⟨9, .data⟩ (by simp) rfl))
                refine opIn_value (i := 10) (r := .pointer (some ⟨bo, cls n, none⟩)) (w' := Z) rfl rfl (fun c h => by cases h) ?_ ?_ (hK2 _ _ (hS.do_ 10 rfl rfl))
                · generalize a.eval = ev at *
                  simp [Oper.about, resolve, Target.leads, Sem.run_pure, go_sem, e43, e47, hcn, hcn0]
                · have ec : ∀ v, a.eval (.const v) = v := fun _ => rfl
                  generalize a.eval = ev at *
                  simp [execOp, go_sem, ec, e43, e47, hcn, hcn0]
              · cases ho
                have e48 := (hag.val_ (j := 10) (t := 48) rfl (hdep ⟨10, .data⟩ (by simp) rfl)).trans (hS.v10 (hdep ⟨10, .data⟩ (by simp) rfl))
                have hz := hS.rdo hdn hcn
                refine wpOpIn_value (i := 11) (r := v (cls n)) (w' := Z) rfl rfl (fun c h => by cases h) rfl ?_ (hK2 _ _ (hS.do_ 11 rfl rfl))
                have ec : ∀ v, a.eval (.const v) = v := fun _ => rfl
                generalize a.eval = ev at *
                simp [execOp, go_sem, ec, e48, hz]
              · cases ho
                have e1 : a.eval (.tmp 1) = .slice (some ⟨bof, 0, none⟩) g.length g.length := hag.keep 1 rfl
                refine wpOpIn_value (i := 12) (r := .slice (some ⟨bof, 0, none⟩) g.length g.length) (w' := Z) rfl rfl (fun c h => by cases h) rfl ?_ (hK2 _ _ (hS.do_ 12 rfl rfl))
                have ec : ∀ v, a.eval (.const v) = v := fun _ => rfl
                generalize a.eval = ev at *
                simp [execOp, go_sem, ec, e1]
              · cases ho
                have e11 : a.eval (.tmp 11) = .int .i64 (mm : Nat) := hag.keep 11 rfl
                refine wpOpIn_value (i := 13) (r := .int .i64 (mm : Nat)) (w' := Z) rfl rfl (fun c h => by cases h) rfl ?_ (hK2 _ _ (hS.do_ 13 rfl rfl))
                have ec : ∀ v, a.eval (.const v) = v := fun _ => rfl
                generalize a.eval = ev at *
                simp [execOp, go_sem, ec, e11]
              · cases ho
                have e50 := (hag.val_ (j := 12) (t := 50) rfl (hdep ⟨12, .data⟩ (by simp) rfl)).trans (hS.v12 (hdep ⟨12, .data⟩ (by simp) rfl))
                have e51 := (hag.val_ (j := 13) (t := 51) rfl (hdep ⟨13, .data⟩ (by simp) rfl)).trans (hS.v13 (hdep ⟨13, .data⟩ (by simp) rfl))
                refine opIn_value (i := 14) (r := .pointer (some ⟨bof, mm, none⟩)) (w' := Z) rfl rfl (fun c h => by cases h) ?_ ?_ (hK2 _ _ (hS.do_ 14 rfl rfl))
                · generalize a.eval = ev at *
                  simp [Oper.about, resolve, Target.leads, Sem.run_pure, go_sem, e50, e51, hmm, hmm0]
                · have ec : ∀ v, a.eval (.const v) = v := fun _ => rfl
                  generalize a.eval = ev at *
                  simp [execOp, go_sem, ec, e50, e51, hmm, hmm0]
              · cases ho
                have e52 := (hag.val_ (j := 14) (t := 52) rfl (hdep ⟨14, .data⟩ (by simp) rfl)).trans (hS.v14 (hdep ⟨14, .data⟩ (by simp) rfl))
                have hz := hS.rd hmm
                refine wpOpIn_value (i := 15) (r := .int .i64 (cls mm : Nat)) (w' := Z) rfl rfl (fun c h => by cases h) rfl ?_ (hK2 _ _ (hS.do_ 15 rfl rfl))
                have ec : ∀ v, a.eval (.const v) = v := fun _ => rfl
                generalize a.eval = ev at *
                simp [execOp, go_sem, ec, e52, hz]
              · cases ho
                have e53 := (hag.val_ (j := 15) (t := 53) rfl (hdep ⟨15, .data⟩ (by simp) rfl)).trans (hS.v15 (hdep ⟨15, .data⟩ (by simp) rfl))
                refine wpOpIn_value (i := 16) (r := .slice (some ⟨Z.heap.size, 0, none⟩) 1 1) (w' := Z.alloc (.cells #[.int .i64 (cls mm : Nat)] 3)) rfl rfl (fun c h => by cases h) rfl ?_ (hK2 _ _ (hS.do16 hdn))
                generalize a.eval = ev at *
                simp [execOp, go_sem, e53]
              · cases ho
                have e49 := (hag.val_ (j := 11) (t := 49) rfl (hdep ⟨11, .data⟩ (by simp) rfl)).trans (hS.v11 (hdep ⟨11, .data⟩ (by simp) rfl))
                have e54 := hag.val_ (j := 16) (t := 54) rfl (hdep ⟨16, .data⟩ (by simp) rfl)
                have h16 := hdep ⟨16, .data⟩ (by simp) rfl
                have h11 := hdep ⟨11, .data⟩ (by simp) rfl
                obtain ⟨Z0, rfl, e16, hb0⟩ := hS.b16 h16 hdn
                rw [e16] at e54
                refine opIn_appendI (i := 17) (s := .tmp 49) (x := .tmp 54) (t := 26) (t' := 26) rfl rfl rfl ?_
                refine Kd.R_append_step kI bo (w0 := W5) rfl (.tmp 49) (.tmp 54) 26 3 (.int .i64 0) 8 rfl Try.underlying26 info3 rfl (by decide) (by decide) (v (cls n)) (toI (r (cls n))) ((cls mm : Nat) : Int) [.int .i64 ((cls mm : Nat) : Int)] (fun k => k ≠ bo) (fun _ => False) e49 e54 rfl (fun _ hk => hk.elim) (fun k hk => by have h1 := blk_lt HFD.out.o; have h2 := hb0.size; omega) ((HFD.out.below hb0).r _ hcn) (hb0.mono HB9.out) (Nat.le_trans HB9.out hb0.size) HLR.out ?_
                exact fun v1 w1 hr hb hg hat => hK2 v1 w1 (hS.do17 h11 h16 hdn hb0 hr hb hg hat)
              · cases ho
                have e38 := (hag.val_ (j := 0) (t := 38) rfl (hdep ⟨0, .data⟩ (by simp) rfl)).trans (hS.v0 (hdep ⟨0, .data⟩ (by simp) rfl))
                have e42 := (hag.val_ (j := 4) (t := 42) rfl (hdep ⟨4, .data⟩ (by simp) rfl)).trans (hS.v4 (hdep ⟨4, .data⟩ (by simp) rfl))
                refine opIn_value (i := 18) (r := .pointer (some ⟨bo, cls n, none⟩)) (w' := Z) rfl rfl (fun c h => by cases h) ?_ ?_ (hK2 _ _ (hS.do_ 18 rfl rfl))
                · generalize a.eval = ev at *
                  simp [Oper.about, resolve, Target.leads, Sem.run_pure, go_sem, e38, e42, hcn, hcn0]
                · have ec : ∀ v, a.eval (.const v) = v := fun _ => rfl
                  generalize a.eval = ev at *
                  simp [execOp, go_sem, ec, e38, e42, hcn, hcn0]
              · cases ho
                have e56 := (hag.val_ (j := 18) (t := 56) rfl (hdep ⟨18, .data⟩ (by simp) rfl)).trans (hS.v18 (hdep ⟨18, .data⟩ (by simp) rfl))
                have e55 := hag.val_ (j := 17) (t := 55) rfl (hdep ⟨17, .data⟩ (by simp) rfl)
                have h17 := hdep ⟨17, .data⟩ (by simp) rfl
                obtain ⟨A9, n9, c9, e9, hz, hzf⟩ := hS.at17 h17 hdn hcn
                rw [e9] at e55
                refine wpOpIn_skip (i := 19) rfl rfl (fun c h => by cases h) rfl (w' := Z.setCell ⟨bo, cls n, none⟩ (.slice A9 n9 c9)) ?_ (hK2 _ _ (hS.do19 h17 hdn hcn e9))
                have ec : ∀ v, a.eval (.const v) = v := fun _ => rfl
                generalize a.eval = ev at *
                simp [execOp, go_sem, ec, e56, e55, hz, hzf]
            case en9 =>
              intro Z done val hdn hS
              simp only [putTmps, dstOf, List.size_toArray, List.length_cons, List.length_nil, Nat.reduceAdd, List.getElem?_toArray, List.getElem?_cons_zero, List.getElem?_cons_succ, Option.bind_some, List.setIfInBounds_toArray, List.set_cons_zero, List.set_cons_succ]
              obtain ⟨v9, hfd9, hbe9⟩ := hS.s19 (hdn 19 (by decide))
              have hl9 : FL bo bo M (Tarj.upd v (cls n) v9) (((adjF g n).take (j + 1)).foldl (rowIns cls n) (rowsAt cls (adjF g) n)) W Z := by
                rw [HSTEP.out, ← HR.out]; unfold rowIns; rw [if_neg HEQ.out]
                exact ⟨hfd9, HB5.out.trans hbe9⟩
              have hr9 : ∀ i, (((adjF g n).take (j + 1)).foldl (rowIns cls n) (rowsAt cls (adjF g) n) i).length ≤ n * 1000 + (j + 1) := by
                rw [HSTEP.out]
                exact rowIns_len _ _ _ _ _ HRJ.out
              have HL9 := Lib.hid hl9
              clear hl9 hfd9 hbe9 hdn hS
              go_wp2
              go_roundg k2
              case measure => exact Nat.lt_succ_self _
              case rel => exact ⟨j + 1, _, by rw [Nat.add_assoc, Nat.add_comm 1]; exact hj, by first | rw [hw] | simp [hw], hr9, HL9⟩
        · have hje : j = row.length := by omega
          have hla : (adjF g n).length = row.length := by rw [RW.out]; simp [adjF]
          have hrs : rowsAt cls (adjF g) (n + 1) = ((adjF g n).take j).foldl (rowIns cls n) (rowsAt cls (adjF g) n) := by
            rw [hje, ← hla, List.take_length]
            unfold rowsAt
            rw [List.range_succ, List.foldl_append]; rfl
          have hr9 : ∀ i, (rowsAt cls (adjF g) (n + 1) i).length ≤ (n + 1) * 1000 := by
            rw [hrs]
            exact fun i => Nat.le_trans (hrj i) (by omega)
          have HL9 := Lib.hid (show FL bo bo M v (rowsAt cls (adjF g) (n + 1)) W wr from by rw [hrs]; exact HJ.out)
          have hw := pzS n (by omega)
          clear hrs hrj hje hla hkw
          go_wp2
          go_roundg k1
          case measure => exact Nat.lt_succ_self _
          case rel => exact ⟨n + 1, v, by rw [Nat.add_assoc, Nat.add_comm 1]; exact hn', by first | rw [hw] | simp [hw], hr9, HL9⟩
    · have hne : n = g.length := by omega
      subst hne
      obtain ⟨r, hr⟩ : ∃ r, r = rowsAt cls (adjF g) g.length := ⟨_, rfl⟩
      rw [← hr] at HL hrl
      have HR := Lib.hid hr
      have HQ0 := Lib.hid (show FL bo bo M v0 (fun i => if i < 0 then cmpN (r i) else r i) W wr from by simpa using HL.out)
      have hrl1 : ∀ i, (r i).length ≤ 1000 * 1000 := fun i => Nat.le_trans (hrl i) (Nat.mul_le_mul_right _ hgl)
      have HRL := Lib.hid hrl1
      clear hrl hrl1 hr HL
      go_wp2
      go_loopg [61] M (fun kq v61 w' => ∃ (i : Nat) (v : Nat → Value), i + kq = M ∧ v61 = .int .i64 (i : Nat) ∧ Hid (FL bo bo M v (fun x => if x < i then cmpN (r x) else r x) W w'))
      case atStart => exact ⟨0, v0, by omega, rfl, HQ0⟩
      case round =>
        obtain ⟨i, v, hi', rfl, HI⟩ := hrel
        clear HQ0
        by_cases hi : i < M
        · have hi0 : (0 : Int) ≤ (i : Int) := Int.natCast_nonneg i
          have hw := pzS i (by omega)
          obtain ⟨k1, rfl⟩ : ∃ k1, gk = k1 + 1 := ⟨gk - 1, by omega⟩
          have hri := HI.out.fd.r i hi
          simp only [Nat.lt_irrefl, if_false] at hri
          obtain ⟨A7, c7, e7, hl7, _⟩ := Kd.R_reads hri
          rw [toI_len] at e7 hl7
          have z1 := (HI.out.fd.cell hi).1
          rw [e7] at z1
          have hrx := HRL.out i
          have hsort := sort_own (toI (r i)) (v i) bo wr (Kd.own_of_R hri) (by rw [toI_len]; omega)
          rw [srt_toI, e7] at hsort
          have HSORT := Lib.hid hsort
          have HE7 := Lib.hid e7
          have HRI := Lib.hid hri
          clear hsort e7 hri
          go_upto_region 16 with (first
            | (go_at_call 32; (with_reducible refine HSORT.out.mono ?_; rintro x w5 ⟨rfl, hown, hg5⟩; have hcomp := compact_own (toI (sortN (r i))) (.slice A7 (r i).length c7) bo w5 (by have h := hown; rw [toI_len] at h; rw [toI_len, sortN_len]; exact h) (by rw [toI_len, sortN_len]; omega); rw [← srt_toI, ← toI_cmpN] at hcomp; have HCOMP := Lib.hid hcomp; have HG5 := Lib.hid hg5; clear hown hg5 hcomp)))
          have HFD5 := Lib.hid (blk_grown HI.out.fd.o (by have := HG5.out; rw [← HE7.out] at this; exact this) (HI.out.fd.ne hi))
          clear z1
          go_wp2_with (first
            | (go_at_call 33; (with_reducible refine HCOMP.out.mono ?_; rintro x w6 ⟨v1, rfl, hown6, hg6, hob⟩; obtain ⟨A8, n8, c8, rfl⟩ := own_sl hown6; have HOWN6 := Lib.hid hown6; have HG6 := Lib.hid hg6; have HOB := Lib.hid hob; have hb6 := blk_grown HFD5.out hg6 (by have := HI.out.fd.ne hi; rw [HE7.out] at this; exact this); have hfc := blk_cell hb6 i; have hfz := blk_frozen hb6 i; rw [vals_get _ hi] at hfc; clear hown6 hg6 hob hb6)))
          have hg7 : wr.grownBy w6 (v i).ownBlock := by
            rw [HE7.out]
            exact ⟨HG6.out.os.trans HG5.out.os, HG6.out.tape.trans HG5.out.tape, HG6.out.output.trans HG5.out.output, Nat.le_trans HG5.out.size HG6.out.size, fun k hk hne => (HG6.out.block k (Nat.lt_of_lt_of_le hk HG5.out.size) hne).trans (HG5.out.block k hk hne)⟩
          have hr6 : kI.R 3 w6 bo (fun k => k ≠ bo) (.slice A8 n8 c8) (toI (cmpN (r i))) := Kd.R_of_own HOWN6.out (fun k hk => by
            rw [HOB.out, ← HE7.out] at hk
            exact HRI.out.1 k hk)
          have hb6 : Below bo wr w6 := (Below.refl bo wr).grown hg7 (Nat.le_of_lt (blk_lt HI.out.fd.o)) (fun k hk => (HI.out.fd.lt hi k hk).1)
          have hfd := HI.out.fd.put hi hr6 hg7 (.inl (by rw [HOB.out, HE7.out]))
          have hbe := HI.out.be.trans (HI.out.fd.put_below hi (.slice A8 n8 c8) hg7 hb6)
          have hfn : Tarj.upd (fun x => if x < i then cmpN (r x) else r x) i (cmpN (r i)) = fun x => if x < i + 1 then cmpN (r x) else r x := by
            funext x
            simp only [Tarj.upd]
            by_cases e : x = i
            · subst e; simp
            · rw [if_neg e]
              by_cases e2 : x < i
              · rw [if_pos e2, if_pos (by omega)]
              · rw [if_neg e2, if_neg (by omega)]
          rw [hfn] at hfd
          have HI9 := Lib.hid (show FL bo bo M _ (fun x => if x < i + 1 then cmpN (r x) else r x) W _ from ⟨hfd, hbe⟩)
          clear hg7 hr6 hb6 hfd hbe hfn hfc hfz hrx
          go_roundg k1
          case measure => exact Nat.lt_succ_self _
          case rel => exact ⟨i + 1, _, by rw [Nat.add_assoc, Nat.add_comm 1]; exact hi', by first | rw [hw] | simp [hw], HI9⟩
        · have hie : i = M := by omega
          subst hie
          go_wp2
          go_ret
          refine ⟨bo, rfl, ⟨v, ?_⟩, ?_⟩
          · rw [HBO.out]
            refine ⟨HI.out.fd.o, fun j hj => ?_, HI.out.fd.d, HI.out.fd.b⟩
            have := HI.out.fd.r j hj
            rw [if_pos hj, HR.out] at this
            exact this
          · rw [HBO.out]; exact HI.out.be
end Go.Proofs.Ytejhejpkfjhmkaa.Man

namespace Go.Proofs.Ytejhejpkfjhmkaa.Man
open Go.RowKit Go.Shelf Go.Proofs.Ytejhejpkfjhmkaa.Pr Go.Proofs.YtejhejpkfjhmkaaW.PrintWords Go.Proofs.YtejhejpkfjhmkaaW.PrintMore Go.Proofs.Ytejhejpkfjhmkaa.Tarj
attribute [local go_sem] Oper.semAt_some
set_option linter.unusedVariables false
set_option linter.unusedSimpArgs false
def ix3 (A : Option Addr) (N c : Nat) (i : Nat) : Value := match i with | 0 => .slice A N c | 1 => .slice A N c | 2 => .int .i64 (N : Nat) | 4 => .slice A N c | 5 => .int .i64 (N : Nat) | 7 => .slice A N c | 8 => .int .i64 (N : Nat) | _ => undef
def cst3 (i : Nat) : Bool := i != 3 && i != 6 && i != 9 && i != 10 && i != 11 && i != 12
def fin0 (A : Option Addr) (N c p3 p6 p9 : Nat) : Array Value := #[.slice A N c, .slice (some ⟨p3, 0, none⟩) N N, .slice (some ⟨p6, 0, none⟩) N N, .slice none 0 0, .slice (some ⟨p9, 0, none⟩) N N, .int .i64 0, .slice none 0 0]
structure S3 (A : Option Addr) (N c : Nat) (W : World) (done : Nat → Bool) (val : Nat → Value) (Z : World) : Prop where
  be : Below W.heap.size W Z
  vv : ∀ i, done i = true → cst3 i = true → val i = ix3 A N c i
  s3 : done 3 = true → ∃ p, val 3 = .slice (some ⟨p, 0, none⟩) N N ∧ W.heap.size ≤ p ∧ Z.heap[p]? = some (.cells (ints N (fun _ => 0)) 3 (0, 0))
  s6 : done 6 = true → ∃ p, val 6 = .slice (some ⟨p, 0, none⟩) N N ∧ W.heap.size ≤ p ∧ Z.heap[p]? = some (.cells (ints N (fun _ => 0)) 3 (0, 0))
  ne : done 3 = true → done 6 = true → val 3 ≠ val 6
  s9 : done 9 = true → ∃ p, val 9 = .slice (some ⟨p, 0, none⟩) N N ∧ W.heap.size ≤ p ∧ Z.heap[p]? = some (.cells (bls N (fun _ => false)) 4 (0, 0))
  n10 : done 10 = true → done 3 = true ∧ done 6 = true ∧ done 9 = true
  s10 : done 10 = true → ∃ p3 p6 p9, val 10 = .agg (fin0 A N c p3 p6 p9) ∧ val 3 = .slice (some ⟨p3, 0, none⟩) N N ∧ val 6 = .slice (some ⟨p6, 0, none⟩) N N ∧ val 9 = .slice (some ⟨p9, 0, none⟩) N N
  n11 : done 11 = true → done 10 = true
  s11 : done 11 = true → ∃ F p3 p6 p9, val 11 = .pointer (some ⟨F, 0, none⟩) ∧ val 3 = .slice (some ⟨p3, 0, none⟩) N N ∧ val 6 = .slice (some ⟨p6, 0, none⟩) N N ∧ val 9 = .slice (some ⟨p9, 0, none⟩) N N ∧ W.heap.size ≤ F ∧ Z.heap[F]? = some (.cells (fin0 A N c p3 p6 p9) 38 (0, 0))
  n12 : done 12 = true → done 11 = true
  v12 : done 12 = true → val 12 = val 11
section
variable {A : Option Addr} {N c : Nat} {W Z : World} {done : Nat → Bool} {val : Nat → Value}
theorem S3.start (A : Option Addr) (N c : Nat) (W : World) : S3 A N c W (fun _ => false) (fun _ => undef) { W with drawn := W.drawn + 1 } :=
  ⟨(Below.refl W.heap.size W).drew, by simp, by simp, by simp, by simp, by simp, by simp, by simp, by simp, by simp, by simp, by simp⟩
theorem S3.v0 (h : S3 A N c W done val Z) (hd : done 0 = true) : val 0 = .slice A N c := h.vv 0 hd (by decide)
theorem S3.v1 (h : S3 A N c W done val Z) (hd : done 1 = true) : val 1 = .slice A N c := h.vv 1 hd (by decide)
theorem S3.v2 (h : S3 A N c W done val Z) (hd : done 2 = true) : val 2 = .int .i64 (N : Nat) := h.vv 2 hd (by decide)
theorem S3.v4 (h : S3 A N c W done val Z) (hd : done 4 = true) : val 4 = .slice A N c := h.vv 4 hd (by decide)
theorem S3.v5 (h : S3 A N c W done val Z) (hd : done 5 = true) : val 5 = .int .i64 (N : Nat) := h.vv 5 hd (by decide)
theorem S3.v7 (h : S3 A N c W done val Z) (hd : done 7 = true) : val 7 = .slice A N c := h.vv 7 hd (by decide)
theorem S3.v8 (h : S3 A N c W done val Z) (hd : done 8 = true) : val 8 = .int .i64 (N : Nat) := h.vv 8 hd (by decide)
theorem S3.do_ (h : S3 A N c W done val Z) (i : Nat) (hc : cst3 i = true) {x : Value} (hx : x = ix3 A N c i) : S3 A N c W (upd done i) (setv val i x) Z := by
  have e3 : i ≠ 3 := by rintro rfl; cases hc
  have e6 : i ≠ 6 := by rintro rfl; cases hc
  have e9 : i ≠ 9 := by rintro rfl; cases hc
  have e10 : i ≠ 10 := by rintro rfl; cases hc
  have e11 : i ≠ 11 := by rintro rfl; cases hc
  have e12 : i ≠ 12 := by rintro rfl; cases hc
  refine ⟨h.be, fun j hj hcj => ?vv, ?s3, ?s6, ?ne, ?s9, ?n10, ?s10, ?n11, ?s11, ?n12, ?v12⟩
  case vv =>
    simp only [upd, setv] at hj ⊢
    by_cases e : j = i
    · rw [if_pos e, e]; exact hx
    · rw [if_neg e] at hj ⊢; exact h.vv j hj hcj
  all_goals try simp only [upd, setv, if_neg (Ne.symm e3), if_neg (Ne.symm e6), if_neg (Ne.symm e9), if_neg (Ne.symm e10), if_neg (Ne.symm e11), if_neg (Ne.symm e12)]
  case s3 => exact h.s3
  case s6 => exact h.s6
  case ne => exact h.ne
  case s9 => exact h.s9
  case n10 => exact h.n10
  case s10 => exact h.s10
  case n11 => exact h.n11
  case s11 => exact h.s11
  case n12 => exact h.n12
  case v12 => exact h.v12
theorem S3.do3 (h : S3 A N c W done val Z) (hd : done 3 = false) : S3 A N c W (upd done 3) (setv val 3 (.slice (some ⟨Z.heap.size, 0, none⟩) N N)) (Z.alloc (.cells (ints N (fun _ => 0)) 3)) := by
  have h10 : done 10 = false := by cases e : done 10 with
    | false => rfl
    | true => have := h.n10 e; simp [hd] at this
  have h11 : done 11 = false := by cases e : done 11 with
    | false => rfl
    | true => rw [h.n11 e] at h10; cases h10
  refine ⟨?be, fun j hj hcj => ?vv, ?s3, ?s6, ?ne, ?s9, ?n10, ?s10, ?n11, ?s11, ?n12, ?v12⟩
  case vv =>
    have e : j ≠ 3 := by rintro rfl; cases hcj
    simp only [upd, setv, if_neg e] at hj ⊢
    exact h.vv j hj hcj
  all_goals try simp only [upd, setv, if_true, if_neg (show (6 : Nat) ≠ 3 by decide), if_neg (show (9 : Nat) ≠ 3 by decide), if_neg (show (10 : Nat) ≠ 3 by decide), if_neg (show (11 : Nat) ≠ 3 by decide), if_neg (show (12 : Nat) ≠ 3 by decide)]
  case be => exact below_alloc h.be _
  case s3 => exact fun _ => ⟨Z.heap.size, rfl, h.be.size, World.alloc_heap_new Z _⟩
  case s6 => exact fun q => by obtain ⟨p, e, hle, hb⟩ := h.s6 q; exact ⟨p, e, hle, blk_alloc hb _⟩
  case ne => exact fun _ q e => by obtain ⟨p, e2, _, hb⟩ := h.s6 q; rw [e2] at e; simp only [Value.slice.injEq, Option.some.injEq, Addr.mk.injEq] at e; have := blk_lt hb; omega
  case s9 => exact fun q => by obtain ⟨p, e, hle, hb⟩ := h.s9 q; exact ⟨p, e, hle, blk_alloc hb _⟩
  case n10 => exact fun q => by rw [h10] at q; cases q
  case s10 => exact fun q => by rw [h10] at q; cases q
  case n11 => exact h.n11
  case s11 => exact fun q => by rw [h11] at q; cases q
  case n12 => exact h.n12
  case v12 => exact fun q => by rw [h.n12 q] at h11; cases h11
theorem S3.do6 (h : S3 A N c W done val Z) (hd : done 6 = false) : S3 A N c W (upd done 6) (setv val 6 (.slice (some ⟨Z.heap.size, 0, none⟩) N N)) (Z.alloc (.cells (ints N (fun _ => 0)) 3)) := by
  have h10 : done 10 = false := by cases e : done 10 with
    | false => rfl
    | true => have := h.n10 e; simp [hd] at this
  have h11 : done 11 = false := by cases e : done 11 with
    | false => rfl
    | true => rw [h.n11 e] at h10; cases h10
  refine ⟨?be, fun j hj hcj => ?vv, ?s3, ?s6, ?ne, ?s9, ?n10, ?s10, ?n11, ?s11, ?n12, ?v12⟩
  case vv =>
    have e : j ≠ 6 := by rintro rfl; cases hcj
    simp only [upd, setv, if_neg e] at hj ⊢
    exact h.vv j hj hcj
  all_goals try simp only [upd, setv, if_true, if_neg (show (3 : Nat) ≠ 6 by decide), if_neg (show (9 : Nat) ≠ 6 by decide), if_neg (show (10 : Nat) ≠ 6 by decide), if_neg (show (11 : Nat) ≠ 6 by decide), if_neg (show (12 : Nat) ≠ 6 by decide)]
  case be => exact below_alloc h.be _
  case s3 => exact fun q => by obtain ⟨p, e, hle, hb⟩ := h.s3 q; exact ⟨p, e, hle, blk_alloc hb _⟩
  case s6 => exact fun _ => ⟨Z.heap.size, rfl, h.be.size, World.alloc_heap_new Z _⟩
  case ne => exact fun q _ e => by obtain ⟨p, e2, _, hb⟩ := h.s3 q; rw [e2] at e; simp only [Value.slice.injEq, Option.some.injEq, Addr.mk.injEq] at e; have := blk_lt hb; omega
  case s9 => exact fun q => by obtain ⟨p, e, hle, hb⟩ := h.s9 q; exact ⟨p, e, hle, blk_alloc hb _⟩
  case n10 => exact fun q => by rw [h10] at q; cases q
  case s10 => exact fun q => by rw [h10] at q; cases q
  case n11 => exact h.n11
  case s11 => exact fun q => by rw [h11] at q; cases q
  case n12 => exact h.n12
  case v12 => exact fun q => by rw [h.n12 q] at h11; cases h11
theorem S3.do9 (h : S3 A N c W done val Z) (hd : done 9 = false) : S3 A N c W (upd done 9) (setv val 9 (.slice (some ⟨Z.heap.size, 0, none⟩) N N)) (Z.alloc (.cells (bls N (fun _ => false)) 4)) := by
  have h10 : done 10 = false := by cases e : done 10 with
    | false => rfl
    | true => have := h.n10 e; simp [hd] at this
  have h11 : done 11 = false := by cases e : done 11 with
    | false => rfl
    | true => rw [h.n11 e] at h10; cases h10
  refine ⟨?be, fun j hj hcj => ?vv, ?s3, ?s6, ?ne, ?s9, ?n10, ?s10, ?n11, ?s11, ?n12, ?v12⟩
  case vv =>
    have e : j ≠ 9 := by rintro rfl; cases hcj
    simp only [upd, setv, if_neg e] at hj ⊢
    exact h.vv j hj hcj
  all_goals try simp only [upd, setv, if_true, if_neg (show (3 : Nat) ≠ 9 by decide), if_neg (show (6 : Nat) ≠ 9 by decide), if_neg (show (10 : Nat) ≠ 9 by decide), if_neg (show (11 : Nat) ≠ 9 by decide), if_neg (show (12 : Nat) ≠ 9 by decide)]
  case be => exact below_alloc h.be _
  case s3 => exact fun q => by obtain ⟨p, e, hle, hb⟩ := h.s3 q; exact ⟨p, e, hle, blk_alloc hb _⟩
  case s6 => exact fun q => by obtain ⟨p, e, hle, hb⟩ := h.s6 q; exact ⟨p, e, hle, blk_alloc hb _⟩
  case ne => exact h.ne
  case s9 => exact fun _ => ⟨Z.heap.size, rfl, h.be.size, World.alloc_heap_new Z _⟩
  case n10 => exact fun q => by rw [h10] at q; cases q
  case s10 => exact fun q => by rw [h10] at q; cases q
  case n11 => exact h.n11
  case s11 => exact fun q => by rw [h11] at q; cases q
  case n12 => exact h.n12
  case v12 => exact fun q => by rw [h.n12 q] at h11; cases h11
theorem S3.do10 (h : S3 A N c W done val Z) (hd : done 10 = false) {p3 p6 p9 : Nat} (e3 : val 3 = .slice (some ⟨p3, 0, none⟩) N N) (e6 : val 6 = .slice (some ⟨p6, 0, none⟩) N N) (e9 : val 9 = .slice (some ⟨p9, 0, none⟩) N N) (h3 : done 3 = true) (h6 : done 6 = true) (h9 : done 9 = true) : S3 A N c W (upd done 10) (setv val 10 (.agg (fin0 A N c p3 p6 p9))) Z := by
  refine ⟨?be, fun j hj hcj => ?vv, ?s3, ?s6, ?ne, ?s9, ?n10, ?s10, ?n11, ?s11, ?n12, ?v12⟩
  case vv =>
    have e : j ≠ 10 := by rintro rfl; cases hcj
    simp only [upd, setv, if_neg e] at hj ⊢
    exact h.vv j hj hcj
  all_goals try simp only [upd, setv, if_true, if_neg (show (3 : Nat) ≠ 10 by decide), if_neg (show (6 : Nat) ≠ 10 by decide), if_neg (show (9 : Nat) ≠ 10 by decide), if_neg (show (11 : Nat) ≠ 10 by decide), if_neg (show (12 : Nat) ≠ 10 by decide)]
  case be => exact h.be
  case s3 => exact h.s3
  case s6 => exact h.s6
  case ne => exact h.ne
  case s9 => exact h.s9
  case n10 => exact fun _ => ⟨h3, h6, h9⟩
  case s10 => exact fun _ => ⟨p3, p6, p9, rfl, e3, e6, e9⟩
  case n11 => exact fun _ => trivial
  case s11 => exact h.s11
  case n12 => exact h.n12
  case v12 => exact h.v12
theorem S3.do11 (h : S3 A N c W done val Z) (hd : done 11 = false) {p3 p6 p9 : Nat} (h10 : done 10 = true) (e3 : val 3 = .slice (some ⟨p3, 0, none⟩) N N) (e6 : val 6 = .slice (some ⟨p6, 0, none⟩) N N) (e9 : val 9 = .slice (some ⟨p9, 0, none⟩) N N) : S3 A N c W (upd done 11) (setv val 11 (.pointer (some ⟨Z.heap.size, 0, none⟩))) (Z.alloc (.cells (fin0 A N c p3 p6 p9) 38)) := by
  refine ⟨?be, fun j hj hcj => ?vv, ?s3, ?s6, ?ne, ?s9, ?n10, ?s10, ?n11, ?s11, ?n12, ?v12⟩
  case vv =>
    have e : j ≠ 11 := by rintro rfl; cases hcj
    simp only [upd, setv, if_neg e] at hj ⊢
    exact h.vv j hj hcj
  all_goals try simp only [upd, setv, if_true, if_neg (show (3 : Nat) ≠ 11 by decide), if_neg (show (6 : Nat) ≠ 11 by decide), if_neg (show (9 : Nat) ≠ 11 by decide), if_neg (show (10 : Nat) ≠ 11 by decide), if_neg (show (12 : Nat) ≠ 11 by decide)]
  case be => exact below_alloc h.be _
  case s3 => exact fun q => by obtain ⟨p, e, hle, hb⟩ := h.s3 q; exact ⟨p, e, hle, blk_alloc hb _⟩
  case s6 => exact fun q => by obtain ⟨p, e, hle, hb⟩ := h.s6 q; exact ⟨p, e, hle, blk_alloc hb _⟩
  case ne => exact h.ne
  case s9 => exact fun q => by obtain ⟨p, e, hle, hb⟩ := h.s9 q; exact ⟨p, e, hle, blk_alloc hb _⟩
  case n10 => exact h.n10
  case s10 => exact h.s10
  case n11 => exact fun _ => h10
  case s11 => exact fun _ => ⟨Z.heap.size, p3, p6, p9, rfl, e3, e6, e9, h.be.size, World.alloc_heap_new Z _⟩
  case n12 => exact fun _ => trivial
  case v12 => exact fun q => by rw [h.n12 q] at hd; cases hd
theorem S3.do12 (h : S3 A N c W done val Z) (hd : done 12 = false) (h11 : done 11 = true) {F : Nat} (e11 : val 11 = .pointer (some ⟨F, 0, none⟩)) : S3 A N c W (upd done 12) (setv val 12 (.pointer (some ⟨F, 0, none⟩))) Z := by
  refine ⟨?be, fun j hj hcj => ?vv, ?s3, ?s6, ?ne, ?s9, ?n10, ?s10, ?n11, ?s11, ?n12, ?v12⟩
  case vv =>
    have e : j ≠ 12 := by rintro rfl; cases hcj
    simp only [upd, setv, if_neg e] at hj ⊢
    exact h.vv j hj hcj
  all_goals try simp only [upd, setv, if_true, if_neg (show (3 : Nat) ≠ 12 by decide), if_neg (show (6 : Nat) ≠ 12 by decide), if_neg (show (9 : Nat) ≠ 12 by decide), if_neg (show (10 : Nat) ≠ 12 by decide), if_neg (show (11 : Nat) ≠ 12 by decide)]
  case be => exact h.be
  case s3 => exact h.s3
  case s6 => exact h.s6
  case ne => exact h.ne
  case s9 => exact h.s9
  case n10 => exact h.n10
  case s10 => exact h.s10
  case n11 => exact h.n11
  case s11 => exact h.s11
  case n12 => exact fun _ => h11
  case v12 => exact fun _ => e11.symm
end
end Go.Proofs.Ytejhejpkfjhmkaa.Man

namespace Go.Proofs.Ytejhejpkfjhmkaa.Man
open Go.RowKit Go.Shelf Go.Proofs.Ytejhejpkfjhmkaa.Pr Go.Proofs.YtejhejpkfjhmkaaW.PrintWords Go.Proofs.YtejhejpkfjhmkaaW.PrintMore Go.Proofs.Ytejhejpkfjhmkaa.Tarj
attribute [local go_sem] Oper.semAt_some
set_option linter.unusedVariables false
set_option linter.unusedSimpArgs false
theorem S3.fs {A : Option Addr} {c : Nat} {W Z : World} {done : Nat → Bool} {val : Nat → Value} {g : List (List Int)} (h : S3 A g.length c W done val Z) (h12 : done 12 = true) (hg : Kd.F kL W (fun k => k < W.heap.size) A g.length g) :
    ∃ F b1 b2 b4, val 12 = .pointer (some ⟨F, 0, none⟩) ∧ FS W.heap.size F b1 b2 b4 A c g st0 (.slice none 0 0) (.slice none 0 0) Z := by
  have h11 := h.n12 h12
  have h10 := h.n11 h11
  obtain ⟨h3, h6, h9⟩ := h.n10 h10
  obtain ⟨F, p3, p6, p9, e11, e3, e6, e9, hF, hb⟩ := h.s11 h11
  obtain ⟨q3, f3, l3, c3⟩ := h.s3 h3
  obtain ⟨q6, f6, l6, c6⟩ := h.s6 h6
  obtain ⟨q9, f9, l9, c9⟩ := h.s9 h9
  have hne := h.ne h3 h6
  rw [e3] at f3 hne
  rw [e6] at f6 hne
  rw [e9] at f9
  simp only [Value.slice.injEq, Option.some.injEq, Addr.mk.injEq, and_true, true_and] at f3 f6 f9
  subst f3 f6 f9
  refine ⟨F, p3, p6, p9, (h.v12 h12).trans e11, ⟨hb, c3, c6, c9, Kd.R_nil _ _ _ _ _, Kd.N_nil _ _ _ _ _, Kd.F_step hg (fun k hk _ => h.be.block k hk), ⟨hF, l3, l6, l9⟩, fun e => hne (by rw [e])⟩⟩
theorem makeI (N : Nat) (hN : N ≤ 1000) (W : World) : (Instr.makeSlice 26 (.int .i64 (N : Int)) (.int .i64 (N : Int))).run Try.prog W = .ok (.slice (some ⟨W.heap.size, 0, none⟩) N N) (W.alloc (.cells (ints N (fun _ => 0)) 3)) := by
  have h := print_make_int (P := Try.prog) 26 3 (.int .i64 0) 8 Try.underlying26 info3 rfl (by decide) (N : Int) (Int.natCast_nonneg N) (by rw [Int.toNat_natCast]; omega) W
  rw [Int.toNat_natCast] at h
  rw [h]
  congr 3
  unfold madeCells ints
  apply Array.ext_getElem?
  intro j
  by_cases hj : j < N
  · simp [hj, Nat.mod_one]
  · simp [hj]
theorem info4b : (Try.prog.info? 4).map (fun i => (i.zero, i.size, i.bytes)) = some (some (.bool false), 1, 1) := by kernel_rfl
theorem makeB (N : Nat) (hN : N ≤ 1000) (W : World) : (Instr.makeSlice 36 (.int .i64 (N : Int)) (.int .i64 (N : Int))).run Try.prog W = .ok (.slice (some ⟨W.heap.size, 0, none⟩) N N) (W.alloc (.cells (bls N (fun _ => false)) 4)) := by
  have h := print_make_int (P := Try.prog) 36 4 (.bool false) 1 Try.underlying36 info4b rfl (by decide) (N : Int) (Int.natCast_nonneg N) (by rw [Int.toNat_natCast]; omega) W
  rw [Int.toNat_natCast] at h
  rw [h]
  congr 3
  unfold madeCells bls
  apply Array.ext_getElem?
  intro j
  by_cases hj : j < N
  · simp [hj, Nat.mod_one]
  · simp [hj]
structure OL (B F b1 b2 b4 : Nat) (A : Option Addr) (c : Nat) (g : List (List Int)) (W0 : World) (n : Nat) (s : St) (vs vk : Value) (W : World) : Prop where
  is : s = rootsF (adjF g) g.length (List.range n) st0
  inv : Inv (adjF g) g.length s []
  ct : cnt g.length s ≤ g.length
  tt : tot s = s.next
  fs : FS B F b1 b2 b4 A c g s vs vk W
  be : Below B W0 W
  bz : B ≤ W.heap.size
theorem OL.start {B F b1 b2 b4 : Nat} {A : Option Addr} {c : Nat} {g : List (List Int)} {W0 W : World} {vs vk : Value} (h : FS B F b1 b2 b4 A c g st0 vs vk W) (hb : Below B W0 W) (hz : B ≤ W.heap.size) : OL B F b1 b2 b4 A c g W0 0 st0 vs vk W :=
  ⟨rfl, inv0, by
    have := whites_max g.length st0
    unfold cnt
    show 0 + _ ≤ _
    omega, rfl, h, hb, hz⟩
def ofRow (k : Nat) (l : List Nat) (f : Nat → Nat) : Nat → Nat := l.foldl (fun f x => Tarj.upd f x k) f
def ofAt (L : List (List Nat)) (n : Nat) : Nat → Nat := (List.range n).foldl (fun f k => ofRow k (L.getD k []) f) (fun _ => 0)
def lowAt (L : List (List Nat)) (n : Nat) : Nat → Nat := fun k => if k < n then (L.getD k []).getD 0 0 else 0
theorem ofAt_succ (L : List (List Nat)) (n : Nat) : ofAt L (n + 1) = ofRow n (L.getD n []) (ofAt L n) := by
  unfold ofAt; rw [List.range_succ, List.foldl_append]; rfl
theorem ofRow_succ (k : Nat) (l : List Nat) (j : Nat) (hj : j < l.length) (f : Nat → Nat) : ofRow k (l.take (j + 1)) f = Tarj.upd (ofRow k (l.take j) f) l[j] k := by
  unfold ofRow; rw [List.take_succ_eq_append_getElem hj, List.foldl_append]; rfl
theorem lowAt_succ (L : List (List Nat)) (n : Nat) : lowAt L (n + 1) = Tarj.upd (lowAt L n) n ((L.getD n []).getD 0 0) := by
  funext k
  simp only [lowAt, Tarj.upd]
  by_cases e : k = n
  · subst e; simp
  · rw [if_neg e]
    by_cases h : k < n
    · rw [if_pos h, if_pos (by omega)]
    · rw [if_neg h, if_neg (by omega)]
structure KM (B N1 bof bl N K : Nat) (L : List (List Nat)) (vk : Value) (f h : Nat → Nat) (W0 W : World) : Prop where
  kn : Kd.F kL W (fun k => k < N1) (match vk with | .slice A _ _ => A | _ => none) L.length (L.map toI)
  of : W.heap[bof]? = some (.cells (ints N f) 3 (0, 0))
  lo : W.heap[bl]? = some (.cells (ints K h) 3 (0, 0))
  be : Below B W0 W
  ge : N1 ≤ bof ∧ N1 ≤ bl ∧ B ≤ N1
  ne : bof ≠ bl
theorem KM.setOf {B N1 bof bl N K : Nat} {L : List (List Nat)} {vk : Value} {f h : Nat → Nat} {W0 W : World} (q : KM B N1 bof bl N K L vk f h W0 W) (n x : Nat) : KM B N1 bof bl N K L vk (Tarj.upd f n x) h W0 (W.setCell ⟨bof, n, none⟩ (.int .i64 (x : Nat))) := by
  obtain ⟨g1, g2, g3⟩ := q.ge
  exact ⟨Kd.F_far (p := ⟨bof, n, none⟩) q.kn (fun k hk e => by (have e' : k = bof := e); omega) _, blk_put q.of n _ (ints_set _ _ _ _), blk_far q.lo (Ne.symm q.ne) _, q.be.setCell (p := ⟨bof, n, none⟩) (Nat.le_trans g3 g1) _, q.ge, q.ne⟩
theorem KM.setLo {B N1 bof bl N K : Nat} {L : List (List Nat)} {vk : Value} {f h : Nat → Nat} {W0 W : World} (q : KM B N1 bof bl N K L vk f h W0 W) (n x : Nat) : KM B N1 bof bl N K L vk f (Tarj.upd h n x) W0 (W.setCell ⟨bl, n, none⟩ (.int .i64 (x : Nat))) := by
  obtain ⟨g1, g2, g3⟩ := q.ge
  exact ⟨Kd.F_far (p := ⟨bl, n, none⟩) q.kn (fun k hk e => by (have e' : k = bl := e); omega) _, blk_far q.of q.ne _, blk_put q.lo n _ (ints_set _ _ _ _), q.be.setCell (p := ⟨bl, n, none⟩) (Nat.le_trans g3 g2) _, q.ge, q.ne⟩
theorem roots_succ (adj : Nat → List Nat) (N n : Nat) (s : St) : rootsF adj N (List.range (n + 1)) s = if (rootsF adj N (List.range n) s).index n = 0 then visitF adj N n (rootsF adj N (List.range n) s) else rootsF adj N (List.range n) s := by
  unfold rootsF
  rw [List.range_succ, List.foldl_append]; rfl
end Go.Proofs.Ytejhejpkfjhmkaa.Man

namespace Go.Proofs.Ytejhejpkfjhmkaa.Man
open Go.RowKit Go.Shelf Go.Proofs.Ytejhejpkfjhmkaa.Pr Go.Proofs.YtejhejpkfjhmkaaW.PrintWords Go.Proofs.YtejhejpkfjhmkaaW.PrintMore Go.Proofs.Ytejhejpkfjhmkaa.Tarj
set_option linter.unusedVariables false
set_option linter.unusedSimpArgs false
theorem RS.far {B R bl K : Nat} {lw : Nat → Nat} {v : Value} {l : List Nat} {W : World} (h : RS B R bl K lw v l W) {q : Nat} (h1 : R ≠ q) (h2 : bl ≠ q) (h3 : some q ≠ v.ownBlock) (i : Nat) (u : Value) : RS B R bl K lw v l (W.setCell ⟨q, i, none⟩ u) := by
  refine ⟨blk_far h.r h1 _, blk_far h.lo h2 _, ?_, h.mem, h.b, h.bl, h.len⟩
  exact Kd.R_mono (Kd.R_far (p := ⟨q, i, none⟩) (Kd.R_reok (ok := fun k => some k = v.ownBlock) rfl h.st (fun k hk => hk.symm)) (fun k hk e => h3 (by rw [← hk]; exact congrArg some (show q = k from e.symm))) _) (fun _ _ => trivial)
structure PS (B R bl blf K : Nat) (lw : Nat → Nat) (v : Value) (l : List Nat) (left : Nat → Nat) (W1 Wr W : World) : Prop where
  rs : RS R R bl K lw v l W
  hp : Hp (kys lw l) l.length
  lf : W.heap[blf]? = some (.cells (ints K left) 3 (0, 0))
  fz : ∀ k, k < R → k ≠ blf → W.heap[k]? = Wr.heap[k]?
  be : Below B W1 W
  sz : Wr.heap.size ≤ W.heap.size
  bb : B ≤ blf ∧ blf < R ∧ bl ≠ blf ∧ R < Wr.heap.size
structure NM (R bn K : Nat) (num : Nat → Nat) (v : Value) (W : World) : Prop where
  nm : W.heap[bn]? = some (.cells (ints K num) 3 (0, 0))
  nb : R < bn ∧ some bn ≠ v.ownBlock
def lfA (r : Nat → List Nat) (i : Nat) : Nat → Nat := fun x => if x < i then (r x).length else 0
theorem lfA_zero (r : Nat → List Nat) : lfA r 0 = fun _ => 0 := by funext x; simp [lfA]
theorem lfA_succ (r : Nat → List Nat) (i : Nat) : Tarj.upd (lfA r i) i (r i).length = lfA r (i + 1) := by
  funext x
  simp only [lfA, Tarj.upd]
  by_cases e : x = i
  · subst e; simp
  · rw [if_neg e]
    by_cases h : x < i
    · rw [if_pos h, if_pos (by omega)]
    · rw [if_neg h, if_neg (by omega)]
def mixF (num cls : Nat → Nat) (i : Nat) : Nat → Nat := fun x => if x < i then num (cls x) else cls x
theorem mixF_zero (num cls : Nat → Nat) : mixF num cls 0 = cls := by funext x; simp [mixF]
theorem mixF_at (num cls : Nat → Nat) (i : Nat) : mixF num cls i i = cls i := by simp [mixF]
theorem mixF_succ (num cls : Nat → Nat) (i : Nat) : Tarj.upd (mixF num cls i) i (num (cls i)) = mixF num cls (i + 1) := by
  funext x
  simp only [mixF, Tarj.upd]
  by_cases e : x = i
  · subst e; simp
  · rw [if_neg e]
    by_cases h : x < i
    · rw [if_pos h, if_pos (by omega)]
    · rw [if_neg h, if_neg (by omega)]
theorem tAss (x : Nat) (w : World) : (Instr.typeAssert (.iface 3 (.int .i64 (x : Int))) 20 3 false).run Try.prog w = .ok (.int .i64 (x : Int)) w := by kernel_rfl
section
variable {B R bl blf bn K : Nat} {lw : Nat → Nat} {v v' : Value} {l l' : List Nat} {left num : Nat → Nat} {W1 Wr W W' : World}
theorem PS.own (h : PS B R bl blf K lw v l left W1 Wr W) : ∀ k, v.ownBlock = some k → R ≤ k := fun k hk => own_base (Kd.own_of_R h.rs.st) k hk
theorem PS.hz (h : PS B R bl blf K lw v l left W1 Wr W) : R ≤ W.heap.size := Nat.le_trans (Nat.le_of_lt h.bb.2.2.2) h.sz
theorem PS.ht (h : PS B R bl blf K lw v l left W1 Wr W) (hr : RS R R bl K lw v' l' W') (hh : Hp (kys lw l') l'.length) (ht : Ht R R W v W' v') : PS B R bl blf K lw v' l' left W1 Wr W' := by
  have hb := h.bb
  refine ⟨hr, hh, ?_, fun k hk hne => ?_, h.be.trans (ht.be.mono (by omega)), Nat.le_trans h.sz ht.be.size, h.bb⟩
  · rw [ht.be.block _ hb.2.1]; exact h.lf
  · rw [ht.be.block _ hk]; exact h.fz k hk hne
theorem PS.setLeft (h : PS B R bl blf K lw v l left W1 Wr W) (m x : Nat) : PS B R bl blf K lw v l (Tarj.upd left m x) W1 Wr (W.setCell ⟨blf, m, none⟩ (.int .i64 (x : Nat))) := by
  obtain ⟨b1, b2, b3, b4⟩ := h.bb
  refine ⟨h.rs.far (show R ≠ blf by omega) b3 (fun e => by have := h.own blf e.symm; omega) _ _, h.hp, blk_put h.lf m _ (ints_set _ _ _ _), fun k hk hne => ?_, h.be.setCell (p := ⟨blf, m, none⟩) b1 _, by rw [World.size_setCell]; exact h.sz, h.bb⟩
  rw [Below.heap_setCell _ _ _ _ hne]; exact h.fz k hk hne
theorem NM.ht (h : NM R bn K num v W) (hlt : bn < W.heap.size) (ht : Ht R R W v W' v') : NM R bn K num v' W' := by
  refine ⟨by rw [ht.bk bn hlt (by have := h.nb.1; omega) h.nb.2]; exact h.nm, h.nb.1, fun e => ?_⟩
  rcases ht.at_ with q | ⟨b, q, hb⟩
  · rw [q] at e; exact h.nb.2 e
  · rw [q] at e; injection e with e; omega
theorem NM.setLeft (h : NM R bn K num v W) (hlt : blf < R) (m : Nat) (u : Value) : NM R bn K num v (W.setCell ⟨blf, m, none⟩ u) :=
  ⟨blk_far h.nm (show bn ≠ blf by have := h.nb.1; omega) _, h.nb⟩
theorem NM.set (h : NM R bn K num v W) (m x : Nat) : NM R bn K (Tarj.upd num m x) v (W.setCell ⟨bn, m, none⟩ (.int .i64 (x : Nat))) :=
  ⟨blk_put h.nm m _ (ints_set _ _ _ _), h.nb⟩
theorem PS.setNum (h : PS B R bl blf K lw v l left W1 Wr W) (n : NM R bn K num v W) (m : Nat) (u : Value) : PS B R bl blf K lw v l left W1 Wr (W.setCell ⟨bn, m, none⟩ u) := by
  obtain ⟨b1, b2, b3, b4⟩ := h.bb
  have hn := n.nb
  have hl := h.rs.bl
  refine ⟨h.rs.far (show R ≠ bn by omega) (show bl ≠ bn by omega) hn.2 _ _, h.hp, blk_far h.lf (show blf ≠ bn by omega) _, fun k hk hne => ?_, h.be.setCell (p := ⟨bn, m, none⟩) (by show B ≤ bn; omega) _, by rw [World.size_setCell]; exact h.sz, h.bb⟩
  rw [Below.heap_setCell _ _ _ _ (show k ≠ bn by omega)]; exact h.fz k hk hne
theorem PS.drew (h : PS B R bl blf K lw v l left W1 Wr W) (n : Nat) : PS B R bl blf K lw v l left W1 Wr (W.drewN n) :=
  ⟨h.rs.drew n, h.hp, h.lf, h.fz, h.be.trans (pw_below_drewN (Below.refl _ _) n), h.sz, h.bb⟩
theorem PS.below (h : PS B R bl blf K lw v l left W1 Wr W) (hb : Below W.heap.size W W') : PS B R bl blf K lw v l left W1 Wr W' := by
  have hz := h.hz
  have hbb := h.bb
  refine ⟨h.rs.below hb, h.hp, blk_below h.lf hb, fun k hk hne => by rw [hb.block k (by omega)]; exact h.fz k hk hne, h.be.trans (hb.mono (by omega)), Nat.le_trans h.sz hb.size, h.bb⟩
theorem PS.lt (h : PS B R bl blf K lw v l left W1 Wr W) : ∀ k, v.ownBlock = some k → k < W.heap.size := fun k hk => by
  obtain ⟨cells, hc⟩ := own_typed (Kd.own_of_R h.rs.st) k hk
  exact blk_lt hc
theorem NM.start (h : PS B R bl blf K lw v l left W1 Wr W) : NM R W.heap.size K (fun _ => 0) v (W.alloc (.cells (ints K (fun _ => 0)) 3)) :=
  ⟨World.alloc_heap_new _ _, Nat.lt_of_lt_of_le h.bb.2.2.2 h.sz, fun e => Nat.lt_irrefl _ (h.lt _ e.symm)⟩
theorem PS.old (h : PS B R bl blf K lw v l left W1 Wr W) {A : Option Addr} {n : Nat} {L : List (List Int)} (hF : Kd.F kL Wr (fun q => q < blf) A n L) : Kd.F kL W (fun q => q < blf) A n L :=
  Kd.F_step hF (fun k hk _ => h.fz k (by have := h.bb; omega) (by omega))
theorem PS.start {w : World} (hlo : w.heap[bl]? = some (.cells (ints K lw) 3 (0, 0))) (hlf : w.heap[blf]? = some (.cells (ints K left) 3 (0, 0))) (hbe : Below B W1 w) (hB : B ≤ blf) (hne : bl ≠ blf) :
    PS B w.heap.size bl blf K lw (.slice none 0 0) [] left W1 (w.alloc (.cells #[.slice none 0 0, .slice (some ⟨bl, 0, none⟩) K K] 43)) (w.alloc (.cells #[.slice none 0 0, .slice (some ⟨bl, 0, none⟩) K K] 43)) := by
  have h1 := blk_lt hlo
  have h2 := blk_lt hlf
  refine ⟨⟨World.alloc_heap_new _ _, blk_alloc hlo _, Kd.R_nil _ _ _ _ _, by simp, Nat.le_refl _, h1, by simp⟩, fun i h0 hi => absurd hi (Nat.not_lt_zero _), blk_alloc hlf _, fun _ _ _ => rfl, hbe.trans ((below_alloc (Below.refl w.heap.size w) _).mono (by omega)), Nat.le_refl _, hB, h2, hne, blk_lt (World.alloc_heap_new w _)⟩
end
end Go.Proofs.Ytejhejpkfjhmkaa.Man

/- What Of's walk lays, in the words of the numbering. -/
namespace Go.Proofs.Ytejhejpkfjhmkaa.Man
open Go.RowKit Go.Shelf Go.Proofs.Ytejhejpkfjhmkaa.Pr Go.Proofs.YtejhejpkfjhmkaaW.PrintWords Go.Proofs.Ytejhejpkfjhmkaa.Tarj
set_option linter.unusedVariables false
set_option linter.unusedSimpArgs false
theorem csr13 (xs : List Int) : (Lib.compact (srt xs)).Pairwise (· < ·) := by
  have hp : (srt xs).Pairwise (fun a b => decide (a ≤ b) = true) := List.pairwise_mergeSort (fun a b c h1 h2 => by simp only [decide_eq_true_eq] at *; omega) (fun a b => by simp only [Bool.or_eq_true, decide_eq_true_eq]; omega) xs
  refine List.Pairwise.imp (fun {a b} h => by have := h.1; have := h.2; omega) (compact_rises (srt xs) (fun a b => a ≤ b) (fun a b h1 h2 => by omega) (fun i j hi hj h => ?_))
  by_cases e : i = j
  · subst e; omega
  · have := (List.pairwise_iff_getElem.1 hp) i j hi hj (by omega)
    simpa using this
theorem csm13 (xs : List Int) (x : Int) : x ∈ Lib.compact (srt xs) ↔ x ∈ xs := (compact_mem _ _).trans (List.mergeSort_perm xs _).mem_iff
theorem mem_toI {l : List Nat} {x : Nat} : (x : Int) ∈ toI l ↔ x ∈ l := by
  unfold toI
  rw [List.mem_map]
  exact ⟨fun ⟨y, hy, e⟩ => by simp only [Int.ofNat_eq_natCast] at e; have : y = x := by omega
                              exact this ▸ hy, fun h => ⟨x, h, rfl⟩⟩
theorem cmpN_mem {l : List Nat} {x : Nat} : x ∈ cmpN l ↔ x ∈ l := by
  rw [← mem_toI, toI_cmpN, csm13, mem_toI]
theorem toI_rises {l : List Nat} (h : (toI l).Pairwise (· < ·)) : l.Pairwise (· < ·) := by
  unfold toI at h
  rw [List.pairwise_map] at h
  exact h.imp (fun h => by simp only [Int.ofNat_eq_natCast] at h; omega)
theorem cmpN_rises (l : List Nat) : (cmpN l).Pairwise (· < ·) := toI_rises (by rw [toI_cmpN]; exact csr13 _)
theorem nodup_rises {l : List Nat} (h : l.Pairwise (· < ·)) : l.Nodup := h.imp (fun h => by omega)
theorem rowIns_mem {cls : Nat → Nat} {x m i j : Nat} {r : Nat → List Nat} : j ∈ rowIns cls x r m i ↔ j ∈ r i ∨ (cls x = i ∧ cls m = j ∧ j ≠ i) := by
  unfold rowIns
  by_cases e : cls m = cls x
  · rw [if_pos e]
    exact ⟨.inl, fun q => q.elim id (fun q => absurd (q.2.1.symm.trans (e.trans q.1)) q.2.2)⟩
  · rw [if_neg e]
    by_cases e2 : i = cls x
    · subst e2
      rw [Tarj.upd_same, List.mem_append, List.mem_singleton]
      exact ⟨fun q => q.imp id (fun q => ⟨rfl, q.symm, fun w => e (by rw [← q, w])⟩), fun q => q.imp id (fun q => q.2.1.symm)⟩
    · rw [Tarj.upd_other _ _ e2]
      exact ⟨.inl, fun q => q.elim id (fun q => absurd q.1.symm e2)⟩
theorem rowFold_mem {cls : Nat → Nat} {x i j : Nat} : ∀ (a : List Nat) (r : Nat → List Nat), j ∈ a.foldl (rowIns cls x) r i ↔ j ∈ r i ∨ (cls x = i ∧ ∃ y, y ∈ a ∧ cls y = j ∧ j ≠ i)
  | [], r => by simp
  | m :: a, r => by
    rw [List.foldl_cons, rowFold_mem a, rowIns_mem]
    constructor
    · rintro ((q | ⟨q1, q2, q3⟩) | ⟨q, y, hy, q2⟩)
      · exact .inl q
      · exact .inr ⟨q1, m, List.mem_cons_self, q2, q3⟩
      · exact .inr ⟨q, y, List.mem_cons_of_mem _ hy, q2⟩
    · rintro (q | ⟨q, y, hy, q2⟩)
      · exact .inl (.inl q)
      · rcases List.mem_cons.1 hy with rfl | hy
        · exact .inl (.inr ⟨q, q2⟩)
        · exact .inr ⟨q, y, hy, q2⟩
theorem rowsAt_mem {cls : Nat → Nat} {adj : Nat → List Nat} {i j : Nat} : ∀ n : Nat, j ∈ rowsAt cls adj n i ↔ j ≠ i ∧ ∃ x, x < n ∧ cls x = i ∧ ∃ y, y ∈ adj x ∧ cls y = j
  | 0 => by
    constructor
    · intro h; cases h
    · rintro ⟨_, x, h, _⟩; exact absurd h (Nat.not_lt_zero _)
  | n + 1 => by
    have e : rowsAt cls adj (n + 1) = (adj n).foldl (rowIns cls n) (rowsAt cls adj n) := by
      unfold rowsAt; rw [List.range_succ, List.foldl_append]; rfl
    rw [e, rowFold_mem, rowsAt_mem n]
    constructor
    · rintro (⟨q, x, hx, w⟩ | ⟨q, y, hy, q2, q3⟩)
      · exact ⟨q, x, by omega, w⟩
      · exact ⟨q3, n, by omega, q, y, hy, q2⟩
    · rintro ⟨q, x, hx, q2, y, hy, q3⟩
      by_cases e : x = n
      · subst e; exact .inr ⟨q2, y, hy, q3, q⟩
      · exact .inl ⟨q, x, by omega, q2, y, hy, q3⟩
theorem ofRow_get (k x : Nat) : ∀ (l : List Nat) (f : Nat → Nat), ofRow k l f x = if x ∈ l then k else f x
  | [], f => by simp [ofRow]
  | a :: t, f => by
    have ih := ofRow_get k x t (Tarj.upd f a k)
    have e : ofRow k (a :: t) f x = ofRow k t (Tarj.upd f a k) x := rfl
    rw [e, ih]
    by_cases h : x ∈ t
    · rw [if_pos h, if_pos (List.mem_cons_of_mem _ h)]
    · rw [if_neg h]
      by_cases e2 : x = a
      · subst e2; rw [Tarj.upd_same, if_pos List.mem_cons_self]
      · rw [Tarj.upd_other _ _ e2, if_neg (fun w => (List.mem_cons.1 w).elim e2 h)]
theorem ofAt_get {L : List (List Nat)} (hd : L.Pairwise (fun l m => ∀ x, x ∈ l → x ∉ m)) {k x : Nat} (hk : k < L.length) (hx : x ∈ L[k]) : ∀ n, k < n → n ≤ L.length → ofAt L n x = k
  | 0, h, _ => absurd h (Nat.not_lt_zero _)
  | n + 1, h, hn => by
    have hg : L.getD n [] = L[n]'(by omega) := by rw [List.getD_eq_getElem?_getD, List.getElem?_eq_getElem (by omega)]; rfl
    rw [ofAt_succ, ofRow_get, hg]
    by_cases e : k = n
    · subst e; rw [if_pos hx]
    · have := (List.pairwise_iff_getElem.1 hd) k n hk (by omega) (by omega) x hx
      rw [if_neg this]
      exact ofAt_get hd hk hx n (by omega) (by omega)
section
variable {adj : Nat → List Nat} {N : Nat}
def rowK (adj : Nat → List Nat) (N : Nat) (cls : Nat → Nat) (k : Nat) : List Nat := cmpN (rowsAt cls adj N k)
def rowsK (adj : Nat → List Nat) (N : Nat) (cls : Nat → Nat) (K : Nat) : List (List Int) := (List.range K).map fun i => toI (rowK adj N cls i)
def turnK (adj : Nat → List Nat) (N : Nat) (cls : Nat → Nat) (K k : Nat) : List Nat := (List.range K).filter fun i => decide (k ∈ rowK adj N cls i)
theorem rowsK_len (adj : Nat → List Nat) (N : Nat) (cls : Nat → Nat) (K : Nat) : (rowsK adj N cls K).length = K := by unfold rowsK; simp
theorem rowsK_get {cls : Nat → Nat} {K k : Nat} (h : k < K) : (rowsK adj N cls K).getD k [] = toI (rowK adj N cls k) := by
  unfold rowsK; rw [List.getD_eq_getElem?_getD, List.getElem?_map, List.getElem?_range h]; rfl
theorem kh_ok (hN : ∀ x, x < N → ∀ y, y ∈ adj x → y < N) {L : List (List Nat)} (hL : L = knotsF adj N) {K : Nat} (hK : K = L.length) : KH adj N K (ofAt L K) (lowAt L K) (rowK adj N (ofAt L K)) (turnK adj N (ofAt L K) K) := by
  obtain ⟨k1, k2, k3⟩ := knots_ok hN
  rw [← hL] at k1 k2 k3
  have inK : ∀ x, x < N → ∃ hk : ofAt L K x < L.length, x ∈ L[ofAt L K x] := fun x hx => by
    obtain ⟨l, hl, hxl⟩ := (k3 x).2 hx
    obtain ⟨k, hk, rfl⟩ := List.getElem_of_mem hl
    have := ofAt_get k2 hk hxl K (by omega) (by omega)
    refine ⟨by omega, ?_⟩
    simp only [this]; exact hxl
  have atK : ∀ k (hk : k < L.length) x, x ∈ L[k] → x < N ∧ ofAt L K x = k := fun k hk x hx => ⟨(k3 x).1 ⟨_, List.getElem_mem hk, hx⟩, ofAt_get k2 hk hx K (by omega) (by omega)⟩
  have low : ∀ k (hk : k < L.length), ∃ hp : 0 < L[k].length, lowAt L K k = L[k][0] := fun k hk => by
    have hp := List.length_pos_iff.2 (k1 _ (List.getElem_mem hk)).1
    refine ⟨hp, ?_⟩
    unfold lowAt
    rw [if_pos (by omega), List.getD_eq_getElem?_getD (l := L), List.getElem?_eq_getElem hk, Option.getD_some, List.getD_eq_getElem?_getD, List.getElem?_eq_getElem hp]; rfl
  have cl : ∀ x, x < N → ofAt L K x < K := fun x hx => by obtain ⟨h, _⟩ := inK x hx; omega
  refine ⟨hN, cl, fun x y hx hy => ?_, fun k hk => ?_, fun x hx => ?_, fun k hk j => ?_, fun k hk => nodup_rises (cmpN_rises _), fun k hk j => ?_, fun k hk => (List.nodup_range).filter _⟩
  · obtain ⟨hk, hxk⟩ := inK x hx
    have hkn := (k1 _ (List.getElem_mem hk)).2.2 x hxk y
    constructor
    · intro e
      obtain ⟨hk2, hyk⟩ := inK y hy
      simp only [← e] at hyk
      exact hkn.1 hyk
    · intro s
      exact (atK _ hk y (hkn.2 s)).2.symm
  · obtain ⟨hp, e⟩ := low k (by omega)
    rw [e]
    exact atK k (by omega) _ (List.getElem_mem hp)
  · obtain ⟨hk, hxk⟩ := inK x hx
    obtain ⟨hp, e⟩ := low _ hk
    rw [e]
    obtain ⟨i, hi, hxi⟩ := List.getElem_of_mem hxk
    have hs := (k1 _ (List.getElem_mem hk)).2.1
    rcases Nat.eq_zero_or_pos i with q | q
    · subst q; rw [hxi]; exact Nat.le_refl _
    · have := (List.pairwise_iff_getElem.1 hs) 0 i hp hi q
      rw [hxi] at this; exact this
  · unfold rowK
    rw [cmpN_mem, rowsAt_mem]
  · unfold turnK
    rw [List.mem_filter, List.mem_range, decide_eq_true_eq]
theorem rowK_lt {cls : Nat → Nat} {K k : Nat} (hN : ∀ x, x < N → ∀ y, y ∈ adj x → y < N) (hc : ∀ x, x < N → cls x < K) {j : Nat} (h : j ∈ rowK adj N cls k) : j < K := by
  unfold rowK at h
  rw [cmpN_mem, rowsAt_mem] at h
  obtain ⟨_, x, hx, _, y, hy, e⟩ := h
  rw [← e]; exact hc y (hN x hx y hy)
theorem rowsK_may {cls : Nat → Nat} {K : Nat} (hN : ∀ x, x < N → ∀ y, y ∈ adj x → y < N) (hc : ∀ x, x < N → cls x < K) (hK : K ≤ 1000) : mayB (rowsK adj N cls K) = true := by
  refine mayB_mk (by rw [rowsK_len]; exact hK) (fun v hv => ?_) (fun v hv m hm => ?_)
  · rw [rowsK_len] at hv
    rw [rowsK_get hv]
    unfold rowK; rw [toI_cmpN]; exact csr13 _
  · rw [rowsK_len] at hv ⊢
    rw [rowsK_get hv] at hm
    obtain ⟨j, hj, rfl⟩ := List.mem_map.1 hm
    have := rowK_lt hN hc hj
    simp only [Int.ofNat_eq_natCast]
    omega
theorem turnK_eq {cls : Nat → Nat} {K : Nat} (hN : ∀ x, x < N → ∀ y, y ∈ adj x → y < N) (hc : ∀ x, x < N → cls x < K) (hK : K ≤ 1000) : turnF (rowsK adj N cls K) = (List.range K).map fun k => toI (turnK adj N cls K k) := by
  unfold turnF
  rw [if_pos (rowsK_may hN hc hK), rowsK_len]
  apply List.map_congr_left
  intro t _
  unfold col turnK toI
  congr 1
  apply List.filter_congr
  intro i hi
  rw [show (rowsK adj N cls K).getD i [] = toI (rowK adj N cls i) from rowsK_get (List.mem_range.1 hi)]
  exact decide_eq_decide.2 mem_toI
end
end Go.Proofs.Ytejhejpkfjhmkaa.Man

namespace Go.Proofs.Ytejhejpkfjhmkaa.Man
open Go.RowKit Go.Shelf Go.Proofs.Ytejhejpkfjhmkaa.Pr Go.Proofs.YtejhejpkfjhmkaaW.PrintWords Go.Proofs.YtejhejpkfjhmkaaW.PrintMore Go.Proofs.Ytejhejpkfjhmkaa.Tarj
attribute [local go_sem] Oper.semAt_some
set_option linter.unusedVariables false
set_option linter.unusedSimpArgs false
set_option maxRecDepth 100000 in
set_option maxHeartbeats 16000000 in
theorem of_try (g : List (List Int)) (hgo : GOk g) (A : Option Addr) (c kM : Nat) (W : World) (hg : kL.C W A g.length g) (hlc : g.length ≤ c) (hmay : graph_May.f kM g = some true) :
    Calls Try.prog 10 #[.slice A g.length c] W fun e W' => ∃ bo M num, e = .returned (.slice (some ⟨bo, 0, none⟩) g.length g.length) ∧ Nmb (adjF g) g.length M num ∧ W.heap.size ≤ bo ∧ W'.heap[bo]? = some (.cells (ints g.length num) 3 (0, 0)) ∧ Below W.heap.size W W' := by
  have hmayc := fun w (h : kL.C w A g.length g) => graph_May.calls kM A c g true w h hlc hmay
  have HMAY := Lib.hid hmayc
  have HG := Lib.hid hg
  have GO := Lib.hid hgo
  have hgl := hgo.len
  clear hmayc hg hgo hmay
  go_enter Try.func10, Try.ntmps10
  go_upto_region 3 with (first
    | (go_at_call 21; (with_reducible refine (HMAY.out _ HG.out).mono ?_; rintro z w1 ⟨rfl, hdr⟩; have HDR := Lib.hid hdr; clear hdr)))
  obtain ⟨nd, rfl⟩ := HDR.out.out
  have hgF : Kd.F kL (W.drewN nd) (fun k => k < (W.drewN nd).heap.size) A g.length g := Kd.C_F (Kd.heap_slice 3 (Kd.heap_int .i64)) (Kd.C_below HG.out (pw_below_drewN (Below.refl _ _) nd))
  have hb1 : Below W.heap.size W (W.drewN nd) := pw_below_drewN (Below.refl _ _) nd
  clear HDR
  generalize W.drewN nd = W1 at hgF hb1 ⊢
  have HGF := Lib.hid hgF
  have HB1 := Lib.hid hb1
  have HMI := Lib.hid (makeI g.length hgl)
  have HMB := Lib.hid (makeB g.length hgl)
  clear hgF hb1
  refine (wpIn_wide (n := 5)).1 ?_
  refine wpIn_region_any mixedO ?_
  refine wpAnyIn_flow2 _ (fun _ => undef) (fun done val Z => S3 A g.length c W1 done val Z) rfl (by kernel_rfl) _ ?hz3 ?st3 ?en3
  case hz3 => exact S3.start A g.length c W1
  case st3 =>
    intro i o done val a Z ho hdn hdep hag hS K2 hK2
    have hm : i < 13 := by
      by_cases h : i < 13
      · exact h
      · rw [Array.getElem?_eq_none (by simp; omega)] at ho; cases ho
    obtain rfl | rfl | rfl | rfl | rfl | rfl | rfl | rfl | rfl | rfl | rfl | rfl | rfl : i = 0 ∨ i = 1 ∨ i = 2 ∨ i = 3 ∨ i = 4 ∨ i = 5 ∨ i = 6 ∨ i = 7 ∨ i = 8 ∨ i = 9 ∨ i = 10 ∨ i = 11 ∨ i = 12 := by omega
    · cases ho
      have e0 : a.eval (.tmp 0) = .slice A g.length c := hag.keep 0 rfl
      refine opIn_value (i := 0) (r := .slice A g.length c) (w' := Z) rfl rfl (fun c h => by cases h) rfl ?_ (hK2 _ _ (hS.do_ 0 rfl rfl))
      have ec : ∀ v, a.eval (.const v) = v := fun _ => rfl
      generalize a.eval = ev at *
      simp [execOp, go_sem, ec, e0]
    · cases ho
      have e0 : a.eval (.tmp 0) = .slice A g.length c := hag.keep 0 rfl
      refine opIn_value (i := 1) (r := .slice A g.length c) (w' := Z) rfl rfl (fun c h => by cases h) rfl ?_ (hK2 _ _ (hS.do_ 1 rfl rfl))
      have ec : ∀ v, a.eval (.const v) = v := fun _ => rfl
      generalize a.eval = ev at *
      simp [execOp, go_sem, ec, e0]
    · cases ho
      have e28 := (hag.val_ (j := 1) (t := 28) rfl (hdep ⟨1, .data⟩ (by simp) rfl)).trans (hS.v1 (hdep ⟨1, .data⟩ (by simp) rfl))
      refine opIn_value (i := 2) (r := .int .i64 (g.length : Nat)) (w' := Z) rfl rfl (fun c h => by cases h) rfl ?_ (hK2 _ _ (hS.do_ 2 rfl rfl))
      have ec : ∀ v, a.eval (.const v) = v := fun _ => rfl
      generalize a.eval = ev at *
      simp [execOp, go_sem, ec, e28]
    · cases ho
      have e29 := (hag.val_ (j := 2) (t := 29) rfl (hdep ⟨2, .data⟩ (by simp) rfl)).trans (hS.v2 (hdep ⟨2, .data⟩ (by simp) rfl))
      have hmk := HMI.out Z
      refine opIn_value (i := 3) (r := .slice (some ⟨Z.heap.size, 0, none⟩) g.length g.length) (w' := Z.alloc (.cells (ints g.length (fun _ => 0)) 3)) rfl rfl (fun c h => by cases h) rfl ?_ (hK2 _ _ (hS.do3 hdn))
      generalize a.eval = ev at *
      simp [execOp, go_sem, e29, hmk]
    · cases ho
      have e0 : a.eval (.tmp 0) = .slice A g.length c := hag.keep 0 rfl
      refine opIn_value (i := 4) (r := .slice A g.length c) (w' := Z) rfl rfl (fun c h => by cases h) rfl ?_ (hK2 _ _ (hS.do_ 4 rfl rfl))
      have ec : ∀ v, a.eval (.const v) = v := fun _ => rfl
      generalize a.eval = ev at *
      simp [execOp, go_sem, ec, e0]
    · cases ho
      have e31 := (hag.val_ (j := 4) (t := 31) rfl (hdep ⟨4, .data⟩ (by simp) rfl)).trans (hS.v4 (hdep ⟨4, .data⟩ (by simp) rfl))
      refine opIn_value (i := 5) (r := .int .i64 (g.length : Nat)) (w' := Z) rfl rfl (fun c h => by cases h) rfl ?_ (hK2 _ _ (hS.do_ 5 rfl rfl))
      have ec : ∀ v, a.eval (.const v) = v := fun _ => rfl
      generalize a.eval = ev at *
      simp [execOp, go_sem, ec, e31]
    · cases ho
      have e32 := (hag.val_ (j := 5) (t := 32) rfl (hdep ⟨5, .data⟩ (by simp) rfl)).trans (hS.v5 (hdep ⟨5, .data⟩ (by simp) rfl))
      have hmk := HMI.out Z
      refine opIn_value (i := 6) (r := .slice (some ⟨Z.heap.size, 0, none⟩) g.length g.length) (w' := Z.alloc (.cells (ints g.length (fun _ => 0)) 3)) rfl rfl (fun c h => by cases h) rfl ?_ (hK2 _ _ (hS.do6 hdn))
      generalize a.eval = ev at *
      simp [execOp, go_sem, e32, hmk]
    · cases ho
      have e0 : a.eval (.tmp 0) = .slice A g.length c := hag.keep 0 rfl
      refine opIn_value (i := 7) (r := .slice A g.length c) (w' := Z) rfl rfl (fun c h => by cases h) rfl ?_ (hK2 _ _ (hS.do_ 7 rfl rfl))
      have ec : ∀ v, a.eval (.const v) = v := fun _ => rfl
      generalize a.eval = ev at *
      simp [execOp, go_sem, ec, e0]
    · cases ho
      have e34 := (hag.val_ (j := 7) (t := 34) rfl (hdep ⟨7, .data⟩ (by simp) rfl)).trans (hS.v7 (hdep ⟨7, .data⟩ (by simp) rfl))
      refine opIn_value (i := 8) (r := .int .i64 (g.length : Nat)) (w' := Z) rfl rfl (fun c h => by cases h) rfl ?_ (hK2 _ _ (hS.do_ 8 rfl rfl))
      have ec : ∀ v, a.eval (.const v) = v := fun _ => rfl
      generalize a.eval = ev at *
      simp [execOp, go_sem, ec, e34]
    · cases ho
      have e35 := (hag.val_ (j := 8) (t := 35) rfl (hdep ⟨8, .data⟩ (by simp) rfl)).trans (hS.v8 (hdep ⟨8, .data⟩ (by simp) rfl))
      have hmk := HMB.out Z
      refine opIn_value (i := 9) (r := .slice (some ⟨Z.heap.size, 0, none⟩) g.length g.length) (w' := Z.alloc (.cells (bls g.length (fun _ => false)) 4)) rfl rfl (fun c h => by cases h) rfl ?_ (hK2 _ _ (hS.do9 hdn))
      generalize a.eval = ev at *
      simp [execOp, go_sem, e35, hmk]
    · cases ho
      have e27 := (hag.val_ (j := 0) (t := 27) rfl (hdep ⟨0, .data⟩ (by simp) rfl)).trans (hS.v0 (hdep ⟨0, .data⟩ (by simp) rfl))
      have e30 := hag.val_ (j := 3) (t := 30) rfl (hdep ⟨3, .data⟩ (by simp) rfl)
      have e33 := hag.val_ (j := 6) (t := 33) rfl (hdep ⟨6, .data⟩ (by simp) rfl)
      have e36 := hag.val_ (j := 9) (t := 36) rfl (hdep ⟨9, .data⟩ (by simp) rfl)
      obtain ⟨⟨p3, hs3, _⟩, ⟨p6, hs6, _⟩, ⟨p9, hs9, _⟩⟩ := And.intro (hS.s3 (hdep ⟨3, .data⟩ (by simp) rfl)) (And.intro (hS.s6 (hdep ⟨6, .data⟩ (by simp) rfl)) (hS.s9 (hdep ⟨9, .data⟩ (by simp) rfl)))
      rw [hs3] at e30
      rw [hs6] at e33
      rw [hs9] at e36
      refine opIn_value (i := 10) (r := .agg #[.slice A g.length c, .slice (some ⟨p3, 0, none⟩) g.length g.length, .slice (some ⟨p6, 0, none⟩) g.length g.length, .slice none 0 0, .slice (some ⟨p9, 0, none⟩) g.length g.length, .int .i64 0, .slice none 0 0]) (w' := Z) rfl rfl (fun c h => by cases h) rfl ?_ (hK2 _ _ (hS.do10 hdn hs3 hs6 hs9 (hdep ⟨3, .data⟩ (by simp) rfl) (hdep ⟨6, .data⟩ (by simp) rfl) (hdep ⟨9, .data⟩ (by simp) rfl)))
      generalize a.eval = ev at *
      simp [execOp, go_sem, e27, e30, e33, e36]
    · cases ho
      have e37 := hag.val_ (j := 10) (t := 37) rfl (hdep ⟨10, .data⟩ (by simp) rfl)
      obtain ⟨p3, p6, p9, hs10⟩ := hS.s10 (hdep ⟨10, .data⟩ (by simp) rfl)
      rw [hs10.1] at e37; unfold fin0 at e37
      refine opIn_value (i := 11) (r := .pointer (some ⟨Z.heap.size, 0, none⟩)) (w' := Z.alloc (.cells #[.slice A g.length c, .slice (some ⟨p3, 0, none⟩) g.length g.length, .slice (some ⟨p6, 0, none⟩) g.length g.length, .slice none 0 0, .slice (some ⟨p9, 0, none⟩) g.length g.length, .int .i64 0, .slice none 0 0] 38)) rfl rfl (fun c h => by cases h) rfl ?_ (hK2 _ _ (hS.do11 hdn (hdep ⟨10, .data⟩ (by simp) rfl) hs10.2.1 hs10.2.2.1 hs10.2.2.2))
      generalize a.eval = ev at *
      simp [execOp, go_sem, e37]
    · cases ho
      have e38 := hag.val_ (j := 11) (t := 38) rfl (hdep ⟨11, .data⟩ (by simp) rfl)
      obtain ⟨F, p3, p6, p9, hs11⟩ := hS.s11 (hdep ⟨11, .data⟩ (by simp) rfl)
      rw [hs11.1] at e38
      refine opIn_value (i := 12) (r := .pointer (some ⟨F, 0, none⟩)) (w' := Z) rfl rfl (fun c h => by cases h) rfl ?_ (hK2 _ _ (hS.do12 hdn (hdep ⟨11, .data⟩ (by simp) rfl) hs11.1))
      generalize a.eval = ev at *
      simp [execOp, go_sem, e38]
  case en3 =>
    intro Z done val hdn hS
    simp only [putTmps, dstOf, List.size_toArray, List.length_cons, List.length_nil, Nat.reduceAdd, List.getElem?_toArray, List.getElem?_cons_zero, List.getElem?_cons_succ, Option.bind_some, List.setIfInBounds_toArray, List.set_cons_zero, List.set_cons_succ]
    obtain ⟨F, b1, b2, b4, e12, fs0⟩ := hS.fs (hdn 12 (by decide)) HGF.out
    rw [e12]
    have HOL := Lib.hid (OL.start fs0 hS.be hS.be.size)
    obtain ⟨B, hB⟩ : ∃ B, W1.heap.size = B := ⟨_, rfl⟩
    rw [hB] at HOL
    have HBS := Lib.hid hB
    clear hS hdn fs0 e12 hB HMI HMB
    go_wp2
    go_loopg [41] g.length (fun kq v41 w' => ∃ (n : Nat) (s : St) (vs vk : Value), n + kq = g.length ∧ v41 = .int .i64 (n : Nat) ∧ Hid (OL B F b1 b2 b4 A c g W1 n s vs vk w'))
    case atStart => exact ⟨0, _, _, _, by omega, rfl, HOL⟩
    case round =>
      obtain ⟨n, s, vs, vk, hn', rfl, HL⟩ := hrel
      clear HOL
      have ck := HL.out.fs.cf
      by_cases hn : n < g.length
      · have hn0 : (0 : Int) ≤ (n : Int) := Int.natCast_nonneg n
        have cn := HL.out.fs.cn hn
        have hw := pzS n (by omega)
        obtain ⟨k1, rfl⟩ : ∃ k1, gk = k1 + 1 := ⟨gk - 1, by omega⟩
        by_cases hi0 : s.index n = 0
        · have hib : ((s.index n : Int) == 0) = true := by rw [hi0]; rfl
          have hcall := visit_any g GO.out A c B F b1 b2 b4 g.length s [] n vs vk wr HL.out.fs HL.out.inv HL.out.ct HL.out.tt hi0 hn (fun _ h => by cases h) (whites_max _ _) HL.out.bz
          have HCALL := Lib.hid hcall
          have HI0 := Lib.hid hi0
          clear hcall hi0
          go_wp2_with (first
            | (go_at_call 22; (with_reducible refine HCALL.out.mono ?_; rintro z w2 ⟨rfl, ⟨vs3, vk3, hfs3⟩, hbe3⟩; have HFS3 := Lib.hid hfs3; have HBE3 := Lib.hid hbe3; clear hfs3 hbe3 ck cn)))
          go_roundg k1
          case measure => exact Nat.lt_succ_self _
          case rel =>
            refine ⟨n + 1, _, vs3, vk3, by rw [Nat.add_assoc, Nat.add_comm 1]; exact hn', by first | rw [hw] | simp [hw], Lib.hid ⟨?_, ?_, ?_, ?_, HFS3.out, HL.out.be.trans HBE3.out, Nat.le_trans HL.out.bz HBE3.out.size⟩⟩
            · rw [roots_succ, ← HL.out.is, if_pos HI0.out]
            · obtain ⟨e, p⟩ := visit_ok GO.out.adj g.length s [] n HL.out.inv HI0.out hn (fun _ h => by cases h) (whites_max _ _)
              exact p.inv
            · rw [(visit_cnt GO.out.adj g.length n s hn HI0.out).1]; exact HL.out.ct
            · exact (visit_cnt GO.out.adj g.length n s hn HI0.out).2 HL.out.tt
        · have hib : ((s.index n : Int) == 0) = false := by simpa using hi0
          have HI0 := Lib.hid hi0
          clear hi0
          go_wp2
          clear ck cn
          go_roundg k1
          case measure => exact Nat.lt_succ_self _
          case rel => exact ⟨n + 1, s, vs, vk, by rw [Nat.add_assoc, Nat.add_comm 1]; exact hn', by first | rw [hw] | simp [hw], Lib.hid ⟨by rw [roots_succ, ← HL.out.is, if_neg HI0.out], HL.out.inv, HL.out.ct, HL.out.tt, HL.out.fs, HL.out.be, HL.out.bz⟩⟩
      · have hne : n = g.length := by omega
        subst hne
        have hkl := knots_le HL.out.inv HL.out.tt HL.out.ct
        obtain ⟨Ak, cK, ek⟩ := Kd.N_slice HL.out.fs.kn
        obtain ⟨K, hK⟩ : ∃ K, K = s.knots.length := ⟨_, rfl⟩
        have hKm : (s.knots.map toI).length = K := by rw [List.length_map, hK]
        rw [hKm] at ek
        subst ek
        obtain ⟨bof, hbof⟩ : ∃ b, wr.heap.size = b := ⟨_, rfl⟩
        obtain ⟨W4, hW4⟩ : ∃ W4, wr.alloc (.cells (ints g.length (fun _ => 0)) 3) = W4 := ⟨_, rfl⟩
        obtain ⟨bl, hbl⟩ : ∃ b, W4.heap.size = b := ⟨_, rfl⟩
        obtain ⟨W5, hW5⟩ : ∃ W5, W4.alloc (.cells (ints K (fun _ => 0)) 3) = W5 := ⟨_, rfl⟩
        have hmi1 := makeI g.length hgl wr
        have hmi2 := makeI K (by omega) W4
        rw [hbof, hW4] at hmi1
        rw [hbl, hW5] at hmi2
        have hkc : K ≤ cK := by
          obtain ⟨_, h2, _⟩ := Kd.N_reads' HL.out.fs.kn
          exact h2
        have hkF : Kd.F kL wr (fun k => k < wr.heap.size) Ak s.knots.length (s.knots.map toI) := by
          have h1 := Kd.N_F (Kd.N_bound HL.out.fs.kn)
          rw [hK] at h1
          exact Kd.F_mono h1 (fun k hk => hk.2)
        have hba : Below bof wr W5 := by
          rw [← hW5, ← hW4, ← hbof]
          exact below_alloc (below_alloc (Below.refl _ _) _) _
        have hkm : KM B bof bof bl g.length K s.knots (.slice Ak K cK) (ofAt s.knots 0) (lowAt s.knots 0) W1 W5 := by
          have hlt : wr.heap.size < W4.heap.size := by rw [← hW4]; exact blk_lt (World.alloc_heap_new wr _)
          rw [hbof, hbl] at hlt
          have hz := HL.out.bz
          rw [hbof] at hkF hz
          refine ⟨Kd.F_below hkF (by rw [hbof]; exact hba), ?_, ?_, HL.out.be.trans (hba.mono hz), ⟨Nat.le_refl _, Nat.le_of_lt hlt, hz⟩, Nat.ne_of_lt hlt⟩
          · rw [← hW5, ← hW4, ← hbof]
            exact blk_alloc (World.alloc_heap_new wr _) _
          · have : lowAt s.knots 0 = fun _ => 0 := by funext x; simp [lowAt]
            rw [this, ← hW5, ← hbl]
            exact World.alloc_heap_new _ _
        have HKM := Lib.hid hkm
        have HBA := Lib.hid hba
        have HKL := Lib.hid hkl
        have HKK := Lib.hid hK
        have hFb : F < bof := by rw [← hbof]; exact blk_lt HL.out.fs.f
        have HFB := Lib.hid hFb
        clear hkm hkF hkl hK hKm hba hFb
        go_upto_region 11 with (fail)
        have fs4 := HL.out.fs.below (show Below wr.heap.size wr W4 from by rw [← hW4]; exact below_alloc (Below.refl wr.heap.size wr) _)
        clear ck
        have ck := fs4.cf
        go_upto_region 12 with (fail)
        have fs5 := HL.out.fs.below (show Below wr.heap.size wr W5 from by rw [hbof]; exact HBA.out)
        clear ck hmi1 hmi2 fs4
        have ck := fs5.cf
        obtain ⟨Wa, hWa⟩ : ∃ W, W = wr := ⟨_, rfl⟩
        have HWA := Lib.hid hWa
        rw [← hWa] at HBA
        have HFS := Lib.hid (show FS B F b1 b2 b4 A c g s vs (.slice Ak K cK) Wa from by rw [hWa]; exact HL.out.fs)
        have HIS := Lib.hid HL.out.is
        have HIV := Lib.hid HL.out.inv
        have HBZ := Lib.hid (show bof = Wa.heap.size from by rw [hWa]; exact hbof.symm)
        clear fs5 hWa hbof hbl hW4 hW5 HL
        go_wp2
        clear ck
        go_loopg [70] K (fun kq v70 w' => ∃ (k : Nat), k + kq = K ∧ v70 = .int .i64 (k : Nat) ∧ Hid (Below bof Wa w') ∧ Hid (KM B bof bof bl g.length K s.knots (.slice Ak K cK) (ofAt s.knots k) (lowAt s.knots k) W1 w'))
        case atStart => exact ⟨0, by omega, rfl, HBA, HKM⟩
        case round =>
          obtain ⟨k, hk', rfl, HBW, HQ⟩ := hrel
          clear HKM HBA
          by_cases hk : k < K
          · obtain ⟨ad, A0, c0, eA, hrow, hle, hF0⟩ := rowA HQ.out.kn k (by rw [← HKK.out]; exact hk)
            have eA' : Ak = some ad := eA
            subst eA'
            obtain ⟨l, hl⟩ : ∃ l, l = s.knots.getD k [] := ⟨_, rfl⟩
            have hml : (s.knots.map toI).getD k [] = toI l := by
              rw [hl, List.getD_eq_getElem?_getD, List.getD_eq_getElem?_getD, List.getElem?_map, List.getElem?_eq_getElem (by rw [← HKK.out]; exact hk)]; rfl
            rw [hml, toI_len] at hrow hle hF0
            have hlm : l ∈ s.knots := by
              rw [hl, List.getD_eq_getElem?_getD, List.getElem?_eq_getElem (by rw [← HKK.out]; exact hk)]
              exact List.getElem_mem _
            have hlp : 0 < l.length := List.length_pos_iff.2 (HIV.out.kcl l hlm).1
            have hln : ∀ x, x ∈ l → x < g.length := fun x hx => HIV.out.vlt x ((HIV.out.kmem x).1 ⟨l, hlm, hx⟩).1
            have HLN := Lib.hid hln
            have HLL := Lib.hid hl
            have HF0 := Lib.hid hF0
            obtain ⟨ad0, eA0, hz0⟩ := Kd.at_int (Kd.F_now HF0.out) 0 (Int.le_refl 0) (by omega)
            subst eA0
            obtain ⟨x0, hx0⟩ : ∃ x, x = l.getD 0 0 := ⟨_, rfl⟩
            have hz1 : wr.cell? (ad0.add 0) = some (.int .i64 (x0 : Nat)) := by
              rw [show (0 : Nat) = (0 : Int).toNat from rfl, hz0]
              unfold rd
              rw [show (0 : Int).toNat = 0 from rfl, toI_get _ _ hlp, hx0, List.getD_eq_getElem?_getD, List.getElem?_eq_getElem hlp]; rfl
            have hz2 : wr.cell? ad0 = some (.int .i64 (x0 : Nat)) := by
              have e : ad0.add 0 = ad0 := by unfold Addr.add; simp
              rwa [e] at hz1
            have zl := blk_cell HQ.out.lo k
            have zlf := blk_frozen HQ.out.lo k
            rw [ints_get _ hk] at zl
            have hw := pzS k (by have := HKL.out; have := HKK.out; omega)
            have hk0 : (0 : Int) ≤ (k : Int) := Int.natCast_nonneg k
            obtain ⟨k1, rfl⟩ : ∃ k1, gk = k1 + 1 := ⟨gk - 1, by omega⟩
            have HX0 := Lib.hid hx0
            clear hl hml hlm hln hF0 hz0 hx0
            go_upto_region 16 with (fail)
            have hq1 := HQ.out.setLo k x0
            have hlow : Tarj.upd (lowAt s.knots k) k x0 = lowAt s.knots (k + 1) := by rw [lowAt_succ, HX0.out, HLL.out]
            rw [hlow] at hq1
            have hge := HQ.out.ge
            have hF6 : Kd.F kI (wr.setCell ⟨bl, k, none⟩ (.int .i64 (x0 : Nat))) (fun q => q < bof) (some ad0) l.length (toI l) := Kd.F_far (p := ⟨bl, k, none⟩) HF0.out (fun q hq e => by (have e' : q = bl := e); omega) _
            have HF6 := Lib.hid hF6
            have HBW6 := Lib.hid (HBW.out.setCell (p := ⟨bl, k, none⟩) hge.2.1 (.int .i64 (x0 : Nat)))
            have HQ1 := Lib.hid (show KM B bof bof bl g.length K s.knots (.slice (some ad) K cK) (ofRow k (l.take 0) (ofAt s.knots k)) (lowAt s.knots (k + 1)) W1 _ from by rw [List.take_zero]; exact hq1)
            clear hq1 hlow hz1 hz2 zl zlf hrow hF6 hge HQ HF0 HBW
            generalize wr.setCell ⟨bl, k, none⟩ (.int .i64 (x0 : Nat)) = W6 at HQ1 HF6 HBW6 ⊢
            go_wp2
            go_loopg [83] l.length (fun kq v83 w' => ∃ (j : Nat), j + kq = l.length ∧ v83 = .int .i64 (j : Nat) ∧ Hid (Below bof Wa w') ∧ Hid (Kd.F kI w' (fun q => q < bof) (some ad0) l.length (toI l)) ∧ Hid (KM B bof bof bl g.length K s.knots (.slice (some ad) K cK) (ofRow k (l.take j) (ofAt s.knots k)) (lowAt s.knots (k + 1)) W1 w'))
            case atStart => exact ⟨0, by omega, rfl, HBW6, HF6, HQ1⟩
            case round =>
              obtain ⟨j, hj, rfl, HBW7, HF7, HQ7⟩ := hrel
              by_cases hlt : j < l.length
              · obtain ⟨x, hx, hxn⟩ : ∃ x, x = l[j] ∧ x < g.length := ⟨_, rfl, HLN.out _ (List.getElem_mem hlt)⟩
                obtain ⟨ad1, eA1, hz0⟩ := Kd.at_int (Kd.F_now HF7.out) (j : Int) (Int.natCast_nonneg j) (Int.ofNat_lt.2 hlt)
                cases eA1
                rw [Int.toNat_natCast] at hz0
                have hz1 : wr.cell? (ad0.add j) = some (.int .i64 (x : Nat)) := by
                  rw [hz0]; unfold rd; rw [Int.toNat_natCast, toI_get _ _ hlt, hx]
                have zo := blk_cell HQ7.out.of x
                have zof := blk_frozen HQ7.out.of x
                rw [ints_get _ hxn] at zo
                have hx0 : (0 : Int) ≤ (x : Int) := Int.natCast_nonneg x
                have hlen := (Kd.F_now HF7.out).2.1
                have hwj : wrap64 ((j : Int) + 1) = ((j + 1 : Nat) : Int) := by simp only [wrap64]; omega
                have hge := HQ7.out.ge
                have HF9 := Lib.hid (Kd.F_far (p := ⟨bof, x, none⟩) HF7.out (fun q hq e => by (have e' : q = bof := e); omega) (.int .i64 (k : Nat)))
                have HBW9 := Lib.hid (HBW7.out.setCell (p := ⟨bof, x, none⟩) (Nat.le_refl _) (.int .i64 (k : Nat)))
                have hq9 := HQ7.out.setOf x k
                rw [hx, ← ofRow_succ k l j hlt, ← hx] at hq9
                have HQ9 := Lib.hid hq9
                obtain ⟨k2, rfl⟩ : ∃ k2, gk = k2 + 1 := ⟨gk - 1, by omega⟩
                have HJ := Lib.hid hj
                clear hz0 hq9 hge hx hlen HF7 HQ7 HBW7 HX0 HF6 HQ1 HBW6 hk' hj
                go_wp2
                go_roundg k2
                case measure => exact Nat.lt_succ_self _
                case rel => exact ⟨j + 1, by rw [Nat.add_assoc, Nat.add_comm 1]; exact HJ.out, by first | rw [hwj] | simp [hwj], HBW9, HF9, HQ9⟩
              · have hje : j = l.length := by omega
                have hq9 := HQ7.out
                rw [hje, List.take_length, HLL.out, ← ofAt_succ] at hq9
                have HQ9 := Lib.hid hq9
                clear hq9 hje
                go_wp2
                go_roundg k1
                case measure => exact Nat.lt_succ_self _
                case rel => exact ⟨k + 1, by rw [Nat.add_assoc, Nat.add_comm 1]; exact hk', by first | rw [hw] | simp [hw], HBW7, HQ9⟩
          · have hke : K = k := by omega
            subst hke
            have hKN : K ≤ 1000 := by have := HKL.out; have := HKK.out; omega
            have hfs8 := HFS.out.below (show Below Wa.heap.size Wa wr from by rw [← HBZ.out]; exact HBW.out)
            have ck := hfs8.cf
            obtain ⟨cls, hcls⟩ : ∃ f, f = ofAt s.knots K := ⟨_, rfl⟩
            obtain ⟨lw, hlw⟩ : ∃ f, f = lowAt s.knots K := ⟨_, rfl⟩
            have hks : s.knots = knotsF (adjF g) g.length := by rw [HIS.out]; rfl
            have hKH := kh_ok GO.out.adj hks HKK.out
            have hq8 := HQ.out
            rw [← hcls, ← hlw] at hKH hq8
            have hge8 := hq8.ge
            have hg8 : Kd.F kL wr (fun q => q < wr.heap.size) A g.length g := Kd.F_mono hfs8.gF (fun q hq => by have := blk_lt hq8.of; omega)
            have hfold := fold_any g GO.out A c bof K cls wr hg8 hq8.of hKN hKH.cl hlc
            rw [show (fun i => cmpN (rowsAt cls (adjF g) g.length i)) = rowK (adjF g) g.length cls from rfl] at hfold
            have HFOLD := Lib.hid hfold
            have HKH := Lib.hid hKH
            have HQ8 := Lib.hid hq8
            have hlwof := Lib.hid (And.intro hq8.of hq8.lo)
            clear hfold hg8 hq8 hKH hks hfs8 hcls hlw HQ HIS HIV HFS hge8
            go_upto_region 23 with (first
              | (go_at_call 23; (with_reducible refine HFOLD.out.mono ?_; rintro z w8 ⟨bo, rfl, ⟨v8, hfd8⟩, hbe8⟩; have HFD8 := Lib.hid hfd8; have HBE8 := Lib.hid hbe8; clear hfd8 hbe8)))
            clear ck
            have hmay8 := rowsK_may (K := K) HKH.out.hN HKH.out.cl hKN
            obtain ⟨kT, hkT⟩ := gturn_ev _ (may_gok hmay8).sm
            have hturn := graph_Turn.calls kT (some ⟨bo, 0, none⟩) K (rowsK (adjF g) g.length cls K) _ w8 (by rw [rowsK_len]; exact HFD8.out.reads hKN) (by rw [rowsK_len]; exact Nat.le_refl _) (hkT kT (Nat.le_refl _))
            rw [rowsK_len, turnK_eq HKH.out.hN HKH.out.cl hKN] at hturn
            have HTURN := Lib.hid hturn
            clear hturn hkT hmay8
            go_upto_region 24 with (first
              | (go_at_call 24; (with_reducible refine HTURN.out.mono ?_; rintro z w9 ⟨v9, rfl, hs9, hbe9⟩; have HS9 := Lib.hid hs9; have HBE9 := Lib.hid hbe9; clear hs9 hbe9)))
            have hs9l : ((List.range K).map fun k => toI (turnK (adjF g) g.length cls K k)).length = K := by simp
            obtain ⟨At, cT, et⟩ := Kd.N_slice (Kd.S_N HS9.out)
            rw [hs9l] at et
            subst et
            have hcT : K ≤ cT := by
              obtain ⟨_, h2, _⟩ := Kd.N_reads' (Kd.S_N HS9.out)
              exact h2
            have htF : Kd.F kL w9 (fun q => q < w9.heap.size) At K ((List.range K).map fun k => toI (turnK (adjF g) g.length cls K k)) := by
              have h1 := Kd.N_F (Kd.N_bound (Kd.S_N HS9.out))
              exact Kd.F_mono h1 (fun q hq => hq.2)
            obtain ⟨blf, hblf⟩ : ∃ b, w9.heap.size = b := ⟨_, rfl⟩
            obtain ⟨w10, hw10⟩ : ∃ w, w9.alloc (.cells (ints K (fun _ => 0)) 3) = w := ⟨_, rfl⟩
            have hmi3 := makeI K hKN w9
            rw [hblf, hw10] at hmi3
            have hlf10 : w10.heap[blf]? = some (.cells (ints K (fun _ => 0)) 3 (0, 0)) := by rw [← hw10, ← hblf]; exact World.alloc_heap_new _ _
            have hbe10 : Below w9.heap.size w9 w10 := by rw [← hw10]; exact below_alloc (Below.refl _ _) _
            have HTF := Lib.hid htF
            have HBE10 := Lib.hid hbe10
            have HLF10 := Lib.hid hlf10
            have HBLF := Lib.hid hblf
            clear htF hbe10 hlf10 hblf hw10 hs9l
            go_upto_region 25 with (fail)
            clear hmi3
            go_upto_region 26 with (fail)
            obtain ⟨r, hr⟩ : ∃ r, r = rowK (adjF g) g.length cls := ⟨_, rfl⟩
            obtain ⟨tn, htn⟩ : ∃ t, t = turnK (adjF g) g.length cls K := ⟨_, rfl⟩
            have hkh := HKH.out
            have hfd := HFD8.out
            have htf := HTF.out
            rw [← hr, ← htn] at hkh
            rw [← hr] at hfd
            rw [← htn] at htf
            have hz1 := HBE8.out.size
            have hz2 := HBE9.out.size
            have hbfl := blk_lt HQ8.out.of
            have hbll := blk_lt HQ8.out.lo
            have hge := HQ8.out.ge
            have hbl := HBLF.out
            have hb810 : Below w8.heap.size w8 w10 := HBE9.out.trans (HBE10.out.mono hz2)
            have hbr10 : Below wr.heap.size wr w10 := HBE8.out.trans (hb810.mono hz1)
            have hps := PS.start (blk_below HQ8.out.lo hbr10) HLF10.out (HQ8.out.be.trans (hbr10.mono (by omega))) (show B ≤ blf by omega) (show bl ≠ blf by omega)
            obtain ⟨R, hR⟩ : ∃ R, w10.heap.size = R := ⟨_, rfl⟩
            obtain ⟨Wr, hWr⟩ : ∃ w, w10.alloc (.cells #[.slice none 0 0, .slice (some ⟨bl, 0, none⟩) K K] 43) = w := ⟨_, rfl⟩
            have hbrr : Below w10.heap.size w10 Wr := by rw [← hWr]; exact below_alloc (Below.refl _ _) _
            rw [hR, hWr, ← lfA_zero r] at hps
            rw [hR, hWr]
            have hbo : Wr.heap[bo]? = some (.cells (vals K v8) 26 (0, 0)) := blk_below (blk_below hfd.o hb810) hbrr
            have hbol : bo < blf := Nat.lt_of_lt_of_le (blk_lt hfd.o) (by omega)
            have hbofr : Wr.heap[bof]? = some (.cells (ints g.length cls) 3 (0, 0)) := blk_below (blk_below HQ8.out.of hbr10) hbrr
            have hv8 : ∀ i, i < K → ∃ A c, v8 i = .slice A (r i).length c := fun i hi => by
              obtain ⟨A, c, e⟩ := Kd.R_slice (hfd.r i hi)
              rw [toI_len] at e
              exact ⟨A, c, e⟩
            have htr : Kd.F kL Wr (fun q => q < blf) At K ((List.range K).map fun k => toI (tn k)) := by
              rw [hbl] at htf
              exact Kd.F_step htf (fun k hk hlt => (hbrr.block k (by have := HBE10.out.size; omega)).trans (HBE10.out.block k hlt))
            have HKH2 := Lib.hid hkh
            have HPS0 := Lib.hid hps
            have HBO := Lib.hid (And.intro hbo hbol)
            have HBOF := Lib.hid (And.intro hbofr (show bof < blf by omega))
            have HV8 := Lib.hid hv8
            have HTR := Lib.hid htr
            have HBB := Lib.hid (show W.heap.size ≤ bof by have := HBS.out; have := HB1.out.size; omega)
            have HBG := Lib.hid (show B ≤ bof by omega)
            have HBG2 := Lib.hid (show W.heap.size ≤ B by have := HBS.out; have := HB1.out.size; omega)
            clear hkh hfd htf hz1 hz2 hbfl hbll hge hbl hb810 hbr10 hps hbrr hbo hbol hbofr hv8 htr hr htn hR hWr HKH HFD8 HTF HBE8 HBE9 HBE10 HLF10 HBLF HS9 HTURN HFOLD HQ8 hlwof HBW
            clear HKK HKL HWA HBZ HFB
            go_wp2
            go_loopg [111] K (fun kq v111 w' => ∃ (i : Nat) (v : Value) (l : List Nat), i + kq = K ∧ v111 = .int .i64 (i : Nat) ∧ Hid (PS B R bl blf K lw v l (lfA r i) W1 Wr w') ∧ Hid ((∀ k, k ∈ l ↔ k < i ∧ (r k).length = 0) ∧ l.Nodup))
            case atStart => exact ⟨0, _, [], by omega, rfl, HPS0, Lib.hid ⟨fun k => ⟨fun h => (by cases h), fun h => absurd h.1 (Nat.not_lt_zero _)⟩, List.nodup_nil⟩⟩
            case round =>
              obtain ⟨i, v, l, hi', rfl, HPS, HLM⟩ := hrel
              clear HPS0
              by_cases hi : i < K
              · obtain ⟨A0, c0, e0⟩ := HV8.out i hi
                have hzo : wr.heap[bo]? = some (.cells (vals K v8) 26 (0, 0)) := (HPS.out.fz bo (by have := HPS.out.bb; have := HBO.out.2; omega) (by have := HBO.out.2; omega)).trans HBO.out.1
                have zr : wr.cell? ⟨bo, i, none⟩ = some (.slice A0 (r i).length c0) := by rw [← e0]; exact (blk_cell hzo i).trans (vals_get _ hi)
                have zl : wr.cell? ⟨blf, i, none⟩ = some (.int .i64 (lfA r i i : Nat)) := (blk_cell HPS.out.lf i).trans (ints_get _ hi)
                have zlf := blk_frozen HPS.out.lf i
                have hw := pzS i (by omega)
                have hi0 : (0 : Int) ≤ (i : Int) := Int.natCast_nonneg i
                obtain ⟨k1, rfl⟩ : ∃ k1, gk = k1 + 1 := ⟨gk - 1, by omega⟩
                clear hzo e0
                go_upto_region 30 with (fail)
                have hps6 := HPS.out.setLeft i (r i).length
                rw [lfA_succ] at hps6
                have HPS6 := Lib.hid hps6
                clear hps6 zr zl zlf
                generalize wr.setCell ⟨blf, i, none⟩ (.int .i64 ((r i).length : Nat)) = W6 at HPS6 ⊢
                have zl : W6.cell? ⟨blf, i, none⟩ = some (.int .i64 (lfA r (i + 1) i : Nat)) := (blk_cell HPS6.out.lf i).trans (ints_get _ hi)
                rw [show lfA r (i + 1) i = (r i).length from by unfold lfA; rw [if_pos (Nat.lt_succ_self i)]] at zl
                by_cases h0 : (r i).length = 0
                · have hib : (((r i).length : Int) == 0) = true := by rw [h0]; rfl
                  have hll : l.length ≤ i := nodup_le HLM.out.2 (fun x hx => ((HLM.out.1 x).1 hx).1)
                  have hpush := hpush_any HPS6.out.rs HPS6.out.hp i hi (by omega) HPS6.out.hz
                  have HPUSH := Lib.hid hpush
                  have H0 := Lib.hid h0
                  clear hpush hll h0
                  go_wp2_with (first
                    | (go_at_call 25; (with_reducible refine HPUSH.out.mono ?_; rintro z w7 ⟨rfl, v7, l7, hrs7, hpm7, hhp7, hht7⟩; have HRS7 := Lib.hid hrs7; have HPM7 := Lib.hid hpm7; have HHP7 := Lib.hid hhp7; have HHT7 := Lib.hid hht7; clear hrs7 hpm7 hhp7 hht7 zl)))
                  go_roundg k1
                  case measure => exact Nat.lt_succ_self _
                  case rel =>
                    refine ⟨i + 1, v7, l7, by rw [Nat.add_assoc, Nat.add_comm 1]; exact hi', by first | rw [hw] | simp [hw], Lib.hid (HPS6.out.ht HRS7.out HHP7.out HHT7.out), Lib.hid ⟨fun k => ?_, ?_⟩⟩
                    · rw [HPM7.out.mem_iff, List.mem_append, List.mem_singleton, HLM.out.1 k]
                      constructor
                      · rintro (q | rfl)
                        · exact ⟨by omega, q.2⟩
                        · exact ⟨Nat.lt_succ_self _, H0.out⟩
                      · rintro ⟨q1, q2⟩
                        by_cases e : k = i
                        · exact .inr e
                        · exact .inl ⟨by omega, q2⟩
                    · refine HPM7.out.nodup_iff.2 (List.nodup_append.2 ⟨HLM.out.2, by simp, fun a ha b hb e => ?_⟩)
                      rw [List.mem_singleton.1 hb] at e
                      have := ((HLM.out.1 a).1 ha).1
                      omega
                · have hib : (((r i).length : Int) == 0) = false := by simpa using h0
                  have H0 := Lib.hid h0
                  clear h0
                  go_wp2
                  go_roundg k1
                  case measure => exact Nat.lt_succ_self _
                  case rel =>
                    refine ⟨i + 1, v, l, by rw [Nat.add_assoc, Nat.add_comm 1]; exact hi', by first | rw [hw] | simp [hw], HPS6, Lib.hid ⟨fun k => ?_, HLM.out.2⟩⟩
                    rw [HLM.out.1 k]
                    exact ⟨fun q => ⟨by omega, q.2⟩, fun q => ⟨by (by_cases e : k = i; · exact absurd (e ▸ q.2) H0.out); omega, q.2⟩⟩
              · have hie : K = i := by omega
                subst hie
                have hki := KI.start (l := l) HKH2.out (left := lfA r K) (fun k hk => by unfold lfA; rw [if_pos hk]) HLM.out.1 HLM.out.2
                have hnm := NM.start HPS.out
                have hps2 := HPS.out.below (below_alloc (Below.refl wr.heap.size wr) (.cells (ints K (fun _ => 0)) 3))
                have hmi4 := makeI K hKN wr
                obtain ⟨bn, hbn⟩ : ∃ b, wr.heap.size = b := ⟨_, rfl⟩
                obtain ⟨w12, hw12⟩ : ∃ w, wr.alloc (.cells (ints K (fun _ => 0)) 3) = w := ⟨_, rfl⟩
                rw [hbn, hw12] at hmi4 hnm
                rw [hw12] at hps2
                have HKI := Lib.hid hki
                have HNM := Lib.hid hnm
                have HPS2 := Lib.hid hps2
                clear hki hnm hps2 hbn hw12 HPS HLM
                go_upto_region 34 with (fail)
                clear hmi4
                go_wp2
                go_loopg [18] K (fun kq v18 w' => ∃ (n : Nat) (dn : Nat → Bool) (num left : Nat → Nat) (v : Value) (l : List Nat), n + kq = K ∧ v18 = .int .i64 (n : Nat) ∧ Hid (PS B R bl blf K lw v l left W1 Wr w') ∧ Hid (NM R bn K num v w') ∧ Hid (KI (adjF g) g.length K cls r n dn num left l))
                case atStart => exact ⟨0, _, _, _, _, _, by omega, rfl, HPS2, HNM, HKI⟩
                case round =>
                  obtain ⟨n, dn, num, left, v, l, hn2, rfl, HPS, HNM, HKI⟩ := hrel
                  clear HPS2
                  have hlen := len_any HPS.out.rs
                  have HLEN := Lib.hid hlen
                  have hll := nodup_le HKI.out.ln (fun x hx => HKI.out.num_lt x hx)
                  have hn0 : (0 : Int) ≤ (n : Int) := Int.natCast_nonneg n
                  have hnK := HKI.out.len
                  have hw := pzS n (by omega)
                  clear hlen
                  by_cases hl0 : 0 < l.length
                  · have hgt : (l.length : Int) > 0 := by omega
                    have hpop := hpop_any HPS.out.rs HPS.out.hp hl0 HPS.out.hz
                    have HPOP := Lib.hid hpop
                    have hta := tAss
                    obtain ⟨k1, rfl⟩ : ∃ k1, gk = k1 + 1 := by
                      cases l with
                      | nil => exact absurd hl0 (Nat.lt_irrefl 0)
                      | cons y l' =>
                        obtain ⟨q1, q2, _⟩ := (HKI.out.lm y).1 List.mem_cons_self
                        have h1 := HKI.out.ct
                        have h2 := nd_in (dn := dn) q2 (List.nodup_range (n := K)) (List.mem_range.2 q1)
                        exact ⟨gk - 1, by omega⟩
                    clear hpop hl0 hll
                    go_upto_region 38 with (first
                      | (go_at_call 26; (with_reducible refine HLEN.out.mono ?_; rintro z w2 ⟨rfl, hw2⟩; obtain rfl : wr = w2 := hw2.symm))
                      | (go_at_call 27; (with_reducible refine HPOP.out.mono ?_; rintro z w2 ⟨x, v2, l2, rfl, hrs2, hpm2, hhp2, hht2, hmin2⟩; have HRS2 := Lib.hid hrs2; have HPM2 := Lib.hid hpm2; have HHP2 := Lib.hid hhp2; have HHT2 := Lib.hid hht2; have HMIN2 := Lib.hid hmin2; clear hrs2 hpm2 hhp2 hht2 hmin2)))
                    clear hta hgt
                    have hxl : x ∈ l := HPM2.out.mem_iff.1 List.mem_cons_self
                    have hxK := HKI.out.num_lt x hxl
                    have hps2 := HPS.out.ht HRS2.out HHP2.out HHT2.out
                    have hnm2 := HNM.out.ht (blk_lt HNM.out.nm) HHT2.out
                    have hx0 : (0 : Int) ≤ (x : Int) := Int.natCast_nonneg x
                    have zn : w2.cell? ⟨bn, x, none⟩ = some (.int .i64 (num x : Nat)) := (blk_cell hnm2.nm x).trans (ints_get _ hxK)
                    have znf := blk_frozen hnm2.nm x
                    have HPS3 := Lib.hid (hps2.setNum hnm2 x (.int .i64 (n : Nat)))
                    have HNM3 := Lib.hid (hnm2.set x n)
                    have HXL := Lib.hid hxl
                    clear hps2 hnm2 HRS2 HHP2 HHT2 HPS HNM hxl
                    go_upto_region 39 with (fail)
                    clear zn znf
                    generalize w2.setCell ⟨bn, x, none⟩ (.int .i64 (n : Nat)) = W3 at HPS3 HNM3 ⊢
                    obtain ⟨ad, A0, c0, eA, hrow, hle, hF0⟩ := rowA (HPS3.out.old HTR.out) x hxK
                    subst eA
                    obtain ⟨t, ht⟩ : ∃ t, t = tn x := ⟨_, rfl⟩
                    have hgt3 : ((List.range K).map fun k => toI (tn k)).getD x [] = toI t := by
                      rw [ht, List.getD_eq_getElem?_getD, List.getElem?_map, List.getElem?_range hxK]; rfl
                    rw [hgt3, toI_len] at hrow hle hF0
                    have HF0 := Lib.hid hF0
                    have HT := Lib.hid ht
                    have htnd : t.Nodup := by rw [ht]; exact HKH2.out.tnn x hxK
                    have HTND := Lib.hid htnd
                    have htK : ∀ m, m ∈ t → m < K ∧ dn m = false ∧ 1 ≤ left m ∧ m ≠ x ∧ m ∉ l := fun m hm => HKI.out.told HKH2.out HXL.out (by rw [← ht]; exact hm)
                    have HTK := Lib.hid htK
                    have hl2n : l2.Nodup := (List.nodup_cons.1 (HPM2.out.nodup_iff.2 HKI.out.ln)).2
                    have hl2l : ∀ m, m ∈ t → m ∉ l2 := fun m hm q => (htK m hm).2.2.2.2 (HPM2.out.mem_iff.1 (List.mem_cons_of_mem _ q))
                    have HL2L := Lib.hid hl2l
                    have hlb : ∀ m, m < K → left m ≤ 1000 := fun m hm => by
                      rw [HKI.out.lf m hm]
                      refine Nat.le_trans (List.length_filter_le _ _) (Nat.le_trans (nodup_le (K := K) (HKH2.out.rn m hm) (fun y hy => ?_)) hKN)
                      obtain ⟨_, q, _, _, u, hu, e⟩ := (HKH2.out.rm m hm y).1 hy
                      exact e ▸ HKH2.out.cl u (HKH2.out.hN q (by assumption) u hu)
                    have HLB := Lib.hid hlb
                    have HKJ0 := Lib.hid (KJ.start t left hl2n)
                    clear hgt3 hF0 ht htnd htK hl2n hl2l hlb
                    go_wp2
                    go_loopg [153] t.length (fun kq v153 w' => ∃ (j : Nat) (left1 : Nat → Nat) (v1 : Value) (l1 : List Nat), j + kq = t.length ∧ v153 = .int .i64 (j : Nat) ∧ Hid (Kd.F kI w' (fun q => q < blf) A0 t.length (toI t)) ∧ Hid (PS B R bl blf K lw v1 l1 left1 W1 Wr w') ∧ Hid (NM R bn K (Tarj.upd num x n) v1 w') ∧ Hid (KJ t left l2 j left1 l1))
                    case atStart => exact ⟨0, _, _, _, by omega, rfl, HF0, HPS3, HNM3, HKJ0⟩
                    case round =>
                      obtain ⟨j, left1, v1, l1, hj, rfl, HF, HPS, HNM, HKJ⟩ := hrel
                      clear HPS3 HNM3 HKJ0 HF0
                      by_cases hlt : j < t.length
                      · obtain ⟨m, hm⟩ : ∃ m, m = t[j] := ⟨_, rfl⟩
                        have hmt : m ∈ t := by rw [hm]; exact List.getElem_mem hlt
                        obtain ⟨hmK, hmd, hml, hmx, _⟩ := HTK.out m hmt
                        obtain ⟨ad1, eA1, hz0⟩ := Kd.at_int (Kd.F_now HF.out) (j : Int) (Int.natCast_nonneg j) (Int.ofNat_lt.2 hlt)
                        subst eA1
                        rw [Int.toNat_natCast] at hz0
                        have hz1 : wr.cell? (ad1.add j) = some (.int .i64 (m : Nat)) := by
                          rw [hz0]; unfold rd; rw [Int.toNat_natCast, toI_get _ _ hlt, hm]
                        have hval : left1 m = left m := by rw [hm]; exact HKJ.out.val HTND.out hlt
                        have hl1 : 1 ≤ left1 m := by rw [hval]; exact hml
                        have hlm : left1 m ≤ 1000 := by rw [hval]; exact HLB.out m hmK
                        have zl : wr.cell? ⟨blf, m, none⟩ = some (.int .i64 (left1 m : Nat)) := (blk_cell HPS.out.lf m).trans (ints_get _ hmK)
                        have zlf := blk_frozen HPS.out.lf m
                        have hm0 : (0 : Int) ≤ (m : Int) := Int.natCast_nonneg m
                        have hlen := (Kd.F_now HF.out).2.1
                        have hwj : wrap64 ((j : Int) + 1) = ((j + 1 : Nat) : Int) := by simp only [wrap64]; omega
                        have hws : wrap64 ((left1 m : Int) - 1) = ((left1 m - 1 : Nat) : Int) := by simp only [wrap64]; omega
                        have hml2 : m ∉ l2 := HL2L.out m hmt
                        have HM := Lib.hid hm
                        have HML2 := Lib.hid hml2
                        have HJ := Lib.hid hj
                        obtain ⟨k2, rfl⟩ : ∃ k2, gk = k2 + 1 := ⟨gk - 1, by omega⟩
                        clear hz0 hval hl1 hlm hlen hml hmd hmx hml2 hmt hm hj
                        go_upto_region 43 with (fail)
                        have HPS5 := Lib.hid (HPS.out.setLeft m (left1 m - 1))
                        have HNM5 := Lib.hid (HNM.out.setLeft HPS.out.bb.2.1 m (.int .i64 ((left1 m - 1 : Nat))))
                        have HF5 := Lib.hid (Kd.F_far (p := ⟨blf, m, none⟩) HF.out (fun q hq e => by (have e' : q = blf := e); omega) (.int .i64 ((left1 m - 1 : Nat))))
                        clear zl zlf hws hz1
                        generalize wr.setCell ⟨blf, m, none⟩ (.int .i64 ((left1 m - 1 : Nat))) = W5 at HPS5 HNM5 HF5 ⊢
                        have zl : W5.cell? ⟨blf, m, none⟩ = some (.int .i64 ((left1 m - 1 : Nat) : Int)) := by
                          have := (blk_cell HPS5.out.lf m).trans (ints_get _ hmK)
                          rw [Tarj.upd_same] at this
                          exact this
                        by_cases h0 : left1 m - 1 = 0
                        · have hib : (((left1 m - 1 : Nat) : Int) == 0) = true := by rw [h0]; rfl
                          have hml1 : m ∉ l1 := by rw [HM.out]; exact HKJ.out.new HTND.out hlt (by rw [← HM.out]; exact HML2.out)
                          have hcn : (m :: l1).length ≤ K := nodup_le (List.nodup_cons.2 ⟨hml1, HKJ.out.ln⟩) (fun y hy => (List.mem_cons.1 hy).elim (fun e => e ▸ hmK) (fun q => HPS.out.rs.mem y q))
                          rw [List.length_cons] at hcn
                          have hpush := hpush_any HPS5.out.rs HPS5.out.hp m hmK (by omega) HPS5.out.hz
                          have HPUSH := Lib.hid hpush
                          have H0 := Lib.hid h0
                          clear hpush hcn hml1 h0
                          go_wp2_with (first
                            | (go_at_call 25; (with_reducible refine HPUSH.out.mono ?_; rintro z w7 ⟨rfl, v7, l7, hrs7, hpm7, hhp7, hht7⟩; have HRS7 := Lib.hid hrs7; have HPM7 := Lib.hid hpm7; have HHP7 := Lib.hid hhp7; have HHT7 := Lib.hid hht7; clear hrs7 hpm7 hhp7 hht7 zl)))
                          go_roundg k2
                          case measure => exact Nat.lt_succ_self _
                          case rel =>
                            refine ⟨j + 1, Tarj.upd left1 m (left1 m - 1), v7, l7, by rw [Nat.add_assoc, Nat.add_comm 1]; exact HJ.out, by first | rw [hwj] | simp [hwj], Lib.hid (Kd.F_step HF5.out (fun q hq hlt2 => HHT7.out.be.block q (by have := HPS5.out.bb; omega))), Lib.hid (HPS5.out.ht HRS7.out HHP7.out HHT7.out), Lib.hid (HNM5.out.ht (blk_lt HNM5.out.nm) HHT7.out), Lib.hid ?_⟩
                            have hm := HM.out
                            have := HKJ.out.step HTND.out hlt (by rw [← hm]; exact HML2.out) (l1 := l7) (by rw [← hm, if_pos H0.out]; exact HPM7.out)
                            rw [← hm] at this
                            exact this
                        · have hib : (((left1 m - 1 : Nat) : Int) == 0) = false := by simpa using h0
                          have H0 := Lib.hid h0
                          clear h0
                          go_wp2
                          go_roundg k2
                          case measure => exact Nat.lt_succ_self _
                          case rel =>
                            refine ⟨j + 1, Tarj.upd left1 m (left1 m - 1), v1, l1, by rw [Nat.add_assoc, Nat.add_comm 1]; exact HJ.out, by first | rw [hwj] | simp [hwj], HF5, HPS5, HNM5, Lib.hid ?_⟩
                            have hm := HM.out
                            have := HKJ.out.step HTND.out hlt (by rw [← hm]; exact HML2.out) (l1 := l1) (by rw [← hm, if_neg H0.out])
                            rw [← hm] at this
                            exact this
                      · have hje : t.length = j := by omega
                        have hKI2 := HKI.out.next HKH2.out HPM2.out HMIN2.out (left1 := left1) (l1 := l1) (by rw [← HT.out, hje]; exact HKJ.out)
                        have HKI2 := Lib.hid hKI2
                        clear hKI2 hje
                        go_wp2
                        go_roundg k1
                        case measure => exact Nat.lt_succ_self _
                        case rel => exact ⟨n + 1, _, _, left1, v1, l1, by rw [Nat.add_assoc, Nat.add_comm 1]; exact hn2, by first | rw [hw] | simp [hw], HPS, HNM, HKI2⟩
                  · have hln : l = [] := List.eq_nil_of_length_eq_zero (by omega)
                    subst hln
                    have hNmb := HKI.out.done HKH2.out
                    have HNMB := Lib.hid hNmb
                    have hgt : ¬ (((([] : List Nat).length : Nat) : Int) > 0) := by simp
                    have hbb := HPS.out.bb
                    have hofr := (HPS.out.fz bof (by have := HBOF.out.2; omega) (by have := HBOF.out.2; omega)).trans HBOF.out.1
                    rw [← mixF_zero num cls] at hofr
                    have HFIN := Lib.hid (show wr.heap[bof]? = some (.cells (ints g.length (mixF num cls 0)) 3 (0, 0)) ∧ wr.heap[bn]? = some (.cells (ints K num) 3 (0, 0)) ∧ Below B W1 wr from ⟨hofr, HNM.out.nm, HPS.out.be⟩)
                    have HNE := Lib.hid (show bof ≠ bn ∧ B ≤ bof from ⟨by have := HBOF.out.2; have := HNM.out.nb.1; omega, HBG.out⟩)
                    clear hNmb hl0 hll hbb hofr HPS HNM HKI
                    go_upto_region 46 with (first
                      | (go_at_call 26; (with_reducible refine HLEN.out.mono ?_; rintro z w2 ⟨rfl, hw2⟩; obtain rfl : wr = w2 := hw2.symm)))
                    go_wp2
                    go_loopg [176] g.length (fun kq v176 w' => ∃ (i : Nat), i + kq = g.length ∧ v176 = .int .i64 (i : Nat) ∧ Hid (w'.heap[bof]? = some (.cells (ints g.length (mixF num cls i)) 3 (0, 0)) ∧ w'.heap[bn]? = some (.cells (ints K num) 3 (0, 0)) ∧ Below B W1 w'))
                    case atStart => exact ⟨0, by omega, rfl, HFIN⟩
                    case round =>
                      obtain ⟨i, hi', rfl, HI⟩ := hrel
                      clear HFIN
                      by_cases hi : i < g.length
                      · have hcK := HKH2.out.cl i hi
                        have zo : wr.cell? ⟨bof, i, none⟩ = some (.int .i64 (cls i : Nat)) := by
                          have := (blk_cell HI.out.1 i).trans (ints_get _ hi)
                          rw [mixF_at] at this; exact this
                        have zof := blk_frozen HI.out.1 i
                        have zn : wr.cell? ⟨bn, cls i, none⟩ = some (.int .i64 (num (cls i) : Nat)) := (blk_cell HI.out.2.1 (cls i)).trans (ints_get _ hcK)
                        have hi0 : (0 : Int) ≤ (i : Int) := Int.natCast_nonneg i
                        have hc0 : (0 : Int) ≤ (cls i : Int) := Int.natCast_nonneg (cls i)
                        have hwi := pzS i (by omega)
                        obtain ⟨k1, rfl⟩ : ∃ k1, gk = k1 + 1 := ⟨gk - 1, by omega⟩
                        have HI2 := Lib.hid (show (wr.setCell ⟨bof, i, none⟩ (.int .i64 (num (cls i) : Nat))).heap[bof]? = some (.cells (ints g.length (mixF num cls (i + 1))) 3 (0, 0)) ∧ (wr.setCell ⟨bof, i, none⟩ (.int .i64 (num (cls i) : Nat))).heap[bn]? = some (.cells (ints K num) 3 (0, 0)) ∧ Below B W1 (wr.setCell ⟨bof, i, none⟩ (.int .i64 (num (cls i) : Nat))) from
                          ⟨by rw [← mixF_succ]; exact blk_put HI.out.1 i _ (ints_set _ _ _ _), blk_far HI.out.2.1 (Ne.symm HNE.out.1) _, HI.out.2.2.setCell (p := ⟨bof, i, none⟩) HNE.out.2 _⟩)
                        clear HI
                        go_wp2
                        go_roundg k1
                        case measure => exact Nat.lt_succ_self _
                        case rel => exact ⟨i + 1, by rw [Nat.add_assoc, Nat.add_comm 1]; exact hi', by first | rw [hwi] | simp [hwi], HI2⟩
                      · have hie : g.length = i := by omega
                        go_wp2
                        go_ret
                        refine ⟨bof, n, _, rfl, HNMB.out, HBB.out, ?_, HB1.out.trans (HI.out.2.2.mono HBG2.out)⟩
                        rw [HI.out.1]
                        congr 2
                        rw [← hie]
                        unfold ints
                        congr 1
                        apply List.map_congr_left
                        intro q hq
                        rw [List.mem_range] at hq
                        unfold mixF
                        rw [if_pos hq]
end Go.Proofs.Ytejhejpkfjhmkaa.Man

namespace Go.Proofs.Ytejhejpkfjhmkaa.Man
open Go.RowKit Go.Shelf Go.Proofs.Ytejhejpkfjhmkaa.Pr Go.Proofs.YtejhejpkfjhmkaaW.PrintWords Go.Proofs.YtejhejpkfjhmkaaW.PrintMore Go.Proofs.Ytejhejpkfjhmkaa.Tarj
attribute [local go_sem] Oper.semAt_some max2_int min2_int max_two min_two
set_option linter.unusedVariables false
set_option linter.unusedSimpArgs false
theorem toL_ints (N : Nat) (num : Nat → Nat) : (ints N num).toList = (toL N num).map (Value.int .i64) := by
  unfold ints toL; rw [List.map_map]; rfl
theorem R_ints {W : World} {b base N : Nat} {num : Nat → Nat} (h : W.heap[b]? = some (.cells (ints N num) 3 (0, 0))) (hb : base ≤ b) (hN : N ≤ 1000) : kI.R 3 W base (fun _ => True) (.slice (some ⟨b, 0, none⟩) N N) (toL N num) := by
  refine Kd.R_of_own ?_ (fun _ _ => trivial)
  have hs : (ints N num).size = N := by unfold ints; simp
  refine ⟨by show ((toL N num).map (Value.int .i64)).length = (toL N num).length * 1; simp, .inr ⟨b, N, ints N num, by rw [toL_len], hb, h, by rw [toL_len]; exact Nat.le_refl _, Nat.le_trans hN (by decide), by rw [hs]; omega, ?_⟩⟩
  rw [toL_len, toL_ints, List.take_of_length_le (by simp [toL_len])]
  rfl
theorem FD.own {B bo M : Nat} {v : Nat → Value} {r : Nat → List Nat} {W : World} (h : FD B bo M v r W) (hM : M ≤ 1000) : Kd.S kL 26 W B (fun _ => True) (.slice (some ⟨bo, 0, none⟩) M M) ((List.range M).map fun i => toI (r i)) := by
  classical
  let f : Nat → Nat := fun k => if q : ∃ i, i < M ∧ (v i).ownBlock = some k then Classical.choose q else 0
  have hf : ∀ i, i < M → ∀ k, (v i).ownBlock = some k → f k = i := fun i hi k hk => by
    have q : ∃ i, i < M ∧ (v i).ownBlock = some k := ⟨i, hi, hk⟩
    have e : f k = Classical.choose q := dif_pos q
    obtain ⟨h1, h2⟩ := Classical.choose_spec q
    rw [e]
    apply Classical.byContradiction
    intro hne
    exact h.d _ i h1 hi hne k h2 hk
  have hs : (vals M v).size = M := by unfold vals; simp
  refine ⟨f, fun _ _ => trivial, (List.range M).map v, ⟨by show ((List.range M).map v).length = (((List.range M).map fun i => toI (r i)).zipIdx).length * 1; simp, .inr ⟨bo, M, vals M v, by simp, h.b, h.o, by simp, Nat.le_trans hM (by decide), by rw [hs]; show M = M * 1; omega, ?_⟩⟩, ⟨by show ((List.range M).map v).length = (((List.range M).map fun i => toI (r i)).zipIdx).length * 1; simp, fun j p hp => ?_⟩⟩
  · unfold vals
    show ((List.range M).map v).take _ = _
    rw [List.take_of_length_le (by simp; show M ≤ M * 1; omega)]
  · rw [List.getElem?_zipIdx] at hp
    obtain ⟨x, hx, rfl⟩ := Option.map_eq_some_iff.1 hp
    obtain ⟨hj, rfl⟩ := List.getElem?_eq_some_iff.1 hx
    have hj' : j < M := by simpa using hj
    simp only [List.getElem_map, List.getElem_range]
    refine ⟨v j, ?_, ?_⟩
    · show (((List.range M).map v).drop (j * 1)).take 1 = [v j]
      rw [Nat.mul_one, List.drop_eq_getElem_cons (by simpa using hj'), List.take_succ_cons, List.take_zero]
      simp
    · refine Kd.R_reok rfl (h.r j hj') (fun k hk => ⟨⟨trivial, fun e => ?_⟩, by rw [hf j hj' k hk]; simp⟩)
      have : k = bo := by simpa [Value.ownBlock] using e
      exact (h.r j hj').1 k hk this
set_option maxRecDepth 100000 in
set_option maxHeartbeats 8000000 in
theorem of_no (k : Nat) (g : List (List Int)) (A : Option Addr) (c : Nat) (w : World) (hc : g.length ≤ c) (hC : kL.C w A g.length g) (hm : graph_May.f k g = some false) :
    Calls Try.prog 10 #[.slice A g.length c] w fun e w' => e = .returned (.slice none 0 0) ∧ Below w.heap.size w w' := by
  have HM := Lib.hid (graph_May.calls k A c g false w hC hc hm)
  clear hC
  go_enter Try.func10, Try.ntmps10
  go_wp2_with (first
    | (go_at_call 21; (with_reducible refine HM.out.mono ?_; rintro z w1 ⟨rfl, hdr⟩; have HB := Lib.hid hdr.below; clear hdr)))
  go_ret
  exact ⟨rfl, HB.out⟩
theorem of_block (g : List (List Int)) (hm : mayB g = true) (A : Option Addr) (c : Nat) (W : World) (hC : kL.C W A g.length g) (hc : g.length ≤ c) :
    Calls Try.prog 10 #[.slice A g.length c] W fun e W' => ∃ bo, e = .returned (.slice (some ⟨bo, 0, none⟩) g.length g.length) ∧ W.heap.size ≤ bo ∧ W'.heap[bo]? = some (.cells (ints g.length (numN g)) 3 (0, 0)) ∧ Below W.heap.size W W' := by
  obtain ⟨kM, hk⟩ := gmay_ev g (may_gok hm).sm
  rw [hm] at hk
  refine (of_try g (may_gok hm) A c kM W hC hc (hk kM (Nat.le_refl _))).mono ?_
  rintro e W' ⟨bo, M, num, rfl, h1, h2, h3, h4⟩
  refine ⟨bo, rfl, h2, ?_, h4⟩
  rw [h3]
  have := (of_eq hm h1).2.1
  congr 2
  unfold ints
  congr 1
  apply List.map_congr_left
  intro x hx
  rw [this x (List.mem_range.1 hx)]
theorem of_any (g : List (List Int)) (hs : Sm g) (A : Option Addr) (c : Nat) (W : World) (hC : kL.C W A g.length g) (hc : g.length ≤ c) :
    Calls Try.prog 10 #[.slice A g.length c] W fun e W' => ∃ v, e = .returned v ∧ kI.R 3 W' W.heap.size (fun _ => True) v (ofF g) ∧ Below W.heap.size W W' := by
  by_cases hm : mayB g = true
  · refine (of_block g hm A c W hC hc).mono ?_
    rintro e W' ⟨bo, rfl, h2, h3, h4⟩
    refine ⟨_, rfl, ?_, h4⟩
    unfold ofF
    rw [if_pos hm]
    exact R_ints h3 h2 (mayB_spec hm).1
  · obtain ⟨kM, hk⟩ := gmay_ev g hs
    rw [Bool.eq_false_iff.2 hm] at hk
    refine (of_no kM g A c W hc hC (hk kM (Nat.le_refl _))).mono ?_
    rintro e W' ⟨rfl, h⟩
    refine ⟨_, rfl, ?_, h⟩
    unfold ofF
    rw [if_neg hm]
    exact Kd.R_nil _ _ _ _ _
set_option maxRecDepth 100000 in
set_option maxHeartbeats 8000000 in
theorem many_any (g : List (List Int)) (hs : Sm g) (A : Option Addr) (c : Nat) (W : World) (hC : kL.C W A g.length g) (hc : g.length ≤ c) :
    Calls Try.prog 12 #[.slice A g.length c] W fun e W' => e = .returned (.int .i64 (manyF g)) ∧ Below W.heap.size W W' := by
  have HOF := Lib.hid (of_any g hs A c W hC hc)
  obtain ⟨N, num, hN, hb, hL, hM⟩ : ∃ N num, N ≤ 1000 ∧ (∀ x, x < N → num x ≤ 1000) ∧ ofF g = toL N num ∧ manyF g = ((pmx num N : Nat) : Int) := by
    by_cases hm : mayB g = true
    · have h := numN_ok hm
      have hml := many_le hm
      have hN := (mayB_spec hm).1
      refine ⟨g.length, numN g, hN, fun x hx => by have := h.lt x hx; omega, by unfold ofF; rw [if_pos hm], ?_⟩
      rw [pmx_all h]; rfl
    · refine ⟨0, fun _ => 0, by omega, fun x hx => absurd hx (Nat.not_lt_zero _), by unfold ofF; rw [if_neg hm]; rfl, ?_⟩
      unfold manyF; rw [many_no hm]; rfl
  rw [hL] at HOF
  rw [hM]
  have HBD := Lib.hid hb
  clear hL hM hC hb
  go_enter Try.func12, Try.ntmps12
  go_upto_region 2 with (fail)
  go_wp2_with (first
    | (go_at_call 10; (with_reducible refine HOF.out.mono ?_; rintro z w1 ⟨v1, rfl, hr1, hb1⟩; obtain ⟨A1, c1, e1⟩ := Kd.R_slice hr1; rw [toL_len] at e1; subst e1; have HR1 := Lib.hid hr1; have HB1 := Lib.hid hb1; clear hr1 hb1)))
  go_loopg [3, 9] N (fun kq v3 v9 w' => ∃ (i : Nat), i + kq = N ∧ v9 = .int .i64 (i : Nat) ∧ v3 = .int .i64 (pmx num i : Nat) ∧ w' = w1)
  case atStart => exact ⟨0, by omega, rfl, rfl, rfl⟩
  case round =>
    obtain ⟨i, hi', rfl, rfl, rfl⟩ := hrel
    by_cases hi : i < N
    · obtain ⟨A2, c2, e2, _, hC2⟩ := Kd.R_reads HR1.out
      rw [toL_len] at e2
      cases e2
      obtain ⟨ad, eA, hz⟩ := Kd.at_int hC2 (i : Int) (Int.natCast_nonneg i) (by rw [toL_len]; exact Int.ofNat_lt.2 hi)
      subst eA
      rw [Int.toNat_natCast, toL_rd hi] at hz
      have hi0 : (0 : Int) ≤ (i : Int) := Int.natCast_nonneg i
      have hn := HBD.out i hi
      have hw := pzS i (by omega)
      have hwn := pzS (num i) hn
      obtain ⟨k1, rfl⟩ : ∃ k1, gk = k1 + 1 := ⟨gk - 1, by omega⟩
      clear hC2 hn
      by_cases hq : pmx num i < num i + 1
      · have hq' : ((pmx num i : Nat) : Int) < ((num i : Nat) : Int) + 1 := by omega
        have hp : pmx num (i + 1) = num i + 1 := by rw [show pmx num (i + 1) = max (pmx num i) (num i + 1) from rfl]; omega
        clear hq
        go_wp2
        go_roundg k1
        case measure => exact Nat.lt_succ_self _
        case rel => exact ⟨i + 1, by rw [Nat.add_assoc, Nat.add_comm 1]; exact hi', by first | rw [hw] | simp [hw], congrArg (Value.int .i64) (by rw [hp]; omega), rfl⟩
      · have hq' : ¬ ((pmx num i : Nat) : Int) < ((num i : Nat) : Int) + 1 := by omega
        have hp : pmx num (i + 1) = pmx num i := by rw [show pmx num (i + 1) = max (pmx num i) (num i + 1) from rfl]; omega
        clear hq
        go_wp2
        go_roundg k1
        case measure => exact Nat.lt_succ_self _
        case rel => exact ⟨i + 1, by rw [Nat.add_assoc, Nat.add_comm 1]; exact hi', by first | rw [hw] | simp [hw], congrArg (Value.int .i64) (by rw [hp]), rfl⟩
    · have hie : i = N := by omega
      subst hie
      go_wp2
      go_ret
      exact ⟨rfl, HB1.out⟩
theorem rises_ext : ∀ (a b : List Nat), a.Pairwise (· < ·) → b.Pairwise (· < ·) → (∀ x, x ∈ a ↔ x ∈ b) → a = b
  | [], [], _, _, _ => rfl
  | [], y :: b, _, _, h => by cases (h y).2 List.mem_cons_self
  | x :: a, [], _, _, h => by cases (h x).1 List.mem_cons_self
  | x :: a, y :: b, ha, hb, h => by
    obtain ⟨a1, a2⟩ := List.pairwise_cons.1 ha
    obtain ⟨b1, b2⟩ := List.pairwise_cons.1 hb
    have e : x = y := by
      rcases List.mem_cons.1 ((h x).1 List.mem_cons_self) with q | q
      · exact q
      · rcases List.mem_cons.1 ((h y).2 List.mem_cons_self) with w | w
        · exact w.symm
        · have := b1 x q; have := a1 y w; omega
    subst e
    congr 1
    refine rises_ext a b a2 b2 (fun z => ?_)
    constructor
    · intro hz
      rcases List.mem_cons.1 ((h z).1 (List.mem_cons_of_mem _ hz)) with q | q
      · have := a1 z hz; omega
      · exact q
    · intro hz
      rcases List.mem_cons.1 ((h z).2 (List.mem_cons_of_mem _ hz)) with q | q
      · have := b1 z hz; omega
      · exact q
open Classical in
theorem foldF_rows {g : List (List Int)} (hm : mayB g = true) : foldF g = (List.range (manyN g)).map fun i => toI (rowK (adjF g) g.length (numN g) i) := by
  unfold foldF
  apply List.map_congr_left
  intro k _
  unfold foldR toI
  congr 1
  refine rises_ext _ _ ((List.pairwise_lt_range).filter _) (cmpN_rises _) (fun x => ?_)
  rw [List.mem_filter, List.mem_range, decide_eq_true_iff]
  unfold rowK
  rw [cmpN_mem, rowsAt_mem]
  constructor
  · exact fun h => h.2
  · rintro ⟨h1, x', hx, e, y, hy, e2⟩
    exact ⟨by rw [← e2]; exact (numN_ok hm).lt y ((may_gok hm).adj x' hx y hy), h1, x', hx, e, y, hy, e2⟩
set_option maxRecDepth 100000 in
set_option maxHeartbeats 8000000 in
theorem fold_no (k : Nat) (g : List (List Int)) (A : Option Addr) (c : Nat) (w : World) (hc : g.length ≤ c) (hC : kL.C w A g.length g) (hm : graph_May.f k g = some false) :
    Calls Try.prog 15 #[.slice A g.length c] w fun e w' => e = .returned (.slice none 0 0) ∧ Below w.heap.size w w' := by
  have HM := Lib.hid (graph_May.calls k A c g false w hC hc hm)
  clear hC
  go_enter Try.func15, Try.ntmps15
  go_wp2_with (first
    | (go_at_call 21; (with_reducible refine HM.out.mono ?_; rintro z w1 ⟨rfl, hdr⟩; have HB := Lib.hid hdr.below; clear hdr)))
  go_ret
  exact ⟨rfl, HB.out⟩
set_option maxRecDepth 100000 in
set_option maxHeartbeats 8000000 in
theorem fold_yes (k : Nat) (g : List (List Int)) (hm : mayB g = true) (A : Option Addr) (c : Nat) (w : World) (hc : g.length ≤ c) (hC : kL.C w A g.length g) (hk : graph_May.f k g = some true) :
    Calls Try.prog 15 #[.slice A g.length c] w fun e w' => ∃ v, e = .returned v ∧ Kd.S kL 26 w' w.heap.size (fun _ => True) v (foldF g) ∧ Below w.heap.size w w' := by
  have HC := Lib.hid hC
  have HM := Lib.hid (graph_May.calls k A c g true w hC hc hk)
  have hgo := may_gok hm
  have hMN : manyN g ≤ 1000 := Nat.le_trans (many_le hm) (mayB_spec hm).1
  have HOF := Lib.hid (fun (w1 : World) (h : kL.C w1 A g.length g) => of_block g hm A c w1 h hc)
  have HMN := Lib.hid (fun (w1 : World) (h : kL.C w1 A g.length g) => many_any g hgo.sm A c w1 h hc)
  rw [foldF_rows hm]
  have emn : manyF g = ((manyN g : Nat) : Int) := rfl
  have HFD := Lib.hid (fun (w3 : World) (bof : Nat) (h : Kd.F kL w3 (fun q => q < w3.heap.size) A g.length g) (ho : w3.heap[bof]? = some (.cells (ints g.length (numN g)) 3 (0, 0))) => fold_any g hgo A c bof (manyN g) (numN g) w3 h ho hMN (numN_ok hm).lt hc)
  rw [show (fun i => cmpN (rowsAt (numN g) (adjF g) g.length i)) = rowK (adjF g) g.length (numN g) from rfl] at HFD
  rw [emn] at HMN
  clear hC hgo emn
  have HB := Lib.hid (Below.refl w.heap.size w)
  go_enter Try.func15, Try.ntmps15
  go_wp2_with (first
    | (go_at_call 21; (with_reducible refine HM.out.mono ?_; rintro z w1 ⟨rfl, hdr⟩; have HB := Lib.hid hdr.below; clear hdr))
    | (go_at_call 10; (with_reducible refine (HOF.out _ (Kd.C_below HC.out HB.out)).mono ?_; rintro z w2 ⟨bof, rfl, hlo, hbf, hb2⟩; have HB := Lib.hid (below_step HB.out hb2); have HBF := Lib.hid hbf; clear hlo hbf hb2))
    | (go_at_call 12; (with_reducible refine (HMN.out _ (Kd.C_below HC.out HB.out)).mono ?_; rintro z w3 ⟨rfl, hb3⟩; have HB := Lib.hid (below_step HB.out hb3); have HBF := Lib.hid (blk_below HBF.out hb3); clear hb3))
    | (go_at_call 23; (with_reducible refine (HFD.out _ _ (Kd.C_F (Kd.heap_slice 3 (Kd.heap_int .i64)) (Kd.C_below HC.out HB.out)) HBF.out).mono ?_; rintro z w4 ⟨bo, rfl, ⟨v4, hfd⟩, hb4⟩; have HFR := Lib.hid (hfd.own hMN); have HSZ := Lib.hid HB.out.size; have HB := Lib.hid (below_step HB.out hb4); clear hfd hb4)))
  go_ret
  exact ⟨_, rfl, Kd.S_lower HFR.out HSZ.out, HB.out⟩
theorem fold_anyS (g : List (List Int)) (hs : Sm g) (A : Option Addr) (c : Nat) (w : World) (hC : kL.C w A g.length g) (hc : g.length ≤ c) :
    Calls Try.prog 15 #[.slice A g.length c] w fun e w' => ∃ v, e = .returned v ∧ Kd.S kL 26 w' w.heap.size (fun _ => True) v (foldF g) ∧ Below w.heap.size w w' := by
  obtain ⟨kM, hk⟩ := gmay_ev g hs
  by_cases hm : mayB g = true
  · rw [hm] at hk
    exact fold_yes kM g hm A c w hc hC (hk kM (Nat.le_refl _))
  · rw [Bool.eq_false_iff.2 hm] at hk
    refine (fold_no kM g A c w hc hC (hk kM (Nat.le_refl _))).mono ?_
    rintro e W' ⟨rfl, h⟩
    refine ⟨_, rfl, ?_, h⟩
    have : foldF g = [] := by unfold foldF; rw [many_no hm]; rfl
    rw [this]
    exact Kd.S_nil _ _ _ _ _
end Go.Proofs.Ytejhejpkfjhmkaa.Man

-- Written by wip/xprint.py (the kit's print, run over this seat with some contracts of my own). Not trusted: Lean checks it.
namespace Go.Proofs.Ytejhejpkfjhmkaa.Pr
open Go.RowKit Go.Proofs.YtejhejpkfjhmkaaW.PrintWords Go.Proofs.YtejhejpkfjhmkaaW.PrintLast Go.Proofs.YtejhejpkfjhmkaaW.PrintMore
attribute [local go_sem] max2_int min2_int max_two min_two max_three min_three max_four min_four   -- for this text's walks alone
set_option linter.unusedVariables false
set_option linter.unusedSimpArgs false
open Classical in
noncomputable def scc_Of.f (k : Nat) (l0 : List (List Int)) : Option (List Int) := if Man.Sm l0 then some (Man.ofF l0) else none
theorem scc_Of.calls (k : Nat) (A0 : Option Addr) (c0 : Nat) (l0 : List (List Int)) (r : List Int) (w : World) (hr0 : Kd.C (Kd.slice 3 (Kd.int .i64)) w A0 l0.length l0) (hc0 : l0.length ≤ c0) (h : scc_Of.f k l0 = some r) :
    Calls Try.prog 10 #[.slice A0 l0.length c0] w fun e w' => ∃ v0_ : Value, e = .returned (v0_) ∧ Kd.R (Kd.int .i64) 3 w' w.heap.size (fun _ => True) v0_ r ∧ Below w.heap.size w w' :=
  by
  unfold scc_Of.f at h
  split at h
  · next hN =>
    cases h
    exact Man.of_any l0 hN A0 c0 w hr0 hc0
  · cases h
end Go.Proofs.Ytejhejpkfjhmkaa.Pr

-- Written by wip/xprint.py (the kit's print, run over this seat with some contracts of my own). Not trusted: Lean checks it.
namespace Go.Proofs.Ytejhejpkfjhmkaa.Pr
open Go.RowKit Go.Proofs.YtejhejpkfjhmkaaW.PrintWords Go.Proofs.YtejhejpkfjhmkaaW.PrintLast Go.Proofs.YtejhejpkfjhmkaaW.PrintMore
attribute [local go_sem] max2_int min2_int max_two min_two max_three min_three max_four min_four   -- for this text's walks alone
set_option linter.unusedVariables false
set_option linter.unusedSimpArgs false
open Classical in
noncomputable def scc_Many.f (k : Nat) (l0 : List (List Int)) : Option (Int) := if Man.Sm l0 then some (Man.manyF l0) else none
theorem scc_Many.calls (k : Nat) (A0 : Option Addr) (c0 : Nat) (l0 : List (List Int)) (r : Int) (w : World) (hr0 : Kd.C (Kd.slice 3 (Kd.int .i64)) w A0 l0.length l0) (hc0 : l0.length ≤ c0) (h : scc_Many.f k l0 = some r) :
    Calls Try.prog 12 #[.slice A0 l0.length c0] w fun e w' => e = .returned (.int .i64 r) ∧ Below w.heap.size w w' :=
  by
  unfold scc_Many.f at h
  split at h
  · next hN =>
    cases h
    exact Man.many_any l0 hN A0 c0 w hr0 hc0
  · cases h
end Go.Proofs.Ytejhejpkfjhmkaa.Pr

-- Written by wip/xprint.py (the kit's print, run over this seat with some contracts of my own). Not trusted: Lean checks it.
namespace Go.Proofs.Ytejhejpkfjhmkaa.Pr
open Go.RowKit Go.Proofs.YtejhejpkfjhmkaaW.PrintWords Go.Proofs.YtejhejpkfjhmkaaW.PrintLast Go.Proofs.YtejhejpkfjhmkaaW.PrintMore
attribute [local go_sem] max2_int min2_int max_two min_two max_three min_three max_four min_four   -- for this text's walks alone
set_option linter.unusedVariables false
set_option linter.unusedSimpArgs false
open Classical in
noncomputable def scc_Fold.f (k : Nat) (l0 : List (List Int)) : Option ((List (List Int))) := if Man.Sm l0 then some (Man.foldF l0) else none
theorem scc_Fold.calls (k : Nat) (A0 : Option Addr) (c0 : Nat) (l0 : List (List Int)) (r : List (List Int)) (w : World) (hr0 : Kd.C (Kd.slice 3 (Kd.int .i64)) w A0 l0.length l0) (hc0 : l0.length ≤ c0) (h : scc_Fold.f k l0 = some r) :
    Calls Try.prog 15 #[.slice A0 l0.length c0] w fun e w' => ∃ v0_ : Value, e = .returned (v0_) ∧ Kd.S (Kd.slice 3 (Kd.int .i64)) 26 w' w.heap.size (fun _ => True) v0_ r ∧ Below w.heap.size w w' :=
  by
  unfold scc_Fold.f at h
  split at h
  · next hN =>
    cases h
    exact Man.fold_anyS l0 hN A0 c0 w hr0 hc0
  · cases h
end Go.Proofs.Ytejhejpkfjhmkaa.Pr
