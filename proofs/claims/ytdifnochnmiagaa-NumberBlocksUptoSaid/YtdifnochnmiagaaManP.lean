import Derived.Test.YtdifnochnmiagaaManO
import Derived.Lib.LazyBuf
namespace Go.Proofs.Ytdifnochnmiagaa.Man
open Go.RowKit Go.Shelf Go.Proofs.Ytdifnochnmiagaa.Pr Go.Proofs.YtdifnochnmiagaaW.PrintWords
attribute [local go_sem] Oper.semAt_some
set_option linter.unusedVariables false
set_option linter.unusedSimpArgs false

/-- A block of one's own that is new in a round: where it lies, and what it holds. -/
def NewAt (W w' : World) (v : Value) (cs : List Value) (B : Nat) : Prop := v = .pointer (some ⟨B, 0, none⟩) ∧ W.heap.size ≤ B ∧ w'.heap[B]? = some (.cells cs.toArray 36 (0, 0))
def zeros : List Value := [.int .i64 0, .string ⟨#[]⟩, .string ⟨#[]⟩, .string ⟨#[]⟩, .slice none 0 0, .slice none 0 0, .slice none 0 0, .slice none 0 0]
theorem store_whole (W : World) (B : Nat) (zs cs : List Value) (hB : W.heap[B]? = some (.cells zs.toArray 36 (0, 0))) (hz : zs.length = 8) (hc : cs.length = 8) (h1 : ∀ u ∈ cs, u.oneCell' = true) :
    (Instr.storeAt 36 (.pointer (some ⟨B, 0, none⟩)) (.agg cs.toArray)).run Try.prog W = .ok () (W.setCells B 0 cs) ∧ (W.setCells B 0 cs).heap[B]? = some (.cells cs.toArray 36 (0, 0)) ∧ (∀ j o, j ≠ B → W.heap[j]? = some o → (W.setCells B 0 cs).heap[j]? = some o) := by
  have hcell : ∀ j, W.cell? ⟨B, j, none⟩ = zs.toArray[j]? := fun j => by simp [World.cell?, hB]
  have hth : W.there B 0 8 := fun j hj => by
    refine ⟨?_, by simp [World.frozen?, hB]⟩
    rw [hcell, Array.getElem?_eq_getElem (by simp; omega)]; rfl
  have e1 := run_storeCells_cells (P := Try.prog) B 0 cs 0 W (fun j hj => by simpa using (hth j (by omega)).1) (fun j hj => by simpa using (hth j (by omega)).2) h1
  have e2 := run_storeCells_at (P := Try.prog) B 0 36 cs 0 zs.toArray W hB (by simp; omega) h1
  have e3 : W.setCells B 0 cs = W.setRow B cs.toArray := by
    have := e1.symm.trans e2
    simp only [Nat.add_zero, Result.ok.injEq, true_and, Nat.zero_add] at this
    rw [this]
    congr 1
    apply Array.ext'
    simp [hz, hc]
  refine ⟨?_, ?_, fun j o hj ho => ?_⟩
  · exact run_storeAt_mid W B 0 36 cs.toArray (by simpa [hc] using hth) (by have := info36; simp [hc]; rcases h : Try.prog.info? 36 with _ | i <;> rw [h] at this <;> simp at this ⊢; exact this.2.1) (by simpa using h1)
  · rw [e3]; exact setRow_heap W B zs.toArray _ 36 _ hB
  · rw [e3, setRow_other W B j _ hj]; exact ho
theorem exec_store {ev : Operand → Value} {o : Oper} {t : TypeId} {x y : Operand} (ho : o.op = .store t x y) {P : Program} {w X : World} (h : (Instr.storeAt t (ev x) (ev y)).run P w = .ok () X) : (execOp ev o).run P w = .ok .skip X := by
  unfold execOp
  rw [ho]
  simp only [Sem.run_bind, h, Result.andThen_ok, Sem.run_pure]
structure SmS (W : World) (V : Nat → Value) (cs0 cs1 : List Value) (done : Nat → Bool) (val : Nat → Value) (w' : World) : Prop where
  be : Below W.heap.size W w'
  v : ∀ j, j < 8 → done j = true → val j = V j
  x : done 8 = true → ∃ B, NewAt W w' (val 8) (if done 10 then cs0 else zeros) B
  y : done 9 = true → ∃ C, NewAt W w' (val 9) (if done 11 then cs1 else zeros) C
  ne : done 8 = true → done 9 = true → val 8 ≠ val 9
  w8 : done 10 = true → done 8 = true
  w9 : done 11 = true → done 9 = true
theorem SmS.step {W : World} {V : Nat → Value} {cs0 cs1 : List Value} {done : Nat → Bool} {val : Nat → Value} {w' : World} (h : SmS W V cs0 cs1 done val w') (i : Nat) (r : Value) (hi : i < 8) (hr : r = V i) : SmS W V cs0 cs1 (upd done i) (setv val i r) w' := by
  have e8 : upd done i 8 = done 8 := by unfold upd; rw [if_neg (by omega)]
  have e9 : upd done i 9 = done 9 := by unfold upd; rw [if_neg (by omega)]
  have e10 : upd done i 10 = done 10 := by unfold upd; rw [if_neg (by omega)]
  have e11 : upd done i 11 = done 11 := by unfold upd; rw [if_neg (by omega)]
  have f8 : setv val i r 8 = val 8 := by unfold setv; rw [if_neg (by omega)]
  have f9 : setv val i r 9 = val 9 := by unfold setv; rw [if_neg (by omega)]
  refine ⟨h.be, fun j hj hd => ?_, by rw [e8, e10, f8]; exact h.x, by rw [e9, e11, f9]; exact h.y, by rw [e8, e9, f8, f9]; exact h.ne, by rw [e8, e10]; exact h.w8, by rw [e9, e11]; exact h.w9⟩
  unfold setv upd at *
  by_cases e : j = i
  · rw [if_pos e]; rw [e]; exact hr
  · rw [if_neg e]; rw [if_neg e] at hd; exact h.v j hj hd
theorem cell_up {w w' : World} (h : Below w.heap.size w w') {p : Addr} {v : Value} (hx : w.cell? p = some v) : w'.cell? p = some v := by
  rw [h.cell (p := p) ?_]; · exact hx
  apply Classical.byContradiction
  intro hn
  rw [World.cell?, Array.getElem?_eq_none (by omega)] at hx
  cases hx
theorem grown_new {W : World} {o : Obj} {B : Nat} {p : Obj} (h : W.heap[B]? = some p) : (W.alloc o).heap[B]? = some p := by
  have := (Array.getElem?_eq_some_iff.1 h).1
  simp only [World.alloc, Array.getElem?_push]
  rw [if_neg (by omega)]; exact h
theorem SmS.alloc {W : World} {V : Nat → Value} {cs0 cs1 : List Value} {done : Nat → Bool} {val : Nat → Value} {w' : World} (h : SmS W V cs0 cs1 done val w') (i : Nat) (hdi : done i = false) (hi' : (i = 8) ∨ (i = 9)) :
    SmS W V cs0 cs1 (upd done i) (setv val i (.pointer (some ⟨w'.heap.size, 0, none⟩))) (w'.alloc (.cells zeros.toArray 36)) := by
  have hn := h.be.size
  have hi : (i = 8 ∧ done 10 = false) ∨ (i = 9 ∧ done 11 = false) := by
    rcases hi' with rfl | rfl
    · exact .inl ⟨rfl, by cases hd : done 10 with | false => rfl | true => (rw [h.w8 hd] at hdi; cases hdi)⟩
    · exact .inr ⟨rfl, by cases hd : done 11 with | false => rfl | true => (rw [h.w9 hd] at hdi; cases hdi)⟩
  refine ⟨h.be.alloc hn _, fun j hj hd => ?_, fun hd => ?_, fun hd => ?_, fun hd1 hd2 e => ?_, fun hd => ?_, fun hd => ?_⟩
  · unfold setv; rw [if_neg (by omega)]; unfold upd at hd; rw [if_neg (by omega)] at hd; exact h.v j hj hd
  · rcases hi with ⟨rfl, h0⟩ | ⟨rfl, h0⟩
    · exact ⟨w'.heap.size, rfl, hn, by rw [show upd done 8 10 = done 10 from rfl, h0]; exact World.alloc_heap_new _ _⟩
    · obtain ⟨B, h1, h2, h3⟩ := h.x hd
      exact ⟨B, h1, h2, grown_new h3⟩
  · rcases hi with ⟨rfl, h0⟩ | ⟨rfl, h0⟩
    · obtain ⟨B, h1, h2, h3⟩ := h.y hd
      exact ⟨B, h1, h2, grown_new h3⟩
    · exact ⟨w'.heap.size, rfl, hn, by rw [show upd done 9 11 = done 11 from rfl, h0]; exact World.alloc_heap_new _ _⟩
  · rcases hi with ⟨rfl, h0⟩ | ⟨rfl, h0⟩
    · obtain ⟨B, h1, h2, h3⟩ := h.y hd2
      have e2 : Value.pointer (some ⟨w'.heap.size, 0, none⟩) = val 9 := e
      rw [h1] at e2; simp only [Value.pointer.injEq, Option.some.injEq, Addr.mk.injEq] at e2
      have := (Array.getElem?_eq_some_iff.1 h3).1; omega
    · obtain ⟨B, h1, h2, h3⟩ := h.x hd1
      have e2 : val 8 = Value.pointer (some ⟨w'.heap.size, 0, none⟩) := e
      rw [h1] at e2; simp only [Value.pointer.injEq, Option.some.injEq, Addr.mk.injEq] at e2
      have := (Array.getElem?_eq_some_iff.1 h3).1; omega
  · unfold upd at hd ⊢; rw [if_neg (by omega)] at hd; split; · rfl
    · exact h.w8 hd
  · unfold upd at hd ⊢; rw [if_neg (by omega)] at hd; split; · rfl
    · exact h.w9 hd
theorem SmS.store {W : World} {V : Nat → Value} {cs0 cs1 : List Value} {done : Nat → Bool} {val : Nat → Value} {w' : World} (h : SmS W V cs0 cs1 done val w') (i : Nat) (hi : (i = 10 ∧ done 8 = true ∧ done 10 = false) ∨ (i = 11 ∧ done 9 = true ∧ done 11 = false))
    (h0 : cs0.length = 8 ∧ ∀ u ∈ cs0, u.oneCell' = true) (h1 : cs1.length = 8 ∧ ∀ u ∈ cs1, u.oneCell' = true) : ∃ B X, val (i - 2) = .pointer (some ⟨B, 0, none⟩) ∧
      (Instr.storeAt 36 (.pointer (some ⟨B, 0, none⟩)) (.agg (if i = 10 then cs0 else cs1).toArray)).run Try.prog w' = .ok () X ∧ SmS W V cs0 cs1 (upd done i) (setv val i undef) X := by
  have hz : zeros.length = 8 := rfl
  rcases hi with ⟨rfl, h8, h10⟩ | ⟨rfl, h9, h11⟩
  · obtain ⟨B, hv, hB, hb⟩ := h.x h8
    rw [if_neg (by rw [h10]; simp)] at hb
    obtain ⟨r1, r2, r3⟩ := store_whole w' B zeros cs0 hb hz h0.1 h0.2
    refine ⟨B, _, hv, r1, below_setCells hB _ _ _ h.be, fun j hj hd => ?_, fun _ => ⟨B, hv, hB, r2⟩, fun hd => ?_, h.ne, fun _ => h8, h.w9⟩
    · unfold setv; rw [if_neg (by omega)]; unfold upd at hd; rw [if_neg (by omega)] at hd; exact h.v j hj hd
    · obtain ⟨C, k1, k2, k3⟩ := h.y hd
      refine ⟨C, k1, k2, r3 C _ ?_ k3⟩
      intro e; subst e; exact h.ne h8 hd (hv.trans k1.symm)
  · obtain ⟨B, hv, hB, hb⟩ := h.y h9
    rw [if_neg (by rw [h11]; simp)] at hb
    obtain ⟨r1, r2, r3⟩ := store_whole w' B zeros cs1 hb hz h1.1 h1.2
    refine ⟨B, _, hv, r1, below_setCells hB _ _ _ h.be, fun j hj hd => ?_, fun hd => ?_, fun _ => ⟨B, hv, hB, r2⟩, h.ne, h.w8, fun _ => h9⟩
    · unfold setv; rw [if_neg (by omega)]; unfold upd at hd; rw [if_neg (by omega)] at hd; exact h.v j hj hd
    · obtain ⟨C, k1, k2, k3⟩ := h.x hd
      refine ⟨C, k1, k2, r3 C _ ?_ k3⟩
      intro e; subst e; exact h.ne hd h9 (k1.trans hv.symm)
set_option maxRecDepth 100000 in
set_option maxHeartbeats 4000000 in
theorem same_in (n : Nat) : ∀ (l : List S36) (hn : (flat l).length ≤ n) (w : World) (A0 : Option Addr) (c0 : Nat) (A1 : Option Addr) (c1 : Nat) (hc0 : l.length ≤ c0) (hr0 : Kd.C k36 w A0 l.length l) (hc1 : l.length ≤ c1) (hr1 : Kd.C k36 w A1 l.length l) (ht : tame l),
    Calls Try.prog 15 #[.slice A0 l.length c0, .slice A1 l.length c1] w fun e w' => e = .returned (.bool true) ∧ Below w.heap.size w w' := by
  induction n using Nat.strongRecOn with
  | _ n ih =>
  intro l hn w A0 c0 A1 c1 hc0 hr0 hc1 hr1 ht
  have HR0 := Lib.hid hr0
  have HR1 := Lib.hid hr1
  have HT := Lib.hid ht
  have IH := Lib.hid ih
  have HB := Lib.hid (Below.refl w.heap.size w)
  have HL := Lib.hid ht.1
  have HN := Lib.hid hn
  have hnn : (l.length != l.length) = false := by simp
  have hnn2 : ((l.length : Int) != (l.length : Int)) = false := by simp
  clear hr0 hr1 ht ih hn hc0 hc1
  refine (callsIn_wide (n := 5)).1 ?_
  refine callsIn_of_wp_marks Try.func15 rfl trivial ?_ rfl
  simp only [Try.ntmps15, List.size_toArray, List.length_cons, List.length_nil, Nat.reduceAdd, Nat.reduceSub, Array.replicate_succ, Array.replicate_zero, List.push_toArray, List.append_toArray, List.nil_append, List.cons_append]
  gi_wp2
  gi_loopg [5] (l.length) (fun g v5 W => ∃ i : Nat, v5 = .int .i64 (i : Int) ∧ Hid (i + g = l.length) ∧ Hid (Below w.heap.size w W))
  case atStart => exact ⟨0, rfl, by simp [Hid], HB⟩
  case round =>
    clear HB
    obtain ⟨i, rfl, hg, HB⟩ := hrel
    by_cases hi : i < l.length
    · have hib : decide ((i : Int) < (l.length : Int)) = true := by simpa using hi
      have hm0 : Hid (gk - 1 < gk) := by have := hg.out; simp only [Hid]; omega
      have hm1 : Hid (i + 1 + (gk - 1) = l.length) := by have := hg.out; simp only [Hid]; omega
      obtain ⟨g0, hg0⟩ : ∃ g, g = gk - 1 := ⟨_, rfl⟩
      rw [← hg0] at hm0 hm1
      clear hg0
      gi_wp2
      obtain ⟨a0, p04, q04, p05, q05, p06, q06, p07, q07, e0, x00, x01, x02, x03, x04, x05, x06, x07, l04, g04, l05, g05, l06, g06, l07, g07⟩ := at_T36 HR0.out i (by omega) (by omega)
      obtain ⟨a1, p14, q14, p15, q15, p16, q16, p17, q17, e1, x10, x11, x12, x13, x14, x15, x16, x17, l14, g14, l15, g15, l16, g16, l17, g17⟩ := at_T36 HR1.out i (by omega) (by omega)
      subst e0 e1
      simp only [Int.toNat_natCast] at x00 x01 x02 x03 x04 x05 x06 x07 x10 x11 x12 x13 x14 x15 x16 x17
      obtain ⟨s, hs⟩ : ∃ s, s = rd_T36 l i := ⟨_, rfl⟩
      rw [← hs] at x00 x01 x02 x03 x04 x05 x06 x07 l04 g04 l05 g05 l06 g06 l07 g07 x10 x11 x12 x13 x14 x15 x16 x17 l14 g14 l15 g15 l16 g16 l17 g17
      refine wpIn_region_any mixed ?_
      refine wpAnyIn_flow2 _ (fun _ => undef) (SmS wr (fun j => match j with | 0 => .slice (some a0) l.length c0 | 1 => .int .i64 i | 2 => .pointer (some (a0.add (i * 8))) | 3 => .agg #[.int .i64 s.f0, .string s.f1, .string s.f2, .string s.f3, .slice p04 s.f4.length q04, .slice p05 s.f5.length q05, .slice p06 s.f6.length q06, .slice p07 s.f7.length q07] | 4 => .slice (some a1) l.length c1 | 5 => .int .i64 i | 6 => .pointer (some (a1.add (i * 8))) | _ => .agg #[.int .i64 s.f0, .string s.f1, .string s.f2, .string s.f3, .slice p14 s.f4.length q14, .slice p15 s.f5.length q15, .slice p16 s.f6.length q16, .slice p17 s.f7.length q17])
        [.int .i64 s.f0, .string s.f1, .string s.f2, .string s.f3, .slice p04 s.f4.length q04, .slice p05 s.f5.length q05, .slice p06 s.f6.length q06, .slice p07 s.f7.length q07]
        [.int .i64 s.f0, .string s.f1, .string s.f2, .string s.f3, .slice p14 s.f4.length q14, .slice p15 s.f5.length q15, .slice p16 s.f6.length q16, .slice p17 s.f7.length q17]) rfl (by kernel_rfl) _ ?_ ?step6 ?end6
      · exact ⟨(Below.refl _ _).drew, fun _ _ h => (by cases h), by rintro ⟨⟩, by rintro ⟨⟩, by rintro ⟨⟩, by rintro ⟨⟩, by rintro ⟨⟩⟩
      case step6 =>
        intro m o done val a w' ho hdn hdep hag hS K hK
        have hm : m < 12 := by
          by_cases h : m < 12
          · exact h
          · rw [Array.getElem?_eq_none (by simp; omega)] at ho; cases ho
        have HBE := HB.out.trans (hS.be.mono (by have := HB.out.size; omega))
        have y00 := cell_up HBE x00
        have y01 := cell_up HBE x01
        have y02 := cell_up HBE x02
        have y03 := cell_up HBE x03
        have y04 := cell_up HBE x04
        have y05 := cell_up HBE x05
        have y06 := cell_up HBE x06
        have y07 := cell_up HBE x07
        have y10 := cell_up HBE x10
        have y11 := cell_up HBE x11
        have y12 := cell_up HBE x12
        have y13 := cell_up HBE x13
        have y14 := cell_up HBE x14
        have y15 := cell_up HBE x15
        have y16 := cell_up HBE x16
        have y17 := cell_up HBE x17
        obtain rfl | rfl | rfl | rfl | rfl | rfl | rfl | rfl | rfl | rfl | rfl | rfl : m = 0 ∨ m = 1 ∨ m = 2 ∨ m = 3 ∨ m = 4 ∨ m = 5 ∨ m = 6 ∨ m = 7 ∨ m = 8 ∨ m = 9 ∨ m = 10 ∨ m = 11 := by omega
        · cases ho
          have e : a.eval (.tmp 0) = .slice (some a0) l.length c0 := hag.keep 0 rfl
          refine wpOpIn_value (i := 0) rfl rfl (fun c h => by cases h) rfl ?_ (hK _ _ (hS.step 0 _ (by omega) rfl))
          generalize a.eval = ev at e
          simp [execOp, e, go_sem]
        · cases ho
          have e : a.eval (.tmp 5) = .int .i64 i := hag.keep 5 rfl
          refine wpOpIn_value (i := 1) rfl rfl (fun c h => by cases h) rfl ?_ (hK _ _ (hS.step 1 _ (by omega) rfl))
          generalize a.eval = ev at e
          simp [execOp, e, go_sem]
        · cases ho
          have e : a.eval (.tmp 20) = .slice (some a0) l.length c0 := (hag.val_ (j := 0) (t := 20) rfl (hdep ⟨0, .data⟩ (by simp) rfl)).trans (hS.v 0 (by omega) (hdep ⟨0, .data⟩ (by simp) rfl))
          have e2 : a.eval (.tmp 21) = .int .i64 i := (hag.val_ (j := 1) (t := 21) rfl (hdep ⟨1, .data⟩ (by simp) rfl)).trans (hS.v 1 (by omega) (hdep ⟨1, .data⟩ (by simp) rfl))
          refine wpOpIn_value (i := 2) rfl rfl (fun c h => by cases h) ?_ ?_ (hK _ _ (hS.step 2 _ (by omega) rfl))
          · generalize a.eval = ev at e e2
            simp [Oper.about, e, e2, go_sem]
          · generalize a.eval = ev at e e2
            simp [execOp, e, e2, go_sem]
            omega
        · cases ho
          have e : a.eval (.tmp 22) = .pointer (some (a0.add (i * 8))) := (hag.val_ (j := 2) (t := 22) rfl (hdep ⟨2, .data⟩ (by simp) rfl)).trans (hS.v 2 (by omega) (hdep ⟨2, .data⟩ (by simp) rfl))
          refine wpOpIn_value (i := 3) rfl rfl (fun c h => by cases h) rfl ?_ (hK _ _ (hS.step 3 _ (by omega) rfl))
          generalize a.eval = ev at e
          simp [execOp, e, go_sem, y00, y01, y02, y03, y04, y05, y06, y07]
        · cases ho
          have e : a.eval (.tmp 1) = .slice (some a1) l.length c1 := hag.keep 1 rfl
          refine wpOpIn_value (i := 4) rfl rfl (fun c h => by cases h) rfl ?_ (hK _ _ (hS.step 4 _ (by omega) rfl))
          generalize a.eval = ev at e
          simp [execOp, e, go_sem]
        · cases ho
          have e : a.eval (.tmp 5) = .int .i64 i := hag.keep 5 rfl
          refine wpOpIn_value (i := 5) rfl rfl (fun c h => by cases h) rfl ?_ (hK _ _ (hS.step 5 _ (by omega) rfl))
          generalize a.eval = ev at e
          simp [execOp, e, go_sem]
        · cases ho
          have e : a.eval (.tmp 24) = .slice (some a1) l.length c1 := (hag.val_ (j := 4) (t := 24) rfl (hdep ⟨4, .data⟩ (by simp) rfl)).trans (hS.v 4 (by omega) (hdep ⟨4, .data⟩ (by simp) rfl))
          have e2 : a.eval (.tmp 25) = .int .i64 i := (hag.val_ (j := 5) (t := 25) rfl (hdep ⟨5, .data⟩ (by simp) rfl)).trans (hS.v 5 (by omega) (hdep ⟨5, .data⟩ (by simp) rfl))
          refine wpOpIn_value (i := 6) rfl rfl (fun c h => by cases h) ?_ ?_ (hK _ _ (hS.step 6 _ (by omega) rfl))
          · generalize a.eval = ev at e e2
            simp [Oper.about, e, e2, go_sem]
          · generalize a.eval = ev at e e2
            simp [execOp, e, e2, go_sem]
            omega
        · cases ho
          have e : a.eval (.tmp 26) = .pointer (some (a1.add (i * 8))) := (hag.val_ (j := 6) (t := 26) rfl (hdep ⟨6, .data⟩ (by simp) rfl)).trans (hS.v 6 (by omega) (hdep ⟨6, .data⟩ (by simp) rfl))
          refine wpOpIn_value (i := 7) rfl rfl (fun c h => by cases h) rfl ?_ (hK _ _ (hS.step 7 _ (by omega) rfl))
          generalize a.eval = ev at e
          simp [execOp, e, go_sem, y10, y11, y12, y13, y14, y15, y16, y17]
        · cases ho
          refine wpOpIn_value (i := 8) rfl rfl (fun c h => by cases h) rfl ?_ (hK _ _ (hS.alloc 8 hdn (.inl rfl)))
          simp [execOp, go_sem, zeros]
        · cases ho
          refine wpOpIn_value (i := 9) rfl rfl (fun c h => by cases h) rfl ?_ (hK _ _ (hS.alloc 9 hdn (.inr rfl)))
          simp [execOp, go_sem, zeros]
        · cases ho
          obtain ⟨B, X, hB, hX, hS'⟩ := hS.store 10 (.inl ⟨rfl, hdep ⟨8, .data⟩ (by simp) rfl, hdn⟩) ⟨rfl, by simp [Value.oneCell']⟩ ⟨rfl, by simp [Value.oneCell']⟩
          have e : a.eval (.tmp 6) = .pointer (some ⟨B, 0, none⟩) := (hag.val_ (j := 8) (t := 6) rfl (hdep ⟨8, .data⟩ (by simp) rfl)).trans hB
          have e2 := (hag.val_ (j := 3) (t := 23) rfl (hdep ⟨3, .data⟩ (by simp) rfl)).trans (hS.v 3 (by omega) (hdep ⟨3, .data⟩ (by simp) rfl))
          rw [if_pos rfl] at hX
          refine wpOpIn_skip (i := 10) rfl rfl (fun c h => by cases h) rfl (w' := X) ?_ (hK _ _ hS')
          exact exec_store rfl (by rw [e, e2]; exact hX)
        · cases ho
          obtain ⟨B, X, hB, hX, hS'⟩ := hS.store 11 (.inr ⟨rfl, hdep ⟨9, .data⟩ (by simp) rfl, hdn⟩) ⟨rfl, by simp [Value.oneCell']⟩ ⟨rfl, by simp [Value.oneCell']⟩
          have e : a.eval (.tmp 7) = .pointer (some ⟨B, 0, none⟩) := (hag.val_ (j := 9) (t := 7) rfl (hdep ⟨9, .data⟩ (by simp) rfl)).trans hB
          have e2 := (hag.val_ (j := 7) (t := 27) rfl (hdep ⟨7, .data⟩ (by simp) rfl)).trans (hS.v 7 (by omega) (hdep ⟨7, .data⟩ (by simp) rfl))
          rw [if_neg (by decide)] at hX
          refine wpOpIn_skip (i := 11) rfl rfl (fun c h => by cases h) rfl (w' := X) ?_ (hK _ _ hS')
          exact exec_store rfl (by rw [e, e2]; exact hX)
      case end6 =>
        intro w6 done val hdn hS
        obtain ⟨B, hv8, hB, hb0⟩ := hS.x (hdn 8 (by decide))
        obtain ⟨C, hv9, hC, hc0⟩ := hS.y (hdn 9 (by decide))
        rw [if_pos (hdn 10 (by decide))] at hb0
        rw [if_pos (hdn 11 (by decide))] at hc0
        have hv0 := hS.v 0 (by decide) (hdn 0 (by decide))
        have hv1 := hS.v 1 (by decide) (hdn 1 (by decide))
        have hv2 := hS.v 2 (by decide) (hdn 2 (by decide))
        have hv3 := hS.v 3 (by decide) (hdn 3 (by decide))
        have hv4 := hS.v 4 (by decide) (hdn 4 (by decide))
        have hv5 := hS.v 5 (by decide) (hdn 5 (by decide))
        have hv6 := hS.v 6 (by decide) (hdn 6 (by decide))
        have hv7 := hS.v 7 (by decide) (hdn 7 (by decide))
        have HX := Lib.hid (HB.out.trans (hS.be.mono (by have := HB.out.size; omega)))
        simp only [putTmps, dstOf, List.size_toArray, List.length_cons, List.length_nil, Nat.reduceAdd, List.getElem?_toArray, List.getElem?_cons_zero, List.getElem?_cons_succ, Option.bind_some, List.setIfInBounds_toArray, List.set_cons_zero, List.set_cons_succ]
        rw [hv0, hv1, hv2, hv3, hv4, hv5, hv6, hv7, hv8, hv9]
        clear hv0 hv1 hv2 hv3 hv4 hv5 hv6 hv7 hv8 hv9 hS hdn x00 x01 x02 x03 x04 x05 x06 x07 x10 x11 x12 x13 x14 x15 x16 x17
        have cB : ∀ j, w6.cell? ⟨B, j, none⟩ = _ := fun j => cell_at_block hb0 j
        have cC : ∀ j, w6.cell? ⟨C, j, none⟩ = _ := fun j => cell_at_block hc0 j
        have cB0 := (cB 0).trans rfl
        have cB1 := (cB 1).trans rfl
        have cB2 := (cB 2).trans rfl
        have cB3 := (cB 3).trans rfl
        have cB4 := (cB 4).trans rfl
        have cB5 := (cB 5).trans rfl
        have cB6 := (cB 6).trans rfl
        have cB7 := (cB 7).trans rfl
        have cC0 := (cC 0).trans rfl
        have cC1 := (cC 1).trans rfl
        have cC2 := (cC 2).trans rfl
        have cC3 := (cC 3).trans rfl
        have cC4 := (cC 4).trans rfl
        have cC5 := (cC 5).trans rfl
        have cC6 := (cC 6).trans rfl
        have cC7 := (cC 7).trans rfl
        clear cB cC hb0 hc0
        have hmem : s ∈ l := by rw [hs]; unfold rd_T36; simp [List.getD, hi]
        have htS := tame_sub HT.out hmem
        have hfl := flat_small hmem
        have hts := HT.out.2 s (flat_of_mem hmem)
        have h6 : ∀ X, Below w.heap.size w X → Calls Try.prog 15 #[.slice p06 s.f6.length q06, .slice p16 s.f6.length q16] X fun e w' => e = .returned (.bool true) ∧ Below X.heap.size X w' := fun X hX =>
          IH.out _ (by have := HN.out; omega) s.f6 (Nat.le_refl _) X _ _ _ _ l06 (Kd.C_below g06 hX) l16 (Kd.C_below g16 hX) htS.1
        have h7 : ∀ X, Below w.heap.size w X → Calls Try.prog 15 #[.slice p07 s.f7.length q07, .slice p17 s.f7.length q17] X fun e w' => e = .returned (.bool true) ∧ Below X.heap.size X w' := fun X hX =>
          IH.out _ (by have := HN.out; omega) s.f7 (Nat.le_refl _) X _ _ _ _ l07 (Kd.C_below g07 hX) l17 (Kd.C_below g17 hX) htS.2
        obtain ⟨kt, hkt⟩ := texts_same s.f5 hts.2.1
        have h5 : ∀ X, Below w.heap.size w X → Calls Try.prog 23 #[.slice p05 s.f5.length q05, .slice p15 s.f5.length q15] X fun e w' => e = .returned (.bool true) ∧ Below X.heap.size X w' := fun X hX =>
          (proteanref02_Texts.calls kt _ _ _ _ _ _ _ X (Kd.C_below g05 hX) l05 (Kd.C_below g15 hX) l15 hkt).mono (by rintro e w' ⟨rfl, n, rfl⟩; exact ⟨rfl, pw_below_drewN (Below.refl _ _) _⟩)
        have H5 := Lib.hid h5
        have H6 := Lib.hid h6
        have H7 := Lib.hid h7
        have G4 := Lib.hid g04
        have G4' := Lib.hid g14
        have H4 := Lib.hid hts.1
        clear hs h5 h6 h7 hkt htS hfl hts g04 g05 g06 g07 g14 g15 g16 g17 hmem
        have r0 : (s.f0 != s.f0) = false := by simp
        have r1 : (s.f1.toList != s.f1.toList) = false := by simp
        have r2 : (s.f2.toList != s.f2.toList) = false := by simp
        have r3 : (s.f3.toList != s.f3.toList) = false := by simp
        have r4 : ((s.f4.length : Int) != (s.f4.length : Int)) = false := by simp
        have hf1 : Fence.wide.fn 23 := trivial
        have hf2 : Fence.wide.fn 15 := trivial
        gi_wp2_with (first
          | (gi_at_call 23; with_reducible refine CallsIn.mono (callsIn_wide.2 (H5.out _ HX.out)) ?_; rintro e w7 ⟨rfl, hb⟩; have HX := Lib.hid (HX.out.trans (hb.mono (HX.out.size))); have cB4 := cell_up hb cB4; have cB5 := cell_up hb cB5; have cB6 := cell_up hb cB6; have cB7 := cell_up hb cB7; have cC4 := cell_up hb cC4; have cC5 := cell_up hb cC5; have cC6 := cell_up hb cC6; have cC7 := cell_up hb cC7; clear hb)
          | (gi_at_call 15; with_reducible refine CallsIn.mono (callsIn_wide.2 (H6.out _ HX.out)) ?_; rintro e w7 ⟨rfl, hb⟩; have HX := Lib.hid (HX.out.trans (hb.mono (HX.out.size))); have cB4 := cell_up hb cB4; have cB5 := cell_up hb cB5; have cB6 := cell_up hb cB6; have cB7 := cell_up hb cB7; have cC4 := cell_up hb cC4; have cC5 := cell_up hb cC5; have cC6 := cell_up hb cC6; have cC7 := cell_up hb cC7; clear hb)
          | (gi_at_call 15; with_reducible refine CallsIn.mono (callsIn_wide.2 (H7.out _ HX.out)) ?_; rintro e w7 ⟨rfl, hb⟩; have HX := Lib.hid (HX.out.trans (hb.mono (HX.out.size))); have cB4 := cell_up hb cB4; have cB5 := cell_up hb cB5; have cB6 := cell_up hb cB6; have cB7 := cell_up hb cB7; have cC4 := cell_up hb cC4; have cC5 := cell_up hb cC5; have cC6 := cell_up hb cC6; have cC7 := cell_up hb cC7; clear hb))
        clear cB5 cB6 cB7 cC5 cC6 cC7 H5 H6 H7 HT IH
        have HX0 := HX
        gi_loopg [8] (s.f4.length) (fun g v8 W => ∃ j : Nat, v8 = .int .i64 (j : Int) ∧ Hid (j + g = s.f4.length) ∧ Hid (Below w7.heap.size w7 W))
        case atStart => exact ⟨0, rfl, by simp [Hid], Below.refl _ _⟩
        case round =>
          obtain ⟨j, rfl, hg2, HY⟩ := hrel
          have HX := Lib.hid (HX.out.trans (HY.out.mono HX.out.size))
          have cB4 := cell_up HY.out cB4
          have cC4 := cell_up HY.out cC4
          by_cases hj : j < s.f4.length
          · have hjb : decide ((j : Int) < (s.f4.length : Int)) = true := by simpa using hj
            have hn0 : Hid (gk - 1 < gk) := by have := hg2.out; simp only [Hid]; omega
            have hn1 : Hid (j + 1 + (gk - 1) = s.f4.length) := by have := hg2.out; simp only [Hid]; omega
            obtain ⟨b0, z0, y00, y01, y02⟩ := at_T49 G4.out j (by omega) (by omega)
            obtain ⟨b1, z1, y10, y11, y12⟩ := at_T49 G4'.out j (by omega) (by omega)
            subst z0 z1
            simp only [Int.toNat_natCast] at y00 y01 y02 y10 y11 y12
            have y00 := cell_up HX.out y00
            have y01 := cell_up HX.out y01
            have y02 := cell_up HX.out y02
            have y10 := cell_up HX.out y10
            have y11 := cell_up HX.out y11
            have y12 := cell_up HX.out y12
            gi_wp2
            gi_quiet (fail)
            gi_wp2
            have hjw : wrap64 ((j : Int) + 1) = ((j + 1 : Nat) : Int) := by have := H4.out; simp only [wrap64]; omega
            gi_roundg (gk - 1)
            case measure => exact hn0.out
            case rel => exact ⟨j + 1, by rw [hjw], hn1, pw_below_drewN HY.out _⟩
          · have hjb : decide ((j : Int) < (s.f4.length : Int)) = false := by simpa using hj
            gi_wp2
            have hiw : wrap64 ((i : Int) + 1) = ((i + 1 : Nat) : Int) := by have := HL.out; simp only [wrap64]; omega
            gi_roundg g0
            case measure => exact hm0.out
            case rel => exact ⟨i + 1, by rw [hiw], hm1, HX⟩
    · have hib : decide ((i : Int) < (l.length : Int)) = false := by simpa using hi
      gi_wp2
      exact ⟨.bool true, by simp [results, Try.results15, go_sem], rfl, HB.out⟩
end Go.Proofs.Ytdifnochnmiagaa.Man
