import Derived.Test.YtdifnochnmiagaaManF
import Derived.Outline
import Derived.Maps.AppendAt
namespace Go.Proofs.Ytdifnochnmiagaa.Man
open Go.RowKit Go.Shelf Go.Proofs.Ytdifnochnmiagaa.Pr Go.Proofs.YtdifnochnmiagaaW.PrintWords
attribute [local go_sem] Oper.semAt_some
set_option linter.unusedVariables false
set_option linter.unusedSimpArgs false

theorem mixed : Try.prog.follows .mixedOrders = true := by kernel_rfl
/-- The cells of what has come, one statement behind the other. -/
def cellsOf {w : World} {P : Nat → Prop} {T : S36 → Prop} (es : List (Elt w P T)) : List Value := es.flatMap (·.1.2)
theorem elt_len {w : World} {P : Nat → Prop} {T : S36 → Prop} (x : Elt w P T) : x.1.2.length = 8 := k36.K_len (Kd.FK_now x.2.1)
theorem cellsOf_len {w : World} {P : Nat → Prop} {T : S36 → Prop} (es : List (Elt w P T)) : (cellsOf es).length = es.length * 8 := by
  induction es with
  | nil => rfl
  | cons x r ih => simp only [cellsOf, List.flatMap_cons, List.length_append, List.length_cons, elt_len] at *; omega
theorem cellsOf_snoc {w : World} {P : Nat → Prop} {T : S36 → Prop} (es : List (Elt w P T)) (x : Elt w P T) : cellsOf (es ++ [x]) = cellsOf es ++ x.1.2 := by simp [cellsOf]

/-- What a round of AppendSeq begins with: the loop variable's box. -/
def ApBox (w : World) (P : Nat → Prop) (T : S36 → Prop) (bs B : Nat) (sv : Value) (x : Elt w P T) (a' : Act) (W : World) : Prop :=
  ∃ Bv, B ≤ Bv ∧ W.heap[Bv]? = some (.cells x.1.2.toArray 36 (0, 0)) ∧ rowOf (some bs) W ≠ some Bv ∧
    a' = { tmps := #[.slice none 0 0, sv, .pointer (some ⟨bs, 0, none⟩), undef, .slice none 0 0, .pointer (some ⟨Bv, 0, none⟩), sv, .agg x.1.2.toArray, undef, undef, undef, undef, undef, undef, undef], defers := [] }
theorem ApBox.own (w : World) (P : Nat → Prop) (T : S36 → Prop) (bs B : Nat) (sv : Value) (x : Elt w P T) (a' : Act) (hb : bs < B) : OwnFrom B (fun (_ : Unit) W => (∃ v, Boxed W bs 22 v) ∧ ApBox w P T bs B sv x a' W) := by
  rintro _ X Y row ⟨⟨v, hv⟩, Bv, h1, h2, h3, h4⟩ hg hr
  have hbs : some bs ≠ row := fun e => by obtain ⟨h, _⟩ := hr bs e.symm; omega
  have hv' := hv.kept hg hbs
  have hrow : rowOf (some bs) Y = rowOf (some bs) X := by simp [rowOf, hv.cell, hv'.cell]
  refine ⟨⟨v, hv'⟩, Bv, h1, ?_, by rw [hrow]; exact h3, h4⟩
  have hlt : Bv < X.heap.size := (Array.getElem?_eq_some_iff.1 h2).1
  rw [hg.block Bv hlt ?_]
  · exact h2
  · intro e; obtain ⟨_, o, ho, hc⟩ := hr Bv e.symm; rw [h2] at ho; cases ho; cases hc

def apTm (sv : Value) (bs Bv : Nat) (cs : List Value) (r8 r9 r10 r11 r12 r13 : Value) : Act :=
  { tmps := #[.slice none 0 0, sv, .pointer (some ⟨bs, 0, none⟩), undef, .slice none 0 0, .pointer (some ⟨Bv, 0, none⟩), sv, .agg cs.toArray, r8, r9, r10, r11, r12, r13, undef], defers := [] }
/-- What holds when some of the operations of 's = append(s, v)' have been done. -/
def ApI (sv : Value) (bs Bv base k : Nat) (cs zs xs : List Value) (v v' : Value) (g : Nat) (Wd : World) (listed : Array Bool) (a : Act) (w : World) : Prop :=
  (∃ b0 b1 b2 b3 : Bool, (b2 = true → b0 = true) ∧ listed = #[b0, b1, b2, b3, false, false, false, false] ∧
    a = apTm sv bs Bv cs (bif b0 then v else undef) (bif b1 then .agg cs.toArray else undef) (bif b2 then .int .i64 k else undef) (bif b3 then .slice (some ⟨Wd.heap.size, 0, none⟩) 1 1 else undef) undef undef ∧
    w = bif b3 then Wd.alloc (.cells zs.toArray 36) else Wd) ∨
  (∃ b5 b6 b7 : Bool, (b6 = true → b5 = true) ∧ listed = #[true, true, true, true, true, b5, b6, b7] ∧
    a = apTm sv bs Bv cs v (.agg cs.toArray) (.int .i64 k) (.slice (some ⟨Wd.heap.size, 0, none⟩) 1 1) v' (bif b5 then .pointer (some ⟨g, k * 8, none⟩) else undef) ∧
    w.ownsRow base 36 8 v' (k + 1) (xs ++ bif b6 then cs else zs) ∧ Boxed w bs 22 (bif b7 then v' else v) ∧ Wd.heap.size ≤ w.heap.size ∧
    (∀ j, j < Wd.heap.size → j ≠ bs → v.ownBlock ≠ some j → w.heap[j]? = Wd.heap[j]?) ∧ w.os = Wd.os ∧ w.tape = Wd.tape ∧ w.output = Wd.output)

set_option maxRecDepth 100000 in
set_option maxHeartbeats 4000000 in
theorem appendSeq_in (w w1 : World) (P : Nat → Prop) (l : List S36) (A : Option Addr) (c : Nat) (hlc : l.length ≤ c) (hC : Kd.F k36 w P A l.length l) (hN : (flat l).length ≤ 900000000000) (hBe : Below w.heap.size w w1) (Bt : Nat) (hlt : Bt < w1.heap.size)
    (hBt : w1.cell? ⟨Bt, 0, none⟩ = some (.slice A l.length c)) :
    Calls Try.prog 30 #[.slice none 0 0, .func (.func 28) #[] #[.pointer (some ⟨Bt, 0, none⟩)]] w1 fun e w' =>
      ∃ (v : Value) (es : List (Elt w P (fun _ => True))), e = .returned v ∧ es.map (·.1.1) = flat l ∧ w'.ownsRow w1.heap.size 36 8 v es.length (cellsOf es) ∧ Below w1.heap.size w1 w' := by
  refine (callsIn_wide (n := 5)).1 ?_
  refine callsIn_of_wp_marks Try.func30 rfl trivial ?_ rfl
  simp only [Try.ntmps30, List.size_toArray, List.length_cons, List.length_nil, Nat.reduceAdd, Nat.reduceSub, Array.replicate_succ, Array.replicate_zero, List.push_toArray, List.append_toArray, List.nil_append, List.cons_append]
  have HC := Lib.hid hC
  clear hC
  have HBt := Lib.hid hBt
  clear hBt
  gi_wp2
  obtain ⟨w2, hw2⟩ : ∃ w2, w2 = (w1.alloc (Obj.cells #[Value.slice none 0 0] 22)) := ⟨_, rfl⟩
  have hs2 : w2.heap.size = w1.heap.size + 1 := by rw [hw2]; simp
  have hb2 : Below w1.heap.size w1 w2 := by rw [hw2]; exact ((Below.refl _ w1).alloc (Nat.le_refl _) _)
  have hbox : Boxed w2 w1.heap.size 22 (.slice none 0 0) := by rw [hw2]; exact Boxed.new w1 22 _
  have hbt : w2.cell? ⟨Bt, 0, none⟩ = some (.slice A l.length c) := (hb2.cell (p := ⟨Bt, 0, none⟩) hlt).trans HBt.out
  have hbe2 : Below w.heap.size w w2 := hBe.trans (hb2.mono hBe.size)
  have hlew := hBe.size
  rw [← hw2]
  refine rangeAll (w := w) (P := P) (T := fun _ => True) (n := 5) (by decide) l A c hlc (fun _ _ => trivial) HC.out hbe2 Bt (by omega) hbt rfl (some w1.heap.size) (fun b e => by cases e; omega) (fun k h => by simp [rowOf, hbox.cell, Value.ownBlock] at h) rfl
    (fun pre W => (∃ v, Boxed W w1.heap.size 22 v ∧ W.ownsRow w1.heap.size 36 8 v pre.length (cellsOf pre) ∧ True) ∧ Below w1.heap.size w1 W)
    (fun _ _ _ => False)
    (OwnFrom.and (Own.from (holdsRow_own _ _ _ _ _ _ _ _) _) (ownFrom_below (Nat.le_refl _) hb2.size)) (fun _ _ _ _ _ hs _ _ => hs) ⟨⟨_, hbox, World.ownsRow_nil _ _ _ _, trivial⟩, hb2⟩
    (fun x a' W => (∃ v, Boxed W w1.heap.size 22 v) ∧ ApBox w P (fun _ => True) w1.heap.size w2.heap.size (.func (.func 28) #[] #[.pointer (some ⟨Bt, 0, none⟩)]) x a' W)
    (fun x a' => ApBox.own _ _ _ _ _ _ _ _ (by omega)) ?assign ?body ?done ?stop
  case assign =>
    rintro lp pre ⟨⟨s, cs⟩, hK, hT⟩ W K ⟨⟨v, hv, hr, _⟩, hB⟩ hk
    have hcs := k36_open (Kd.FK_now hK)
    dsimp only at hcs hK
    obtain ⟨A4, c4, A5, c5, A6, c6, A7, c7, rfl, _⟩ := hcs
    have hle : w2.heap.size ≤ W.heap.size := by
      have := hv.lt
      omega
    have hk' : Hid (K { tmps := #[.slice none 0 0, (.func (.func 28) #[] #[.pointer (some ⟨Bt, 0, none⟩)]), .pointer (some ⟨w1.heap.size, 0, none⟩), undef, .slice none 0 0, .pointer (some ⟨W.heap.size, 0, none⟩), (.func (.func 28) #[] #[.pointer (some ⟨Bt, 0, none⟩)]), .agg #[Value.int IntKind.i64 s.f0, Value.string s.f1, Value.string s.f2,
    Value.string s.f3, Value.slice A4 s.f4.length c4, Value.slice A5 s.f5.length c5,
    Value.slice A6 s.f6.length c6, Value.slice A7 s.f7.length c7], undef, undef, undef, undef, undef, undef, undef], defers := [] } (W.alloc (.cells #[Value.int IntKind.i64 s.f0, Value.string s.f1, Value.string s.f2,
    Value.string s.f3, Value.slice A4 s.f4.length c4, Value.slice A5 s.f5.length c5,
    Value.slice A6 s.f6.length c6, Value.slice A7 s.f7.length c7] 36))) := by
      have hv' := hv.alloc (.cells #[Value.int IntKind.i64 s.f0, Value.string s.f1, Value.string s.f2, Value.string s.f3, Value.slice A4 s.f4.length c4, Value.slice A5 s.f5.length c5, Value.slice A6 s.f6.length c6, Value.slice A7 s.f7.length c7] 36)
      refine hk _ _ ((KeepsOthers.alloc _ _).from _) ((Kp.refl _ _ _ W).alloc _ (by have := hB.size; omega) (fun b e => by cases e; exact hv.lt)) ⟨⟨v, hv', hr.alloc _, trivial⟩, hB.alloc hB.size _⟩
        ⟨⟨v, hv'⟩, W.heap.size, hle, World.alloc_heap_new W _, ?_, rfl⟩
      intro e
      rw [rowOf_alloc _ W _ (fun b e => by cases e; exact hv.lt)] at e
      simp only [rowOf, Option.bind_some, hv.cell] at e
      rcases hr.2 with ⟨rfl, _⟩ | ⟨g, cap, cur, rfl, _, hgb, _⟩
      · simp [Value.ownBlock] at e
      · have hlt' := (Array.getElem?_eq_some_iff.1 hgb).1
        simp [Value.ownBlock] at e; omega
    clear hk
    rw [show ((#[7] : Array Tmp).zip (encE ⟨(s, _), hK, hT⟩)) = #[(7, Value.agg #[Value.int IntKind.i64 s.f0, Value.string s.f1, Value.string s.f2, Value.string s.f3, Value.slice A4 s.f4.length c4, Value.slice A5 s.f5.length c5, Value.slice A6 s.f6.length c6, Value.slice A7 s.f7.length c7])] from by simp [encE]]
    clear hr hB
    gi_wp2
    exact hk'.out
  case body =>
    rintro lp pre x a' W hlp _ ⟨⟨v, hv, hr, _⟩, hB⟩ ⟨_, Bv, hBv, hbv, hnr, rfl⟩ hlen
    have hxl := elt_len x
    have hx1 := k36.K_one (Kd.FK_now x.2.1)
    have hkl := cellsOf_len pre
    have hrv : rowOf (some w1.heap.size) W = v.ownBlock := by simp [rowOf, hv.cell]
    rw [hrv] at hnr
    have hbne : Bv ≠ w1.heap.size := by omega
    generalize hcs : x.1.2 = cs at *
    obtain ⟨A0, c0, hve, hvo⟩ : ∃ A0 c0, v = .slice A0 pre.length c0 ∧ ∀ k, v.ownBlock = some k → k ≠ w1.heap.size ∧ ∃ cur, W.heap[k]? = some (.cells cur 36 (0, 0)) := by
      have hnb := hv.not_row (by decide : (22 : Nat) ≠ 36) hr
      rcases hr.2 with ⟨rfl, h0⟩ | ⟨g, cap, cur, rfl, _, hgb, _⟩
      · exact ⟨none, 0, by rw [h0], fun k h => by simp [Value.ownBlock] at h⟩
      · exact ⟨_, _, rfl, fun k h => ⟨fun e => hnb (by rw [h, e]), by simp [Value.ownBlock] at h; subst h; exact ⟨cur, hgb⟩⟩⟩
    obtain ⟨Wd, hWd⟩ : ∃ Wd : World, Wd = { W with drawn := W.drawn + 1 } := ⟨_, rfl⟩
    have dh : Wd.heap = W.heap := by rw [hWd]
    have dv : Boxed Wd w1.heap.size 22 v := by unfold Boxed; rw [dh]; exact hv
    have dbv : Wd.heap[Bv]? = some (.cells cs.toArray 36 (0, 0)) := by rw [dh]; exact hbv
    have dr : Wd.ownsRow w1.heap.size 36 8 v pre.length (cellsOf pre) := by rw [hWd]; exact hr
    obtain ⟨zs, hzs⟩ : ∃ zs : List Value, zs = [.int .i64 0, .string ⟨#[]⟩, .string ⟨#[]⟩, .string ⟨#[]⟩, .slice none 0 0, .slice none 0 0, .slice none 0 0, .slice none 0 0] := ⟨_, rfl⟩
    obtain ⟨i0, hi, hz0, hz1, hz2⟩ := info_parts info36
    have hnewc : ∀ j u, zs[j]? = some u → (Wd.alloc (.cells zs.toArray 36)).cell? ((⟨Wd.heap.size, 0, none⟩ : Addr).add j) = some u := fun j u h => by
      rw [Addr.add_mid, Nat.zero_add]; exact box8 Wd zs.toArray 36 j u (by simpa using h)
    obtain ⟨v', w3, hrun, hown3, hgr3, _, hat⟩ := run_append_own_at (P := Try.prog) (Wd.alloc (.cells zs.toArray 36)) w1.heap.size 22 22 36 i0 _ 8 152 Try.underlying22 hi hz0 hz1 hz2 rfl (by decide) v pre.length (cellsOf pre) (dr.alloc _) ⟨Wd.heap.size, 0, none⟩ 1 1 zs (by rw [hzs]; rfl) hnewc (by rw [hzs]; simp [Value.oneCell']) (by unfold maxLen; omega) (by omega) (by have := hB.size; simp [dh]; omega)
    obtain ⟨g, cap, rfl⟩ := ownsRow_succ hown3
    have R0 : ∀ (W' : World), Boxed W' w1.heap.size 22 v → (do let x ← Instr.loadAt 22 (.pointer (some ⟨w1.heap.size, 0, none⟩)); pure (Next.value x) : Sem Next).run Try.prog W' = .ok (.value v) W' := fun W' hb => by
      have hc := hb.cell
      go_simp
    have R1 : ∀ (W' : World), W'.heap[Bv]? = some (.cells cs.toArray 36 (0, 0)) → (do let x ← Instr.loadAt 36 (.pointer (some ⟨Bv, 0, none⟩)); pure (Next.value x) : Sem Next).run Try.prog W' = .ok (.value (.agg cs.toArray)) W' := fun W' hb => by
      have := run_loadAt_mid (P := Try.prog) W' Bv 0 36 cs _ (fun j u h => by rw [Nat.zero_add, cell_at_block hb]; simpa using h) Try.underlying36 rfl (by rw [hxl]; kernel_rfl)
      rw [Sem.run_bind, this]; rfl
    have R2 : ∀ (W' : World) (r9 r11 : Value), (do let d ← resolve (apTm (.func (.func 28) #[] #[.pointer (some ⟨Bt, 0, none⟩)]) w1.heap.size Bv cs v r9 undef r11 undef undef).eval { callee := Callee.builtin Builtin.len, args := #[Operand.tmp 8], argTypes := #[22] } 3; invoke d.target d.args).run Try.prog W' = .ok (.value (.int .i64 pre.length)) W' := fun W' r9 r11 => by
      subst hve
      simp [apTm, go_sem]
    have R3 : ∀ r8 r9 r10 : Value, (execOp (apTm (.func (.func 28) #[] #[.pointer (some ⟨Bt, 0, none⟩)]) w1.heap.size Bv cs r8 r9 r10 undef undef undef).eval { dst := some 11, op := Op.buildSlice 22 1 #[(0, Operand.const (.agg #[.int .i64 0, .string ⟨#[]⟩, .string ⟨#[]⟩, .string ⟨#[]⟩, .slice none 0 0, .slice none 0 0, .slice none 0 0, .slice none 0 0]))], type := 22, pos := "iter.go:52", after := #[], guard := none }).run Try.prog Wd = .ok (.value (.slice (some ⟨Wd.heap.size, 0, none⟩) 1 1)) (Wd.alloc (.cells zs.toArray 36)) := fun r8 r9 r10 => by
      subst hzs
      go_simp
    have R4 : (do let d ← resolve (apTm (.func (.func 28) #[] #[.pointer (some ⟨Bt, 0, none⟩)]) w1.heap.size Bv cs v (.agg cs.toArray) (.int .i64 pre.length) (.slice (some ⟨Wd.heap.size, 0, none⟩) 1 1) undef undef).eval { callee := Callee.builtin Builtin.append, args := #[Operand.tmp 8, Operand.tmp 11], argTypes := #[22, 22] } 22; invoke d.target d.args).run Try.prog (Wd.alloc (.cells zs.toArray 36)) = .ok (.value (.slice (some ⟨g, 0, none⟩) (pre.length + 1) cap)) w3 := by
      simp [apTm, Act.eval, resolve, invoke, builtin, hrun, Result.andThen]
    have hzl : zs.length = 8 := by rw [hzs]; rfl
    have hgbs : w1.heap.size ≠ g := by
      intro e
      rcases hat with hat | hat
      · exact (hvo g (by rw [← hat]; rfl)).1 e.symm
      · have := dv.lt; simp [Value.ownBlock] at hat; omega
    have hgj : ∀ j, j < Wd.heap.size → v.ownBlock ≠ some j → j ≠ g := by
      intro j hj hjv e
      rcases hat with hat | hat
      · exact hjv (by rw [← hat, e]; rfl)
      · simp [Value.ownBlock] at hat; omega
    have R5 : ∀ (W' : World), (do let x ← Instr.indexAt 22 (.slice (some ⟨g, 0, none⟩) (pre.length + 1) cap) (.int .i64 pre.length); pure (Next.value x) : Sem Next).run Try.prog W' = .ok (.value (.pointer (some ⟨g, pre.length * 8, none⟩))) W' := fun W' => by
      have h1 : (pre.length : Int) < (pre.length : Int) + 1 := by omega
      have h2 : (⟨g, 0, none⟩ : Addr).add (pre.length * 8) = ⟨g, pre.length * 8, none⟩ := add_plain g _
      go_simp
    have R6 : ∀ (W' : World), W'.there g (pre.length * 8) 8 → (do Instr.storeAt 36 (.pointer (some ⟨g, pre.length * 8, none⟩)) (.agg cs.toArray); pure Next.skip : Sem Next).run Try.prog W' = .ok .skip (W'.setCells g (pre.length * 8) cs) := fun W' hth => by
      have := run_storeAt_mid (P := Try.prog) W' g (pre.length * 8) 36 cs.toArray (by rw [List.size_toArray, hxl]; exact hth) (by rw [List.size_toArray, hxl]; kernel_rfl) (by simpa using hx1)
      rw [Sem.run_bind, this]; rfl
    have R7 : ∀ {u : Value} (W' : World), Boxed W' w1.heap.size 22 u → (do Instr.storeAt 22 (.pointer (some ⟨w1.heap.size, 0, none⟩)) (.slice (some ⟨g, 0, none⟩) (pre.length + 1) cap); pure Next.skip : Sem Next).run Try.prog W' = .ok .skip (W'.setCell ⟨w1.heap.size, 0, none⟩ (.slice (some ⟨g, 0, none⟩) (pre.length + 1) cap)) := fun {u} W' hb => by
      have hc := hb.cell
      have hf := hb.frozen
      go_simp
    have dv3 : Boxed w3 w1.heap.size 22 v := (dv.alloc _).kept hgr3 (fun e => (hvo _ e.symm).1 rfl)
    gi_wp2
    refine wpIn_region_any mixed ?_
    rw [← hWd]
    refine wpAnyIn_inv (ApI (.func (.func 28) #[] #[.pointer (some ⟨Bt, 0, none⟩)]) w1.heap.size Bv w1.heap.size pre.length cs zs (cellsOf pre) v (.slice (some ⟨g, 0, none⟩) (pre.length + 1) cap) g Wd) ?step ?fin _ _ _ _ (by simp [leftOf]) ?start
    case start => exact .inl ⟨false, false, false, false, by simp, rfl, rfl, rfl⟩
    case step =>
      intro listed a w4 i hI hrdy
      rcases hI with ⟨b0, b1, b2, b3, hb, rfl, rfl, rfl⟩ | ⟨b5, b6, b7, hb, rfl, rfl, hO, hX, hsz, hfr, ho, ht, hp⟩
      · cases b0 <;> cases b1 <;> cases b2 <;> cases b3
        all_goals first | (exfalso; simp at hb; done) | skip
        all_goals simp [Region.ready, Region.binds, List.range, List.range.loop] at hrdy
        all_goals (repeat' (rcases hrdy with hrdy | hrdy))
        all_goals dsimp only [cond_true, cond_false]
        all_goals first
          | (refine wpOpIn_value (i := 0) (r := v) rfl rfl (fun c h => by cases h) rfl (R0 _ (by first | exact dv | exact dv.alloc _)) ?_)
          | (refine wpOpIn_value (i := 1) (r := .agg cs.toArray) rfl rfl (fun c h => by cases h) rfl (R1 _ (by first | exact dbv | exact (Below.heap_alloc _ _ _ (Array.getElem?_eq_some_iff.1 dbv).1).trans dbv)) ?_)
          | (refine wpOpIn_value (i := 2) (r := .int .i64 pre.length) rfl rfl (fun c h => by cases h) (by simp [Oper.about, resolve, Target.leads, Sem.run_pure]) (R2 _ _ _) ?_)
          | (refine wpOpIn_value (i := 3) rfl rfl (fun c h => by cases h) rfl (R3 _ _ _) ?_)
          | (refine wpOpIn_value (i := 4) rfl rfl (fun c h => by cases h) (by simp [Oper.about, resolve, Target.leads, Sem.run_pure]) R4 ?_)
          | skip
        all_goals first
          | exact .inl ⟨true, true, true, true, by simp, rfl, rfl, rfl⟩
          | exact .inl ⟨true, true, true, false, by simp, rfl, rfl, rfl⟩
          | exact .inl ⟨true, true, false, true, by simp, rfl, rfl, rfl⟩
          | exact .inl ⟨true, true, false, false, by simp, rfl, rfl, rfl⟩
          | exact .inl ⟨true, false, true, true, by simp, rfl, rfl, rfl⟩
          | exact .inl ⟨true, false, true, false, by simp, rfl, rfl, rfl⟩
          | exact .inl ⟨true, false, false, true, by simp, rfl, rfl, rfl⟩
          | exact .inl ⟨true, false, false, false, by simp, rfl, rfl, rfl⟩
          | exact .inl ⟨false, true, false, true, by simp, rfl, rfl, rfl⟩
          | exact .inl ⟨false, true, false, false, by simp, rfl, rfl, rfl⟩
          | exact .inl ⟨false, false, false, true, by simp, rfl, rfl, rfl⟩
          | (refine .inr ⟨false, false, false, by simp, rfl, rfl, hown3, dv3, by have := hgr3.size; simp at this; omega, ?_, hgr3.os, hgr3.tape, hgr3.output⟩
             intro j hj hjb hjv
             rw [hgr3.block j (by simp; omega) (fun e => hjv e.symm), Below.heap_alloc _ _ _ hj])
      · have hO' := hO
        cases b5 <;> cases b6 <;> cases b7
        all_goals first | (exfalso; simp at hb; done) | skip
        all_goals simp [Region.ready, Region.binds, List.range, List.range.loop] at hrdy
        all_goals (repeat' (rcases hrdy with hrdy | hrdy))
        all_goals dsimp only [cond_true, cond_false] at *
        all_goals first
          | (refine wpOpIn_value (i := 5) rfl rfl (fun c h => by cases h) rfl (R5 w4) ?_
             exact .inr ⟨true, false, false, by simp, rfl, rfl, hO, hX, hsz, hfr, ho, ht, hp⟩)
          | (refine wpOpIn_value (i := 5) rfl rfl (fun c h => by cases h) rfl (R5 w4) ?_
             exact .inr ⟨true, false, true, by simp, rfl, rfl, hO, hX, hsz, hfr, ho, ht, hp⟩)
          | (obtain ⟨hth, hO2, hfo, hfs, q1, q2, q3⟩ := own_put hO hkl hzl hxl hx1
             refine wpOpIn_skip (i := 6) rfl rfl (fun c h => by cases h) rfl (R6 w4 hth) ?_
             first
               | exact .inr ⟨true, true, false, by simp, rfl, rfl, hO2, (hfo _ hgbs).trans hX, by rw [hfs]; exact hsz, fun j hj hjb hjv => (hfo j (hgj j hj hjv)).trans (hfr j hj hjb hjv), q1.trans ho, q2.trans ht, q3.trans hp⟩
               | exact .inr ⟨true, true, true, by simp, rfl, rfl, hO2, (hfo _ hgbs).trans hX, by rw [hfs]; exact hsz, fun j hj hjb hjv => (hfo j (hgj j hj hjv)).trans (hfr j hj hjb hjv), q1.trans ho, q2.trans ht, q3.trans hp⟩)
          | (refine wpOpIn_skip (i := 7) rfl rfl (fun c h => by cases h) rfl (R7 w4 hX) ?_
             have hO2 := hO.kept (grownBy_setCell' w4 w1.heap.size (.slice (some ⟨g, 0, none⟩) (pre.length + 1) cap)) (.inr (by simp [Value.ownBlock]; omega))
             have hsz2 : Wd.heap.size ≤ (w4.setCell ⟨w1.heap.size, 0, none⟩ (.slice (some ⟨g, 0, none⟩) (pre.length + 1) cap)).heap.size := Nat.le_trans hsz (grownBy_setCell' w4 w1.heap.size _).size
             have hfr2 : ∀ j, j < Wd.heap.size → j ≠ w1.heap.size → v.ownBlock ≠ some j → (w4.setCell ⟨w1.heap.size, 0, none⟩ (.slice (some ⟨g, 0, none⟩) (pre.length + 1) cap)).heap[j]? = Wd.heap[j]? := fun j hj hjb hjv => (Below.heap_setCell w4 ⟨w1.heap.size, 0, none⟩ _ j hjb).trans (hfr j hj hjb hjv)
             first
               | exact .inr ⟨false, false, true, by simp, rfl, rfl, hO2, hX.set _, hsz2, hfr2, ho, ht, hp⟩
               | exact .inr ⟨true, false, true, by simp, rfl, rfl, hO2, hX.set _, hsz2, hfr2, ho, ht, hp⟩
               | exact .inr ⟨true, true, true, by simp, rfl, rfl, hO2, hX.set _, hsz2, hfr2, ho, ht, hp⟩)
    case fin =>
      intro listed a w4 hI hrdy
      rcases hI with ⟨b0, b1, b2, b3, hb, rfl, rfl, rfl⟩ | ⟨b5, b6, b7, hb, rfl, rfl, hO, hX, hsz, hfr, ho, ht, hp⟩
      · exfalso
        cases b0 <;> cases b1 <;> cases b2 <;> cases b3
        all_goals first | (simp at hb; done) | (simp [Region.ready, Region.binds, List.range, List.range.loop] at hrdy; done)
      · have hall : b5 = true ∧ b6 = true ∧ b7 = true := by
          cases b5 <;> cases b6 <;> cases b7
          all_goals first | (simp at hb; done) | (simp [Region.ready, Region.binds, List.range, List.range.loop] at hrdy; done) | simp
        obtain ⟨rfl, rfl, rfl⟩ := hall
        dsimp only [cond_true] at hO hX
        have hbel : Below w1.heap.size W w4 := ⟨by rw [ho, hWd], by rw [ht, hWd], by rw [hp, hWd], by rw [← dh]; exact hsz, fun j hj => by
          rw [← dh]; exact hfr j (by rw [dh]; have := hv.lt; omega) (by omega) (fun e => by
            rcases hr.2 with ⟨rfl, _⟩ | ⟨g', _, _, rfl, hg', _, _⟩
            · simp [Value.ownBlock] at e
            · simp [Value.ownBlock] at e; omega)⟩
        have hrw4 : rowOf (some w1.heap.size) w4 = some g := by simp [rowOf, hX.cell, Value.ownBlock]
        refine ⟨⟨by rw [← dh]; exact hsz, fun j o hj ho' hc => ?_⟩, ⟨hbel.mono hlew, fun _ => ⟨fun j hj => ?_, ?_, fun j o hj ho' hc hne => ?_⟩⟩, ⟨_, hX, by rw [cellsOf_snoc, hcs]; simpa using hO, trivial⟩, hB.trans hbel⟩
        · have hjlt := (Array.getElem?_eq_some_iff.1 ho').1
          rw [hfr j (by rw [dh]; exact hjlt) (by omega) (fun e => by
            obtain ⟨_, cur, hcur⟩ := hvo j e
            rw [ho'] at hcur; cases hcur; cases hc), dh]
          exact ho'
        · rw [hrw4] at hj; cases hj
          rcases hO.2 with ⟨h, _⟩ | ⟨g', _, cur, h, _, hg', _⟩
          · simp at h
          · simp only [Value.slice.injEq, Option.some.injEq, Addr.mk.injEq, and_true, true_and] at h
            obtain ⟨rfl, _⟩ := h
            exact (Array.getElem?_eq_some_iff.1 hg').1
        · rw [hrw4, hrv]
          rcases hat with hat | hat
          · exact .inl (by rw [← hat]; rfl)
          · right; intro j hj; cases hj
            simp [Value.ownBlock, dh] at hat; omega
        · have hjlt := (Array.getElem?_eq_some_iff.1 ho').1
          rw [hfr j (by rw [dh]; exact hjlt) (by omega) (fun e => hne (by rw [hrv]; exact e)), dh]
          exact ho'
  case done =>
    rintro D ys W hD hys ⟨⟨v, hv, hr, _⟩, hB⟩ hK
    have hc := hv.cell
    gi_wp2
    refine ⟨by simp, .inl ⟨_, _, rfl, run_takeDeferred hK, ?_⟩⟩
    exact ⟨_, results_tmp rfl _ _ _, v, ys, rfl, hys, ownsRow_putObj hr _ hK rfl, hB.trans (belowK_b (w := w1) (Nat.le_refl _) W D _ _ (by omega) hK rfl rfl)⟩
  case stop => exact fun _ _ _ _ _ _ h _ => h.elim
end Go.Proofs.Ytdifnochnmiagaa.Man
