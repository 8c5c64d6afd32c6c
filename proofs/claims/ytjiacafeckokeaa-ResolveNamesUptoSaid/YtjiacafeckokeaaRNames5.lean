/- A part of the proof that ResolveNames returns true for every argument. Parts: ParM ParJ05 Pr3 PuL Fit5 PuW PuV PuT Pr4 PuC5 PuP5 Fix05 Pr9 PuN5 Cal Pr10 Pr11 PuX5. No conditions beyond the given statement's own. -/
import Derived.Test.YtjiacafeckokeaaRNames4
import Derived.Test.YtjiacafeckokeaaRNames2
import Derived.RegionTactic
import Derived.ChangeAlike
import Derived.Test.YtjiacafeckokeaaRNames3
import Derived.Sort.LoopGhostIn

namespace Go.Proofs.Ytjiacafeckokeaa.Man
open Go.RowKit Go.Proofs.Ytjiacafeckokeaa.Pr Go.Proofs.YtjiacafeckokeaaW.PrintWords
attribute [local go_sem] Oper.semAt_some
set_option linter.unusedVariables false
set_option linter.unusedSimpArgs false
theorem wpOpIn_st {F : Fence} {n : Nat} {P : Program} {ops : Array Oper} {Q : Exit → Act → World → Prop} {i : Nat} {K : Act → World → Prop} {a : Act} {W : World} {o : Oper} (ho : ops[i]? = some o) (hgd : o.guard = none) {t : TypeId} {p : Tmp} {v : Operand} (hop : o.op = .store t (.tmp p) v) (hN : o.dst = none) (hab : o.about P W a.eval = none) {g : Nat} {e : TypeId} {cur : Array Value} (seg : List Value)
    (hh : W.heap[g]? = some (.cells cur e (0, 0))) (hp : a.eval (.tmp p) = .pointer (some ⟨g, 0, none⟩)) (hv : (a.eval v).cells.toList = seg) (ht : (P.info? t).map (·.size) = some seg.length) (hs : seg.length = cur.size) (h1 : ∀ q ∈ seg, q.oneCell' = true)
    (hK : ∀ w1, w1.heap[g]? = some (.cells seg.toArray e (0, 0)) → Puts W w1 g → K (a.put o.dst undef) w1) : wpOpIn F n P ops Q i K a W := by
  obtain ⟨q1, q2⟩ := puts_cells seg hh hs
  have hrun := run_store_run (P := P) (o := 0) t (a.eval v) seg hh hv ht (by omega) h1
  refine wpOpIn_skip (w' := W.setCells g 0 seg) ho hgd (by rw [hop]; intro c h; cases h) hab ?_ (hK _ q1 q2)
  unfold execOp
  simp only [hop, hp, Sem.run_bind, Sem.run_pure, Result.andThen_ok, hrun]
theorem C_opd1 {w : World} {g : Nat} {t : TypeId} (o : S56) (h : w.heap[g]? = some (.cells #[.int .i64 o.f0, .int .i64 o.f1, .string o.f2] t (0, 0))) : Kd.C k56 w (some ⟨g, 0, none⟩) 1 [o] := by
  refine ⟨rfl, by decide, fun _ => ⟨_, rfl, fun j p hj => ?_⟩⟩
  obtain ⟨rfl, rfl⟩ : j = 0 ∧ p = o := by
    cases j with
    | zero => simp at hj; exact ⟨rfl, hj.symm⟩
    | succ j => simp at hj
  refine ⟨[.int .i64 p.f0, .int .i64 p.f1, .string p.f2], rfl, k56_mk w p, fun i u hi => ?_⟩
  show w.cell? ((⟨g, 0, none⟩ : Addr).add (0 * 3 + i)) = _
  rw [Addr.add_mid, Nat.zero_add, Nat.zero_mul, Nat.zero_add, blk_cell h i]
  simpa using hi
theorem rowOut_opd1 {w W : World} {g : Nat} (o : S56) (hg : w.heap.size ≤ g) (h : W.heap[g]? = some (.cells #[.int .i64 o.f0, .int .i64 o.f1, .string o.f2] 56 (0, 0))) : RowOut k56 w W [o] (.slice (some ⟨g, 0, none⟩) 1 1) :=
  ⟨_, _, rfl, Nat.le_refl _, fun W' hW => C_opd1 o ((hW g hg (blk_lt h)).trans h)⟩
def stv (x p : ByteArray) (v : Value) : Array Value := #[.int .i64 3, .string x, .string ⟨#[]⟩, .string p, v, .slice none 0 0, .slice none 0 0, .slice none 0 0]
def stz : Array Value := #[.int .i64 0, .string ⟨#[]⟩, .string ⟨#[]⟩, .string ⟨#[]⟩, .slice none 0 0, .slice none 0 0, .slice none 0 0, .slice none 0 0]
structure SetS (w : World) (g4 g5 g21 g22 : Nat) (S1 S2 : Array Value) (o : S56) (x p : ByteArray) (done : Nat → Bool) (val : Nat → Value) (W : World) : Prop where
  be : Below w.heap.size w W
  b21 : W.heap[g21]? = some (.cells S1 78 (0, 0))
  b22 : W.heap[g22]? = some (.cells #[.int .i64 o.f0, .int .i64 o.f1, .string o.f2] 56 (0, 0))
  b4 : W.heap[g4]? = some (.cells (if done 7 = true then S2 else #[.slice none 0 0, .int .i64 0, .int .i64 0, .int .i64 0, .int .i64 0, .int .i64 0]) 78 (0, 0))
  b5 : done 8 = false → W.heap[g5]? = some (.cells stz 46 (0, 0))
  b5' : done 8 = true → W.heap[g5]? = some (.cells (stv x p (val 5)) 46 (0, 0)) ∧ done 5 = true
  v0 : done 0 = true → val 0 = .agg S1
  v1 : done 1 = true → val 1 = .agg S2
  v2 : done 2 = true → val 2 = .string x
  v3 : done 3 = true → val 3 = .string p
  v4 : done 4 = true → val 4 = .agg #[.int .i64 o.f0, .int .i64 o.f1, .string o.f2]
  v5 : done 5 = true → ∃ g, val 5 = .slice (some ⟨g, 0, none⟩) 1 1 ∧ w.heap.size ≤ g ∧ W.heap[g]? = some (.cells #[.int .i64 o.f0, .int .i64 o.f1, .string o.f2] 56 (0, 0))
  v6 : done 6 = true → val 6 = .agg (stv x p (val 5)) ∧ done 5 = true
section
variable {w W W1 : World} {g4 g5 g21 g22 : Nat} {S1 S2 : Array Value} {o : S56} {x p : ByteArray} {done : Nat → Bool} {val : Nat → Value}
theorem SetS.below (h : SetS w g4 g5 g21 g22 S1 S2 o x p done val W) (hb : Below W.heap.size W W1) : SetS w g4 g5 g21 g22 S1 S2 o x p done val W1 :=
  { be := below_step h.be hb, b21 := blk_below h.b21 hb, b22 := blk_below h.b22 hb, b4 := blk_below h.b4 hb, b5 := fun e => blk_below (h.b5 e) hb, b5' := fun e => ⟨blk_below (h.b5' e).1 hb, (h.b5' e).2⟩, v0 := h.v0, v1 := h.v1, v2 := h.v2, v3 := h.v3, v4 := h.v4, v5 := fun e => (by obtain ⟨g, e1, e2, e3⟩ := h.v5 e; exact ⟨g, e1, e2, blk_below e3 hb⟩), v6 := h.v6 }
theorem SetS.do0 (h : SetS w g4 g5 g21 g22 S1 S2 o x p done val W) (hd : done 0 = false) : SetS w g4 g5 g21 g22 S1 S2 o x p (upd done 0) (setv val 0 (.agg S1)) W := by
  exact { be := h.be, b21 := h.b21, b22 := h.b22, b4 := (by simpa [upd] using h.b4), b5 := (by simpa [upd] using h.b5), b5' := (by simpa [upd, setv] using h.b5'), v0 := (fun _ => by simp [setv]), v1 := (by simpa [upd, setv] using h.v1), v2 := (by simpa [upd, setv] using h.v2), v3 := (by simpa [upd, setv] using h.v3), v4 := (by simpa [upd, setv] using h.v4), v5 := (by simpa [upd, setv] using h.v5), v6 := (by simpa [upd, setv] using h.v6) }
theorem SetS.do1 (h : SetS w g4 g5 g21 g22 S1 S2 o x p done val W) (hd : done 1 = false) : SetS w g4 g5 g21 g22 S1 S2 o x p (upd done 1) (setv val 1 (.agg S2)) W := by
  exact { be := h.be, b21 := h.b21, b22 := h.b22, b4 := (by simpa [upd] using h.b4), b5 := (by simpa [upd] using h.b5), b5' := (by simpa [upd, setv] using h.b5'), v0 := (by simpa [upd, setv] using h.v0), v1 := (fun _ => by simp [setv]), v2 := (by simpa [upd, setv] using h.v2), v3 := (by simpa [upd, setv] using h.v3), v4 := (by simpa [upd, setv] using h.v4), v5 := (by simpa [upd, setv] using h.v5), v6 := (by simpa [upd, setv] using h.v6) }
theorem SetS.do2 (h : SetS w g4 g5 g21 g22 S1 S2 o x p done val W) (hd : done 2 = false) : SetS w g4 g5 g21 g22 S1 S2 o x p (upd done 2) (setv val 2 (.string x)) W := by
  exact { be := h.be, b21 := h.b21, b22 := h.b22, b4 := (by simpa [upd] using h.b4), b5 := (by simpa [upd] using h.b5), b5' := (by simpa [upd, setv] using h.b5'), v0 := (by simpa [upd, setv] using h.v0), v1 := (by simpa [upd, setv] using h.v1), v2 := (fun _ => by simp [setv]), v3 := (by simpa [upd, setv] using h.v3), v4 := (by simpa [upd, setv] using h.v4), v5 := (by simpa [upd, setv] using h.v5), v6 := (by simpa [upd, setv] using h.v6) }
theorem SetS.do3 (h : SetS w g4 g5 g21 g22 S1 S2 o x p done val W) (hd : done 3 = false) : SetS w g4 g5 g21 g22 S1 S2 o x p (upd done 3) (setv val 3 (.string p)) W := by
  exact { be := h.be, b21 := h.b21, b22 := h.b22, b4 := (by simpa [upd] using h.b4), b5 := (by simpa [upd] using h.b5), b5' := (by simpa [upd, setv] using h.b5'), v0 := (by simpa [upd, setv] using h.v0), v1 := (by simpa [upd, setv] using h.v1), v2 := (by simpa [upd, setv] using h.v2), v3 := (fun _ => by simp [setv]), v4 := (by simpa [upd, setv] using h.v4), v5 := (by simpa [upd, setv] using h.v5), v6 := (by simpa [upd, setv] using h.v6) }
theorem SetS.do4 (h : SetS w g4 g5 g21 g22 S1 S2 o x p done val W) (hd : done 4 = false) : SetS w g4 g5 g21 g22 S1 S2 o x p (upd done 4) (setv val 4 (.agg #[.int .i64 o.f0, .int .i64 o.f1, .string o.f2])) W := by
  exact { be := h.be, b21 := h.b21, b22 := h.b22, b4 := (by simpa [upd] using h.b4), b5 := (by simpa [upd] using h.b5), b5' := (by simpa [upd, setv] using h.b5'), v0 := (by simpa [upd, setv] using h.v0), v1 := (by simpa [upd, setv] using h.v1), v2 := (by simpa [upd, setv] using h.v2), v3 := (by simpa [upd, setv] using h.v3), v4 := (fun _ => by simp [setv]), v5 := (by simpa [upd, setv] using h.v5), v6 := (by simpa [upd, setv] using h.v6) }
theorem SetS.do5 (h : SetS w g4 g5 g21 g22 S1 S2 o x p done val W) {g : Nat} (hg : w.heap.size ≤ g) (hx : W.heap[g]? = some (.cells #[.int .i64 o.f0, .int .i64 o.f1, .string o.f2] 56 (0, 0))) (hd : done 5 = false) : SetS w g4 g5 g21 g22 S1 S2 o x p (upd done 5) (setv val 5 (.slice (some ⟨g, 0, none⟩) 1 1)) W := by
  have n6 : done 6 = false := by
    cases e : done 6 with
    | false => rfl
    | true => rw [(h.v6 e).2] at hd; cases hd
  have n8 : done 8 = false := by
    cases e : done 8 with
    | false => rfl
    | true => rw [(h.b5' e).2] at hd; cases hd
  exact { be := h.be, b21 := h.b21, b22 := h.b22, b4 := (by simpa [upd] using h.b4), b5 := (by simpa [upd] using h.b5), b5' := (by intro e; simp [upd, n8] at e), v0 := (by simpa [upd, setv] using h.v0), v1 := (by simpa [upd, setv] using h.v1), v2 := (by simpa [upd, setv] using h.v2), v3 := (by simpa [upd, setv] using h.v3), v4 := (by simpa [upd, setv] using h.v4), v5 := (fun _ => ⟨g, by simp [setv], hg, hx⟩), v6 := (by intro e; simp [upd, n6] at e) }
theorem SetS.do6 (h : SetS w g4 g5 g21 g22 S1 S2 o x p done val W) (h5 : done 5 = true) (hd : done 6 = false) : SetS w g4 g5 g21 g22 S1 S2 o x p (upd done 6) (setv val 6 (.agg (stv x p (val 5)))) W := by
  exact { be := h.be, b21 := h.b21, b22 := h.b22, b4 := (by simpa [upd] using h.b4), b5 := (by simpa [upd] using h.b5), b5' := (by simpa [upd, setv] using h.b5'), v0 := (by simpa [upd, setv] using h.v0), v1 := (by simpa [upd, setv] using h.v1), v2 := (by simpa [upd, setv] using h.v2), v3 := (by simpa [upd, setv] using h.v3), v4 := (by simpa [upd, setv] using h.v4), v5 := (by simpa [upd, setv] using h.v5), v6 := (fun _ => ⟨by simp [setv], by simpa [upd] using h5⟩) }
theorem SetS.do7 (h : SetS w g4 g5 g21 g22 S1 S2 o x p done val W) (hd : done 7 = false) (h4 : w.heap.size ≤ g4) (m1 : g21 ≠ g4) (m2 : g5 ≠ g4) (hx : W1.heap[g4]? = some (.cells S2 78 (0, 0))) (hp : Puts W W1 g4) (r : Value) : SetS w g4 g5 g21 g22 S1 S2 o x p (upd done 7) (setv val 7 r) W1 := by
  have hne : ∀ (g : Nat) (cs : Array Value), W.heap[g]? = some (.cells cs 56 (0, 0)) → g ≠ g4 := fun g cs h1 e => by
    have h2 := h.b4
    rw [← e, h1] at h2
    have h3 : (56 : TypeId) = 78 := by injection (Option.some.inj h2)
    exact absurd h3 (by decide)
  exact { be := hp.below w h4 h.be, b21 := hp.far _ _ m1 h.b21, b22 := hp.far _ _ (hne _ _ h.b22) h.b22, b4 := (by simpa [upd] using hx), b5 := (fun e => hp.far _ _ m2 (h.b5 (by simpa [upd] using e))), b5' := (fun e => ⟨(by simpa [setv] using hp.far _ _ m2 (h.b5' (by simpa [upd] using e)).1), (by simpa [upd] using (h.b5' (by simpa [upd] using e)).2)⟩), v0 := (by simpa [upd, setv] using h.v0), v1 := (by simpa [upd, setv] using h.v1), v2 := (by simpa [upd, setv] using h.v2), v3 := (by simpa [upd, setv] using h.v3), v4 := (by simpa [upd, setv] using h.v4), v5 := (fun e => let ⟨g, e1, e2, e3⟩ := h.v5 (by simpa [upd] using e); ⟨g, by simpa [setv] using e1, e2, hp.far _ _ (hne _ _ e3) e3⟩), v6 := (by simpa [upd, setv] using h.v6) }
theorem SetS.do8 (h : SetS w g4 g5 g21 g22 S1 S2 o x p done val W) (hd : done 8 = false) (h5d : done 5 = true) (h4 : w.heap.size ≤ g5) (m1 : g21 ≠ g5) (m2 : g4 ≠ g5) (hx : W1.heap[g5]? = some (.cells (stv x p (val 5)) 46 (0, 0))) (hp : Puts W W1 g5) (r : Value) : SetS w g4 g5 g21 g22 S1 S2 o x p (upd done 8) (setv val 8 r) W1 := by
  have hne : ∀ (g : Nat) (cs : Array Value), W.heap[g]? = some (.cells cs 56 (0, 0)) → g ≠ g5 := fun g cs h1 e => by
    have h2 := h.b5 hd
    rw [← e, h1] at h2
    have h3 : (56 : TypeId) = 46 := by injection (Option.some.inj h2)
    exact absurd h3 (by decide)
  exact { be := hp.below w h4 h.be, b21 := hp.far _ _ m1 h.b21, b22 := hp.far _ _ (hne _ _ h.b22) h.b22, b4 := (by simpa [upd] using hp.far _ _ m2 h.b4), b5 := (by simp [upd]), b5' := (fun _ => ⟨by simpa [setv] using hx, by simpa [upd] using h5d⟩), v0 := (by simpa [upd, setv] using h.v0), v1 := (by simpa [upd, setv] using h.v1), v2 := (by simpa [upd, setv] using h.v2), v3 := (by simpa [upd, setv] using h.v3), v4 := (by simpa [upd, setv] using h.v4), v5 := (fun e => let ⟨g, e1, e2, e3⟩ := h.v5 (by simpa [upd] using e); ⟨g, by simpa [setv] using e1, e2, hp.far _ _ (hne _ _ e3) e3⟩), v6 := (by simpa [upd, setv] using h.v6) }
end
def OpdAt (T : List S76) (ad : Addr) (c : Nat) (i j e n o0 o1 : Int) (o2 : ByteArray) : Prop := ∀ w : World, Kd.C k76 w (some ad) T.length T → Calls Try.prog 76 #[.agg #[.slice (some ad) T.length c, .int .i64 i, .int .i64 e, .int .i64 n, .int .i64 0, .int .i64 0]] w fun x w' => x = .returned (.tuple #[.agg #[.slice (some ad) T.length c, .int .i64 j, .int .i64 e, .int .i64 n, .int .i64 0, .int .i64 0], .agg #[.int .i64 o0, .int .i64 o1, .string o2]]) ∧ Below w.heap.size w w'
theorem OpdAt.go {T : List S76} {ad : Addr} {c : Nat} {i j e n o0 o1 : Int} {o2 : ByteArray} (h : OpdAt T ad c i j e n o0 o1 o2) (w : World) (hC : Kd.C k76 w (some ad) T.length T) : Calls Try.prog 76 #[.agg #[.slice (some ad) T.length c, .int .i64 i, .int .i64 e, .int .i64 n, .int .i64 0, .int .i64 0]] w fun x w' => x = .returned (.tuple #[.agg #[.slice (some ad) T.length c, .int .i64 j, .int .i64 e, .int .i64 n, .int .i64 0, .int .i64 0], .agg #[.int .i64 o0, .int .i64 o1, .string o2]]) ∧ Below w.heap.size w w' := h w hC
set_option maxRecDepth 100000 in
set_option maxHeartbeats 16000000 in
theorem stmt_set (k : Nat) (T : List S76) (ad : Addr) (c : Nat) (i e n : Int) (w : World) (hc : T.length ≤ c) (hC : Kd.C k76 w (some ad) T.length T) (hT : T.length ≤ 65536) (hi : 0 ≤ i) (hn : i + 1 + 1 + 1 < T.length) (j o0 o1 d : Int) (o2 : ByteArray) (h2000 : n < 2000) (h00 : 0 ≤ n) (hj : 0 ≤ j) (hjn : j < T.length)
    (h0 : r02_isName.f k T i e n 0 0 = some true) (h1 : r02_is.f k T i e (n + 1) 0 0 (⟨#[105, 102]⟩ : ByteArray) = some false) (h2 : r02_is.f k T i e (n + 1) 0 0 (⟨#[119, 104, 105, 108, 101]⟩ : ByteArray) = some false) (h3 : r02_is.f k T i e (n + 1) 0 0 (⟨#[111, 117, 116]⟩ : ByteArray) = some false) (h4 : r02_is.f k T i e (n + 1) 0 0 (⟨#[114, 101, 116, 117, 114, 110]⟩ : ByteArray) = some false) (h5 : r02_isName.f k T i e (n + 1) 0 0 = some true) (h6 : r02_is.f k T (i + 1) e (n + 1) 0 0 (⟨#[46]⟩ : ByteArray) = some true) (h7 : r02_isName.f k T (i + 1 + 1) e (n + 1) 0 0 = some true) (h8 : r02_is.f k T (i + 1 + 1 + 1) e (n + 1) 0 0 (⟨#[61]⟩ : ByteArray) = some true) (hv : OpdAt T ad c (i + 1 + 1 + 1 + 1) j e (n + 1) o0 o1 o2) (h9 : r02_is.f k T j e (n + 1) 0 0 (⟨#[59]⟩ : ByteArray) = some true) :
    Calls Try.prog 62 #[.agg #[.slice (some ad) T.length c, .int .i64 i, .int .i64 e, .int .i64 n, .int .i64 0, .int .i64 0], .int .i64 d] w fun x w' => ∃ v, x = .returned (.tuple #[.agg #[.slice (some ad) T.length c, .int .i64 (j + 1), .int .i64 e, .int .i64 (n + 1), .int .i64 0, .int .i64 0], .agg #[.int .i64 3, .string (rd_T76 T i).f1, .string ⟨#[]⟩, .string (rd_T76 T (i + 1 + 1)).f1, v, .slice none 0 0, .slice none 0 0, .slice none 0 0]]) ∧ RowOut k56 w w' [⟨o0, o1, o2⟩] v ∧ Below w.heap.size w w' := by
  have HB := Lib.hid (Below.refl w.heap.size w)
  have K0 := Lib.hid hC
  clear hC
  go_enter Try.func62, Try.ntmps62
  go_upto_region 32 with (first
    | ((with_reducible refine gate_dst (N := 2) rfl ?_); refine box_event ?hg (N := 2) ?hd (cs := #[.slice (some ad) T.length c, .int .i64 i, .int .i64 e, .int .i64 n, .int .i64 0, .int .i64 0]) (t := 78) ?hr ?_; (case hd => rfl); (case hg => rfl); (case hr => first | (go_simp; done) | (go_simp; rfl)); intro g2 hg w1 hx hb; have G2 := Lib.hid (show w.heap.size ≤ g2 by rw [hg]; exact HB.out.size); have HB := Lib.hid (below_step HB.out hb); have B2 := Lib.hid (Six.mk hx); clear hx hb hg; have k2 := And.intro B2.out.c B2.out.f)
    | ((with_reducible refine gate_dst (N := 4) rfl ?_); refine box_event ?hg (N := 4) ?hd (cs := #[.slice none 0 0, .int .i64 0, .int .i64 0, .int .i64 0, .int .i64 0, .int .i64 0]) (t := 78) ?hr ?_; (case hd => rfl); (case hg => rfl); (case hr => first | (go_simp; done) | (go_simp; rfl)); intro g4 hg w1 hx hb; clear k2; have N2_4 := Lib.hid (ne_of_blk B2.out.b hg); have G4 := Lib.hid (show w.heap.size ≤ g4 by rw [hg]; exact HB.out.size); have B2 := Lib.hid (B2.out.below hb); have HB := Lib.hid (below_step HB.out hb); have B4 := Lib.hid (Six.mk hx); clear hx hb hg; have k2 := And.intro B2.out.c B2.out.f; have k4 := And.intro B4.out.c B4.out.f)
    | ((with_reducible refine gate_dst (N := 5) rfl ?_); refine box_event ?hg (N := 5) ?hd (cs := #[.int .i64 0, .string ⟨#[]⟩, .string ⟨#[]⟩, .string ⟨#[]⟩, .slice none 0 0, .slice none 0 0, .slice none 0 0, .slice none 0 0]) (t := 46) ?hr ?_; (case hd => rfl); (case hg => rfl); (case hr => first | (go_simp; done) | (go_simp; rfl)); intro g5 hg w1 hx hb; clear k2 k4; have N2_5 := Lib.hid (ne_of_blk B2.out.b hg); have N4_5 := Lib.hid (ne_of_blk B4.out.b hg); have G5 := Lib.hid (show w.heap.size ≤ g5 by rw [hg]; exact HB.out.size); have B2 := Lib.hid (B2.out.below hb); have B4 := Lib.hid (B4.out.below hb); have HB := Lib.hid (below_step HB.out hb); have B5 := Lib.hid (Stm.mk hx); clear hx hb hg; have k2 := And.intro B2.out.c B2.out.f; have k4 := And.intro B4.out.c B4.out.f; have k5 := And.intro B5.out.c B5.out.f)
    | ((with_reducible refine gate_dst (N := 6) rfl ?_); refine box_event ?hg (N := 6) ?hd (cs := #[.int .i64 0, .string ⟨#[]⟩, .string ⟨#[]⟩, .string ⟨#[]⟩, .slice none 0 0, .slice none 0 0, .slice none 0 0, .slice none 0 0]) (t := 46) ?hr ?_; (case hd => rfl); (case hg => rfl); (case hr => first | (go_simp; done) | (go_simp; rfl)); intro g6 hg w1 hx hb; clear k2 k4 k5; have N2_6 := Lib.hid (ne_of_blk B2.out.b hg); have N4_6 := Lib.hid (ne_of_blk B4.out.b hg); have N5_6 := Lib.hid (ne_of_blk B5.out.b hg); have G6 := Lib.hid (show w.heap.size ≤ g6 by rw [hg]; exact HB.out.size); have B2 := Lib.hid (B2.out.below hb); have B4 := Lib.hid (B4.out.below hb); have B5 := Lib.hid (B5.out.below hb); have HB := Lib.hid (below_step HB.out hb); have B6 := Lib.hid (Stm.mk hx); clear hx hb hg; have k2 := And.intro B2.out.c B2.out.f; have k4 := And.intro B4.out.c B4.out.f; have k5 := And.intro B5.out.c B5.out.f; have k6 := And.intro B6.out.c B6.out.f)
    | ((with_reducible refine gate_store (t := 46) (p := 6) rfl ?_); refine st_event rfl rfl rfl [.int .i64 0, .string ⟨#[]⟩, .string ⟨#[]⟩, .string ⟨#[]⟩, .slice none 0 0, .slice none 0 0, .slice none 0 0, .slice none 0 0] B6.out.b rfl ?hv sizeStm rfl ?h1 ?_; (case hv => rfl); (case h1 => (intro q hq; simp only [List.mem_cons, List.not_mem_nil, or_false] at hq; rcases hq with rfl | rfl | rfl | rfl | rfl | rfl | rfl | rfl <;> rfl)); intro w1 hx hp; clear k2 k4 k5 k6; have B2 := Lib.hid (B2.out.far' hp (N2_6.out)); have B4 := Lib.hid (B4.out.far' hp (N4_6.out)); have B5 := Lib.hid (B5.out.far' hp (N5_6.out)); have HB := Lib.hid (hp.below _ G6.out HB.out); have B6 := Lib.hid (Stm.mk hx); clear hx hp; have k2 := And.intro B2.out.c B2.out.f; have k4 := And.intro B4.out.c B4.out.f; have k5 := And.intro B5.out.c B5.out.f; have k6 := And.intro B6.out.c B6.out.f)
    | (go_at_call 59; with_reducible refine (r02_isName.calls k (some ad) c T i e n 0 0 true _ (Kd.C_below K0.out HB.out) hc h0).mono ?_; rintro x w1 ⟨rfl, hb⟩; clear k2 k4 k5 k6; have B2 := Lib.hid (B2.out.below hb); have B4 := Lib.hid (B4.out.below hb); have B5 := Lib.hid (B5.out.below hb); have B6 := Lib.hid (B6.out.below hb); have HB := Lib.hid (below_step HB.out hb); clear hb; have k2 := And.intro B2.out.c B2.out.f; have k4 := And.intro B4.out.c B4.out.f; have k5 := And.intro B5.out.c B5.out.f; have k6 := And.intro B6.out.c B6.out.f)
    | ((with_reducible refine gate_store (t := 3) (p := 61) rfl ?_); refine st1_event rfl rfl rfl (.int .i64 (n + 1)) B2.out.b rfl ?hv rfl sizeT3 (Nat.le_of_ble_eq_true rfl) rfl ?_; (case hv => first | rfl | (go_simp; done) | (go_simp; rfl)); intro w1 hx hp; clear k2 k4 k5 k6; have B4 := Lib.hid (B4.out.far' hp (Ne.symm N2_4.out)); have B5 := Lib.hid (B5.out.far' hp (Ne.symm N2_5.out)); have B6 := Lib.hid (B6.out.far' hp (Ne.symm N2_6.out)); have HB := Lib.hid (hp.below _ G2.out HB.out); have B2 := Lib.hid (Six.mk hx); clear hx hp; have k2 := And.intro B2.out.c B2.out.f; have k4 := And.intro B4.out.c B4.out.f; have k5 := And.intro B5.out.c B5.out.f; have k6 := And.intro B6.out.c B6.out.f)
    | (go_at_call 61; with_reducible refine (r02_is.calls k (some ad) c T i e (n + 1) 0 0 (⟨#[105, 102]⟩ : ByteArray) false _ (Kd.C_below K0.out HB.out) hc h1).mono ?_; rintro x w1 ⟨rfl, hb⟩; clear k2 k4 k5 k6; have B2 := Lib.hid (B2.out.below hb); have B4 := Lib.hid (B4.out.below hb); have B5 := Lib.hid (B5.out.below hb); have B6 := Lib.hid (B6.out.below hb); have HB := Lib.hid (below_step HB.out hb); clear hb; have k2 := And.intro B2.out.c B2.out.f; have k4 := And.intro B4.out.c B4.out.f; have k5 := And.intro B5.out.c B5.out.f; have k6 := And.intro B6.out.c B6.out.f)
    | (go_at_call 61; with_reducible refine (r02_is.calls k (some ad) c T i e (n + 1) 0 0 (⟨#[119, 104, 105, 108, 101]⟩ : ByteArray) false _ (Kd.C_below K0.out HB.out) hc h2).mono ?_; rintro x w1 ⟨rfl, hb⟩; clear k2 k4 k5 k6; have B2 := Lib.hid (B2.out.below hb); have B4 := Lib.hid (B4.out.below hb); have B5 := Lib.hid (B5.out.below hb); have B6 := Lib.hid (B6.out.below hb); have HB := Lib.hid (below_step HB.out hb); clear hb; have k2 := And.intro B2.out.c B2.out.f; have k4 := And.intro B4.out.c B4.out.f; have k5 := And.intro B5.out.c B5.out.f; have k6 := And.intro B6.out.c B6.out.f)
    | (go_at_call 61; with_reducible refine (r02_is.calls k (some ad) c T i e (n + 1) 0 0 (⟨#[111, 117, 116]⟩ : ByteArray) false _ (Kd.C_below K0.out HB.out) hc h3).mono ?_; rintro x w1 ⟨rfl, hb⟩; clear k2 k4 k5 k6; have B2 := Lib.hid (B2.out.below hb); have B4 := Lib.hid (B4.out.below hb); have B5 := Lib.hid (B5.out.below hb); have B6 := Lib.hid (B6.out.below hb); have HB := Lib.hid (below_step HB.out hb); clear hb; have k2 := And.intro B2.out.c B2.out.f; have k4 := And.intro B4.out.c B4.out.f; have k5 := And.intro B5.out.c B5.out.f; have k6 := And.intro B6.out.c B6.out.f)
    | (go_at_call 61; with_reducible refine (r02_is.calls k (some ad) c T i e (n + 1) 0 0 (⟨#[114, 101, 116, 117, 114, 110]⟩ : ByteArray) false _ (Kd.C_below K0.out HB.out) hc h4).mono ?_; rintro x w1 ⟨rfl, hb⟩; clear k2 k4 k5 k6; have B2 := Lib.hid (B2.out.below hb); have B4 := Lib.hid (B4.out.below hb); have B5 := Lib.hid (B5.out.below hb); have B6 := Lib.hid (B6.out.below hb); have HB := Lib.hid (below_step HB.out hb); clear hb; have k2 := And.intro B2.out.c B2.out.f; have k4 := And.intro B4.out.c B4.out.f; have k5 := And.intro B5.out.c B5.out.f; have k6 := And.intro B6.out.c B6.out.f)
    | (go_at_call 51; with_reducible refine (name_at k T (some ad) c i e (n + 1) _ hc (Kd.C_below K0.out HB.out) hT hi (by omega) h5).mono ?_; rintro x w1 ⟨rfl, hb⟩; clear k2 k4 k5 k6; have B2 := Lib.hid (B2.out.below hb); have B4 := Lib.hid (B4.out.below hb); have B5 := Lib.hid (B5.out.below hb); have B6 := Lib.hid (B6.out.below hb); have HB := Lib.hid (below_step HB.out hb); clear hb; have k2 := And.intro B2.out.c B2.out.f; have k4 := And.intro B4.out.c B4.out.f; have k5 := And.intro B5.out.c B5.out.f; have k6 := And.intro B6.out.c B6.out.f)
    | ((with_reducible refine gate_dst (N := 17) rfl ?_); refine box_event ?hg (N := 17) ?hd (cs := #[.slice none 0 0, .int .i64 0, .int .i64 0, .int .i64 0, .int .i64 0, .int .i64 0]) (t := 78) ?hr ?_; (case hd => rfl); (case hg => rfl); (case hr => first | (go_simp; done) | (go_simp; rfl)); intro g17 hg w1 hx hb; clear k2 k4 k5 k6; have N2_17 := Lib.hid (ne_of_blk B2.out.b hg); have N4_17 := Lib.hid (ne_of_blk B4.out.b hg); have N5_17 := Lib.hid (ne_of_blk B5.out.b hg); have N6_17 := Lib.hid (ne_of_blk B6.out.b hg); have G17 := Lib.hid (show w.heap.size ≤ g17 by rw [hg]; exact HB.out.size); have B2 := Lib.hid (B2.out.below hb); have B4 := Lib.hid (B4.out.below hb); have B5 := Lib.hid (B5.out.below hb); have B6 := Lib.hid (B6.out.below hb); have HB := Lib.hid (below_step HB.out hb); have B17 := Lib.hid (Six.mk hx); clear hx hb hg; have k2 := And.intro B2.out.c B2.out.f; have k4 := And.intro B4.out.c B4.out.f; have k5 := And.intro B5.out.c B5.out.f; have k6 := And.intro B6.out.c B6.out.f; have k17 := And.intro B17.out.c B17.out.f)
    | ((with_reducible refine gate_store (t := 78) (p := 17) rfl ?_); refine st_event rfl rfl rfl [.slice (some ad) T.length c, .int .i64 (i + 1), .int .i64 e, .int .i64 (n + 1), .int .i64 0, .int .i64 0] B17.out.b rfl ?hv sizeSix rfl ?h1 ?_; (case hv => rfl); (case h1 => (intro q hq; simp only [List.mem_cons, List.not_mem_nil, or_false] at hq; rcases hq with rfl | rfl | rfl | rfl | rfl | rfl <;> rfl)); intro w1 hx hp; clear k2 k4 k5 k6 k17; have B2 := Lib.hid (B2.out.far' hp (N2_17.out)); have B4 := Lib.hid (B4.out.far' hp (N4_17.out)); have B5 := Lib.hid (B5.out.far' hp (N5_17.out)); have B6 := Lib.hid (B6.out.far' hp (N6_17.out)); have HB := Lib.hid (hp.below _ G17.out HB.out); have B17 := Lib.hid (Six.mk hx); clear hx hp; have k2 := And.intro B2.out.c B2.out.f; have k4 := And.intro B4.out.c B4.out.f; have k5 := And.intro B5.out.c B5.out.f; have k6 := And.intro B6.out.c B6.out.f; have k17 := And.intro B17.out.c B17.out.f)
    | (go_at_call 61; with_reducible refine (r02_is.calls k (some ad) c T (i + 1) e (n + 1) 0 0 (⟨#[46]⟩ : ByteArray) true _ (Kd.C_below K0.out HB.out) hc h6).mono ?_; rintro x w1 ⟨rfl, hb⟩; clear k2 k4 k5 k6 k17; have B2 := Lib.hid (B2.out.below hb); have B4 := Lib.hid (B4.out.below hb); have B5 := Lib.hid (B5.out.below hb); have B6 := Lib.hid (B6.out.below hb); have B17 := Lib.hid (B17.out.below hb); have HB := Lib.hid (below_step HB.out hb); clear hb; have k2 := And.intro B2.out.c B2.out.f; have k4 := And.intro B4.out.c B4.out.f; have k5 := And.intro B5.out.c B5.out.f; have k6 := And.intro B6.out.c B6.out.f; have k17 := And.intro B17.out.c B17.out.f)
    | (go_at_call 52; with_reducible refine (need_at k T (some ad) c (i + 1) e (n + 1) (⟨#[46]⟩ : ByteArray) _ hc (Kd.C_below K0.out HB.out) hT (by omega) (by omega) h6).mono ?_; rintro x w1 ⟨rfl, hb⟩; clear k2 k4 k5 k6 k17; have B2 := Lib.hid (B2.out.below hb); have B4 := Lib.hid (B4.out.below hb); have B5 := Lib.hid (B5.out.below hb); have B6 := Lib.hid (B6.out.below hb); have B17 := Lib.hid (B17.out.below hb); have HB := Lib.hid (below_step HB.out hb); clear hb; have k2 := And.intro B2.out.c B2.out.f; have k4 := And.intro B4.out.c B4.out.f; have k5 := And.intro B5.out.c B5.out.f; have k6 := And.intro B6.out.c B6.out.f; have k17 := And.intro B17.out.c B17.out.f)
    | (go_at_call 51; with_reducible refine (name_at k T (some ad) c (i + 1 + 1) e (n + 1) _ hc (Kd.C_below K0.out HB.out) hT (by omega) (by omega) h7).mono ?_; rintro x w1 ⟨rfl, hb⟩; clear k2 k4 k5 k6 k17; have B2 := Lib.hid (B2.out.below hb); have B4 := Lib.hid (B4.out.below hb); have B5 := Lib.hid (B5.out.below hb); have B6 := Lib.hid (B6.out.below hb); have B17 := Lib.hid (B17.out.below hb); have HB := Lib.hid (below_step HB.out hb); clear hb; have k2 := And.intro B2.out.c B2.out.f; have k4 := And.intro B4.out.c B4.out.f; have k5 := And.intro B5.out.c B5.out.f; have k6 := And.intro B6.out.c B6.out.f; have k17 := And.intro B17.out.c B17.out.f)
    | ((with_reducible refine gate_dst (N := 19) rfl ?_); refine box_event ?hg (N := 19) ?hd (cs := #[.slice none 0 0, .int .i64 0, .int .i64 0, .int .i64 0, .int .i64 0, .int .i64 0]) (t := 78) ?hr ?_; (case hd => rfl); (case hg => rfl); (case hr => first | (go_simp; done) | (go_simp; rfl)); intro g19 hg w1 hx hb; clear k2 k4 k5 k6 k17; have N2_19 := Lib.hid (ne_of_blk B2.out.b hg); have N4_19 := Lib.hid (ne_of_blk B4.out.b hg); have N5_19 := Lib.hid (ne_of_blk B5.out.b hg); have N6_19 := Lib.hid (ne_of_blk B6.out.b hg); have N17_19 := Lib.hid (ne_of_blk B17.out.b hg); have G19 := Lib.hid (show w.heap.size ≤ g19 by rw [hg]; exact HB.out.size); have B2 := Lib.hid (B2.out.below hb); have B4 := Lib.hid (B4.out.below hb); have B5 := Lib.hid (B5.out.below hb); have B6 := Lib.hid (B6.out.below hb); have B17 := Lib.hid (B17.out.below hb); have HB := Lib.hid (below_step HB.out hb); have B19 := Lib.hid (Six.mk hx); clear hx hb hg; have k2 := And.intro B2.out.c B2.out.f; have k4 := And.intro B4.out.c B4.out.f; have k5 := And.intro B5.out.c B5.out.f; have k6 := And.intro B6.out.c B6.out.f; have k17 := And.intro B17.out.c B17.out.f; have k19 := And.intro B19.out.c B19.out.f)
    | ((with_reducible refine gate_store (t := 78) (p := 19) rfl ?_); refine st_event rfl rfl rfl [.slice (some ad) T.length c, .int .i64 (i + 1 + 1 + 1), .int .i64 e, .int .i64 (n + 1), .int .i64 0, .int .i64 0] B19.out.b rfl ?hv sizeSix rfl ?h1 ?_; (case hv => rfl); (case h1 => (intro q hq; simp only [List.mem_cons, List.not_mem_nil, or_false] at hq; rcases hq with rfl | rfl | rfl | rfl | rfl | rfl <;> rfl)); intro w1 hx hp; clear k2 k4 k5 k6 k17 k19; have B2 := Lib.hid (B2.out.far' hp (N2_19.out)); have B4 := Lib.hid (B4.out.far' hp (N4_19.out)); have B5 := Lib.hid (B5.out.far' hp (N5_19.out)); have B6 := Lib.hid (B6.out.far' hp (N6_19.out)); have B17 := Lib.hid (B17.out.far' hp (N17_19.out)); have HB := Lib.hid (hp.below _ G19.out HB.out); have B19 := Lib.hid (Six.mk hx); clear hx hp; have k2 := And.intro B2.out.c B2.out.f; have k4 := And.intro B4.out.c B4.out.f; have k5 := And.intro B5.out.c B5.out.f; have k6 := And.intro B6.out.c B6.out.f; have k17 := And.intro B17.out.c B17.out.f; have k19 := And.intro B19.out.c B19.out.f)
    | (go_at_call 52; with_reducible refine (need_at k T (some ad) c (i + 1 + 1 + 1) e (n + 1) (⟨#[61]⟩ : ByteArray) _ hc (Kd.C_below K0.out HB.out) hT (by omega) hn h8).mono ?_; rintro x w1 ⟨rfl, hb⟩; clear k2 k4 k5 k6 k17 k19; have B2 := Lib.hid (B2.out.below hb); have B4 := Lib.hid (B4.out.below hb); have B5 := Lib.hid (B5.out.below hb); have B6 := Lib.hid (B6.out.below hb); have B17 := Lib.hid (B17.out.below hb); have B19 := Lib.hid (B19.out.below hb); have HB := Lib.hid (below_step HB.out hb); clear hb; have k2 := And.intro B2.out.c B2.out.f; have k4 := And.intro B4.out.c B4.out.f; have k5 := And.intro B5.out.c B5.out.f; have k6 := And.intro B6.out.c B6.out.f; have k17 := And.intro B17.out.c B17.out.f; have k19 := And.intro B19.out.c B19.out.f)
    | (go_at_call 76; with_reducible refine (hv.go _ (Kd.C_below K0.out HB.out)).mono ?_; rintro x w1 ⟨rfl, hb⟩; clear k2 k4 k5 k6 k17 k19; have B2 := Lib.hid (B2.out.below hb); have B4 := Lib.hid (B4.out.below hb); have B5 := Lib.hid (B5.out.below hb); have B6 := Lib.hid (B6.out.below hb); have B17 := Lib.hid (B17.out.below hb); have B19 := Lib.hid (B19.out.below hb); have HB := Lib.hid (below_step HB.out hb); clear hb; have k2 := And.intro B2.out.c B2.out.f; have k4 := And.intro B4.out.c B4.out.f; have k5 := And.intro B5.out.c B5.out.f; have k6 := And.intro B6.out.c B6.out.f; have k17 := And.intro B17.out.c B17.out.f; have k19 := And.intro B19.out.c B19.out.f)
    | ((with_reducible refine gate_dst (N := 21) rfl ?_); refine box_event ?hg (N := 21) ?hd (cs := #[.slice none 0 0, .int .i64 0, .int .i64 0, .int .i64 0, .int .i64 0, .int .i64 0]) (t := 78) ?hr ?_; (case hd => rfl); (case hg => rfl); (case hr => first | (go_simp; done) | (go_simp; rfl)); intro g21 hg w1 hx hb; clear k2 k4 k5 k6 k17 k19; have N2_21 := Lib.hid (ne_of_blk B2.out.b hg); have N4_21 := Lib.hid (ne_of_blk B4.out.b hg); have N5_21 := Lib.hid (ne_of_blk B5.out.b hg); have N6_21 := Lib.hid (ne_of_blk B6.out.b hg); have N17_21 := Lib.hid (ne_of_blk B17.out.b hg); have N19_21 := Lib.hid (ne_of_blk B19.out.b hg); have G21 := Lib.hid (show w.heap.size ≤ g21 by rw [hg]; exact HB.out.size); have B2 := Lib.hid (B2.out.below hb); have B4 := Lib.hid (B4.out.below hb); have B5 := Lib.hid (B5.out.below hb); have B6 := Lib.hid (B6.out.below hb); have B17 := Lib.hid (B17.out.below hb); have B19 := Lib.hid (B19.out.below hb); have HB := Lib.hid (below_step HB.out hb); have B21 := Lib.hid (Six.mk hx); clear hx hb hg; have k2 := And.intro B2.out.c B2.out.f; have k4 := And.intro B4.out.c B4.out.f; have k5 := And.intro B5.out.c B5.out.f; have k6 := And.intro B6.out.c B6.out.f; have k17 := And.intro B17.out.c B17.out.f; have k19 := And.intro B19.out.c B19.out.f; have k21 := And.intro B21.out.c B21.out.f)
    | ((with_reducible refine gate_dst (N := 22) rfl ?_); refine box_event ?hg (N := 22) ?hd (cs := #[.int .i64 0, .int .i64 0, .string ⟨#[]⟩]) (t := 56) ?hr ?_; (case hd => rfl); (case hg => rfl); (case hr => first | (go_simp; done) | (go_simp; rfl)); intro g22 hg w1 hx hb; clear k2 k4 k5 k6 k17 k19 k21; have N2_22 := Lib.hid (ne_of_blk B2.out.b hg); have N4_22 := Lib.hid (ne_of_blk B4.out.b hg); have N5_22 := Lib.hid (ne_of_blk B5.out.b hg); have N6_22 := Lib.hid (ne_of_blk B6.out.b hg); have N17_22 := Lib.hid (ne_of_blk B17.out.b hg); have N19_22 := Lib.hid (ne_of_blk B19.out.b hg); have N21_22 := Lib.hid (ne_of_blk B21.out.b hg); have G22 := Lib.hid (show w.heap.size ≤ g22 by rw [hg]; exact HB.out.size); have B2 := Lib.hid (B2.out.below hb); have B4 := Lib.hid (B4.out.below hb); have B5 := Lib.hid (B5.out.below hb); have B6 := Lib.hid (B6.out.below hb); have B17 := Lib.hid (B17.out.below hb); have B19 := Lib.hid (B19.out.below hb); have B21 := Lib.hid (B21.out.below hb); have HB := Lib.hid (below_step HB.out hb); have B22 := Lib.hid (Tri.mk hx); clear hx hb hg; have k2 := And.intro B2.out.c B2.out.f; have k4 := And.intro B4.out.c B4.out.f; have k5 := And.intro B5.out.c B5.out.f; have k6 := And.intro B6.out.c B6.out.f; have k17 := And.intro B17.out.c B17.out.f; have k19 := And.intro B19.out.c B19.out.f; have k21 := And.intro B21.out.c B21.out.f; have k22 := And.intro B22.out.c B22.out.f)
    | ((with_reducible refine gate_store (t := 78) (p := 21) rfl ?_); refine st_event rfl rfl rfl [.slice (some ad) T.length c, .int .i64 j, .int .i64 e, .int .i64 (n + 1), .int .i64 0, .int .i64 0] B21.out.b rfl ?hv sizeSix rfl ?h1 ?_; (case hv => rfl); (case h1 => (intro q hq; simp only [List.mem_cons, List.not_mem_nil, or_false] at hq; rcases hq with rfl | rfl | rfl | rfl | rfl | rfl <;> rfl)); intro w1 hx hp; clear k2 k4 k5 k6 k17 k19 k21 k22; have B2 := Lib.hid (B2.out.far' hp (N2_21.out)); have B4 := Lib.hid (B4.out.far' hp (N4_21.out)); have B5 := Lib.hid (B5.out.far' hp (N5_21.out)); have B6 := Lib.hid (B6.out.far' hp (N6_21.out)); have B17 := Lib.hid (B17.out.far' hp (N17_21.out)); have B19 := Lib.hid (B19.out.far' hp (N19_21.out)); have B22 := Lib.hid (B22.out.far' hp (Ne.symm N21_22.out)); have HB := Lib.hid (hp.below _ G21.out HB.out); have B21 := Lib.hid (Six.mk hx); clear hx hp; have k2 := And.intro B2.out.c B2.out.f; have k4 := And.intro B4.out.c B4.out.f; have k5 := And.intro B5.out.c B5.out.f; have k6 := And.intro B6.out.c B6.out.f; have k17 := And.intro B17.out.c B17.out.f; have k19 := And.intro B19.out.c B19.out.f; have k21 := And.intro B21.out.c B21.out.f; have k22 := And.intro B22.out.c B22.out.f)
    | ((with_reducible refine gate_store (t := 56) (p := 22) rfl ?_); refine st_event rfl rfl rfl [.int .i64 o0, .int .i64 o1, .string o2] B22.out.b rfl ?hv sizeTri rfl ?h1 ?_; (case hv => rfl); (case h1 => (intro q hq; simp only [List.mem_cons, List.not_mem_nil, or_false] at hq; rcases hq with rfl | rfl | rfl <;> rfl)); intro w1 hx hp; clear k2 k4 k5 k6 k17 k19 k21 k22; have B2 := Lib.hid (B2.out.far' hp (N2_22.out)); have B4 := Lib.hid (B4.out.far' hp (N4_22.out)); have B5 := Lib.hid (B5.out.far' hp (N5_22.out)); have B6 := Lib.hid (B6.out.far' hp (N6_22.out)); have B17 := Lib.hid (B17.out.far' hp (N17_22.out)); have B19 := Lib.hid (B19.out.far' hp (N19_22.out)); have B21 := Lib.hid (B21.out.far' hp (N21_22.out)); have HB := Lib.hid (hp.below _ G22.out HB.out); have B22 := Lib.hid (Tri.mk hx); clear hx hp; have k2 := And.intro B2.out.c B2.out.f; have k4 := And.intro B4.out.c B4.out.f; have k5 := And.intro B5.out.c B5.out.f; have k6 := And.intro B6.out.c B6.out.f; have k17 := And.intro B17.out.c B17.out.f; have k19 := And.intro B19.out.c B19.out.f; have k21 := And.intro B21.out.c B21.out.f; have k22 := And.intro B22.out.c B22.out.f))
  clear k2 k4 k5 k6 k17 k19 k21 k22
  have n1 := N4_5.out
  have n2 := N4_21.out
  have n3 := N5_21.out
  refine (wpIn_wide (n := 5)).1 ?_
  refine wpIn_region_any mixedO ?_
  refine wpAnyIn_flow2 _ (fun _ => undef) (SetS w g4 g5 g21 g22 #[.slice (some ad) T.length c, .int .i64 j, .int .i64 e, .int .i64 (n + 1), .int .i64 0, .int .i64 0] #[.slice (some ad) T.length c, .int .i64 (j + 1), .int .i64 e, .int .i64 (n + 1), .int .i64 0, .int .i64 0] (⟨o0, o1, o2⟩ : S56) (rd_T76 T i).f1 (rd_T76 T (i + 1 + 1)).f1) rfl (by kernel_rfl) _ ?hz ?hst ?hen
  case hz =>
    have hb := below_drew (Below.refl w1.heap.size w1)
    exact { be := below_step HB.out hb, b21 := blk_below B21.out.b hb, b22 := blk_below B22.out.b hb, b4 := blk_below B4.out.b hb, b5 := fun _ => blk_below B5.out.b hb, b5' := fun e => (by cases e), v0 := fun e => (by cases e), v1 := fun e => (by cases e), v2 := fun e => (by cases e), v3 := fun e => (by cases e), v4 := fun e => (by cases e), v5 := fun e => (by cases e), v6 := fun e => (by cases e) }
  case hst =>
    intro m op done val a Z ho hdn hdep hag hS K hK
    have hm : m < 9 := by
      by_cases h : m < 9
      · exact h
      · rw [Array.getElem?_eq_none (by simp; omega)] at ho; cases ho
    obtain ⟨c0, c1, c2, c3, c4, c5⟩ := (Six.mk hS.b21).c
    obtain ⟨d0, d1, d2⟩ := (Tri.mk hS.b22).c
    obtain rfl | rfl | rfl | rfl | rfl | rfl | rfl | rfl | rfl : m = 0 ∨ m = 1 ∨ m = 2 ∨ m = 3 ∨ m = 4 ∨ m = 5 ∨ m = 6 ∨ m = 7 ∨ m = 8 := by omega
    · cases ho
      have e1 : a.eval (.tmp 21) = .pointer (some ⟨g21, 0, none⟩) := hag.keep 21 rfl
      refine wpOpIn_value (i := 0) rfl rfl (fun c h => by cases h) rfl ?_ (hK _ _ (hS.do0 hdn))
      generalize a.eval = ev at e1
      simp [execOp, e1, go_sem, c0, c1, c2, c3, c4, c5]
    · cases ho
      have e1 := (hag.val_ (j := 0) (t := 153) rfl (hdep ⟨0, .data⟩ (by simp) rfl)).trans (hS.v0 (hdep ⟨0, .data⟩ (by simp) rfl))
      refine opIn_callW (f := 52) (R := fun x w' => x = .returned (.agg #[.slice (some ad) T.length c, .int .i64 (j + 1), .int .i64 e, .int .i64 (n + 1), .int .i64 0, .int .i64 0]) ∧ Below Z.heap.size Z w') rfl rfl rfl (fun _ _ => rfl) ?_ ?_
      · simp only [List.map_toArray, List.map_cons, List.map_nil, e1]
        exact need_at k T (some ad) c j e (n + 1) (⟨#[59]⟩ : ByteArray) Z hc (Kd.C_below K0.out hS.be) hT hj hjn h9
      · rintro e' w' ⟨rfl, hb⟩
        exact ⟨_, rfl, hK _ _ ((hS.below hb).do1 hdn)⟩
    · cases ho
      have e1 : a.eval (.tmp 18) = .string (rd_T76 T i).f1 := hag.keep 18 rfl
      refine wpOpIn_value (i := 2) rfl rfl (fun c h => by cases h) rfl ?_ (hK _ _ (hS.do2 hdn))
      generalize a.eval = ev at e1
      simp [execOp, e1, go_sem]
    · cases ho
      have e1 : a.eval (.tmp 20) = .string (rd_T76 T (i + 1 + 1)).f1 := hag.keep 20 rfl
      refine wpOpIn_value (i := 3) rfl rfl (fun c h => by cases h) rfl ?_ (hK _ _ (hS.do3 hdn))
      generalize a.eval = ev at e1
      simp [execOp, e1, go_sem]
    · cases ho
      have e1 : a.eval (.tmp 22) = .pointer (some ⟨g22, 0, none⟩) := hag.keep 22 rfl
      refine wpOpIn_value (i := 4) rfl rfl (fun c h => by cases h) rfl ?_ (hK _ _ (hS.do4 hdn))
      generalize a.eval = ev at e1
      simp [execOp, e1, go_sem, d0, d1, d2]
    · cases ho
      have e1 := (hag.val_ (j := 4) (t := 157) rfl (hdep ⟨4, .data⟩ (by simp) rfl)).trans (hS.v4 (hdep ⟨4, .data⟩ (by simp) rfl))
      refine wpOpIn_value (i := 5) (r := .slice (some ⟨Z.heap.size, 0, none⟩) 1 1) (w' := Z.alloc (.cells #[.int .i64 o0, .int .i64 o1, .string o2] 56 (0, 0))) rfl rfl (fun c h => by cases h) rfl ?_ (hK _ _ ((hS.below (below_alloc (Below.refl _ _) _)).do5 hS.be.size (World.alloc_heap_new _ _) hdn))
      generalize a.eval = ev at e1
      simp [execOp, e1, go_sem]
    · cases ho
      have e2 := (hag.val_ (j := 2) (t := 155) rfl (hdep ⟨2, .data⟩ (by simp) rfl)).trans (hS.v2 (hdep ⟨2, .data⟩ (by simp) rfl))
      have e3 := (hag.val_ (j := 3) (t := 156) rfl (hdep ⟨3, .data⟩ (by simp) rfl)).trans (hS.v3 (hdep ⟨3, .data⟩ (by simp) rfl))
      obtain ⟨g, e5, hg, hx⟩ := hS.v5 (hdep ⟨5, .data⟩ (by simp) rfl)
      have e4 := (hag.val_ (j := 5) (t := 158) rfl (hdep ⟨5, .data⟩ (by simp) rfl)).trans e5
      have hs6 := hS.do6 (hdep ⟨5, .data⟩ (by simp) rfl) hdn
      rw [e5] at hs6
      refine wpOpIn_value (i := 6) rfl rfl (fun c h => by cases h) rfl ?_ (hK _ _ hs6)
      have ec : ∀ v, a.eval (.const v) = v := fun _ => rfl
      generalize a.eval = ev at e2 e3 e4 ec
      simp [execOp, e2, e3, e4, ec, go_sem, stv]
    · cases ho
      have e1 : a.eval (.tmp 4) = .pointer (some ⟨g4, 0, none⟩) := hag.keep 4 rfl
      have e2 := (hag.val_ (j := 1) (t := 154) rfl (hdep ⟨1, .data⟩ (by simp) rfl)).trans (hS.v1 (hdep ⟨1, .data⟩ (by simp) rfl))
      have h4 := hS.b4
      rw [hdn, if_neg (by decide)] at h4
      refine wpOpIn_st rfl rfl (t := 78) (p := 4) (v := .tmp 154) rfl rfl rfl [.slice (some ad) T.length c, .int .i64 (j + 1), .int .i64 e, .int .i64 (n + 1), .int .i64 0, .int .i64 0] h4 e1 (by rw [e2]; rfl) sizeSix rfl ?_ fun w2 hx hp => hK _ _ (hS.do7 hdn G4.out (Ne.symm n2) (Ne.symm n1) hx hp _)
      intro q hq
      simp only [List.mem_cons, List.not_mem_nil, or_false] at hq
      rcases hq with rfl | rfl | rfl | rfl | rfl | rfl <;> rfl
    · cases ho
      have e1 : a.eval (.tmp 5) = .pointer (some ⟨g5, 0, none⟩) := hag.keep 5 rfl
      have h6 := (hdep ⟨6, .data⟩ (by simp) rfl)
      obtain ⟨e2, h5⟩ := hS.v6 h6
      have e3 := (hag.val_ (j := 6) (t := 159) rfl h6).trans e2
      obtain ⟨g, e5, hg, hx⟩ := hS.v5 h5
      refine wpOpIn_st rfl rfl (t := 46) (p := 5) (v := .tmp 159) rfl rfl rfl [.int .i64 3, .string (rd_T76 T i).f1, .string ⟨#[]⟩, .string (rd_T76 T (i + 1 + 1)).f1, val 5, .slice none 0 0, .slice none 0 0, .slice none 0 0] (hS.b5 hdn) e1 (by rw [e3]; rfl) sizeStm rfl ?_ fun w2 hx hp => hK _ _ (hS.do8 hdn h5 G5.out (Ne.symm n3) n1 hx hp _)
      rw [e5]
      intro q hq
      simp only [List.mem_cons, List.not_mem_nil, or_false] at hq
      rcases hq with rfl | rfl | rfl | rfl | rfl | rfl | rfl | rfl <;> rfl
  case hen =>
    intro Z done val hdn hS
    have b4 := hS.b4
    rw [hdn 7 (by decide), if_pos rfl] at b4
    have b5 := (hS.b5' (hdn 8 (by decide))).1
    obtain ⟨g, e5, hg, hx⟩ := hS.v5 (hdn 5 (by decide))
    rw [e5] at b5
    have hbe := hS.be
    clear hS hdn
    simp only [putTmps, dstOf, List.size_toArray, List.length_cons, List.length_nil, Nat.reduceAdd, List.getElem?_toArray, List.getElem?_cons_zero, List.getElem?_cons_succ, Option.bind_some, List.setIfInBounds_toArray, List.set_cons_zero, List.set_cons_succ]
    go_wp2
    refine bodyPost_ret (results_cc rfl _ _ g4 g5 _ _ _ _ (0, 0) (0, 0) _ _ rfl b4 Try.underlying78 rfl (by kernel_rfl) rfl b5 Try.underlying46 rfl (by kernel_rfl)) rfl ?_
    exact ⟨_, rfl, rowOut_opd1 ⟨o0, o1, o2⟩ hg hx, hbe⟩
end Go.Proofs.Ytjiacafeckokeaa.Man

namespace Go.Proofs.Ytjiacafeckokeaa.Man
open Go.RowKit Go.Proofs.Ytjiacafeckokeaa.Pr Go.Proofs.YtjiacafeckokeaaW.PrintWords
attribute [local go_sem] Oper.semAt_some
set_option linter.unusedVariables false
set_option linter.unusedSimpArgs false
def p05aSrc : ByteArray := (⟨#[102, 117, 110, 32, 109, 97, 105, 110, 40, 41, 32, 123, 32, 120, 32, 61, 32, 99, 97, 108, 108, 32, 103, 40, 41, 59, 32, 125]⟩ : ByteArray)
def p05aToks : List S76 := [⟨0, (⟨#[102, 117, 110]⟩ : ByteArray), 0⟩, ⟨0, (⟨#[109, 97, 105, 110]⟩ : ByteArray), 4⟩, ⟨2, (⟨#[40]⟩ : ByteArray), 8⟩, ⟨2, (⟨#[41]⟩ : ByteArray), 9⟩, ⟨2, (⟨#[123]⟩ : ByteArray), 11⟩, ⟨0, (⟨#[120]⟩ : ByteArray), 13⟩, ⟨2, (⟨#[61]⟩ : ByteArray), 15⟩, ⟨0, (⟨#[99, 97, 108, 108]⟩ : ByteArray), 17⟩, ⟨0, (⟨#[103]⟩ : ByteArray), 22⟩, ⟨2, (⟨#[40]⟩ : ByteArray), 23⟩, ⟨2, (⟨#[41]⟩ : ByteArray), 24⟩, ⟨2, (⟨#[59]⟩ : ByteArray), 25⟩, ⟨2, (⟨#[125]⟩ : ByteArray), 27⟩]
theorem p05a_lex : r01_Lex.f 48 p05aSrc = some (p05aToks, 0, 0) := by kernel_rfl
theorem p05a_len : p05aToks.length ≤ 65536 := by decide
set_option maxRecDepth 100000 in
theorem p05a_f0 (ad : Addr) (c : Nat) (hc : p05aToks.length ≤ c) (r : List S32) (hr : Funs 40 p05aToks ad c (p05aSrc.size : Int) r 13 1) : Funs 40 p05aToks ad c (p05aSrc.size : Int) ((⟨(⟨#[109, 97, 105, 110]⟩ : ByteArray), [], [⟨5, (⟨#[120]⟩ : ByteArray), (⟨#[]⟩ : ByteArray), (⟨#[103]⟩ : ByteArray), [], [], [], []⟩]⟩ : S32) :: r) 0 0 :=
  ⟨(by decide), (by decide), (by kernel_rfl), (by kernel_rfl), rfl, 4, 13, 1, (fun w hC => names_none 40 p05aToks ad c 2 (p05aSrc.size : Int) 0 w hc hC p05a_len (by decide) (by decide) (by kernel_rfl) (by kernel_rfl)), (fun w hC => block_at 40 p05aToks ad c 4 (p05aSrc.size : Int) 0 w hc hC p05a_len (by decide) (by decide) 12 1 [⟨5, (⟨#[120]⟩ : ByteArray), (⟨#[]⟩ : ByteArray), (⟨#[103]⟩ : ByteArray), [], [], [], []⟩] (by decide) (by kernel_rfl) ⟨(by kernel_rfl), ⟨rfl, rfl, rfl⟩, 12, 1, (fun w hC => stmt_assign 40 p05aToks ad c 5 (p05aSrc.size : Int) 0 w hc hC p05a_len (by decide) (by decide) 11 5 1 (⟨#[]⟩ : ByteArray) (⟨#[103]⟩ : ByteArray) [] (by decide) (by decide) (by decide) (by decide) (by kernel_rfl) (by kernel_rfl) (by kernel_rfl) (by kernel_rfl) (by kernel_rfl) (by kernel_rfl) (by kernel_rfl) (by kernel_rfl) (fun w hC => value_call 40 p05aToks ad c 7 (p05aSrc.size : Int) 1 w hc hC p05a_len (by decide) (by decide) 11 [] (by kernel_rfl) (by kernel_rfl) (by kernel_rfl) (fun w hC => args_none 40 p05aToks ad c 9 (p05aSrc.size : Int) 1 w hc hC p05a_len (by decide) (by decide) (by kernel_rfl) (by kernel_rfl))) (by kernel_rfl)), ⟨rfl, rfl, (by decide), (by decide), (by kernel_rfl)⟩⟩), hr⟩
def p05aProg : List S32 := [⟨(⟨#[109, 97, 105, 110]⟩ : ByteArray), [], [⟨5, (⟨#[120]⟩ : ByteArray), (⟨#[]⟩ : ByteArray), (⟨#[103]⟩ : ByteArray), [], [], [], []⟩]⟩]
theorem p05a_funs (ad : Addr) (c : Nat) (hc : p05aToks.length ≤ c) : Funs 40 p05aToks ad c (p05aSrc.size : Int) p05aProg 0 0 :=
  p05a_f0 ad c hc _ ((show (13 : Int) = p05aToks.length from rfl))
theorem p05a_parse (w : World) : Calls Try.prog 24 #[.string p05aSrc] w fun x w' => ∃ v, x = .returned (.tuple #[.agg #[v], .agg #[.int .i64 0, .int .i64 0]]) ∧ RowOut k32 w w' p05aProg v ∧ Below w.heap.size w w' :=
  parse_at 40 48 p05aSrc p05aToks p05aProg w p05a_lex (by decide) p05a_len (by decide) (fun ad c hc => p05a_funs ad c hc)
def p05bSrc : ByteArray := (⟨#[102, 117, 110, 32, 109, 97, 105, 110, 40, 41, 32, 123, 32, 120, 32, 61, 32, 99, 97, 108, 108, 32, 103, 40, 121, 41, 59, 32, 120, 46, 112, 32, 61, 32, 38, 32, 103, 59, 32, 125, 32, 102, 117, 110, 32, 103, 40, 97, 41, 32, 123, 32, 122, 32, 61, 32, 97, 46, 113, 59, 32, 125]⟩ : ByteArray)
def p05bToks : List S76 := [⟨0, (⟨#[102, 117, 110]⟩ : ByteArray), 0⟩, ⟨0, (⟨#[109, 97, 105, 110]⟩ : ByteArray), 4⟩, ⟨2, (⟨#[40]⟩ : ByteArray), 8⟩, ⟨2, (⟨#[41]⟩ : ByteArray), 9⟩, ⟨2, (⟨#[123]⟩ : ByteArray), 11⟩, ⟨0, (⟨#[120]⟩ : ByteArray), 13⟩, ⟨2, (⟨#[61]⟩ : ByteArray), 15⟩, ⟨0, (⟨#[99, 97, 108, 108]⟩ : ByteArray), 17⟩, ⟨0, (⟨#[103]⟩ : ByteArray), 22⟩, ⟨2, (⟨#[40]⟩ : ByteArray), 23⟩, ⟨0, (⟨#[121]⟩ : ByteArray), 24⟩, ⟨2, (⟨#[41]⟩ : ByteArray), 25⟩, ⟨2, (⟨#[59]⟩ : ByteArray), 26⟩, ⟨0, (⟨#[120]⟩ : ByteArray), 28⟩, ⟨2, (⟨#[46]⟩ : ByteArray), 29⟩, ⟨0, (⟨#[112]⟩ : ByteArray), 30⟩, ⟨2, (⟨#[61]⟩ : ByteArray), 32⟩, ⟨2, (⟨#[38]⟩ : ByteArray), 34⟩, ⟨0, (⟨#[103]⟩ : ByteArray), 36⟩, ⟨2, (⟨#[59]⟩ : ByteArray), 37⟩, ⟨2, (⟨#[125]⟩ : ByteArray), 39⟩, ⟨0, (⟨#[102, 117, 110]⟩ : ByteArray), 41⟩, ⟨0, (⟨#[103]⟩ : ByteArray), 45⟩, ⟨2, (⟨#[40]⟩ : ByteArray), 46⟩, ⟨0, (⟨#[97]⟩ : ByteArray), 47⟩, ⟨2, (⟨#[41]⟩ : ByteArray), 48⟩, ⟨2, (⟨#[123]⟩ : ByteArray), 50⟩, ⟨0, (⟨#[122]⟩ : ByteArray), 52⟩, ⟨2, (⟨#[61]⟩ : ByteArray), 54⟩, ⟨0, (⟨#[97]⟩ : ByteArray), 56⟩, ⟨2, (⟨#[46]⟩ : ByteArray), 57⟩, ⟨0, (⟨#[113]⟩ : ByteArray), 58⟩, ⟨2, (⟨#[59]⟩ : ByteArray), 59⟩, ⟨2, (⟨#[125]⟩ : ByteArray), 61⟩]
theorem p05b_lex : r01_Lex.f 82 p05bSrc = some (p05bToks, 0, 0) := by kernel_rfl
theorem p05b_len : p05bToks.length ≤ 65536 := by decide
set_option maxRecDepth 100000 in
theorem p05b_f0 (ad : Addr) (c : Nat) (hc : p05bToks.length ≤ c) (r : List S32) (hr : Funs 40 p05bToks ad c (p05bSrc.size : Int) r 21 2) : Funs 40 p05bToks ad c (p05bSrc.size : Int) ((⟨(⟨#[109, 97, 105, 110]⟩ : ByteArray), [], [⟨5, (⟨#[120]⟩ : ByteArray), (⟨#[]⟩ : ByteArray), (⟨#[103]⟩ : ByteArray), [⟨4, 0, (⟨#[121]⟩ : ByteArray)⟩], [], [], []⟩, ⟨3, (⟨#[120]⟩ : ByteArray), (⟨#[]⟩ : ByteArray), (⟨#[112]⟩ : ByteArray), [⟨3, 0, (⟨#[103]⟩ : ByteArray)⟩], [], [], []⟩]⟩ : S32) :: r) 0 0 :=
  ⟨(by decide), (by decide), (by kernel_rfl), (by kernel_rfl), rfl, 4, 21, 2, (fun w hC => names_none 40 p05bToks ad c 2 (p05bSrc.size : Int) 0 w hc hC p05b_len (by decide) (by decide) (by kernel_rfl) (by kernel_rfl)), (fun w hC => block_at 40 p05bToks ad c 4 (p05bSrc.size : Int) 0 w hc hC p05b_len (by decide) (by decide) 20 2 [⟨5, (⟨#[120]⟩ : ByteArray), (⟨#[]⟩ : ByteArray), (⟨#[103]⟩ : ByteArray), [⟨4, 0, (⟨#[121]⟩ : ByteArray)⟩], [], [], []⟩, ⟨3, (⟨#[120]⟩ : ByteArray), (⟨#[]⟩ : ByteArray), (⟨#[112]⟩ : ByteArray), [⟨3, 0, (⟨#[103]⟩ : ByteArray)⟩], [], [], []⟩] (by decide) (by kernel_rfl) ⟨(by kernel_rfl), ⟨rfl, rfl, rfl⟩, 13, 1, (fun w hC => stmt_assign 40 p05bToks ad c 5 (p05bSrc.size : Int) 0 w hc hC p05b_len (by decide) (by decide) 12 5 1 (⟨#[]⟩ : ByteArray) (⟨#[103]⟩ : ByteArray) [⟨4, 0, (⟨#[121]⟩ : ByteArray)⟩] (by decide) (by decide) (by decide) (by decide) (by kernel_rfl) (by kernel_rfl) (by kernel_rfl) (by kernel_rfl) (by kernel_rfl) (by kernel_rfl) (by kernel_rfl) (by kernel_rfl) (fun w hC => value_call 40 p05bToks ad c 7 (p05bSrc.size : Int) 1 w hc hC p05b_len (by decide) (by decide) 12 [⟨4, 0, (⟨#[121]⟩ : ByteArray)⟩] (by kernel_rfl) (by kernel_rfl) (by kernel_rfl) (fun w hC => args_one 40 p05bToks ad c 9 (p05bSrc.size : Int) 1 w hc hC p05b_len (by decide) (by decide) (by kernel_rfl) (by kernel_rfl) (by kernel_rfl) (by kernel_rfl) (by kernel_rfl) (by kernel_rfl) rfl (by kernel_rfl) (by kernel_rfl))) (by kernel_rfl)), ⟨(by kernel_rfl), ⟨rfl, rfl, rfl⟩, 20, 2, (fun w hC => stmt_set 40 p05bToks ad c 13 (p05bSrc.size : Int) 1 w hc hC p05b_len (by decide) (by decide) 19 3 0 1 (⟨#[103]⟩ : ByteArray) (by decide) (by decide) (by decide) (by decide) (by kernel_rfl) (by kernel_rfl) (by kernel_rfl) (by kernel_rfl) (by kernel_rfl) (by kernel_rfl) (by kernel_rfl) (by kernel_rfl) (by kernel_rfl) (fun w hC => operand_ref 40 p05bToks ad c 17 (p05bSrc.size : Int) 2 w hc hC p05b_len (by decide) (by decide) (by kernel_rfl) (by kernel_rfl) (by kernel_rfl) (by kernel_rfl) (by kernel_rfl)) (by kernel_rfl)), ⟨rfl, rfl, (by decide), (by decide), (by kernel_rfl)⟩⟩⟩), hr⟩
set_option maxRecDepth 100000 in
theorem p05b_f1 (ad : Addr) (c : Nat) (hc : p05bToks.length ≤ c) (r : List S32) (hr : Funs 40 p05bToks ad c (p05bSrc.size : Int) r 34 3) : Funs 40 p05bToks ad c (p05bSrc.size : Int) ((⟨(⟨#[103]⟩ : ByteArray), [(⟨#[97]⟩ : ByteArray)], [⟨2, (⟨#[122]⟩ : ByteArray), (⟨#[97]⟩ : ByteArray), (⟨#[113]⟩ : ByteArray), [], [], [], []⟩]⟩ : S32) :: r) 21 2 :=
  ⟨(by decide), (by decide), (by kernel_rfl), (by kernel_rfl), rfl, 26, 34, 3, (fun w hC => names_one 40 p05bToks ad c 23 (p05bSrc.size : Int) 2 w hc hC p05b_len (by decide) (by decide) (by kernel_rfl) (by kernel_rfl) (by kernel_rfl) (by kernel_rfl)), (fun w hC => block_at 40 p05bToks ad c 26 (p05bSrc.size : Int) 2 w hc hC p05b_len (by decide) (by decide) 33 3 [⟨2, (⟨#[122]⟩ : ByteArray), (⟨#[97]⟩ : ByteArray), (⟨#[113]⟩ : ByteArray), [], [], [], []⟩] (by decide) (by kernel_rfl) ⟨(by kernel_rfl), ⟨rfl, rfl, rfl⟩, 33, 3, (fun w hC => stmt_assign 40 p05bToks ad c 27 (p05bSrc.size : Int) 2 w hc hC p05b_len (by decide) (by decide) 32 2 1 (⟨#[97]⟩ : ByteArray) (⟨#[113]⟩ : ByteArray) [] (by decide) (by decide) (by decide) (by decide) (by kernel_rfl) (by kernel_rfl) (by kernel_rfl) (by kernel_rfl) (by kernel_rfl) (by kernel_rfl) (by kernel_rfl) (by kernel_rfl) (fun w hC => value_get 40 p05bToks ad c 29 (p05bSrc.size : Int) 3 w hc hC p05b_len (by decide) (by decide) (by kernel_rfl) (by kernel_rfl) (by kernel_rfl) (by kernel_rfl) (by kernel_rfl) (by kernel_rfl) (by kernel_rfl) rfl (by kernel_rfl) (by kernel_rfl) (by kernel_rfl) (by kernel_rfl) (by kernel_rfl) (by kernel_rfl) (by kernel_rfl) (by kernel_rfl) (by kernel_rfl)) (by kernel_rfl)), ⟨rfl, rfl, (by decide), (by decide), (by kernel_rfl)⟩⟩), hr⟩
def p05bProg : List S32 := [⟨(⟨#[109, 97, 105, 110]⟩ : ByteArray), [], [⟨5, (⟨#[120]⟩ : ByteArray), (⟨#[]⟩ : ByteArray), (⟨#[103]⟩ : ByteArray), [⟨4, 0, (⟨#[121]⟩ : ByteArray)⟩], [], [], []⟩, ⟨3, (⟨#[120]⟩ : ByteArray), (⟨#[]⟩ : ByteArray), (⟨#[112]⟩ : ByteArray), [⟨3, 0, (⟨#[103]⟩ : ByteArray)⟩], [], [], []⟩]⟩, ⟨(⟨#[103]⟩ : ByteArray), [(⟨#[97]⟩ : ByteArray)], [⟨2, (⟨#[122]⟩ : ByteArray), (⟨#[97]⟩ : ByteArray), (⟨#[113]⟩ : ByteArray), [], [], [], []⟩]⟩]
theorem p05b_funs (ad : Addr) (c : Nat) (hc : p05bToks.length ≤ c) : Funs 40 p05bToks ad c (p05bSrc.size : Int) p05bProg 0 0 :=
  p05b_f0 ad c hc _ (p05b_f1 ad c hc _ ((show (34 : Int) = p05bToks.length from rfl)))
theorem p05b_parse (w : World) : Calls Try.prog 24 #[.string p05bSrc] w fun x w' => ∃ v, x = .returned (.tuple #[.agg #[v], .agg #[.int .i64 0, .int .i64 0]]) ∧ RowOut k32 w w' p05bProg v ∧ Below w.heap.size w w' :=
  parse_at 40 82 p05bSrc p05bToks p05bProg w p05b_lex (by decide) p05b_len (by decide) (fun ad c hc => p05b_funs ad c hc)
end Go.Proofs.Ytjiacafeckokeaa.Man

-- Written by wip/xprint.py (the kit's print, run over this seat with some contracts of my own). Not trusted: Lean checks it.
namespace Go.Proofs.Ytjiacafeckokeaa.Pr
open Go.RowKit Go.Proofs.YtjiacafeckokeaaW.PrintWords Go.Proofs.YtjiacafeckokeaaW.PrintLast Go.Proofs.YtjiacafeckokeaaW.PrintMore
attribute [local go_sem] max2_int min2_int max_two min_two max_three min_three max_four min_four   -- for this text's walks alone
set_option linter.unusedVariables false
set_option linter.unusedSimpArgs false
theorem binOp_leq_text_YtjiacafeckokeaaPr3 (t : TypeId) (a b : ByteArray) : binOp .leq t (.string a) (.string b) = pure (.bool (!(Op.bytesLess b.toList a.toList))) := by
  have key : ∀ x y : List UInt8, (Op.bytesLess x y || x == y) = !(Op.bytesLess y x) := by
    intro x
    induction x with
    | nil => intro y; cases y <;> simp [Op.bytesLess]
    | cons p x ih =>
      intro y
      cases y with
      | nil => simp [Op.bytesLess]
      | cons q y =>
        simp only [Op.bytesLess]
        rcases Nat.lt_trichotomy p.toNat q.toNat with h | h | h
        · have h1 : p < q := UInt8.lt_iff_toNat_lt.2 h
          have h2 : ¬ q < p := fun e => by have := UInt8.lt_iff_toNat_lt.1 e; omega
          have h3 : ¬ q = p := fun e => by rw [e] at h; omega
          simp [h1, h2, h3]
        · obtain rfl : p = q := UInt8.toNat_inj.1 h
          have h2 : ¬ p < p := fun e => by have := UInt8.lt_iff_toNat_lt.1 e; omega
          have := ih y
          simp [h2] at this ⊢
          exact this
        · have h1 : q < p := UInt8.lt_iff_toNat_lt.2 h
          have h2 : ¬ p < q := fun e => by have := UInt8.lt_iff_toNat_lt.1 e; omega
          have h3 : ¬ p = q := fun e => by rw [e] at h; omega
          simp [h1, h2, h3]
  simp [binOp, Op.stringOp, key]
attribute [local go_sem] binOp_leq_text_YtjiacafeckokeaaPr3
theorem binOp_leq_text_YtjiacafeckokeaaPr3_geq (t : TypeId) (a b : ByteArray) : binOp .geq t (.string a) (.string b) = pure (.bool (!(Op.bytesLess a.toList b.toList))) := by simp [binOp, Op.stringOp]
attribute [local go_sem] binOp_leq_text_YtjiacafeckokeaaPr3_geq
def r05_Fun.l0 : Nat → ByteArray → Int → List (S32) → Option (Int)
  | 0, _, _, _ => none
  | k + 1, x1, x5, x165000 => if x5 < (x165000.length : Int) then (if 0 ≤ x5 then (if ((rd_T32 x165000 x5).f0).toList = x1.toList then (some x5) else (r05_Fun.l0 k x1 (wrap64 (x5 + 1)) x165000)) else (none)) else (some (-1))
def r05_Fun.f (k : Nat) (l0_0 : List (S32)) (a1 : ByteArray) : Option (Int) := r05_Fun.l0 k a1 0 l0_0
theorem r05_Fun.mono_l : ∀ k, (∀ y0 y1 y2, LeO (r05_Fun.l0 k y0 y1 y2) (r05_Fun.l0 (k + 1) y0 y1 y2))
  | 0 => fun _ _ _ r h => by simp [r05_Fun.l0] at h
  | k + 1 => by
    have ih0 := r05_Fun.mono_l k
    · intro y0 y1 y2
      unfold r05_Fun.l0
      repeat' first
      | (with_reducible exact ih0 _ _ _)
      | (with_reducible exact LeO.refl _)
      | (with_reducible exact LeO.none _)
      | (with_reducible refine LeO.ite ?_ ?_)
      | (with_reducible refine LeO.bind ?_ (fun _ => ?_))
      | exact ih0 _ _ _
      | exact LeO.none _
      | refine LeO.ite ?_ ?_
      | refine LeO.bind ?_ (fun _ => ?_)
theorem r05_Fun.mono : ∀ a0 a1 k, LeO (r05_Fun.f k a0 a1) (r05_Fun.f (k + 1) a0 a1) := by
 intro a0 a1 k
 have ih0 := r05_Fun.mono_l k
 unfold r05_Fun.f
 repeat' first
   | (with_reducible exact ih0 _ _ _)
   | (with_reducible exact LeO.refl _)
   | (with_reducible exact LeO.none _)
   | (with_reducible refine LeO.ite ?_ ?_)
   | (with_reducible refine LeO.bind ?_ (fun _ => ?_))
   | exact ih0 _ _ _
   | exact LeO.none _
   | refine LeO.ite ?_ ?_
   | refine LeO.bind ?_ (fun _ => ?_)
mutual
def r05_With.l0 : Nat → List ByteArray → ByteArray → List ByteArray → Bool → Int → Option (List ByteArray)
  | 0, _, _, _, _, _ => none
  | k + 1, x0, x1, x5, x6, x7 => if x7 < (x0.length : Int) then (if x6 = true then (r05_With.j1 k x0 x1 x5 x6 x7 false) else (if 0 ≤ x7 then (r05_With.j1 k x0 x1 x5 x6 x7 (!(Op.bytesLess ((rdOf ByteArray.empty x0 x7).toList) x1.toList))) else (none))) else (if x6 = true then (some x5) else (if x5.length < 8796093022208 then (some (x5 ++ [x1])) else (none)))
def r05_With.j1 : Nat → List ByteArray → ByteArray → List ByteArray → Bool → Int → Bool → Option (List ByteArray)
  | 0, _, _, _, _, _, _ => none
  | k + 1, x0, x1, x5, x6, x7, x26 => if x26 = true then (if 0 ≤ x7 then (if x7 < (x0.length : Int) then (if (Op.bytesLess x1.toList ((rdOf ByteArray.empty x0 x7).toList)) = true then (if x5.length < 8796093022208 then ((some (x5 ++ [x1] : List ByteArray)).bind fun y174 => (if y174.length < 8796093022208 then (r05_With.l0 k x0 x1 (y174 ++ [rdOf ByteArray.empty x0 x7]) true (wrap64 (x7 + 1))) else (none))) else (none)) else (if x5.length < 8796093022208 then (r05_With.l0 k x0 x1 (x5 ++ [rdOf ByteArray.empty x0 x7]) true (wrap64 (x7 + 1))) else (none))) else (none)) else (none)) else (if 0 ≤ x7 then (if x7 < (x0.length : Int) then (if x5.length < 8796093022208 then (r05_With.l0 k x0 x1 (x5 ++ [rdOf ByteArray.empty x0 x7]) x6 (wrap64 (x7 + 1))) else (none)) else (none)) else (none))
end
def r05_With.f (k : Nat) (l0 : List ByteArray) (a1 : ByteArray) : Option (List ByteArray) := r05_With.l0 k l0 a1 (([] : List ByteArray)) (a1.toList == ([] : List UInt8)) 0
theorem r05_With.mono_l : ∀ k, (∀ y0 y1 y2 y3 y4, LeO (r05_With.l0 k y0 y1 y2 y3 y4) (r05_With.l0 (k + 1) y0 y1 y2 y3 y4)) ∧ (∀ y0 y1 y2 y3 y4 y5, LeO (r05_With.j1 k y0 y1 y2 y3 y4 y5) (r05_With.j1 (k + 1) y0 y1 y2 y3 y4 y5))
  | 0 => ⟨fun _ _ _ _ _ r h => by simp [r05_With.l0] at h, fun _ _ _ _ _ _ r h => by simp [r05_With.j1] at h⟩
  | k + 1 => by
    obtain ⟨ih0, ih1⟩ := r05_With.mono_l k
    refine ⟨?_, ?_⟩
    · intro y0 y1 y2 y3 y4
      unfold r05_With.l0
      repeat' first
      | (with_reducible exact ih0 _ _ _ _ _)
      | (with_reducible exact ih1 _ _ _ _ _ _)
      | (with_reducible exact LeO.refl _)
      | (with_reducible exact LeO.none _)
      | (with_reducible refine LeO.ite ?_ ?_)
      | (with_reducible refine LeO.bind ?_ (fun _ => ?_))
      | exact ih0 _ _ _ _ _
      | exact ih1 _ _ _ _ _ _
      | exact LeO.none _
      | refine LeO.ite ?_ ?_
      | refine LeO.bind ?_ (fun _ => ?_)
    · intro y0 y1 y2 y3 y4 y5
      unfold r05_With.j1
      repeat' first
      | (with_reducible exact ih0 _ _ _ _ _)
      | (with_reducible exact ih1 _ _ _ _ _ _)
      | (with_reducible exact LeO.refl _)
      | (with_reducible exact LeO.none _)
      | (with_reducible refine LeO.ite ?_ ?_)
      | (with_reducible refine LeO.bind ?_ (fun _ => ?_))
      | exact ih0 _ _ _ _ _
      | exact ih1 _ _ _ _ _ _
      | exact LeO.none _
      | refine LeO.ite ?_ ?_
      | refine LeO.bind ?_ (fun _ => ?_)
theorem r05_With.mono : ∀ a0 a1 k, LeO (r05_With.f k a0 a1) (r05_With.f (k + 1) a0 a1) := by
 intro a0 a1 k
 obtain ⟨ih0, ih1⟩ := r05_With.mono_l k
 unfold r05_With.f
 repeat' first
   | (with_reducible exact ih0 _ _ _ _ _)
   | (with_reducible exact ih1 _ _ _ _ _ _)
   | (with_reducible exact LeO.refl _)
   | (with_reducible exact LeO.none _)
   | (with_reducible refine LeO.ite ?_ ?_)
   | (with_reducible refine LeO.bind ?_ (fun _ => ?_))
   | exact ih0 _ _ _ _ _
   | exact ih1 _ _ _ _ _ _
   | exact LeO.none _
   | refine LeO.ite ?_ ?_
   | refine LeO.bind ?_ (fun _ => ?_)
mutual
def r04_List.l0 : Nat → List (S46) → List (S46) → Int → Option ((List (S46)))
  | 0, _, _, _ => none
  | k + 1, x0, x3, x4 => if x4 < (x0.length : Int) then (if 0 ≤ x4 then (if x3.length < 925904528653 then ((some (x3 ++ [(⟨(rd_T46 x0 x4).f0, (rd_T46 x0 x4).f1, (rd_T46 x0 x4).f2, (rd_T46 x0 x4).f3, (rd_T46 x0 x4).f4, (rd_T46 x0 x4).f5, (rd_T46 x0 x4).f6, (rd_T46 x0 x4).f7⟩ : S46)] : List (S46))).bind fun y193 => ((r04_List.f k ((rd_T46 x0 x4).f6)).bind fun t197 => (if y193.length + t197.length < 925904528653 then ((some (y193 ++ t197 : List (S46))).bind fun y200 => ((r04_List.f k ((rd_T46 x0 x4).f7)).bind fun t204 => (if y200.length + t204.length < 925904528653 then (r04_List.l0 k x0 (y200 ++ t204) (wrap64 (x4 + 1))) else (none)))) else (none)))) else (none)) else (none)) else (some x3)
def r04_List.f : Nat → List (S46) → Option ((List (S46)))
  | 0, _ => none
  | k + 1, l0 => r04_List.l0 k l0 (([] : List (S46))) 0
end
theorem r04_List.mono_l : ∀ k, (∀ y0, LeO (r04_List.f k y0) (r04_List.f (k + 1) y0)) ∧ (∀ y0 y1 y2, LeO (r04_List.l0 k y0 y1 y2) (r04_List.l0 (k + 1) y0 y1 y2))
  | 0 => ⟨fun _ r h => by simp [r04_List.f] at h, fun _ _ _ r h => by simp [r04_List.l0] at h⟩
  | k + 1 => by
    obtain ⟨ih0, ih1⟩ := r04_List.mono_l k
    refine ⟨?_, ?_⟩
    · intro y0
      unfold r04_List.f
      repeat' first
      | (with_reducible exact ih0 _)
      | (with_reducible exact ih1 _ _ _)
      | (with_reducible exact LeO.refl _)
      | (with_reducible exact LeO.none _)
      | (with_reducible refine LeO.ite ?_ ?_)
      | (with_reducible refine LeO.bind ?_ (fun _ => ?_))
      | exact ih0 _
      | exact ih1 _ _ _
      | exact LeO.none _
      | refine LeO.ite ?_ ?_
      | refine LeO.bind ?_ (fun _ => ?_)
    · intro y0 y1 y2
      unfold r04_List.l0
      repeat' first
      | (with_reducible exact ih0 _)
      | (with_reducible exact ih1 _ _ _)
      | (with_reducible exact LeO.refl _)
      | (with_reducible exact LeO.none _)
      | (with_reducible refine LeO.ite ?_ ?_)
      | (with_reducible refine LeO.bind ?_ (fun _ => ?_))
      | exact ih0 _
      | exact ih1 _ _ _
      | exact LeO.none _
      | refine LeO.ite ?_ ?_
      | refine LeO.bind ?_ (fun _ => ?_)
theorem r04_List.mono : ∀ a0 k, LeO (r04_List.f k a0) (r04_List.f (k + 1) a0) := by
 intro a0 k
 obtain ⟨ih0, ih1⟩ := r04_List.mono_l k
 exact ih0 a0
mutual
def r05_Vars.l0 : Nat → List ByteArray → Int → ByteArray → List ByteArray → List (S46) → Option (List ByteArray)
  | 0, _, _, _, _, _ => none
  | k + 1, x3, x4, x211000, x211001, x211002 => if x4 < (x211001.length : Int) then (if 0 ≤ x4 then ((r05_With.f k x3 (rdOf ByteArray.empty x211001 x4)).bind fun t215 => (r05_Vars.l0 k t215 (wrap64 (x4 + 1)) x211000 x211001 x211002)) else (none)) else ((r04_List.f k x211002).bind fun t218 => (r05_Vars.l1 k x3 t218 0))
def r05_Vars.l1 : Nat → List ByteArray → List (S46) → Int → Option (List ByteArray)
  | 0, _, _, _ => none
  | k + 1, x3, x5, x6 => if x6 < (x5.length : Int) then (if 0 ≤ x6 then ((r05_With.f k x3 ((rd_T46 x5 x6).f1)).bind fun t222 => ((r05_With.f k t222 ((rd_T46 x5 x6).f2)).bind fun t226 => (r05_Vars.l2 k t226 x5 x6 0))) else (none)) else (some x3)
def r05_Vars.l2 : Nat → List ByteArray → List (S46) → Int → Int → Option (List ByteArray)
  | 0, _, _, _, _ => none
  | k + 1, x3, x5, x6, x7 => if 0 ≤ x6 then (if x6 < (x5.length : Int) then (if x7 < (((rd_T46 x5 x6).f4).length : Int) then (if 0 ≤ x7 then (if ((rd_T56 ((rd_T46 x5 x6).f4) x7).f0) = 4 then ((r05_With.f k x3 ((rd_T56 ((rd_T46 x5 x6).f4) x7).f2)).bind fun t234 => (r05_Vars.l2 k t234 x5 x6 (wrap64 (x7 + 1)))) else (r05_Vars.l2 k x3 x5 x6 (wrap64 (x7 + 1)))) else (none)) else (r05_Vars.l1 k x3 x5 (wrap64 (x6 + 1)))) else (none)) else (none)
end
def r05_Vars.f (k : Nat) (a0_0 : ByteArray) (l0_1 : List ByteArray) (l0_2 : List (S46)) : Option (List ByteArray) := r05_Vars.l0 k (([] : List ByteArray)) 0 a0_0 l0_1 l0_2
theorem r05_Vars.mono_l : ∀ k, (∀ y0 y1 y2 y3 y4, LeO (r05_Vars.l0 k y0 y1 y2 y3 y4) (r05_Vars.l0 (k + 1) y0 y1 y2 y3 y4)) ∧ (∀ y0 y1 y2, LeO (r05_Vars.l1 k y0 y1 y2) (r05_Vars.l1 (k + 1) y0 y1 y2)) ∧ (∀ y0 y1 y2 y3, LeO (r05_Vars.l2 k y0 y1 y2 y3) (r05_Vars.l2 (k + 1) y0 y1 y2 y3))
  | 0 => ⟨fun _ _ _ _ _ r h => by simp [r05_Vars.l0] at h, fun _ _ _ r h => by simp [r05_Vars.l1] at h, fun _ _ _ _ r h => by simp [r05_Vars.l2] at h⟩
  | k + 1 => by
    obtain ⟨ih0, ih1, ih2⟩ := r05_Vars.mono_l k
    refine ⟨?_, ?_, ?_⟩
    · intro y0 y1 y2 y3 y4
      unfold r05_Vars.l0
      repeat' first
      | (with_reducible exact ih0 _ _ _ _ _)
      | (with_reducible exact ih1 _ _ _)
      | (with_reducible exact ih2 _ _ _ _)
      | (with_reducible exact r04_List.mono _ _)
      | (with_reducible exact r05_With.mono _ _ _)
      | (with_reducible exact LeO.refl _)
      | (with_reducible exact LeO.none _)
      | (with_reducible refine LeO.ite ?_ ?_)
      | (with_reducible refine LeO.bind ?_ (fun _ => ?_))
      | exact ih0 _ _ _ _ _
      | exact ih1 _ _ _
      | exact ih2 _ _ _ _
      | exact r04_List.mono _ _
      | exact r05_With.mono _ _ _
      | exact LeO.none _
      | refine LeO.ite ?_ ?_
      | refine LeO.bind ?_ (fun _ => ?_)
    · intro y0 y1 y2
      unfold r05_Vars.l1
      repeat' first
      | (with_reducible exact ih0 _ _ _ _ _)
      | (with_reducible exact ih1 _ _ _)
      | (with_reducible exact ih2 _ _ _ _)
      | (with_reducible exact r04_List.mono _ _)
      | (with_reducible exact r05_With.mono _ _ _)
      | (with_reducible exact LeO.refl _)
      | (with_reducible exact LeO.none _)
      | (with_reducible refine LeO.ite ?_ ?_)
      | (with_reducible refine LeO.bind ?_ (fun _ => ?_))
      | exact ih0 _ _ _ _ _
      | exact ih1 _ _ _
      | exact ih2 _ _ _ _
      | exact r04_List.mono _ _
      | exact r05_With.mono _ _ _
      | exact LeO.none _
      | refine LeO.ite ?_ ?_
      | refine LeO.bind ?_ (fun _ => ?_)
    · intro y0 y1 y2 y3
      unfold r05_Vars.l2
      repeat' first
      | (with_reducible exact ih0 _ _ _ _ _)
      | (with_reducible exact ih1 _ _ _)
      | (with_reducible exact ih2 _ _ _ _)
      | (with_reducible exact r04_List.mono _ _)
      | (with_reducible exact r05_With.mono _ _ _)
      | (with_reducible exact LeO.refl _)
      | (with_reducible exact LeO.none _)
      | (with_reducible refine LeO.ite ?_ ?_)
      | (with_reducible refine LeO.bind ?_ (fun _ => ?_))
      | exact ih0 _ _ _ _ _
      | exact ih1 _ _ _
      | exact ih2 _ _ _ _
      | exact r04_List.mono _ _
      | exact r05_With.mono _ _ _
      | exact LeO.none _
      | refine LeO.ite ?_ ?_
      | refine LeO.bind ?_ (fun _ => ?_)
theorem r05_Vars.mono : ∀ a0 a1 a2 k, LeO (r05_Vars.f k a0 a1 a2) (r05_Vars.f (k + 1) a0 a1 a2) := by
 intro a0 a1 a2 k
 obtain ⟨ih0, ih1, ih2⟩ := r05_Vars.mono_l k
 unfold r05_Vars.f
 repeat' first
   | (with_reducible exact ih0 _ _ _ _ _)
   | (with_reducible exact ih1 _ _ _)
   | (with_reducible exact ih2 _ _ _ _)
   | (with_reducible exact r04_List.mono _ _)
   | (with_reducible exact r05_With.mono _ _ _)
   | (with_reducible exact LeO.refl _)
   | (with_reducible exact LeO.none _)
   | (with_reducible refine LeO.ite ?_ ?_)
   | (with_reducible refine LeO.bind ?_ (fun _ => ?_))
   | exact ih0 _ _ _ _ _
   | exact ih1 _ _ _
   | exact ih2 _ _ _ _
   | exact r04_List.mono _ _
   | exact r05_With.mono _ _ _
   | exact LeO.none _
   | refine LeO.ite ?_ ?_
   | refine LeO.bind ?_ (fun _ => ?_)
mutual
def r05_Props.l0 : Nat → List ByteArray → Int → List (S32) → Option (List ByteArray)
  | 0, _, _, _ => none
  | k + 1, x3, x4, x238000 => if x4 < (x238000.length : Int) then (if 0 ≤ x4 then ((r04_List.f k ((rd_T32 x238000 x4).f2)).bind fun t242 => (r05_Props.l1 k x3 x4 t242 0 x238000)) else (none)) else (some x3)
def r05_Props.l1 : Nat → List ByteArray → Int → List (S46) → Int → List (S32) → Option (List ByteArray)
  | 0, _, _, _, _, _ => none
  | k + 1, x3, x4, x5, x6, x238000 => if x6 < (x5.length : Int) then (if 0 ≤ x6 then (if ((rd_T46 x5 x6).f0) = 2 then (r05_Props.j2 k x3 x4 x5 x6 true x238000) else (r05_Props.j2 k x3 x4 x5 x6 (((rd_T46 x5 x6).f0) == 3) x238000)) else (none)) else (r05_Props.l0 k x3 (wrap64 (x4 + 1)) x238000)
def r05_Props.j2 : Nat → List ByteArray → Int → List (S46) → Int → Bool → List (S32) → Option (List ByteArray)
  | 0, _, _, _, _, _, _ => none
  | k + 1, x3, x4, x5, x6, x42, x238000 => if x42 = true then (if 0 ≤ x6 then (if x6 < (x5.length : Int) then ((r05_With.f k x3 ((rd_T46 x5 x6).f3)).bind fun t248 => (r05_Props.j3 k t248 x4 x5 x6 x238000)) else (none)) else (none)) else (r05_Props.j3 k x3 x4 x5 x6 x238000)
def r05_Props.j3 : Nat → List ByteArray → Int → List (S46) → Int → List (S32) → Option (List ByteArray)
  | 0, _, _, _, _, _ => none
  | k + 1, x3, x4, x5, x6, x238000 => r05_Props.l2 k x3 x4 x5 x6 0 x238000
def r05_Props.l2 : Nat → List ByteArray → Int → List (S46) → Int → Int → List (S32) → Option (List ByteArray)
  | 0, _, _, _, _, _, _ => none
  | k + 1, x3, x4, x5, x6, x7, x238000 => if 0 ≤ x6 then (if x6 < (x5.length : Int) then (if x7 < (((rd_T46 x5 x6).f5).length : Int) then (if 0 ≤ x7 then ((r05_With.f k x3 (rdOf ByteArray.empty ((rd_T46 x5 x6).f5) x7)).bind fun t254 => (r05_Props.l2 k t254 x4 x5 x6 (wrap64 (x7 + 1)) x238000)) else (none)) else (r05_Props.l1 k x3 x4 x5 (wrap64 (x6 + 1)) x238000)) else (none)) else (none)
end
def r05_Props.f (k : Nat) (l0_0 : List (S32)) : Option (List ByteArray) := r05_Props.l0 k (([] : List ByteArray)) 0 l0_0
theorem r05_Props.mono_l : ∀ k, (∀ y0 y1 y2, LeO (r05_Props.l0 k y0 y1 y2) (r05_Props.l0 (k + 1) y0 y1 y2)) ∧ (∀ y0 y1 y2 y3 y4, LeO (r05_Props.l1 k y0 y1 y2 y3 y4) (r05_Props.l1 (k + 1) y0 y1 y2 y3 y4)) ∧ (∀ y0 y1 y2 y3 y4 y5, LeO (r05_Props.j2 k y0 y1 y2 y3 y4 y5) (r05_Props.j2 (k + 1) y0 y1 y2 y3 y4 y5)) ∧ (∀ y0 y1 y2 y3 y4, LeO (r05_Props.j3 k y0 y1 y2 y3 y4) (r05_Props.j3 (k + 1) y0 y1 y2 y3 y4)) ∧ (∀ y0 y1 y2 y3 y4 y5, LeO (r05_Props.l2 k y0 y1 y2 y3 y4 y5) (r05_Props.l2 (k + 1) y0 y1 y2 y3 y4 y5))
  | 0 => ⟨fun _ _ _ r h => by simp [r05_Props.l0] at h, fun _ _ _ _ _ r h => by simp [r05_Props.l1] at h, fun _ _ _ _ _ _ r h => by simp [r05_Props.j2] at h, fun _ _ _ _ _ r h => by simp [r05_Props.j3] at h, fun _ _ _ _ _ _ r h => by simp [r05_Props.l2] at h⟩
  | k + 1 => by
    obtain ⟨ih0, ih1, ih2, ih3, ih4⟩ := r05_Props.mono_l k
    refine ⟨?_, ?_, ?_, ?_, ?_⟩
    · intro y0 y1 y2
      unfold r05_Props.l0
      repeat' first
      | (with_reducible exact ih0 _ _ _)
      | (with_reducible exact ih1 _ _ _ _ _)
      | (with_reducible exact ih2 _ _ _ _ _ _)
      | (with_reducible exact ih3 _ _ _ _ _)
      | (with_reducible exact ih4 _ _ _ _ _ _)
      | (with_reducible exact r04_List.mono _ _)
      | (with_reducible exact r05_With.mono _ _ _)
      | (with_reducible exact LeO.refl _)
      | (with_reducible exact LeO.none _)
      | (with_reducible refine LeO.ite ?_ ?_)
      | (with_reducible refine LeO.bind ?_ (fun _ => ?_))
      | exact ih0 _ _ _
      | exact ih1 _ _ _ _ _
      | exact ih2 _ _ _ _ _ _
      | exact ih3 _ _ _ _ _
      | exact ih4 _ _ _ _ _ _
      | exact r04_List.mono _ _
      | exact r05_With.mono _ _ _
      | exact LeO.none _
      | refine LeO.ite ?_ ?_
      | refine LeO.bind ?_ (fun _ => ?_)
    · intro y0 y1 y2 y3 y4
      unfold r05_Props.l1
      repeat' first
      | (with_reducible exact ih0 _ _ _)
      | (with_reducible exact ih1 _ _ _ _ _)
      | (with_reducible exact ih2 _ _ _ _ _ _)
      | (with_reducible exact ih3 _ _ _ _ _)
      | (with_reducible exact ih4 _ _ _ _ _ _)
      | (with_reducible exact r04_List.mono _ _)
      | (with_reducible exact r05_With.mono _ _ _)
      | (with_reducible exact LeO.refl _)
      | (with_reducible exact LeO.none _)
      | (with_reducible refine LeO.ite ?_ ?_)
      | (with_reducible refine LeO.bind ?_ (fun _ => ?_))
      | exact ih0 _ _ _
      | exact ih1 _ _ _ _ _
      | exact ih2 _ _ _ _ _ _
      | exact ih3 _ _ _ _ _
      | exact ih4 _ _ _ _ _ _
      | exact r04_List.mono _ _
      | exact r05_With.mono _ _ _
      | exact LeO.none _
      | refine LeO.ite ?_ ?_
      | refine LeO.bind ?_ (fun _ => ?_)
    · intro y0 y1 y2 y3 y4 y5
      unfold r05_Props.j2
      repeat' first
      | (with_reducible exact ih0 _ _ _)
      | (with_reducible exact ih1 _ _ _ _ _)
      | (with_reducible exact ih2 _ _ _ _ _ _)
      | (with_reducible exact ih3 _ _ _ _ _)
      | (with_reducible exact ih4 _ _ _ _ _ _)
      | (with_reducible exact r04_List.mono _ _)
      | (with_reducible exact r05_With.mono _ _ _)
      | (with_reducible exact LeO.refl _)
      | (with_reducible exact LeO.none _)
      | (with_reducible refine LeO.ite ?_ ?_)
      | (with_reducible refine LeO.bind ?_ (fun _ => ?_))
      | exact ih0 _ _ _
      | exact ih1 _ _ _ _ _
      | exact ih2 _ _ _ _ _ _
      | exact ih3 _ _ _ _ _
      | exact ih4 _ _ _ _ _ _
      | exact r04_List.mono _ _
      | exact r05_With.mono _ _ _
      | exact LeO.none _
      | refine LeO.ite ?_ ?_
      | refine LeO.bind ?_ (fun _ => ?_)
    · intro y0 y1 y2 y3 y4
      unfold r05_Props.j3
      repeat' first
      | (with_reducible exact ih0 _ _ _)
      | (with_reducible exact ih1 _ _ _ _ _)
      | (with_reducible exact ih2 _ _ _ _ _ _)
      | (with_reducible exact ih3 _ _ _ _ _)
      | (with_reducible exact ih4 _ _ _ _ _ _)
      | (with_reducible exact r04_List.mono _ _)
      | (with_reducible exact r05_With.mono _ _ _)
      | (with_reducible exact LeO.refl _)
      | (with_reducible exact LeO.none _)
      | (with_reducible refine LeO.ite ?_ ?_)
      | (with_reducible refine LeO.bind ?_ (fun _ => ?_))
      | exact ih0 _ _ _
      | exact ih1 _ _ _ _ _
      | exact ih2 _ _ _ _ _ _
      | exact ih3 _ _ _ _ _
      | exact ih4 _ _ _ _ _ _
      | exact r04_List.mono _ _
      | exact r05_With.mono _ _ _
      | exact LeO.none _
      | refine LeO.ite ?_ ?_
      | refine LeO.bind ?_ (fun _ => ?_)
    · intro y0 y1 y2 y3 y4 y5
      unfold r05_Props.l2
      repeat' first
      | (with_reducible exact ih0 _ _ _)
      | (with_reducible exact ih1 _ _ _ _ _)
      | (with_reducible exact ih2 _ _ _ _ _ _)
      | (with_reducible exact ih3 _ _ _ _ _)
      | (with_reducible exact ih4 _ _ _ _ _ _)
      | (with_reducible exact r04_List.mono _ _)
      | (with_reducible exact r05_With.mono _ _ _)
      | (with_reducible exact LeO.refl _)
      | (with_reducible exact LeO.none _)
      | (with_reducible refine LeO.ite ?_ ?_)
      | (with_reducible refine LeO.bind ?_ (fun _ => ?_))
      | exact ih0 _ _ _
      | exact ih1 _ _ _ _ _
      | exact ih2 _ _ _ _ _ _
      | exact ih3 _ _ _ _ _
      | exact ih4 _ _ _ _ _ _
      | exact r04_List.mono _ _
      | exact r05_With.mono _ _ _
      | exact LeO.none _
      | refine LeO.ite ?_ ?_
      | refine LeO.bind ?_ (fun _ => ?_)
theorem r05_Props.mono : ∀ a0 k, LeO (r05_Props.f k a0) (r05_Props.f (k + 1) a0) := by
 intro a0 k
 obtain ⟨ih0, ih1, ih2, ih3, ih4⟩ := r05_Props.mono_l k
 unfold r05_Props.f
 repeat' first
   | (with_reducible exact ih0 _ _ _)
   | (with_reducible exact ih1 _ _ _ _ _)
   | (with_reducible exact ih2 _ _ _ _ _ _)
   | (with_reducible exact ih3 _ _ _ _ _)
   | (with_reducible exact ih4 _ _ _ _ _ _)
   | (with_reducible exact r04_List.mono _ _)
   | (with_reducible exact r05_With.mono _ _ _)
   | (with_reducible exact LeO.refl _)
   | (with_reducible exact LeO.none _)
   | (with_reducible refine LeO.ite ?_ ?_)
   | (with_reducible refine LeO.bind ?_ (fun _ => ?_))
   | exact ih0 _ _ _
   | exact ih1 _ _ _ _ _
   | exact ih2 _ _ _ _ _ _
   | exact ih3 _ _ _ _ _
   | exact ih4 _ _ _ _ _ _
   | exact r04_List.mono _ _
   | exact r05_With.mono _ _ _
   | exact LeO.none _
   | refine LeO.ite ?_ ?_
   | refine LeO.bind ?_ (fun _ => ?_)
mutual
def r05_Twice.l0 : Nat → List ByteArray → Int → Option (Bool)
  | 0, _, _ => none
  | k + 1, x0, x3 => if x3 < (x0.length : Int) then (r05_Twice.l1 k x0 x3 0) else (some false)
def r05_Twice.l1 : Nat → List ByteArray → Int → Int → Option (Bool)
  | 0, _, _, _ => none
  | k + 1, x0, x3, x4 => if x4 < x3 then (if 0 ≤ x3 then (if x3 < (x0.length : Int) then (if 0 ≤ x4 then (if x4 < (x0.length : Int) then (if (rdOf ByteArray.empty x0 x3).toList = (rdOf ByteArray.empty x0 x4).toList then (some true) else (r05_Twice.l1 k x0 x3 (wrap64 (x4 + 1)))) else (none)) else (none)) else (none)) else (none)) else (r05_Twice.l0 k x0 (wrap64 (x3 + 1)))
end
def r05_Twice.f (k : Nat) (l0 : List ByteArray) : Option (Bool) := r05_Twice.l0 k l0 0
theorem r05_Twice.mono_l : ∀ k, (∀ y0 y1, LeO (r05_Twice.l0 k y0 y1) (r05_Twice.l0 (k + 1) y0 y1)) ∧ (∀ y0 y1 y2, LeO (r05_Twice.l1 k y0 y1 y2) (r05_Twice.l1 (k + 1) y0 y1 y2))
  | 0 => ⟨fun _ _ r h => by simp [r05_Twice.l0] at h, fun _ _ _ r h => by simp [r05_Twice.l1] at h⟩
  | k + 1 => by
    obtain ⟨ih0, ih1⟩ := r05_Twice.mono_l k
    refine ⟨?_, ?_⟩
    · intro y0 y1
      unfold r05_Twice.l0
      repeat' first
      | (with_reducible exact ih0 _ _)
      | (with_reducible exact ih1 _ _ _)
      | (with_reducible exact LeO.refl _)
      | (with_reducible exact LeO.none _)
      | (with_reducible refine LeO.ite ?_ ?_)
      | (with_reducible refine LeO.bind ?_ (fun _ => ?_))
      | exact ih0 _ _
      | exact ih1 _ _ _
      | exact LeO.none _
      | refine LeO.ite ?_ ?_
      | refine LeO.bind ?_ (fun _ => ?_)
    · intro y0 y1 y2
      unfold r05_Twice.l1
      repeat' first
      | (with_reducible exact ih0 _ _)
      | (with_reducible exact ih1 _ _ _)
      | (with_reducible exact LeO.refl _)
      | (with_reducible exact LeO.none _)
      | (with_reducible refine LeO.ite ?_ ?_)
      | (with_reducible refine LeO.bind ?_ (fun _ => ?_))
      | exact ih0 _ _
      | exact ih1 _ _ _
      | exact LeO.none _
      | refine LeO.ite ?_ ?_
      | refine LeO.bind ?_ (fun _ => ?_)
theorem r05_Twice.mono : ∀ a0 k, LeO (r05_Twice.f k a0) (r05_Twice.f (k + 1) a0) := by
 intro a0 k
 obtain ⟨ih0, ih1⟩ := r05_Twice.mono_l k
 unfold r05_Twice.f
 repeat' first
   | (with_reducible exact ih0 _ _)
   | (with_reducible exact ih1 _ _ _)
   | (with_reducible exact LeO.refl _)
   | (with_reducible exact LeO.none _)
   | (with_reducible refine LeO.ite ?_ ?_)
   | (with_reducible refine LeO.bind ?_ (fun _ => ?_))
   | exact ih0 _ _
   | exact ih1 _ _ _
   | exact LeO.none _
   | refine LeO.ite ?_ ?_
   | refine LeO.bind ?_ (fun _ => ?_)
end Go.Proofs.Ytjiacafeckokeaa.Pr

namespace Go.Proofs.Ytjiacafeckokeaa.Man
open Go.RowKit Go.Proofs.Ytjiacafeckokeaa.Pr Go.Proofs.YtjiacafeckokeaaW.PrintWords
set_option linter.unusedVariables false
set_option linter.unusedSimpArgs false
theorem pzB (n : Nat) (h : n ≤ 1000000000) : wrap64 ((n : Int) + 1) = ((n + 1 : Nat) : Int) := by simp only [wrap64]; omega
def Low (l : List S46) : Prop := l.length ≤ 2000000 ∧ ∀ s ∈ flat l, s.f6.length ≤ 2000000 ∧ s.f7.length ≤ 2000000
theorem flat_mem6 (l : List S46) (k : Nat) (h : k < l.length) (s : S46) (hs : s ∈ flat (rd_T46 l k).f6) : s ∈ flat l := flat_mem l k h s (by simp [hs])
theorem flat_mem7 (l : List S46) (k : Nat) (h : k < l.length) (s : S46) (hs : s ∈ flat (rd_T46 l k).f7) : s ∈ flat l := flat_mem l k h s (by simp [hs])
theorem Low.sub {l : List S46} (h : Low l) (k : Nat) (hk : k < l.length) : Low (rd_T46 l (k : Int)).f6 ∧ Low (rd_T46 l (k : Int)).f7 := by
  have h0 := h.2 _ (flat_mem l k hk (rd_T46 l k) (by simp))
  exact ⟨⟨h0.1, fun s hs => h.2 s (flat_mem6 l k hk s hs)⟩, ⟨h0.2, fun s hs => h.2 s (flat_mem7 l k hk s hs)⟩⟩
theorem deep_ev : ∀ (m : Nat) (l : List S46), SizeOf.sizeOf l < m → Low l → ∀ a : Int, ∃ r, Ev (fun k => r03_Deep.f k l a) r := by
  intro m
  induction m with
  | zero => intro l h; omega
  | succ m ih =>
    intro l hm hl a
    have hlen := hl.1
    have main : ∀ d i : Nat, i + d = l.length → ∀ x5 : Int, ∃ r, Ev (fun k => r03_Deep.l0 k l a x5 (i : Int)) r := by
      intro d
      induction d with
      | zero =>
        intro i hi x5
        have c : ¬ (i : Int) < (l.length : Int) := by omega
        refine ⟨x5, Ev.step ?_⟩
        simp only [r03_Deep.l0, if_neg c]
        refine Ev.step ?_
        simp only [r03_Deep.j1, Bool.false_eq_true, if_false]
        exact Ev.const _
      | succ d ihd =>
        intro i hi x5
        have c : (i : Int) < (l.length : Int) := by omega
        have c0 : 0 ≤ (i : Int) := Int.natCast_nonneg i
        by_cases ha : a > 0
        · obtain ⟨h6, h7⟩ := hl.sub i (by omega)
          obtain ⟨s6, s7⟩ := size_mem l i (by omega)
          obtain ⟨r6, e6⟩ := ih _ (by omega) h6 (wrap64 (a - 1))
          obtain ⟨r7, e7⟩ := ih _ (by omega) h7 (wrap64 (a - 1))
          obtain ⟨r, e⟩ := ihd (i + 1) (by omega) (mx x5 (wrap64 (1 + (mx r6 r7))))
          refine ⟨r, Ev.step ?_⟩
          simp only [r03_Deep.l0, if_pos c, decide_eq_true ha]
          refine Ev.step ?_
          simp only [r03_Deep.j1, if_true, if_pos c0, if_pos c]
          refine Ev.bind e6 (Ev.bind e7 ?_)
          rw [pzB i (by omega)]
          exact e
        · refine ⟨x5, Ev.step ?_⟩
          simp only [r03_Deep.l0, if_pos c, decide_eq_false ha]
          refine Ev.step ?_
          simp only [r03_Deep.j1, Bool.false_eq_true, if_false]
          exact Ev.const _
    obtain ⟨r, e⟩ := main l.length 0 (by omega) 0
    refine ⟨r, Ev.step ?_⟩
    simp only [r03_Deep.f]
    exact e
theorem count_ev : ∀ (m : Nat) (l : List S46), SizeOf.sizeOf l < m → Low l → ∃ r, Ev (fun k => r03_Count.f k l) r := by
  intro m
  induction m with
  | zero => intro l h; omega
  | succ m ih =>
    intro l hm hl
    have hlen := hl.1
    have main : ∀ d i : Nat, i + d = l.length → ∀ x : Int, ∃ r, Ev (fun k => r03_Count.l0 k l x (i : Int)) r := by
      intro d
      induction d with
      | zero =>
        intro i hi x
        have c : ¬ (i : Int) < (l.length : Int) := by omega
        refine ⟨x, Ev.step ?_⟩
        simp only [r03_Count.l0, if_neg c]
        exact Ev.const _
      | succ d ihd =>
        intro i hi x
        have c : (i : Int) < (l.length : Int) := by omega
        have c0 : 0 ≤ (i : Int) := Int.natCast_nonneg i
        obtain ⟨h6, h7⟩ := hl.sub i (by omega)
        obtain ⟨s6, s7⟩ := size_mem l i (by omega)
        obtain ⟨r6, e6⟩ := ih _ (by omega) h6
        obtain ⟨r7, e7⟩ := ih _ (by omega) h7
        obtain ⟨r, e⟩ := ihd (i + 1) (by omega) (wrap64 (x + (wrap64 (r6 + r7))))
        refine ⟨r, Ev.step ?_⟩
        simp only [r03_Count.l0, if_pos c, if_pos c0]
        refine Ev.bind e6 (Ev.bind e7 ?_)
        rw [pzB i (by omega)]
        exact e
    obtain ⟨r, e⟩ := main l.length 0 (by omega) (l.length : Int)
    refine ⟨r, Ev.step ?_⟩
    simp only [r03_Count.f]
    exact e
def LowP (fs : List S32) : Prop := fs.length ≤ 2000000 ∧ ∀ f ∈ fs, f.f1.length ≤ 2000000 ∧ (flat f.f2).length ≤ 2000000 ∧ Low f.f2
theorem rdF_mem {fs : List S32} {i : Nat} (h : i < fs.length) : rd_T32 fs (i : Int) ∈ fs := by
  unfold rd_T32; rw [Int.toNat_natCast, List.getD_eq_getElem?_getD, List.getElem?_eq_getElem h]; exact List.getElem_mem h
theorem rdF_get {fs : List S32} {i : Nat} (h : i < fs.length) : rd_T32 fs (i : Int) = fs[i] := by
  unfold rd_T32; rw [Int.toNat_natCast, List.getD_eq_getElem?_getD, List.getElem?_eq_getElem h]; rfl
theorem big_ev (fs : List S32) (hl : LowP fs) : ∃ b, Ev (fun k => r03_Big.f k fs) b := by
  have hlen := hl.1
  have main : ∀ d i : Nat, i + d = fs.length → ∀ x : Int, ∃ b, Ev (fun k => r03_Big.l0 k x (i : Int) fs) b := by
    intro d
    induction d with
    | zero =>
      intro i hi x
      have c : ¬ (i : Int) < (fs.length : Int) := by omega
      by_cases hx : x > 3000
      · exact ⟨true, Ev.step (by simp only [r03_Big.l0, if_neg c, if_pos hx]; exact Ev.const _)⟩
      · exact ⟨_, Ev.step (by simp only [r03_Big.l0, if_neg c, if_neg hx]; exact Ev.const _)⟩
    | succ d ihd =>
      intro i hi x
      have c : (i : Int) < (fs.length : Int) := by omega
      have c0 : 0 ≤ (i : Int) := Int.natCast_nonneg i
      have hf := hl.2 _ (rdF_mem (fs := fs) (i := i) (by omega))
      obtain ⟨rd, ed⟩ := deep_ev _ _ (Nat.lt_succ_self _) hf.2.2 60
      obtain ⟨rc, ec⟩ := count_ev _ _ (Nat.lt_succ_self _) hf.2.2
      by_cases hd : rd ≥ 60
      · refine ⟨true, Ev.step ?_⟩
        simp only [r03_Big.l0, if_pos c, if_pos c0]
        refine Ev.bind ed ?_
        simp only [if_pos hd]
        exact Ev.const _
      · obtain ⟨b, e⟩ := ihd (i + 1) (by omega) (wrap64 (x + (wrap64 (rc + (((rd_T32 fs (i : Int)).f1).length : Int)))))
        refine ⟨b, Ev.step ?_⟩
        simp only [r03_Big.l0, if_pos c, if_pos c0]
        refine Ev.bind ed ?_
        simp only [if_neg hd]
        refine Ev.bind ec ?_
        rw [pzB i (by omega)]
        exact e
  exact main fs.length 0 (by omega) 0
theorem eta_stmt (s : S46) : (⟨s.f0, s.f1, s.f2, s.f3, s.f4, s.f5, s.f6, s.f7⟩ : S46) = s := by cases s; rfl
theorem list_ev : ∀ (m : Nat) (l : List S46), SizeOf.sizeOf l < m → Low l → (flat l).length ≤ 2000000 → Ev (fun k => r04_List.f k l) (flat l) := by
  intro m
  induction m with
  | zero => intro l h; omega
  | succ m ih =>
    intro l hm hl hn
    have hlen := hl.1
    have main : ∀ d i : Nat, i + d = l.length → Ev (fun k => r04_List.l0 k l (flat (l.take i)) (i : Int)) (flat l) := by
      intro d
      induction d with
      | zero =>
        intro i hi
        have c : ¬ (i : Int) < (l.length : Int) := by omega
        refine Ev.step ?_
        simp only [r04_List.l0, if_neg c]
        rw [show l.take i = l from List.take_of_length_le (by omega)]
        exact Ev.const _
      | succ d ihd =>
        intro i hi
        have hil : i < l.length := by omega
        have c : (i : Int) < (l.length : Int) := by omega
        have c0 : 0 ≤ (i : Int) := Int.natCast_nonneg i
        obtain ⟨h6, h7⟩ := hl.sub i hil
        obtain ⟨s6, s7⟩ := size_mem l i hil
        have hfl := flat_len l i hil
        have e6 := ih _ (by omega) h6 (by omega)
        have e7 := ih _ (by omega) h7 (by omega)
        have e := ihd (i + 1) (by omega)
        have ht := flat_take_succ l i hil
        have hg : l[i] = rd_T46 l (i : Int) := by unfold rd_T46; simp [List.getD, hil]
        rw [hg] at ht
        refine Ev.step ?_
        have c1 : (flat (l.take i)).length < 925904528653 := by omega
        have c2 : (flat (l.take i) ++ [rd_T46 l (i : Int)]).length + (flat (rd_T46 l (i : Int)).f6).length < 925904528653 := by simp; omega
        have c3 : (flat (l.take i) ++ [rd_T46 l (i : Int)] ++ flat (rd_T46 l (i : Int)).f6).length + (flat (rd_T46 l (i : Int)).f7).length < 925904528653 := by simp; omega
        simp only [r04_List.l0, if_pos c, if_pos c0, if_pos c1, eta_stmt, Option.bind_some]
        refine Ev.bind e6 ?_
        simp only [if_pos c2, Option.bind_some]
        refine Ev.bind e7 ?_
        simp only [if_pos c3]
        rw [pzB i (by omega)]
        rw [ht] at e
        simpa [List.append_assoc] using e
    have := main l.length 0 (by omega)
    refine Ev.step ?_
    simp only [r04_List.f]
    simpa [flat] using this
theorem fun_ev (fs : List S32) (hl : fs.length ≤ 2000000) (nm : ByteArray) : Ev (fun k => r05_Fun.f k fs nm) (funIx fs nm) := by
  have main : ∀ d i : Nat, i + d = fs.length → Ev (fun k => r05_Fun.l0 k nm (i : Int) fs) (firstIx nm (fs.drop i) i) := by
    intro d
    induction d with
    | zero =>
      intro i hi
      have c : ¬ (i : Int) < (fs.length : Int) := by omega
      refine Ev.step ?_
      simp only [r05_Fun.l0, if_neg c]
      rw [List.drop_of_length_le (by omega)]
      exact Ev.const _
    | succ d ihd =>
      intro i hi
      have c : (i : Int) < (fs.length : Int) := by omega
      have c0 : 0 ≤ (i : Int) := Int.natCast_nonneg i
      have e := ihd (i + 1) (by omega)
      rw [drop_T32 fs i (by omega)]
      refine Ev.step ?_
      simp only [r05_Fun.l0, if_pos c, if_pos c0, firstIx]
      by_cases h : (rd_T32 fs (i : Int)).f0.toList = nm.toList
      · have h' : ((rd_T32 fs (i : Int)).f0.toList == nm.toList) = true := by simpa using h
        simp only [if_pos h, h', if_true]
        exact Ev.const _
      · have h' : ((rd_T32 fs (i : Int)).f0.toList == nm.toList) = false := by simpa using h
        simp only [if_neg h, h', Bool.false_eq_true, if_false]
        rw [pzB i (by omega)]
        exact e
  exact main fs.length 0 (by omega)
def leads (fs : List S32) (L : List S46) (g : Int) : Bool := L.any fun s => s.f0 == 6 || (s.f0 == 5 && funIx fs s.f3 == g)
theorem rd_drop (L : List S46) (i : Nat) (h : i < L.length) : L.drop i = rd_T46 L (i : Int) :: L.drop (i + 1) := by
  rw [List.drop_eq_getElem_cons h]
  congr 1
  unfold rd_T46; simp [List.getD, h]
end Go.Proofs.Ytjiacafeckokeaa.Man

namespace Go.Proofs.Ytjiacafeckokeaa.Man
open Go.RowKit Go.Proofs.Ytjiacafeckokeaa.Pr Go.Proofs.YtjiacafeckokeaaW.PrintWords
set_option linter.unusedVariables false
theorem rd_size {l : List ByteArray} {m : Nat} (h : ∀ b, b ∈ l → b.size ≤ m) (i : Nat) : (rdOf ByteArray.empty l (i : Int)).size ≤ m := by
  unfold rdOf
  rw [Int.toNat_natCast, List.getD_eq_getElem?_getD]
  by_cases hi : i < l.length
  · rw [List.getElem?_eq_getElem hi]; exact h _ (List.getElem_mem hi)
  · rw [List.getElem?_eq_none (by omega)]; exact Nat.zero_le _
theorem fitS_of {s : S46} {n : Nat} (hn : n ≤ 1050000) (h : s.f4.length ≤ n ∧ s.f5.length ≤ n ∧ s.f6.length ≤ n ∧ s.f7.length ≤ n ∧ ∀ b ∈ s.f5, b.size ≤ n) : FitS s :=
  ⟨Nat.le_trans h.1 hn, Nat.le_trans h.2.1 hn, fun i => Nat.le_trans (rd_size h.2.2.2.2 i) (Nat.le_trans hn (by decide))⟩
theorem fitN_of {f : S32} {n : Nat} (hn : n ≤ 1050000) (h : FitF f n) : FitN f :=
  ⟨Nat.le_trans h.1 hn, fun i => Nat.le_trans (rd_size h.2.2 i) (Nat.le_trans hn (by decide)), Nat.le_trans h.2.1.1 (Nat.le_trans hn (by decide)), fun s hs => fitS_of hn (h.2.1.2 s hs)⟩
theorem fitW_of {l : List S32} {n : Nat} (hn : n ≤ 1050000) (h : FitP l n) (ht : (l.flatMap fun f => flat f.f2).length ≤ n) : FitW l :=
  ⟨⟨Nat.le_trans h.1 hn, fun f hf => fitN_of hn (h.2 f hf)⟩, Nat.le_trans ht (Nat.le_trans hn (by decide))⟩
theorem lowP_of {l : List S32} {n : Nat} (h : FitP l n) (hn : n ≤ 2000000) : LowP l :=
  ⟨by have := h.1; omega, fun f hf => by
    obtain ⟨h1, ⟨h2, h3⟩, h4⟩ := h.2 f hf
    exact ⟨by omega, by omega, by have := len_flat f.f2; omega, fun s hs => by have := h3 s hs; omega⟩⟩
end Go.Proofs.Ytjiacafeckokeaa.Man

namespace Go.Proofs.Ytjiacafeckokeaa.Man
open Go.RowKit Go.Proofs.Ytjiacafeckokeaa.Pr Go.Proofs.YtjiacafeckokeaaW.PrintWords
set_option linter.unusedVariables false
set_option linter.unusedSimpArgs false
def withB (s : ByteArray) : Bool → List ByteArray → List ByteArray
  | laid, [] => if laid = true then [] else [s]
  | laid, x :: r => if laid = false ∧ Op.bytesLess x.toList s.toList = false then (if Op.bytesLess s.toList x.toList = true then s :: x :: withB s true r else x :: withB s true r) else x :: withB s laid r
theorem cap_lt {a n : Nat} (h : a ≤ n + 1) (hn : n ≤ 8000000000000) : a < 8796093022208 := Nat.lt_of_le_of_lt (Nat.le_trans h (Nat.add_le_add_right hn 1)) (by decide)
theorem pzL (n : Nat) (h : n ≤ 8000000000000) : wrap64 ((n : Int) + 1) = ((n + 1 : Nat) : Int) := by simp only [wrap64]; omega
theorem with_evL (l : List ByteArray) (s : ByteArray) (hl : l.length ≤ 8000000000000) : ∀ (m j : Nat) (acc : List ByteArray) (laid : Bool), j + m = l.length → acc.length ≤ j + (if laid = true then 1 else 0) →
    Ev (fun k => r05_With.l0 k l s acc laid (j : Int)) (acc ++ withB s laid (l.drop j)) := by
  intro m
  induction m with
  | zero =>
    intro j acc laid hj ha
    have hje : j = l.length := hj
    have hnl : ¬ ((j : Int) < (l.length : Int)) := by rw [hje]; exact Int.lt_irrefl _
    have ha' : acc.length ≤ l.length + 1 := by
      rw [← hje]; refine Nat.le_trans ha ?_; split <;> omega
    have hcap := cap_lt ha' hl
    refine Ev.step ?_
    simp only [r05_With.l0, if_neg hnl, if_pos hcap]
    rw [hje, List.drop_of_length_le (Nat.le_refl _)]
    cases laid with
    | true => simpa [withB] using Ev.const acc
    | false => simpa [withB] using Ev.const (acc ++ [s])
  | succ m ih =>
    intro j acc laid hj ha
    have hjl : j < l.length := by omega
    have c1 : (0 : Int) ≤ (j : Int) := Int.natCast_nonneg j
    have c2 : (j : Int) < (l.length : Int) := Int.ofNat_lt.2 hjl
    have hw := pzL j (Nat.le_trans (Nat.le_of_lt hjl) hl)
    obtain ⟨hd, _⟩ := drop_str l j hjl
    obtain ⟨x, hx⟩ : ∃ x, x = rdOf ByteArray.empty l (j : Int) := ⟨_, rfl⟩
    have ha1 : acc.length ≤ l.length + 1 := by refine Nat.le_trans ha ?_; split <;> omega
    have hcap := cap_lt ha1 hl
    refine Ev.step (Ev.step ?_)
    rw [hd]
    cases laid with
    | true =>
      have h2 := ih (j + 1) (acc ++ [x]) true (by omega) (by simp at ha ⊢; omega)
      simp only [r05_With.l0, r05_With.j1, if_pos c1, if_pos c2, if_true, Bool.false_eq_true, if_false, if_pos hcap, ← hx, hw]
      rw [show acc ++ withB s true (x :: l.drop (j + 1)) = (acc ++ [x]) ++ withB s true (l.drop (j + 1)) by simp [withB]]
      exact h2
    | false =>
      have ha0 : acc.length ≤ j := by simpa using ha
      simp only [r05_With.l0, r05_With.j1, if_pos c1, if_pos c2, Bool.false_eq_true, if_false, if_pos hcap, ← hx, hw]
      cases hb : Op.bytesLess x.toList s.toList with
      | true =>
        have h2 := ih (j + 1) (acc ++ [x]) false (by omega) (by simp; omega)
        simp only [Bool.not_true, Bool.false_eq_true, if_false]
        rw [show acc ++ withB s false (x :: l.drop (j + 1)) = (acc ++ [x]) ++ withB s false (l.drop (j + 1)) by simp [withB, hb]]
        exact h2
      | false =>
        simp only [Bool.not_false, if_true]
        cases hs : Op.bytesLess s.toList x.toList with
        | true =>
          have h2 := ih (j + 1) (acc ++ [s] ++ [x]) true (by omega) (by simp; omega)
          have hcap2 : (acc ++ [s]).length < 8796093022208 := cap_lt (n := l.length) (by simp; omega) hl
          simp only [if_true, Option.bind_some, if_pos hcap2]
          rw [show acc ++ withB s false (x :: l.drop (j + 1)) = (acc ++ [s] ++ [x]) ++ withB s true (l.drop (j + 1)) by simp [withB, hb, hs]]
          exact h2
        | false =>
          have h2 := ih (j + 1) (acc ++ [x]) true (by omega) (by simp; omega)
          simp only [Bool.false_eq_true, if_false]
          rw [show acc ++ withB s false (x :: l.drop (j + 1)) = (acc ++ [x]) ++ withB s true (l.drop (j + 1)) by simp [withB, hb, hs]]
          exact h2
def withN (l : List ByteArray) (s : ByteArray) : List ByteArray := withB s (s.toList == ([] : List UInt8)) l
theorem with_ev (l : List ByteArray) (s : ByteArray) (hl : l.length ≤ 8000000000000) : Ev (fun k => r05_With.f k l s) (withN l s) := by
  have h := with_evL l s hl l.length 0 [] (s.toList == ([] : List UInt8)) (by omega) (by simp)
  simpa [r05_With.f, withN] using h
theorem withB_len (s : ByteArray) : ∀ (l : List ByteArray) (laid : Bool), (withB s laid l).length ≤ l.length + 1 := by
  intro l
  induction l with
  | nil => intro laid; unfold withB; split <;> simp
  | cons x r ih =>
    intro laid
    have ht : (withB s true r).length ≤ r.length := by
      clear ih
      induction r with
      | nil => simp [withB]
      | cons y q ihq => unfold withB; rw [if_neg (by simp)]; simp; exact ihq
    unfold withB
    split
    · split
      · simp; omega
      · simp; omega
    · simp; exact ih laid
theorem withN_len (l : List ByteArray) (s : ByteArray) : (withN l s).length ≤ l.length + 1 := withB_len s l _
theorem withB_map (s : ByteArray) : ∀ (l : List ByteArray) (laid : Bool), (withB s laid l).map (·.data.toList) = withK s.data.toList laid (l.map (·.data.toList)) := by
  intro l
  induction l with
  | nil => intro laid; cases laid <;> simp [withB, withK]
  | cons x r ih =>
    intro laid
    have e1 : (Op.bytesLess x.toList s.toList = false) ↔ ¬ x.data.toList < s.data.toList := by rw [bytesLess_eq, Lib.toList_data, Lib.toList_data]; simp
    have e2 : (Op.bytesLess s.toList x.toList = true) ↔ s.data.toList < x.data.toList := by rw [bytesLess_eq, Lib.toList_data, Lib.toList_data]; simp
    rw [List.map_cons]
    unfold withB withK
    by_cases h1 : laid = false ∧ ¬ x.data.toList < s.data.toList
    · rw [if_pos h1, if_pos ⟨h1.1, e1.2 h1.2⟩]
      by_cases h2 : s.data.toList < x.data.toList
      · rw [if_pos h2, if_pos (e2.2 h2), List.map_cons, List.map_cons, ih]
      · rw [if_neg h2, if_neg (fun h => h2 (e2.1 h)), List.map_cons, ih]
    · rw [if_neg h1, if_neg (fun h => h1 ⟨h.1, e1.1 h.2⟩), List.map_cons, ih]
theorem withN_map (l : List ByteArray) (s : ByteArray) : (withN l s).map (·.data.toList) = withF (l.map (·.data.toList)) s.data.toList := by
  unfold withN withF
  rw [withB_map, Lib.toList_data]
theorem fold_map : ∀ (xs l : List ByteArray), (xs.foldl withN l).map (·.data.toList) = (xs.map (·.data.toList)).foldl withF (l.map (·.data.toList)) := by
  intro xs
  induction xs with
  | nil => intro l; rfl
  | cons s r ih => intro l; rw [List.foldl_cons, List.map_cons, List.foldl_cons, ih, withN_map]
theorem bytes_back (l : List ByteArray) : (l.map (·.data.toList)).map (fun x => (⟨x.toArray⟩ : ByteArray)) = l := by
  rw [List.map_map]; exact List.map_id'' (fun _ => rfl) l
theorem fold_uniq (xs : List ByteArray) : xs.foldl withN [] = (uniqS (xs.map (·.data.toList))).map (fun x => (⟨x.toArray⟩ : ByteArray)) := by
  rw [uniq_fold, ← bytes_back (xs.foldl withN []), fold_map]; rfl
end Go.Proofs.Ytjiacafeckokeaa.Man

namespace Go.Proofs.Ytjiacafeckokeaa.Man
open Go.RowKit Go.Proofs.Ytjiacafeckokeaa.Pr Go.Proofs.YtjiacafeckokeaaW.PrintWords
set_option linter.unusedVariables false
set_option linter.unusedSimpArgs false
theorem names_cons (o : S56) (r : List S56) : namesOf (o :: r) = if o.f0 = 4 then o.f2 :: namesOf r else namesOf r := by
  unfold namesOf
  by_cases h : o.f0 = 4 <;> simp [h]
theorem with_bind {β : Type} {g : Nat → List ByteArray → Option β} {acc : List ByteArray} {s : ByteArray} {R : β} (hl : acc.length ≤ 8000000000000) (h : Ev (fun k => g k (withN acc s)) R) : Ev (fun k => (r05_With.f k acc s).bind (g k)) R :=
  Ev.bind (with_ev acc s hl) h
theorem vars_l2 (L : List S46) (i : Nat) (hi : i < L.length) (h4 : (rd_T46 L (i : Int)).f4.length ≤ 1050000) (rest : List ByteArray) (hi2 : i ≤ 2000000)
    (hn : ∀ acc : List ByteArray, acc.length + rest.length ≤ 8000000000000 → Ev (fun k => r05_Vars.l1 k acc L ((i + 1 : Nat) : Int)) (rest.foldl withN acc)) :
    ∀ (m j : Nat) (acc : List ByteArray), j + m = (rd_T46 L (i : Int)).f4.length → acc.length + (namesOf ((rd_T46 L (i : Int)).f4.drop j) ++ rest).length ≤ 8000000000000 →
      Ev (fun k => r05_Vars.l2 k acc L (i : Int) (j : Int)) ((namesOf ((rd_T46 L (i : Int)).f4.drop j) ++ rest).foldl withN acc) := by
  have c1 : (0 : Int) ≤ (i : Int) := Int.natCast_nonneg i
  have c2 : (i : Int) < (L.length : Int) := Int.ofNat_lt.2 hi
  have hwi := pzL i (Nat.le_trans hi2 (by decide))
  intro m
  induction m with
  | zero =>
    intro j acc hj ha
    have hje : j = (rd_T46 L (i : Int)).f4.length := hj
    have hnl : ¬ ((j : Int) < ((rd_T46 L (i : Int)).f4.length : Int)) := by rw [hje]; exact Int.lt_irrefl _
    rw [hje, List.drop_of_length_le (Nat.le_refl _)] at ha
    refine Ev.step ?_
    simp only [r05_Vars.l2, if_pos c1, if_pos c2, if_neg hnl, hwi]
    rw [hje, List.drop_of_length_le (Nat.le_refl _)]
    exact hn acc ha
  | succ m ih =>
    intro j acc hj ha
    have hjl : j < (rd_T46 L (i : Int)).f4.length := by omega
    have d1 : (0 : Int) ≤ (j : Int) := Int.natCast_nonneg j
    have d2 : (j : Int) < ((rd_T46 L (i : Int)).f4.length : Int) := Int.ofNat_lt.2 hjl
    have hw := pz j (Nat.le_trans (Nat.le_of_lt hjl) h4)
    have hd := drop_op _ j hjl
    rw [hd, names_cons] at ha ⊢
    refine Ev.step ?_
    simp only [r05_Vars.l2, if_pos c1, if_pos c2, if_pos d1, if_pos d2, hw]
    by_cases h : (rd_T56 (rd_T46 L (i : Int)).f4 (j : Int)).f0 = 4
    · rw [if_pos h] at ha ⊢
      simp only [if_pos h]
      simp only [List.length_append, List.length_cons] at ha
      have hwl := withN_len acc (rd_T56 (rd_T46 L (i : Int)).f4 (j : Int)).f2
      have hb : (withN acc (rd_T56 (rd_T46 L (i : Int)).f4 (j : Int)).f2).length + (namesOf ((rd_T46 L (i : Int)).f4.drop (j + 1)) ++ rest).length ≤ 8000000000000 := by
        rw [List.length_append]; refine Nat.le_trans (Nat.add_le_add_right hwl _) (Nat.le_trans (Nat.le_of_eq ?_) ha); omega
      exact with_bind (Nat.le_trans (Nat.le_add_right _ _) ha) (ih (j + 1) _ (by omega) hb)
    · rw [if_neg h] at ha ⊢
      simp only [if_neg h]
      exact ih (j + 1) acc (by omega) ha
theorem vars_l1 (L : List S46) (hL : L.length ≤ 2000000) (h4 : ∀ s, s ∈ L → s.f4.length ≤ 1050000) : ∀ (m i : Nat) (acc : List ByteArray), i + m = L.length → acc.length + ((L.drop i).flatMap varG).length ≤ 8000000000000 →
    Ev (fun k => r05_Vars.l1 k acc L (i : Int)) (((L.drop i).flatMap varG).foldl withN acc) := by
  intro m
  induction m with
  | zero =>
    intro i acc hi ha
    have hie : i = L.length := hi
    have hnl : ¬ ((i : Int) < (L.length : Int)) := by rw [hie]; exact Int.lt_irrefl _
    refine Ev.step ?_
    simp only [r05_Vars.l1, if_neg hnl]
    rw [hie, List.drop_of_length_le (Nat.le_refl _)]
    exact Ev.const acc
  | succ m ih =>
    intro i acc hi ha
    have hil : i < L.length := by omega
    have c1 : (0 : Int) ≤ (i : Int) := Int.natCast_nonneg i
    have c2 : (i : Int) < (L.length : Int) := Int.ofNat_lt.2 hil
    have hd := rd_drop L i hil
    have hmem : rd_T46 L (i : Int) ∈ L := by
      have : rd_T46 L (i : Int) ∈ L.drop i := by rw [hd]; exact List.mem_cons_self
      exact List.mem_of_mem_drop this
    rw [hd, List.flatMap_cons] at ha ⊢
    simp only [varG, List.cons_append, List.nil_append, List.append_assoc, List.length_cons, List.length_append] at ha
    refine Ev.step ?_
    simp only [r05_Vars.l1, if_pos c1, if_pos c2, varG, List.cons_append, List.nil_append, List.append_assoc, List.foldl_cons]
    have w1 := withN_len acc (rd_T46 L (i : Int)).f1
    have w2 := withN_len (withN acc (rd_T46 L (i : Int)).f1) (rd_T46 L (i : Int)).f2
    have hx : (withN acc (rd_T46 L (i : Int)).f1).length ≤ 8000000000000 := Nat.le_trans (Nat.le_trans w1 (Nat.add_le_add_left (by omega) _)) ha
    refine with_bind (Nat.le_trans (Nat.le_add_right _ _) ha) (with_bind hx ?_)
    have h2 := vars_l2 L i hil (h4 _ hmem) ((L.drop (i + 1)).flatMap varG) (by omega) (fun acc' ha' => ih (i + 1) acc' (by omega) ha') (rd_T46 L (i : Int)).f4.length 0 (withN (withN acc (rd_T46 L (i : Int)).f1) (rd_T46 L (i : Int)).f2) (by omega)
      (by rw [List.drop_zero, List.length_append]; refine Nat.le_trans (Nat.add_le_add_right (Nat.le_trans w2 (Nat.add_le_add_right w1 1)) _) (Nat.le_trans (Nat.le_of_eq ?_) ha); omega)
    simpa using h2
theorem vars_ev (f : S32) (hfit : FitN f) (hlow : Low f.f2) : Ev (fun k => r05_Vars.f k f.f0 f.f1 f.f2) (varsF f) := by
  have e : varsF f = (f.f1 ++ (flat f.f2).flatMap varG).foldl withN [] := by rw [fold_uniq]; rfl
  rw [e]
  have hv := fm_len varG 1050002 (flat f.f2) (fun s' hs' => by have h2 := namesOf_len s'.f4; have h3 := (hfit.2.2.2 s' hs').1; unfold varG; simp only [List.length_append, List.length_cons, List.length_nil]; omega)
  have h3 : (flat f.f2).length * 1050002 ≤ 2000000 * 1050002 := Nat.mul_le_mul_right _ hfit.2.2.1
  have hV : ((flat f.f2).flatMap varG).length ≤ 2200004000000 := Nat.le_trans (Nat.le_trans hv h3) (by decide)
  suffices h : ∀ (m j : Nat) (acc : List ByteArray), j + m = f.f1.length → acc.length ≤ j → Ev (fun k => r05_Vars.l0 k acc (j : Int) f.f0 f.f1 f.f2) ((f.f1.drop j ++ (flat f.f2).flatMap varG).foldl withN acc) by
    have := h f.f1.length 0 [] (by omega) (by simp)
    simpa [r05_Vars.f] using this
  intro m
  induction m with
  | zero =>
    intro j acc hj ha
    have hje : j = f.f1.length := hj
    have hnl : ¬ ((j : Int) < (f.f1.length : Int)) := by rw [hje]; exact Int.lt_irrefl _
    refine Ev.step ?_
    simp only [r05_Vars.l0, if_neg hnl]
    rw [hje, List.drop_of_length_le (Nat.le_refl _), List.nil_append]
    refine Ev.bind (list_ev _ f.f2 (Nat.lt_succ_self _) hlow hfit.2.2.1) ?_
    have := vars_l1 (flat f.f2) hfit.2.2.1 (fun s hs => (hfit.2.2.2 s hs).1) (flat f.f2).length 0 acc (by omega) (by rw [List.drop_zero]; exact Nat.le_trans (Nat.add_le_add (Nat.le_trans ha (by rw [hje]; exact hfit.1)) hV) (by decide))
    simpa using this
  | succ m ih =>
    intro j acc hj ha
    have hjl : j < f.f1.length := by omega
    have c1 : (0 : Int) ≤ (j : Int) := Int.natCast_nonneg j
    have c2 : (j : Int) < (f.f1.length : Int) := Int.ofNat_lt.2 hjl
    have hw := pz j (Nat.le_trans (Nat.le_of_lt hjl) hfit.1)
    obtain ⟨hd, _⟩ := drop_str f.f1 j hjl
    rw [hd]
    refine Ev.step ?_
    simp only [r05_Vars.l0, if_pos c1, if_pos c2, hw, List.cons_append, List.foldl_cons]
    refine with_bind (Nat.le_trans ha (Nat.le_trans (Nat.le_of_lt hjl) (Nat.le_trans hfit.1 (by decide)))) (ih (j + 1) _ (by omega) (Nat.le_trans (withN_len _ _) (Nat.add_le_add_right ha 1)))
end Go.Proofs.Ytjiacafeckokeaa.Man

namespace Go.Proofs.Ytjiacafeckokeaa.Man
open Go.RowKit Go.Proofs.Ytjiacafeckokeaa.Pr Go.Proofs.YtjiacafeckokeaaW.PrintWords
set_option linter.unusedVariables false
set_option linter.unusedSimpArgs false
theorem take_drop (l : List ByteArray) (i j : Nat) (h : j < i) (hi : i < l.length) : (l.take i).drop j = rdOf ByteArray.empty l (j : Int) :: (l.take i).drop (j + 1) := by
  have hl : j < (l.take i).length := by rw [List.length_take]; omega
  rw [List.drop_eq_getElem_cons hl, List.getElem_take]
  congr 1
  unfold rdOf; rw [Int.toNat_natCast, List.getD_eq_getElem?_getD, List.getElem?_eq_getElem (by omega)]; rfl
theorem twice_l1 (l : List ByteArray) (hl : l.length ≤ 1050000) (i : Nat) (hi : i < l.length) (b : Bool) (hb : Ev (fun k => r05_Twice.l0 k l ((i + 1 : Nat) : Int)) b) :
    ∀ m j : Nat, j + m = i → Ev (fun k => r05_Twice.l1 k l (i : Int) (j : Int)) (isSeen ((l.take i).drop j) (rdOf ByteArray.empty l (i : Int)) || b) := by
  have c1 : (0 : Int) ≤ (i : Int) := Int.natCast_nonneg i
  have c2 : (i : Int) < (l.length : Int) := Int.ofNat_lt.2 hi
  have hwi := pz i (Nat.le_trans (Nat.le_of_lt hi) hl)
  intro m
  induction m with
  | zero =>
    intro j hj
    have hje : j = i := hj
    refine Ev.step ?_
    simp only [r05_Twice.l1, hje, if_neg (Int.lt_irrefl _), hwi]
    rw [List.drop_of_length_le (by rw [List.length_take]; exact Nat.min_le_left _ _)]
    exact hb
  | succ m ih =>
    intro j hj
    have hji : j < i := by omega
    have d1 : (0 : Int) ≤ (j : Int) := Int.natCast_nonneg j
    have d2 : (j : Int) < (i : Int) := Int.ofNat_lt.2 hji
    have d3 : (j : Int) < (l.length : Int) := Int.ofNat_lt.2 (Nat.lt_trans hji hi)
    have hw := pz j (Nat.le_trans (Nat.le_of_lt (Nat.lt_trans hji hi)) hl)
    refine Ev.step ?_
    simp only [r05_Twice.l1, if_pos c1, if_pos c2, if_pos d1, if_pos d2, if_pos d3, hw]
    rw [take_drop l i j hji hi]
    by_cases h : (rdOf ByteArray.empty l (i : Int)).toList = (rdOf ByteArray.empty l (j : Int)).toList
    · simp only [if_pos h]
      have : isSeen (rdOf ByteArray.empty l (j : Int) :: (l.take i).drop (j + 1)) (rdOf ByteArray.empty l (i : Int)) = true := by
        unfold isSeen; rw [List.any_cons, decide_eq_true (by rw [← Lib.toList_data, ← Lib.toList_data]; exact h.symm)]; rfl
      rw [this]; exact Ev.const true
    · simp only [if_neg h]
      have : isSeen (rdOf ByteArray.empty l (j : Int) :: (l.take i).drop (j + 1)) (rdOf ByteArray.empty l (i : Int)) = isSeen ((l.take i).drop (j + 1)) (rdOf ByteArray.empty l (i : Int)) := by
        unfold isSeen; rw [List.any_cons, decide_eq_false (by rw [← Lib.toList_data, ← Lib.toList_data]; exact fun e => h e.symm)]; rfl
      rw [this]; exact ih (j + 1) (by omega)
theorem twice_ev (l : List ByteArray) (hl : l.length ≤ 1050000) : Ev (fun k => r05_Twice.f k l) (twiceB l) := by
  suffices h : ∀ m i : Nat, i + m = l.length → Ev (fun k => r05_Twice.l0 k l (i : Int)) (twiceFrom (l.take i) (l.drop i)) by
    have := h l.length 0 (by omega)
    simpa [r05_Twice.f, twiceB] using this
  intro m
  induction m with
  | zero =>
    intro i hi
    have hie : i = l.length := hi
    have hnl : ¬ ((i : Int) < (l.length : Int)) := by rw [hie]; exact Int.lt_irrefl _
    refine Ev.step ?_
    simp only [r05_Twice.l0, if_neg hnl]
    rw [hie, List.drop_of_length_le (Nat.le_refl _)]
    exact Ev.const false
  | succ m ih =>
    intro i hi
    have hil : i < l.length := by omega
    have c2 : (i : Int) < (l.length : Int) := Int.ofNat_lt.2 hil
    obtain ⟨hd, ht⟩ := drop_str l i hil
    have hn := ih (i + 1) (by omega)
    rw [ht] at hn
    refine Ev.step ?_
    simp only [r05_Twice.l0, if_pos c2]
    rw [hd]
    have := twice_l1 l hl i hil _ hn i 0 (by omega)
    simpa [twiceFrom] using this
theorem uniqS_ext (xs ys : List Nm) (h : ∀ y, y ∈ xs ↔ y ∈ ys) : uniqS xs = uniqS ys :=
  rises_ext _ _ (uniqS_spec xs).1 (uniqS_spec ys).1 fun y => by rw [(uniqS_spec xs).2 y, (uniqS_spec ys).2 y, h y]
end Go.Proofs.Ytjiacafeckokeaa.Man

-- Written by wip/xprint.py (the kit's print, run over this seat with some contracts of my own). Not trusted: Lean checks it.
namespace Go.Proofs.Ytjiacafeckokeaa.Pr
open Go.RowKit Go.Proofs.YtjiacafeckokeaaW.PrintWords Go.Proofs.YtjiacafeckokeaaW.PrintLast Go.Proofs.YtjiacafeckokeaaW.PrintMore
attribute [local go_sem] max2_int min2_int max_two min_two max_three min_three max_four min_four   -- for this text's walks alone
set_option linter.unusedVariables false
set_option linter.unusedSimpArgs false
mutual
def r05_stmt.j0 : Nat → Bool → List (S32) → Int → ByteArray → ByteArray → ByteArray → List (S56) → List ByteArray → List (S46) → List (S46) → Option (Int)
  | 0, _, _, _, _, _, _, _, _, _, _ => none
  | k + 1, x14, x260000, x261000, x261001, x261002, x261003, x261004, x261005, x261006, x261007 => if x14 = true then (some 50) else (r05_stmt.l0 k 0 x260000 x261000 x261001 x261002 x261003 x261004 x261005 x261006 x261007)
def r05_stmt.l0 : Nat → Int → List (S32) → Int → ByteArray → ByteArray → ByteArray → List (S56) → List ByteArray → List (S46) → List (S46) → Option (Int)
  | 0, _, _, _, _, _, _, _, _, _, _ => none
  | k + 1, x5, x260000, x261000, x261001, x261002, x261003, x261004, x261005, x261006, x261007 => if x5 < (x261004.length : Int) then (if 0 ≤ x5 then (if ((rd_T56 x261004 x5).f0) = 3 then ((r05_Fun.f k x260000 ((rd_T56 x261004 x5).f2)).bind fun t264 => (if t264 < 0 then (some 51) else (r05_stmt.l0 k (wrap64 (x5 + 1)) x260000 x261000 x261001 x261002 x261003 x261004 x261005 x261006 x261007))) else (r05_stmt.l0 k (wrap64 (x5 + 1)) x260000 x261000 x261001 x261002 x261003 x261004 x261005 x261006 x261007)) else (none)) else (if x261000 = 5 then ((r05_Fun.f k x260000 x261003).bind fun t265 => (if t265 < 0 then (some 51) else (if 0 ≤ t265 then (if t265 < (x260000.length : Int) then (if (((rd_T32 x260000 t265).f1).length : Int) = (x261004.length : Int) then (some 0) else (some 52)) else (none)) else (none)))) else (some 0))
end
def r05_stmt.f (k : Nat) (l0_0 : List (S32)) (a1_0 : Int) (a1_1 : ByteArray) (a1_2 : ByteArray) (a1_3 : ByteArray) (l1_4 : List (S56)) (l1_5 : List ByteArray) (l1_6 : List (S46)) (l1_7 : List (S46)) : Option (Int) := if a1_0 = 4 then ((r05_Twice.f k l1_5).bind fun t261 => (r05_stmt.j0 k t261 l0_0 a1_0 a1_1 a1_2 a1_3 l1_4 l1_5 l1_6 l1_7)) else (r05_stmt.j0 k false l0_0 a1_0 a1_1 a1_2 a1_3 l1_4 l1_5 l1_6 l1_7)
theorem r05_stmt.mono_l : ∀ k, (∀ y0 y1 y2 y3 y4 y5 y6 y7 y8 y9, LeO (r05_stmt.j0 k y0 y1 y2 y3 y4 y5 y6 y7 y8 y9) (r05_stmt.j0 (k + 1) y0 y1 y2 y3 y4 y5 y6 y7 y8 y9)) ∧ (∀ y0 y1 y2 y3 y4 y5 y6 y7 y8 y9, LeO (r05_stmt.l0 k y0 y1 y2 y3 y4 y5 y6 y7 y8 y9) (r05_stmt.l0 (k + 1) y0 y1 y2 y3 y4 y5 y6 y7 y8 y9))
  | 0 => ⟨fun _ _ _ _ _ _ _ _ _ _ r h => by simp [r05_stmt.j0] at h, fun _ _ _ _ _ _ _ _ _ _ r h => by simp [r05_stmt.l0] at h⟩
  | k + 1 => by
    obtain ⟨ih0, ih1⟩ := r05_stmt.mono_l k
    refine ⟨?_, ?_⟩
    · intro y0 y1 y2 y3 y4 y5 y6 y7 y8 y9
      unfold r05_stmt.j0
      repeat' first
      | (with_reducible exact ih0 _ _ _ _ _ _ _ _ _ _)
      | (with_reducible exact ih1 _ _ _ _ _ _ _ _ _ _)
      | (with_reducible exact r05_Fun.mono _ _ _)
      | (with_reducible exact r05_Twice.mono _ _)
      | (with_reducible exact LeO.refl _)
      | (with_reducible exact LeO.none _)
      | (with_reducible refine LeO.ite ?_ ?_)
      | (with_reducible refine LeO.bind ?_ (fun _ => ?_))
      | exact ih0 _ _ _ _ _ _ _ _ _ _
      | exact ih1 _ _ _ _ _ _ _ _ _ _
      | exact r05_Fun.mono _ _ _
      | exact r05_Twice.mono _ _
      | exact LeO.none _
      | refine LeO.ite ?_ ?_
      | refine LeO.bind ?_ (fun _ => ?_)
    · intro y0 y1 y2 y3 y4 y5 y6 y7 y8 y9
      unfold r05_stmt.l0
      repeat' first
      | (with_reducible exact ih0 _ _ _ _ _ _ _ _ _ _)
      | (with_reducible exact ih1 _ _ _ _ _ _ _ _ _ _)
      | (with_reducible exact r05_Fun.mono _ _ _)
      | (with_reducible exact r05_Twice.mono _ _)
      | (with_reducible exact LeO.refl _)
      | (with_reducible exact LeO.none _)
      | (with_reducible refine LeO.ite ?_ ?_)
      | (with_reducible refine LeO.bind ?_ (fun _ => ?_))
      | exact ih0 _ _ _ _ _ _ _ _ _ _
      | exact ih1 _ _ _ _ _ _ _ _ _ _
      | exact r05_Fun.mono _ _ _
      | exact r05_Twice.mono _ _
      | exact LeO.none _
      | refine LeO.ite ?_ ?_
      | refine LeO.bind ?_ (fun _ => ?_)
theorem r05_stmt.mono : ∀ a0 a1 a2 a3 a4 a5 a6 a7 a8 k, LeO (r05_stmt.f k a0 a1 a2 a3 a4 a5 a6 a7 a8) (r05_stmt.f (k + 1) a0 a1 a2 a3 a4 a5 a6 a7 a8) := by
 intro a0 a1 a2 a3 a4 a5 a6 a7 a8 k
 obtain ⟨ih0, ih1⟩ := r05_stmt.mono_l k
 unfold r05_stmt.f
 repeat' first
   | (with_reducible exact ih0 _ _ _ _ _ _ _ _ _ _)
   | (with_reducible exact ih1 _ _ _ _ _ _ _ _ _ _)
   | (with_reducible exact r05_Fun.mono _ _ _)
   | (with_reducible exact r05_Twice.mono _ _)
   | (with_reducible exact LeO.refl _)
   | (with_reducible exact LeO.none _)
   | (with_reducible refine LeO.ite ?_ ?_)
   | (with_reducible refine LeO.bind ?_ (fun _ => ?_))
   | exact ih0 _ _ _ _ _ _ _ _ _ _
   | exact ih1 _ _ _ _ _ _ _ _ _ _
   | exact r05_Fun.mono _ _ _
   | exact r05_Twice.mono _ _
   | exact LeO.none _
   | refine LeO.ite ?_ ?_
   | refine LeO.bind ?_ (fun _ => ?_)
mutual
def r05_Check.l0 : Nat → Int → List (S32) → Option (Int × Int)
  | 0, _, _ => none
  | k + 1, x3, x268000 => if x3 < (x268000.length : Int) then (if 0 ≤ x3 then ((r05_Fun.f k x268000 ((rd_T32 x268000 x3).f0)).bind fun t271 => (if t271 < x3 then (r05_Check.j1 k x3 true x268000 ((rd_T32 x268000 x3).f0) ((rd_T32 x268000 x3).f1) ((rd_T32 x268000 x3).f2)) else ((r05_Twice.f k ((rd_T32 x268000 x3).f1)).bind fun t272 => (r05_Check.j1 k x3 t272 x268000 ((rd_T32 x268000 x3).f0) ((rd_T32 x268000 x3).f1) ((rd_T32 x268000 x3).f2))))) else (none)) else ((r05_Fun.f k x268000 (⟨#[109, 97, 105, 110]⟩ : ByteArray)).bind fun t278 => (if t278 < 0 then (some (53, (-1))) else (if 0 ≤ t278 then (if t278 < (x268000.length : Int) then (if (((rd_T32 x268000 t278).f1).length : Int) > 0 then (some (53, (-1))) else (some (0, 0))) else (none)) else (none))))
def r05_Check.j1 : Nat → Int → Bool → List (S32) → ByteArray → List ByteArray → List (S46) → Option (Int × Int)
  | 0, _, _, _, _, _, _ => none
  | k + 1, x3, x31, x268000, x271000, x271001, x271002 => if x31 = true then (some (50, wrap64 (10000 * x3))) else ((r04_List.f k x271002).bind fun t273 => (r05_Check.l1 k x3 t273 0 x268000))
def r05_Check.l1 : Nat → Int → List (S46) → Int → List (S32) → Option (Int × Int)
  | 0, _, _, _, _ => none
  | k + 1, x3, x5, x6, x268000 => if x6 < (x5.length : Int) then (if 0 ≤ x6 then ((r05_stmt.f k x268000 ((rd_T46 x5 x6).f0) ((rd_T46 x5 x6).f1) ((rd_T46 x5 x6).f2) ((rd_T46 x5 x6).f3) ((rd_T46 x5 x6).f4) ((rd_T46 x5 x6).f5) ((rd_T46 x5 x6).f6) ((rd_T46 x5 x6).f7)).bind fun t277 => (if t277 = 0 then (r05_Check.l1 k x3 x5 (wrap64 (x6 + 1)) x268000) else (some (t277, wrap64 ((wrap64 ((wrap64 (10000 * x3)) + x6)) + 1))))) else (none)) else (r05_Check.l0 k (wrap64 (x3 + 1)) x268000)
end
def r05_Check.f (k : Nat) (l0_0 : List (S32)) : Option (Int × Int) := r05_Check.l0 k 0 l0_0
theorem r05_Check.mono_l : ∀ k, (∀ y0 y1, LeO (r05_Check.l0 k y0 y1) (r05_Check.l0 (k + 1) y0 y1)) ∧ (∀ y0 y1 y2 y3 y4 y5, LeO (r05_Check.j1 k y0 y1 y2 y3 y4 y5) (r05_Check.j1 (k + 1) y0 y1 y2 y3 y4 y5)) ∧ (∀ y0 y1 y2 y3, LeO (r05_Check.l1 k y0 y1 y2 y3) (r05_Check.l1 (k + 1) y0 y1 y2 y3))
  | 0 => ⟨fun _ _ r h => by simp [r05_Check.l0] at h, fun _ _ _ _ _ _ r h => by simp [r05_Check.j1] at h, fun _ _ _ _ r h => by simp [r05_Check.l1] at h⟩
  | k + 1 => by
    obtain ⟨ih0, ih1, ih2⟩ := r05_Check.mono_l k
    refine ⟨?_, ?_, ?_⟩
    · intro y0 y1
      unfold r05_Check.l0
      repeat' first
      | (with_reducible exact ih0 _ _)
      | (with_reducible exact ih1 _ _ _ _ _ _)
      | (with_reducible exact ih2 _ _ _ _)
      | (with_reducible exact r04_List.mono _ _)
      | (with_reducible exact r05_Fun.mono _ _ _)
      | (with_reducible exact r05_Twice.mono _ _)
      | (with_reducible exact r05_stmt.mono _ _ _ _ _ _ _ _ _ _)
      | (with_reducible exact LeO.refl _)
      | (with_reducible exact LeO.none _)
      | (with_reducible refine LeO.ite ?_ ?_)
      | (with_reducible refine LeO.bind ?_ (fun _ => ?_))
      | exact ih0 _ _
      | exact ih1 _ _ _ _ _ _
      | exact ih2 _ _ _ _
      | exact r04_List.mono _ _
      | exact r05_Fun.mono _ _ _
      | exact r05_Twice.mono _ _
      | exact r05_stmt.mono _ _ _ _ _ _ _ _ _ _
      | exact LeO.none _
      | refine LeO.ite ?_ ?_
      | refine LeO.bind ?_ (fun _ => ?_)
    · intro y0 y1 y2 y3 y4 y5
      unfold r05_Check.j1
      repeat' first
      | (with_reducible exact ih0 _ _)
      | (with_reducible exact ih1 _ _ _ _ _ _)
      | (with_reducible exact ih2 _ _ _ _)
      | (with_reducible exact r04_List.mono _ _)
      | (with_reducible exact r05_Fun.mono _ _ _)
      | (with_reducible exact r05_Twice.mono _ _)
      | (with_reducible exact r05_stmt.mono _ _ _ _ _ _ _ _ _ _)
      | (with_reducible exact LeO.refl _)
      | (with_reducible exact LeO.none _)
      | (with_reducible refine LeO.ite ?_ ?_)
      | (with_reducible refine LeO.bind ?_ (fun _ => ?_))
      | exact ih0 _ _
      | exact ih1 _ _ _ _ _ _
      | exact ih2 _ _ _ _
      | exact r04_List.mono _ _
      | exact r05_Fun.mono _ _ _
      | exact r05_Twice.mono _ _
      | exact r05_stmt.mono _ _ _ _ _ _ _ _ _ _
      | exact LeO.none _
      | refine LeO.ite ?_ ?_
      | refine LeO.bind ?_ (fun _ => ?_)
    · intro y0 y1 y2 y3
      unfold r05_Check.l1
      repeat' first
      | (with_reducible exact ih0 _ _)
      | (with_reducible exact ih1 _ _ _ _ _ _)
      | (with_reducible exact ih2 _ _ _ _)
      | (with_reducible exact r04_List.mono _ _)
      | (with_reducible exact r05_Fun.mono _ _ _)
      | (with_reducible exact r05_Twice.mono _ _)
      | (with_reducible exact r05_stmt.mono _ _ _ _ _ _ _ _ _ _)
      | (with_reducible exact LeO.refl _)
      | (with_reducible exact LeO.none _)
      | (with_reducible refine LeO.ite ?_ ?_)
      | (with_reducible refine LeO.bind ?_ (fun _ => ?_))
      | exact ih0 _ _
      | exact ih1 _ _ _ _ _ _
      | exact ih2 _ _ _ _
      | exact r04_List.mono _ _
      | exact r05_Fun.mono _ _ _
      | exact r05_Twice.mono _ _
      | exact r05_stmt.mono _ _ _ _ _ _ _ _ _ _
      | exact LeO.none _
      | refine LeO.ite ?_ ?_
      | refine LeO.bind ?_ (fun _ => ?_)
theorem r05_Check.mono : ∀ a0 k, LeO (r05_Check.f k a0) (r05_Check.f (k + 1) a0) := by
 intro a0 k
 obtain ⟨ih0, ih1, ih2⟩ := r05_Check.mono_l k
 unfold r05_Check.f
 repeat' first
   | (with_reducible exact ih0 _ _)
   | (with_reducible exact ih1 _ _ _ _ _ _)
   | (with_reducible exact ih2 _ _ _ _)
   | (with_reducible exact r04_List.mono _ _)
   | (with_reducible exact r05_Fun.mono _ _ _)
   | (with_reducible exact r05_Twice.mono _ _)
   | (with_reducible exact r05_stmt.mono _ _ _ _ _ _ _ _ _ _)
   | (with_reducible exact LeO.refl _)
   | (with_reducible exact LeO.none _)
   | (with_reducible refine LeO.ite ?_ ?_)
   | (with_reducible refine LeO.bind ?_ (fun _ => ?_))
   | exact ih0 _ _
   | exact ih1 _ _ _ _ _ _
   | exact ih2 _ _ _ _
   | exact r04_List.mono _ _
   | exact r05_Fun.mono _ _ _
   | exact r05_Twice.mono _ _
   | exact r05_stmt.mono _ _ _ _ _ _ _ _ _ _
   | exact LeO.none _
   | refine LeO.ite ?_ ?_
   | refine LeO.bind ?_ (fun _ => ?_)
end Go.Proofs.Ytjiacafeckokeaa.Pr

namespace Go.Proofs.Ytjiacafeckokeaa.Man
open Go.RowKit Go.Proofs.Ytjiacafeckokeaa.Pr Go.Proofs.YtjiacafeckokeaaW.PrintWords
set_option linter.unusedVariables false
set_option linter.unusedSimpArgs false
def stmtTail (fs : List S32) (s : S46) : Int := if s.f0 = 5 then (if funIx fs s.f3 < 0 then 51 else if (rd_T32 fs (funIx fs s.f3)).f1.length = s.f4.length then 0 else 52) else 0
theorem stmtB_eq (fs : List S32) (s : S46) : stmtB fs s = if s.f0 = 4 ∧ twiceB s.f5 = true then 50 else if s.f4.any (lostOp fs) = true then 51 else stmtTail fs s := rfl
theorem stmt_l0 (fs : List S32) (hf : fs.length ≤ 1050000) (s : S46) (h4 : s.f4.length ≤ 1050000) : ∀ m j : Nat, j + m = s.f4.length →
    Ev (fun k => r05_stmt.l0 k (j : Int) fs s.f0 s.f1 s.f2 s.f3 s.f4 s.f5 s.f6 s.f7) (if (s.f4.drop j).any (lostOp fs) = true then 51 else stmtTail fs s) := by
  have hf2 : fs.length ≤ 2000000 := Nat.le_trans hf (by decide)
  intro m
  induction m with
  | zero =>
    intro j hj
    have hje : j = s.f4.length := hj
    have hnl : ¬ ((j : Int) < (s.f4.length : Int)) := by rw [hje]; exact Int.lt_irrefl _
    refine Ev.step ?_
    simp only [r05_stmt.l0, if_neg hnl]
    rw [hje, List.drop_of_length_le (Nat.le_refl _), if_neg (by simp)]
    unfold stmtTail
    by_cases h5 : s.f0 = 5
    · simp only [if_pos h5]
      refine Ev.bind (fun_ev fs hf2 s.f3) ?_
      by_cases h0 : funIx fs s.f3 < 0
      · simp only [if_pos h0]; exact Ev.const 51
      · have c1 : 0 ≤ funIx fs s.f3 := Int.not_lt.1 h0
        simp only [if_neg h0, if_pos c1, if_pos (funIx_lt fs s.f3)]
        by_cases he : (rd_T32 fs (funIx fs s.f3)).f1.length = s.f4.length
        · simp only [he, if_true]; exact Ev.const 0
        · have he2 : ¬ (((rd_T32 fs (funIx fs s.f3)).f1.length : Int) = (s.f4.length : Int)) := fun e => he (Int.ofNat_inj.1 e)
          simp only [if_neg he, if_neg he2]; exact Ev.const 52
    · simp only [if_neg h5]; exact Ev.const 0
  | succ m ih =>
    intro j hj
    have hjl : j < s.f4.length := by omega
    have d1 : (0 : Int) ≤ (j : Int) := Int.natCast_nonneg j
    have d2 : (j : Int) < (s.f4.length : Int) := Int.ofNat_lt.2 hjl
    have hw := pz j (Nat.le_trans (Nat.le_of_lt hjl) h4)
    have hn := ih (j + 1) (by omega)
    refine Ev.step ?_
    simp only [r05_stmt.l0, if_pos d1, if_pos d2, hw]
    rw [drop_op s.f4 j hjl, List.any_cons]
    by_cases h3 : (rd_T56 s.f4 (j : Int)).f0 = 3
    · simp only [if_pos h3]
      refine Ev.bind (fun_ev fs hf2 _) ?_
      by_cases h0 : funIx fs (rd_T56 s.f4 (j : Int)).f2 < 0
      · have : lostOp fs (rd_T56 s.f4 (j : Int)) = true := by simp [lostOp, h3, h0]
        simp only [if_pos h0, this, Bool.true_or, if_true]; exact Ev.const 51
      · have : lostOp fs (rd_T56 s.f4 (j : Int)) = false := by simp [lostOp, h0]
        simp only [if_neg h0, this, Bool.false_or]; exact hn
    · have : lostOp fs (rd_T56 s.f4 (j : Int)) = false := by simp [lostOp, h3]
      simp only [if_neg h3, this, Bool.false_or]; exact hn
theorem stmt_ev (fs : List S32) (hf : fs.length ≤ 1050000) (s : S46) (hs : FitS s) : Ev (fun k => r05_stmt.f k fs s.f0 s.f1 s.f2 s.f3 s.f4 s.f5 s.f6 s.f7) (stmtB fs s) := by
  have h0 := stmt_l0 fs hf s hs.1 s.f4.length 0 (by omega)
  rw [List.drop_zero] at h0
  rw [stmtB_eq]
  by_cases h4 : s.f0 = 4
  · simp only [r05_stmt.f, if_pos h4]
    refine Ev.bind (twice_ev s.f5 hs.2.1) (Ev.step ?_)
    cases ht : twiceB s.f5 with
    | true => simp only [r05_stmt.j0, if_true, h4, true_and]; exact Ev.const 50
    | false => simp only [r05_stmt.j0, Bool.false_eq_true, and_false, if_false]; exact h0
  · simp only [r05_stmt.f, if_neg h4]
    refine Ev.step ?_
    simp only [r05_stmt.j0, Bool.false_eq_true, if_false, h4, false_and]
    exact h0
theorem firstIx_le (nm : ByteArray) : ∀ (l : List S32) (i j : Nat) (h : j < l.length), (l[j].f0.toList == nm.toList) = true → firstIx nm l i ≤ ((i + j : Nat) : Int) := by
  intro l
  induction l with
  | nil => intro i j h; simp at h
  | cons f r ih =>
    intro i j h he
    unfold firstIx
    split
    · omega
    · next hn =>
      cases j with
      | zero => exact absurd he hn
      | succ j =>
        have := ih (i + 1) j (by simpa using h) (by simpa using he)
        omega
theorem funIx_le (fs : List S32) (i : Nat) (h : i < fs.length) : funIx fs (rd_T32 fs (i : Int)).f0 ≤ (i : Int) := by
  have e : rd_T32 fs (i : Int) = fs[i] := by unfold rd_T32; rw [Int.toNat_natCast, List.getD_eq_getElem?_getD, List.getElem?_eq_getElem h]; rfl
  rw [e]
  have := firstIx_le fs[i].f0 fs 0 i h (by simp)
  unfold funIx; omega
theorem check_l1 (fs : List S32) (hf : fs.length ≤ 1050000) (i : Nat) (hi : i ≤ 1050000) (L : List S46) (hL : L.length ≤ 2000000) (hs : ∀ s, s ∈ L → FitS s) (b : Int × Int) (hb : Ev (fun k => r05_Check.l0 k ((i + 1 : Nat) : Int) fs) b) :
    ∀ m j : Nat, j + m = L.length → Ev (fun k => r05_Check.l1 k (i : Int) L (j : Int) fs) (match faultIn fs i (L.drop j) j with | some p => p | none => b) := by
  have hwi := pz i hi
  intro m
  induction m with
  | zero =>
    intro j hj
    have hje : j = L.length := hj
    have hnl : ¬ ((j : Int) < (L.length : Int)) := by rw [hje]; exact Int.lt_irrefl _
    refine Ev.step ?_
    simp only [r05_Check.l1, if_neg hnl, hwi]
    rw [hje, List.drop_of_length_le (Nat.le_refl _)]
    exact hb
  | succ m ih =>
    intro j hj
    have hjl : j < L.length := by omega
    have d1 : (0 : Int) ≤ (j : Int) := Int.natCast_nonneg j
    have d2 : (j : Int) < (L.length : Int) := Int.ofNat_lt.2 hjl
    have hw := pzL j (Nat.le_trans (Nat.le_of_lt hjl) (Nat.le_trans hL (by decide)))
    have hd := rd_drop L j hjl
    have hmem : rd_T46 L (j : Int) ∈ L := by
      have : rd_T46 L (j : Int) ∈ L.drop j := by rw [hd]; exact List.mem_cons_self
      exact List.mem_of_mem_drop this
    have hat : wrap64 ((wrap64 ((wrap64 (10000 * (i : Int))) + (j : Int))) + 1) = (i : Int) * 10000 + ((j + 1 : Nat) : Int) := by
      have h1 : (i : Int) ≤ 1050000 := Int.ofNat_le.2 hi
      have h2 : (j : Int) ≤ 2000000 := Int.ofNat_le.2 (Nat.le_trans (Nat.le_of_lt hjl) hL)
      simp only [wrap64]; omega
    refine Ev.step ?_
    simp only [r05_Check.l1, if_pos d1, if_pos d2, hw, hat]
    refine Ev.bind (stmt_ev fs hf _ (hs _ hmem)) ?_
    rw [hd]
    simp only [faultIn]
    by_cases h0 : stmtB fs (rd_T46 L (j : Int)) = 0
    · simp only [if_pos h0]; exact ih (j + 1) (by omega)
    · simp only [if_neg h0]; exact Ev.const _
theorem check_ev (fs : List S32) (hfit : FitC fs) (hlow : ∀ f, f ∈ fs → Low f.f2) : Ev (fun k => r05_Check.f k fs) (checkF fs) := by
  have hf2 : fs.length ≤ 2000000 := Nat.le_trans hfit.1 (by decide)
  suffices h : ∀ m i : Nat, i + m = fs.length → Ev (fun k => r05_Check.l0 k (i : Int) fs) (checkRest fs (fs.drop i) i) by
    have := h fs.length 0 (by omega)
    simpa [r05_Check.f, checkF] using this
  intro m
  induction m with
  | zero =>
    intro i hi
    have hie : i = fs.length := hi
    have hnl : ¬ ((i : Int) < (fs.length : Int)) := by rw [hie]; exact Int.lt_irrefl _
    refine Ev.step ?_
    simp only [r05_Check.l0, if_neg hnl]
    rw [hie, List.drop_of_length_le (Nat.le_refl _)]
    show Ev _ (mainB fs)
    refine Ev.bind (fun_ev fs hf2 _) ?_
    unfold mainB
    by_cases h0 : funIx fs (⟨#[109, 97, 105, 110]⟩ : ByteArray) < 0
    · simp only [if_pos h0]; exact Ev.const _
    · have c1 : 0 ≤ funIx fs (⟨#[109, 97, 105, 110]⟩ : ByteArray) := Int.not_lt.1 h0
      simp only [if_neg h0, if_pos c1, if_pos (funIx_lt fs _)]
      by_cases he : 0 < (rd_T32 fs (funIx fs (⟨#[109, 97, 105, 110]⟩ : ByteArray))).f1.length
      · have he2 : ((rd_T32 fs (funIx fs (⟨#[109, 97, 105, 110]⟩ : ByteArray))).f1.length : Int) > 0 := Int.ofNat_lt.2 he
        simp only [if_pos he, if_pos he2]; exact Ev.const _
      · have he2 : ¬ ((rd_T32 fs (funIx fs (⟨#[109, 97, 105, 110]⟩ : ByteArray))).f1.length : Int) > 0 := fun e => he (Int.ofNat_lt.1 e)
        simp only [if_neg he, if_neg he2]; exact Ev.const _
  | succ m ih =>
    intro i hi
    have hil : i < fs.length := by omega
    have c1 : (0 : Int) ≤ (i : Int) := Int.natCast_nonneg i
    have c2 : (i : Int) < (fs.length : Int) := Int.ofNat_lt.2 hil
    have hi6 : i ≤ 1050000 := Nat.le_trans (Nat.le_of_lt hil) hfit.1
    have hd := drop_T32 fs i hil
    have hmem := rdF_mem hil
    have hfn := hfit.2 _ hmem
    have hn := ih (i + 1) (by omega)
    have hle := funIx_le fs i hil
    have hm : wrap64 (10000 * (i : Int)) = (i : Int) * 10000 := by rw [Int.mul_comm]; exact mul_z i hi6
    refine Ev.step ?_
    simp only [r05_Check.l0, if_pos c1, if_pos c2]
    rw [hd]
    show Ev _ (match checkAt fs (rd_T32 fs (i : Int)) i with | some p => p | none => checkRest fs (fs.drop (i + 1)) (i + 1))
    refine Ev.bind (fun_ev fs hf2 _) ?_
    unfold checkAt
    by_cases h0 : funIx fs (rd_T32 fs (i : Int)).f0 < (i : Int)
    · have hne : (funIx fs (rd_T32 fs (i : Int)).f0 != (i : Int)) = true := by simp; omega
      simp only [if_pos h0, hne, Bool.true_or, if_true]
      refine Ev.step ?_
      simp only [r05_Check.j1, if_true, hm]
      exact Ev.const _
    · have hne : (funIx fs (rd_T32 fs (i : Int)).f0 != (i : Int)) = false := by simp; omega
      simp only [if_neg h0, hne, Bool.false_or]
      refine Ev.bind (twice_ev _ hfn.1) (Ev.step ?_)
      cases ht : twiceB (rd_T32 fs (i : Int)).f1 with
      | true => simp only [r05_Check.j1, if_true, hm]; exact Ev.const _
      | false =>
        simp only [r05_Check.j1, Bool.false_eq_true, if_false]
        refine Ev.bind (list_ev _ _ (Nat.lt_succ_self _) (hlow _ hmem) hfn.2.2.1) ?_
        have := check_l1 fs hfit.1 i hi6 (flat (rd_T32 fs (i : Int)).f2) hfn.2.2.1 hfn.2.2.2 _ hn (flat (rd_T32 fs (i : Int)).f2).length 0 (by omega)
        simpa using this
end Go.Proofs.Ytjiacafeckokeaa.Man

namespace Go.Proofs.Ytjiacafeckokeaa.Man
open Go.RowKit Go.Proofs.Ytjiacafeckokeaa.Pr Go.Proofs.YtjiacafeckokeaaW.PrintWords
set_option linter.unusedVariables false
set_option linter.unusedSimpArgs false
def propR (s : S46) : List ByteArray := (if s.f0 = 2 ∨ s.f0 = 3 then [s.f3] else []) ++ s.f5
def CapC : Nat := 8000000000000
theorem props_l2 (fs : List S32) (i : Nat) (L : List S46) (j : Nat) (hj : j < L.length) (hj2 : j ≤ 2000000) (h5 : (rd_T46 L (j : Int)).f5.length ≤ 1050000) (rest : List ByteArray)
    (hn : ∀ acc : List ByteArray, acc.length + rest.length ≤ CapC → Ev (fun k => r05_Props.l1 k acc (i : Int) L ((j + 1 : Nat) : Int) fs) (rest.foldl withN acc)) :
    ∀ (m t : Nat) (acc : List ByteArray), t + m = (rd_T46 L (j : Int)).f5.length → acc.length + ((rd_T46 L (j : Int)).f5.drop t ++ rest).length ≤ CapC →
      Ev (fun k => r05_Props.l2 k acc (i : Int) L (j : Int) (t : Int) fs) (((rd_T46 L (j : Int)).f5.drop t ++ rest).foldl withN acc) := by
  have c1 : (0 : Int) ≤ (j : Int) := Int.natCast_nonneg j
  have c2 : (j : Int) < (L.length : Int) := Int.ofNat_lt.2 hj
  have hwj := pzL j (Nat.le_trans hj2 (by decide))
  intro m
  induction m with
  | zero =>
    intro t acc ht ha
    have hte : t = (rd_T46 L (j : Int)).f5.length := ht
    have hnl : ¬ ((t : Int) < ((rd_T46 L (j : Int)).f5.length : Int)) := by rw [hte]; exact Int.lt_irrefl _
    rw [hte, List.drop_of_length_le (Nat.le_refl _)] at ha
    refine Ev.step ?_
    simp only [r05_Props.l2, if_pos c1, if_pos c2, if_neg hnl, hwj]
    rw [hte, List.drop_of_length_le (Nat.le_refl _)]
    exact hn acc ha
  | succ m ih =>
    intro t acc ht ha
    have htl : t < (rd_T46 L (j : Int)).f5.length := by omega
    have d1 : (0 : Int) ≤ (t : Int) := Int.natCast_nonneg t
    have d2 : (t : Int) < ((rd_T46 L (j : Int)).f5.length : Int) := Int.ofNat_lt.2 htl
    have hw := pz t (Nat.le_trans (Nat.le_of_lt htl) h5)
    obtain ⟨hd, _⟩ := drop_str _ t htl
    rw [hd, List.cons_append] at ha ⊢
    rw [List.length_cons] at ha
    refine Ev.step ?_
    simp only [r05_Props.l2, if_pos c1, if_pos c2, if_pos d1, if_pos d2, hw, List.foldl_cons]
    have hwl := withN_len acc (rdOf ByteArray.empty (rd_T46 L (j : Int)).f5 (t : Int))
    exact with_bind (Nat.le_trans (Nat.le_add_right _ _) ha) (ih (t + 1) _ (by omega) (Nat.le_trans (Nat.add_le_add_right hwl _) (Nat.le_trans (Nat.le_of_eq (by rw [Nat.add_assoc, Nat.add_comm 1])) ha)))
theorem props_l1 (fs : List S32) (i : Nat) (hi : i ≤ 1050000) (L : List S46) (hL : L.length ≤ 2000000) (h5 : ∀ s, s ∈ L → s.f5.length ≤ 1050000) (rest : List ByteArray)
    (hn : ∀ acc : List ByteArray, acc.length + rest.length ≤ CapC → Ev (fun k => r05_Props.l0 k acc ((i + 1 : Nat) : Int) fs) (rest.foldl withN acc)) :
    ∀ (m j : Nat) (acc : List ByteArray), j + m = L.length → acc.length + ((L.drop j).flatMap propR ++ rest).length ≤ CapC →
      Ev (fun k => r05_Props.l1 k acc (i : Int) L (j : Int) fs) (((L.drop j).flatMap propR ++ rest).foldl withN acc) := by
  have hwi := pz i hi
  intro m
  induction m with
  | zero =>
    intro j acc hj ha
    have hje : j = L.length := hj
    have hnl : ¬ ((j : Int) < (L.length : Int)) := by rw [hje]; exact Int.lt_irrefl _
    rw [hje, List.drop_of_length_le (Nat.le_refl _)] at ha
    refine Ev.step ?_
    simp only [r05_Props.l1, if_neg hnl, hwi]
    rw [hje, List.drop_of_length_le (Nat.le_refl _)]
    exact hn acc (by simpa using ha)
  | succ m ih =>
    intro j acc hj ha
    have hjl : j < L.length := by omega
    have c1 : (0 : Int) ≤ (j : Int) := Int.natCast_nonneg j
    have c2 : (j : Int) < (L.length : Int) := Int.ofNat_lt.2 hjl
    have hd := rd_drop L j hjl
    have hmem : rd_T46 L (j : Int) ∈ L := by
      have : rd_T46 L (j : Int) ∈ L.drop j := by rw [hd]; exact List.mem_cons_self
      exact List.mem_of_mem_drop this
    have hnext := props_l2 fs i L j hjl (Nat.le_trans (Nat.le_of_lt hjl) hL) (h5 _ hmem) ((L.drop (j + 1)).flatMap propR ++ rest) (fun acc' ha' => ih (j + 1) acc' (by omega) ha') (rd_T46 L (j : Int)).f5.length 0
    rw [hd, List.flatMap_cons, List.append_assoc] at ha ⊢
    have key : ∀ b : Bool, b = decide ((rd_T46 L (j : Int)).f0 = 2 ∨ (rd_T46 L (j : Int)).f0 = 3) → Ev (fun k => r05_Props.j2 k acc (i : Int) L (j : Int) b fs) ((propR (rd_T46 L (j : Int)) ++ ((L.drop (j + 1)).flatMap propR ++ rest)).foldl withN acc) := by
      intro b hb
      refine Ev.step ?_
      by_cases h : (rd_T46 L (j : Int)).f0 = 2 ∨ (rd_T46 L (j : Int)).f0 = 3
      · have hbt : b = true := by rw [hb]; exact decide_eq_true h
        have e : propR (rd_T46 L (j : Int)) = (rd_T46 L (j : Int)).f3 :: (rd_T46 L (j : Int)).f5 := by unfold propR; rw [if_pos h]; rfl
        rw [e] at ha ⊢
        rw [List.cons_append, List.length_cons] at ha
        simp only [r05_Props.j2, hbt, if_true, if_pos c1, if_pos c2, List.cons_append, List.foldl_cons]
        refine with_bind (Nat.le_trans (Nat.le_add_right _ _) ha) (Ev.step ?_)
        simp only [r05_Props.j3]
        have := hnext (withN acc (rd_T46 L (j : Int)).f3) (by omega) (by rw [List.drop_zero]; exact Nat.le_trans (Nat.add_le_add_right (withN_len _ _) _) (Nat.le_trans (Nat.le_of_eq (by rw [Nat.add_assoc, Nat.add_comm 1])) ha))
        simpa using this
      · have hbf : b = false := by rw [hb]; exact decide_eq_false h
        have e : propR (rd_T46 L (j : Int)) = (rd_T46 L (j : Int)).f5 := by unfold propR; rw [if_neg h]; rfl
        rw [e] at ha ⊢
        simp only [r05_Props.j2, hbf, Bool.false_eq_true, if_false]
        refine Ev.step ?_
        simp only [r05_Props.j3]
        have := hnext acc (by omega) (by rw [List.drop_zero]; exact ha)
        simpa using this
    refine Ev.step ?_
    simp only [r05_Props.l1, if_pos c1, if_pos c2]
    by_cases h2 : (rd_T46 L (j : Int)).f0 = 2
    · simp only [if_pos h2]; exact key true (by simp [h2])
    · simp only [if_neg h2]
      refine key _ ?_
      by_cases h3 : (rd_T46 L (j : Int)).f0 = 3 <;> simp [h2, h3]
theorem props_ev (fs : List S32) (hfit : FitW fs) (hlow : ∀ f, f ∈ fs → Low f.f2) : Ev (fun k => r05_Props.f k fs) (propsF fs) := by
  have hmemR : ∀ (L : List S46) (y : Nm), y ∈ (L.flatMap propG).map (·.data.toList) ↔ y ∈ (L.flatMap propR).map (·.data.toList) := by
    intro L y
    simp only [List.mem_map, List.mem_flatMap, propG, propR, List.mem_append]
    constructor
    · rintro ⟨b, ⟨s, hs, h⟩, e⟩; exact ⟨b, ⟨s, hs, h.symm⟩, e⟩
    · rintro ⟨b, ⟨s, hs, h⟩, e⟩; exact ⟨b, ⟨s, hs, h.symm⟩, e⟩
  have e : propsF fs = ((fs.flatMap flatF).flatMap propR).foldl withN [] := by
    rw [fold_uniq]; unfold propsF uniqB; rw [uniqS_ext _ _ (hmemR _)]
  have hcap : ((fs.flatMap flatF).flatMap propR).length ≤ 2000000 * 1050001 := by
    refine Nat.le_trans (fm_len propR 1050001 (fs.flatMap flatF) fun s hs => ?_) (Nat.mul_le_mul_right _ hfit.2)
    have := fit_flat hfit.1 fs.length s (by rw [List.take_length]; exact hs)
    unfold propG at this; unfold propR
    rw [List.length_append] at this ⊢
    omega
  rw [e]
  suffices h : ∀ (m i : Nat) (acc : List ByteArray), i + m = fs.length → acc.length + (((fs.drop i).flatMap flatF).flatMap propR).length ≤ CapC → Ev (fun k => r05_Props.l0 k acc (i : Int) fs) ((((fs.drop i).flatMap flatF).flatMap propR).foldl withN acc) by
    have := h fs.length 0 [] (by omega) (by rw [List.drop_zero]; exact Nat.le_trans (Nat.le_of_eq (Nat.zero_add _)) (Nat.le_trans hcap (by decide)))
    simpa [r05_Props.f] using this
  intro m
  induction m with
  | zero =>
    intro i acc hi ha
    have hie : i = fs.length := hi
    have hnl : ¬ ((i : Int) < (fs.length : Int)) := by rw [hie]; exact Int.lt_irrefl _
    refine Ev.step ?_
    simp only [r05_Props.l0, if_neg hnl]
    rw [hie, List.drop_of_length_le (Nat.le_refl _)]
    exact Ev.const acc
  | succ m ih =>
    intro i acc hi ha
    have hil : i < fs.length := by omega
    have c1 : (0 : Int) ≤ (i : Int) := Int.natCast_nonneg i
    have c2 : (i : Int) < (fs.length : Int) := Int.ofNat_lt.2 hil
    have hd := drop_T32 fs i hil
    have hmem := rdF_mem hil
    have hfn := hfit.1.2 _ hmem
    rw [hd, List.flatMap_cons, List.flatMap_append] at ha ⊢
    refine Ev.step ?_
    simp only [r05_Props.l0, if_pos c1, if_pos c2]
    refine Ev.bind (list_ev _ _ (Nat.lt_succ_self _) (hlow _ hmem) hfn.2.2.1) ?_
    have := props_l1 fs i (Nat.le_trans (Nat.le_of_lt hil) hfit.1.1) (flat (rd_T32 fs (i : Int)).f2) hfn.2.2.1 (fun s hs => (hfn.2.2.2 s hs).2.1) (((fs.drop (i + 1)).flatMap flatF).flatMap propR) (fun acc' ha' => ih (i + 1) acc' (by omega) ha') (flat (rd_T32 fs (i : Int)).f2).length 0 acc (by omega) (by rw [List.drop_zero]; exact ha)
    simpa [flatF] using this
end Go.Proofs.Ytjiacafeckokeaa.Man

namespace Go.Proofs.Ytjiacafeckokeaa.Man
open Go.RowKit Go.Proofs.Ytjiacafeckokeaa.Pr Go.Proofs.YtjiacafeckokeaaW.PrintWords
attribute [local go_sem] Oper.semAt_some
set_option linter.unusedVariables false
set_option linter.unusedSimpArgs false
attribute [local go_sem high] eqA35
theorem sizePR : (Try.prog.info? 24).map (·.size) = some 1 := by kernel_rfl
theorem sizeFT : (Try.prog.info? 35).map (·.size) = some 2 := by kernel_rfl
theorem p05a_lay (w : World) : Calls Try.prog 24 #[.string p05aSrc] w fun x w' => ∃ A c, x = .returned (.tuple #[.agg #[.slice A 1 c], .agg #[.int .i64 0, .int .i64 0]]) ∧ 1 ≤ c ∧ Kd.F k32 w' (fun k => w.heap.size ≤ k) A 1 p05aProg ∧ Below w.heap.size w w' :=
  (p05a_parse w).mono fun e w' ⟨v, he, hR, hb⟩ => by
    obtain ⟨A, c, rfl, h1, h2⟩ := hR.tell
    exact ⟨A, c, he, h1, h2, hb⟩
theorem p05a_fit : FitP p05aProg 1000 ∧ (p05aProg.flatMap fun f => flat f.f2).length ≤ 1000 := by
  simp [FitP, FitF, Fit, p05aProg, flat]
  try decide
theorem p05a_fitW : FitW p05aProg := fitW_of (by decide) p05a_fit.1 p05a_fit.2
theorem p05a_low : LowP p05aProg := lowP_of p05a_fit.1 (by decide)
theorem p05a_lw : ∀ f, f ∈ p05aProg → Low f.f2 := fun f hf => (p05a_low.2 f hf).2.2
theorem p05b_lay (w : World) : Calls Try.prog 24 #[.string p05bSrc] w fun x w' => ∃ A c, x = .returned (.tuple #[.agg #[.slice A 2 c], .agg #[.int .i64 0, .int .i64 0]]) ∧ 2 ≤ c ∧ Kd.F k32 w' (fun k => w.heap.size ≤ k) A 2 p05bProg ∧ Below w.heap.size w w' :=
  (p05b_parse w).mono fun e w' ⟨v, he, hR, hb⟩ => by
    obtain ⟨A, c, rfl, h1, h2⟩ := hR.tell
    exact ⟨A, c, he, h1, h2, hb⟩
theorem p05b_fit : FitP p05bProg 1000 ∧ (p05bProg.flatMap fun f => flat f.f2).length ≤ 1000 := by
  simp [FitP, FitF, Fit, p05bProg, flat]
  try decide
theorem p05b_fitW : FitW p05bProg := fitW_of (by decide) p05b_fit.1 p05b_fit.2
theorem p05b_low : LowP p05bProg := lowP_of p05b_fit.1 (by decide)
theorem p05b_lw : ∀ f, f ∈ p05bProg → Low f.f2 := fun f hf => (p05b_low.2 f hf).2.2
theorem chk_a_is : checkF p05aProg = ((51, 1) : Int × Int) := by
  obtain ⟨K, hK⟩ := check_ev _ p05a_fitW.1 p05a_lw
  have h1 := hK (max K 80) (Nat.le_max_left _ _)
  have h2 : r05_Check.f 80 p05aProg = some (((51, 1) : Int × Int)) := by kernel_rfl
  have h3 := at_rounds (g := fun k => r05_Check.f k p05aProg) (fun k => r05_Check.mono _ k) (Nat.le_max_right K 80) h2
  exact Option.some.inj (h1.symm.trans h3)
theorem chk_b_is : checkF p05bProg = ((0, 0) : Int × Int) := by
  obtain ⟨K, hK⟩ := check_ev _ p05b_fitW.1 p05b_lw
  have h1 := hK (max K 80) (Nat.le_max_left _ _)
  have h2 : r05_Check.f 80 p05bProg = some (((0, 0) : Int × Int)) := by kernel_rfl
  have h3 := at_rounds (g := fun k => r05_Check.f k p05bProg) (fun k => r05_Check.mono _ k) (Nat.le_max_right K 80) h2
  exact Option.some.inj (h1.symm.trans h3)
theorem fun_b_is : funIx p05bProg (⟨#[103]⟩ : ByteArray) = (1 : Int) := by
  obtain ⟨K, hK⟩ := fun_ev p05bProg (by decide) (⟨#[103]⟩ : ByteArray)
  have h1 := hK (max K 80) (Nat.le_max_left _ _)
  have h2 : r05_Fun.f 80 p05bProg (⟨#[103]⟩ : ByteArray) = some ((1 : Int)) := by kernel_rfl
  have h3 := at_rounds (g := fun k => r05_Fun.f k p05bProg (⟨#[103]⟩ : ByteArray)) (fun k => r05_Fun.mono _ _ k) (Nat.le_max_right K 80) h2
  exact Option.some.inj (h1.symm.trans h3)
theorem props_b_is : propsF p05bProg = [(⟨#[112]⟩ : ByteArray), (⟨#[113]⟩ : ByteArray)] := by
  obtain ⟨K, hK⟩ := props_ev _ p05b_fitW p05b_lw
  have h1 := hK (max K 80) (Nat.le_max_left _ _)
  have h2 : r05_Props.f 80 p05bProg = some ([(⟨#[112]⟩ : ByteArray), (⟨#[113]⟩ : ByteArray)]) := by kernel_rfl
  have h3 := at_rounds (g := fun k => r05_Props.f k p05bProg) (fun k => r05_Props.mono _ k) (Nat.le_max_right K 80) h2
  exact Option.some.inj (h1.symm.trans h3)
theorem f0_mem : (rd_T32 p05bProg 0) ∈ p05bProg := List.mem_cons_self
theorem vars_b_is : varsF (rd_T32 p05bProg 0) = [(⟨#[120]⟩ : ByteArray), (⟨#[121]⟩ : ByteArray)] := by
  obtain ⟨K, hK⟩ := vars_ev (rd_T32 p05bProg 0) (p05b_fitW.1.2 _ f0_mem) (p05b_lw _ f0_mem)
  have h1 := hK (max K 80) (Nat.le_max_left _ _)
  have h2 : r05_Vars.f 80 (rd_T32 p05bProg 0).f0 (rd_T32 p05bProg 0).f1 (rd_T32 p05bProg 0).f2 = some ([(⟨#[120]⟩ : ByteArray), (⟨#[121]⟩ : ByteArray)]) := by kernel_rfl
  have h3 := at_rounds (g := fun k => r05_Vars.f k (rd_T32 p05bProg 0).f0 (rd_T32 p05bProg 0).f1 (rd_T32 p05bProg 0).f2) (fun k => r05_Vars.mono _ _ _ k) (Nat.le_max_right K 80) h2
  exact Option.some.inj (h1.symm.trans h3)
theorem chk_a (A : Option Addr) (c : Nat) (w : World) (hc : 1 ≤ c) (hC : Kd.C k32 w A 1 p05aProg) : Calls Try.prog 13 #[.agg #[.slice A 1 c]] w fun e w' => e = .returned (.agg #[.int .i64 51, .int .i64 1]) ∧ Below w.heap.size w w' := by
  have h := check_any w p05aProg A c hc hC p05a_fitW.1
  rw [chk_a_is] at h
  exact h
theorem chk_b (A : Option Addr) (c : Nat) (w : World) (hc : 2 ≤ c) (hC : Kd.C k32 w A 2 p05bProg) : Calls Try.prog 13 #[.agg #[.slice A 2 c]] w fun e w' => e = .returned (.agg #[.int .i64 0, .int .i64 0]) ∧ Below w.heap.size w w' := by
  have h := check_any w p05bProg A c hc hC p05b_fitW.1
  rw [chk_b_is] at h
  exact h
theorem chk_0 (w : World) : Calls Try.prog 13 #[.agg #[.slice none 0 0]] w fun e w' => e = .returned (.agg #[.int .i64 53, .int .i64 (-1)]) ∧ Below w.heap.size w w' := by
  have h := check_any w [] none 0 (Nat.le_refl 0) (Kd.C_nil _ w) ⟨by decide, fun _ h => by cases h⟩
  rw [show checkF [] = ((53, -1) : Int × Int) from by decide] at h
  exact h
theorem fun_b (A : Option Addr) (c : Nat) (w : World) (hc : 2 ≤ c) (hC : Kd.C k32 w A 2 p05bProg) : Calls Try.prog 15 #[.agg #[.slice A 2 c], .string (⟨#[103]⟩ : ByteArray)] w fun e w' => e = .returned (.int .i64 1) ∧ Below w.heap.size w w' := by
  have h := fun_any p05bProg A c (⟨#[103]⟩ : ByteArray) w hc hC (by decide)
  rw [fun_b_is] at h
  exact h
theorem ownReads2 {w w' : World} {v : Value} {l : List ByteArray} (h : w'.ownsRow w.heap.size 9 1 v l.length (l.map Value.string)) : ∃ A c, v = .slice A l.length c ∧ l.length ≤ c ∧ Kd.C Kd.string w' A l.length l :=
  Kd.R_reads (ok := fun _ => True) (Kd.R_of_own h (fun _ _ => trivial))
theorem vars_b (A1 A2 : Option Addr) (c1 c2 : Nat) (w : World) (l1 : (rd_T32 p05bProg 0).f1.length ≤ c1) (g1 : Kd.C Kd.string w A1 (rd_T32 p05bProg 0).f1.length (rd_T32 p05bProg 0).f1) (l2 : (rd_T32 p05bProg 0).f2.length ≤ c2) (g2 : Kd.C k46 w A2 (rd_T32 p05bProg 0).f2.length (rd_T32 p05bProg 0).f2) :
    Calls Try.prog 11 #[.agg #[.string (rd_T32 p05bProg 0).f0, .slice A1 (rd_T32 p05bProg 0).f1.length c1, .slice A2 (rd_T32 p05bProg 0).f2.length c2]] w fun e w' => ∃ A c, e = .returned (.slice A 2 c) ∧ 2 ≤ c ∧ Kd.C Kd.string w' A 2 [(⟨#[120]⟩ : ByteArray), (⟨#[121]⟩ : ByteArray)] ∧ Below w.heap.size w w' := by
  refine (vars_any w (rd_T32 p05bProg 0) A1 A2 c1 c2 l1 g1 l2 g2 (p05b_fitW.1.2 _ f0_mem)).mono ?_
  rintro e w' ⟨v, rfl, ho, hb⟩
  rw [vars_b_is] at ho
  obtain ⟨A, c, rfl, h1, h2⟩ := ownReads2 ho
  exact ⟨A, c, rfl, h1, h2, hb⟩
theorem props_b (A : Option Addr) (c : Nat) (w : World) (hc : 2 ≤ c) (hC : Kd.C k32 w A 2 p05bProg) : Calls Try.prog 17 #[.agg #[.slice A 2 c]] w fun e w' => ∃ A c, e = .returned (.slice A 2 c) ∧ 2 ≤ c ∧ Kd.C Kd.string w' A 2 [(⟨#[112]⟩ : ByteArray), (⟨#[113]⟩ : ByteArray)] ∧ Below w.heap.size w w' := by
  refine (props_any w p05bProg A c hc hC p05b_fitW).mono ?_
  rintro e w' ⟨v, rfl, ho, hb⟩
  rw [props_b_is] at ho
  obtain ⟨A, c, rfl, h1, h2⟩ := ownReads2 ho
  exact ⟨A, c, rfl, h1, h2, hb⟩
theorem addr0 (a : Addr) : a.add 0 = a := by
  unfold Addr.add
  simp
theorem lit2 {w : World} {g : Nat} {a b : ByteArray} (h : w.heap[g]? = some (.cells #[.string a, .string b] 9 (0, 0))) : Kd.C Kd.string w (some ⟨g, 0, none⟩) 2 [a, b] := by
  refine Kd.C_of_reads (d := ByteArray.empty) ⟨rfl, by decide, fun _ => ⟨_, rfl, fun j hj => ?_⟩⟩
  rw [add_flat, Nat.zero_add, blk_cell h j]
  match j, hj with
  | 0, _ => rfl
  | 1, _ => rfl
set_option maxRecDepth 100000 in
set_option maxHeartbeats 16000000 in
theorem fixed_any (w : World) : Calls Try.prog 9 #[] w fun e w' => e = .returned (.bool true) ∧ Below w.heap.size w w' := by
  have HB := Lib.hid (Below.refl w.heap.size w)
  have hu35 := Try.underlying35
  go_enter Try.func9, Try.ntmps9
  go_wp2_with (first
    | (go_at_call 24; (with_reducible refine (calls_of_args (args' := #[.string p05aSrc]) ?hs (p05a_lay _)).mono ?_); (case hs => rfl); rintro x w1 ⟨AP, cP, rfl, hcc, hF, hb⟩; have HB := Lib.hid (below_step HB.out hb); obtain ⟨loP, hlo⟩ : ∃ lo, lo = w1.heap.size := ⟨_, rfl⟩; have FP := Lib.hid (Kd.F_mono (ok' := fun k => k < loP) (Kd.F_bound hF) (fun k hk => by rw [hlo]; exact hk.2)); have HLOP := Lib.hid (show loP ≤ w1.heap.size by rw [hlo]; exact Nat.le_refl _); have HCP := Lib.hid hcc; clear hcc hF hlo; clear hb)
    | ((with_reducible refine gate_dst (N := 1) rfl ?_); refine box_event ?hg (N := 1) ?hd (cs := #[.slice none 0 0]) (t := 24) ?hr ?_; (case hd => rfl); (case hg => rfl); (case hr => first | (go_simp; done) | (go_simp; rfl)); intro g1 hg w1 hx hb; have G1 := Lib.hid (show w.heap.size ≤ g1 by rw [hg]; exact HB.out.size); have UP_1 := Lib.hid (show loP ≤ g1 by rw [hg]; exact HLOP.out); have FP := Lib.hid (Kd.F_below FP.out hb); have HLOP := Lib.hid (Nat.le_trans HLOP.out hb.size); have HB := Lib.hid (below_step HB.out hb); have B1 := Lib.hid (One.mk hx); clear hx hb hg; have k1 := And.intro B1.out.c B1.out.f)
    | ((with_reducible refine gate_dst (N := 2) rfl ?_); refine box_event ?hg (N := 2) ?hd (cs := #[.int .i64 0, .int .i64 0]) (t := 35) ?hr ?_; (case hd => rfl); (case hg => rfl); (case hr => first | (go_simp; done) | (go_simp; rfl)); intro g2 hg w1 hx hb; clear k1; have N1_2 := Lib.hid (ne_of_blk B1.out.b hg); have G2 := Lib.hid (show w.heap.size ≤ g2 by rw [hg]; exact HB.out.size); have UP_2 := Lib.hid (show loP ≤ g2 by rw [hg]; exact HLOP.out); have FP := Lib.hid (Kd.F_below FP.out hb); have HLOP := Lib.hid (Nat.le_trans HLOP.out hb.size); have B1 := Lib.hid (B1.out.below hb); have HB := Lib.hid (below_step HB.out hb); have B2 := Lib.hid (Two.mk hx); clear hx hb hg; have k1 := And.intro B1.out.c B1.out.f; have k2 := And.intro B2.out.c B2.out.f)
    | ((with_reducible refine gate_store (t := 24) (p := 1) rfl ?_); refine st_event rfl rfl rfl [.slice AP 1 cP] B1.out.b rfl ?hv sizePR rfl ?h1 ?_; (case hv => rfl); (case h1 => (intro q hq; simp only [List.mem_cons, List.not_mem_nil, or_false] at hq; rcases hq with rfl <;> rfl)); intro w1 hx hp; clear k1; clear k2; have B2 := Lib.hid (B2.out.far' hp (Ne.symm N1_2.out)); have FP := Lib.hid (foot_puts FP.out hp (Nat.not_lt.2 UP_1.out)); have HB := Lib.hid (hp.below _ G1.out HB.out); have B1 := Lib.hid (One.mk hx); clear hx hp; have k1 := And.intro B1.out.c B1.out.f; have k2 := And.intro B2.out.c B2.out.f)
    | ((with_reducible refine gate_store (t := 35) (p := 2) rfl ?_); refine st_event rfl rfl rfl [.int .i64 0, .int .i64 0] B2.out.b rfl ?hv sizeFT rfl ?h1 ?_; (case hv => rfl); (case h1 => (intro q hq; simp only [List.mem_cons, List.not_mem_nil, or_false] at hq; rcases hq with rfl | rfl <;> rfl)); intro w1 hx hp; clear k1; clear k2; have B1 := Lib.hid (B1.out.far' hp (N1_2.out)); have FP := Lib.hid (foot_puts FP.out hp (Nat.not_lt.2 UP_2.out)); have HB := Lib.hid (hp.below _ G2.out HB.out); have B2 := Lib.hid (Two.mk hx); clear hx hp; have k1 := And.intro B1.out.c B1.out.f; have k2 := And.intro B2.out.c B2.out.f)
    | (go_at_call 24; (with_reducible refine (calls_of_args (args' := #[.string p05bSrc]) ?hs (p05b_lay _)).mono ?_); (case hs => rfl); rintro x w1 ⟨AQ, cQ, rfl, hcc, hF, hb⟩; clear k1; clear k2; have FP := Lib.hid (Kd.F_below FP.out hb); have B1 := Lib.hid (B1.out.below hb); have B2 := Lib.hid (B2.out.below hb); have HB := Lib.hid (below_step HB.out hb); obtain ⟨loQ, hlo⟩ : ∃ lo, lo = w1.heap.size := ⟨_, rfl⟩; have FQ := Lib.hid (Kd.F_mono (ok' := fun k => k < loQ) (Kd.F_bound hF) (fun k hk => by rw [hlo]; exact hk.2)); have HLOQ := Lib.hid (show loQ ≤ w1.heap.size by rw [hlo]; exact Nat.le_refl _); have HCQ := Lib.hid hcc; clear hcc hF hlo; clear hb; have k1 := And.intro B1.out.c B1.out.f; have k2 := And.intro B2.out.c B2.out.f)
    | ((with_reducible refine gate_dst (N := 3) rfl ?_); refine box_event ?hg (N := 3) ?hd (cs := #[.slice none 0 0]) (t := 24) ?hr ?_; (case hd => rfl); (case hg => rfl); (case hr => first | (go_simp; done) | (go_simp; rfl)); intro g3 hg w1 hx hb; clear k1; clear k2; have N1_3 := Lib.hid (ne_of_blk B1.out.b hg); have N2_3 := Lib.hid (ne_of_blk B2.out.b hg); have G3 := Lib.hid (show w.heap.size ≤ g3 by rw [hg]; exact HB.out.size); have UP_3 := Lib.hid (show loP ≤ g3 by rw [hg]; exact Nat.le_trans UP_2.out (Nat.le_of_lt (blk_lt B2.out.b))); have UQ_3 := Lib.hid (show loQ ≤ g3 by rw [hg]; exact HLOQ.out); have FP := Lib.hid (Kd.F_below FP.out hb); have B1 := Lib.hid (B1.out.below hb); have B2 := Lib.hid (B2.out.below hb); have FQ := Lib.hid (Kd.F_below FQ.out hb); have HLOQ := Lib.hid (Nat.le_trans HLOQ.out hb.size); have HB := Lib.hid (below_step HB.out hb); have B3 := Lib.hid (One.mk hx); clear hx hb hg; have k1 := And.intro B1.out.c B1.out.f; have k2 := And.intro B2.out.c B2.out.f; have k3 := And.intro B3.out.c B3.out.f)
    | ((with_reducible refine gate_dst (N := 4) rfl ?_); refine box_event ?hg (N := 4) ?hd (cs := #[.int .i64 0, .int .i64 0]) (t := 35) ?hr ?_; (case hd => rfl); (case hg => rfl); (case hr => first | (go_simp; done) | (go_simp; rfl)); intro g4 hg w1 hx hb; clear k1; clear k2; clear k3; have N1_4 := Lib.hid (ne_of_blk B1.out.b hg); have N2_4 := Lib.hid (ne_of_blk B2.out.b hg); have N3_4 := Lib.hid (ne_of_blk B3.out.b hg); have G4 := Lib.hid (show w.heap.size ≤ g4 by rw [hg]; exact HB.out.size); have UP_4 := Lib.hid (show loP ≤ g4 by rw [hg]; exact Nat.le_trans UP_3.out (Nat.le_of_lt (blk_lt B3.out.b))); have UQ_4 := Lib.hid (show loQ ≤ g4 by rw [hg]; exact HLOQ.out); have FP := Lib.hid (Kd.F_below FP.out hb); have B1 := Lib.hid (B1.out.below hb); have B2 := Lib.hid (B2.out.below hb); have FQ := Lib.hid (Kd.F_below FQ.out hb); have HLOQ := Lib.hid (Nat.le_trans HLOQ.out hb.size); have B3 := Lib.hid (B3.out.below hb); have HB := Lib.hid (below_step HB.out hb); have B4 := Lib.hid (Two.mk hx); clear hx hb hg; have k1 := And.intro B1.out.c B1.out.f; have k2 := And.intro B2.out.c B2.out.f; have k3 := And.intro B3.out.c B3.out.f; have k4 := And.intro B4.out.c B4.out.f)
    | ((with_reducible refine gate_store (t := 24) (p := 3) rfl ?_); refine st_event rfl rfl rfl [.slice AQ 2 cQ] B3.out.b rfl ?hv sizePR rfl ?h1 ?_; (case hv => rfl); (case h1 => (intro q hq; simp only [List.mem_cons, List.not_mem_nil, or_false] at hq; rcases hq with rfl <;> rfl)); intro w1 hx hp; clear k1; clear k2; clear k3; clear k4; have B1 := Lib.hid (B1.out.far' hp (N1_3.out)); have B2 := Lib.hid (B2.out.far' hp (N2_3.out)); have B4 := Lib.hid (B4.out.far' hp (Ne.symm N3_4.out)); have FP := Lib.hid (foot_puts FP.out hp (Nat.not_lt.2 UP_3.out)); have FQ := Lib.hid (foot_puts FQ.out hp (Nat.not_lt.2 UQ_3.out)); have HB := Lib.hid (hp.below _ G3.out HB.out); have B3 := Lib.hid (One.mk hx); clear hx hp; have k1 := And.intro B1.out.c B1.out.f; have k2 := And.intro B2.out.c B2.out.f; have k3 := And.intro B3.out.c B3.out.f; have k4 := And.intro B4.out.c B4.out.f)
    | ((with_reducible refine gate_store (t := 35) (p := 4) rfl ?_); refine st_event rfl rfl rfl [.int .i64 0, .int .i64 0] B4.out.b rfl ?hv sizeFT rfl ?h1 ?_; (case hv => rfl); (case h1 => (intro q hq; simp only [List.mem_cons, List.not_mem_nil, or_false] at hq; rcases hq with rfl | rfl <;> rfl)); intro w1 hx hp; clear k1; clear k2; clear k3; clear k4; have B1 := Lib.hid (B1.out.far' hp (N1_4.out)); have B2 := Lib.hid (B2.out.far' hp (N2_4.out)); have B3 := Lib.hid (B3.out.far' hp (N3_4.out)); have FP := Lib.hid (foot_puts FP.out hp (Nat.not_lt.2 UP_4.out)); have FQ := Lib.hid (foot_puts FQ.out hp (Nat.not_lt.2 UQ_4.out)); have HB := Lib.hid (hp.below _ G4.out HB.out); have B4 := Lib.hid (Two.mk hx); clear hx hp; have k1 := And.intro B1.out.c B1.out.f; have k2 := And.intro B2.out.c B2.out.f; have k3 := And.intro B3.out.c B3.out.f; have k4 := And.intro B4.out.c B4.out.f)
    | (go_at_call 13; with_reducible refine (chk_a AP cP _ HCP.out (Kd.F_now FP.out)).mono ?_; rintro x w1 ⟨rfl, hb⟩; clear k1; clear k2; clear k3; clear k4; have FP := Lib.hid (Kd.F_below FP.out hb); have B1 := Lib.hid (B1.out.below hb); have B2 := Lib.hid (B2.out.below hb); have FQ := Lib.hid (Kd.F_below FQ.out hb); have B3 := Lib.hid (B3.out.below hb); have B4 := Lib.hid (B4.out.below hb); have HB := Lib.hid (below_step HB.out hb); clear hb; have k1 := And.intro B1.out.c B1.out.f; have k2 := And.intro B2.out.c B2.out.f; have k3 := And.intro B3.out.c B3.out.f; have k4 := And.intro B4.out.c B4.out.f)
    | (go_at_call 13; with_reducible refine (chk_b AQ cQ _ HCQ.out (Kd.F_now FQ.out)).mono ?_; rintro x w1 ⟨rfl, hb⟩; clear k1; clear k2; clear k3; clear k4; have FP := Lib.hid (Kd.F_below FP.out hb); have B1 := Lib.hid (B1.out.below hb); have B2 := Lib.hid (B2.out.below hb); have FQ := Lib.hid (Kd.F_below FQ.out hb); have B3 := Lib.hid (B3.out.below hb); have B4 := Lib.hid (B4.out.below hb); have HB := Lib.hid (below_step HB.out hb); clear hb; have k1 := And.intro B1.out.c B1.out.f; have k2 := And.intro B2.out.c B2.out.f; have k3 := And.intro B3.out.c B3.out.f; have k4 := And.intro B4.out.c B4.out.f)
    | (go_at_call 13; with_reducible refine (chk_0 _).mono ?_; rintro x w1 ⟨rfl, hb⟩; clear k1; clear k2; clear k3; clear k4; have FP := Lib.hid (Kd.F_below FP.out hb); have B1 := Lib.hid (B1.out.below hb); have B2 := Lib.hid (B2.out.below hb); have FQ := Lib.hid (Kd.F_below FQ.out hb); have B3 := Lib.hid (B3.out.below hb); have B4 := Lib.hid (B4.out.below hb); have HB := Lib.hid (below_step HB.out hb); clear hb; have k1 := And.intro B1.out.c B1.out.f; have k2 := And.intro B2.out.c B2.out.f; have k3 := And.intro B3.out.c B3.out.f; have k4 := And.intro B4.out.c B4.out.f)
    | (go_at_call 15; with_reducible refine (calls_of_args ?ha (fun_b AQ cQ _ HCQ.out (Kd.F_now FQ.out))).mono ?_; (case ha => (simp; done)); rintro x w1 ⟨rfl, hb⟩; clear k1; clear k2; clear k3; clear k4; have FP := Lib.hid (Kd.F_below FP.out hb); have B1 := Lib.hid (B1.out.below hb); have B2 := Lib.hid (B2.out.below hb); have FQ := Lib.hid (Kd.F_below FQ.out hb); have B3 := Lib.hid (B3.out.below hb); have B4 := Lib.hid (B4.out.below hb); have HB := Lib.hid (below_step HB.out hb); ((obtain ⟨ad, A1, c1, A2, c2, eA, x0, x1, x2, l1, g1, l2, g2⟩ := at_T32 (Kd.F_now FQ.out) 0 (by decide) (by decide); subst eA; simp only [Int.toNat_zero, Nat.zero_mul, addr0] at x0 x1 x2; have L1 := Lib.hid l1; have K1 := Lib.hid g1; have L2 := Lib.hid l2; have K2 := Lib.hid g2; clear l1 g1 l2 g2)); clear hb; have k1 := And.intro B1.out.c B1.out.f; have k2 := And.intro B2.out.c B2.out.f; have k3 := And.intro B3.out.c B3.out.f; have k4 := And.intro B4.out.c B4.out.f)
    | (go_at_call 11; with_reducible refine (calls_of_args ?ha (vars_b A1 A2 c1 c2 _ L1.out K1.out L2.out K2.out)).mono ?_; (case ha => (simp; done)); rintro x w1 ⟨Av, cv, rfl, hcv, hC, hb⟩; clear k1; clear k2; clear k3; clear k4; have FP := Lib.hid (Kd.F_below FP.out hb); have B1 := Lib.hid (B1.out.below hb); have B2 := Lib.hid (B2.out.below hb); have FQ := Lib.hid (Kd.F_below FQ.out hb); have B3 := Lib.hid (B3.out.below hb); have B4 := Lib.hid (B4.out.below hb); have HB := Lib.hid (below_step HB.out hb); clear x0 x1 x2; have KV := Lib.hid hC; have HCV := Lib.hid hcv; clear hC hcv; clear hb; have k1 := And.intro B1.out.c B1.out.f; have k2 := And.intro B2.out.c B2.out.f; have k3 := And.intro B3.out.c B3.out.f; have k4 := And.intro B4.out.c B4.out.f)
    | ((with_reducible refine gate_dst (N := 56) rfl ?_); refine gate_guard (by first | rfl | kernel_rfl) ?_; refine lit_event rfl (N := 56) rfl (n := 2) (cs := #[.string (⟨#[120]⟩ : ByteArray), .string (⟨#[121]⟩ : ByteArray)]) (t := 9) ?hr ?_; (case hr => first | (go_simp; done) | (go_simp; rfl)); intro g56 hg w1 hx hb; clear k1; clear k2; clear k3; clear k4; have FP := Lib.hid (Kd.F_below FP.out hb); have B1 := Lib.hid (B1.out.below hb); have B2 := Lib.hid (B2.out.below hb); have FQ := Lib.hid (Kd.F_below FQ.out hb); have B3 := Lib.hid (B3.out.below hb); have B4 := Lib.hid (B4.out.below hb); have KV := Lib.hid (Kd.C_below KV.out hb); have HB := Lib.hid (below_step HB.out hb); have B56 := Lib.hid (RowB.mk hx); clear hx hb hg; have k1 := And.intro B1.out.c B1.out.f; have k2 := And.intro B2.out.c B2.out.f; have k3 := And.intro B3.out.c B3.out.f; have k4 := And.intro B4.out.c B4.out.f)
    | (go_at_call 10; ((have hL := lit2 B56.out.b)); (refine (calls_of_args ?ha (r02_Texts.calls 40 Av cv [(⟨#[120]⟩ : ByteArray), (⟨#[121]⟩ : ByteArray)] (some ⟨g56, 0, none⟩) 2 [(⟨#[120]⟩ : ByteArray), (⟨#[121]⟩ : ByteArray)] true _ KV.out HCV.out hL (by decide) (by kernel_rfl))).mono ?_); (case ha => (simp; done)); ((rintro x w1 ⟨rfl, hd⟩; have hb := hd.below; clear hd hL; clear k1; clear k2; clear k3; clear k4; have FP := Lib.hid (Kd.F_below FP.out hb); have B1 := Lib.hid (B1.out.below hb); have B2 := Lib.hid (B2.out.below hb); have FQ := Lib.hid (Kd.F_below FQ.out hb); have B3 := Lib.hid (B3.out.below hb); have B4 := Lib.hid (B4.out.below hb); have KV := Lib.hid (Kd.C_below KV.out hb); have B56 := Lib.hid (B56.out.below hb); have HB := Lib.hid (below_step HB.out hb); clear hb; have k1 := And.intro B1.out.c B1.out.f; have k2 := And.intro B2.out.c B2.out.f; have k3 := And.intro B3.out.c B3.out.f; have k4 := And.intro B4.out.c B4.out.f)))
    | (go_at_call 17; with_reducible refine (calls_of_args ?ha (props_b (some ad) cQ _ HCQ.out (Kd.F_now FQ.out))).mono ?_; (case ha => (simp; done)); rintro x w1 ⟨Ap, cp, rfl, hcv, hC, hb⟩; clear k1; clear k2; clear k3; clear k4; have FP := Lib.hid (Kd.F_below FP.out hb); have B1 := Lib.hid (B1.out.below hb); have B2 := Lib.hid (B2.out.below hb); have FQ := Lib.hid (Kd.F_below FQ.out hb); have B3 := Lib.hid (B3.out.below hb); have B4 := Lib.hid (B4.out.below hb); have KV := Lib.hid (Kd.C_below KV.out hb); have B56 := Lib.hid (B56.out.below hb); have HB := Lib.hid (below_step HB.out hb); have KP := Lib.hid hC; have HCP_ := Lib.hid hcv; clear hC hcv; clear hb; have k1 := And.intro B1.out.c B1.out.f; have k2 := And.intro B2.out.c B2.out.f; have k3 := And.intro B3.out.c B3.out.f; have k4 := And.intro B4.out.c B4.out.f)
    | ((with_reducible refine gate_dst (N := 62) rfl ?_); refine gate_guard (by first | rfl | kernel_rfl) ?_; refine lit_event rfl (N := 62) rfl (n := 2) (cs := #[.string (⟨#[112]⟩ : ByteArray), .string (⟨#[113]⟩ : ByteArray)]) (t := 9) ?hr ?_; (case hr => first | (go_simp; done) | (go_simp; rfl)); intro g62 hg w1 hx hb; clear k1; clear k2; clear k3; clear k4; have FP := Lib.hid (Kd.F_below FP.out hb); have B1 := Lib.hid (B1.out.below hb); have B2 := Lib.hid (B2.out.below hb); have FQ := Lib.hid (Kd.F_below FQ.out hb); have B3 := Lib.hid (B3.out.below hb); have B4 := Lib.hid (B4.out.below hb); have KV := Lib.hid (Kd.C_below KV.out hb); have B56 := Lib.hid (B56.out.below hb); have KP := Lib.hid (Kd.C_below KP.out hb); have HB := Lib.hid (below_step HB.out hb); have B62 := Lib.hid (RowB.mk hx); clear hx hb hg; have k1 := And.intro B1.out.c B1.out.f; have k2 := And.intro B2.out.c B2.out.f; have k3 := And.intro B3.out.c B3.out.f; have k4 := And.intro B4.out.c B4.out.f)
    | (go_at_call 10; ((have hL := lit2 B62.out.b)); (refine (calls_of_args ?ha (r02_Texts.calls 40 Ap cp [(⟨#[112]⟩ : ByteArray), (⟨#[113]⟩ : ByteArray)] (some ⟨g62, 0, none⟩) 2 [(⟨#[112]⟩ : ByteArray), (⟨#[113]⟩ : ByteArray)] true _ KP.out HCP_.out hL (by decide) (by kernel_rfl))).mono ?_); (case ha => (simp; done)); ((rintro x w1 ⟨rfl, hd⟩; have hb := hd.below; clear hd hL; clear k1; clear k2; clear k3; clear k4; have FP := Lib.hid (Kd.F_below FP.out hb); have B1 := Lib.hid (B1.out.below hb); have B2 := Lib.hid (B2.out.below hb); have FQ := Lib.hid (Kd.F_below FQ.out hb); have B3 := Lib.hid (B3.out.below hb); have B4 := Lib.hid (B4.out.below hb); have KV := Lib.hid (Kd.C_below KV.out hb); have B56 := Lib.hid (B56.out.below hb); have KP := Lib.hid (Kd.C_below KP.out hb); have B62 := Lib.hid (B62.out.below hb); have HB := Lib.hid (below_step HB.out hb); clear hb; have k1 := And.intro B1.out.c B1.out.f; have k2 := And.intro B2.out.c B2.out.f; have k3 := And.intro B3.out.c B3.out.f; have k4 := And.intro B4.out.c B4.out.f))))
  go_ret
  exact ⟨rfl, HB.out⟩
end Go.Proofs.Ytjiacafeckokeaa.Man

-- Written by wip/xprint.py (the kit's print, run over this seat with some contracts of my own). Not trusted: Lean checks it.
namespace Go.Proofs.Ytjiacafeckokeaa.Pr
open Go.RowKit Go.Proofs.YtjiacafeckokeaaW.PrintWords Go.Proofs.YtjiacafeckokeaaW.PrintLast Go.Proofs.YtjiacafeckokeaaW.PrintMore
attribute [local go_sem] max2_int min2_int max_two min_two max_three min_three max_four min_four   -- for this text's walks alone
set_option linter.unusedVariables false
set_option linter.unusedSimpArgs false
open Classical in
noncomputable def w05_fixed.f  : Option (Bool) := some true
theorem w05_fixed.calls  (r : Bool) (w : World) (h : w05_fixed.f  = some r) :
    Calls Try.prog 9 #[] w fun e w' => e = .returned (.bool r) ∧ Below w.heap.size w w' :=
  by
  cases h
  exact Man.fixed_any w
end Go.Proofs.Ytjiacafeckokeaa.Pr

namespace Go.Proofs.Ytjiacafeckokeaa.Man
open Go.RowKit Go.Proofs.Ytjiacafeckokeaa.Pr Go.Proofs.YtjiacafeckokeaaW.PrintWords
set_option linter.unusedVariables false
set_option linter.unusedSimpArgs false
theorem stmtB_vals (fs : List S32) (s : S46) : stmtB fs s = 0 ∨ stmtB fs s = 50 ∨ stmtB fs s = 51 ∨ stmtB fs s = 52 := by
  unfold stmtB
  split
  · simp
  · split
    · simp
    · split
      · split
        · simp
        · split <;> simp
      · simp
theorem faultIn_ok (fs : List S32) (i : Nat) : ∀ (L : List S46) (n : Nat), faultIn fs i L n = none → ∀ s, s ∈ L → stmtB fs s = 0 := by
  intro L
  induction L with
  | nil => intro n _ s h; cases h
  | cons x r ih =>
    intro n h s hs
    simp only [faultIn] at h
    split at h
    · next h0 =>
      rcases List.mem_cons.1 hs with rfl | hs
      · exact h0
      · exact ih _ h s hs
    · cases h
theorem faultIn_none (fs : List S32) (i : Nat) : ∀ (L : List S46) (n : Nat), (∀ s, s ∈ L → stmtB fs s = 0) → faultIn fs i L n = none := by
  intro L
  induction L with
  | nil => intro n _; rfl
  | cons x r ih =>
    intro n h
    simp only [faultIn, if_pos (h x List.mem_cons_self)]
    exact ih _ fun s hs => h s (List.mem_cons_of_mem _ hs)
theorem faultIn_some (fs : List S32) (i : Nat) : ∀ (L : List S46) (n : Nat) (p : Int × Int), faultIn fs i L n = some p → (p.1 = 50 ∨ p.1 = 51 ∨ p.1 = 52) ∧ (i : Int) * 10000 ≤ p.2 := by
  intro L
  induction L with
  | nil => intro n p h; cases h
  | cons x r ih =>
    intro n p h
    simp only [faultIn] at h
    split at h
    · exact ih _ _ h
    · next h0 =>
      cases h
      refine ⟨?_, by simp only; omega⟩
      rcases stmtB_vals fs x with e | e
      · exact absurd e h0
      · exact e
theorem checkAt_some (fs : List S32) (f : S32) (i : Nat) (p : Int × Int) (h : checkAt fs f i = some p) : (p.1 = 50 ∨ p.1 = 51 ∨ p.1 = 52) ∧ (i : Int) * 10000 ≤ p.2 := by
  unfold checkAt at h
  split at h
  · cases h; exact ⟨.inl rfl, Int.le_refl _⟩
  · exact faultIn_some fs i _ _ p h
theorem checkAt_none (fs : List S32) (f : S32) (i : Nat) : checkAt fs f i = none ↔ funIx fs f.f0 = (i : Int) ∧ twiceB f.f1 = false ∧ ∀ s, s ∈ flat f.f2 → stmtB fs s = 0 := by
  unfold checkAt
  constructor
  · intro h
    split at h
    · cases h
    · next h0 =>
      simp only [Bool.or_eq_true, bne_iff_ne, ne_eq, not_or, Decidable.not_not, Bool.not_eq_true] at h0
      exact ⟨h0.1, h0.2, faultIn_ok fs i _ _ h⟩
  · rintro ⟨h1, h2, h3⟩
    rw [if_neg (by simp [h1, h2])]
    exact faultIn_none fs i _ _ h3
theorem checkRest_ok (fs : List S32) : ∀ (r : List S32) (i : Nat), checkRest fs r i = (0, 0) → (∀ j (h : j < r.length), checkAt fs r[j] (i + j) = none) ∧ mainB fs = (0, 0) := by
  intro r
  induction r with
  | nil => intro i h; exact ⟨fun j h => by simp at h, h⟩
  | cons f r ih =>
    intro i h
    simp only [checkRest] at h
    split at h
    · next p hp =>
      have := (checkAt_some fs f i p hp).1
      rw [h] at this
      simp at this
    · next hp =>
      obtain ⟨h1, h2⟩ := ih _ h
      refine ⟨fun j hj => ?_, h2⟩
      cases j with
      | zero => exact hp
      | succ j =>
        have := h1 j (by simpa using hj)
        rw [show i + 1 + j = i + (j + 1) by omega] at this
        simpa using this
theorem checkF_ok (fs : List S32) (h : checkF fs = (0, 0)) : (∀ i (h : i < fs.length), funIx fs fs[i].f0 = (i : Int) ∧ twiceB fs[i].f1 = false ∧ ∀ s, s ∈ flat fs[i].f2 → stmtB fs s = 0) ∧ mainB fs = (0, 0) := by
  obtain ⟨h1, h2⟩ := checkRest_ok fs fs 0 h
  refine ⟨fun i hi => ?_, h2⟩
  have := h1 i hi
  rw [Nat.zero_add] at this
  exact (checkAt_none fs _ i).1 this
theorem mainB_ok (fs : List S32) (h : mainB fs = (0, 0)) : 0 ≤ funIx fs ⟨#[109, 97, 105, 110]⟩ ∧ (rd_T32 fs (funIx fs ⟨#[109, 97, 105, 110]⟩)).f1.length = 0 := by
  unfold mainB at h
  split at h
  · cases h
  · next h0 =>
    split at h
    · cases h
    · next h1 => exact ⟨Int.not_lt.1 h0, by omega⟩
def CallOk (fs : List S32) (s : S46) : Prop := s.f0 = 5 → 0 ≤ funIx fs s.f3 ∧ (rd_T32 fs (funIx fs s.f3)).f1.length = s.f4.length
theorem callOk_of (fs : List S32) (s : S46) (h : stmtB fs s = 0) : CallOk fs s := by
  intro h5
  unfold stmtB at h
  by_cases h1 : s.f0 = 4 ∧ twiceB s.f5 = true
  · rw [if_pos h1] at h; cases h
  · rw [if_neg h1] at h
    by_cases h2 : s.f4.any (lostOp fs) = true
    · rw [if_pos h2] at h; cases h
    · rw [if_neg h2, if_pos h5] at h
      by_cases h3 : funIx fs s.f3 < 0
      · rw [if_pos h3] at h; cases h
      · rw [if_neg h3] at h
        by_cases h4 : (rd_T32 fs (funIx fs s.f3)).f1.length = s.f4.length
        · exact ⟨Int.not_lt.1 h3, h4⟩
        · rw [if_neg h4] at h; cases h
end Go.Proofs.Ytjiacafeckokeaa.Man

namespace Go.Proofs.Ytjiacafeckokeaa.Man
open Go.RowKit Go.Shelf Go.Proofs.Ytjiacafeckokeaa.Pr Go.Proofs.YtjiacafeckokeaaW.PrintWords
attribute [local go_sem] Oper.semAt_some
set_option linter.unusedVariables false
set_option linter.unusedSimpArgs false
theorem flat_le6 (l : List S46) (i : Nat) (h : i < l.length) : (flat (rd_T46 l (i : Int)).f6).length ≤ (flat l).length := by
  rw [show rd_T46 l (i : Int) = l[i] by unfold rd_T46; rw [Int.toNat_natCast, List.getD_eq_getElem?_getD, List.getElem?_eq_getElem h]; rfl]
  have e : flat l = flat (l.take (i + 1)) ++ flat (l.drop (i + 1)) := by rw [← flat_append, List.take_append_drop]
  rw [e, flat_take_succ l i h]
  simp only [List.length_append, List.length_cons]; omega
theorem flat_le7 (l : List S46) (i : Nat) (h : i < l.length) : (flat (rd_T46 l (i : Int)).f7).length ≤ (flat l).length := by
  rw [show rd_T46 l (i : Int) = l[i] by unfold rd_T46; rw [Int.toNat_natCast, List.getD_eq_getElem?_getD, List.getElem?_eq_getElem h]; rfl]
  have e : flat l = flat (l.take (i + 1)) ++ flat (l.drop (i + 1)) := by rw [← flat_append, List.take_append_drop]
  rw [e, flat_take_succ l i h]
  simp only [List.length_append, List.length_cons]; omega
set_option maxRecDepth 100000 in
set_option maxHeartbeats 16000000 in
theorem cal_in (fs : List S32) (A : Option Addr) (c : Nat) (hlc : fs.length ≤ c) (hl : fs.length ≤ 1050000) : ∀ (m : Nat) (l : List S46) (hm : SizeOf.sizeOf l < m) (w : World) (A1 : Option Addr) (c1 : Nat) (hC : Kd.C k32 w A fs.length fs) (hc1 : l.length ≤ c1) (hr1 : Kd.C k46 w A1 l.length l) (hL : (flat l).length ≤ 2000000) (hok : ∀ s, s ∈ flat l → CallOk fs s),
    Calls Try.prog 20 #[.agg #[.slice A fs.length c], .slice A1 l.length c1] w fun e w' => e = .returned (.bool true) ∧ Below w.heap.size w w' := by
  intro m
  induction m with
  | zero => intro l h; omega
  | succ m ih =>
    intro l hm w A1 c1 hC hc1 hr1 hL hok
    have K0 := Lib.hid hC
    have R1 := Lib.hid hr1
    have OK := Lib.hid hok
    have IH := Lib.hid ih
    have HM := Lib.hid hm
    have HL := Lib.hid hL
    have hll : l.length ≤ 2000000 := Nat.le_trans (len_flat l) hL
    clear hC hr1 hok ih hm hL
    refine (callsIn_wide (n := 5)).1 ?_
    refine callsIn_of_wp_marks Try.func20 rfl trivial ?_ rfl
    simp only [Try.ntmps20, List.size_toArray, List.length_cons, List.length_nil, Nat.reduceAdd, Nat.reduceSub, Array.replicate_succ, Array.replicate_zero, List.push_toArray, List.append_toArray, List.nil_append, List.cons_append]
    gi_wp2
    gi_loopg [5] l.length (fun kq v5 w' => ∃ i : Nat, i + kq = l.length ∧ v5 = .int .i64 (i : Nat) ∧ Hid (Boxed w' w.heap.size 24 (.slice A fs.length c)) ∧ Hid (Below w.heap.size w w'))
    case atStart => exact ⟨0, by omega, rfl, Lib.hid (Boxed.new w _ _), Lib.hid (below_alloc (Below.refl _ _) _)⟩
    case round =>
      obtain ⟨i, hik, rfl, HP, HB⟩ := hrel
      by_cases hi : i < l.length
      · have hi0 : (0 : Int) ≤ (i : Int) := Int.natCast_nonneg i
        obtain ⟨al, A4, c4, A5, c5, A6, c6, A7, c7, eA, x0, x1, x2, x3, x4, x5, x6, x7, l4, g4, l5, g5, l6, g6, l7, g7⟩ := at_T46 R1.out (i : Int) hi0 (Int.ofNat_lt.2 hi)
        subst eA
        rw [Int.toNat_natCast] at x0 x3 x4 x6 x7
        replace x0 := opIn_cell_up x0 HB.out
        replace x3 := opIn_cell_up x3 HB.out
        replace x4 := opIn_cell_up x4 HB.out
        replace x6 := opIn_cell_up x6 HB.out
        replace x7 := opIn_cell_up x7 HB.out
        clear x1 x2 x5 l5 g5
        have hmem := flat_mem l i hi _ List.mem_cons_self
        have hsub6 := flat_mem6 l i hi
        have hsub7 := flat_mem7 l i hi
        obtain ⟨sz6, sz7⟩ := size_mem l i hi
        have hL6 := flat_le6 l i hi
        have hL7 := flat_le7 l i hi
        obtain ⟨s, hs⟩ : ∃ s, s = rd_T46 l (i : Int) := ⟨_, rfl⟩
        rw [← hs] at x0 x3 x4 x6 x7 l4 g4 l6 g6 l7 g7 hmem hsub6 hsub7 sz6 sz7 hL6 hL7
        clear hs
        have hcal := OK.out s hmem
        have h6 : ∀ X, Below w.heap.size w X → Calls Try.prog 20 #[.agg #[.slice A fs.length c], .slice A6 s.f6.length c6] X fun e X' => e = .returned (.bool true) ∧ Below X.heap.size X X' := fun X hX =>
          IH.out s.f6 (by have := HM.out; omega) X A6 c6 (Kd.C_below K0.out hX) l6 (Kd.C_below g6 hX) (Nat.le_trans hL6 HL.out) (fun t ht => OK.out t (hsub6 t ht))
        have h7 : ∀ X, Below w.heap.size w X → Calls Try.prog 20 #[.agg #[.slice A fs.length c], .slice A7 s.f7.length c7] X fun e X' => e = .returned (.bool true) ∧ Below X.heap.size X X' := fun X hX =>
          IH.out s.f7 (by have := HM.out; omega) X A7 c7 (Kd.C_below K0.out hX) l7 (Kd.C_below g7 hX) (Nat.le_trans hL7 HL.out) (fun t ht => OK.out t (hsub7 t ht))
        have H6 := Lib.hid h6
        have H7 := Lib.hid h7
        clear h6 h7 hmem hsub6 hsub7 sz6 sz7 hL6 hL7 g4 l4 g6 l6 g7 l7
        have hw := pzB i (Nat.le_trans (Nat.le_of_lt hi) (Nat.le_trans hll (by decide)))
        have cp := HP.out.cell
        obtain ⟨k1, rfl⟩ : ∃ k1, gk = k1 + 1 := ⟨gk - 1, by omega⟩
        by_cases h5 : s.f0 = 5
        · have h5b : (s.f0 == 5) = true := by simpa using h5
          obtain ⟨hq0, hpn⟩ := hcal h5
          have hq1 := funIx_lt fs s.f3
          have hcall : ∀ Y, Below w.heap.size w Y → Calls Try.prog 15 #[.agg #[.slice A fs.length c], .string s.f3] Y fun e Y' => e = .returned (.int .i64 (funIx fs s.f3)) ∧ Below Y.heap.size Y Y' := fun Y hY => fun_any fs A c s.f3 Y hlc (Kd.C_below K0.out hY) hl
          obtain ⟨q, hq⟩ : ∃ q, q = funIx fs s.f3 := ⟨_, rfl⟩
          rw [← hq] at hq0 hq1 hpn hcall
          have HC := Lib.hid hcall
          obtain ⟨af, Ap, cp_, Aq, cq_, eA, y0, y1, y2, ly1, gy1, ly2, gy2⟩ := at_T32 (Kd.C_below K0.out HB.out) q hq0 hq1
          subst eA
          obtain ⟨pn, hp⟩ : ∃ pn, pn = (rd_T32 fs q).f1.length := ⟨_, rfl⟩
          rw [← hp] at y1 hpn
          clear hcall hq hp h5 hcal y0 y2 ly1 gy1 ly2 gy2 HM OK IH
          gi_wp2
          refine wpIn_region_any mixedO ?_
          refine wpAnyIn_flow _ (fun ix_ => match ix_ with | 0 => .agg #[.slice (some af) fs.length c] | 1 => .slice (some al) l.length c1 | 2 => .int .i64 (i : Nat) | 3 => .pointer (some (al.add (i * 8))) | 4 => .pointer (some ⟨(al.add (i * 8)).block, (al.add (i * 8)).off + 3, none⟩) | 5 => .string s.f3 | 6 => .int .i64 q | 7 => .int .i64 q | _ => undef) (fun done Z => Below wr.heap.size wr Z) rfl (by kernel_rfl) _ ?hz5 ?st5 ?en5
          case hz5 => exact (Below.refl wr.heap.size wr).drew
          case st5 =>
            intro m op done a Z ho hdn hdep hag hS K2 hK2
            have hm : m < 8 := by
              by_cases h : m < 8
              · exact h
              · rw [Array.getElem?_eq_none (by simp; omega)] at ho; cases ho
            have z0 := opIn_cell_up x0 hS
            have z3 := opIn_cell_up x3 hS
            have z4 := opIn_cell_up x4 hS
            have z6 := opIn_cell_up x6 hS
            have z7 := opIn_cell_up x7 hS
            have zp := opIn_cell_up cp hS
            obtain rfl | rfl | rfl | rfl | rfl | rfl | rfl | rfl : m = 0 ∨ m = 1 ∨ m = 2 ∨ m = 3 ∨ m = 4 ∨ m = 5 ∨ m = 6 ∨ m = 7 := by omega
            · cases ho
              have e2 : a.eval (.tmp 2) = .pointer (some ⟨w.heap.size, 0, none⟩) := hag.keep 2 rfl
              refine opIn_value (i := 0) rfl rfl (fun c h => by cases h) rfl ?_ (hK2 Z hS)
              have ec : ∀ v, a.eval (.const v) = v := fun _ => rfl
              generalize a.eval = ev at *
              simp [execOp, go_sem, ec, e2, zp]
            · cases ho
              have e1 : a.eval (.tmp 1) = .slice (some al) l.length c1 := hag.keep 1 rfl
              refine opIn_value (i := 1) rfl rfl (fun c h => by cases h) rfl ?_ (hK2 Z hS)
              have ec : ∀ v, a.eval (.const v) = v := fun _ => rfl
              generalize a.eval = ev at *
              simp [execOp, go_sem, ec, e1]
            · cases ho
              have e5 : a.eval (.tmp 5) = .int .i64 (i : Nat) := hag.keep 5 rfl
              refine opIn_value (i := 2) rfl rfl (fun c h => by cases h) rfl ?_ (hK2 Z hS)
              have ec : ∀ v, a.eval (.const v) = v := fun _ => rfl
              generalize a.eval = ev at *
              simp [execOp, go_sem, ec, e5]
            · cases ho
              have e20 := hag.val_ (j := 1) (t := 20) rfl (hdep ⟨1, .data⟩ (by simp) rfl)
              have e21 := hag.val_ (j := 2) (t := 21) rfl (hdep ⟨2, .data⟩ (by simp) rfl)
              refine opIn_value (i := 3) rfl rfl (fun c h => by cases h) ?_ ?_ (hK2 Z hS)
              · generalize a.eval = ev at *
                simp [Oper.about, resolve, Target.leads, Sem.run_pure, go_sem, e20, e21, hi, hi0]
              · have ec : ∀ v, a.eval (.const v) = v := fun _ => rfl
                generalize a.eval = ev at *
                simp [execOp, go_sem, ec, e20, e21, hi, hi0]
            · cases ho
              have e22 := hag.val_ (j := 3) (t := 22) rfl (hdep ⟨3, .data⟩ (by simp) rfl)
              refine opIn_value (i := 4) rfl rfl (fun c h => by cases h) rfl ?_ (hK2 Z hS)
              have ec : ∀ v, a.eval (.const v) = v := fun _ => rfl
              generalize a.eval = ev at *
              simp [execOp, go_sem, ec, e22]
            · cases ho
              have e23 := hag.val_ (j := 4) (t := 23) rfl (hdep ⟨4, .data⟩ (by simp) rfl)
              refine opIn_value (i := 5) rfl rfl (fun c h => by cases h) rfl ?_ (hK2 Z hS)
              have ec : ∀ v, a.eval (.const v) = v := fun _ => rfl
              generalize a.eval = ev at *
              simp [execOp, go_sem, ec, e23, z3]
            · cases ho
              have e19 := hag.val_ (j := 0) (t := 19) rfl (hdep ⟨0, .data⟩ (by simp) rfl)
              have e24 := hag.val_ (j := 5) (t := 24) rfl (hdep ⟨5, .data⟩ (by simp) rfl)
              refine opIn_callW (i := 6) (f := 15) (R := fun e w2 => e = .returned (.int .i64 q) ∧ Below Z.heap.size Z w2) rfl rfl rfl (fun _ _ => rfl) ?_ ?_
              · simp only [List.map_toArray, List.map_cons, List.map_nil, e19, e24]
                exact HC.out _ (below_step HB.out hS)
              · rintro e' w2 ⟨rfl, hb⟩
                exact ⟨_, rfl, hK2 w2 (hS.trans (hb.mono hS.size))⟩
            · cases ho
              have e25 := hag.val_ (j := 6) (t := 25) rfl (hdep ⟨6, .data⟩ (by simp) rfl)
              refine opIn_value (i := 7) rfl rfl (fun c h => by cases h) rfl ?_ (hK2 Z hS)
              have ec : ∀ v, a.eval (.const v) = v := fun _ => rfl
              generalize a.eval = ev at *
              simp [execOp, go_sem, ec, e25]
          case en5 =>
            intro Z5 done hdn hS
            simp only [putTmps, dstOf, List.size_toArray, List.length_cons, List.length_nil, Nat.reduceAdd, List.getElem?_toArray, List.getElem?_cons_zero, List.getElem?_cons_succ, Option.bind_some, List.setIfInBounds_toArray, List.set_cons_zero, List.set_cons_succ]
            replace x0 := opIn_cell_up x0 hS
            replace x3 := opIn_cell_up x3 hS
            replace x4 := opIn_cell_up x4 hS
            replace x6 := opIn_cell_up x6 hS
            replace x7 := opIn_cell_up x7 hS
            replace cp := opIn_cell_up cp hS
            replace y1 := opIn_cell_up y1 hS
            have HP := Lib.hid (boxed_below HP.out hS)
            have HB := Lib.hid (below_step HB.out hS)
            clear hS hdn
            gi_wp2
            refine wpIn_region_any mixedO ?_
            refine wpAnyIn_flow _ (fun ix_ => match ix_ with | 0 => .int .i64 q | 1 => .bool false | 2 => .bool false | 3 => .int .i64 q | 4 => .pointer (some ⟨w.heap.size, 0, none⟩) | 5 => .slice (some af) fs.length c | 6 => .int .i64 fs.length | 7 => .bool false | 8 => .bool false | 9 => .bool false | 10 => .pointer (some ⟨w.heap.size, 0, none⟩) | 11 => .slice (some af) fs.length c | 12 => .int .i64 q | 13 => .pointer (some (af.add (q.toNat * 3))) | 14 => .pointer (some ⟨(af.add (q.toNat * 3)).block, (af.add (q.toNat * 3)).off + 1, none⟩) | 15 => .slice Ap pn cp_ | 16 => .int .i64 pn | 17 => .slice (some al) l.length c1 | 18 => .int .i64 (i : Nat) | 19 => .pointer (some (al.add (i * 8))) | 20 => .pointer (some ⟨(al.add (i * 8)).block, (al.add (i * 8)).off + 4, none⟩) | 21 => .slice A4 s.f4.length c4 | 22 => .int .i64 s.f4.length | 23 => .bool false | 24 => .bool false | _ => undef) (fun done Z => Below Z5.heap.size Z5 Z) rfl (by kernel_rfl) _ ?hz6 ?st6 ?en6
            case hz6 => exact (Below.refl Z5.heap.size Z5).drew
            case st6 =>
              intro m op done a Z ho hdn hdep hag hS K2 hK2
              have hm : m < 25 := by
                by_cases h : m < 25
                · exact h
                · rw [Array.getElem?_eq_none (by simp; omega)] at ho; cases ho
              have z0 := opIn_cell_up x0 hS
              have z3 := opIn_cell_up x3 hS
              have z4 := opIn_cell_up x4 hS
              have z6 := opIn_cell_up x6 hS
              have z7 := opIn_cell_up x7 hS
              have zp := opIn_cell_up cp hS
              have zf := opIn_cell_up y1 hS
              obtain rfl | rfl | rfl | rfl | rfl | rfl | rfl | rfl | rfl | rfl | rfl | rfl | rfl | rfl | rfl | rfl | rfl | rfl | rfl | rfl | rfl | rfl | rfl | rfl | rfl : m = 0 ∨ m = 1 ∨ m = 2 ∨ m = 3 ∨ m = 4 ∨ m = 5 ∨ m = 6 ∨ m = 7 ∨ m = 8 ∨ m = 9 ∨ m = 10 ∨ m = 11 ∨ m = 12 ∨ m = 13 ∨ m = 14 ∨ m = 15 ∨ m = 16 ∨ m = 17 ∨ m = 18 ∨ m = 19 ∨ m = 20 ∨ m = 21 ∨ m = 22 ∨ m = 23 ∨ m = 24 := by omega
              · cases ho
                have e6 : a.eval (.tmp 6) = .int .i64 q := hag.keep 6 rfl
                refine opIn_value (i := 0) rfl rfl (fun c h => by cases h) rfl ?_ (hK2 Z hS)
                have ec : ∀ v, a.eval (.const v) = v := fun _ => rfl
                generalize a.eval = ev at *
                simp [execOp, go_sem, ec, e6]
              · cases ho
                have e26 := hag.val_ (j := 0) (t := 26) rfl (hdep ⟨0, .data⟩ (by simp) rfl)
                refine opIn_value (i := 1) rfl rfl (fun c h => by cases h) rfl ?_ (hK2 Z hS)
                have ec : ∀ v, a.eval (.const v) = v := fun _ => rfl
                generalize a.eval = ev at *
                simp [execOp, go_sem, ec, e26, hq0]
              · cases ho
                have e27 := hag.val_ (j := 1) (t := 27) rfl (hdep ⟨1, .data⟩ (by simp) rfl)
                refine opIn_value (i := 2) rfl rfl (fun c h => by cases h) rfl ?_ (hK2 Z hS)
                have ec : ∀ v, a.eval (.const v) = v := fun _ => rfl
                generalize a.eval = ev at *
                simp [execOp, go_sem, ec, e27]
              · cases ho
                have eg := hag.val_ (j := 2) (t := 28) rfl (hdep ⟨2, .guard⟩ (by simp) rfl)
                have e6 : a.eval (.tmp 6) = .int .i64 q := hag.keep 6 rfl
                refine opIn_value (i := 3) rfl (wantedOn (j := 2) (d := 28) (b := false) rfl rfl eg) (fun c h => by cases h) rfl ?_ (hK2 Z hS)
                have ec : ∀ v, a.eval (.const v) = v := fun _ => rfl
                generalize a.eval = ev at *
                simp [execOp, go_sem, ec, e6]
              · cases ho
                have eg := hag.val_ (j := 2) (t := 28) rfl (hdep ⟨2, .guard⟩ (by simp) rfl)
                have e2 : a.eval (.tmp 2) = .pointer (some ⟨w.heap.size, 0, none⟩) := hag.keep 2 rfl
                refine opIn_value (i := 4) rfl (wantedOn (j := 2) (d := 28) (b := false) rfl rfl eg) (fun c h => by cases h) rfl ?_ (hK2 Z hS)
                have ec : ∀ v, a.eval (.const v) = v := fun _ => rfl
                generalize a.eval = ev at *
                simp [execOp, go_sem, ec, e2]
              · cases ho
                have eg := hag.val_ (j := 2) (t := 28) rfl (hdep ⟨2, .guard⟩ (by simp) rfl)
                have e30 := hag.val_ (j := 4) (t := 30) rfl (hdep ⟨4, .data⟩ (by simp) rfl)
                refine opIn_value (i := 5) rfl (wantedOn (j := 2) (d := 28) (b := false) rfl rfl eg) (fun c h => by cases h) rfl ?_ (hK2 Z hS)
                have ec : ∀ v, a.eval (.const v) = v := fun _ => rfl
                generalize a.eval = ev at *
                simp [execOp, go_sem, ec, e30, zp]
              · cases ho
                have eg := hag.val_ (j := 2) (t := 28) rfl (hdep ⟨2, .guard⟩ (by simp) rfl)
                have e31 := hag.val_ (j := 5) (t := 31) rfl (hdep ⟨5, .data⟩ (by simp) rfl)
                refine opIn_value (i := 6) rfl (wantedOn (j := 2) (d := 28) (b := false) rfl rfl eg) (fun c h => by cases h) ?_ ?_ (hK2 Z hS)
                · generalize a.eval = ev at *
                  simp [Oper.about, resolve, Target.leads, Sem.run_pure, go_sem, e31]
                · have ec : ∀ v, a.eval (.const v) = v := fun _ => rfl
                  generalize a.eval = ev at *
                  simp [execOp, go_sem, ec, e31]
              · cases ho
                have eg := hag.val_ (j := 2) (t := 28) rfl (hdep ⟨2, .guard⟩ (by simp) rfl)
                have e29 := hag.val_ (j := 3) (t := 29) rfl (hdep ⟨3, .data⟩ (by simp) rfl)
                have e32 := hag.val_ (j := 6) (t := 32) rfl (hdep ⟨6, .data⟩ (by simp) rfl)
                refine opIn_value (i := 7) rfl (wantedOn (j := 2) (d := 28) (b := false) rfl rfl eg) (fun c h => by cases h) rfl ?_ (hK2 Z hS)
                have ec : ∀ v, a.eval (.const v) = v := fun _ => rfl
                generalize a.eval = ev at *
                simp [execOp, go_sem, ec, e29, e32, hq1]
              · cases ho
                have e28 := hag.val_ (j := 2) (t := 28) rfl (hdep ⟨2, .data⟩ (by simp) rfl)
                have e33 := hag.val_ (j := 7) (t := 33) rfl (hdep ⟨7, .data⟩ (by simp) rfl)
                refine opIn_value (i := 8) rfl rfl (fun c h => by cases h) rfl ?_ (hK2 Z hS)
                have ec : ∀ v, a.eval (.const v) = v := fun _ => rfl
                generalize a.eval = ev at *
                simp [execOp, go_sem, ec, e28, e33]
              · cases ho
                have e34 := hag.val_ (j := 8) (t := 34) rfl (hdep ⟨8, .data⟩ (by simp) rfl)
                refine opIn_value (i := 9) rfl rfl (fun c h => by cases h) rfl ?_ (hK2 Z hS)
                have ec : ∀ v, a.eval (.const v) = v := fun _ => rfl
                generalize a.eval = ev at *
                simp [execOp, go_sem, ec, e34]
              · cases ho
                have eg := hag.val_ (j := 9) (t := 35) rfl (hdep ⟨9, .guard⟩ (by simp) rfl)
                have e2 : a.eval (.tmp 2) = .pointer (some ⟨w.heap.size, 0, none⟩) := hag.keep 2 rfl
                refine opIn_value (i := 10) rfl (wantedOn (j := 9) (d := 35) (b := false) rfl rfl eg) (fun c h => by cases h) rfl ?_ (hK2 Z hS)
                have ec : ∀ v, a.eval (.const v) = v := fun _ => rfl
                generalize a.eval = ev at *
                simp [execOp, go_sem, ec, e2]
              · cases ho
                have eg := hag.val_ (j := 9) (t := 35) rfl (hdep ⟨9, .guard⟩ (by simp) rfl)
                have e36 := hag.val_ (j := 10) (t := 36) rfl (hdep ⟨10, .data⟩ (by simp) rfl)
                refine opIn_value (i := 11) rfl (wantedOn (j := 9) (d := 35) (b := false) rfl rfl eg) (fun c h => by cases h) rfl ?_ (hK2 Z hS)
                have ec : ∀ v, a.eval (.const v) = v := fun _ => rfl
                generalize a.eval = ev at *
                simp [execOp, go_sem, ec, e36, zp]
              · cases ho
                have eg := hag.val_ (j := 9) (t := 35) rfl (hdep ⟨9, .guard⟩ (by simp) rfl)
                have e6 : a.eval (.tmp 6) = .int .i64 q := hag.keep 6 rfl
                refine opIn_value (i := 12) rfl (wantedOn (j := 9) (d := 35) (b := false) rfl rfl eg) (fun c h => by cases h) rfl ?_ (hK2 Z hS)
                have ec : ∀ v, a.eval (.const v) = v := fun _ => rfl
                generalize a.eval = ev at *
                simp [execOp, go_sem, ec, e6]
              · cases ho
                have eg := hag.val_ (j := 9) (t := 35) rfl (hdep ⟨9, .guard⟩ (by simp) rfl)
                have e37 := hag.val_ (j := 11) (t := 37) rfl (hdep ⟨11, .data⟩ (by simp) rfl)
                have e38 := hag.val_ (j := 12) (t := 38) rfl (hdep ⟨12, .data⟩ (by simp) rfl)
                refine opIn_value (i := 13) rfl (wantedOn (j := 9) (d := 35) (b := false) rfl rfl eg) (fun c h => by cases h) ?_ ?_ (hK2 Z hS)
                · generalize a.eval = ev at *
                  simp [Oper.about, resolve, Target.leads, Sem.run_pure, go_sem, e37, e38, hq0, hq1]
                · have ec : ∀ v, a.eval (.const v) = v := fun _ => rfl
                  generalize a.eval = ev at *
                  simp [execOp, go_sem, ec, e37, e38, hq0, hq1]
              · cases ho
                have eg := hag.val_ (j := 9) (t := 35) rfl (hdep ⟨9, .guard⟩ (by simp) rfl)
                have e39 := hag.val_ (j := 13) (t := 39) rfl (hdep ⟨13, .data⟩ (by simp) rfl)
                refine opIn_value (i := 14) rfl (wantedOn (j := 9) (d := 35) (b := false) rfl rfl eg) (fun c h => by cases h) rfl ?_ (hK2 Z hS)
                have ec : ∀ v, a.eval (.const v) = v := fun _ => rfl
                generalize a.eval = ev at *
                simp [execOp, go_sem, ec, e39]
              · cases ho
                have eg := hag.val_ (j := 9) (t := 35) rfl (hdep ⟨9, .guard⟩ (by simp) rfl)
                have e40 := hag.val_ (j := 14) (t := 40) rfl (hdep ⟨14, .data⟩ (by simp) rfl)
                refine opIn_value (i := 15) rfl (wantedOn (j := 9) (d := 35) (b := false) rfl rfl eg) (fun c h => by cases h) rfl ?_ (hK2 Z hS)
                have ec : ∀ v, a.eval (.const v) = v := fun _ => rfl
                generalize a.eval = ev at *
                simp [execOp, go_sem, ec, e40, zf]
              · cases ho
                have eg := hag.val_ (j := 9) (t := 35) rfl (hdep ⟨9, .guard⟩ (by simp) rfl)
                have e41 := hag.val_ (j := 15) (t := 41) rfl (hdep ⟨15, .data⟩ (by simp) rfl)
                refine opIn_value (i := 16) rfl (wantedOn (j := 9) (d := 35) (b := false) rfl rfl eg) (fun c h => by cases h) ?_ ?_ (hK2 Z hS)
                · generalize a.eval = ev at *
                  simp [Oper.about, resolve, Target.leads, Sem.run_pure, go_sem, e41]
                · have ec : ∀ v, a.eval (.const v) = v := fun _ => rfl
                  generalize a.eval = ev at *
                  simp [execOp, go_sem, ec, e41]
              · cases ho
                have eg := hag.val_ (j := 9) (t := 35) rfl (hdep ⟨9, .guard⟩ (by simp) rfl)
                have e1 : a.eval (.tmp 1) = .slice (some al) l.length c1 := hag.keep 1 rfl
                refine opIn_value (i := 17) rfl (wantedOn (j := 9) (d := 35) (b := false) rfl rfl eg) (fun c h => by cases h) rfl ?_ (hK2 Z hS)
                have ec : ∀ v, a.eval (.const v) = v := fun _ => rfl
                generalize a.eval = ev at *
                simp [execOp, go_sem, ec, e1]
              · cases ho
                have eg := hag.val_ (j := 9) (t := 35) rfl (hdep ⟨9, .guard⟩ (by simp) rfl)
                have e5 : a.eval (.tmp 5) = .int .i64 (i : Nat) := hag.keep 5 rfl
                refine opIn_value (i := 18) rfl (wantedOn (j := 9) (d := 35) (b := false) rfl rfl eg) (fun c h => by cases h) rfl ?_ (hK2 Z hS)
                have ec : ∀ v, a.eval (.const v) = v := fun _ => rfl
                generalize a.eval = ev at *
                simp [execOp, go_sem, ec, e5]
              · cases ho
                have eg := hag.val_ (j := 9) (t := 35) rfl (hdep ⟨9, .guard⟩ (by simp) rfl)
                have e43 := hag.val_ (j := 17) (t := 43) rfl (hdep ⟨17, .data⟩ (by simp) rfl)
                have e44 := hag.val_ (j := 18) (t := 44) rfl (hdep ⟨18, .data⟩ (by simp) rfl)
                refine opIn_value (i := 19) rfl (wantedOn (j := 9) (d := 35) (b := false) rfl rfl eg) (fun c h => by cases h) ?_ ?_ (hK2 Z hS)
                · generalize a.eval = ev at *
                  simp [Oper.about, resolve, Target.leads, Sem.run_pure, go_sem, e43, e44, hi, hi0]
                · have ec : ∀ v, a.eval (.const v) = v := fun _ => rfl
                  generalize a.eval = ev at *
                  simp [execOp, go_sem, ec, e43, e44, hi, hi0]
              · cases ho
                have eg := hag.val_ (j := 9) (t := 35) rfl (hdep ⟨9, .guard⟩ (by simp) rfl)
                have e45 := hag.val_ (j := 19) (t := 45) rfl (hdep ⟨19, .data⟩ (by simp) rfl)
                refine opIn_value (i := 20) rfl (wantedOn (j := 9) (d := 35) (b := false) rfl rfl eg) (fun c h => by cases h) rfl ?_ (hK2 Z hS)
                have ec : ∀ v, a.eval (.const v) = v := fun _ => rfl
                generalize a.eval = ev at *
                simp [execOp, go_sem, ec, e45]
              · cases ho
                have eg := hag.val_ (j := 9) (t := 35) rfl (hdep ⟨9, .guard⟩ (by simp) rfl)
                have e46 := hag.val_ (j := 20) (t := 46) rfl (hdep ⟨20, .data⟩ (by simp) rfl)
                refine opIn_value (i := 21) rfl (wantedOn (j := 9) (d := 35) (b := false) rfl rfl eg) (fun c h => by cases h) rfl ?_ (hK2 Z hS)
                have ec : ∀ v, a.eval (.const v) = v := fun _ => rfl
                generalize a.eval = ev at *
                simp [execOp, go_sem, ec, e46, z4]
              · cases ho
                have eg := hag.val_ (j := 9) (t := 35) rfl (hdep ⟨9, .guard⟩ (by simp) rfl)
                have e47 := hag.val_ (j := 21) (t := 47) rfl (hdep ⟨21, .data⟩ (by simp) rfl)
                refine opIn_value (i := 22) rfl (wantedOn (j := 9) (d := 35) (b := false) rfl rfl eg) (fun c h => by cases h) ?_ ?_ (hK2 Z hS)
                · generalize a.eval = ev at *
                  simp [Oper.about, resolve, Target.leads, Sem.run_pure, go_sem, e47]
                · have ec : ∀ v, a.eval (.const v) = v := fun _ => rfl
                  generalize a.eval = ev at *
                  simp [execOp, go_sem, ec, e47]
              · cases ho
                have eg := hag.val_ (j := 9) (t := 35) rfl (hdep ⟨9, .guard⟩ (by simp) rfl)
                have e42 := hag.val_ (j := 16) (t := 42) rfl (hdep ⟨16, .data⟩ (by simp) rfl)
                have e48 := hag.val_ (j := 22) (t := 48) rfl (hdep ⟨22, .data⟩ (by simp) rfl)
                refine opIn_value (i := 23) rfl (wantedOn (j := 9) (d := 35) (b := false) rfl rfl eg) (fun c h => by cases h) rfl ?_ (hK2 Z hS)
                have ec : ∀ v, a.eval (.const v) = v := fun _ => rfl
                generalize a.eval = ev at *
                simp [execOp, go_sem, ec, e42, e48, hpn]
              · cases ho
                have e35 := hag.val_ (j := 9) (t := 35) rfl (hdep ⟨9, .data⟩ (by simp) rfl)
                have e49 := hag.val_ (j := 23) (t := 49) rfl (hdep ⟨23, .data⟩ (by simp) rfl)
                refine opIn_value (i := 24) rfl rfl (fun c h => by cases h) rfl ?_ (hK2 Z hS)
                have ec : ∀ v, a.eval (.const v) = v := fun _ => rfl
                generalize a.eval = ev at *
                simp [execOp, go_sem, ec, e35, e49]
            case en6 =>
              intro Z6 done hdn hS
              simp only [putTmps, dstOf, List.size_toArray, List.length_cons, List.length_nil, Nat.reduceAdd, List.getElem?_toArray, List.getElem?_cons_zero, List.getElem?_cons_succ, Option.bind_some, List.setIfInBounds_toArray, List.set_cons_zero, List.set_cons_succ]
              replace x0 := opIn_cell_up x0 hS
              replace x3 := opIn_cell_up x3 hS
              replace x4 := opIn_cell_up x4 hS
              replace x6 := opIn_cell_up x6 hS
              replace x7 := opIn_cell_up x7 hS
              replace cp := opIn_cell_up cp hS
              clear y1
              have HP := Lib.hid (boxed_below HP.out hS)
              have HB := Lib.hid (below_step HB.out hS)
              clear hS hdn
              gi_wp2
              refine wpIn_region_any mixedO ?_
              refine wpAnyIn_flow _ (fun ix_ => match ix_ with | 0 => .agg #[.slice (some af) fs.length c] | 1 => .slice (some al) l.length c1 | 2 => .int .i64 (i : Nat) | 3 => .pointer (some (al.add (i * 8))) | 4 => .pointer (some ⟨(al.add (i * 8)).block, (al.add (i * 8)).off + 6, none⟩) | 5 => .slice A6 s.f6.length c6 | 6 => .bool true | 7 => .bool false | 8 => .bool false | 9 => .agg #[.slice (some af) fs.length c] | 10 => .slice (some al) l.length c1 | 11 => .int .i64 (i : Nat) | 12 => .pointer (some (al.add (i * 8))) | 13 => .pointer (some ⟨(al.add (i * 8)).block, (al.add (i * 8)).off + 7, none⟩) | 14 => .slice A7 s.f7.length c7 | 15 => .bool true | 16 => .bool false | 17 => .bool false | _ => undef) (fun done Z => Below Z6.heap.size Z6 Z) rfl (by kernel_rfl) _ ?hz8 ?st8 ?en8
              case hz8 => exact (Below.refl Z6.heap.size Z6).drew
              case st8 =>
                intro m op done a Z ho hdn hdep hag hS K2 hK2
                have hm : m < 18 := by
                  by_cases h : m < 18
                  · exact h
                  · rw [Array.getElem?_eq_none (by simp; omega)] at ho; cases ho
                have z0 := opIn_cell_up x0 hS
                have z3 := opIn_cell_up x3 hS
                have z4 := opIn_cell_up x4 hS
                have z6 := opIn_cell_up x6 hS
                have z7 := opIn_cell_up x7 hS
                have zp := opIn_cell_up cp hS
                obtain rfl | rfl | rfl | rfl | rfl | rfl | rfl | rfl | rfl | rfl | rfl | rfl | rfl | rfl | rfl | rfl | rfl | rfl : m = 0 ∨ m = 1 ∨ m = 2 ∨ m = 3 ∨ m = 4 ∨ m = 5 ∨ m = 6 ∨ m = 7 ∨ m = 8 ∨ m = 9 ∨ m = 10 ∨ m = 11 ∨ m = 12 ∨ m = 13 ∨ m = 14 ∨ m = 15 ∨ m = 16 ∨ m = 17 := by omega
                · cases ho
                  have e2 : a.eval (.tmp 2) = .pointer (some ⟨w.heap.size, 0, none⟩) := hag.keep 2 rfl
                  refine opIn_value (i := 0) rfl rfl (fun c h => by cases h) rfl ?_ (hK2 Z hS)
                  have ec : ∀ v, a.eval (.const v) = v := fun _ => rfl
                  generalize a.eval = ev at *
                  simp [execOp, go_sem, ec, e2, zp]
                · cases ho
                  have e1 : a.eval (.tmp 1) = .slice (some al) l.length c1 := hag.keep 1 rfl
                  refine opIn_value (i := 1) rfl rfl (fun c h => by cases h) rfl ?_ (hK2 Z hS)
                  have ec : ∀ v, a.eval (.const v) = v := fun _ => rfl
                  generalize a.eval = ev at *
                  simp [execOp, go_sem, ec, e1]
                · cases ho
                  have e5 : a.eval (.tmp 5) = .int .i64 (i : Nat) := hag.keep 5 rfl
                  refine opIn_value (i := 2) rfl rfl (fun c h => by cases h) rfl ?_ (hK2 Z hS)
                  have ec : ∀ v, a.eval (.const v) = v := fun _ => rfl
                  generalize a.eval = ev at *
                  simp [execOp, go_sem, ec, e5]
                · cases ho
                  have e52 := hag.val_ (j := 1) (t := 52) rfl (hdep ⟨1, .data⟩ (by simp) rfl)
                  have e53 := hag.val_ (j := 2) (t := 53) rfl (hdep ⟨2, .data⟩ (by simp) rfl)
                  refine opIn_value (i := 3) rfl rfl (fun c h => by cases h) ?_ ?_ (hK2 Z hS)
                  · generalize a.eval = ev at *
                    simp [Oper.about, resolve, Target.leads, Sem.run_pure, go_sem, e52, e53, hi, hi0]
                  · have ec : ∀ v, a.eval (.const v) = v := fun _ => rfl
                    generalize a.eval = ev at *
                    simp [execOp, go_sem, ec, e52, e53, hi, hi0]
                · cases ho
                  have e54 := hag.val_ (j := 3) (t := 54) rfl (hdep ⟨3, .data⟩ (by simp) rfl)
                  refine opIn_value (i := 4) rfl rfl (fun c h => by cases h) rfl ?_ (hK2 Z hS)
                  have ec : ∀ v, a.eval (.const v) = v := fun _ => rfl
                  generalize a.eval = ev at *
                  simp [execOp, go_sem, ec, e54]
                · cases ho
                  have e55 := hag.val_ (j := 4) (t := 55) rfl (hdep ⟨4, .data⟩ (by simp) rfl)
                  refine opIn_value (i := 5) rfl rfl (fun c h => by cases h) rfl ?_ (hK2 Z hS)
                  have ec : ∀ v, a.eval (.const v) = v := fun _ => rfl
                  generalize a.eval = ev at *
                  simp [execOp, go_sem, ec, e55, z6]
                · cases ho
                  have e51 := hag.val_ (j := 0) (t := 51) rfl (hdep ⟨0, .data⟩ (by simp) rfl)
                  have e56 := hag.val_ (j := 5) (t := 56) rfl (hdep ⟨5, .data⟩ (by simp) rfl)
                  refine opIn_callW (i := 6) (f := 20) (R := fun e w2 => e = .returned (.bool true) ∧ Below Z.heap.size Z w2) rfl rfl rfl (fun _ _ => rfl) ?_ ?_
                  · simp only [List.map_toArray, List.map_cons, List.map_nil, e51, e56]
                    exact H6.out _ (below_step HB.out hS)
                  · rintro e' w2 ⟨rfl, hb⟩
                    exact ⟨_, rfl, hK2 w2 (hS.trans (hb.mono hS.size))⟩
                · cases ho
                  have e57 := hag.val_ (j := 6) (t := 57) rfl (hdep ⟨6, .data⟩ (by simp) rfl)
                  refine opIn_value (i := 7) rfl rfl (fun c h => by cases h) rfl ?_ (hK2 Z hS)
                  have ec : ∀ v, a.eval (.const v) = v := fun _ => rfl
                  generalize a.eval = ev at *
                  simp [execOp, go_sem, ec, e57]
                · cases ho
                  have e58 := hag.val_ (j := 7) (t := 58) rfl (hdep ⟨7, .data⟩ (by simp) rfl)
                  refine opIn_value (i := 8) rfl rfl (fun c h => by cases h) rfl ?_ (hK2 Z hS)
                  have ec : ∀ v, a.eval (.const v) = v := fun _ => rfl
                  generalize a.eval = ev at *
                  simp [execOp, go_sem, ec, e58]
                · cases ho
                  have eg := hag.val_ (j := 8) (t := 59) rfl (hdep ⟨8, .guard⟩ (by simp) rfl)
                  have e2 : a.eval (.tmp 2) = .pointer (some ⟨w.heap.size, 0, none⟩) := hag.keep 2 rfl
                  refine opIn_value (i := 9) rfl (wantedOn (j := 8) (d := 59) (b := false) rfl rfl eg) (fun c h => by cases h) rfl ?_ (hK2 Z hS)
                  have ec : ∀ v, a.eval (.const v) = v := fun _ => rfl
                  generalize a.eval = ev at *
                  simp [execOp, go_sem, ec, e2, zp]
                · cases ho
                  have eg := hag.val_ (j := 8) (t := 59) rfl (hdep ⟨8, .guard⟩ (by simp) rfl)
                  have e1 : a.eval (.tmp 1) = .slice (some al) l.length c1 := hag.keep 1 rfl
                  refine opIn_value (i := 10) rfl (wantedOn (j := 8) (d := 59) (b := false) rfl rfl eg) (fun c h => by cases h) rfl ?_ (hK2 Z hS)
                  have ec : ∀ v, a.eval (.const v) = v := fun _ => rfl
                  generalize a.eval = ev at *
                  simp [execOp, go_sem, ec, e1]
                · cases ho
                  have eg := hag.val_ (j := 8) (t := 59) rfl (hdep ⟨8, .guard⟩ (by simp) rfl)
                  have e5 : a.eval (.tmp 5) = .int .i64 (i : Nat) := hag.keep 5 rfl
                  refine opIn_value (i := 11) rfl (wantedOn (j := 8) (d := 59) (b := false) rfl rfl eg) (fun c h => by cases h) rfl ?_ (hK2 Z hS)
                  have ec : ∀ v, a.eval (.const v) = v := fun _ => rfl
                  generalize a.eval = ev at *
                  simp [execOp, go_sem, ec, e5]
                · cases ho
                  have eg := hag.val_ (j := 8) (t := 59) rfl (hdep ⟨8, .guard⟩ (by simp) rfl)
                  have e61 := hag.val_ (j := 10) (t := 61) rfl (hdep ⟨10, .data⟩ (by simp) rfl)
                  have e62 := hag.val_ (j := 11) (t := 62) rfl (hdep ⟨11, .data⟩ (by simp) rfl)
                  refine opIn_value (i := 12) rfl (wantedOn (j := 8) (d := 59) (b := false) rfl rfl eg) (fun c h => by cases h) ?_ ?_ (hK2 Z hS)
                  · generalize a.eval = ev at *
                    simp [Oper.about, resolve, Target.leads, Sem.run_pure, go_sem, e61, e62, hi, hi0]
                  · have ec : ∀ v, a.eval (.const v) = v := fun _ => rfl
                    generalize a.eval = ev at *
                    simp [execOp, go_sem, ec, e61, e62, hi, hi0]
                · cases ho
                  have eg := hag.val_ (j := 8) (t := 59) rfl (hdep ⟨8, .guard⟩ (by simp) rfl)
                  have e63 := hag.val_ (j := 12) (t := 63) rfl (hdep ⟨12, .data⟩ (by simp) rfl)
                  refine opIn_value (i := 13) rfl (wantedOn (j := 8) (d := 59) (b := false) rfl rfl eg) (fun c h => by cases h) rfl ?_ (hK2 Z hS)
                  have ec : ∀ v, a.eval (.const v) = v := fun _ => rfl
                  generalize a.eval = ev at *
                  simp [execOp, go_sem, ec, e63]
                · cases ho
                  have eg := hag.val_ (j := 8) (t := 59) rfl (hdep ⟨8, .guard⟩ (by simp) rfl)
                  have e64 := hag.val_ (j := 13) (t := 64) rfl (hdep ⟨13, .data⟩ (by simp) rfl)
                  refine opIn_value (i := 14) rfl (wantedOn (j := 8) (d := 59) (b := false) rfl rfl eg) (fun c h => by cases h) rfl ?_ (hK2 Z hS)
                  have ec : ∀ v, a.eval (.const v) = v := fun _ => rfl
                  generalize a.eval = ev at *
                  simp [execOp, go_sem, ec, e64, z7]
                · cases ho
                  have eg := hag.val_ (j := 8) (t := 59) rfl (hdep ⟨8, .guard⟩ (by simp) rfl)
                  have e60 := hag.val_ (j := 9) (t := 60) rfl (hdep ⟨9, .data⟩ (by simp) rfl)
                  have e65 := hag.val_ (j := 14) (t := 65) rfl (hdep ⟨14, .data⟩ (by simp) rfl)
                  refine opIn_callW (i := 15) (f := 20) (R := fun e w2 => e = .returned (.bool true) ∧ Below Z.heap.size Z w2) rfl (wantedOn (j := 8) (d := 59) (b := false) rfl rfl eg) rfl (fun _ _ => rfl) ?_ ?_
                  · simp only [List.map_toArray, List.map_cons, List.map_nil, e60, e65]
                    exact H7.out _ (below_step HB.out hS)
                  · rintro e' w2 ⟨rfl, hb⟩
                    exact ⟨_, rfl, hK2 w2 (hS.trans (hb.mono hS.size))⟩
                · cases ho
                  have eg := hag.val_ (j := 8) (t := 59) rfl (hdep ⟨8, .guard⟩ (by simp) rfl)
                  have e66 := hag.val_ (j := 15) (t := 66) rfl (hdep ⟨15, .data⟩ (by simp) rfl)
                  refine opIn_value (i := 16) rfl (wantedOn (j := 8) (d := 59) (b := false) rfl rfl eg) (fun c h => by cases h) rfl ?_ (hK2 Z hS)
                  have ec : ∀ v, a.eval (.const v) = v := fun _ => rfl
                  generalize a.eval = ev at *
                  simp [execOp, go_sem, ec, e66]
                · cases ho
                  have e59 := hag.val_ (j := 8) (t := 59) rfl (hdep ⟨8, .data⟩ (by simp) rfl)
                  have e67 := hag.val_ (j := 16) (t := 67) rfl (hdep ⟨16, .data⟩ (by simp) rfl)
                  refine opIn_value (i := 17) rfl rfl (fun c h => by cases h) rfl ?_ (hK2 Z hS)
                  have ec : ∀ v, a.eval (.const v) = v := fun _ => rfl
                  generalize a.eval = ev at *
                  simp [execOp, go_sem, ec, e59, e67]
              case en8 =>
                intro Z8 done hdn hS
                simp only [putTmps, dstOf, List.size_toArray, List.length_cons, List.length_nil, Nat.reduceAdd, List.getElem?_toArray, List.getElem?_cons_zero, List.getElem?_cons_succ, Option.bind_some, List.setIfInBounds_toArray, List.set_cons_zero, List.set_cons_succ]
                have HP := Lib.hid (boxed_below HP.out hS)
                have HB := Lib.hid (below_step HB.out hS)
                clear hS hdn cp x0 x3 x4 x6 x7
                gi_wp2
                gi_roundg k1
                case measure => exact Nat.lt_succ_self _
                case rel => exact ⟨i + 1, by rw [Nat.add_assoc, Nat.add_comm 1]; exact hik, by first | rw [hw] | simp [hw], HP, HB⟩
        · have h5b : (s.f0 == 5) = false := by simpa using h5
          clear h5 hcal HM OK IH
          gi_wp2
          refine wpIn_region_any mixedO ?_
          refine wpAnyIn_flow _ (fun ix_ => match ix_ with | 0 => .agg #[.slice A fs.length c] | 1 => .slice (some al) l.length c1 | 2 => .int .i64 (i : Nat) | 3 => .pointer (some (al.add (i * 8))) | 4 => .pointer (some ⟨(al.add (i * 8)).block, (al.add (i * 8)).off + 6, none⟩) | 5 => .slice A6 s.f6.length c6 | 6 => .bool true | 7 => .bool false | 8 => .bool false | 9 => .agg #[.slice A fs.length c] | 10 => .slice (some al) l.length c1 | 11 => .int .i64 (i : Nat) | 12 => .pointer (some (al.add (i * 8))) | 13 => .pointer (some ⟨(al.add (i * 8)).block, (al.add (i * 8)).off + 7, none⟩) | 14 => .slice A7 s.f7.length c7 | 15 => .bool true | 16 => .bool false | 17 => .bool false | _ => undef) (fun done Z => Below wr.heap.size wr Z) rfl (by kernel_rfl) _ ?hz8 ?st8 ?en8
          case hz8 => exact (Below.refl wr.heap.size wr).drew
          case st8 =>
            intro m op done a Z ho hdn hdep hag hS K2 hK2
            have hm : m < 18 := by
              by_cases h : m < 18
              · exact h
              · rw [Array.getElem?_eq_none (by simp; omega)] at ho; cases ho
            have z0 := opIn_cell_up x0 hS
            have z3 := opIn_cell_up x3 hS
            have z4 := opIn_cell_up x4 hS
            have z6 := opIn_cell_up x6 hS
            have z7 := opIn_cell_up x7 hS
            have zp := opIn_cell_up cp hS
            obtain rfl | rfl | rfl | rfl | rfl | rfl | rfl | rfl | rfl | rfl | rfl | rfl | rfl | rfl | rfl | rfl | rfl | rfl : m = 0 ∨ m = 1 ∨ m = 2 ∨ m = 3 ∨ m = 4 ∨ m = 5 ∨ m = 6 ∨ m = 7 ∨ m = 8 ∨ m = 9 ∨ m = 10 ∨ m = 11 ∨ m = 12 ∨ m = 13 ∨ m = 14 ∨ m = 15 ∨ m = 16 ∨ m = 17 := by omega
            · cases ho
              have e2 : a.eval (.tmp 2) = .pointer (some ⟨w.heap.size, 0, none⟩) := hag.keep 2 rfl
              refine opIn_value (i := 0) rfl rfl (fun c h => by cases h) rfl ?_ (hK2 Z hS)
              have ec : ∀ v, a.eval (.const v) = v := fun _ => rfl
              generalize a.eval = ev at *
              simp [execOp, go_sem, ec, e2, zp]
            · cases ho
              have e1 : a.eval (.tmp 1) = .slice (some al) l.length c1 := hag.keep 1 rfl
              refine opIn_value (i := 1) rfl rfl (fun c h => by cases h) rfl ?_ (hK2 Z hS)
              have ec : ∀ v, a.eval (.const v) = v := fun _ => rfl
              generalize a.eval = ev at *
              simp [execOp, go_sem, ec, e1]
            · cases ho
              have e5 : a.eval (.tmp 5) = .int .i64 (i : Nat) := hag.keep 5 rfl
              refine opIn_value (i := 2) rfl rfl (fun c h => by cases h) rfl ?_ (hK2 Z hS)
              have ec : ∀ v, a.eval (.const v) = v := fun _ => rfl
              generalize a.eval = ev at *
              simp [execOp, go_sem, ec, e5]
            · cases ho
              have e52 := hag.val_ (j := 1) (t := 52) rfl (hdep ⟨1, .data⟩ (by simp) rfl)
              have e53 := hag.val_ (j := 2) (t := 53) rfl (hdep ⟨2, .data⟩ (by simp) rfl)
              refine opIn_value (i := 3) rfl rfl (fun c h => by cases h) ?_ ?_ (hK2 Z hS)
              · generalize a.eval = ev at *
                simp [Oper.about, resolve, Target.leads, Sem.run_pure, go_sem, e52, e53, hi, hi0]
              · have ec : ∀ v, a.eval (.const v) = v := fun _ => rfl
                generalize a.eval = ev at *
                simp [execOp, go_sem, ec, e52, e53, hi, hi0]
            · cases ho
              have e54 := hag.val_ (j := 3) (t := 54) rfl (hdep ⟨3, .data⟩ (by simp) rfl)
              refine opIn_value (i := 4) rfl rfl (fun c h => by cases h) rfl ?_ (hK2 Z hS)
              have ec : ∀ v, a.eval (.const v) = v := fun _ => rfl
              generalize a.eval = ev at *
              simp [execOp, go_sem, ec, e54]
            · cases ho
              have e55 := hag.val_ (j := 4) (t := 55) rfl (hdep ⟨4, .data⟩ (by simp) rfl)
              refine opIn_value (i := 5) rfl rfl (fun c h => by cases h) rfl ?_ (hK2 Z hS)
              have ec : ∀ v, a.eval (.const v) = v := fun _ => rfl
              generalize a.eval = ev at *
              simp [execOp, go_sem, ec, e55, z6]
            · cases ho
              have e51 := hag.val_ (j := 0) (t := 51) rfl (hdep ⟨0, .data⟩ (by simp) rfl)
              have e56 := hag.val_ (j := 5) (t := 56) rfl (hdep ⟨5, .data⟩ (by simp) rfl)
              refine opIn_callW (i := 6) (f := 20) (R := fun e w2 => e = .returned (.bool true) ∧ Below Z.heap.size Z w2) rfl rfl rfl (fun _ _ => rfl) ?_ ?_
              · simp only [List.map_toArray, List.map_cons, List.map_nil, e51, e56]
                exact H6.out _ (below_step HB.out hS)
              · rintro e' w2 ⟨rfl, hb⟩
                exact ⟨_, rfl, hK2 w2 (hS.trans (hb.mono hS.size))⟩
            · cases ho
              have e57 := hag.val_ (j := 6) (t := 57) rfl (hdep ⟨6, .data⟩ (by simp) rfl)
              refine opIn_value (i := 7) rfl rfl (fun c h => by cases h) rfl ?_ (hK2 Z hS)
              have ec : ∀ v, a.eval (.const v) = v := fun _ => rfl
              generalize a.eval = ev at *
              simp [execOp, go_sem, ec, e57]
            · cases ho
              have e58 := hag.val_ (j := 7) (t := 58) rfl (hdep ⟨7, .data⟩ (by simp) rfl)
              refine opIn_value (i := 8) rfl rfl (fun c h => by cases h) rfl ?_ (hK2 Z hS)
              have ec : ∀ v, a.eval (.const v) = v := fun _ => rfl
              generalize a.eval = ev at *
              simp [execOp, go_sem, ec, e58]
            · cases ho
              have eg := hag.val_ (j := 8) (t := 59) rfl (hdep ⟨8, .guard⟩ (by simp) rfl)
              have e2 : a.eval (.tmp 2) = .pointer (some ⟨w.heap.size, 0, none⟩) := hag.keep 2 rfl
              refine opIn_value (i := 9) rfl (wantedOn (j := 8) (d := 59) (b := false) rfl rfl eg) (fun c h => by cases h) rfl ?_ (hK2 Z hS)
              have ec : ∀ v, a.eval (.const v) = v := fun _ => rfl
              generalize a.eval = ev at *
              simp [execOp, go_sem, ec, e2, zp]
            · cases ho
              have eg := hag.val_ (j := 8) (t := 59) rfl (hdep ⟨8, .guard⟩ (by simp) rfl)
              have e1 : a.eval (.tmp 1) = .slice (some al) l.length c1 := hag.keep 1 rfl
              refine opIn_value (i := 10) rfl (wantedOn (j := 8) (d := 59) (b := false) rfl rfl eg) (fun c h => by cases h) rfl ?_ (hK2 Z hS)
              have ec : ∀ v, a.eval (.const v) = v := fun _ => rfl
              generalize a.eval = ev at *
              simp [execOp, go_sem, ec, e1]
            · cases ho
              have eg := hag.val_ (j := 8) (t := 59) rfl (hdep ⟨8, .guard⟩ (by simp) rfl)
              have e5 : a.eval (.tmp 5) = .int .i64 (i : Nat) := hag.keep 5 rfl
              refine opIn_value (i := 11) rfl (wantedOn (j := 8) (d := 59) (b := false) rfl rfl eg) (fun c h => by cases h) rfl ?_ (hK2 Z hS)
              have ec : ∀ v, a.eval (.const v) = v := fun _ => rfl
              generalize a.eval = ev at *
              simp [execOp, go_sem, ec, e5]
            · cases ho
              have eg := hag.val_ (j := 8) (t := 59) rfl (hdep ⟨8, .guard⟩ (by simp) rfl)
              have e61 := hag.val_ (j := 10) (t := 61) rfl (hdep ⟨10, .data⟩ (by simp) rfl)
              have e62 := hag.val_ (j := 11) (t := 62) rfl (hdep ⟨11, .data⟩ (by simp) rfl)
              refine opIn_value (i := 12) rfl (wantedOn (j := 8) (d := 59) (b := false) rfl rfl eg) (fun c h => by cases h) ?_ ?_ (hK2 Z hS)
              · generalize a.eval = ev at *
                simp [Oper.about, resolve, Target.leads, Sem.run_pure, go_sem, e61, e62, hi, hi0]
              · have ec : ∀ v, a.eval (.const v) = v := fun _ => rfl
                generalize a.eval = ev at *
                simp [execOp, go_sem, ec, e61, e62, hi, hi0]
            · cases ho
              have eg := hag.val_ (j := 8) (t := 59) rfl (hdep ⟨8, .guard⟩ (by simp) rfl)
              have e63 := hag.val_ (j := 12) (t := 63) rfl (hdep ⟨12, .data⟩ (by simp) rfl)
              refine opIn_value (i := 13) rfl (wantedOn (j := 8) (d := 59) (b := false) rfl rfl eg) (fun c h => by cases h) rfl ?_ (hK2 Z hS)
              have ec : ∀ v, a.eval (.const v) = v := fun _ => rfl
              generalize a.eval = ev at *
              simp [execOp, go_sem, ec, e63]
            · cases ho
              have eg := hag.val_ (j := 8) (t := 59) rfl (hdep ⟨8, .guard⟩ (by simp) rfl)
              have e64 := hag.val_ (j := 13) (t := 64) rfl (hdep ⟨13, .data⟩ (by simp) rfl)
              refine opIn_value (i := 14) rfl (wantedOn (j := 8) (d := 59) (b := false) rfl rfl eg) (fun c h => by cases h) rfl ?_ (hK2 Z hS)
              have ec : ∀ v, a.eval (.const v) = v := fun _ => rfl
              generalize a.eval = ev at *
              simp [execOp, go_sem, ec, e64, z7]
            · cases ho
              have eg := hag.val_ (j := 8) (t := 59) rfl (hdep ⟨8, .guard⟩ (by simp) rfl)
              have e60 := hag.val_ (j := 9) (t := 60) rfl (hdep ⟨9, .data⟩ (by simp) rfl)
              have e65 := hag.val_ (j := 14) (t := 65) rfl (hdep ⟨14, .data⟩ (by simp) rfl)
              refine opIn_callW (i := 15) (f := 20) (R := fun e w2 => e = .returned (.bool true) ∧ Below Z.heap.size Z w2) rfl (wantedOn (j := 8) (d := 59) (b := false) rfl rfl eg) rfl (fun _ _ => rfl) ?_ ?_
              · simp only [List.map_toArray, List.map_cons, List.map_nil, e60, e65]
                exact H7.out _ (below_step HB.out hS)
              · rintro e' w2 ⟨rfl, hb⟩
                exact ⟨_, rfl, hK2 w2 (hS.trans (hb.mono hS.size))⟩
            · cases ho
              have eg := hag.val_ (j := 8) (t := 59) rfl (hdep ⟨8, .guard⟩ (by simp) rfl)
              have e66 := hag.val_ (j := 15) (t := 66) rfl (hdep ⟨15, .data⟩ (by simp) rfl)
              refine opIn_value (i := 16) rfl (wantedOn (j := 8) (d := 59) (b := false) rfl rfl eg) (fun c h => by cases h) rfl ?_ (hK2 Z hS)
              have ec : ∀ v, a.eval (.const v) = v := fun _ => rfl
              generalize a.eval = ev at *
              simp [execOp, go_sem, ec, e66]
            · cases ho
              have e59 := hag.val_ (j := 8) (t := 59) rfl (hdep ⟨8, .data⟩ (by simp) rfl)
              have e67 := hag.val_ (j := 16) (t := 67) rfl (hdep ⟨16, .data⟩ (by simp) rfl)
              refine opIn_value (i := 17) rfl rfl (fun c h => by cases h) rfl ?_ (hK2 Z hS)
              have ec : ∀ v, a.eval (.const v) = v := fun _ => rfl
              generalize a.eval = ev at *
              simp [execOp, go_sem, ec, e59, e67]
          case en8 =>
            intro Z8 done hdn hS
            simp only [putTmps, dstOf, List.size_toArray, List.length_cons, List.length_nil, Nat.reduceAdd, List.getElem?_toArray, List.getElem?_cons_zero, List.getElem?_cons_succ, Option.bind_some, List.setIfInBounds_toArray, List.set_cons_zero, List.set_cons_succ]
            have HP := Lib.hid (boxed_below HP.out hS)
            have HB := Lib.hid (below_step HB.out hS)
            clear hS hdn cp x0 x3 x4 x6 x7
            gi_wp2
            gi_roundg k1
            case measure => exact Nat.lt_succ_self _
            case rel => exact ⟨i + 1, by rw [Nat.add_assoc, Nat.add_comm 1]; exact hik, by first | rw [hw] | simp [hw], HP, HB⟩
      · have hie : i = l.length := by omega
        have hib : decide ((i : Int) < (l.length : Int)) = false := by simpa using hi
        gi_wp2
        exact ⟨.bool true, by simp [results, Try.results20, go_sem], rfl, HB.out⟩
theorem cal_any (fs : List S32) (A : Option Addr) (c : Nat) (w : World) (hlc : fs.length ≤ c) (hC : Kd.C k32 w A fs.length fs) (l : List S46) (A1 : Option Addr) (c1 : Nat) (hc1 : l.length ≤ c1) (hr1 : Kd.C k46 w A1 l.length l) (hl : fs.length ≤ 1050000) (hL : (flat l).length ≤ 2000000) (hok : ∀ s, s ∈ flat l → CallOk fs s) :
    Calls Try.prog 20 #[.agg #[.slice A fs.length c], .slice A1 l.length c1] w fun e w' => e = .returned (.bool true) ∧ Below w.heap.size w w' :=
  cal_in fs A c hlc hl _ l (Nat.lt_succ_self _) w A1 c1 hC hc1 hr1 hL hok
end Go.Proofs.Ytjiacafeckokeaa.Man

-- Written by wip/xprint.py (the kit's print, run over this seat with some contracts of my own). Not trusted: Lean checks it.
namespace Go.Proofs.Ytjiacafeckokeaa.Pr
open Go.RowKit Go.Proofs.YtjiacafeckokeaaW.PrintWords Go.Proofs.YtjiacafeckokeaaW.PrintLast Go.Proofs.YtjiacafeckokeaaW.PrintMore
attribute [local go_sem] max2_int min2_int max_two min_two max_three min_three max_four min_four   -- for this text's walks alone
set_option linter.unusedVariables false
set_option linter.unusedSimpArgs false
open Classical in
noncomputable def w05_calls.f (l0_0 : List (S32)) (l1 : List (S46)) : Option (Bool) := if l0_0.length ≤ 1050000 ∧ (Man.flat l1).length ≤ 2000000 ∧ (∀ s, s ∈ Man.flat l1 → Man.CallOk l0_0 s) then some true else none
theorem w05_calls.calls (A0_0 : Option Addr) (c0_0 : Nat) (l0_0 : List (S32)) (A1 : Option Addr) (c1 : Nat) (l1 : List (S46)) (r : Bool) (w : World) (hr0_0 : Kd.C k32 w A0_0 l0_0.length l0_0) (hc0_0 : l0_0.length ≤ c0_0) (hr1 : Kd.C k46 w A1 l1.length l1) (hc1 : l1.length ≤ c1) (h : w05_calls.f l0_0 l1 = some r) :
    Calls Try.prog 20 #[.agg #[.slice A0_0 l0_0.length c0_0], .slice A1 l1.length c1] w fun e w' => e = .returned (.bool r) ∧ Below w.heap.size w w' :=
  by
  unfold w05_calls.f at h
  split at h
  · next hN =>
    cases h
    exact Man.cal_any l0_0 A0_0 c0_0 w hc0_0 hr0_0 l1 A1 c1 hc1 hr1 hN.1 hN.2.1 hN.2.2
  · cases h
end Go.Proofs.Ytjiacafeckokeaa.Pr

-- Written by wip/xprint.py (the kit's print, run over this seat with some contracts of my own). Not trusted: Lean checks it.
namespace Go.Proofs.Ytjiacafeckokeaa.Pr
open Go.RowKit Go.Proofs.YtjiacafeckokeaaW.PrintWords Go.Proofs.YtjiacafeckokeaaW.PrintLast Go.Proofs.YtjiacafeckokeaaW.PrintMore
attribute [local go_sem] max2_int min2_int max_two min_two max_three min_three max_four min_four   -- for this text's walks alone
set_option linter.unusedVariables false
set_option linter.unusedSimpArgs false
theorem binOp_leq_text_YtjiacafeckokeaaPr11 (t : TypeId) (a b : ByteArray) : binOp .leq t (.string a) (.string b) = pure (.bool (!(Op.bytesLess b.toList a.toList))) := by
  have key : ∀ x y : List UInt8, (Op.bytesLess x y || x == y) = !(Op.bytesLess y x) := by
    intro x
    induction x with
    | nil => intro y; cases y <;> simp [Op.bytesLess]
    | cons p x ih =>
      intro y
      cases y with
      | nil => simp [Op.bytesLess]
      | cons q y =>
        simp only [Op.bytesLess]
        rcases Nat.lt_trichotomy p.toNat q.toNat with h | h | h
        · have h1 : p < q := UInt8.lt_iff_toNat_lt.2 h
          have h2 : ¬ q < p := fun e => by have := UInt8.lt_iff_toNat_lt.1 e; omega
          have h3 : ¬ q = p := fun e => by rw [e] at h; omega
          simp [h1, h2, h3]
        · obtain rfl : p = q := UInt8.toNat_inj.1 h
          have h2 : ¬ p < p := fun e => by have := UInt8.lt_iff_toNat_lt.1 e; omega
          have := ih y
          simp [h2] at this ⊢
          exact this
        · have h1 : q < p := UInt8.lt_iff_toNat_lt.2 h
          have h2 : ¬ p < q := fun e => by have := UInt8.lt_iff_toNat_lt.1 e; omega
          have h3 : ¬ p = q := fun e => by rw [e] at h; omega
          simp [h1, h2, h3]
  simp [binOp, Op.stringOp, key]
attribute [local go_sem] binOp_leq_text_YtjiacafeckokeaaPr11
theorem binOp_leq_text_YtjiacafeckokeaaPr11_geq (t : TypeId) (a b : ByteArray) : binOp .geq t (.string a) (.string b) = pure (.bool (!(Op.bytesLess a.toList b.toList))) := by simp [binOp, Op.stringOp]
attribute [local go_sem] binOp_leq_text_YtjiacafeckokeaaPr11_geq
attribute [local go_sem high] eqA35
-- NOT PRINTED: function 5 (w05_ResolveBehind)
end Go.Proofs.Ytjiacafeckokeaa.Pr

namespace Go.Proofs.Ytjiacafeckokeaa.Man
open Go.RowKit Go.Proofs.Ytjiacafeckokeaa.Pr Go.Proofs.YtjiacafeckokeaaW.PrintWords
set_option linter.unusedVariables false
set_option linter.unusedSimpArgs false
theorem rcheck_ev (fs : List S32) (h : FitC fs) : Ev (fun k => resolve_Check.f k fs) (checkF fs) := ⟨0, fun k _ => by unfold resolve_Check.f; rw [if_pos h]⟩
theorem rfun_ev (fs : List S32) (h : fs.length ≤ 1050000) (nm : ByteArray) : Ev (fun k => resolve_Fun.f k fs nm) (funIx fs nm) := ⟨0, fun k _ => by unfold resolve_Fun.f; rw [if_pos h]⟩
end Go.Proofs.Ytjiacafeckokeaa.Man
