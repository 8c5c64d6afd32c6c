import Derived.Test.YtdifnochnmiagaaManH
namespace Go.Proofs.Ytdifnochnmiagaa.Man
open Go.RowKit Go.Shelf Go.Proofs.Ytdifnochnmiagaa.Pr Go.Proofs.YtdifnochnmiagaaW.PrintWords
attribute [local go_sem] Oper.semAt_some
set_option linter.unusedVariables false
set_option linter.unusedSimpArgs false

/-- A new row of statements that are written out. -/
theorem row_new (W : World) (P : Nat → Prop) (hP : ∀ k, W.heap.size ≤ k → P k) (es : List (Elt W P (fun _ => True))) (hn : es.length ≤ 1000) :
    Kd.N k36 36 (W.alloc (.cells (cellsOf es).toArray 36)) W.heap.size P (.slice (some ⟨W.heap.size, 0, none⟩) es.length es.length) (es.map (·.1.1)) := by
  refine Kd.N_mono (own_N (P := P) (T := fun _ => True) (w := W) (b := W.heap.size) (es := es) ?_ (Nat.le_refl _) ((Below.refl _ W).alloc (Nat.le_refl _) _)) (fun k hk => hk.elim id (hP k))
  refine ⟨cellsOf_len es, .inr ⟨W.heap.size, es.length, (cellsOf es).toArray, rfl, Nat.le_refl _, World.alloc_heap_new _ _, Nat.le_refl _, by simp [maxLen]; omega, by simp [cellsOf_len], ?_⟩⟩
  rw [← cellsOf_len]; simp
def plain (op : Int) (x : ByteArray) : S36 := ⟨op, x, ⟨#[]⟩, ⟨#[]⟩, [], [], [], []⟩
def plainC (op : Int) (x : ByteArray) : List Value := [.int .i64 op, .string x, .string ⟨#[]⟩, .string ⟨#[]⟩, .slice none 0 0, .slice none 0 0, .slice none 0 0, .slice none 0 0]
def plainE (W : World) (P : Nat → Prop) (op : Int) (x : ByteArray) : Elt W P (fun _ => True) := ⟨(plain op x, plainC op x), k36_mkF W P (plain op x) (Nat.le_refl _) (Kd.F_nil _ _ _) (Nat.le_refl _) (Kd.F_nil _ _ _) (Nat.le_refl _) (Kd.F_nil _ _ _) (Nat.le_refl _) (Kd.F_nil _ _ _), trivial⟩
theorem row_new' (W : World) (P : Nat → Prop) (hP : ∀ k, W.heap.size ≤ k → P k) (es : List (Elt W P (fun _ => True))) (hn : es.length ≤ 1000) (xs : List S36) (cs : List Value) (hx : es.map (·.1.1) = xs) (hc : cellsOf es = cs) :
    Kd.N k36 36 (W.alloc (.cells cs.toArray 36)) W.heap.size P (.slice (some ⟨W.heap.size, 0, none⟩) xs.length xs.length) xs := by
  have h := row_new W P hP es hn
  rw [hx, hc] at h
  have e : es.length = xs.length := by rw [← hx]; simp
  rw [e] at h; exact h
theorem in_any (x : ByteArray) (w : World) : Calls Try.prog 27 #[.string x] w fun e w' => e = .returned (.agg (plainC 7 x).toArray) ∧ w' = w.alloc (.cells (plainC 7 x).toArray 36) := by
  go_enter Try.func27, Try.ntmps27
  go_wp2
  refine bodyPost_ret (v := .agg (plainC 7 x).toArray) ?_ rfl ⟨rfl, rfl⟩
  simp [results, Try.results27, go_sem, plainC]
def smallL : List S36 := [⟨9, ⟨#[]⟩, ⟨#[]⟩, ⟨#[]⟩, [], [], [plain 4 ⟨#[97]⟩], [plain 7 ⟨#[98]⟩]⟩, plain 4 ⟨#[99]⟩]
def smallC (a b : Nat) : List Value := [.int .i64 9, .string ⟨#[]⟩, .string ⟨#[]⟩, .string ⟨#[]⟩, .slice none 0 0, .slice none 0 0, .slice (some ⟨a, 0, none⟩) 1 1, .slice (some ⟨b, 0, none⟩) 1 1] ++ plainC 4 ⟨#[99]⟩
def w1_ (w : World) : World := w.alloc (.cells (plainC 4 ⟨#[97]⟩).toArray 36)
def w2_ (w : World) : World := (w1_ w).alloc (.cells (plainC 7 ⟨#[98]⟩).toArray 36)
def w3_ (w : World) : World := (w2_ w).alloc (.cells (plainC 7 ⟨#[98]⟩).toArray 36)
def w4_ (w : World) : World := (w3_ w).alloc (.cells (smallC w.heap.size (w.heap.size + 1 + 1)).toArray 36)
theorem small_row (w : World) : Kd.N k36 36 (w4_ w) w.heap.size (fun k => w.heap.size ≤ k) (.slice (some ⟨w.heap.size + 1 + 1 + 1, 0, none⟩) 2 2) smallL ∧ Below w.heap.size w (w4_ w) := by
  have s1 : (w1_ w).heap.size = w.heap.size + 1 := by simp [w1_]
  have s2 : (w2_ w).heap.size = w.heap.size + 1 + 1 := by simp [w2_, s1]
  have s3 : (w3_ w).heap.size = w.heap.size + 1 + 1 + 1 := by simp [w3_, s2]
  have P1 : Kd.N k36 36 (w1_ w) w.heap.size (fun k => w.heap.size ≤ k) _ [plain 4 ⟨#[97]⟩] := row_new' w (fun k => w.heap.size ≤ k) (fun _ h => h) [plainE w _ 4 ⟨#[97]⟩] (by simp) _ (plainC 4 ⟨#[97]⟩) rfl rfl
  have P2 : Kd.N k36 36 (w3_ w) (w2_ w).heap.size (fun k => w.heap.size ≤ k) _ [plain 7 ⟨#[98]⟩] := row_new' (w2_ w) (fun k => w.heap.size ≤ k) (fun _ h => by omega) [plainE (w2_ w) _ 7 ⟨#[98]⟩] (by simp) _ (plainC 7 ⟨#[98]⟩) rfl rfl
  have F1 := Kd.N_F (show Kd.N k36 36 (w3_ w) w.heap.size (fun k => w.heap.size ≤ k) _ _ from Kd.N_alloc (Kd.N_alloc P1 _) _)
  rw [s2] at P2
  have F2 := Kd.N_F P2
  have P3 := row_new' (w3_ w) (fun k => w.heap.size ≤ k) (fun _ h => by omega) [⟨(⟨9, ⟨#[]⟩, ⟨#[]⟩, ⟨#[]⟩, [], [], [plain 4 ⟨#[97]⟩], [plain 7 ⟨#[98]⟩]⟩, _),
    k36_mkF (w3_ w) _ ⟨9, ⟨#[]⟩, ⟨#[]⟩, ⟨#[]⟩, [], [], [plain 4 ⟨#[97]⟩], [plain 7 ⟨#[98]⟩]⟩ (Nat.le_refl _) (Kd.F_nil _ _ _) (Nat.le_refl _) (Kd.F_nil _ _ _) (Nat.le_refl _) F1 (Nat.le_refl _) F2, trivial⟩, plainE (w3_ w) _ 4 ⟨#[99]⟩] (by simp) smallL (smallC w.heap.size (w.heap.size + 1 + 1)) rfl rfl
  rw [s3] at P3
  refine ⟨Kd.N_lower P3 (by omega), ?_⟩
  exact ((((Below.refl _ w).alloc (Nat.le_refl _) _).alloc (by show _ ≤ (w1_ w).heap.size; omega) _).alloc (by show _ ≤ (w2_ w).heap.size; omega) _).alloc (by show _ ≤ (w3_ w).heap.size; omega) _
theorem small_any (w : World) : Calls Try.prog 21 #[] w fun e w' => ∃ v : Value, e = .returned v ∧ Kd.N k36 36 w' w.heap.size (fun k => w.heap.size ≤ k) v smallL ∧ Below w.heap.size w w' := by
  go_enter Try.func21, Try.ntmps21
  go_wp2_with (go_at_call 27; refine (in_any _ _).mono ?_; rintro e w' ⟨rfl, rfl⟩; simp only [plainC])
  go_ret
  have h := small_row w
  simp only [w4_, w3_, w2_, w1_, smallC, plainC, List.cons_append, List.nil_append] at h
  exact ⟨_, rfl, h.1, h.2⟩
end Go.Proofs.Ytdifnochnmiagaa.Man
