import Derived.Test.YtdifnochnmiagaaManA
import Derived.Lib.Hide
import Derived.Outline
namespace Go.Proofs.Ytdifnochnmiagaa.Man
open Go.RowKit Go.Shelf Go.Proofs.Ytdifnochnmiagaa.Pr Go.Proofs.YtdifnochnmiagaaW.PrintWords
attribute [local go_sem] Oper.semAt_some
set_option linter.unusedVariables false
set_option linter.unusedSimpArgs false

theorem flat_take_succ (l : List S36) (k : Nat) (h : k < l.length) : flat (l.take (k + 1)) = flat (l.take k) ++ (l[k] :: (flat l[k].f6 ++ flat l[k].f7)) := by
  induction l generalizing k with
  | nil => simp at h
  | cons s r ih =>
    cases k with
    | zero => simp [flat]
    | succ k => simp [flat, ih k (by simpa using h)]

theorem flat_append (a b : List S36) : flat (a ++ b) = flat a ++ flat b := by
  induction a with
  | nil => simp [flat]
  | cons s r ih => simp [flat, ih]
theorem flat_len (l : List S36) (k : Nat) (h : k < l.length) : (flat (l.take k)).length + (1 + ((flat (rd_T36 l k).f6).length + (flat (rd_T36 l k).f7).length)) ≤ (flat l).length := by
  have h1 := flat_take_succ l k h
  have h2 : flat l = flat (l.take (k + 1)) ++ flat (l.drop (k + 1)) := by rw [← flat_append, List.take_append_drop]
  have h3 : rd_T36 l k = l[k] := by simp [rd_T36, List.getD, h]
  rw [h2, h1, h3]
  simp; omega
theorem flat_mem (l : List S36) (k : Nat) (h : k < l.length) (s : S36) (hs : s ∈ rd_T36 l k :: (flat (rd_T36 l k).f6 ++ flat (rd_T36 l k).f7)) : s ∈ flat l := by
  have h1 := flat_take_succ l k h
  have h2 : flat l = flat (l.take (k + 1)) ++ flat (l.drop (k + 1)) := by rw [← flat_append, List.take_append_drop]
  have h3 : rd_T36 l k = l[k] := by simp [rd_T36, List.getD, h]
  rw [h3] at hs
  rw [h2, h1]
  exact List.mem_append_left _ (List.mem_append_right _ hs)
theorem size_mem (l : List S36) (k : Nat) (h : k < l.length) : SizeOf.sizeOf (rd_T36 l k).f6 < SizeOf.sizeOf l ∧ SizeOf.sizeOf (rd_T36 l k).f7 < SizeOf.sizeOf l := by
  have h3 : rd_T36 l k = l[k] := by simp [rd_T36, List.getD, h]
  have h4 := List.sizeOf_lt_of_mem (List.getElem_mem h)
  rw [h3]
  generalize l[k] = s at h4
  obtain ⟨f0, f1, f2, f3, f4, f5, f6, f7⟩ := s
  simp at h4
  simp; omega

theorem Kp.keep {n0 B : Nat} {bx : Option Nat} {W W' : World} (h : Kp n0 B bx W W') (hg : Good bx W) {k : Nat} {c : Array Value} {t : TypeId} (hB : B ≤ k) (hc : W.heap[k]? = some (.cells c t (0, 0))) (hne : rowOf bx W ≠ some k) :
    W'.heap[k]? = some (.cells c t (0, 0)) ∧ rowOf bx W' ≠ some k := by
  obtain ⟨g1, r1, c1⟩ := h.2 hg
  refine ⟨c1 k _ hB hc rfl hne, ?_⟩
  have hlt : k < W.heap.size := (Array.getElem?_eq_some_iff.1 hc).1
  rcases r1 with r1 | r1
  · rw [r1]; exact hne
  · intro e; have := r1 k e; omega
theorem cell_at_block {W : World} {k : Nat} {c : Array Value} {t : TypeId} (hc : W.heap[k]? = some (.cells c t (0, 0))) (j : Nat) : W.cell? ⟨k, j, none⟩ = c[j]? := by
  simp [World.cell?, hc]

theorem atF {w : World} {P : Nat → Prop} {A : Option Addr} {xs : List S36} (h : Kd.F k36 w P A xs.length xs) (k : Nat) (hk : k < xs.length) : ∃ ad A4 c4 A5 c5 A6 c6 A7 c7, A = some ad ∧ w.cell? (ad.add (k * 8)) = some (.int .i64 (rd_T36 xs k).f0) ∧
    w.cell? ⟨(ad.add (k * 8)).block, (ad.add (k * 8)).off + 1, none⟩ = some (.string (rd_T36 xs k).f1) ∧ w.cell? ⟨(ad.add (k * 8)).block, (ad.add (k * 8)).off + 2, none⟩ = some (.string (rd_T36 xs k).f2) ∧
    w.cell? ⟨(ad.add (k * 8)).block, (ad.add (k * 8)).off + 3, none⟩ = some (.string (rd_T36 xs k).f3) ∧ w.cell? ⟨(ad.add (k * 8)).block, (ad.add (k * 8)).off + 4, none⟩ = some (.slice A4 (rd_T36 xs k).f4.length c4) ∧
    w.cell? ⟨(ad.add (k * 8)).block, (ad.add (k * 8)).off + 5, none⟩ = some (.slice A5 (rd_T36 xs k).f5.length c5) ∧ w.cell? ⟨(ad.add (k * 8)).block, (ad.add (k * 8)).off + 6, none⟩ = some (.slice A6 (rd_T36 xs k).f6.length c6) ∧
    w.cell? ⟨(ad.add (k * 8)).block, (ad.add (k * 8)).off + 7, none⟩ = some (.slice A7 (rd_T36 xs k).f7.length c7) ∧ (rd_T36 xs k).f4.length ≤ c4 ∧ Kd.F k49 w P A4 (rd_T36 xs k).f4.length (rd_T36 xs k).f4 ∧
    (rd_T36 xs k).f5.length ≤ c5 ∧ Kd.F Kd.string w P A5 (rd_T36 xs k).f5.length (rd_T36 xs k).f5 ∧ (rd_T36 xs k).f6.length ≤ c6 ∧ Kd.F k36 w P A6 (rd_T36 xs k).f6.length (rd_T36 xs k).f6 ∧
    (rd_T36 xs k).f7.length ≤ c7 ∧ Kd.F k36 w P A7 (rd_T36 xs k).f7.length (rd_T36 xs k).f7 ∧
    Kd.FK k36 w P (rd_T36 xs k) [.int .i64 (rd_T36 xs k).f0, .string (rd_T36 xs k).f1, .string (rd_T36 xs k).f2, .string (rd_T36 xs k).f3, .slice A4 (rd_T36 xs k).f4.length c4, .slice A5 (rd_T36 xs k).f5.length c5, .slice A6 (rd_T36 xs k).f6.length c6, .slice A7 (rd_T36 xs k).f7.length c7] := by
  obtain ⟨ad, _, e, _⟩ := Kd.C_get (Kd.F_now h) z36 (k : Int) (by omega) (by omega)
  subst e
  have hV : Kd.V k36 36 w 0 P (.slice (some ad) xs.length xs.length) xs := Kd.V_mk (Nat.le_refl _) h
  obtain ⟨c, hcl, hFK, hcc⟩ := Kd.V_get hV z36 (k : Int) (by omega) (by omega)
  simp only [Int.toNat_natCast] at hFK hcc
  replace hcc : ∀ j u, c[j]? = some u → w.cell? (ad.add (k * 8 + j)) = some u := hcc
  replace hFK : Kd.FK k36 w P (rd_T36 xs k) c := hFK
  have hFK' := hFK
  obtain ⟨A4, c4, A5, c5, A6, c6, A7, c7, rfl, l4, g4, l5, g5, l6, g6, l7, g7⟩ := k36_openF hFK
  exact ⟨ad, A4, c4, A5, c5, A6, c6, A7, c7, rfl, hcc 0 _ rfl, by rw [← add_field _ _ 1 (by omega)]; exact hcc 1 _ rfl, by rw [← add_field _ _ 2 (by omega)]; exact hcc 2 _ rfl, by rw [← add_field _ _ 3 (by omega)]; exact hcc 3 _ rfl,
    by rw [← add_field _ _ 4 (by omega)]; exact hcc 4 _ rfl, by rw [← add_field _ _ 5 (by omega)]; exact hcc 5 _ rfl, by rw [← add_field _ _ 6 (by omega)]; exact hcc 6 _ rfl, by rw [← add_field _ _ 7 (by omega)]; exact hcc 7 _ rfl, l4, g4, l5, g5, l6, g6, l7, g7, hFK'⟩

theorem box8 (W : World) (c : Array Value) (t : TypeId) (j : Nat) (v : Value) (h : c[j]? = some v) : (W.alloc (.cells c t)).cell? ⟨W.heap.size, j, none⟩ = some v := by
  have := World.alloc_heap_new W (.cells c t)
  simp only [World.cell?, this]; simpa using h

set_option maxRecDepth 100000 in
set_option maxHeartbeats 2000000 in
theorem all_in (w : World) (P : Nat → Prop) (T : S36 → Prop) (l : Nat) (B N : Nat) (bx : Option Nat) (hn : w.heap.size ≤ B) (hb : ∀ b, bx = some b → b < B) (J Jx : List (Elt w P T) → World → Prop)
    (hY : ∀ m pre x W, J pre W → pre.length < N → YieldAt Fence.wide m Try.prog l (encE x) W fun e W' =>
      (e = .returned (.bool true) ∧ J (pre ++ [x]) W' ∧ Kp w.heap.size B bx W W') ∨ (e = .returned (.bool false) ∧ Jx (pre ++ [x]) W'))
    (hJ : ∀ pre W W', J pre W → W.grownBy W' none → J pre W') :
    ∀ (m : Nat) (xs : List S36), SizeOf.sizeOf xs < m → ∀ (n : Nat) (A : Option Addr) (c : Nat) (pre : List (Elt w P T)) (W : World), xs.length ≤ c → (∀ s, s ∈ flat xs → T s) → Kd.F k36 w P A xs.length xs → J pre W → Below w.heap.size w W → Good bx W → B ≤ W.heap.size → pre.length + (flat xs).length ≤ N →
      CallsIn Fence.wide n Try.prog 29 #[.slice A xs.length c, .func (.yield l) #[] #[]] W fun e W' =>
        (e = .returned (.bool true) ∧ ∃ es : List (Elt w P T), es.map (·.1.1) = flat xs ∧ J (pre ++ es) W' ∧ Kp w.heap.size B bx W W') ∨
        (e = .returned (.bool false) ∧ ∃ (es : List (Elt w P T)) (q : List S36), es.map (·.1.1) ++ q = flat xs ∧ Jx (pre ++ es) W') := by
  intro m
  induction m with
  | zero => intro xs h; omega
  | succ m ih =>
  intro xs hsz n A c pre W hlc hT hC hJ0 hBe hG hBW hN
  have hdd : ∀ k : Nat, (Fence.wide.depth.isSome = true → 1 ≤ k) := fun k h => by simp [Fence.wide] at h
  have hlen : xs.length ≤ 9223372036854775807 := Kd.F_max hC
  refine callsIn_of_wp Try.func29 rfl trivial ?_ rfl
  simp only [Try.ntmps29, List.size_toArray, List.length_cons, List.length_nil, Nat.reduceAdd, Nat.reduceSub, Array.replicate_succ, Array.replicate_zero, List.push_toArray, List.append_toArray, List.nil_append, List.cons_append]
  have IH := Lib.hid ih
  have HY := Lib.hid hY
  have HJ := Lib.hid hJ
  have HC := Lib.hid hC
  have HG := Lib.hid hG
  have HT := Lib.hid hT
  clear ih hY hJ hC hG hT
  gi_wp2
  gi_loopw [9] (fun i wr => ∃ (k : Nat) (es : List (Elt w P T)), k ≤ xs.length ∧ i = .int .i64 k ∧ Hid (es.map (·.1.1) = flat (xs.take k)) ∧ Hid (J (pre ++ es) wr) ∧ Hid (Kp w.heap.size B bx W wr))
    (fun i _ => xs.length - (intOf i).toNat)
  case atStart => exact ⟨0, [], Nat.zero_le _, rfl, by simp [Hid, flat], by simpa [Hid] using hJ0, Kp.refl _ _ _ _⟩
  case round =>
    obtain ⟨k, es, hk, rfl, hes, hJk, hKp⟩ := hrel
    have hle := hKp.out.1.size
    by_cases hlt : k < xs.length
    · have hfl := flat_len xs k hlt
      obtain ⟨hs6, hs7⟩ := size_mem xs k hlt
      have hel : es.length = (flat (xs.take k)).length := by rw [← hes.out]; simp
      have hbel := Lib.hid (hBe.trans hKp.out.1)
      obtain ⟨ad, A4, c4, A5, c5, A6, c6, A7, c7, e0, h0, h1, h2, h3, h4, h5, h6, h7, l4, g4, l5, g5, l6, g6, l7, g7, hK⟩ := atF HC.out k hlt
      obtain ⟨x, hx⟩ : ∃ x : Elt w P T, x = ⟨(rd_T36 xs k, _), hK, HT.out _ (flat_mem xs k hlt _ (by simp))⟩ := ⟨_, rfl⟩
      replace h0 := pw_cell_below hbel.out h0
      replace h1 := pw_cell_below hbel.out h1
      replace h2 := pw_cell_below hbel.out h2
      replace h3 := pw_cell_below hbel.out h3
      replace h4 := pw_cell_below hbel.out h4
      replace h5 := pw_cell_below hbel.out h5
      replace h6 := pw_cell_below hbel.out h6
      replace h7 := pw_cell_below hbel.out h7
      have G6 := Lib.hid g6
      have G7 := Lib.hid g7
      clear g4 g5 l4 l5 g6 g7
      subst e0
      obtain ⟨s, hs⟩ : ∃ s, s = rd_T36 xs k := ⟨_, rfl⟩
      have HX : Hid (encE x = #[.agg #[.int .i64 (rd_T36 xs k).f0, .string (rd_T36 xs k).f1, .string (rd_T36 xs k).f2, .string (rd_T36 xs k).f3, .slice A4 (rd_T36 xs k).f4.length c4, .slice A5 (rd_T36 xs k).f5.length c5, .slice A6 (rd_T36 xs k).f6.length c6, .slice A7 (rd_T36 xs k).f7.length c7]]) := by rw [hx]; rfl
      have HX1 : Hid (x.1.1 = rd_T36 xs k) := by rw [hx]; rfl
      clear hx hK
      rw [← hs] at h0 h1 h2 h3 h4 h5 h6 h7 l6 l7 hs6 hs7 hfl HX HX1 G6 G7
      have HS := Lib.hid hs
      clear hs
      have hy := HY.out (n - 1) (pre ++ es) x (wr.alloc (.cells #[.int .i64 s.f0, .string s.f1, .string s.f2, .string s.f3, .slice A4 s.f4.length c4, .slice A5 s.f5.length c5, .slice A6 s.f6.length c6, .slice A7 s.f7.length c7] 36)) (HJ.out _ _ _ hJk.out (World.grownBy_alloc _ _ _)) (by simp; omega)
      rw [HX.out] at hy
      -- what each call leaves, with what is wanted next laid beside it
      have hg0 : Good bx wr := (hKp.out.2 HG.out).1
      have hbw : ∀ b, bx = some b → b < wr.heap.size := fun b e => by have := hb b e; omega
      have hn1 : rowOf bx (wr.alloc (.cells #[.int .i64 s.f0, .string s.f1, .string s.f2, .string s.f3, .slice A4 s.f4.length c4, .slice A5 s.f5.length c5, .slice A6 s.f6.length c6, .slice A7 s.f7.length c7] 36)) ≠ some wr.heap.size := by
        rw [rowOf_alloc bx wr _ hbw]; intro e; have := hg0 _ e; omega
      have hK1 := Kp.alloc hKp.out (.cells #[.int .i64 s.f0, .string s.f1, .string s.f2, .string s.f3, .slice A4 s.f4.length c4, .slice A5 s.f5.length c5, .slice A6 s.f6.length c6, .slice A7 s.f7.length c7] 36) (by omega) hbw
      have hblk := World.alloc_heap_new wr (.cells #[.int .i64 s.f0, .string s.f1, .string s.f2, .string s.f3, .slice A4 s.f4.length c4, .slice A5 s.f5.length c5, .slice A6 s.f6.length c6, .slice A7 s.f7.length c7] 36)
      have hg1 := (hK1.2 HG.out).1
      generalize hW1 : (wr.alloc (.cells #[.int .i64 s.f0, .string s.f1, .string s.f2, .string s.f3, .slice A4 s.f4.length c4, .slice A5 s.f5.length c5, .slice A6 s.f6.length c6, .slice A7 s.f7.length c7] 36)) = W1 at hy hn1 hK1 hblk hg1
      have h7c : ∀ W3 e7, e7 = es ++ [x] → ∀ e6 : List (Elt w P T), e6.map (·.1.1) = flat s.f6 → J (pre ++ (e7 ++ e6)) W3 → Kp w.heap.size B bx W1 W3 → CallsIn Fence.wide (n - 1) Try.prog 29 #[.slice A7 s.f7.length c7, .func (.yield l) #[] #[]] W3 fun e W4 =>
          (e = .returned (.bool true) ∧ Hid (∃ es : List (Elt w P T), es.map (·.1.1) = flat (xs.take (k + 1)) ∧ J (pre ++ es) W4 ∧ Kp w.heap.size B bx W W4)) ∨
          (e = .returned (.bool false) ∧ Hid (∃ (es : List (Elt w P T)) (q : List S36), es.map (·.1.1) ++ q = flat xs ∧ Jx (pre ++ es) W4)) := by
        rintro W3 _ rfl e6 he6 hj hk3
        have hl6 : e6.length = (flat s.f6).length := by rw [← he6]; simp
        refine (IH.out s.f7 (by omega) (n - 1) A7 c7 _ W3 l7 (fun s' hs' => HT.out s' (flat_mem xs k hlt s' (by rw [← HS.out]; simp [hs']))) G7.out hj ((hBe.trans hK1.1).trans hk3.1) ((hk3.2 hg1).1) (by have := hk3.1.size; have := hK1.1.size; omega) (by simp; omega)).mono ?_
        have htk := flat_take_succ xs k hlt
        have h3 : xs[k] = s := by rw [HS.out]; simp [rd_T36, List.getD, hlt]
        rw [h3] at htk
        have hx1 : x.1.1 = s := by rw [HX1.out]
        rintro e W4 (⟨rfl, e8, he8, hj8, hk8⟩ | ⟨rfl, e8, q, he8, hj8⟩)
        · refine .inl ⟨rfl, (es ++ [x]) ++ e6 ++ e8, ?_, by simpa [List.append_assoc] using hj8, (hK1.trans hk3).trans hk8⟩
          rw [htk]; simp [hes.out, he6, he8, hx1]
        · refine .inr ⟨rfl, (es ++ [x]) ++ e6 ++ e8, q ++ flat (xs.drop (k + 1)), ?_, by simpa [List.append_assoc] using hj8⟩
          rw [show flat xs = flat (xs.take (k + 1)) ++ flat (xs.drop (k + 1)) from by rw [← flat_append, List.take_append_drop], htk, ← he8]
          simp [hes.out, he6, hx1]
      have h6c : ∀ W2, J (pre ++ es ++ [x]) W2 → Kp w.heap.size B bx W1 W2 → CallsIn Fence.wide (n - 1) Try.prog 29 #[.slice A6 s.f6.length c6, .func (.yield l) #[] #[]] W2 fun e W3 =>
          (e = .returned (.bool true) ∧ W3.cell? ⟨wr.heap.size, 7, none⟩ = some (.slice A7 s.f7.length c7) ∧ Hid (CallsIn Fence.wide (n - 1) Try.prog 29 #[.slice A7 s.f7.length c7, .func (.yield l) #[] #[]] W3 fun e W4 =>
            (e = .returned (.bool true) ∧ Hid (∃ es : List (Elt w P T), es.map (·.1.1) = flat (xs.take (k + 1)) ∧ J (pre ++ es) W4 ∧ Kp w.heap.size B bx W W4)) ∨
            (e = .returned (.bool false) ∧ Hid (∃ (es : List (Elt w P T)) (q : List S36), es.map (·.1.1) ++ q = flat xs ∧ Jx (pre ++ es) W4)))) ∨
          (e = .returned (.bool false) ∧ Hid (∃ (es : List (Elt w P T)) (q : List S36), es.map (·.1.1) ++ q = flat xs ∧ Jx (pre ++ es) W3)) := by
        intro W2 hj hk2
        obtain ⟨hb2, hr2⟩ := hk2.keep hg1 (by omega) hblk hn1
        refine (IH.out s.f6 (by omega) (n - 1) A6 c6 _ W2 l6 (fun s' hs' => HT.out s' (flat_mem xs k hlt s' (by rw [← HS.out]; simp [hs']))) G6.out hj ((hBe.trans hK1.1).trans hk2.1) ((hk2.2 hg1).1) (by have := hk2.1.size; have := hK1.1.size; omega) (by simp; omega)).mono ?_
        have htk := flat_take_succ xs k hlt
        have h3 : xs[k] = s := by rw [HS.out]; simp [rd_T36, List.getD, hlt]
        rw [h3] at htk
        have hx1 : x.1.1 = s := by rw [HX1.out]
        rintro e W3 (⟨rfl, e6, he6, hj6, hk6⟩ | ⟨rfl, e6, q, he6, hj6⟩)
        · obtain ⟨hb3, hr3⟩ := hk6.keep ((hk2.2 hg1).1) (by omega) hb2 hr2
          exact .inl ⟨rfl, by rw [cell_at_block hb3]; rfl, h7c W3 _ rfl e6 he6 (by simpa [List.append_assoc] using hj6) (hk2.trans hk6)⟩
        · refine .inr ⟨rfl, (es ++ [x]) ++ e6, q ++ (flat s.f7 ++ flat (xs.drop (k + 1))), ?_, by simpa [List.append_assoc] using hj6⟩
          rw [show flat xs = flat (xs.take (k + 1)) ++ flat (xs.drop (k + 1)) from by rw [← flat_append, List.take_append_drop], htk, ← he6]
          simp [hes.out, hx1]
      have hy2 := YieldAt.mono (R' := fun e W2 =>
          (e = .returned (.bool true) ∧ W2.cell? ⟨wr.heap.size, 6, none⟩ = some (.slice A6 s.f6.length c6) ∧ Hid (CallsIn Fence.wide (n - 1) Try.prog 29 #[.slice A6 s.f6.length c6, .func (.yield l) #[] #[]] W2 fun e W3 =>
          (e = .returned (.bool true) ∧ W3.cell? ⟨wr.heap.size, 7, none⟩ = some (.slice A7 s.f7.length c7) ∧ Hid (CallsIn Fence.wide (n - 1) Try.prog 29 #[.slice A7 s.f7.length c7, .func (.yield l) #[] #[]] W3 fun e W4 =>
            (e = .returned (.bool true) ∧ Hid (∃ es : List (Elt w P T), es.map (·.1.1) = flat (xs.take (k + 1)) ∧ J (pre ++ es) W4 ∧ Kp w.heap.size B bx W W4)) ∨
            (e = .returned (.bool false) ∧ Hid (∃ (es : List (Elt w P T)) (q : List S36), es.map (·.1.1) ++ q = flat xs ∧ Jx (pre ++ es) W4)))) ∨
          (e = .returned (.bool false) ∧ Hid (∃ (es : List (Elt w P T)) (q : List S36), es.map (·.1.1) ++ q = flat xs ∧ Jx (pre ++ es) W3)))) ∨
          (e = .returned (.bool false) ∧ Hid (∃ (es : List (Elt w P T)) (q : List S36), es.map (·.1.1) ++ q = flat xs ∧ Jx (pre ++ es) W2))) hy (fun e W2 h => by
        have htk := flat_take_succ xs k hlt
        have h3 : xs[k] = s := by rw [HS.out]; simp [rd_T36, List.getD, hlt]
        rw [h3] at htk
        have hx1 : x.1.1 = s := by rw [HX1.out]
        rcases h with ⟨rfl, hj, hk2⟩ | ⟨rfl, hj⟩
        · obtain ⟨hb2, hr2⟩ := hk2.keep hg1 (by omega) hblk hn1
          exact .inl ⟨rfl, by rw [cell_at_block hb2]; rfl, h6c W2 hj hk2⟩
        · refine .inr ⟨rfl, es ++ [x], (flat s.f6 ++ flat s.f7) ++ flat (xs.drop (k + 1)), ?_, by simpa [List.append_assoc] using hj⟩
          rw [show flat xs = flat (xs.take (k + 1)) ++ flat (xs.drop (k + 1)) from by rw [← flat_append, List.take_append_drop], htk]
          simp [hes.out, hx1])
      have h29 : Fence.wide.fn 29 := trivial
      subst hW1
      clear hy h6c h7c hblk hg1 hK1 hn1 hbw hg0
      obtain ⟨fn, tmps, assign, body, hy, hR⟩ := hy2
      gi_wp2_with (first
        | ((try refine ⟨hdd _, ?_⟩); refine hR.mono ?_; clear hR; rintro e W2 (⟨rfl, hc6, hcall6⟩ | ⟨rfl, hx2⟩))
        | ((try refine ⟨hdd _, ?_⟩); gi_at_call 29; refine hcall6.out.mono ?_; clear hcall6; rintro e W3 (⟨rfl, hc7, hcall7⟩ | ⟨rfl, hx3⟩))
        | ((try refine ⟨hdd _, ?_⟩); gi_at_call 29; refine hcall7.out.mono ?_; clear hcall7; rintro e W4 (⟨rfl, hd4⟩ | ⟨rfl, hx4⟩)))
      · go_roundw
        case rel =>
          obtain ⟨es', he', hj', hk'⟩ := hd4.out
          exact ⟨k + 1, es', by omega, by go_num, he', hj', hk'⟩
        case measure => simp [intOf]; omega
      · go_ret
        exact .inr ⟨rfl, hx4.out⟩
      · go_ret
        exact .inr ⟨rfl, hx3.out⟩
      · go_ret
        exact .inr ⟨rfl, hx2.out⟩
    · have hke : k = xs.length := by omega
      gi_wp2
      go_ret
      refine .inl ⟨rfl, es, ?_, hJk.out, hKp.out⟩
      rw [hes.out, hke, List.take_length]
end Go.Proofs.Ytdifnochnmiagaa.Man
