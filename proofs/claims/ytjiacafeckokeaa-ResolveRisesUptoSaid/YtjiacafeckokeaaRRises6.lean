/- A part of the proof that ResolveRises returns true for every argument (the row of ResolveRisesUpto: theorem resolveRises_holds). Parts: PuY5 LawResolveRises. No conditions beyond the given statement's own. -/
import Derived.Test.YtjiacafeckokeaaRRises5
import Derived.Test.YtjiacafeckokeaaRows
import Derived.WalkKit
import Derived.ProofKit
import Derived.OpenShut
import Derived.ShutString
import Derived.ChangeOld
import Derived.Below
import Derived.SizedLaws
import Derived.JoinedCond

namespace Go.Proofs.Ytjiacafeckokeaa.Man
open Go.RowKit Go.Proofs.Ytjiacafeckokeaa.Pr Go.Proofs.YtjiacafeckokeaaW.PrintWords
set_option linter.unusedVariables false
set_option linter.unusedSimpArgs false
theorem uniqS_ext2 (xs ys : List Nm) (h : ∀ y, y ≠ [] → (y ∈ xs ↔ y ∈ ys)) : uniqS xs = uniqS ys :=
  rises_ext _ _ (uniqS_spec xs).1 (uniqS_spec ys).1 fun y => by
    rw [(uniqS_spec xs).2 y, (uniqS_spec ys).2 y]
    constructor
    · rintro ⟨a, b⟩; exact ⟨(h y b).1 a, b⟩
    · rintro ⟨a, b⟩; exact ⟨(h y b).2 a, b⟩
theorem uniqB_names (xs : List ByteArray) : (uniqB xs).map (·.data.toList) = uniqS (xs.map (·.data.toList)) := by
  unfold uniqB; rw [List.map_map]; exact List.map_id'' (fun x => by simp) _
theorem one_slice (fs : List S32) (i : Nat) (h : i < fs.length) : (fs.take (i + 1)).drop i = [rd_T32 fs (i : Int)] := by
  rw [List.take_succ_eq_append_getElem h, List.drop_append_of_le_length (by rw [List.length_take]; omega), List.drop_of_length_le (by rw [List.length_take]; omega), rdF_get h]; rfl
theorem fit_one {fs : List S32} (hfit : FitW fs) {f : S32} (hf : f ∈ fs) : FitW [f] := by
  refine ⟨⟨by simp, fun g hg => by rw [List.mem_singleton.1 hg]; exact hfit.1.2 f hf⟩, ?_⟩
  simpa [flatF] using (hfit.1.2 f hf).2.2.1
def oneP (f : S32) : List ByteArray := propsF [f]
theorem all_props (fs : List S32) : (fs.flatMap oneP).foldl withN [] = propsF fs := by
  rw [fold_uniq]
  show uniqB (fs.flatMap oneP) = uniqB ((fs.flatMap flatF).flatMap propG)
  unfold uniqB
  congr 1
  refine uniqS_ext2 _ _ fun y hy => ?_
  have h1 : ∀ f : S32, y ∈ (oneP f).map (·.data.toList) ↔ y ∈ ((flatF f).flatMap propG).map (·.data.toList) := by
    intro f
    unfold oneP propsF
    rw [uniqB_names, (uniqS_spec _).2 y]
    simp [hy]
  rw [List.flatMap_assoc, List.map_flatMap, List.map_flatMap, List.mem_flatMap, List.mem_flatMap]
  constructor
  · rintro ⟨f, hf, h⟩; exact ⟨f, hf, (h1 f).1 h⟩
  · rintro ⟨f, hf, h⟩; exact ⟨f, hf, (h1 f).2 h⟩
theorem rises_at (xs : List ByteArray) (j : Nat) (h : j + 1 < (uniqB xs).length) : Op.bytesLess ((rdOf ByteArray.empty (uniqB xs) (j : Int)).toList) ((rdOf ByteArray.empty (uniqB xs) ((j + 1 : Nat) : Int)).toList) = true := by
  have hr := (uniqS_spec (xs.map (·.data.toList))).1
  rw [← uniqB_names] at hr
  have hl : ((uniqB xs).map (·.data.toList)).length = (uniqB xs).length := List.length_map _
  have := List.pairwise_iff_getElem.1 hr j (j + 1) (by omega) (by omega) (by omega)
  rw [List.getElem_map, List.getElem_map] at this
  rw [bytesLess_eq, Lib.toList_data, Lib.toList_data]
  have e1 : rdOf ByteArray.empty (uniqB xs) (j : Int) = (uniqB xs)[j] := by unfold rdOf; rw [Int.toNat_natCast, List.getD_eq_getElem?_getD, List.getElem?_eq_getElem (by omega)]; rfl
  have e2 : rdOf ByteArray.empty (uniqB xs) ((j + 1 : Nat) : Int) = (uniqB xs)[j + 1] := by unfold rdOf; rw [Int.toNat_natCast, List.getD_eq_getElem?_getD, List.getElem?_eq_getElem h]; rfl
  rw [e1, e2]
  exact decide_eq_true this
theorem fm_le {α β γ : Type} (g : α → List β) (h : α → List γ) : ∀ L : List α, (∀ x, x ∈ L → (g x).length ≤ (h x).length) → (L.flatMap g).length ≤ (L.flatMap h).length := by
  intro L
  induction L with
  | nil => intro _; simp
  | cons x r ih =>
    intro hx
    have h1 := hx x List.mem_cons_self
    have h2 := ih (fun y hy => hx y (List.mem_cons_of_mem _ hy))
    simp only [List.flatMap_cons, List.length_append]
    omega
theorem one_cap (fs : List S32) (hfit : FitW fs) (i : Nat) : ((fs.take i).flatMap oneP).length ≤ 7000000000000 := by
  have h1 := fm_le oneP (fun f => (flatF f).flatMap propG) (fs.take i) (fun f _ => by
    unfold oneP propsF
    refine Nat.le_trans (uniqB_len _) (Nat.le_of_eq ?_)
    simp)
  refine Nat.le_trans h1 ?_
  rw [← List.flatMap_assoc]
  refine Nat.le_trans (fm_len propG 1050001 _ (fit_flat hfit.1 i)) ?_
  exact Nat.le_trans (Nat.mul_le_mul_right _ (Nat.le_trans (fm_take flatF fs i) hfit.2)) (by decide)
theorem rises_ev (fs : List S32) (hfit : FitW fs) (hlow : LowP fs) : Ev (fun k => w05_ResolveRises.f k fs) true := by
  obtain ⟨b, hb⟩ := big_ev fs hlow
  unfold w05_ResolveRises.f
  refine Ev.bind hb ?_
  cases b with
  | true => simp only [if_true, w05_fixed.f, Option.bind_some]; exact Ev.const true
  | false =>
    simp only [Bool.false_eq_true, if_false]
    suffices h : ∀ m i : Nat, i + m = fs.length → Ev (fun k => w05_ResolveRises.l0 k (((fs.take i).flatMap oneP).foldl withN []) (i : Int) fs) true by simpa using h fs.length 0 (by omega)
    intro m
    induction m with
    | zero =>
      intro i hi
      have hnl : ¬ ((i : Int) < (fs.length : Int)) := by rw [show i = fs.length from hi]; exact Int.lt_irrefl _
      refine Ev.step ?_
      simp only [w05_ResolveRises.l0, if_neg hnl, w05_fixed.f, Option.bind_some, if_true]
      rw [show i = fs.length from hi, List.take_length, all_props]
      refine Ev.bind (rprops_ev fs hfit) ?_
      exact Ev.bind (texts_refl _ (propsF_len fs hfit)) (Ev.const true)
    | succ m ih =>
      intro i hi
      have hil : i < fs.length := by omega
      have hi6 : i ≤ 1050000 := Nat.le_trans (Nat.le_of_lt hil) hfit.1.1
      have c1 : (0 : Int) ≤ (i : Int) := Int.natCast_nonneg i
      have c2 : (i : Int) < (fs.length : Int) := Int.ofNat_lt.2 hil
      have c3 : (i : Int) ≤ ((i + 1 : Nat) : Int) := Int.ofNat_le.2 (Nat.le_succ i)
      have c4 : ((i + 1 : Nat) : Int) ≤ (fs.length : Int) := Int.ofNat_le.2 hil
      have hw := pz i hi6
      have hmem := rdF_mem hil
      have hfn := hfit.1.2 _ hmem
      have hf1 := fit_one hfit hmem
      obtain ⟨acc, hacc⟩ : ∃ acc, acc = ((fs.take i).flatMap oneP).foldl withN [] := ⟨_, rfl⟩
      rw [← hacc]
      refine Ev.step ?_
      simp only [w05_ResolveRises.l0, if_pos c1, if_pos c2]
      refine Ev.bind (rvars_ev _ hfn) ?_
      have hvl := varsF_len _ hfn
      -- the last loop: With, one by one
      have hl2 : ∀ (n t : Nat) (a : List ByteArray), t + n = (oneP (rd_T32 fs (i : Int))).length → a = (((fs.take i).flatMap oneP) ++ (oneP (rd_T32 fs (i : Int))).take t).foldl withN [] → Ev (fun k => w05_ResolveRises.l2 k a (i : Int) (oneP (rd_T32 fs (i : Int))) (t : Int) fs) true := by
        have hpl : (oneP (rd_T32 fs (i : Int))).length ≤ 8000000000000 := propsF_len _ hf1
        have hnx : (fs.take (i + 1)).flatMap oneP = (fs.take i).flatMap oneP ++ oneP (rd_T32 fs (i : Int)) := by
          rw [List.take_succ_eq_append_getElem hil, List.flatMap_append, rdF_get hil]; simp
        have hfl : ∀ xs l : List ByteArray, (xs.foldl withN l).length ≤ l.length + xs.length := by
          intro xs
          induction xs with
          | nil => intro l; simp
          | cons s r ihr =>
            intro l
            rw [List.foldl_cons, List.length_cons]
            have := ihr (withN l s); have := withN_len l s; omega
        intro n
        induction n with
        | zero =>
          intro t a ht ha
          have hnl : ¬ ((t : Int) < ((oneP (rd_T32 fs (i : Int))).length : Int)) := by rw [show t = _ from ht]; exact Int.lt_irrefl _
          refine Ev.step ?_
          simp only [w05_ResolveRises.l2, if_neg hnl, hw]
          rw [ha, show t = _ from ht, List.take_length, ← hnx]
          exact ih (i + 1) (by omega)
        | succ n ihn =>
          intro t a ht ha
          have htl : t < (oneP (rd_T32 fs (i : Int))).length := by omega
          have d1 : (0 : Int) ≤ (t : Int) := Int.natCast_nonneg t
          have d2 : (t : Int) < ((oneP (rd_T32 fs (i : Int))).length : Int) := Int.ofNat_lt.2 htl
          have hwt := pzL t (Nat.le_trans (Nat.le_of_lt htl) hpl)
          obtain ⟨_, htk⟩ := drop_str _ t htl
          refine Ev.step ?_
          simp only [w05_ResolveRises.l2, if_pos d1, if_pos d2, hwt]
          refine with_bind ?_ (ihn (t + 1) _ (by omega) ?_)
          · rw [ha]
            refine Nat.le_trans (hfl _ _) ?_
            have h1 := one_cap fs hfit (i + 1)
            rw [hnx, List.length_append] at h1
            rw [List.length_append, List.length_take, List.length_nil]
            exact Nat.le_trans (by have := Nat.min_le_right t (oneP (rd_T32 fs (i : Int))).length; omega) (Nat.le_trans h1 (by decide))
          · rw [htk, ← List.append_assoc, List.foldl_append, ← ha]; rfl
      -- the names rise
      have hl1 : ∀ (n j : Nat), 1 ≤ j → j + n = max 1 (varsF (rd_T32 fs (i : Int))).length → Ev (fun k => w05_ResolveRises.l1 k acc (i : Int) (varsF (rd_T32 fs (i : Int))) (j : Int) fs) true := by
        intro n
        induction n with
        | zero =>
          intro j hj1 hj
          have hnl : ¬ ((j : Int) < ((varsF (rd_T32 fs (i : Int))).length : Int)) := by omega
          refine Ev.step ?_
          simp only [w05_ResolveRises.l1, if_neg hnl, if_pos c1, hw, if_pos c3, if_pos c4, Int.toNat_natCast]
          rw [one_slice fs i hil]
          refine Ev.bind (rprops_ev _ hf1) ?_
          exact hl2 (oneP (rd_T32 fs (i : Int))).length 0 acc (by omega) (by rw [List.take_zero, List.append_nil]; exact hacc)
        | succ n ihn =>
          intro j hj1 hj
          obtain ⟨q, rfl⟩ : ∃ q, j = q + 1 := ⟨j - 1, by omega⟩
          have hjl : q + 1 < (varsF (rd_T32 fs (i : Int))).length := by omega
          have e1 : (0 : Int) ≤ ((q + 1 : Nat) : Int) := Int.natCast_nonneg _
          have e2 : ((q + 1 : Nat) : Int) < ((varsF (rd_T32 fs (i : Int))).length : Int) := Int.ofNat_lt.2 hjl
          have e3 : (0 : Int) ≤ (q : Int) := Int.natCast_nonneg _
          have e4 : (q : Int) < ((varsF (rd_T32 fs (i : Int))).length : Int) := Int.ofNat_lt.2 (by omega)
          have hq8 : q ≤ 8000000000000 := Nat.le_trans (by omega) hvl
          have hwq := pzL (q + 1) (Nat.le_trans (Nat.le_of_lt hjl) hvl)
          have hwm : wrap64 (((q + 1 : Nat) : Int) - 1) = (q : Int) := by simp only [wrap64]; omega
          have hlt : Op.bytesLess ((rdOf ByteArray.empty (varsF (rd_T32 fs (i : Int))) (q : Int)).toList) ((rdOf ByteArray.empty (varsF (rd_T32 fs (i : Int))) ((q + 1 : Nat) : Int)).toList) = true := rises_at _ q hjl
          refine Ev.step ?_
          simp only [w05_ResolveRises.l1, if_pos e1, if_pos e2, hwm, if_pos e3, if_pos e4, hwq]
          simp only [if_pos hlt]
          exact ihn (q + 1 + 1) (by omega) (by omega)
      exact hl1 (max 1 (varsF (rd_T32 fs (i : Int))).length - 1) 1 (Nat.le_refl 1) (by omega)
end Go.Proofs.Ytjiacafeckokeaa.Man

namespace Go.Proofs.Ytjiacafeckokeaa.resolveRises
open Go.ChangeShapes Go.WideShapes Go.ChangeAt Go.RowKit Go.Proofs.Ytjiacafeckokeaa.Pr Go.Proofs.YtjiacafeckokeaaW.PrintWords
open Go.ChangeMaps (open_string shut_string)
set_option linter.unusedVariables false
theorem own : ownKnob Try.prog.godebug = none := by kernel_rfl
theorem laidOut : laidOutB Try.prog = true := by kernel_rfl
theorem walk (A0 : Option Addr) (c0 : Nat) (l0 : List S32) (hc0 : l0.length ≤ c0) (w : World) (hC0 : Kd.C k32 w A0 l0.length l0) (hP : Man.FitP l0 1048576) (hT : (l0.flatMap fun f => Man.flat f.f2).length ≤ 1048576) :
    Calls Try.prog 4 #[.agg #[.slice A0 l0.length c0]] w fun e w' => e = .returned (.bool true) ∧ Below w.heap.size w w' := by
  obtain ⟨k, e⟩ := Man.rises_ev l0 (Man.fitW_of (by decide) hP hT) (Man.lowP_of hP (by decide))
  exact w05_ResolveRises.calls k A0 c0 l0 true w hC0 hc0 (e k (Nat.le_refl _))
set_option maxRecDepth 100000 in
set_option maxHeartbeats 4000000 in
theorem lifted (os : Os) (started : os.Started) (H : Type) (enc : TypeId × Value → H) (F : Stop.Interp) :
    ReturnsInHanded {} Try.checked os 4 .any ((Rows.OpenSpec.upto Rows.resolveRisesSpec).pre6 enc Try.prog Try.f4 Rows.resolveRisesUptoRow.domain false) (((Rows.OpenSpec.upto Rows.resolveRisesSpec).at F).post enc Try.prog Try.f4 false true false false) := by
  refine returnsInHanded_of_cond (C := Try.checked) (s := (Rows.OpenSpec.upto Rows.resolveRisesSpec)) (k := Rows.uptoSmall) rfl own started (by kernel_rfl) Try.func4
    (OpenSpec.witness (enc := enc) (C := Try.checked) (s := (Rows.OpenSpec.upto Rows.resolveRisesSpec)) (k := Rows.uptoSmall) rfl false ⟨#[], #[.agg #[.slice none 0 0]], []⟩ 8 (by kernel_rfl) (by kernel_rfl) (by kernel_rfl)
      (x := ([.agg [.nil]], [], [])) (by kernel_rfl) rfl (by kernel_rfl)) ?_
  intro W base args ds gs before hval0 hW _ hk _
  have hval : ∀ (j : Nat) t v, Try.f4.params[j]? = some t → args[j]? = some v → Value.okWide Try.prog W .any base t v := hval0
  have hW' := hW
  obtain ⟨p, q, hA0, hV, rfl, hfz, hnd⟩ := hW
  have hA : DataW.TrodAll enc Try.prog W 0 (fun _ => true) true Try.f4.params.toList args.toList ds p := hA0
  rw [Try.params4] at hA hval
  obtain ⟨v0, vs0, d0, ds0, p0, q0, hargs, rfl, rfl, h0, r0⟩ := trodAll_cons hA
  obtain ⟨rfl, rfl, rfl⟩ := trodAll_nil r0
  obtain rfl : args = #[v0] := by cases args; simp_all
  obtain ⟨rfl, rfl⟩ := trodVars_none hV
  obtain ⟨cs0, rfl, hz0⟩ := okWide_struct Try.underlying24 (hval 0 24 v0 rfl rfl)
  have k0 := h0
  have lt0 : ∀ x ∈ p0, x.block < W.heap.size := by obtain ⟨m, hm⟩ := k0; exact DataW.trod_lt m _ _ _ hm
  obtain ⟨fuel0, hf0⟩ := h0
  have hbulk : Rows.uptoBulkAll ([d0] ++ []) ≤ 1048576 := of_decide_eq_true hk
  simp only [List.append_nil, Rows.uptoBulkAll] at hbulk
  obtain ⟨A0, c0, l0, hv0, hc0, hC0, hB0, hT0⟩ := Man.bridge_prog fuel0 cs0 _ _ hf0
  subst hv0
  have hP0 : Man.FitP l0 1048576 := hB0.mono (by omega)
  clear hA0 hval0
  refine (walk _ _ l0 hc0 W hC0 hP0 (Nat.le_trans hT0 (by omega))).mono fun e W' ⟨he, bel⟩ => ?_
  subst he
  exact ⟨_, rfl, _, _, _, [], _, [], hW', trodAll_mk1 (shut_bool Try.underlying4 _), (trodAll_cons_mk (Below.trod laidOut (by kernel_rfl) (of_decide_eq_true (by kernel_rfl)) k0 bel lt0) trodAll_mk0), rfl, bel.frame _, fun h => by cases h⟩
theorem proved : Rows.ResolveRisesUptoSaid :=
  OpenClaim.holds_of_cond 4 Try.f4 rfl rfl rfl rfl rfl rfl rfl ⟨rfl, rfl, rfl, rfl, rfl⟩ rfl rfl rfl rfl rfl (by kernel_rfl) Try.func4 (by kernel_rfl)
    (of_decide_eq_true (by kernel_rfl)) (by unfold Func.isWrapper; first | (rw [if_pos (by decide +kernel)]; kernel_rfl) | (rw [if_neg (by decide +kernel)]; exact ⟨rfl, rfl⟩))
    (fun os started H enc _ F => lifted os started H enc F)
end Go.Proofs.Ytjiacafeckokeaa.resolveRises
namespace Go.Proofs.Ytjiacafeckokeaa
theorem resolveRises_holds : Rows.ResolveRisesUptoSaid := resolveRises.proved
end Go.Proofs.Ytjiacafeckokeaa
