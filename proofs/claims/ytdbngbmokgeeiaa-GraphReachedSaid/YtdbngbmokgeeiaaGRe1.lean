/- A part of the proof that GraphReached returns true for every argument. Parts: Pr0 BriA Shf ManA ManB ManC MnD MnE Srt Flow Pr1. No conditions beyond the given statement's own. -/
import Derived.Test.YtdbngbmokgeeiaaProg
import Derived.Below
import Derived.Deep.Draws
import Derived.Deep.AppendLies
import Derived.Maps.AppendAt
import Derived.OwnWalk
import Derived.Laws.BytesArg
import Derived.Laws.MakeOwn
import Derived.Laws.OwnMore
import Derived.Deep.OwnRows
import Derived.Tactics
import Derived.Lib.ConvBytes
import Derived.Laws.Slices
import Derived.WalkKit
import Derived.KernelRfl
import Derived.RowKit3
import Derived.Deep.LoopGhost
import Derived.Deep.QuietTactic
import Derived.BigQuiet
import Derived.WideLaws
import Derived.Deep.DeepCutAuto
import Derived.Deep.CutBlock
import Derived.Deep.RegionHeld3
import Derived.Laws.Rows
import Derived.Lib.AppendStr
import Derived.ArgAppend
import Derived.Laws.IdiomCopy
import Derived.OrdersHeld
import Derived.Laws.BitsLemmas
import Derived.RowKit
import Derived.Test.YtdbngbmokgeeiaaWWords
import Derived.Test.YtdbngbmokgeeiaaWLast
import Derived.Test.YtdbngbmokgeeiaaWTab
import Derived.Test.YtdbngbmokgeeiaaWFour
import Derived.Test.YtdbngbmokgeeiaaWQPut
import Derived.Test.YtdbngbmokgeeiaaWApart
import Derived.Test.YtdbngbmokgeeiaaWArr
import Derived.Test.YtdbngbmokgeeiaaWZeros
import Derived.Test.YtdbngbmokgeeiaaWFoot
import Derived.Test.YtdbngbmokgeeiaaWKept
import Derived.Test.YtdbngbmokgeeiaaWShare
import Derived.Test.YtdbngbmokgeeiaaWN
import Derived.Test.YtdbngbmokgeeiaaWFootNe
import Derived.Test.YtdbngbmokgeeiaaWAt
import Derived.Test.YtdbngbmokgeeiaaWEqStruct
import Derived.Test.YtdbngbmokgeeiaaWRepsOne
import Derived.Test.YtdbngbmokgeeiaaWInv
import Derived.Test.YtdbngbmokgeeiaaWInvWords
import Derived.Test.YtdbngbmokgeeiaaWGuard
import Derived.Test.YtdbngbmokgeeiaaWNEv
import Derived.Test.YtdbngbmokgeeiaaWMore
import Derived.Test.YtdbngbmokgeeiaaRows
import Derived.Shelf.Small.Bits
import Derived.Shelf.Small.Wraps
import Derived.Shelf.Strconv.Itoa0
import Derived.Shelf.Sort.Plain
import Derived.Ground.Names2Prog
import Derived.Shelf.Slices.CompactI
import Derived.Shelf.Slices.SearchI
import Derived.Shelf.Slices.Cells
import Derived.Shelf.Slices.In.SortNone
import Derived.RangeFuncNested
import Derived.RangeFuncBound
import Derived.RangeFuncCalls
import Derived.RangeFuncLeaves
import Derived.Shelf.Abstract
import Derived.Shelf.RegionOpen
import Derived.OwnWalkIn
import Derived.TacticsInMore
import Derived.LoopNIn
import Derived.LoopIn
import Derived.Lib.Hide
import Derived.Outline
import Derived.OrdersIn

-- Written by wip/xprint.py (the kit's print, run over this seat with some contracts of my own). Not trusted: Lean checks it.
namespace Go.Proofs.Ytdbngbmokgeeiaa.Pr
open Go.RowKit Go.Proofs.YtdbngbmokgeeiaaW.PrintWords Go.Proofs.YtdbngbmokgeeiaaW.PrintLast Go.Proofs.YtdbngbmokgeeiaaW.PrintMore
attribute [local go_sem] max2_int min2_int max_two min_two max_three min_three max_four min_four   -- for this text's walks alone
set_option linter.unusedVariables false
set_option linter.unusedSimpArgs false



def errW : Option Int → Value
  | none => .nilIface
  | some c => .iface 0 (.int .i64 c)
theorem errW_none : errW none = .nilIface := rfl
theorem errW_some (c : Int) : errW (some c) = .iface 0 (.int .i64 c) := rfl

theorem info3 : (Try.prog.info? 3).map (fun i => (i.zero, i.size, i.bytes)) = some (some (.int .i64 0), 1, 8) := by kernel_rfl
theorem info32 : (Try.prog.info? 32).map (fun i => (i.zero, i.size, i.bytes)) = some (some (.slice none 0 0), 1, 24) := by kernel_rfl
theorem info55 : (Try.prog.info? 55).map (fun i => (i.zero, i.size, i.bytes)) = some (some (.agg #[(.int .i64 0), (.string ⟨#[]⟩), (.string ⟨#[]⟩), (.string ⟨#[]⟩), (.slice none 0 0), (.slice none 0 0), (.slice none 0 0), (.slice none 0 0)]), 8, 152) := by kernel_rfl
theorem info76 : (Try.prog.info? 76).map (fun i => (i.zero, i.size, i.bytes)) = some (some (.agg #[(.int .i64 0), (.string ⟨#[]⟩), (.int .i64 0)]), 3, 32) := by kernel_rfl
-- the values' own types
/-! #### struct type 76 -/
structure S76 where
  f0 : Int
  f1 : ByteArray
  f2 : Int
def z76 : S76 := ⟨(0 : Int), (⟨#[]⟩ : ByteArray), (0 : Int)⟩
def k76 : Kd S76 := Kd.iso (Kd.pair (Kd.int .i64) (Kd.pair Kd.string (Kd.int .i64))) (fun x : S76 => (x.f0, x.f1, x.f2))
theorem k76_open {w : World} {x : S76} {cs : List Value} (h : k76.K w x cs) : cs = [.int .i64 x.f0, .string x.f1, .int .i64 x.f2] := by
  obtain ⟨_, _, rfl, rfl, ⟨_, _, rfl, rfl, rfl⟩⟩ := h
  exact rfl
theorem k76_mkM (w : World) (base : Nat) (ok : Nat → Prop) (x : S76)  : k76.M w base ok x [.int .i64 x.f0, .string x.f1, .int .i64 x.f2] := ⟨[.int .i64 x.f0], [.string x.f1, .int .i64 x.f2], rfl, rfl, ⟨[.string x.f1], [.int .i64 x.f2], rfl, rfl, rfl⟩⟩
def rd_T76 (xs : List S76) (i : Int) : S76 := xs.getD i.toNat z76
theorem at_T76 {w : World} {A : Option Addr} {n : Nat} {xs : List S76} (h : Kd.C k76 w A n xs) (i : Int) (h0 : 0 ≤ i) (h1 : i < n) : ∃ ad , A = some ad ∧ w.cell? (ad.add (i.toNat * 3)) = some (.int .i64 (rd_T76 xs i).f0) ∧ w.cell? ⟨(ad.add (i.toNat * 3)).block, (ad.add (i.toNat * 3)).off + 1, none⟩ = some (.string (rd_T76 xs i).f1) ∧ w.cell? ⟨(ad.add (i.toNat * 3)).block, (ad.add (i.toNat * 3)).off + 2, none⟩ = some (.int .i64 (rd_T76 xs i).f2) := by
  obtain ⟨ad, c, e, _, hK, hc0⟩ := Kd.C_get h z76 i h0 h1
  have hc : ∀ j u, c[j]? = some u → w.cell? (ad.add (i.toNat * 3 + j)) = some u := hc0
  obtain rfl := k76_open hK
  exact ⟨ad, e, hc 0 _ rfl, by rw [← add_field _ _ 1 (by omega)]; exact hc 1 _ rfl, by rw [← add_field _ _ 2 (by omega)]; exact hc 2 _ rfl⟩

/-! #### struct type 114 -/
structure S114 where
  f0 : Int
  f1 : Int
  f2 : ByteArray
def k114 : Kd S114 := Kd.iso (Kd.pair (Kd.int .i64) (Kd.pair (Kd.int .i64) Kd.string)) (fun x : S114 => (x.f0, x.f1, x.f2))
theorem k114_heap : Kd.Heap k114 := Kd.heap_iso _ (Kd.heap_pair (Kd.heap_int .i64) (Kd.heap_pair (Kd.heap_int .i64) Kd.heap_string))
/-! #### struct type 55, nested in itself -/
structure S55 where
  f0 : Int
  f1 : ByteArray
  f2 : ByteArray
  f3 : ByteArray
  f4 : (List S114)
  f5 : (List ByteArray)
  f6 : (List S55)
  f7 : (List S55)
def z55 : S55 := ⟨(0 : Int), (⟨#[]⟩ : ByteArray), (⟨#[]⟩ : ByteArray), (⟨#[]⟩ : ByteArray), ([] : List S114), ([] : List ByteArray), ([] : List S55), ([] : List S55)⟩
def F55 (d : Kd S55) : Kd S55 := Kd.iso (Kd.pair (Kd.int .i64) (Kd.pair Kd.string (Kd.pair Kd.string (Kd.pair Kd.string (Kd.pair (Kd.slice 114 k114) (Kd.pair (Kd.slice 9 Kd.string) (Kd.pair (Kd.slice 55 d) (Kd.slice 55 d)))))))) (fun x : S55 => (x.f0, x.f1, x.f2, x.f3, x.f4, x.f5, x.f6, x.f7))
theorem mono55 : Kd.Mono F55 := Kd.mono_iso _ (Kd.mono_pair (Kd.mono_const _) (Kd.mono_pair (Kd.mono_const _) (Kd.mono_pair (Kd.mono_const _) (Kd.mono_pair (Kd.mono_const _) (Kd.mono_pair (Kd.mono_const _) (Kd.mono_pair (Kd.mono_const _) (Kd.mono_pair (Kd.mono_slice 55 Kd.mono_id) (Kd.mono_slice 55 Kd.mono_id))))))))
theorem sub55 : Kd.Sub F55 [9, 55, 114] := Kd.sub_iso _ (Kd.sub_pair (Kd.sub_const _ (by decide)) (Kd.sub_pair (Kd.sub_const _ (by decide)) (Kd.sub_pair (Kd.sub_const _ (by decide)) (Kd.sub_pair (Kd.sub_const _ (by decide)) (Kd.sub_pair (Kd.sub_const _ (by decide)) (Kd.sub_pair (Kd.sub_const _ (by decide)) (Kd.sub_pair (Kd.sub_slice 55 (by decide) Kd.sub_id) (Kd.sub_slice 55 (by decide) Kd.sub_id))))))))
theorem sz55 : ∀ n, (Kd.upto F55 8 [9, 55, 114] n).sz = 8 := Kd.upto_sz (fun _ => rfl)
def k55 : Kd S55 := Kd.fix F55 8 [9, 55, 114] sz55 (Kd.upto_E sub55)
theorem k55_heap : Kd.Heap k55 := Kd.heap_fix (fun _ h_ => Kd.heap_iso _ (Kd.heap_pair (Kd.heap_int .i64) (Kd.heap_pair Kd.heap_string (Kd.heap_pair Kd.heap_string (Kd.heap_pair Kd.heap_string (Kd.heap_pair (Kd.heap_slice 114 k114_heap) (Kd.heap_pair (Kd.heap_slice 9 Kd.heap_string) (Kd.heap_pair (Kd.heap_slice 55 h_) (Kd.heap_slice 55 h_)))))))))
theorem k55_open {w : World} {x : S55} {cs : List Value} (h : k55.K w x cs) : ∃ A4 c4 A5 c5 A6 c6 A7 c7, cs = [.int .i64 x.f0, .string x.f1, .string x.f2, .string x.f3, .slice A4 x.f4.length c4, .slice A5 x.f5.length c5, .slice A6 x.f6.length c6, .slice A7 x.f7.length c7] ∧ x.f4.length ≤ c4 ∧ k114.C w A4 x.f4.length x.f4 ∧ x.f5.length ≤ c5 ∧ Kd.string.C w A5 x.f5.length x.f5 ∧ x.f6.length ≤ c6 ∧ k55.C w A6 x.f6.length x.f6 ∧ x.f7.length ≤ c7 ∧ k55.C w A7 x.f7.length x.f7 := by
  obtain ⟨n, h⟩ := h
  cases n with
  | zero => exact h.elim
  | succ n =>
    obtain ⟨_, _, rfl, rfl, ⟨_, _, rfl, rfl, ⟨_, _, rfl, rfl, ⟨_, _, rfl, rfl, ⟨_, _, rfl, ⟨A4, c4, rfl, l4, g4⟩, ⟨_, _, rfl, ⟨A5, c5, rfl, l5, g5⟩, ⟨_, _, rfl, ⟨A6, c6, rfl, l6, g6⟩, ⟨A7, c7, rfl, l7, g7⟩⟩⟩⟩⟩⟩⟩⟩ := h
    exact ⟨A4, c4, A5, c5, A6, c6, A7, c7, rfl, l4, g4, l5, g5, l6, Kd.fix_C g6, l7, Kd.fix_C g7⟩
theorem k55_mk (w : World) (x : S55) {A4 : Option Addr} {c4 : Nat} (l4 : x.f4.length ≤ c4) (g4 : k114.C w A4 x.f4.length x.f4) {A5 : Option Addr} {c5 : Nat} (l5 : x.f5.length ≤ c5) (g5 : Kd.string.C w A5 x.f5.length x.f5) {A6 : Option Addr} {c6 : Nat} (l6 : x.f6.length ≤ c6) (g6 : k55.C w A6 x.f6.length x.f6) {A7 : Option Addr} {c7 : Nat} (l7 : x.f7.length ≤ c7) (g7 : k55.C w A7 x.f7.length x.f7) : k55.K w x [.int .i64 x.f0, .string x.f1, .string x.f2, .string x.f3, .slice A4 x.f4.length c4, .slice A5 x.f5.length c5, .slice A6 x.f6.length c6, .slice A7 x.f7.length c7] := by
  obtain ⟨n6, q6⟩ := Kd.fix_C_back mono55 g6
  obtain ⟨n7, q7⟩ := Kd.fix_C_back mono55 g7
  have r6 := Kd.upto_C_le mono55 sz55 (show n6 ≤ (max n6 n7) by omega) q6
  have r7 := Kd.upto_C_le mono55 sz55 (show n7 ≤ (max n6 n7) by omega) q7
  exact ⟨(max n6 n7) + 1, ⟨[.int .i64 x.f0], [.string x.f1, .string x.f2, .string x.f3, .slice A4 x.f4.length c4, .slice A5 x.f5.length c5, .slice A6 x.f6.length c6, .slice A7 x.f7.length c7], rfl, rfl, ⟨[.string x.f1], [.string x.f2, .string x.f3, .slice A4 x.f4.length c4, .slice A5 x.f5.length c5, .slice A6 x.f6.length c6, .slice A7 x.f7.length c7], rfl, rfl, ⟨[.string x.f2], [.string x.f3, .slice A4 x.f4.length c4, .slice A5 x.f5.length c5, .slice A6 x.f6.length c6, .slice A7 x.f7.length c7], rfl, rfl, ⟨[.string x.f3], [.slice A4 x.f4.length c4, .slice A5 x.f5.length c5, .slice A6 x.f6.length c6, .slice A7 x.f7.length c7], rfl, rfl, ⟨[.slice A4 x.f4.length c4], [.slice A5 x.f5.length c5, .slice A6 x.f6.length c6, .slice A7 x.f7.length c7], rfl, ⟨A4, c4, rfl, l4, g4⟩, ⟨[.slice A5 x.f5.length c5], [.slice A6 x.f6.length c6, .slice A7 x.f7.length c7], rfl, ⟨A5, c5, rfl, l5, g5⟩, ⟨[.slice A6 x.f6.length c6], [.slice A7 x.f7.length c7], rfl, ⟨A6, c6, rfl, l6, r6⟩, ⟨A7, c7, rfl, l7, r7⟩⟩⟩⟩⟩⟩⟩⟩⟩
theorem k55_openF {W : World} {ok : Nat → Prop} {x : S55} {cs : List Value} (h : Kd.FK k55 W ok x cs) : ∃ A4 c4 A5 c5 A6 c6 A7 c7, cs = [.int .i64 x.f0, .string x.f1, .string x.f2, .string x.f3, .slice A4 x.f4.length c4, .slice A5 x.f5.length c5, .slice A6 x.f6.length c6, .slice A7 x.f7.length c7] ∧ x.f4.length ≤ c4 ∧ Kd.F k114 W ok A4 x.f4.length x.f4 ∧ x.f5.length ≤ c5 ∧ Kd.F Kd.string W ok A5 x.f5.length x.f5 ∧ x.f6.length ≤ c6 ∧ Kd.F k55 W ok A6 x.f6.length x.f6 ∧ x.f7.length ≤ c7 ∧ Kd.F k55 W ok A7 x.f7.length x.f7 := by
  obtain ⟨A4, c4, A5, c5, A6, c6, A7, c7, rfl, l4, _, l5, _, l6, _, l7, _⟩ := k55_open (Kd.FK_now h)
  exact ⟨A4, c4, A5, c5, A6, c6, A7, c7, rfl, l4, (fun W' hW => by obtain ⟨A4_, c4_, A5_, c5_, A6_, c6_, A7_, c7_, he, l4_, g4_, l5_, g5_, l6_, g6_, l7_, g7_⟩ := k55_open (h W' hW); injection (Option.some.inj (show some (Value.slice A4 x.f4.length c4) = some (Value.slice A4_ x.f4.length c4_) from congrArg (fun l => l[4]?) he)) with ha_ _ _; rw [ha_]; exact g4_), l5, (fun W' hW => by obtain ⟨A4_, c4_, A5_, c5_, A6_, c6_, A7_, c7_, he, l4_, g4_, l5_, g5_, l6_, g6_, l7_, g7_⟩ := k55_open (h W' hW); injection (Option.some.inj (show some (Value.slice A5 x.f5.length c5) = some (Value.slice A5_ x.f5.length c5_) from congrArg (fun l => l[5]?) he)) with ha_ _ _; rw [ha_]; exact g5_), l6, (fun W' hW => by obtain ⟨A4_, c4_, A5_, c5_, A6_, c6_, A7_, c7_, he, l4_, g4_, l5_, g5_, l6_, g6_, l7_, g7_⟩ := k55_open (h W' hW); injection (Option.some.inj (show some (Value.slice A6 x.f6.length c6) = some (Value.slice A6_ x.f6.length c6_) from congrArg (fun l => l[6]?) he)) with ha_ _ _; rw [ha_]; exact g6_), l7, (fun W' hW => by obtain ⟨A4_, c4_, A5_, c5_, A6_, c6_, A7_, c7_, he, l4_, g4_, l5_, g5_, l6_, g6_, l7_, g7_⟩ := k55_open (h W' hW); injection (Option.some.inj (show some (Value.slice A7 x.f7.length c7) = some (Value.slice A7_ x.f7.length c7_) from congrArg (fun l => l[7]?) he)) with ha_ _ _; rw [ha_]; exact g7_)⟩
theorem k55_mkF (W : World) (ok : Nat → Prop) (x : S55) {A4 : Option Addr} {c4 : Nat} (l4 : x.f4.length ≤ c4) (g4 : Kd.F k114 W ok A4 x.f4.length x.f4) {A5 : Option Addr} {c5 : Nat} (l5 : x.f5.length ≤ c5) (g5 : Kd.F Kd.string W ok A5 x.f5.length x.f5) {A6 : Option Addr} {c6 : Nat} (l6 : x.f6.length ≤ c6) (g6 : Kd.F k55 W ok A6 x.f6.length x.f6) {A7 : Option Addr} {c7 : Nat} (l7 : x.f7.length ≤ c7) (g7 : Kd.F k55 W ok A7 x.f7.length x.f7) : Kd.FK k55 W ok x [.int .i64 x.f0, .string x.f1, .string x.f2, .string x.f3, .slice A4 x.f4.length c4, .slice A5 x.f5.length c5, .slice A6 x.f6.length c6, .slice A7 x.f7.length c7] := fun W2 hW => k55_mk W2 x l4 (g4 W2 hW) l5 (g5 W2 hW) l6 (g6 W2 hW) l7 (g7 W2 hW)
def rd_T55 (xs : List S55) (i : Int) : S55 := xs.getD i.toNat z55
/-! #### struct type 42 -/
structure S42 where
  f0 : ByteArray
  f1 : (List ByteArray)
  f2 : (List S55)
def z42 : S42 := ⟨(⟨#[]⟩ : ByteArray), ([] : List ByteArray), ([] : List S55)⟩
def k42 : Kd S42 := Kd.iso (Kd.pair Kd.string (Kd.pair (Kd.slice 9 Kd.string) (Kd.slice 55 k55))) (fun x : S42 => (x.f0, x.f1, x.f2))
theorem k42_open {w : World} {x : S42} {cs : List Value} (h : k42.K w x cs) : ∃ A1 c1 A2 c2, cs = [.string x.f0, .slice A1 x.f1.length c1, .slice A2 x.f2.length c2] ∧ x.f1.length ≤ c1 ∧ Kd.string.C w A1 x.f1.length x.f1 ∧ x.f2.length ≤ c2 ∧ k55.C w A2 x.f2.length x.f2 := by
  obtain ⟨_, _, rfl, rfl, ⟨_, _, rfl, ⟨A1, c1, rfl, l1, g1⟩, ⟨A2, c2, rfl, l2, g2⟩⟩⟩ := h
  exact ⟨A1, c1, A2, c2, rfl, l1, g1, l2, g2⟩
theorem k42_mk (w : World) (x : S42) {A1 : Option Addr} {c1 : Nat} (l1 : x.f1.length ≤ c1) (g1 : Kd.string.C w A1 x.f1.length x.f1) {A2 : Option Addr} {c2 : Nat} (l2 : x.f2.length ≤ c2) (g2 : k55.C w A2 x.f2.length x.f2) : k42.K w x [.string x.f0, .slice A1 x.f1.length c1, .slice A2 x.f2.length c2] := ⟨[.string x.f0], [.slice A1 x.f1.length c1, .slice A2 x.f2.length c2], rfl, rfl, ⟨[.slice A1 x.f1.length c1], [.slice A2 x.f2.length c2], rfl, ⟨A1, c1, rfl, l1, g1⟩, ⟨A2, c2, rfl, l2, g2⟩⟩⟩
theorem k42_mkF (W : World) (ok : Nat → Prop) (x : S42) {A1 : Option Addr} {c1 : Nat} (l1 : x.f1.length ≤ c1) (g1 : Kd.F Kd.string W ok A1 x.f1.length x.f1) {A2 : Option Addr} {c2 : Nat} (l2 : x.f2.length ≤ c2) (g2 : Kd.F k55 W ok A2 x.f2.length x.f2) : Kd.FK k42 W ok x [.string x.f0, .slice A1 x.f1.length c1, .slice A2 x.f2.length c2] := fun W2 hW => k42_mk W2 x l1 (g1 W2 hW) l2 (g2 W2 hW)
def rd_T42 (xs : List S42) (i : Int) : S42 := xs.getD i.toNat z42
theorem at_T42 {w : World} {A : Option Addr} {n : Nat} {xs : List S42} (h : Kd.C k42 w A n xs) (i : Int) (h0 : 0 ≤ i) (h1 : i < n) : ∃ ad A1 c1 A2 c2, A = some ad ∧ w.cell? (ad.add (i.toNat * 3)) = some (.string (rd_T42 xs i).f0) ∧ w.cell? ⟨(ad.add (i.toNat * 3)).block, (ad.add (i.toNat * 3)).off + 1, none⟩ = some (.slice A1 (rd_T42 xs i).f1.length c1) ∧ w.cell? ⟨(ad.add (i.toNat * 3)).block, (ad.add (i.toNat * 3)).off + 2, none⟩ = some (.slice A2 (rd_T42 xs i).f2.length c2) ∧ (rd_T42 xs i).f1.length ≤ c1 ∧ Kd.string.C w A1 (rd_T42 xs i).f1.length (rd_T42 xs i).f1 ∧ (rd_T42 xs i).f2.length ≤ c2 ∧ k55.C w A2 (rd_T42 xs i).f2.length (rd_T42 xs i).f2 := by
  obtain ⟨ad, c, e, _, hK, hc0⟩ := Kd.C_get h z42 i h0 h1
  have hc : ∀ j u, c[j]? = some u → w.cell? (ad.add (i.toNat * 3 + j)) = some u := hc0
  obtain ⟨A1, c1, A2, c2, rfl, l1, g1, l2, g2⟩ := k42_open hK
  exact ⟨ad, A1, c1, A2, c2, e, hc 0 _ rfl, by rw [← add_field _ _ 1 (by omega)]; exact hc 1 _ rfl, by rw [← add_field _ _ 2 (by omega)]; exact hc 2 _ rfl, l1, g1, l2, g2⟩

def rd_L9 (xs : List (List Int)) (i : Int) : (List Int) := xs.getD i.toNat ([] : List Int)
theorem at_L9 {w : World} {A : Option Addr} {n : Nat} {xs : List (List Int)} (h : Kd.C (Kd.slice 3 (Kd.int .i64)) w A n xs) (i : Int) (h0 : 0 ≤ i) (h1 : i < n) : ∃ ad A0 c0, A = some ad ∧ w.cell? (ad.add i.toNat) = some (.slice A0 (rd_L9 xs i).length c0) ∧ (rd_L9 xs i).length ≤ c0 ∧ (Kd.int .i64).C w A0 (rd_L9 xs i).length (rd_L9 xs i) := by
  obtain ⟨ad, c, e, _, hK, hc0⟩ := Kd.C_get h ([] : List Int) i h0 h1
  have hc : ∀ j u, c[j]? = some u → w.cell? (ad.add (i.toNat * 1 + j)) = some u := hc0
  obtain ⟨A0, c0, rfl, l0, g0⟩ := hK
  exact ⟨ad, A0, c0, e, by have hq := hc 0 _ rfl; rwa [Nat.mul_one, Nat.add_zero] at hq, l0, g0⟩

end Go.Proofs.Ytdbngbmokgeeiaa.Pr

namespace Go.Proofs.Ytdbngbmokgeeiaa.Man
open Go.RowKit Go.Proofs.Ytdbngbmokgeeiaa.Pr Go.Proofs.YtdbngbmokgeeiaaW.PrintWords
set_option maxRecDepth 100000
set_option linter.unusedVariables false
set_option linter.unusedSimpArgs false

/-! ### What is read of an argument: a value of a kind, and its bulk -/
theorem mapM_get {α β : Type} (f : α → Option β) : ∀ (l : List α) (r : List β), l.mapM f = some r → r.length = l.length ∧ ∀ (i : Nat) a, l[i]? = some a → ∃ b, r[i]? = some b ∧ f a = some b := by
  intro l
  induction l with
  | nil => intro r h; simp at h; subst h; exact ⟨rfl, fun i a h => by simp at h⟩
  | cons x l ih =>
    intro r h
    simp only [List.mapM_cons, Option.bind_eq_bind, Option.bind_eq_some_iff, Option.pure_def, Option.some.injEq] at h
    obtain ⟨b, hb, r', hr', rfl⟩ := h
    obtain ⟨h1, h2⟩ := ih r' hr'
    refine ⟨by simp [h1], fun i a ha => ?_⟩
    cases i with
    | zero => simp at ha; subst ha; exact ⟨b, rfl, hb⟩
    | succ i => simpa using h2 i a (by simpa using ha)
theorem cells_get {w : World} {b n : Nat} {a : Addr} {c : List Value} (h : w.cells? b a n = some c) : c.length = n ∧ ∀ (i : Nat) u, c[i]? = some u → w.cell? (a.add i) = some u := by
  unfold World.cells? at h
  split at h
  · obtain ⟨h1, h2⟩ := mapM_get _ _ _ h
    rw [List.length_range] at h1
    refine ⟨h1, fun i u hu => ?_⟩
    have hi : i < n := by rw [← h1]; exact (List.getElem?_eq_some_iff.1 hu).1
    obtain ⟨b, hb, hf⟩ := h2 i i (by simp [hi])
    rw [hu] at hb; cases hb; exact hf
  · cases h
theorem addr_add (a : Addr) (i j : Nat) : a.add (i + j) = (a.add i).add j := by
  unfold Addr.add
  by_cases h1 : i = 0
  · subst h1; simp
  · by_cases h2 : j = 0
    · subst h2; simp [h1]
    · simp [h1, h2, Nat.add_assoc]
theorem bridge_slice {H : Type} {enc : TypeId × Value → H} {w : World} {α : Type} {t e : TypeId} (hu : Try.prog.underlying t = some (.slice e)) (d : Kd α) (z : α) (hsz : Try.prog.cellsOf e = d.sz) (Q : α → Nat → Prop) (fuel : Nat) {held : Bool} {sp : Nat → Bool}
    (hE : ∀ cs (D : DataW H) ps, DataW.trod enc Try.prog w 0 sp held fuel e cs = some (D, ps) → ∃ x, d.K w x cs ∧ Q x (Rows.uptoBulk D)) (cs : List Value) (D : DataW H) (ps : List MemPlace)
    (h : DataW.trod enc Try.prog w 0 sp held (fuel + 1) t cs = some (D, ps)) :
    ∃ (A : Option Addr) (c : Nat) (xs : List α) (Ds : List (DataW H)), cs = [.slice A xs.length c] ∧ xs.length ≤ c ∧ d.C w A xs.length xs ∧ Rows.uptoBulkAll Ds + 1 ≤ Rows.uptoBulk D ∧ xs.length = Ds.length ∧ ∀ (i : Nat) x D', xs[i]? = some x → Ds[i]? = some D' → Q x (Rows.uptoBulk D') := by
  unfold DataW.trod at h
  rw [hu] at h
  split at h <;> rename_i he
  all_goals first | (cases he; done) | skip
  · -- nil
    cases h
    exact ⟨none, 0, [], [], rfl, Nat.le_refl _, Kd.C_nil _ _, by simp [Rows.uptoBulkAll, Rows.uptoBulk], rfl, fun i x D' hx => by simp at hx⟩
  · rename_i e2 a len cap
    cases he
    dsimp only at h
    split at h
    · rename_i hc
      simp only [Option.bind_eq_some_iff, Option.map_eq_some_iff] at h
      obtain ⟨els, hels, rest, _, hD⟩ := h
      simp only [Prod.mk.injEq] at hD
      obtain ⟨rfl, _⟩ := hD
      obtain ⟨hl, hg⟩ := mapM_get _ _ _ hels
      rw [List.length_range] at hl
      have hx : ∀ i, i < len → ∃ cs, cs.length = d.sz ∧ (∀ (j : Nat) u, cs[j]? = some u → w.cell? ((a.add (i * d.sz)).add j) = some u) ∧ ∃ x, d.K w x cs ∧ ∀ q, els[i]? = some q → Q x (Rows.uptoBulk q.1) := by
        intro i hi
        obtain ⟨q, hq, hf⟩ := hg i i (by simp [hi])
        simp only [Option.bind_eq_some_iff] at hf
        obtain ⟨cs, hcs, ht⟩ := hf
        obtain ⟨h1, h2⟩ := cells_get hcs
        obtain ⟨x, hK, hQ⟩ := hE cs q.1 q.2 ht
        rw [hsz] at h1 h2
        exact ⟨cs, h1, h2, x, hK, fun q' hq' => by rw [hq] at hq'; cases hq'; exact hQ⟩
      have hch : ∃ f : Nat → α, ∀ i, i < len → ∃ cs, cs.length = d.sz ∧ (∀ (j : Nat) u, cs[j]? = some u → w.cell? ((a.add (i * d.sz)).add j) = some u) ∧ d.K w (f i) cs ∧ ∀ q, els[i]? = some q → Q (f i) (Rows.uptoBulk q.1) := by
        refine ⟨fun i => if hi : i < len then Classical.choose (Classical.choose_spec (hx i hi)).2.2 else z, fun i hi => ?_⟩
        have hs := Classical.choose_spec (hx i hi)
        refine ⟨Classical.choose (hx i hi), hs.1, hs.2.1, ?_⟩
        simp only [dif_pos hi]
        exact Classical.choose_spec hs.2.2
      obtain ⟨f, hf⟩ := hch
      refine ⟨some a, cap, (List.range len).map f, els.map (·.1), by simp, by simp; exact hc.2.1, ⟨rfl, ?_, fun _ => ⟨a, rfl, fun j p hj => ?_⟩⟩, ?_, by simp [hl], fun i x D' hi hD' => ?_⟩
      · have := hc.2.2; simp [maxLen] at this ⊢; omega
      · simp only [List.getElem?_map, Option.map_eq_some_iff] at hj
        obtain ⟨j', hj', rfl⟩ := hj
        obtain ⟨h1, h2⟩ := List.getElem?_eq_some_iff.1 hj'
        simp at h1 h2; subst h2
        obtain ⟨cs, c1, c2, c3, _⟩ := hf j h1
        refine ⟨cs, c1, c3, fun i u hu => ?_⟩
        rw [← c2 i u hu]
        congr 1
        exact addr_add a _ _
      · simp only [Rows.uptoBulk]; omega
      · simp only [List.getElem?_map, Option.map_eq_some_iff] at hi hD'
        obtain ⟨i', hi', rfl⟩ := hi
        obtain ⟨q, hq, rfl⟩ := hD'
        obtain ⟨h1, h2⟩ := List.getElem?_eq_some_iff.1 hi'
        simp at h1 h2; subst h2
        obtain ⟨cs, c1, c2, c3, c4⟩ := hf i h1
        exact c4 q hq
    · cases h
  all_goals first | (cases h; done) | skip
theorem bridge_int {H : Type} {enc : TypeId × Value → H} {w : World} {t : TypeId} {k : IntKind} (hu : Try.prog.underlying t = some (.int k)) {held : Bool} {sp : Nat → Bool} (fuel : Nat) (cs : List Value) (D : DataW H) (ps : List MemPlace)
    (h : DataW.trod enc Try.prog w 0 sp held fuel t cs = some (D, ps)) : ∃ n, cs = [.int k n] := by
  cases fuel with
  | zero => cases h
  | succ fuel =>
  unfold DataW.trod at h
  rw [hu] at h
  split at h <;> rename_i he
  all_goals first | (cases he; done) | skip
  · rename_i k2 k3 n
    cases he
    split at h
    · rename_i hk; exact ⟨n, by rw [hk.1]⟩
    · cases h
  all_goals first | (cases h; done) | skip
theorem cellsT_int1 : Try.prog.cellsOf 3 = 1 := by kernel_rfl
theorem bridge_int1 {H : Type} {enc : TypeId × Value → H} {w : World} {held : Bool} {sp : Nat → Bool} (fuel : Nat) (cs : List Value) (D : DataW H) (ps : List MemPlace)
    (h : DataW.trod enc Try.prog w 0 sp held fuel 3 cs = some (D, ps)) : ∃ n, (Kd.int .i64).K w n cs ∧ True := by
  obtain ⟨n, rfl⟩ := bridge_int Try.underlying3 _ _ _ _ h
  exact ⟨n, rfl, trivial⟩
theorem cellsT_ints1 : Try.prog.cellsOf 32 = 1 := by kernel_rfl
theorem bridge_ints {H : Type} {enc : TypeId × Value → H} {w : World} {held : Bool} {sp : Nat → Bool} (fuel : Nat) (cs : List Value) (D : DataW H) (ps : List MemPlace)
    (h : DataW.trod enc Try.prog w 0 sp held fuel 32 cs = some (D, ps)) : ∃ l, (Kd.slice 3 (Kd.int .i64)).K w l cs ∧ True := by
  cases fuel with
  | zero => cases h
  | succ fuel =>
  obtain ⟨A, c, l, Ds, e, m, q, _⟩ := bridge_slice Try.underlying32 (Kd.int .i64) (0 : Int) cellsT_int1 (fun _ _ => True) fuel (fun cs D ps h => bridge_int1 fuel cs D ps h) _ _ _ h
  exact ⟨l, ⟨A, c, e, m, q⟩, trivial⟩
theorem bridge_graph {H : Type} {enc : TypeId × Value → H} {w : World} {held : Bool} {sp : Nat → Bool} (fuel : Nat) (cs : List Value) (D : DataW H) (ps : List MemPlace)
    (h : DataW.trod enc Try.prog w 0 sp held fuel 27 cs = some (D, ps)) : ∃ A c l, cs = [.slice A l.length c] ∧ l.length ≤ c ∧ Kd.C (Kd.slice 3 (Kd.int .i64)) w A l.length l := by
  cases fuel with
  | zero => cases h
  | succ fuel =>
  obtain ⟨A, c, l, Ds, e, m, q, _⟩ := bridge_slice Try.underlying27 (Kd.slice 3 (Kd.int .i64)) ([] : List Int) cellsT_ints1 (fun _ _ => True) fuel (fun cs D ps h => bridge_ints fuel cs D ps h) _ _ _ h
  exact ⟨A, c, l, e, m, q⟩
end Go.Proofs.Ytdbngbmokgeeiaa.Man

/-
  DERIVED: THE SHELF's CONTRACTS AT THIS DUMP, IN PLAIN WORDS (tools/lay-plain.mjs out of 'TryShelf.lean', which tools/lay-shelf.mjs wrote): THE SAME DECLARATIONS UNDER THE SAME NAMES: 'import', 'namespace', 'open', 'def', 'theorem' AND NOTHING ELSE: no command of the shelf's: FOR A HAND-IN. Each laying: the table of numbers ('.._ren') and one theorem, a field a fact of the dump's own or the kernel's comparison; each contract: ONE APPLICATION.
-/
namespace Go.Proofs
open Go.Shelf
def Try.lays189_ren : Go.Shelf.Ren := ⟨fun | 189 => 28 | 125 => 39 | 257 => 38 | 128 => 61 | 129 => 62 | 294 => 52 | 295 => 53 | 296 => 54 | 297 => 55 | 298 => 56 | 299 => 57 | 216 => 58 | 300 => 59 | 301 => 60 | 328 => 67 | 329 => 68 | 330 => 69 | 331 => 70 | 332 => 71 | 215 => 72 | 343 => 77 | n => n, fun | 28 => 32 | 3 => 3 | 46 => 72 | 0 => 0 | 51 => 97 | 53 => 99 | 4 => 4 | 183 => 89 | 182 => 88 | 131 => 94 | 5 => 5 | 9 => 9 | 218 => 104 | 222 => 108 | 228 => 118 | 229 => 119 | n => n, fun | n => n⟩
theorem Try.lays189 : Go.Proofs.Lays.n189 Try.prog Try.lays189_ren := {
  mixed := by kernel_rfl
  f125 := Try.func39.trans (congrArg some (by kernel_rfl))
  f128 := Try.func61.trans (congrArg some (by kernel_rfl))
  f129 := Try.func62.trans (congrArg some (by kernel_rfl))
  f189 := Try.func28.trans (congrArg some (by kernel_rfl))
  f215 := Try.func72.trans (congrArg some (by kernel_rfl))
  f216 := Try.func58.trans (congrArg some (by kernel_rfl))
  f257 := Try.func38.trans (congrArg some (by kernel_rfl))
  f294 := Try.func52.trans (congrArg some (by kernel_rfl))
  f295 := Try.func53.trans (congrArg some (by kernel_rfl))
  f296 := Try.func54.trans (congrArg some (by kernel_rfl))
  f297 := Try.func55.trans (congrArg some (by kernel_rfl))
  f298 := Try.func56.trans (congrArg some (by kernel_rfl))
  f299 := Try.func57.trans (congrArg some (by kernel_rfl))
  f300 := Try.func59.trans (congrArg some (by kernel_rfl))
  f301 := Try.func60.trans (congrArg some (by kernel_rfl))
  f328 := Try.func67.trans (congrArg some (by kernel_rfl))
  f329 := Try.func68.trans (congrArg some (by kernel_rfl))
  f330 := Try.func69.trans (congrArg some (by kernel_rfl))
  f331 := Try.func70.trans (congrArg some (by kernel_rfl))
  f332 := Try.func71.trans (congrArg some (by kernel_rfl))
  f343 := Try.func77.trans (congrArg some (by kernel_rfl))
  t0 := Try.underlying0
  a0 := Try.isAgg0
  z0 := Try.sizeOf0
  v0 := Try.zeroValue0
  t3 := Try.underlying3
  a3 := Try.isAgg3
  z3 := Try.sizeOf3
  v3 := Try.zeroValue3
  t4 := Try.underlying4
  a4 := Try.isAgg4
  z4 := Try.sizeOf4
  v4 := Try.zeroValue4
  t5 := Try.underlying5
  a5 := Try.isAgg5
  z5 := Try.sizeOf5
  v5 := Try.zeroValue5
  t9 := Try.underlying9
  a9 := Try.isAgg9
  z9 := Try.sizeOf9
  v9 := Try.zeroValue9
  t28 := Try.underlying32
  a28 := Try.isAgg32
  z28 := Try.sizeOf32
  v28 := Try.zeroValue32
  t46 := Try.underlying72
  a46 := Try.isAgg72
  z46 := Try.sizeOf72
  v46 := Try.zeroValue72
  t51 := Try.underlying97
  a51 := Try.isAgg97
  z51 := Try.sizeOf97
  v51 := Try.zeroValue97
  t53 := Try.underlying99
  a53 := Try.isAgg99
  z53 := Try.sizeOf99
  v53 := Try.zeroValue99
  t131 := Try.underlying94
  a131 := Try.isAgg94
  z131 := Try.sizeOf94
  v131 := Try.zeroValue94
  t182 := Try.underlying88
  a182 := Try.isAgg88
  z182 := Try.sizeOf88
  v182 := Try.zeroValue88
  t183 := Try.underlying89
  a183 := Try.isAgg89
  z183 := Try.sizeOf89
  v183 := Try.zeroValue89
  t218 := Try.underlying104
  a218 := Try.isAgg104
  z218 := Try.sizeOf104
  v218 := Try.zeroValue104
  t222 := Try.underlying108
  a222 := Try.isAgg108
  z222 := Try.sizeOf108
  v222 := Try.zeroValue108
  t228 := Try.underlying118
  a228 := Try.isAgg118
  z228 := Try.sizeOf118
  v228 := Try.zeroValue118
  t229 := Try.underlying119
  a229 := Try.isAgg119
  z229 := Try.sizeOf119
  v229 := Try.zeroValue119 }
open Go.Sort Go.RowKit in
theorem Try.slices_Sort_int (blk off cap : Nat) (zs : List Int) (w : World) (hH : Holds (Value.int .i64) w blk off zs.toArray) (hblk : blk < w.heap.size) (hsz : zs.length < 4611686018427387904) :
    Calls Try.prog 28 #[.slice (some ⟨blk, off, none⟩) zs.length cap] w fun e w' =>
      e = .returned (.tuple #[]) ∧ ∃ n os, w' = grow (putRow (Value.int .i64) (Sort.ahead w n) blk off (zs.mergeSort fun x y => decide (x ≤ y)).toArray) os := Any.slices_Sort_int Try.lays189 blk off cap zs w hH hblk hsz
def Try.laysNm220_ren : Go.Shelf.Ren := ⟨fun | 20 => 29 | n => n, fun | 22 => 32 | 3 => 3 | 4 => 4 | 0 => 0 | n => n, fun | n => n⟩
theorem Try.laysNm220 : Go.Proofs.Lays2.n20 Try.prog Try.laysNm220_ren := {
  mixed := by kernel_rfl
  f20 := Try.func29.trans (congrArg some (by kernel_rfl))
  t0 := Try.underlying0
  a0 := Try.isAgg0
  z0 := Try.sizeOf0
  v0 := Try.zeroValue0
  t3 := Try.underlying3
  a3 := Try.isAgg3
  z3 := Try.sizeOf3
  v3 := Try.zeroValue3
  t4 := Try.underlying4
  a4 := Try.isAgg4
  z4 := Try.sizeOf4
  v4 := Try.zeroValue4
  t22 := Try.underlying32
  a22 := Try.isAgg32
  z22 := Try.sizeOf32
  v22 := Try.zeroValue32
  i3 := by kernel_rfl }
open Go.RowKit Go.Lib Go.Sort in
/-- slices.Compact at []int: "Compact replaces consecutive runs of equal elements with a single copy. This is like the uniq command found on Unix. Compact modifies the contents of the slice s and returns the modified slice, which may have a smaller length. Compact zeroes the elements between the new length and the original length. The result preserves the nilness of s.": IT RETURNS THE SLICE CUT TO 'Lib.compact zs'; ITS CELLS HOLD 'Lib.compact zs', THEN ZERO VALUES up to the old length; all else is as it was, but for the count of draws. IN THE WORDS OF slices.Sort's CONTRACT ('Holds', 'putRow'): so the everyday 'slices.Sort(xs); xs = slices.Compact(xs)' goes from the one contract to the other. It asks 'zs.length ≤ cap' (every slice's: the reslicing 's[:k]' looks at it). Length 0, nil: '.._empty'. (LAID: no walk: one application.) -/
theorem Try.slices_Compact_int (blk off cap : Nat) (zs : List Int) (w : World) (hH : Holds (Value.int .i64) w blk off zs.toArray) (hsz : zs.length ≤ 9223372036854775807) (hcap : zs.length ≤ cap) :
    Calls Try.prog 29 #[.slice (some ⟨blk, off, none⟩) zs.length cap] w fun e w' => e = .returned (.slice (some ⟨blk, off, none⟩) (Lib.compact zs).length cap) ∧ ∃ q, w' = putRow (Value.int .i64) (Sort.ahead w q) blk off (Lib.compact zs ++ List.replicate (zs.length - (Lib.compact zs).length) 0).toArray := Any.slices_Compact_int Try.laysNm220 blk off cap zs w hH hsz hcap
open Go.RowKit Go.Lib Go.Sort in
/-- The same at a slice of length 0, a nil one too: it comes back as it is. (LAID: no walk: one application.) -/
theorem Try.slices_Compact_int_empty (a : Option Addr) (cap : Nat) (w : World) :
    Calls Try.prog 29 #[.slice a 0 cap] w fun e w' => e = .returned (.slice a 0 cap) ∧ w' = w := Any.slices_Compact_int_empty Try.laysNm220 a cap w
open Go.RowKit Go.Sort in
/-- .. and plain. (LAID: no walk: one application.) -/
theorem Try.slices_Sort_int_none (p : Option Addr) (cap : Nat) (w : World) :
    Calls Try.prog 28 #[.slice p 0 cap] w fun e w' => e = .returned (.tuple #[]) ∧ w' = w := Any.slices_Sort_int_none Try.lays189 p cap w
end Go.Proofs

namespace Go.Proofs.Ytdbngbmokgeeiaa.Man
open Go.RowKit Go.Shelf Go.Proofs.Ytdbngbmokgeeiaa.Pr Go.Proofs.YtdbngbmokgeeiaaW.PrintWords
attribute [local go_sem] Oper.semAt_some
set_option linter.unusedVariables false
set_option linter.unusedSimpArgs false

/-- The statements in the order of their numbers. -/
def flat : List S55 → List S55
  | [] => []
  | s :: r => s :: (flat s.f6 ++ (flat s.f7 ++ flat r))
termination_by l => SizeOf.sizeOf l
decreasing_by
  all_goals (obtain ⟨f0, f1, f2, f3, f4, f5, f6, f7⟩ := s; simp; omega)

/-- The row's block that a slice variable (in box bx) holds. -/
def rowOf (bx : Option Nat) (W : World) : Option Nat := bx.bind fun b => (W.cell? ⟨b, 0, none⟩).bind Value.ownBlock
def Good (bx : Option Nat) (W : World) : Prop := ∀ k, rowOf bx W = some k → k < W.heap.size
def Kp (n0 B : Nat) (bx : Option Nat) (W W' : World) : Prop :=
  Below n0 W W' ∧ (Good bx W → Good bx W' ∧ (rowOf bx W' = rowOf bx W ∨ ∀ k, rowOf bx W' = some k → W.heap.size ≤ k) ∧
    ∀ k c, B ≤ k → W.heap[k]? = some c → c.isCells = true → rowOf bx W ≠ some k → W'.heap[k]? = some c)

theorem Kp.refl (n0 B : Nat) (bx : Option Nat) (W : World) : Kp n0 B bx W W :=
  ⟨Below.refl _ _, fun h => ⟨h, .inl rfl, fun _ _ _ h _ _ => h⟩⟩
theorem Kp.trans {n0 B : Nat} {bx : Option Nat} {X Y Z : World} (h : Kp n0 B bx X Y) (k : Kp n0 B bx Y Z) : Kp n0 B bx X Z := by
  refine ⟨h.1.trans k.1, fun hg => ?_⟩
  obtain ⟨g1, r1, c1⟩ := h.2 hg
  obtain ⟨g2, r2, c2⟩ := k.2 g1
  have hs : X.heap.size ≤ Y.heap.size := h.1.size
  refine ⟨g2, ?_, ?_⟩
  · rcases r2 with r2 | r2
    · rw [r2]; exact r1
    · exact .inr fun j hj => Nat.le_trans hs (r2 j hj)
  · intro j c hB hc hcc hne
    have hlt : j < X.heap.size := (Array.getElem?_eq_some_iff.1 hc).1
    refine c2 j c hB (c1 j c hB hc hcc hne) hcc ?_
    rcases r1 with r1 | r1
    · rw [r1]; exact hne
    · intro e; have := r1 j e; omega
theorem Kp.putObj {n0 B : Nat} {bx : Option Nat} (hn : n0 ≤ B) (hb : ∀ b, bx = some b → b < B) (W : World) (l : Nat) (o o' : Obj) (hl : B ≤ l) (h : W.heap[l]? = some o) (ho : o.isCells = false) (_ : o.isWalk = false) : Kp n0 B bx W (W.putObj l o') := by
  have hlt : l < W.heap.size := (Array.getElem?_eq_some_iff.1 h).1
  have hoth : ∀ j, j ≠ l → (W.putObj l o').heap[j]? = W.heap[j]? := fun j hj => World.putObj_heap_other hj
  have hrow : rowOf bx (W.putObj l o') = rowOf bx W := by
    unfold rowOf
    cases bx with
    | none => rfl
    | some b =>
      have hb' := hb b rfl
      simp only [Option.bind_some]
      rw [show (W.putObj l o').cell? ⟨b, 0, none⟩ = W.cell? ⟨b, 0, none⟩ from World.cell?_of_block (hoth b (by omega))]
  have hsz : W.heap.size ≤ (W.putObj l o').heap.size := (grownBy_putObj' W l o').size
  refine ⟨(Below.refl n0 W).grown (grownBy_putObj' W l o') (by omega) (fun k e => by cases e; omega), fun hg => ⟨fun k hk => ?_, .inl hrow, fun k c hB hc hcc _ => ?_⟩⟩
  · rw [hrow] at hk; exact Nat.lt_of_lt_of_le (hg k hk) hsz
  · rw [hoth k ?_]; exact hc
    intro e; subst e; rw [h] at hc; cases hc; rw [ho] at hcc; cases hcc
theorem rowOf_alloc (bx : Option Nat) (W : World) (o : Obj) (hb : ∀ b, bx = some b → b < W.heap.size) : rowOf bx (W.alloc o) = rowOf bx W := by
  unfold rowOf
  cases bx with
  | none => rfl
  | some b => simp only [Option.bind_some]; rw [World.cell?_of_block (Below.heap_alloc W o b (hb b rfl))]
theorem Kp.alloc {n0 B : Nat} {bx : Option Nat} {X W : World} (h : Kp n0 B bx X W) (o : Obj) (hn : n0 ≤ W.heap.size) (hb : ∀ b, bx = some b → b < W.heap.size) : Kp n0 B bx X (W.alloc o) := by
  refine h.trans ⟨(Below.refl _ _).alloc hn o, fun hg => ⟨fun k hk => ?_, .inl (rowOf_alloc bx W o hb), fun k c hB hc _ _ => ?_⟩⟩
  · rw [rowOf_alloc bx W o hb] at hk; have := hg k hk; simp; omega
  · rw [Below.heap_alloc W o k (Array.getElem?_eq_some_iff.1 hc).1]; exact hc

/-- A statement and its cells, as they lie in w. -/
abbrev Elt (w : World) (P : Nat → Prop) (T : S55 → Prop) : Type := { p : S55 × List Value // Kd.FK k55 w P p.1 p.2 ∧ T p.1 }
def encE {w : World} {P : Nat → Prop} {T : S55 → Prop} (x : Elt w P T) : Array Value := #[.agg x.1.2.toArray]

end Go.Proofs.Ytdbngbmokgeeiaa.Man

namespace Go.Proofs.Ytdbngbmokgeeiaa.Man
open Go.RowKit Go.Shelf Go.Proofs.Ytdbngbmokgeeiaa.Pr Go.Proofs.YtdbngbmokgeeiaaW.PrintWords
attribute [local go_sem] Oper.semAt_some
set_option linter.unusedVariables false
set_option linter.unusedSimpArgs false

theorem flat_take_succ (l : List S55) (k : Nat) (h : k < l.length) : flat (l.take (k + 1)) = flat (l.take k) ++ (l[k] :: (flat l[k].f6 ++ flat l[k].f7)) := by
  induction l generalizing k with
  | nil => simp at h
  | cons s r ih =>
    cases k with
    | zero => simp [flat]
    | succ k => simp [flat, ih k (by simpa using h)]

theorem flat_append (a b : List S55) : flat (a ++ b) = flat a ++ flat b := by
  induction a with
  | nil => simp [flat]
  | cons s r ih => simp [flat, ih]
theorem flat_len (l : List S55) (k : Nat) (h : k < l.length) : (flat (l.take k)).length + (1 + ((flat (rd_T55 l k).f6).length + (flat (rd_T55 l k).f7).length)) ≤ (flat l).length := by
  have h1 := flat_take_succ l k h
  have h2 : flat l = flat (l.take (k + 1)) ++ flat (l.drop (k + 1)) := by rw [← flat_append, List.take_append_drop]
  have h3 : rd_T55 l k = l[k] := by simp [rd_T55, List.getD, h]
  rw [h2, h1, h3]
  simp; omega
theorem flat_mem (l : List S55) (k : Nat) (h : k < l.length) (s : S55) (hs : s ∈ rd_T55 l k :: (flat (rd_T55 l k).f6 ++ flat (rd_T55 l k).f7)) : s ∈ flat l := by
  have h1 := flat_take_succ l k h
  have h2 : flat l = flat (l.take (k + 1)) ++ flat (l.drop (k + 1)) := by rw [← flat_append, List.take_append_drop]
  have h3 : rd_T55 l k = l[k] := by simp [rd_T55, List.getD, h]
  rw [h3] at hs
  rw [h2, h1]
  exact List.mem_append_left _ (List.mem_append_right _ hs)
theorem size_mem (l : List S55) (k : Nat) (h : k < l.length) : SizeOf.sizeOf (rd_T55 l k).f6 < SizeOf.sizeOf l ∧ SizeOf.sizeOf (rd_T55 l k).f7 < SizeOf.sizeOf l := by
  have h3 : rd_T55 l k = l[k] := by simp [rd_T55, List.getD, h]
  have h4 := List.sizeOf_lt_of_mem (List.getElem_mem h)
  rw [h3]
  generalize l[k] = s at h4
  obtain ⟨f0, f1, f2, f3, f4, f5, f6, f7⟩ := s
  simp at h4
  simp; omega

theorem Kp.keep {n0 B : Nat} {bx : Option Nat} {W W' : World} (h : Kp n0 B bx W W') (hg : Good bx W) {k : Nat} {c : Array Value} {t : TypeId} (hB : B ≤ k) (hc : W.heap[k]? = some (.cells c t (0, 0))) (hne : rowOf bx W ≠ some k) :
    W'.heap[k]? = some (.cells c t (0, 0)) ∧ rowOf bx W' ≠ some k := by
  obtain ⟨g1, r1, c1⟩ := h.2 hg
  refine ⟨c1 k _ hB hc rfl hne, ?_⟩
  have hlt : k < W.heap.size := (Array.getElem?_eq_some_iff.1 hc).1
  rcases r1 with r1 | r1
  · rw [r1]; exact hne
  · intro e; have := r1 k e; omega
theorem cell_at_block {W : World} {k : Nat} {c : Array Value} {t : TypeId} (hc : W.heap[k]? = some (.cells c t (0, 0))) (j : Nat) : W.cell? ⟨k, j, none⟩ = c[j]? := by
  simp [World.cell?, hc]

theorem atF {w : World} {P : Nat → Prop} {A : Option Addr} {xs : List S55} (h : Kd.F k55 w P A xs.length xs) (k : Nat) (hk : k < xs.length) : ∃ ad A4 c4 A5 c5 A6 c6 A7 c7, A = some ad ∧ w.cell? (ad.add (k * 8)) = some (.int .i64 (rd_T55 xs k).f0) ∧
    w.cell? ⟨(ad.add (k * 8)).block, (ad.add (k * 8)).off + 1, none⟩ = some (.string (rd_T55 xs k).f1) ∧ w.cell? ⟨(ad.add (k * 8)).block, (ad.add (k * 8)).off + 2, none⟩ = some (.string (rd_T55 xs k).f2) ∧
    w.cell? ⟨(ad.add (k * 8)).block, (ad.add (k * 8)).off + 3, none⟩ = some (.string (rd_T55 xs k).f3) ∧ w.cell? ⟨(ad.add (k * 8)).block, (ad.add (k * 8)).off + 4, none⟩ = some (.slice A4 (rd_T55 xs k).f4.length c4) ∧
    w.cell? ⟨(ad.add (k * 8)).block, (ad.add (k * 8)).off + 5, none⟩ = some (.slice A5 (rd_T55 xs k).f5.length c5) ∧ w.cell? ⟨(ad.add (k * 8)).block, (ad.add (k * 8)).off + 6, none⟩ = some (.slice A6 (rd_T55 xs k).f6.length c6) ∧
    w.cell? ⟨(ad.add (k * 8)).block, (ad.add (k * 8)).off + 7, none⟩ = some (.slice A7 (rd_T55 xs k).f7.length c7) ∧ (rd_T55 xs k).f4.length ≤ c4 ∧ Kd.F k114 w P A4 (rd_T55 xs k).f4.length (rd_T55 xs k).f4 ∧
    (rd_T55 xs k).f5.length ≤ c5 ∧ Kd.F Kd.string w P A5 (rd_T55 xs k).f5.length (rd_T55 xs k).f5 ∧ (rd_T55 xs k).f6.length ≤ c6 ∧ Kd.F k55 w P A6 (rd_T55 xs k).f6.length (rd_T55 xs k).f6 ∧
    (rd_T55 xs k).f7.length ≤ c7 ∧ Kd.F k55 w P A7 (rd_T55 xs k).f7.length (rd_T55 xs k).f7 ∧
    Kd.FK k55 w P (rd_T55 xs k) [.int .i64 (rd_T55 xs k).f0, .string (rd_T55 xs k).f1, .string (rd_T55 xs k).f2, .string (rd_T55 xs k).f3, .slice A4 (rd_T55 xs k).f4.length c4, .slice A5 (rd_T55 xs k).f5.length c5, .slice A6 (rd_T55 xs k).f6.length c6, .slice A7 (rd_T55 xs k).f7.length c7] := by
  obtain ⟨ad, _, e, _⟩ := Kd.C_get (Kd.F_now h) z55 (k : Int) (by omega) (by omega)
  subst e
  have hV : Kd.V k55 55 w 0 P (.slice (some ad) xs.length xs.length) xs := Kd.V_mk (Nat.le_refl _) h
  obtain ⟨c, hcl, hFK, hcc⟩ := Kd.V_get hV z55 (k : Int) (by omega) (by omega)
  simp only [Int.toNat_natCast] at hFK hcc
  replace hcc : ∀ j u, c[j]? = some u → w.cell? (ad.add (k * 8 + j)) = some u := hcc
  replace hFK : Kd.FK k55 w P (rd_T55 xs k) c := hFK
  have hFK' := hFK
  obtain ⟨A4, c4, A5, c5, A6, c6, A7, c7, rfl, l4, g4, l5, g5, l6, g6, l7, g7⟩ := k55_openF hFK
  exact ⟨ad, A4, c4, A5, c5, A6, c6, A7, c7, rfl, hcc 0 _ rfl, by rw [← add_field _ _ 1 (by omega)]; exact hcc 1 _ rfl, by rw [← add_field _ _ 2 (by omega)]; exact hcc 2 _ rfl, by rw [← add_field _ _ 3 (by omega)]; exact hcc 3 _ rfl,
    by rw [← add_field _ _ 4 (by omega)]; exact hcc 4 _ rfl, by rw [← add_field _ _ 5 (by omega)]; exact hcc 5 _ rfl, by rw [← add_field _ _ 6 (by omega)]; exact hcc 6 _ rfl, by rw [← add_field _ _ 7 (by omega)]; exact hcc 7 _ rfl, l4, g4, l5, g5, l6, g6, l7, g7, hFK'⟩

set_option maxRecDepth 100000 in
set_option maxHeartbeats 2000000 in
theorem all_in (w : World) (P : Nat → Prop) (T : S55 → Prop) (l : Nat) (B N : Nat) (bx : Option Nat) (hn : w.heap.size ≤ B) (hb : ∀ b, bx = some b → b < B) (J Jx : List (Elt w P T) → World → Prop)
    (hY : ∀ m pre x W, J pre W → pre.length < N → YieldAt Fence.wide m Try.prog l (encE x) W fun e W' =>
      (e = .returned (.bool true) ∧ J (pre ++ [x]) W' ∧ Kp w.heap.size B bx W W') ∨ (e = .returned (.bool false) ∧ Jx (pre ++ [x]) W'))
    (hJ : ∀ pre W W', J pre W → W.grownBy W' none → J pre W') :
    ∀ (m : Nat) (xs : List S55), SizeOf.sizeOf xs < m → ∀ (n : Nat) (A : Option Addr) (c : Nat) (pre : List (Elt w P T)) (W : World), xs.length ≤ c → (∀ s, s ∈ flat xs → T s) → Kd.F k55 w P A xs.length xs → J pre W → Below w.heap.size w W → Good bx W → B ≤ W.heap.size → pre.length + (flat xs).length ≤ N →
      CallsIn Fence.wide n Try.prog 35 #[.slice A xs.length c, .func (.yield l) #[] #[]] W fun e W' =>
        (e = .returned (.bool true) ∧ ∃ es : List (Elt w P T), es.map (·.1.1) = flat xs ∧ J (pre ++ es) W' ∧ Kp w.heap.size B bx W W') ∨
        (e = .returned (.bool false) ∧ ∃ (es : List (Elt w P T)) (q : List S55), es.map (·.1.1) ++ q = flat xs ∧ Jx (pre ++ es) W') := by
  intro m
  induction m with
  | zero => intro xs h; omega
  | succ m ih =>
  intro xs hsz n A c pre W hlc hT hC hJ0 hBe hG hBW hN
  have hdd : ∀ k : Nat, (Fence.wide.depth.isSome = true → 1 ≤ k) := fun k h => by simp [Fence.wide] at h
  have hlen : xs.length ≤ 9223372036854775807 := Kd.F_max hC
  refine callsIn_of_wp Try.func35 rfl trivial ?_ rfl
  simp only [Try.ntmps35, List.size_toArray, List.length_cons, List.length_nil, Nat.reduceAdd, Nat.reduceSub, Array.replicate_succ, Array.replicate_zero, List.push_toArray, List.append_toArray, List.nil_append, List.cons_append]
  have IH := Lib.hid ih
  have HY := Lib.hid hY
  have HJ := Lib.hid hJ
  have HC := Lib.hid hC
  have HG := Lib.hid hG
  have HT := Lib.hid hT
  clear ih hY hJ hC hG hT
  gi_wp2
  gi_loopw [9] (fun i wr => ∃ (k : Nat) (es : List (Elt w P T)), k ≤ xs.length ∧ i = .int .i64 k ∧ Hid (es.map (·.1.1) = flat (xs.take k)) ∧ Hid (J (pre ++ es) wr) ∧ Hid (Kp w.heap.size B bx W wr))
    (fun i _ => xs.length - (intOf i).toNat)
  case atStart => exact ⟨0, [], Nat.zero_le _, rfl, by simp [Hid, flat], by simpa [Hid] using hJ0, Kp.refl _ _ _ _⟩
  case round =>
    obtain ⟨k, es, hk, rfl, hes, hJk, hKp⟩ := hrel
    have hle := hKp.out.1.size
    by_cases hlt : k < xs.length
    · have hfl := flat_len xs k hlt
      obtain ⟨hs6, hs7⟩ := size_mem xs k hlt
      have hel : es.length = (flat (xs.take k)).length := by rw [← hes.out]; simp
      have hbel := Lib.hid (hBe.trans hKp.out.1)
      obtain ⟨ad, A4, c4, A5, c5, A6, c6, A7, c7, e0, h0, h1, h2, h3, h4, h5, h6, h7, l4, g4, l5, g5, l6, g6, l7, g7, hK⟩ := atF HC.out k hlt
      obtain ⟨x, hx⟩ : ∃ x : Elt w P T, x = ⟨(rd_T55 xs k, _), hK, HT.out _ (flat_mem xs k hlt _ (by simp))⟩ := ⟨_, rfl⟩
      replace h0 := pw_cell_below hbel.out h0
      replace h1 := pw_cell_below hbel.out h1
      replace h2 := pw_cell_below hbel.out h2
      replace h3 := pw_cell_below hbel.out h3
      replace h4 := pw_cell_below hbel.out h4
      replace h5 := pw_cell_below hbel.out h5
      replace h6 := pw_cell_below hbel.out h6
      replace h7 := pw_cell_below hbel.out h7
      have G6 := Lib.hid g6
      have G7 := Lib.hid g7
      clear g4 g5 l4 l5 g6 g7
      subst e0
      obtain ⟨s, hs⟩ : ∃ s, s = rd_T55 xs k := ⟨_, rfl⟩
      have HX : Hid (encE x = #[.agg #[.int .i64 (rd_T55 xs k).f0, .string (rd_T55 xs k).f1, .string (rd_T55 xs k).f2, .string (rd_T55 xs k).f3, .slice A4 (rd_T55 xs k).f4.length c4, .slice A5 (rd_T55 xs k).f5.length c5, .slice A6 (rd_T55 xs k).f6.length c6, .slice A7 (rd_T55 xs k).f7.length c7]]) := by rw [hx]; rfl
      have HX1 : Hid (x.1.1 = rd_T55 xs k) := by rw [hx]; rfl
      clear hx hK
      rw [← hs] at h0 h1 h2 h3 h4 h5 h6 h7 l6 l7 hs6 hs7 hfl HX HX1 G6 G7
      have HS := Lib.hid hs
      clear hs
      have hy := HY.out (n - 1) (pre ++ es) x (wr.alloc (.cells #[.int .i64 s.f0, .string s.f1, .string s.f2, .string s.f3, .slice A4 s.f4.length c4, .slice A5 s.f5.length c5, .slice A6 s.f6.length c6, .slice A7 s.f7.length c7] 55)) (HJ.out _ _ _ hJk.out (World.grownBy_alloc _ _ _)) (by simp; omega)
      rw [HX.out] at hy
      -- what each call leaves, with what is wanted next laid beside it
      have hg0 : Good bx wr := (hKp.out.2 HG.out).1
      have hbw : ∀ b, bx = some b → b < wr.heap.size := fun b e => by have := hb b e; omega
      have hn1 : rowOf bx (wr.alloc (.cells #[.int .i64 s.f0, .string s.f1, .string s.f2, .string s.f3, .slice A4 s.f4.length c4, .slice A5 s.f5.length c5, .slice A6 s.f6.length c6, .slice A7 s.f7.length c7] 55)) ≠ some wr.heap.size := by
        rw [rowOf_alloc bx wr _ hbw]; intro e; have := hg0 _ e; omega
      have hK1 := Kp.alloc hKp.out (.cells #[.int .i64 s.f0, .string s.f1, .string s.f2, .string s.f3, .slice A4 s.f4.length c4, .slice A5 s.f5.length c5, .slice A6 s.f6.length c6, .slice A7 s.f7.length c7] 55) (by omega) hbw
      have hblk := World.alloc_heap_new wr (.cells #[.int .i64 s.f0, .string s.f1, .string s.f2, .string s.f3, .slice A4 s.f4.length c4, .slice A5 s.f5.length c5, .slice A6 s.f6.length c6, .slice A7 s.f7.length c7] 55)
      have hg1 := (hK1.2 HG.out).1
      generalize hW1 : (wr.alloc (.cells #[.int .i64 s.f0, .string s.f1, .string s.f2, .string s.f3, .slice A4 s.f4.length c4, .slice A5 s.f5.length c5, .slice A6 s.f6.length c6, .slice A7 s.f7.length c7] 55)) = W1 at hy hn1 hK1 hblk hg1
      have h7c : ∀ W3 e7, e7 = es ++ [x] → ∀ e6 : List (Elt w P T), e6.map (·.1.1) = flat s.f6 → J (pre ++ (e7 ++ e6)) W3 → Kp w.heap.size B bx W1 W3 → CallsIn Fence.wide (n - 1) Try.prog 35 #[.slice A7 s.f7.length c7, .func (.yield l) #[] #[]] W3 fun e W4 =>
          (e = .returned (.bool true) ∧ Hid (∃ es : List (Elt w P T), es.map (·.1.1) = flat (xs.take (k + 1)) ∧ J (pre ++ es) W4 ∧ Kp w.heap.size B bx W W4)) ∨
          (e = .returned (.bool false) ∧ Hid (∃ (es : List (Elt w P T)) (q : List S55), es.map (·.1.1) ++ q = flat xs ∧ Jx (pre ++ es) W4)) := by
        rintro W3 _ rfl e6 he6 hj hk3
        have hl6 : e6.length = (flat s.f6).length := by rw [← he6]; simp
        refine (IH.out s.f7 (by omega) (n - 1) A7 c7 _ W3 l7 (fun s' hs' => HT.out s' (flat_mem xs k hlt s' (by rw [← HS.out]; simp [hs']))) G7.out hj ((hBe.trans hK1.1).trans hk3.1) ((hk3.2 hg1).1) (by have := hk3.1.size; have := hK1.1.size; omega) (by simp; omega)).mono ?_
        have htk := flat_take_succ xs k hlt
        have h3 : xs[k] = s := by rw [HS.out]; simp [rd_T55, List.getD, hlt]
        rw [h3] at htk
        have hx1 : x.1.1 = s := by rw [HX1.out]
        rintro e W4 (⟨rfl, e8, he8, hj8, hk8⟩ | ⟨rfl, e8, q, he8, hj8⟩)
        · refine .inl ⟨rfl, (es ++ [x]) ++ e6 ++ e8, ?_, by simpa [List.append_assoc] using hj8, (hK1.trans hk3).trans hk8⟩
          rw [htk]; simp [hes.out, he6, he8, hx1]
        · refine .inr ⟨rfl, (es ++ [x]) ++ e6 ++ e8, q ++ flat (xs.drop (k + 1)), ?_, by simpa [List.append_assoc] using hj8⟩
          rw [show flat xs = flat (xs.take (k + 1)) ++ flat (xs.drop (k + 1)) from by rw [← flat_append, List.take_append_drop], htk, ← he8]
          simp [hes.out, he6, hx1]
      have h6c : ∀ W2, J (pre ++ es ++ [x]) W2 → Kp w.heap.size B bx W1 W2 → CallsIn Fence.wide (n - 1) Try.prog 35 #[.slice A6 s.f6.length c6, .func (.yield l) #[] #[]] W2 fun e W3 =>
          (e = .returned (.bool true) ∧ W3.cell? ⟨wr.heap.size, 7, none⟩ = some (.slice A7 s.f7.length c7) ∧ Hid (CallsIn Fence.wide (n - 1) Try.prog 35 #[.slice A7 s.f7.length c7, .func (.yield l) #[] #[]] W3 fun e W4 =>
            (e = .returned (.bool true) ∧ Hid (∃ es : List (Elt w P T), es.map (·.1.1) = flat (xs.take (k + 1)) ∧ J (pre ++ es) W4 ∧ Kp w.heap.size B bx W W4)) ∨
            (e = .returned (.bool false) ∧ Hid (∃ (es : List (Elt w P T)) (q : List S55), es.map (·.1.1) ++ q = flat xs ∧ Jx (pre ++ es) W4)))) ∨
          (e = .returned (.bool false) ∧ Hid (∃ (es : List (Elt w P T)) (q : List S55), es.map (·.1.1) ++ q = flat xs ∧ Jx (pre ++ es) W3)) := by
        intro W2 hj hk2
        obtain ⟨hb2, hr2⟩ := hk2.keep hg1 (by omega) hblk hn1
        refine (IH.out s.f6 (by omega) (n - 1) A6 c6 _ W2 l6 (fun s' hs' => HT.out s' (flat_mem xs k hlt s' (by rw [← HS.out]; simp [hs']))) G6.out hj ((hBe.trans hK1.1).trans hk2.1) ((hk2.2 hg1).1) (by have := hk2.1.size; have := hK1.1.size; omega) (by simp; omega)).mono ?_
        have htk := flat_take_succ xs k hlt
        have h3 : xs[k] = s := by rw [HS.out]; simp [rd_T55, List.getD, hlt]
        rw [h3] at htk
        have hx1 : x.1.1 = s := by rw [HX1.out]
        rintro e W3 (⟨rfl, e6, he6, hj6, hk6⟩ | ⟨rfl, e6, q, he6, hj6⟩)
        · obtain ⟨hb3, hr3⟩ := hk6.keep ((hk2.2 hg1).1) (by omega) hb2 hr2
          exact .inl ⟨rfl, by rw [cell_at_block hb3]; rfl, h7c W3 _ rfl e6 he6 (by simpa [List.append_assoc] using hj6) (hk2.trans hk6)⟩
        · refine .inr ⟨rfl, (es ++ [x]) ++ e6, q ++ (flat s.f7 ++ flat (xs.drop (k + 1))), ?_, by simpa [List.append_assoc] using hj6⟩
          rw [show flat xs = flat (xs.take (k + 1)) ++ flat (xs.drop (k + 1)) from by rw [← flat_append, List.take_append_drop], htk, ← he6]
          simp [hes.out, hx1]
      have hy2 := YieldAt.mono (R' := fun e W2 =>
          (e = .returned (.bool true) ∧ W2.cell? ⟨wr.heap.size, 6, none⟩ = some (.slice A6 s.f6.length c6) ∧ Hid (CallsIn Fence.wide (n - 1) Try.prog 35 #[.slice A6 s.f6.length c6, .func (.yield l) #[] #[]] W2 fun e W3 =>
          (e = .returned (.bool true) ∧ W3.cell? ⟨wr.heap.size, 7, none⟩ = some (.slice A7 s.f7.length c7) ∧ Hid (CallsIn Fence.wide (n - 1) Try.prog 35 #[.slice A7 s.f7.length c7, .func (.yield l) #[] #[]] W3 fun e W4 =>
            (e = .returned (.bool true) ∧ Hid (∃ es : List (Elt w P T), es.map (·.1.1) = flat (xs.take (k + 1)) ∧ J (pre ++ es) W4 ∧ Kp w.heap.size B bx W W4)) ∨
            (e = .returned (.bool false) ∧ Hid (∃ (es : List (Elt w P T)) (q : List S55), es.map (·.1.1) ++ q = flat xs ∧ Jx (pre ++ es) W4)))) ∨
          (e = .returned (.bool false) ∧ Hid (∃ (es : List (Elt w P T)) (q : List S55), es.map (·.1.1) ++ q = flat xs ∧ Jx (pre ++ es) W3)))) ∨
          (e = .returned (.bool false) ∧ Hid (∃ (es : List (Elt w P T)) (q : List S55), es.map (·.1.1) ++ q = flat xs ∧ Jx (pre ++ es) W2))) hy (fun e W2 h => by
        have htk := flat_take_succ xs k hlt
        have h3 : xs[k] = s := by rw [HS.out]; simp [rd_T55, List.getD, hlt]
        rw [h3] at htk
        have hx1 : x.1.1 = s := by rw [HX1.out]
        rcases h with ⟨rfl, hj, hk2⟩ | ⟨rfl, hj⟩
        · obtain ⟨hb2, hr2⟩ := hk2.keep hg1 (by omega) hblk hn1
          exact .inl ⟨rfl, by rw [cell_at_block hb2]; rfl, h6c W2 hj hk2⟩
        · refine .inr ⟨rfl, es ++ [x], (flat s.f6 ++ flat s.f7) ++ flat (xs.drop (k + 1)), ?_, by simpa [List.append_assoc] using hj⟩
          rw [show flat xs = flat (xs.take (k + 1)) ++ flat (xs.drop (k + 1)) from by rw [← flat_append, List.take_append_drop], htk]
          simp [hes.out, hx1])
      have h29 : Fence.wide.fn 35 := trivial
      subst hW1
      clear hy h6c h7c hblk hg1 hK1 hn1 hbw hg0
      obtain ⟨fn, tmps, assign, body, hy, hR⟩ := hy2
      gi_wp2_with (first
        | ((try refine ⟨hdd _, ?_⟩); refine hR.mono ?_; clear hR; rintro e W2 (⟨rfl, hc6, hcall6⟩ | ⟨rfl, hx2⟩))
        | ((try refine ⟨hdd _, ?_⟩); gi_at_call 35; refine hcall6.out.mono ?_; clear hcall6; rintro e W3 (⟨rfl, hc7, hcall7⟩ | ⟨rfl, hx3⟩))
        | ((try refine ⟨hdd _, ?_⟩); gi_at_call 35; refine hcall7.out.mono ?_; clear hcall7; rintro e W4 (⟨rfl, hd4⟩ | ⟨rfl, hx4⟩)))
      · go_roundw
        case rel =>
          obtain ⟨es', he', hj', hk'⟩ := hd4.out
          exact ⟨k + 1, es', by omega, by go_num, he', hj', hk'⟩
        case measure => simp [intOf]; omega
      · go_ret
        exact .inr ⟨rfl, hx4.out⟩
      · go_ret
        exact .inr ⟨rfl, hx3.out⟩
      · go_ret
        exact .inr ⟨rfl, hx2.out⟩
    · have hke : k = xs.length := by omega
      gi_wp2
      go_ret
      refine .inl ⟨rfl, es, ?_, hJk.out, hKp.out⟩
      rw [hes.out, hke, List.take_length]
end Go.Proofs.Ytdbngbmokgeeiaa.Man

namespace Go.Proofs.Ytdbngbmokgeeiaa.Man
open Go.RowKit Go.Shelf Go.Proofs.Ytdbngbmokgeeiaa.Pr Go.Proofs.YtdbngbmokgeeiaaW.PrintWords
attribute [local go_sem] Oper.semAt_some
set_option linter.unusedVariables false
set_option linter.unusedSimpArgs false

theorem room_of_none {F : Fence} (hd : F.depth = none) (k : Nat) : F.room k := fun d h => by rw [hd] at h; cases h
theorem roundIn_anyDepth {F : Fence} (hd : F.depth = none) {m m' : Nat} {P : Program} {l : Nat} {f : FuncId} {tmps : Array Value} {assign body : Code} {w : World} {R : Ending → World → Prop}
    (h : RoundIn F m P l f tmps assign body w R) : RoundIn F m' P l f tmps assign body w R := ⟨h.1, fun c cs _ => h.2 c cs (room_of_none hd _)⟩
theorem yieldAt_anyDepth {F : Fence} (hd : F.depth = none) {m : Nat} (m' : Nat) {P : Program} {l : Nat} {args : Array Value} {W : World} {R : Ending → World → Prop} (h : YieldAt F m P l args W R) : YieldAt F m' P l args W R := by
  obtain ⟨fn, tmps, assign, body, hy, hR⟩ := h
  exact ⟨fn, tmps, assign, body, hy, roundIn_anyDepth hd hR⟩

set_option maxHeartbeats 1000000 in
theorem all1_in (w : World) (P : Nat → Prop) (T : S55 → Prop) (n l : Nat) (B : Nat) (bx : Option Nat) (hn : w.heap.size ≤ B) (hb : ∀ b, bx = some b → b < B) (J Jx : List (Elt w P T) → World → Prop) (xs : List S55) (A : Option Addr) (c : Nat) (hlc : xs.length ≤ c) (hT : ∀ s, s ∈ flat xs → T s) (hC : Kd.F k55 w P A xs.length xs)
    (hY : ∀ pre x W, J pre W → pre.length < (flat xs).length → YieldAt Fence.wide (n - 1) Try.prog l (encE x) W fun e W' =>
      (e = .returned (.bool true) ∧ J (pre ++ [x]) W' ∧ Kp w.heap.size B bx W W') ∨ (e = .returned (.bool false) ∧ Jx (pre ++ [x]) W'))
    (hJ : ∀ pre W W', J pre W → W.grownBy W' none → J pre W') (W : World) (hJ0 : J [] W) (hBe : Below w.heap.size w W) (hG : Good bx W) (hBW : B ≤ W.heap.size) (Bt : Nat) (hBt : W.cell? ⟨Bt, 0, none⟩ = some (.slice A xs.length c)) :
    CallsIn Fence.wide n Try.prog 34 #[.func (.yield l) #[] #[], .pointer (some ⟨Bt, 0, none⟩)] W fun e W' => (∃ v, e = .returned v) ∧
      ((∃ es : List (Elt w P T), es.map (·.1.1) = flat xs ∧ J es W') ∨ (∃ es : List (Elt w P T), (∃ q, es.map (·.1.1) ++ q = flat xs) ∧ Jx es W')) := by
  have hdd : ∀ k : Nat, (Fence.wide.depth.isSome = true → 1 ≤ k) := fun k h => by simp [Fence.wide] at h
  have hp := all_in w P T l B (flat xs).length bx hn hb J Jx (fun m pre x W hj hl => yieldAt_anyDepth rfl m (hY pre x W hj hl)) hJ _ xs (Nat.lt_succ_self _) (n - 1) A c [] W hlc hT hC hJ0 hBe hG hBW (by simp)
  have h29 : Fence.wide.fn 35 := trivial
  clear hY hJ hC hT
  refine callsIn_of_wp Try.func34 rfl trivial ?_ rfl
  simp only [Try.ntmps34, List.size_toArray, List.length_cons, List.length_nil, Nat.reduceAdd, Nat.reduceSub, Array.replicate_succ, Array.replicate_zero, List.push_toArray, List.append_toArray, List.nil_append, List.cons_append]
  gi_wp2_with ((try refine ⟨hdd _, ?_⟩); gi_at_call 35; refine hp.mono ?_; clear hp; rintro e W1 (⟨rfl, es, hes, hJ1, _⟩ | ⟨rfl, es, q, hq, hx⟩))
  · go_end0
    exact ⟨⟨_, rfl⟩, .inl ⟨es, hes, by simpa using hJ1⟩⟩
  · go_end0
    exact ⟨⟨_, rfl⟩, .inr ⟨es, ⟨q, hq⟩, by simpa using hx⟩⟩

/-- What number.All hands back, called by whatever loop: the statements in the order of their numbers, or a beginning of them. -/
theorem all_stops (w w1 : World) (P : Nat → Prop) (T : S55 → Prop) (n : Nat) (bx : Option Nat) (xs : List S55) (A : Option Addr) (c : Nat) (hlc : xs.length ≤ c) (hT : ∀ s, s ∈ flat xs → T s) (hC : Kd.F k55 w P A xs.length xs) (hBe : Below w.heap.size w w1) (Bt : Nat) (hlt : Bt < w1.heap.size)
    (hBt : w1.cell? ⟨Bt, 0, none⟩ = some (.slice A xs.length c)) (hb : ∀ b, bx = some b → b < w1.heap.size) (hG : Good bx w1) :
    SeqStopsK Fence.wide n Try.prog 34 #[.pointer (some ⟨Bt, 0, none⟩)] (encE (w := w) (P := P) (T := T)) (Kp w.heap.size w1.heap.size bx) (fun es => es.map (·.1.1) = flat xs) (fun es => ∃ q, es.map (·.1.1) ++ q = flat xs) (flat xs).length w1 := by
  intro l J Jx W hW hJ _ hY h0
  refine all1_in w P T n l w1.heap.size bx hBe.size hb J Jx xs A c hlc hT hC hY (fun pre X Y hj hg => hJ pre X Y none hj hg (fun r e => by cases e)) W h0 (hBe.trans (hW.mono hBe.size)) ?_ hW.size Bt ((hW.cell (p := ⟨Bt, 0, none⟩) hlt).trans hBt)
  intro k hk
  have hr : rowOf bx W = rowOf bx w1 := by
    unfold rowOf
    cases bx with
    | none => rfl
    | some b => simp only [Option.bind_some]; rw [hW.cell (p := ⟨b, 0, none⟩) (hb b rfl)]
  rw [hr] at hk
  exact Nat.lt_of_lt_of_le (hG k hk) hW.size

set_option maxHeartbeats 1000000 in
/-- number.All: the list is boxed; the function value captures the box. -/
theorem mkAll_in (n : Nat) (v : Value) (hv : v.oneCell' = true) (w : World) :
    CallsIn Fence.wide n Try.prog 26 #[v] w fun e w' => e = .returned (.func (.func 34) #[] #[.pointer (some ⟨w.heap.size, 0, none⟩)]) ∧ w' = w.alloc (.cells #[v] 40) := by
  refine callsIn_of_wp Try.func26 rfl trivial ?_ rfl
  simp only [Try.ntmps26, List.size_toArray, List.length_cons, List.length_nil, Nat.reduceAdd, Nat.reduceSub, Array.replicate_succ, Array.replicate_zero, List.push_toArray, List.append_toArray, List.nil_append, List.cons_append]
  gi_wp2
  go_ret
  exact ⟨rfl, rfl⟩
end Go.Proofs.Ytdbngbmokgeeiaa.Man

namespace Go.Proofs.Ytdbngbmokgeeiaa.Man
open Go.RowKit Go.Shelf Go.Proofs.Ytdbngbmokgeeiaa.Pr Go.Proofs.YtdbngbmokgeeiaaW.PrintWords
attribute [local go_sem] Oper.semAt_some
set_option linter.unusedVariables false
set_option linter.unusedSimpArgs false

theorem Good.none (W : World) : Good none W := fun k h => by simp [rowOf] at h

end Go.Proofs.Ytdbngbmokgeeiaa.Man

namespace Go.Proofs.Ytdbngbmokgeeiaa.Man
open Go.RowKit Go.Shelf Go.Proofs.Ytdbngbmokgeeiaa.Pr Go.Proofs.YtdbngbmokgeeiaaW.PrintWords
attribute [local go_sem] Oper.semAt_some
set_option linter.unusedVariables false
set_option linter.unusedSimpArgs false

/-- How many operations are still to come. -/
def leftOf (listed : Array Bool) : Nat := (listed.toList.filter (fun b => !b)).length
theorem left_set (l : List Bool) (i : Nat) (h : l[i]? = some false) : ((l.set i true).filter (fun b => !b)).length + 1 = (l.filter (fun b => !b)).length := by
  induction l generalizing i with
  | nil => simp at h
  | cons b r ih =>
    cases i with
    | zero => obtain rfl : b = false := by simpa using h
              simp
    | succ i =>
      have := ih i (by simpa using h)
      cases b <;> simp <;> omega
theorem ready_mem {md : Region.Mode} {ops : Array Oper} {listed : Array Bool} {i : Nat} (h : i ∈ Region.ready md ops listed) : listed.toList[i]? = some false := by
  unfold Region.ready at h
  have := (List.mem_filter.1 h).2
  simp only [Bool.and_eq_true, Bool.not_eq_true'] at this
  have h1 := this.1
  rw [Array.getD_eq_getD_getElem?] at h1
  rw [Array.getElem?_toList]
  cases hh : listed[i]? with
  | none => rw [hh] at h1; simp at h1
  | some b => rw [hh] at h1; simp at h1; rw [h1]
/-- A region in whatever order: by what holds of each set of operations that have been done. -/
theorem wpAnyIn_inv {F : Fence} {n : Nat} {P : Program} {md : Region.Mode} {ops : Array Oper} {Q : Exit → Act → World → Prop} (I : Array Bool → Act → World → Prop)
    (hstep : ∀ listed a w i, I listed a w → i ∈ Region.ready md ops listed → wpOpIn F n P ops Q i (fun a w => I (listed.setIfInBounds i true) a w) a w)
    (hend : ∀ listed a w, I listed a w → Region.ready md ops listed = [] → Q .normal a w) :
    ∀ fuel listed a w, leftOf listed ≤ fuel → I listed a w → wpAnyIn F n P md ops Q fuel listed a w := by
  intro fuel
  induction fuel with
  | zero =>
    intro listed a w hf hi
    have hr : Region.ready md ops listed = [] := by
      cases hh : Region.ready md ops listed with
      | nil => rfl
      | cons i r =>
        have h1 := ready_mem (md := md) (ops := ops) (listed := listed) (i := i) (by rw [hh]; simp)
        have := left_set _ _ h1
        unfold leftOf at hf; omega
    exact ⟨hr, hend _ _ _ hi hr⟩
  | succ fuel ih =>
    intro listed a w hf hi
    refine ⟨fun hr => hend _ _ _ hi hr, fun i hi' => wpOpIn_mono (fun a' w' h => ih _ a' w' ?_ h) (hstep _ _ _ i hi hi')⟩
    have h1 := ready_mem hi'
    have := left_set _ _ h1
    unfold leftOf at hf ⊢
    simp only [Array.toList_setIfInBounds]
    omega

/-- A loop over number.All: the law, at a list that is read. -/
theorem rangeAll {w w1 : World} {P : Nat → Prop} {T : S55 → Prop} {g : Operand} {ps : Array Tmp} {assign body : Code} {Q : Exit → Act → World → Prop} {a : Act} {n : Nat} (hn : 1 ≤ n)
    (l : List S55) (A : Option Addr) (c : Nat) (hlc : l.length ≤ c) (hT : ∀ s, s ∈ flat l → T s) (hC : Kd.F k55 w P A l.length l) (hBe : Below w.heap.size w w1) (Bt : Nat) (hlt : Bt < w1.heap.size)
    (hBt : w1.cell? ⟨Bt, 0, none⟩ = some (.slice A l.length c)) (hg : a.eval g = .func (.func 34) #[] #[.pointer (some ⟨Bt, 0, none⟩)])
    (bx : Option Nat) (hb : ∀ b, bx = some b → b < w1.heap.size) (hG : Good bx w1) (hps : ps.size = 1)
    (I : List (Elt w P T) → World → Prop) (Ix : Code → List (Elt w P T) → World → Prop) (hI : OwnFrom w1.heap.size I) (hIx : ∀ c, OwnFrom w1.heap.size (Ix c)) (h0 : I [] w1) (Ax : Elt w P T → Act → World → Prop) (hAx : ∀ x a', OwnFrom w1.heap.size (fun (_ : Unit) W => Ax x a' W))
    (hassign : ∀ (l : Nat) (pre : List (Elt w P T)) (x : Elt w P T) (W : World) (K : Act → World → Prop), I pre W → (∀ a' W', KeepsFrom w1.heap.size W W' → Kp w.heap.size w1.heap.size bx W W' → I pre W' → Ax x a' W' → K a' W') →
      assign.wpIn (Fence.wide.inRound l) (n - 1 - 1) Try.prog (Exit.then K (fun _ _ _ => False)) { tmps := (ps.zip (encE x)).foldl (fun t (p, v) => t.setIfInBounds p v) a.tmps, defers := [] } W)
    (hbody : ∀ (l' : Nat) (pre : List (Elt w P T)) (x : Elt w P T) (a' : Act) (W : World), w1.heap.size ≤ l' → (∃ r, W.heap[l']? = some (.loop r)) → I pre W → Ax x a' W → pre.length < (flat l).length → body.wpIn (Fence.wide.inRound l') (n - 1 - 1) Try.prog (ownPostG w1.heap.size (Kp w.heap.size w1.heap.size bx) I Ix (pre ++ [x]) W) a' W)
    (hdone : ∀ (D : Nat) (es : List (Elt w P T)) (W : World), w1.heap.size ≤ D → es.map (·.1.1) = flat l → I es W → W.heap[D]? = some (.deferred (some [])) → Q .normal { a with defers := { target := .collected D, args := #[] } :: a.defers } W)
    (hstop : ∀ (D : Nat) (c : Code) (pre : List (Elt w P T)) (W : World), w1.heap.size ≤ D → (∃ q, pre.map (·.1.1) ++ q = flat l) → Ix c pre W → W.heap[D]? = some (.deferred (some [])) → c.wpIn Fence.wide n Try.prog Q { a with defers := { target := .collected D, args := #[] } :: a.defers } W) :
    (Code.rangeFunc g ps assign body).wpIn Fence.wide n Try.prog Q a w1 :=
  wpIn_rangeFunc_ownH (F := Fence.wide) rfl hn (gf := 34) (lb := #[.pointer (some ⟨Bt, 0, none⟩)]) hg trivial (enters_of Try.func34 (by kernel_rfl) rfl)
    (all_stops w w1 P T _ bx l A c hlc hT hC hBe Bt hlt hBt hb hG) (fun h k => Kp.trans h k) (Kp.putObj hBe.size hb) (Below.refl _ _) (fun _ => by simp [encE, hps])
    I Ix hI hIx h0 Ax hAx hassign hbody hdone hstop
end Go.Proofs.Ytdbngbmokgeeiaa.Man

namespace Go.Proofs.Ytdbngbmokgeeiaa.Man
open Go.RowKit Go.Shelf Go.Proofs.Ytdbngbmokgeeiaa.Pr Go.Proofs.YtdbngbmokgeeiaaW.PrintWords
set_option linter.unusedVariables false
set_option linter.unusedSimpArgs false

/-- Rising. -/
def srt (xs : List Int) : List Int := xs.mergeSort (fun x y => decide (x ≤ y))
theorem srt_len (xs : List Int) : (srt xs).length = xs.length := List.length_mergeSort _
/-- A row of whole numbers that is written over by others, some blocks being made. -/
theorem put_own {w : World} {base g n cap : Nat} {xs : List Value} (h : w.ownsRow base 3 1 (.slice (some ⟨g, 0, none⟩) n cap) n xs) (ys : List Int) (hl : ys.length = n) (q : Nat) (os : Array Obj) :
    (Go.Sort.grow (Go.Sort.putRow (Value.int .i64) (Go.Sort.ahead w q) g 0 ys.toArray) os).ownsRow base 3 1 (.slice (some ⟨g, 0, none⟩) n cap) n (ys.map (Value.int .i64)) ∧
    w.grownBy (Go.Sort.grow (Go.Sort.putRow (Value.int .i64) (Go.Sort.ahead w q) g 0 ys.toArray) os) (some g) := by
  obtain ⟨_, ⟨h1, _⟩ | ⟨g', cap', cur, hv, hb, hh, hn, hc, hs, ht⟩⟩ := h
  · simp at h1
  simp only [Value.slice.injEq, Option.some.injEq, Addr.mk.injEq, and_true, true_and] at hv
  obtain ⟨rfl, rfl⟩ := hv
  have hlt : g < w.heap.size := (Array.getElem?_eq_some_iff.1 hh).1
  have hat : (Go.Sort.putRow (Value.int .i64) (Go.Sort.ahead w q) g 0 ys.toArray).heap[g]? = some (.cells (Go.Sort.putCells (Value.int .i64) 0 ys.toArray cur) 3 (0, 0)) := by
    simp only [Go.Sort.putRow, Go.Sort.mapBlock, Go.Sort.ahead, Array.getElem?_modify, if_true, hh, Option.map_some, Go.Sort.onCells]
  refine ⟨⟨by simp [hl], .inr ⟨g, cap, Go.Sort.putCells (Value.int .i64) 0 ys.toArray cur, rfl, hb, ?_, hn, hc, by simpa [Go.Sort.putCells] using hs, ?_⟩⟩, rfl, rfl, rfl, by simp [Go.Sort.grow, Go.Sort.ahead], fun k hk hne => ?_⟩
  · rw [show (Go.Sort.grow (Go.Sort.putRow (Value.int .i64) (Go.Sort.ahead w q) g 0 ys.toArray) os).heap = (Go.Sort.putRow (Value.int .i64) (Go.Sort.ahead w q) g 0 ys.toArray).heap ++ os from rfl,
      Array.getElem?_append_left (by simpa [Go.Sort.ahead] using hlt)]
    exact hat
  · apply List.ext_getElem?
    intro j
    rw [List.getElem?_take]
    by_cases hj : j < n
    · rw [if_pos (by omega)]
      have hjc : j < cur.size := by omega
      simp only [Go.Sort.putCells, Array.getElem?_toList, Array.getElem?_mapIdx, List.getElem?_map]
      rw [Array.getElem?_eq_getElem hjc, Option.map_some, if_pos ⟨Nat.zero_le _, by simpa [hl] using hj⟩, Nat.sub_zero, List.getElem?_eq_getElem (by omega)]
      simp [hl, hj]
    · rw [if_neg (by omega)]
      symm
      simp only [List.getElem?_map, Option.map_eq_none_iff]
      exact List.getElem?_eq_none (by omega)
  · rw [show (Go.Sort.grow (Go.Sort.putRow (Value.int .i64) (Go.Sort.ahead w q) g 0 ys.toArray) os).heap = (Go.Sort.putRow (Value.int .i64) (Go.Sort.ahead w q) g 0 ys.toArray).heap ++ os from rfl,
      Array.getElem?_append_left (by simpa [Go.Sort.ahead] using hk)]
    simp only [Go.Sort.putRow, Go.Sort.mapBlock, Array.getElem?_modify]
    rw [if_neg (fun e => hne (by rw [e]))]
    rfl
theorem own_holds {w : World} {base g n cap : Nat} {xs : List Int} (h : w.ownsRow base 3 1 (.slice (some ⟨g, 0, none⟩) n cap) n (xs.map (Value.int .i64))) (hn : xs.length = n) : Go.Sort.Holds (Value.int .i64) w g 0 xs.toArray ∧ g < w.heap.size ∧ n ≤ cap := by
  obtain ⟨_, ⟨h1, _⟩ | ⟨g', cap', cur, hv, hb, hh, hnc, hc, hs, ht⟩⟩ := h
  · simp at h1
  simp only [Value.slice.injEq, Option.some.injEq, Addr.mk.injEq, and_true, true_and] at hv
  obtain ⟨rfl, rfl⟩ := hv
  refine ⟨fun j hj => ?_, (Array.getElem?_eq_some_iff.1 hh).1, hnc⟩
  have hj' : j < xs.length := by simpa using hj
  have e : cur.toList[j]? = some (Value.int .i64 xs[j]) := by
    have := congrArg (fun l => l[j]?) ht
    simp only [List.getElem?_take, List.getElem?_map] at this
    rw [if_pos (by omega), List.getElem?_eq_getElem hj'] at this
    simpa using this
  constructor
  · simp only [World.cell?, hh, Nat.zero_add]
    rw [Array.getElem?_toList] at e
    simp [e, hj']
  · simp [World.frozen?, hh]
theorem sort_own (xs : List Int) (v : Value) (base : Nat) (w : World) (h : w.ownsRow base 3 1 v xs.length (xs.map (Value.int .i64))) (hsz : xs.length < 4611686018427387904) :
    Calls Try.prog 28 #[v] w fun e w' => e = .returned (.tuple #[]) ∧ w'.ownsRow base 3 1 v xs.length ((srt xs).map (Value.int .i64)) ∧ w.grownBy w' v.ownBlock := by
  rcases h.2 with ⟨rfl, h0⟩ | ⟨g, cap, cur, rfl, _⟩
  · have hx : xs = [] := List.length_eq_zero_iff.1 h0
    subst hx
    refine (Try.slices_Sort_int_none none 0 w).mono ?_
    rintro e w' ⟨rfl, rfl⟩
    exact ⟨rfl, by simpa [srt] using World.ownsRow_nil _ _ _ _, ⟨rfl, rfl, rfl, Nat.le_refl _, fun _ _ _ => rfl⟩⟩
  · obtain ⟨hH, hlt, _⟩ := own_holds h rfl
    refine (Try.slices_Sort_int g 0 cap xs w hH hlt hsz).mono ?_
    rintro e w' ⟨rfl, q, os, rfl⟩
    exact ⟨rfl, put_own h (srt xs) (srt_len xs) q os⟩
theorem compact_own (xs : List Int) (v : Value) (base : Nat) (w : World) (h : w.ownsRow base 3 1 v xs.length (xs.map (Value.int .i64))) (hsz : xs.length < 4611686018427387904) :
    Calls Try.prog 29 #[v] w fun e w' => ∃ v', e = .returned v' ∧ w'.ownsRow base 3 1 v' (Lib.compact xs).length ((Lib.compact xs).map (Value.int .i64)) ∧ w.grownBy w' v.ownBlock ∧ v'.ownBlock = v.ownBlock := by
  rcases h.2 with ⟨rfl, h0⟩ | ⟨g, cap, cur, rfl, _⟩
  · have hx : xs = [] := List.length_eq_zero_iff.1 h0
    subst hx
    refine (Try.slices_Compact_int_empty none 0 w).mono ?_
    rintro e w' ⟨rfl, rfl⟩
    exact ⟨_, rfl, World.ownsRow_nil _ _ _ _, ⟨rfl, rfl, rfl, Nat.le_refl _, fun _ _ _ => rfl⟩, rfl⟩
  · obtain ⟨hH, hlt, hcap⟩ := own_holds h rfl
    refine (Try.slices_Compact_int g 0 cap xs w hH (by omega) hcap).mono ?_
    rintro e w' ⟨rfl, q, rfl⟩
    have hle := Go.Lib.compact_length_le xs
    obtain ⟨h1, h2⟩ := put_own h (Lib.compact xs ++ List.replicate (xs.length - (Lib.compact xs).length) 0) (by simp; omega) q #[]
    rw [Go.Sort.grow_empty] at h1 h2
    have h3 := own_take h1 hle
    rw [Nat.mul_one, List.map_append, List.take_left' (by simp)] at h3
    exact ⟨_, rfl, h3, h2, rfl⟩
end Go.Proofs.Ytdbngbmokgeeiaa.Man

namespace Go.Proofs.Ytdbngbmokgeeiaa.Man
open Go.RowKit Go.Shelf Go.Proofs.Ytdbngbmokgeeiaa.Pr Go.Proofs.YtdbngbmokgeeiaaW.PrintWords
attribute [local go_sem] Oper.semAt_some
set_option linter.unusedVariables false
set_option linter.unusedSimpArgs false

theorem wpOpIn_value {F : Fence} {n : Nat} {P : Program} {ops : Array Oper} {Q : Exit → Act → World → Prop} {i : Nat} {K : Act → World → Prop} {a : Act} {w w' : World} {o : Oper} {r : Value}
    (ho : ops[i]? = some o) (hg : o.guard = none) (hd : ∀ c, o.op ≠ .defer c) (hab : o.about P w a.eval = none)
    (hrun : (execOp a.eval o).run P w = .ok (.value r) w') (hK : K (a.put o.dst r) w') : wpOpIn F n P ops Q i K a w := by
  unfold wpOpIn
  simp only [ho, Region.wanted, hg, if_true]
  refine ⟨fun f h => (by rw [hab] at h; cases h), ?_⟩
  rw [Oper.semAt_eq _ _ _ hd, hrun]
  exact hK
theorem wpOpIn_skip {F : Fence} {n : Nat} {P : Program} {ops : Array Oper} {Q : Exit → Act → World → Prop} {i : Nat} {K : Act → World → Prop} {a : Act} {w w' : World} {o : Oper}
    (ho : ops[i]? = some o) (hg : o.guard = none) (hd : ∀ c, o.op ≠ .defer c) (hab : o.about P w a.eval = none)
    (hrun : (execOp a.eval o).run P w = .ok .skip w') (hK : K (a.put o.dst undef) w') : wpOpIn F n P ops Q i K a w := by
  unfold wpOpIn
  simp only [ho, Region.wanted, hg, if_true]
  refine ⟨fun f h => (by rw [hab] at h; cases h), ?_⟩
  rw [Oper.semAt_eq _ _ _ hd, hrun]
  exact hK


/-! ### A region in whatever order, by what each operation yields (one value each, whatever the order) -/
def dstOf (ops : Array Oper) (j : Nat) : Option Tmp := (ops[j]?).bind (·.dst)
/-- Each operation writes a slot of its own. -/
def flowOk (ops : Array Oper) (n : Nat) : Bool :=
  (List.range ops.size).all fun i => (match dstOf ops i with | none => true | some d => decide (d < n)) &&
    (List.range ops.size).all fun j => i == j || (dstOf ops i).isNone || !((dstOf ops i) == (dstOf ops j))
def putTmps (ops : Array Oper) (val : Nat → Value) (t : Array Value) : Nat → Array Value
  | 0 => t
  | j + 1 => match dstOf ops j with
    | some d => (putTmps ops val t j).setIfInBounds d (val j)
    | none => putTmps ops val t j
/-- Each operation waits for earlier ones alone. -/
def waitsOk (ops : Array Oper) : Bool := (List.range ops.size).all fun i => match ops[i]? with
  | some o => o.after.all fun e => !Region.binds .any e || decide (e.on < i)
  | none => true
structure Agrees (ops : Array Oper) (base : Act) (val : Nat → Value) (done : Nat → Bool) (a : Act) : Prop where
  defers : a.defers = base.defers
  size : a.tmps.size = base.tmps.size
  has : ∀ j d, dstOf ops j = some d → done j = true → a.tmps.getD d undef = val j
  other : ∀ t, (∀ j, dstOf ops j ≠ some t) → a.tmps.getD t undef = base.tmps.getD t undef
def upd (done : Nat → Bool) (i : Nat) : Nat → Bool := fun j => if j = i then true else done j

theorem flow_lt {ops : Array Oper} {n : Nat} (h : flowOk ops n = true) {j d : Nat} (hd : dstOf ops j = some d) : d < n := by
  have hj : j < ops.size := by
    by_cases hj : j < ops.size
    · exact hj
    · simp [dstOf, Array.getElem?_eq_none (Nat.le_of_not_lt hj)] at hd
  have := List.all_eq_true.1 h j (List.mem_range.2 hj)
  simp only [hd, Bool.and_eq_true, decide_eq_true_eq] at this
  exact this.1
theorem flow_inj {ops : Array Oper} {n : Nat} (h : flowOk ops n = true) {i j d : Nat} (hi : dstOf ops i = some d) (hj : dstOf ops j = some d) : i = j := by
  have lt : ∀ {k : Nat}, dstOf ops k = some d → k < ops.size := fun {k} hk => by
    by_cases hj : k < ops.size
    · exact hj
    · simp [dstOf, Array.getElem?_eq_none (Nat.le_of_not_lt hj)] at hk
  have := List.all_eq_true.1 h i (List.mem_range.2 (lt hi))
  simp only [Bool.and_eq_true] at this
  have := List.all_eq_true.1 this.2 j (List.mem_range.2 (lt hj))
  rw [hi, hj] at this
  simpa using this
theorem getD_set (t : Array Value) (d : Nat) (v : Value) (k : Nat) : (t.setIfInBounds d v).getD k undef = if k = d ∧ d < t.size then v else t.getD k undef := by
  rw [Array.getD_eq_getD_getElem?, Array.getD_eq_getD_getElem?, Array.getElem?_setIfInBounds]
  by_cases h : d = k
  · subst h
    by_cases h2 : d < t.size
    · simp [h2]
    · simp [h2]
  · rw [if_neg h, if_neg (fun e => h e.1.symm)]
theorem Agrees.put {ops : Array Oper} {base : Act} {val : Nat → Value} {done : Nat → Bool} {a : Act} (hok : flowOk ops base.tmps.size = true) (h : Agrees ops base val done a) (i : Nat) {o : Oper} (ho : ops[i]? = some o) :
    Agrees ops base val (upd done i) (a.put o.dst (val i)) := by
  have hdi : dstOf ops i = o.dst := by simp [dstOf, ho]
  cases hd : o.dst with
  | none =>
    refine ⟨h.defers, h.size, fun j d hj hdn => ?_, h.other⟩
    refine h.has j d hj ?_
    unfold upd at hdn
    split at hdn
    · rename_i e; subst e; rw [hdi, hd] at hj; cases hj
    · exact hdn
  | some d =>
    rw [hd] at hdi
    refine ⟨h.defers, by simp [Act.put, h.size], fun j d' hj hdn => ?_, fun t ht => ?_⟩
    · simp only [Act.put, getD_set]
      by_cases e : d' = d
      · subst e
        obtain rfl := flow_inj hok hj hdi
        rw [if_pos ⟨rfl, by rw [h.size]; exact flow_lt hok hdi⟩]
      · rw [if_neg (fun x => e x.1)]
        refine h.has j d' hj ?_
        unfold upd at hdn
        split at hdn
        · rename_i e2; subst e2; rw [hdi] at hj; cases hj; exact absurd rfl e
        · exact hdn
    · simp only [Act.put, getD_set]
      rw [if_neg (fun x => ht i (by rw [hdi, x.1]))]
      exact h.other t ht
theorem putTmps_size (ops : Array Oper) (val : Nat → Value) (t : Array Value) (n : Nat) : (putTmps ops val t n).size = t.size := by
  induction n with
  | zero => rfl
  | succ n ih => unfold putTmps; split <;> simp [ih]
theorem putTmps_get {ops : Array Oper} {N : Nat} (hok : flowOk ops N = true) (val : Nat → Value) (t : Array Value) (hN : t.size = N) : ∀ n k, (putTmps ops val t n).getD k undef = if h : ∃ j, j < n ∧ dstOf ops j = some k then val (Classical.choose h) else t.getD k undef := by
  intro n
  induction n with
  | zero => intro k; rw [dif_neg (by rintro ⟨j, hj, _⟩; omega)]; rfl
  | succ n ih =>
    intro k
    unfold putTmps
    cases hd : dstOf ops n with
    | none =>
      simp only [ih]
      have : (∃ j, j < n ∧ dstOf ops j = some k) ↔ (∃ j, j < n + 1 ∧ dstOf ops j = some k) :=
        ⟨fun ⟨j, h1, h2⟩ => ⟨j, by omega, h2⟩, fun ⟨j, h1, h2⟩ => ⟨j, by (have : j ≠ n := fun e => (by subst e; rw [hd] at h2; cases h2)); omega, h2⟩⟩
      by_cases hh : ∃ j, j < n ∧ dstOf ops j = some k
      · rw [dif_pos hh, dif_pos (this.1 hh)]
        congr 1
        exact flow_inj hok (Classical.choose_spec hh).2 (Classical.choose_spec (this.1 hh)).2
      · rw [dif_neg hh, dif_neg (fun h => hh (this.2 h))]
    | some d =>
      simp only [getD_set, putTmps_size]
      by_cases e : k = d
      · subst e
        have hh : ∃ j, j < n + 1 ∧ dstOf ops j = some k := ⟨n, by omega, hd⟩
        rw [if_pos ⟨rfl, by rw [hN]; exact flow_lt hok hd⟩, dif_pos hh]
        congr 1
        exact flow_inj hok hd (Classical.choose_spec hh).2
      · rw [if_neg (fun x => e x.1), ih]
        have : (∃ j, j < n ∧ dstOf ops j = some k) ↔ (∃ j, j < n + 1 ∧ dstOf ops j = some k) :=
          ⟨fun ⟨j, h1, h2⟩ => ⟨j, by omega, h2⟩, fun ⟨j, h1, h2⟩ => ⟨j, by (have : j ≠ n := fun e' => (by subst e'; rw [hd] at h2; cases h2; exact e rfl)); omega, h2⟩⟩
        by_cases hh : ∃ j, j < n ∧ dstOf ops j = some k
        · rw [dif_pos hh, dif_pos (this.1 hh)]
          congr 1
          exact flow_inj hok (Classical.choose_spec hh).2 (Classical.choose_spec (this.1 hh)).2
        · rw [dif_neg hh, dif_neg (fun h => hh (this.2 h))]
/-- When all have been done, the slots are these. -/
theorem Agrees.all {ops : Array Oper} {base : Act} {val : Nat → Value} {done : Nat → Bool} {a : Act} (hok : flowOk ops base.tmps.size = true) (h : Agrees ops base val done a) (hd : ∀ j, j < ops.size → done j = true) :
    a = { tmps := putTmps ops val base.tmps ops.size, defers := base.defers } := by
  obtain ⟨at_, ad⟩ := a
  have h1 := h.defers
  have h2 := h.size
  simp only at h1 h2
  subst h1
  congr 1
  apply Array.ext
  · rw [putTmps_size]; exact h2
  · intro k k1 k2
    have e1 : at_[k] = at_.getD k undef := by simp [k1]
    have e2 : (putTmps ops val base.tmps ops.size)[k] = (putTmps ops val base.tmps ops.size).getD k undef := by rw [Array.getD_eq_getD_getElem?, Array.getElem?_eq_getElem k2]; rfl
    rw [e1, e2, putTmps_get hok val base.tmps rfl]
    by_cases hh : ∃ j, j < ops.size ∧ dstOf ops j = some k
    · rw [dif_pos hh]
      exact h.has _ k (Classical.choose_spec hh).2 (hd _ (Classical.choose_spec hh).1)
    · rw [dif_neg hh]
      refine h.other k (fun j hj => hh ⟨j, ?_, hj⟩)
      by_cases hlt : j < ops.size
      · exact hlt
      · simp [dstOf, Array.getElem?_eq_none (Nat.le_of_not_lt hlt)] at hj
theorem Agrees.keep {ops : Array Oper} {base : Act} {val : Nat → Value} {done : Nat → Bool} {a : Act} (h : Agrees ops base val done a) (t : Tmp) (hc : ((List.range ops.size).all fun j => !(dstOf ops j == some t)) = true) : a.eval (.tmp t) = base.eval (.tmp t) :=
  h.other t (fun j hj => by
    have hlt : j < ops.size := by
      by_cases hlt : j < ops.size
      · exact hlt
      · simp [dstOf, Array.getElem?_eq_none (Nat.le_of_not_lt hlt)] at hj
    have := List.all_eq_true.1 hc j (List.mem_range.2 hlt)
    rw [hj] at this
    simp at this)
theorem Agrees.val_ {ops : Array Oper} {base : Act} {val : Nat → Value} {done : Nat → Bool} {a : Act} (h : Agrees ops base val done a) {j t : Nat} (hj : dstOf ops j = some t) (hd : done j = true) : a.eval (.tmp t) = val j := h.has j t hj hd
def setv (val : Nat → Value) (i : Nat) (r : Value) : Nat → Value := fun j => if j = i then r else val j
theorem Agrees.put2 {ops : Array Oper} {base : Act} {val : Nat → Value} {done : Nat → Bool} {a : Act} (hok : flowOk ops base.tmps.size = true) (h : Agrees ops base val done a) (i : Nat) {o : Oper} (ho : ops[i]? = some o) (hd : done i = false) (r : Value) :
    Agrees ops base (setv val i r) (upd done i) (a.put o.dst r) := by
  have h2 : Agrees ops base (setv val i r) done a := ⟨h.defers, h.size, fun j d hj hdn => by
    rw [h.has j d hj hdn]; unfold setv; rw [if_neg (fun e => by subst e; rw [hd] at hdn; cases hdn)], h.other⟩
  have h3 := h2.put hok i ho
  have e : setv val i r i = r := by simp [setv]
  rw [e] at h3; exact h3
/-- **The same, where a value may hang on the order (an address that is made).** -/
theorem wpAnyIn_flow2 {F : Fence} {n : Nat} {P : Program} {ops : Array Oper} {Q : Exit → Act → World → Prop} (base : Act) (v0 : Nat → Value) (S : (Nat → Bool) → (Nat → Value) → World → Prop) (hok : flowOk ops base.tmps.size = true) (hwt : waitsOk ops = true) (w0 : World)
    (h0 : S (fun _ => false) v0 w0)
    (hstep : ∀ i o done val a w, ops[i]? = some o → done i = false → (∀ e ∈ o.after, Region.binds .any e = true → done e.on = true) → Agrees ops base val done a → S done val w →
      ∀ K : Act → World → Prop, (∀ r w', S (upd done i) (setv val i r) w' → K (a.put o.dst r) w') → wpOpIn F n P ops Q i K a w)
    (hend : ∀ w done val, (∀ j, j < ops.size → done j = true) → S done val w → Q .normal { tmps := putTmps ops val base.tmps ops.size, defers := base.defers } w) :
    wpAnyIn F n P .any ops Q ops.size (Array.replicate ops.size false) base w0 := by
  refine wpAnyIn_inv (fun listed a w => listed.size = ops.size ∧ ∃ done val, (∀ j, j < ops.size → listed[j]? = some (done j)) ∧ Agrees ops base val done a ∧ S done val w) ?_ ?_ _ _ _ _ (by simp [leftOf]) ⟨by simp, fun _ => false, v0, fun j hj => by simp [hj], ⟨rfl, rfl, fun _ _ _ h => (by cases h), fun _ _ => rfl⟩, h0⟩
  · rintro listed a w i ⟨hs, done, val, hl, ha, hS⟩ hr
    have hmem := ready_mem hr
    have hlt : i < ops.size := by
      rw [Array.getElem?_toList] at hmem
      have := (Array.getElem?_eq_some_iff.1 hmem).1
      omega
    have hdi : done i = false := by
      rw [Array.getElem?_toList, hl i hlt] at hmem; simpa using hmem
    have ho : ops[i]? = some ops[i] := Array.getElem?_eq_getElem hlt
    refine hstep i ops[i] done val a w ho hdi (fun e he hb => ?_) ha hS _ (fun r w' hw' => ⟨by simp [hs], upd done i, setv val i r, fun j hj => ?_, ha.put2 hok i ho hdi r, hw'⟩)
    · have := (List.mem_filter.1 hr).2
      simp only [Bool.and_eq_true, ho, Option.map_some, Option.getD_some] at this
      have h2 := Array.all_eq_true_iff_forall_mem.1 this.2 e he
      rw [hb] at h2
      simp only [Bool.not_true, Bool.false_or] at h2
      rw [Array.getD_eq_getD_getElem?] at h2
      by_cases hlt2 : e.on < ops.size
      · rw [hl e.on hlt2] at h2; simpa using h2
      · rw [Array.getElem?_eq_none (by omega)] at h2; simp at h2
    · rw [Array.getElem?_setIfInBounds]
      by_cases e : i = j
      · subst e; rw [if_pos rfl, if_pos (by omega)]; simp [upd]
      · rw [if_neg e, hl j hj]; simp [upd, Ne.symm e]
  · rintro listed a w ⟨hs, done, val, hl, ha, hS⟩ hr
    -- nothing is ready, so all have been done (or some wait for ever: then ready would not be empty for the least one)
    have hall : ∀ j, j < ops.size → done j = true := by
      intro j
      induction j using Nat.strongRecOn with
      | _ j ih =>
      intro hj
      cases hdj : done j with
      | true => rfl
      | false =>
        exfalso
        have : j ∈ Region.ready .any ops listed := by
          unfold Region.ready
          refine List.mem_filter.2 ⟨List.mem_range.2 hj, ?_⟩
          simp only [Bool.and_eq_true]
          refine ⟨by rw [Array.getD_eq_getD_getElem?, hl j hj, hdj]; rfl, ?_⟩
          rw [Array.getElem?_eq_getElem hj]
          simp only [Option.map_some, Option.getD_some]
          refine Array.all_eq_true_iff_forall_mem.2 fun e he => ?_
          have hw := List.all_eq_true.1 hwt j (List.mem_range.2 hj)
          rw [Array.getElem?_eq_getElem hj] at hw
          have hw2 := Array.all_eq_true_iff_forall_mem.1 hw e he
          cases hb : Region.binds .any e with
          | false => simp
          | true =>
            rw [hb] at hw2
            simp only [Bool.not_true, Bool.false_or, decide_eq_true_eq] at hw2
            have hlt : e.on < ops.size := by omega
            simp only [Bool.not_true, Bool.false_or]
            rw [Array.getD_eq_getD_getElem?, hl e.on hlt, ih e.on hw2 hlt]; rfl
        rw [hr] at this; cases this
    rw [ha.all hok hall]
    exact hend w done val hall hS
end Go.Proofs.Ytdbngbmokgeeiaa.Man

-- Written by wip/xprint.py (the kit's print, run over this seat with some contracts of my own). Not trusted: Lean checks it.
namespace Go.Proofs.Ytdbngbmokgeeiaa.Pr
open Go.RowKit Go.Proofs.YtdbngbmokgeeiaaW.PrintWords Go.Proofs.YtdbngbmokgeeiaaW.PrintLast Go.Proofs.YtdbngbmokgeeiaaW.PrintMore
attribute [local go_sem] max2_int min2_int max_two min_two max_three min_three max_four min_four   -- for this text's walks alone
set_option linter.unusedVariables false
set_option linter.unusedSimpArgs false

/-! ### proteanref02_ok: function 47 -/
def proteanref02_ok.f (l0_0 : List (S76)) (a0_1 : Int) (a0_2 : Int) (a0_3 : Int) (a0_4 : Int) (a0_5 : Int) : Option (Bool) := some (a0_4 == 0)
set_option maxHeartbeats 8000000 in
set_option maxRecDepth 100000 in
theorem proteanref02_ok.calls (A0_0 : Option Addr) (c0_0 : Nat) (l0_0 : List (S76)) (a0_1 : Int) (a0_2 : Int) (a0_3 : Int) (a0_4 : Int) (a0_5 : Int) (r : Bool) (w : World) (hr0_0 : Kd.C k76 w A0_0 l0_0.length l0_0) (hc0_0 : l0_0.length ≤ c0_0) (h : proteanref02_ok.f l0_0 a0_1 a0_2 a0_3 a0_4 a0_5 = some r) :
    Calls Try.prog 47 #[.agg #[.slice A0_0 l0_0.length c0_0, .int .i64 a0_1, .int .i64 a0_2, .int .i64 a0_3, .int .i64 a0_4, .int .i64 a0_5]] w fun e w' => e = .returned (.bool r) ∧ Below w.heap.size w w' := by
 have hu78 := Try.underlying78
 have HR0_0 := Aside0.mk hr0_0
 have HC0_0 := Aside0.mk hc0_0
 clear hr0_0 hc0_0
 have HB := Aside0.mk (Below.refl w.heap.size w)
 have H : (some (a0_4 == 0)) = some r := h
 clear h
 obtain rfl := Option.some.inj H
 go_enter Try.func47, Try.ntmps47
 go_wp2_with (first | ((with_reducible refine gate_dst (N := 1) rfl ?_); refine box_event ?hg (N := 1) ?hd (cs := #[.slice A0_0 l0_0.length c0_0, .int .i64 a0_1, .int .i64 a0_2, .int .i64 a0_3, .int .i64 a0_4, .int .i64 a0_5]) (t := 78) ?hr ?_; (case hd => rfl); (case hg => rfl); (case hr => first | (go_simp; done) | (go_simp; rfl)); intro gb101 hg w2 hbox hb; have n0_ := Aside0.mk (below_step (by repeat (first | (with_reducible first | exact HB.out | apply below_alloc | apply pw_below_drewN | apply below_drew1) | exact HB.out)) hb); have n1_ := Aside0.mk (hbox); have n2_ := Aside0.mk ((by rw [hg]; exact (below_size (by repeat (first | (with_reducible first | exact HB.out | apply below_alloc | apply pw_below_drewN | apply below_drew1) | exact HB.out))) : w.heap.size ≤ gb101)); have n3_ := Aside0.mk ((by rw [hg]; exact (below_size (by repeat (first | (with_reducible first | exact HB.out | apply below_alloc | apply pw_below_drewN | apply below_drew1) | exact HB.out))) : w.heap.size ≤ gb101)); clear HB; have HB := n0_; have BK101 := n1_; have GW101 := n2_; have GE101 := n3_; clear n0_ n1_ n2_ n3_; clear hb hbox hg; have hcz3_0 : w2.cell? ⟨gb101, 0, none⟩ = some (.slice A0_0 l0_0.length c0_0) := (blk_cell BK101.out 0).trans rfl; have hcz3_1 : w2.cell? ⟨gb101, 1, none⟩ = some (.int .i64 a0_1) := (blk_cell BK101.out 1).trans rfl; have hcz3_2 : w2.cell? ⟨gb101, 2, none⟩ = some (.int .i64 a0_2) := (blk_cell BK101.out 2).trans rfl; have hcz3_3 : w2.cell? ⟨gb101, 3, none⟩ = some (.int .i64 a0_3) := (blk_cell BK101.out 3).trans rfl; have hcz3_4 : w2.cell? ⟨gb101, 4, none⟩ = some (.int .i64 a0_4) := (blk_cell BK101.out 4).trans rfl; have hcz3_5 : w2.cell? ⟨gb101, 5, none⟩ = some (.int .i64 a0_5) := (blk_cell BK101.out 5).trans rfl; have hfz3_0 := blk_frozen BK101.out 0; have hfz3_1 := blk_frozen BK101.out 1; have hfz3_2 := blk_frozen BK101.out 2; have hfz3_3 := blk_frozen BK101.out 3; have hfz3_4 := blk_frozen BK101.out 4; have hfz3_5 := blk_frozen BK101.out 5))
 go_ret
 exact ⟨by first | rfl | (simp [errW_none, errW_some] <;> rfl) | (simp [*, errW_none, errW_some] <;> rfl), by repeat (first | (with_reducible first | exact HB.out | apply below_alloc | apply pw_below_drewN | apply below_drew1 | refine below_set ?_ GE101.out) | exact HB.out)⟩

/-! ### proteanref01_Letter: function 43 -/
def proteanref01_Letter.f (a0 : Int) : Option (Bool) := if a0 ≥ 97 then (if a0 ≤ 122 then (some true) else (if a0 ≥ 65 then (some (decide (a0 ≤ 90))) else (some false))) else (if a0 ≥ 65 then (some (decide (a0 ≤ 90))) else (some false))
set_option maxHeartbeats 8000000 in
set_option maxRecDepth 100000 in
theorem proteanref01_Letter.calls (a0 : Int) (r : Bool) (w : World) (h : proteanref01_Letter.f a0 = some r) :
    Calls Try.prog 43 #[.int .u8 a0] w fun e w' => e = .returned (.bool r) ∧ Drawn0 w w' := by
 have H : (if a0 ≥ 97 then (if a0 ≤ 122 then (some true) else (if a0 ≥ 65 then (some (decide (a0 ≤ 90))) else (some false))) else (if a0 ≥ 65 then (some (decide (a0 ≤ 90))) else (some false))) = some r := h
 clear h
 by_cases c2 : a0 ≥ 97
 ·rw [if_pos c2] at H
  have c2b0 : decide (97 ≤ a0) = true := decide_eq_true c2
  clear c2
  by_cases c3 : a0 ≤ 122
  ·rw [if_pos c3] at H
   have c3b0 : decide (a0 ≤ 122) = true := decide_eq_true c3
   clear c3
   obtain rfl := Option.some.inj H
   go_enter Try.func43, Try.ntmps43
   go_wp2
   go_ret
   exact ⟨by first | rfl | (simp; done) | (simp [*]; done), by repeat (first | exact Drawn0.refl _ | apply Drawn0.step)⟩
  ·rw [if_neg c3] at H
   have c3b0 : decide (a0 ≤ 122) = false := decide_eq_false c3
   clear c3
   by_cases c4 : a0 ≥ 65
   ·rw [if_pos c4] at H
    have c4b0 : decide (65 ≤ a0) = true := decide_eq_true c4
    clear c4
    obtain rfl := Option.some.inj H
    go_enter Try.func43, Try.ntmps43
    go_wp2
    go_ret
    exact ⟨by first | rfl | (simp; done) | (simp [*]; done), by repeat (first | exact Drawn0.refl _ | apply Drawn0.step)⟩
   ·rw [if_neg c4] at H
    have c4b0 : decide (65 ≤ a0) = false := decide_eq_false c4
    clear c4
    obtain rfl := Option.some.inj H
    go_enter Try.func43, Try.ntmps43
    go_wp2
    go_ret
    exact ⟨by first | rfl | (simp; done) | (simp [*]; done), by repeat (first | exact Drawn0.refl _ | apply Drawn0.step)⟩
 ·rw [if_neg c2] at H
  have c2b0 : decide (97 ≤ a0) = false := decide_eq_false c2
  clear c2
  by_cases c5 : a0 ≥ 65
  ·rw [if_pos c5] at H
   have c5b0 : decide (65 ≤ a0) = true := decide_eq_true c5
   clear c5
   obtain rfl := Option.some.inj H
   go_enter Try.func43, Try.ntmps43
   go_wp2
   go_ret
   exact ⟨by first | rfl | (simp; done) | (simp [*]; done), by repeat (first | exact Drawn0.refl _ | apply Drawn0.step)⟩
  ·rw [if_neg c5] at H
   have c5b0 : decide (65 ≤ a0) = false := decide_eq_false c5
   clear c5
   obtain rfl := Option.some.inj H
   go_enter Try.func43, Try.ntmps43
   go_wp2
   go_ret
   exact ⟨by first | rfl | (simp; done) | (simp [*]; done), by repeat (first | exact Drawn0.refl _ | apply Drawn0.step)⟩

/-! ### proteanref01_Digit: function 45 -/
def proteanref01_Digit.f (a0 : Int) : Option (Bool) := if a0 ≥ 48 then (some (decide (a0 ≤ 57))) else (some false)
set_option maxHeartbeats 8000000 in
set_option maxRecDepth 100000 in
theorem proteanref01_Digit.calls (a0 : Int) (r : Bool) (w : World) (h : proteanref01_Digit.f a0 = some r) :
    Calls Try.prog 45 #[.int .u8 a0] w fun e w' => e = .returned (.bool r) ∧ Drawn0 w w' := by
 have H : (if a0 ≥ 48 then (some (decide (a0 ≤ 57))) else (some false)) = some r := h
 clear h
 by_cases c2 : a0 ≥ 48
 ·rw [if_pos c2] at H
  have c2b0 : decide (48 ≤ a0) = true := decide_eq_true c2
  clear c2
  obtain rfl := Option.some.inj H
  go_enter Try.func45, Try.ntmps45
  go_wp2
  go_ret
  exact ⟨by first | rfl | (simp; done) | (simp [*]; done), by repeat (first | exact Drawn0.refl _ | apply Drawn0.step)⟩
 ·rw [if_neg c2] at H
  have c2b0 : decide (48 ≤ a0) = false := decide_eq_false c2
  clear c2
  obtain rfl := Option.some.inj H
  go_enter Try.func45, Try.ntmps45
  go_wp2
  go_ret
  exact ⟨by first | rfl | (simp; done) | (simp [*]; done), by repeat (first | exact Drawn0.refl _ | apply Drawn0.step)⟩

/-! ### proteanref01_Inner: function 44 -/
def proteanref01_Inner.f (a0 : Int) : Option (Bool) := (proteanref01_Letter.f a0).bind fun t102 => (if t102 = true then (some true) else ((proteanref01_Digit.f a0).bind fun t103 => (if t103 = true then (some true) else (some (a0 == 95)))))
set_option maxHeartbeats 8000000 in
set_option maxRecDepth 100000 in
theorem proteanref01_Inner.calls (a0 : Int) (r : Bool) (w : World) (h : proteanref01_Inner.f a0 = some r) :
    Calls Try.prog 44 #[.int .u8 a0] w fun e w' => e = .returned (.bool r) ∧ Drawn0 w w' := by
 have H : ((proteanref01_Letter.f a0).bind fun t102 => (if t102 = true then (some true) else ((proteanref01_Digit.f a0).bind fun t103 => (if t103 = true then (some true) else (some (a0 == 95)))))) = some r := h
 clear h
 replace H := Option.bind_eq_some_iff.mp H
 obtain ⟨t102, A20, H⟩ := H
 replace H : (if t102 = true then (some true) else ((proteanref01_Digit.f a0).bind fun t103 => (if t103 = true then (some true) else (some (a0 == 95))))) = some r := H
 have A2 := Aside0.mk A20
 clear A20
 by_cases c3 : t102 = true
 ·subst c3
  have H1 : (some true) = some r := by rw [if_pos rfl] at H; exact H
  clear H
  have H := H1
  clear H1
  obtain rfl := Option.some.inj H
  go_enter Try.func44, Try.ntmps44
  go_wp2_with (first | ((with_reducible refine gate_callee (f := 43) rfl ?_); refine goesL_ (some 4) rfl rfl Try.func43 (by kernel_rfl) rfl #[.int .u8 a0] rfl (by (try simp only [List.map_toArray, List.map_cons, List.map_nil]); first | done | rfl | (simp only [List.length_drop, List.length_take]; rfl)) ?_; (with_reducible refine (proteanref01_Letter.calls a0 true _ A2.out).mono ?_); rintro e w' ⟨rfl, ⟨nd, rfl⟩⟩; refine ⟨_, rfl, ?_⟩))
  go_ret
  exact ⟨by first | rfl | (simp; done) | (simp [*]; done), by repeat (first | exact Drawn0.refl _ | apply Drawn0.step)⟩
 ·replace c3 := Bool.eq_false_iff.mpr c3
  subst c3
  have H1 : ((proteanref01_Digit.f a0).bind fun t103 => (if t103 = true then (some true) else (some (a0 == 95)))) = some r := by rw [if_neg (show ¬ (false = true) by decide)] at H; exact H
  clear H
  have H := H1
  clear H1
  replace H := Option.bind_eq_some_iff.mp H
  obtain ⟨t103, A40, H⟩ := H
  replace H : (if t103 = true then (some true) else (some (a0 == 95))) = some r := H
  have A4 := Aside0.mk A40
  clear A40
  by_cases c5 : t103 = true
  ·subst c5
   have H1 : (some true) = some r := by rw [if_pos rfl] at H; exact H
   clear H
   have H := H1
   clear H1
   obtain rfl := Option.some.inj H
   go_enter Try.func44, Try.ntmps44
   go_wp2_with (first | ((with_reducible refine gate_callee (f := 43) rfl ?_); refine goesL_ (some 4) rfl rfl Try.func43 (by kernel_rfl) rfl #[.int .u8 a0] rfl (by (try simp only [List.map_toArray, List.map_cons, List.map_nil]); first | done | rfl | (simp only [List.length_drop, List.length_take]; rfl)) ?_; (with_reducible refine (proteanref01_Letter.calls a0 false _ A2.out).mono ?_); rintro e w' ⟨rfl, ⟨nd, rfl⟩⟩; refine ⟨_, rfl, ?_⟩) | (go_at_call 45; (with_reducible refine (proteanref01_Digit.calls a0 true _ A4.out).mono ?_); rintro e w' ⟨rfl, ⟨nd, rfl⟩⟩))
   go_ret
   exact ⟨by first | rfl | (simp; done) | (simp [*]; done), by repeat (first | exact Drawn0.refl _ | apply Drawn0.step)⟩
  ·replace c5 := Bool.eq_false_iff.mpr c5
   subst c5
   have H1 : (some (a0 == 95)) = some r := by rw [if_neg (show ¬ (false = true) by decide)] at H; exact H
   clear H
   have H := H1
   clear H1
   obtain rfl := Option.some.inj H
   go_enter Try.func44, Try.ntmps44
   go_wp2_with (first | ((with_reducible refine gate_callee (f := 43) rfl ?_); refine goesL_ (some 4) rfl rfl Try.func43 (by kernel_rfl) rfl #[.int .u8 a0] rfl (by (try simp only [List.map_toArray, List.map_cons, List.map_nil]); first | done | rfl | (simp only [List.length_drop, List.length_take]; rfl)) ?_; (with_reducible refine (proteanref01_Letter.calls a0 false _ A2.out).mono ?_); rintro e w' ⟨rfl, ⟨nd, rfl⟩⟩; refine ⟨_, rfl, ?_⟩) | (go_at_call 45; (with_reducible refine (proteanref01_Digit.calls a0 false _ A4.out).mono ?_); rintro e w' ⟨rfl, ⟨nd, rfl⟩⟩))
   go_ret
   exact ⟨by first | rfl | (simp; done) | (simp [*]; done), by repeat (first | exact Drawn0.refl _ | apply Drawn0.step)⟩

/-! ### proteanref01_Sign: function 46 -/
def proteanref01_Sign.l0 : Nat → Int → ByteArray → Int → Option (Bool)
  | 0, _, _, _ => none
  | k + 1, x0, x3, x4 => if x4 < (x3.size : Int) then (if 0 ≤ x4 then (if (bt x3 x4) = x0 then (some true) else (proteanref01_Sign.l0 k x0 x3 (wrap64 (x4 + 1)))) else (none)) else (some false)
def proteanref01_Sign.f (k : Nat) (a0 : Int) : Option (Bool) := proteanref01_Sign.l0 k a0 (⟨#[123, 125, 40, 41, 44, 59, 46, 61, 43, 45, 42, 60, 38, 58]⟩ : ByteArray) 0
set_option maxHeartbeats 8000000 in
set_option maxRecDepth 100000 in
theorem proteanref01_Sign.calls (k : Nat) (a0 : Int) (r : Bool) (w : World) (h : proteanref01_Sign.f k a0 = some r) :
    Calls Try.prog 46 #[.int .u8 a0] w fun e w' => e = .returned (.bool r) ∧ Drawn0 w w' := by
 have H : (proteanref01_Sign.l0 k a0 (⟨#[123, 125, 40, 41, 44, 59, 46, 61, 43, 45, 42, 60, 38, 58]⟩ : ByteArray) 0) = some r := h
 clear h
 have H' := Aside0.mk H
 clear H
 go_enter Try.func46, Try.ntmps46
 go_wp2
 go_loopg [4] k (fun kq v4 w' => ∃ (x4_1 : Int), v4 = .int .i64 x4_1 ∧ Aside0 (proteanref01_Sign.l0 kq a0 (⟨#[123, 125, 40, 41, 44, 59, 46, 61, 43, 45, 42, 60, 38, 58]⟩ : ByteArray) x4_1 = some r) ∧ Aside0 (kq ≤ k) ∧ Drawn0 w w')
 case atStart => exact ⟨(0), (by first | rfl | (simp; done) | (simp [*]; done)), H', ⟨Nat.le_refl _⟩, by repeat (first | exact Drawn0.refl _ | apply Drawn0.step)⟩
 case round =>
  clear H'
  obtain ⟨x4_1, rfl, HA, HK1, ⟨m1, rfl⟩⟩ := hrel
  cases gk with
  | zero => exact absurd HA.out (by simp [proteanref01_Sign.l0])
  | succ k1 =>
   have H := HA.out
   clear HA
   simp only [proteanref01_Sign.l0] at H
   by_cases c2 : x4_1 < ((⟨#[123, 125, 40, 41, 44, 59, 46, 61, 43, 45, 42, 60, 38, 58]⟩ : ByteArray).size : Int)
   ·rw [if_pos c2] at H
    have c2b0 : decide (x4_1 < ((⟨#[123, 125, 40, 41, 44, 59, 46, 61, 43, 45, 42, 60, 38, 58]⟩ : ByteArray).size : Int)) = true := decide_eq_true c2
    have c2b0x : decide (x4_1 < (14 : Int)) = true := c2b0
    clear c2
    by_cases c3 : 0 ≤ x4_1
    ·rw [if_pos c3] at H
     have c3b0 : decide (0 ≤ x4_1) = true := decide_eq_true c3
     clear c3
     by_cases c5 : (bt (⟨#[123, 125, 40, 41, 44, 59, 46, 61, 43, 45, 42, 60, 38, 58]⟩ : ByteArray) x4_1) = a0
     ·rw [if_pos c5] at H
      have c5b0 : ((bt (⟨#[123, 125, 40, 41, 44, 59, 46, 61, 43, 45, 42, 60, 38, 58]⟩ : ByteArray) x4_1) == a0) = true := beq_iff_eq.mpr c5
      have c5b1 : ((bt (⟨#[123, 125, 40, 41, 44, 59, 46, 61, 43, 45, 42, 60, 38, 58]⟩ : ByteArray) x4_1) != a0) = false := bne_eq_false_iff_eq.mpr c5
      clear c5
      obtain rfl := Option.some.inj H
      have p4 : 0 ≤ (x4_1 : Int) := of_decide_eq_true (by first | (with_reducible assumption) | assumption)
      have q4 : x4_1 < (14 : Int) := of_decide_eq_true (by first | (with_reducible assumption) | assumption)
      have hx4 := bt_at (⟨#[123, 125, 40, 41, 44, 59, 46, 61, 43, 45, 42, 60, 38, 58]⟩ : ByteArray) x4_1
      replace p4 := eq_true p4
      replace q4 := eq_true q4
      go_wp2
      go_ret
      exact ⟨by first | rfl | (simp; done) | (simp [*]; done), by repeat (first | exact Drawn0.refl _ | apply Drawn0.step)⟩
     ·rw [if_neg c5] at H
      have c5b0 : ((bt (⟨#[123, 125, 40, 41, 44, 59, 46, 61, 43, 45, 42, 60, 38, 58]⟩ : ByteArray) x4_1) == a0) = false := beq_eq_false_iff_ne.mpr c5
      have c5b1 : ((bt (⟨#[123, 125, 40, 41, 44, 59, 46, 61, 43, 45, 42, 60, 38, 58]⟩ : ByteArray) x4_1) != a0) = true := bne_iff_ne.mpr c5
      have H' := Aside0.mk H
      clear H
      have p4 : 0 ≤ (x4_1 : Int) := of_decide_eq_true (by first | (with_reducible assumption) | assumption)
      have q4 : x4_1 < (14 : Int) := of_decide_eq_true (by first | (with_reducible assumption) | assumption)
      have hx4 := bt_at (⟨#[123, 125, 40, 41, 44, 59, 46, 61, 43, 45, 42, 60, 38, 58]⟩ : ByteArray) x4_1
      replace p4 := eq_true p4
      replace q4 := eq_true q4
      go_wp2
      go_roundg k1
      case measure => have := HK1.out; omega
      case rel => exact ⟨(wrap64 (x4_1 + 1)), (by first | rfl | (simp; done) | (simp [*]; done)), H', ⟨by have := HK1.out; omega⟩, by repeat (first | exact Drawn0.refl _ | apply Drawn0.step)⟩
    ·rw [if_neg c3] at H
     exact absurd H (by simp)
   ·rw [if_neg c2] at H
    have c2b0 : decide (x4_1 < ((⟨#[123, 125, 40, 41, 44, 59, 46, 61, 43, 45, 42, 60, 38, 58]⟩ : ByteArray).size : Int)) = false := decide_eq_false c2
    have c2b0x : decide (x4_1 < (14 : Int)) = false := c2b0
    clear c2
    obtain rfl := Option.some.inj H
    go_wp2
    go_ret
    exact ⟨by first | rfl | (simp; done) | (simp [*]; done), by repeat (first | exact Drawn0.refl _ | apply Drawn0.step)⟩

/-! ### proteanref01_Right: function 74 -/
mutual
def proteanref01_Right.j0 : Nat → Bool → Int → ByteArray → Int → Option (Bool)
  | 0, _, _, _, _ => none
  | k + 1, x14, x105000, x105001, x105002 => if x14 = true then (some false) else (proteanref01_Right.l0 k 0 x105000 x105001 x105002)
def proteanref01_Right.l0 : Nat → Int → Int → ByteArray → Int → Option (Bool)
  | 0, _, _, _, _ => none
  | k + 1, x3, x105000, x105001, x105002 => if x3 < (x105001.size : Int) then (if 0 ≤ x3 then (if x105000 = 0 then ((proteanref01_Inner.f (bt x105001 x3)).bind fun t105 => (if t105 = true then (if x105000 = 1 then ((proteanref01_Digit.f (bt x105001 x3)).bind fun t106 => (if t106 = true then (if x105000 = 2 then ((proteanref01_Sign.f k (bt x105001 x3)).bind fun t107 => (if t107 = true then (proteanref01_Right.l0 k (wrap64 (x3 + 1)) x105000 x105001 x105002) else (some false))) else (proteanref01_Right.l0 k (wrap64 (x3 + 1)) x105000 x105001 x105002)) else (some false))) else (if x105000 = 2 then ((proteanref01_Sign.f k (bt x105001 x3)).bind fun t108 => (if t108 = true then (proteanref01_Right.l0 k (wrap64 (x3 + 1)) x105000 x105001 x105002) else (some false))) else (proteanref01_Right.l0 k (wrap64 (x3 + 1)) x105000 x105001 x105002))) else (some false))) else (if x105000 = 1 then ((proteanref01_Digit.f (bt x105001 x3)).bind fun t109 => (if t109 = true then (if x105000 = 2 then ((proteanref01_Sign.f k (bt x105001 x3)).bind fun t110 => (if t110 = true then (proteanref01_Right.l0 k (wrap64 (x3 + 1)) x105000 x105001 x105002) else (some false))) else (proteanref01_Right.l0 k (wrap64 (x3 + 1)) x105000 x105001 x105002)) else (some false))) else (if x105000 = 2 then ((proteanref01_Sign.f k (bt x105001 x3)).bind fun t111 => (if t111 = true then (proteanref01_Right.l0 k (wrap64 (x3 + 1)) x105000 x105001 x105002) else (some false))) else (proteanref01_Right.l0 k (wrap64 (x3 + 1)) x105000 x105001 x105002)))) else (none)) else (if x105000 = 0 then (if 0 < (x105001.size : Int) then ((proteanref01_Letter.f (bt x105001 0)).bind fun t112 => (some t112)) else (none)) else (if x105000 = 1 then (some (decide ((x105001.size : Int) ≤ 9))) else (if x105000 = 2 then (some ((x105001.size : Int) == 1)) else (some false))))
end
def proteanref01_Right.f (k : Nat) (a0_0 : Int) (a0_1 : ByteArray) (a0_2 : Int) : Option (Bool) := if (a0_1.size : Int) < 1 then (proteanref01_Right.j0 k true a0_0 a0_1 a0_2) else (proteanref01_Right.j0 k (decide ((a0_1.size : Int) > 65536)) a0_0 a0_1 a0_2)
set_option maxHeartbeats 8000000 in
set_option maxRecDepth 100000 in
theorem proteanref01_Right.calls (k : Nat) (a0_0 : Int) (a0_1 : ByteArray) (a0_2 : Int) (r : Bool) (w : World) (h : proteanref01_Right.f k a0_0 a0_1 a0_2 = some r) :
    Calls Try.prog 74 #[.agg #[.int .i64 a0_0, .string a0_1, .int .i64 a0_2]] w fun e w' => e = .returned (.bool r) ∧ Below w.heap.size w w' := by
 have hu76 := Try.underlying76
 have HB := Aside0.mk (Below.refl w.heap.size w)
 have H : (if (a0_1.size : Int) < 1 then (proteanref01_Right.j0 k true a0_0 a0_1 a0_2) else (proteanref01_Right.j0 k (decide ((a0_1.size : Int) > 65536)) a0_0 a0_1 a0_2)) = some r := h
 clear h
 have HC2 := Aside0.mk H
 clear H
 go_enter Try.func74, Try.ntmps74
 go_upto_region 1 with (first | ((with_reducible refine gate_dst (N := 1) rfl ?_); (try (refine gate_guard (by rfl) ?_; dsimp only)); refine box_event ?hg (N := 1) ?hd (cs := #[.int .i64 a0_0, .string a0_1, .int .i64 a0_2]) (t := 76) ?hr ?_; (case hd => rfl); (case hg => rfl); (case hr => first | (go_simp; done) | (go_simp; rfl)); intro gb104 hg w3 hbox hb; have n0_ := Aside0.mk (below_step (by repeat (first | (with_reducible first | exact HB.out | apply below_alloc | apply pw_below_drewN | apply below_drew1) | exact HB.out)) hb); have n1_ := Aside0.mk (hbox); have n2_ := Aside0.mk ((by rw [hg]; exact (below_size (by repeat (first | (with_reducible first | exact HB.out | apply below_alloc | apply pw_below_drewN | apply below_drew1) | exact HB.out))) : w.heap.size ≤ gb104)); have n3_ := Aside0.mk ((by rw [hg]; exact (below_size (by repeat (first | (with_reducible first | exact HB.out | apply below_alloc | apply pw_below_drewN | apply below_drew1) | exact HB.out))) : w.heap.size ≤ gb104)); clear HB; have HB := n0_; have BK104 := n1_; have GW104 := n2_; have GE104 := n3_; clear n0_ n1_ n2_ n3_; clear hb hbox hg))
 (try simp only [Act.put, List.setIfInBounds_toArray, List.set_cons_zero, List.set_cons_succ])
 go_cut [14] (fun v14 wc => ∃ (kq : Nat) (x14_1 : Bool), v14 = .bool x14_1 ∧ Aside0 (proteanref01_Right.j0 kq x14_1 a0_0 a0_1 a0_2 = some r) ∧ Aside0 (kq ≤ k) ∧ Aside0 (wc.heap[gb104]? = some (.cells #[.int .i64 a0_0, .string a0_1, .int .i64 a0_2] 76 (0, 0))) ∧ Aside0 (Below w.heap.size w wc))
 case first =>
  have H := HC2.out
  clear HC2
  by_cases c4 : (a0_1.size : Int) < 1
  ·rw [if_pos c4] at H
   have c4b0 : decide ((a0_1.size : Int) < 1) = true := decide_eq_true c4
   have c4b1 : decide (a0_1.size < 1) = true := decide_eq_true (by omega)
   clear c4
   (first | rw [c4b0] | (simp only [i64_w, i32_w]; rw [c4b0]) | skip)
   have H' := Aside0.mk H
   clear H
   have hcz5_0 : w3.cell? ⟨gb104, 0, none⟩ = some (.int .i64 a0_0) := (blk_cell BK104.out 0).trans rfl
   have hcz5_1 : w3.cell? ⟨gb104, 1, none⟩ = some (.string a0_1) := (blk_cell BK104.out 1).trans rfl
   have hcz5_2 : w3.cell? ⟨gb104, 2, none⟩ = some (.int .i64 a0_2) := (blk_cell BK104.out 2).trans rfl
   have hfz5_0 := blk_frozen BK104.out 0
   have hfz5_1 := blk_frozen BK104.out 1
   have hfz5_2 := blk_frozen BK104.out 2
   go_wp2
   go_meet
   case rel => exact ⟨_, (true), (by first | rfl | (simp; done) | (simp [*]; done)), H', ⟨by first | omega | exact Nat.le_refl _⟩, ⟨by (with_reducible repeat (first | refine blk_drewN ?_ _ | refine blk_drew ?_ | refine blk_alloc ?_ _)); exact BK104.out⟩, ⟨by repeat (first | (with_reducible first | exact HB.out | apply below_alloc | apply pw_below_drewN | apply below_drew1 | refine below_set ?_ GE104.out) | exact HB.out)⟩⟩
  ·rw [if_neg c4] at H
   have c4b0 : decide ((a0_1.size : Int) < 1) = false := decide_eq_false c4
   have c4b1 : decide (a0_1.size < 1) = false := decide_eq_false (by omega)
   clear c4
   (first | rw [c4b0] | (simp only [i64_w, i32_w]; rw [c4b0]) | skip)
   have H' := Aside0.mk H
   clear H
   have hcz6_0 : w3.cell? ⟨gb104, 0, none⟩ = some (.int .i64 a0_0) := (blk_cell BK104.out 0).trans rfl
   have hcz6_1 : w3.cell? ⟨gb104, 1, none⟩ = some (.string a0_1) := (blk_cell BK104.out 1).trans rfl
   have hcz6_2 : w3.cell? ⟨gb104, 2, none⟩ = some (.int .i64 a0_2) := (blk_cell BK104.out 2).trans rfl
   have hfz6_0 := blk_frozen BK104.out 0
   have hfz6_1 := blk_frozen BK104.out 1
   have hfz6_2 := blk_frozen BK104.out 2
   go_wp2
   go_meet
   case rel => exact ⟨_, (decide ((a0_1.size : Int) > 65536)), (by first | rfl | (simp; done) | (simp [*]; done)), H', ⟨by first | omega | exact Nat.le_refl _⟩, ⟨by (with_reducible repeat (first | refine blk_drewN ?_ _ | refine blk_drew ?_ | refine blk_alloc ?_ _)); exact BK104.out⟩, ⟨by repeat (first | (with_reducible first | exact HB.out | apply below_alloc | apply pw_below_drewN | apply below_drew1 | refine below_set ?_ GE104.out) | exact HB.out)⟩⟩
 case rest =>
  clear HC2
  try clear p2
  try clear c4
  try clear c4b0
  try clear c4b1
  try clear hcz5_0
  try clear hcz5_1
  try clear hcz5_2
  try clear hcz6_0
  try clear hcz6_1
  try clear hcz6_2
  try clear hfz5_0
  try clear hfz5_1
  try clear hfz5_2
  try clear hfz6_0
  try clear hfz6_1
  try clear hfz6_2
  obtain ⟨kq, x14_1, rfl, HA, HJ1, BK104, HB⟩ := hcut
  cases kq with
  | zero => exact absurd HA.out (by simp [proteanref01_Right.j0])
  | succ kj1 =>
   have H := HA.out
   clear HA
   simp only [proteanref01_Right.j0] at H
   by_cases c7 : x14_1 = true
   ·subst c7
    have H1 : (some false) = some r := by rw [if_pos rfl] at H; exact H
    clear H
    have H := H1
    clear H1
    obtain rfl := Option.some.inj H
    go_wp2
    go_ret
    exact ⟨by first | rfl | (simp [errW_none, errW_some] <;> rfl) | (simp [*, errW_none, errW_some] <;> rfl), by repeat (first | (with_reducible first | exact HB.out | apply below_alloc | apply pw_below_drewN | apply below_drew1 | refine below_set ?_ GE104.out) | exact HB.out)⟩
   ·replace c7 := Bool.eq_false_iff.mpr c7
    subst c7
    have H1 : (proteanref01_Right.l0 kj1 0 a0_0 a0_1 a0_2) = some r := by rw [if_neg (show ¬ (false = true) by decide)] at H; exact H
    clear H
    have H := H1
    clear H1
    have H' := Aside0.mk H
    clear H
    go_wp2
    go_loopg [3] kj1 (fun kq v3 w' => ∃ (x3_2 : Int), v3 = .int .i64 x3_2 ∧ Aside0 (proteanref01_Right.l0 kq x3_2 a0_0 a0_1 a0_2 = some r) ∧ Aside0 (kq ≤ kj1) ∧ Aside0 (w'.heap[gb104]? = some (.cells #[.int .i64 a0_0, .string a0_1, .int .i64 a0_2] 76 (0, 0))) ∧ Aside0 (Below w.heap.size w w'))
    case atStart => exact ⟨(0), (by first | rfl | (simp; done) | (simp [*]; done)), H', ⟨Nat.le_refl _⟩, ⟨by (with_reducible repeat (first | refine blk_drewN ?_ _ | refine blk_drew ?_ | refine blk_alloc ?_ _)); exact BK104.out⟩, ⟨by repeat (first | (with_reducible first | exact HB.out | apply below_alloc | apply pw_below_drewN | apply below_drew1 | refine below_set ?_ GE104.out) | exact HB.out)⟩⟩
    case round =>
     clear H'
     try clear p2
     try clear c4
     try clear c4b0
     try clear c4b1
     try clear c7
     try clear hcz5_0
     try clear hcz5_1
     try clear hcz5_2
     try clear hcz6_0
     try clear hcz6_1
     try clear hcz6_2
     try clear hfz5_0
     try clear hfz5_1
     try clear hfz5_2
     try clear hfz6_0
     try clear hfz6_1
     try clear hfz6_2
     try clear p2
     obtain ⟨x3_2, rfl, HA, HK2, BK104, HB⟩ := hrel
     cases gk with
     | zero => exact absurd HA.out (by simp [proteanref01_Right.l0])
     | succ k2 =>
      have H := HA.out
      clear HA
      simp only [proteanref01_Right.l0] at H
      by_cases c8 : x3_2 < (a0_1.size : Int)
      ·rw [if_pos c8] at H
       have c8b0 : decide (x3_2 < (a0_1.size : Int)) = true := decide_eq_true c8
       clear c8
       by_cases c9 : 0 ≤ x3_2
       ·rw [if_pos c9] at H
        have c9b0 : decide (0 ≤ x3_2) = true := decide_eq_true c9
        clear c9
        by_cases c11 : a0_0 = 0
        ·rw [if_pos c11] at H
         have c11b0 : (a0_0 == 0) = true := beq_iff_eq.mpr c11
         have c11b1 : (a0_0 != 0) = false := bne_eq_false_iff_eq.mpr c11
         clear c11
         replace H := Option.bind_eq_some_iff.mp H
         obtain ⟨t105, A120, H⟩ := H
         replace H : (if t105 = true then (if a0_0 = 1 then ((proteanref01_Digit.f (bt a0_1 x3_2)).bind fun t106 => (if t106 = true then (if a0_0 = 2 then ((proteanref01_Sign.f k2 (bt a0_1 x3_2)).bind fun t107 => (if t107 = true then (proteanref01_Right.l0 k2 (wrap64 (x3_2 + 1)) a0_0 a0_1 a0_2) else (some false))) else (proteanref01_Right.l0 k2 (wrap64 (x3_2 + 1)) a0_0 a0_1 a0_2)) else (some false))) else (if a0_0 = 2 then ((proteanref01_Sign.f k2 (bt a0_1 x3_2)).bind fun t108 => (if t108 = true then (proteanref01_Right.l0 k2 (wrap64 (x3_2 + 1)) a0_0 a0_1 a0_2) else (some false))) else (proteanref01_Right.l0 k2 (wrap64 (x3_2 + 1)) a0_0 a0_1 a0_2))) else (some false)) = some r := H
         have A12 := Aside0.mk A120
         clear A120
         by_cases c13 : t105 = true
         ·subst c13
          have H1 : (if a0_0 = 1 then ((proteanref01_Digit.f (bt a0_1 x3_2)).bind fun t106 => (if t106 = true then (if a0_0 = 2 then ((proteanref01_Sign.f k2 (bt a0_1 x3_2)).bind fun t107 => (if t107 = true then (proteanref01_Right.l0 k2 (wrap64 (x3_2 + 1)) a0_0 a0_1 a0_2) else (some false))) else (proteanref01_Right.l0 k2 (wrap64 (x3_2 + 1)) a0_0 a0_1 a0_2)) else (some false))) else (if a0_0 = 2 then ((proteanref01_Sign.f k2 (bt a0_1 x3_2)).bind fun t108 => (if t108 = true then (proteanref01_Right.l0 k2 (wrap64 (x3_2 + 1)) a0_0 a0_1 a0_2) else (some false))) else (proteanref01_Right.l0 k2 (wrap64 (x3_2 + 1)) a0_0 a0_1 a0_2))) = some r := by rw [if_pos rfl] at H; exact H
          clear H
          have H := H1
          clear H1
          by_cases c14 : a0_0 = 1
          ·rw [if_pos c14] at H
           have c14b0 : (a0_0 == 1) = true := beq_iff_eq.mpr c14
           have c14b1 : (a0_0 != 1) = false := bne_eq_false_iff_eq.mpr c14
           clear c14
           replace H := Option.bind_eq_some_iff.mp H
           obtain ⟨t106, A150, H⟩ := H
           replace H : (if t106 = true then (if a0_0 = 2 then ((proteanref01_Sign.f k2 (bt a0_1 x3_2)).bind fun t107 => (if t107 = true then (proteanref01_Right.l0 k2 (wrap64 (x3_2 + 1)) a0_0 a0_1 a0_2) else (some false))) else (proteanref01_Right.l0 k2 (wrap64 (x3_2 + 1)) a0_0 a0_1 a0_2)) else (some false)) = some r := H
           have A15 := Aside0.mk A150
           clear A150
           by_cases c16 : t106 = true
           ·subst c16
            have H1 : (if a0_0 = 2 then ((proteanref01_Sign.f k2 (bt a0_1 x3_2)).bind fun t107 => (if t107 = true then (proteanref01_Right.l0 k2 (wrap64 (x3_2 + 1)) a0_0 a0_1 a0_2) else (some false))) else (proteanref01_Right.l0 k2 (wrap64 (x3_2 + 1)) a0_0 a0_1 a0_2)) = some r := by rw [if_pos rfl] at H; exact H
            clear H
            have H := H1
            clear H1
            by_cases c17 : a0_0 = 2
            ·rw [if_pos c17] at H
             have c17b0 : (a0_0 == 2) = true := beq_iff_eq.mpr c17
             have c17b1 : (a0_0 != 2) = false := bne_eq_false_iff_eq.mpr c17
             clear c17
             replace H := Option.bind_eq_some_iff.mp H
             obtain ⟨t107, A180, H⟩ := H
             replace H : (if t107 = true then (proteanref01_Right.l0 k2 (wrap64 (x3_2 + 1)) a0_0 a0_1 a0_2) else (some false)) = some r := H
             have A18 := Aside0.mk A180
             clear A180
             by_cases c19 : t107 = true
             ·subst c19
              have H1 : (proteanref01_Right.l0 k2 (wrap64 (x3_2 + 1)) a0_0 a0_1 a0_2) = some r := by rw [if_pos rfl] at H; exact H
              clear H
              have H := H1
              clear H1
              have H' := Aside0.mk H
              clear H
              have hcz20_0 : wr.cell? ⟨gb104, 0, none⟩ = some (.int .i64 a0_0) := (blk_cell BK104.out 0).trans rfl
              have hcz20_1 : wr.cell? ⟨gb104, 1, none⟩ = some (.string a0_1) := (blk_cell BK104.out 1).trans rfl
              have hcz20_2 : wr.cell? ⟨gb104, 2, none⟩ = some (.int .i64 a0_2) := (blk_cell BK104.out 2).trans rfl
              have hfz20_0 := blk_frozen BK104.out 0
              have hfz20_1 := blk_frozen BK104.out 1
              have hfz20_2 := blk_frozen BK104.out 2
              have p10 : 0 ≤ (x3_2 : Int) := of_decide_eq_true (by first | (with_reducible assumption) | assumption)
              have q10 : x3_2 < (a0_1.size : Int) := of_decide_eq_true (by first | (with_reducible assumption) | assumption)
              have hx10 := bt_at a0_1 x3_2
              replace p10 := eq_true p10
              replace q10 := eq_true q10
              go_wp2_with (first | (go_at_call 44; (with_reducible refine (proteanref01_Inner.calls (bt a0_1 x3_2) true _ A12.out).mono ?_); rintro e w' ⟨rfl, ⟨nd, rfl⟩⟩) | (go_at_call 45; (with_reducible refine (proteanref01_Digit.calls (bt a0_1 x3_2) true _ A15.out).mono ?_); rintro e w' ⟨rfl, ⟨nd, rfl⟩⟩) | (go_at_call 46; (with_reducible refine (proteanref01_Sign.calls k2 (bt a0_1 x3_2) true _ A18.out).mono ?_); rintro e w' ⟨rfl, ⟨nd, rfl⟩⟩))
              go_roundg k2
              case measure => have := HJ1.out; have := HK2.out; omega
              case rel => exact ⟨(wrap64 (x3_2 + 1)), (by first | rfl | (simp; done) | (simp [*]; done)), H', ⟨by have := HJ1.out; have := HK2.out; omega⟩, ⟨by (with_reducible repeat (first | refine blk_drewN ?_ _ | refine blk_drew ?_ | refine blk_alloc ?_ _)); exact BK104.out⟩, ⟨by repeat (first | (with_reducible first | exact HB.out | apply below_alloc | apply pw_below_drewN | apply below_drew1 | refine below_set ?_ GE104.out) | exact HB.out)⟩⟩
             ·replace c19 := Bool.eq_false_iff.mpr c19
              subst c19
              have H1 : (some false) = some r := by rw [if_neg (show ¬ (false = true) by decide)] at H; exact H
              clear H
              have H := H1
              clear H1
              obtain rfl := Option.some.inj H
              have hcz21_0 : wr.cell? ⟨gb104, 0, none⟩ = some (.int .i64 a0_0) := (blk_cell BK104.out 0).trans rfl
              have hcz21_1 : wr.cell? ⟨gb104, 1, none⟩ = some (.string a0_1) := (blk_cell BK104.out 1).trans rfl
              have hcz21_2 : wr.cell? ⟨gb104, 2, none⟩ = some (.int .i64 a0_2) := (blk_cell BK104.out 2).trans rfl
              have hfz21_0 := blk_frozen BK104.out 0
              have hfz21_1 := blk_frozen BK104.out 1
              have hfz21_2 := blk_frozen BK104.out 2
              have p10 : 0 ≤ (x3_2 : Int) := of_decide_eq_true (by first | (with_reducible assumption) | assumption)
              have q10 : x3_2 < (a0_1.size : Int) := of_decide_eq_true (by first | (with_reducible assumption) | assumption)
              have hx10 := bt_at a0_1 x3_2
              replace p10 := eq_true p10
              replace q10 := eq_true q10
              go_wp2_with (first | (go_at_call 44; (with_reducible refine (proteanref01_Inner.calls (bt a0_1 x3_2) true _ A12.out).mono ?_); rintro e w' ⟨rfl, ⟨nd, rfl⟩⟩) | (go_at_call 45; (with_reducible refine (proteanref01_Digit.calls (bt a0_1 x3_2) true _ A15.out).mono ?_); rintro e w' ⟨rfl, ⟨nd, rfl⟩⟩) | (go_at_call 46; (with_reducible refine (proteanref01_Sign.calls k2 (bt a0_1 x3_2) false _ A18.out).mono ?_); rintro e w' ⟨rfl, ⟨nd, rfl⟩⟩))
              go_ret
              exact ⟨by first | rfl | (simp [errW_none, errW_some] <;> rfl) | (simp [*, errW_none, errW_some] <;> rfl), by repeat (first | (with_reducible first | exact HB.out | apply below_alloc | apply pw_below_drewN | apply below_drew1 | refine below_set ?_ GE104.out) | exact HB.out)⟩
            ·rw [if_neg c17] at H
             have c17b0 : (a0_0 == 2) = false := beq_eq_false_iff_ne.mpr c17
             have c17b1 : (a0_0 != 2) = true := bne_iff_ne.mpr c17
             have H' := Aside0.mk H
             clear H
             have hcz22_0 : wr.cell? ⟨gb104, 0, none⟩ = some (.int .i64 a0_0) := (blk_cell BK104.out 0).trans rfl
             have hcz22_1 : wr.cell? ⟨gb104, 1, none⟩ = some (.string a0_1) := (blk_cell BK104.out 1).trans rfl
             have hcz22_2 : wr.cell? ⟨gb104, 2, none⟩ = some (.int .i64 a0_2) := (blk_cell BK104.out 2).trans rfl
             have hfz22_0 := blk_frozen BK104.out 0
             have hfz22_1 := blk_frozen BK104.out 1
             have hfz22_2 := blk_frozen BK104.out 2
             have p10 : 0 ≤ (x3_2 : Int) := of_decide_eq_true (by first | (with_reducible assumption) | assumption)
             have q10 : x3_2 < (a0_1.size : Int) := of_decide_eq_true (by first | (with_reducible assumption) | assumption)
             have hx10 := bt_at a0_1 x3_2
             replace p10 := eq_true p10
             replace q10 := eq_true q10
             go_wp2_with (first | (go_at_call 44; (with_reducible refine (proteanref01_Inner.calls (bt a0_1 x3_2) true _ A12.out).mono ?_); rintro e w' ⟨rfl, ⟨nd, rfl⟩⟩) | (go_at_call 45; (with_reducible refine (proteanref01_Digit.calls (bt a0_1 x3_2) true _ A15.out).mono ?_); rintro e w' ⟨rfl, ⟨nd, rfl⟩⟩))
             go_roundg k2
             case measure => have := HJ1.out; have := HK2.out; omega
             case rel => exact ⟨(wrap64 (x3_2 + 1)), (by first | rfl | (simp; done) | (simp [*]; done)), H', ⟨by have := HJ1.out; have := HK2.out; omega⟩, ⟨by (with_reducible repeat (first | refine blk_drewN ?_ _ | refine blk_drew ?_ | refine blk_alloc ?_ _)); exact BK104.out⟩, ⟨by repeat (first | (with_reducible first | exact HB.out | apply below_alloc | apply pw_below_drewN | apply below_drew1 | refine below_set ?_ GE104.out) | exact HB.out)⟩⟩
           ·replace c16 := Bool.eq_false_iff.mpr c16
            subst c16
            have H1 : (some false) = some r := by rw [if_neg (show ¬ (false = true) by decide)] at H; exact H
            clear H
            have H := H1
            clear H1
            obtain rfl := Option.some.inj H
            have hcz23_0 : wr.cell? ⟨gb104, 0, none⟩ = some (.int .i64 a0_0) := (blk_cell BK104.out 0).trans rfl
            have hcz23_1 : wr.cell? ⟨gb104, 1, none⟩ = some (.string a0_1) := (blk_cell BK104.out 1).trans rfl
            have hcz23_2 : wr.cell? ⟨gb104, 2, none⟩ = some (.int .i64 a0_2) := (blk_cell BK104.out 2).trans rfl
            have hfz23_0 := blk_frozen BK104.out 0
            have hfz23_1 := blk_frozen BK104.out 1
            have hfz23_2 := blk_frozen BK104.out 2
            have p10 : 0 ≤ (x3_2 : Int) := of_decide_eq_true (by first | (with_reducible assumption) | assumption)
            have q10 : x3_2 < (a0_1.size : Int) := of_decide_eq_true (by first | (with_reducible assumption) | assumption)
            have hx10 := bt_at a0_1 x3_2
            replace p10 := eq_true p10
            replace q10 := eq_true q10
            go_wp2_with (first | (go_at_call 44; (with_reducible refine (proteanref01_Inner.calls (bt a0_1 x3_2) true _ A12.out).mono ?_); rintro e w' ⟨rfl, ⟨nd, rfl⟩⟩) | (go_at_call 45; (with_reducible refine (proteanref01_Digit.calls (bt a0_1 x3_2) false _ A15.out).mono ?_); rintro e w' ⟨rfl, ⟨nd, rfl⟩⟩))
            go_ret
            exact ⟨by first | rfl | (simp [errW_none, errW_some] <;> rfl) | (simp [*, errW_none, errW_some] <;> rfl), by repeat (first | (with_reducible first | exact HB.out | apply below_alloc | apply pw_below_drewN | apply below_drew1 | refine below_set ?_ GE104.out) | exact HB.out)⟩
          ·rw [if_neg c14] at H
           have c14b0 : (a0_0 == 1) = false := beq_eq_false_iff_ne.mpr c14
           have c14b1 : (a0_0 != 1) = true := bne_iff_ne.mpr c14
           by_cases c24 : a0_0 = 2
           ·rw [if_pos c24] at H
            have c24b0 : (a0_0 == 2) = true := beq_iff_eq.mpr c24
            have c24b1 : (a0_0 != 2) = false := bne_eq_false_iff_eq.mpr c24
            clear c24
            replace H := Option.bind_eq_some_iff.mp H
            obtain ⟨t108, A250, H⟩ := H
            replace H : (if t108 = true then (proteanref01_Right.l0 k2 (wrap64 (x3_2 + 1)) a0_0 a0_1 a0_2) else (some false)) = some r := H
            have A25 := Aside0.mk A250
            clear A250
            by_cases c26 : t108 = true
            ·subst c26
             have H1 : (proteanref01_Right.l0 k2 (wrap64 (x3_2 + 1)) a0_0 a0_1 a0_2) = some r := by rw [if_pos rfl] at H; exact H
             clear H
             have H := H1
             clear H1
             have H' := Aside0.mk H
             clear H
             have hcz27_0 : wr.cell? ⟨gb104, 0, none⟩ = some (.int .i64 a0_0) := (blk_cell BK104.out 0).trans rfl
             have hcz27_1 : wr.cell? ⟨gb104, 1, none⟩ = some (.string a0_1) := (blk_cell BK104.out 1).trans rfl
             have hcz27_2 : wr.cell? ⟨gb104, 2, none⟩ = some (.int .i64 a0_2) := (blk_cell BK104.out 2).trans rfl
             have hfz27_0 := blk_frozen BK104.out 0
             have hfz27_1 := blk_frozen BK104.out 1
             have hfz27_2 := blk_frozen BK104.out 2
             have p10 : 0 ≤ (x3_2 : Int) := of_decide_eq_true (by first | (with_reducible assumption) | assumption)
             have q10 : x3_2 < (a0_1.size : Int) := of_decide_eq_true (by first | (with_reducible assumption) | assumption)
             have hx10 := bt_at a0_1 x3_2
             replace p10 := eq_true p10
             replace q10 := eq_true q10
             go_wp2_with (first | (go_at_call 44; (with_reducible refine (proteanref01_Inner.calls (bt a0_1 x3_2) true _ A12.out).mono ?_); rintro e w' ⟨rfl, ⟨nd, rfl⟩⟩) | (go_at_call 46; (with_reducible refine (proteanref01_Sign.calls k2 (bt a0_1 x3_2) true _ A25.out).mono ?_); rintro e w' ⟨rfl, ⟨nd, rfl⟩⟩))
             go_roundg k2
             case measure => have := HJ1.out; have := HK2.out; omega
             case rel => exact ⟨(wrap64 (x3_2 + 1)), (by first | rfl | (simp; done) | (simp [*]; done)), H', ⟨by have := HJ1.out; have := HK2.out; omega⟩, ⟨by (with_reducible repeat (first | refine blk_drewN ?_ _ | refine blk_drew ?_ | refine blk_alloc ?_ _)); exact BK104.out⟩, ⟨by repeat (first | (with_reducible first | exact HB.out | apply below_alloc | apply pw_below_drewN | apply below_drew1 | refine below_set ?_ GE104.out) | exact HB.out)⟩⟩
            ·replace c26 := Bool.eq_false_iff.mpr c26
             subst c26
             have H1 : (some false) = some r := by rw [if_neg (show ¬ (false = true) by decide)] at H; exact H
             clear H
             have H := H1
             clear H1
             obtain rfl := Option.some.inj H
             have hcz28_0 : wr.cell? ⟨gb104, 0, none⟩ = some (.int .i64 a0_0) := (blk_cell BK104.out 0).trans rfl
             have hcz28_1 : wr.cell? ⟨gb104, 1, none⟩ = some (.string a0_1) := (blk_cell BK104.out 1).trans rfl
             have hcz28_2 : wr.cell? ⟨gb104, 2, none⟩ = some (.int .i64 a0_2) := (blk_cell BK104.out 2).trans rfl
             have hfz28_0 := blk_frozen BK104.out 0
             have hfz28_1 := blk_frozen BK104.out 1
             have hfz28_2 := blk_frozen BK104.out 2
             have p10 : 0 ≤ (x3_2 : Int) := of_decide_eq_true (by first | (with_reducible assumption) | assumption)
             have q10 : x3_2 < (a0_1.size : Int) := of_decide_eq_true (by first | (with_reducible assumption) | assumption)
             have hx10 := bt_at a0_1 x3_2
             replace p10 := eq_true p10
             replace q10 := eq_true q10
             go_wp2_with (first | (go_at_call 44; (with_reducible refine (proteanref01_Inner.calls (bt a0_1 x3_2) true _ A12.out).mono ?_); rintro e w' ⟨rfl, ⟨nd, rfl⟩⟩) | (go_at_call 46; (with_reducible refine (proteanref01_Sign.calls k2 (bt a0_1 x3_2) false _ A25.out).mono ?_); rintro e w' ⟨rfl, ⟨nd, rfl⟩⟩))
             go_ret
             exact ⟨by first | rfl | (simp [errW_none, errW_some] <;> rfl) | (simp [*, errW_none, errW_some] <;> rfl), by repeat (first | (with_reducible first | exact HB.out | apply below_alloc | apply pw_below_drewN | apply below_drew1 | refine below_set ?_ GE104.out) | exact HB.out)⟩
           ·rw [if_neg c24] at H
            have c24b0 : (a0_0 == 2) = false := beq_eq_false_iff_ne.mpr c24
            have c24b1 : (a0_0 != 2) = true := bne_iff_ne.mpr c24
            have H' := Aside0.mk H
            clear H
            have hcz29_0 : wr.cell? ⟨gb104, 0, none⟩ = some (.int .i64 a0_0) := (blk_cell BK104.out 0).trans rfl
            have hcz29_1 : wr.cell? ⟨gb104, 1, none⟩ = some (.string a0_1) := (blk_cell BK104.out 1).trans rfl
            have hcz29_2 : wr.cell? ⟨gb104, 2, none⟩ = some (.int .i64 a0_2) := (blk_cell BK104.out 2).trans rfl
            have hfz29_0 := blk_frozen BK104.out 0
            have hfz29_1 := blk_frozen BK104.out 1
            have hfz29_2 := blk_frozen BK104.out 2
            have p10 : 0 ≤ (x3_2 : Int) := of_decide_eq_true (by first | (with_reducible assumption) | assumption)
            have q10 : x3_2 < (a0_1.size : Int) := of_decide_eq_true (by first | (with_reducible assumption) | assumption)
            have hx10 := bt_at a0_1 x3_2
            replace p10 := eq_true p10
            replace q10 := eq_true q10
            go_wp2_with (first | (go_at_call 44; (with_reducible refine (proteanref01_Inner.calls (bt a0_1 x3_2) true _ A12.out).mono ?_); rintro e w' ⟨rfl, ⟨nd, rfl⟩⟩))
            go_roundg k2
            case measure => have := HJ1.out; have := HK2.out; omega
            case rel => exact ⟨(wrap64 (x3_2 + 1)), (by first | rfl | (simp; done) | (simp [*]; done)), H', ⟨by have := HJ1.out; have := HK2.out; omega⟩, ⟨by (with_reducible repeat (first | refine blk_drewN ?_ _ | refine blk_drew ?_ | refine blk_alloc ?_ _)); exact BK104.out⟩, ⟨by repeat (first | (with_reducible first | exact HB.out | apply below_alloc | apply pw_below_drewN | apply below_drew1 | refine below_set ?_ GE104.out) | exact HB.out)⟩⟩
         ·replace c13 := Bool.eq_false_iff.mpr c13
          subst c13
          have H1 : (some false) = some r := by rw [if_neg (show ¬ (false = true) by decide)] at H; exact H
          clear H
          have H := H1
          clear H1
          obtain rfl := Option.some.inj H
          have hcz30_0 : wr.cell? ⟨gb104, 0, none⟩ = some (.int .i64 a0_0) := (blk_cell BK104.out 0).trans rfl
          have hcz30_1 : wr.cell? ⟨gb104, 1, none⟩ = some (.string a0_1) := (blk_cell BK104.out 1).trans rfl
          have hcz30_2 : wr.cell? ⟨gb104, 2, none⟩ = some (.int .i64 a0_2) := (blk_cell BK104.out 2).trans rfl
          have hfz30_0 := blk_frozen BK104.out 0
          have hfz30_1 := blk_frozen BK104.out 1
          have hfz30_2 := blk_frozen BK104.out 2
          have p10 : 0 ≤ (x3_2 : Int) := of_decide_eq_true (by first | (with_reducible assumption) | assumption)
          have q10 : x3_2 < (a0_1.size : Int) := of_decide_eq_true (by first | (with_reducible assumption) | assumption)
          have hx10 := bt_at a0_1 x3_2
          replace p10 := eq_true p10
          replace q10 := eq_true q10
          go_wp2_with (first | (go_at_call 44; (with_reducible refine (proteanref01_Inner.calls (bt a0_1 x3_2) false _ A12.out).mono ?_); rintro e w' ⟨rfl, ⟨nd, rfl⟩⟩))
          go_ret
          exact ⟨by first | rfl | (simp [errW_none, errW_some] <;> rfl) | (simp [*, errW_none, errW_some] <;> rfl), by repeat (first | (with_reducible first | exact HB.out | apply below_alloc | apply pw_below_drewN | apply below_drew1 | refine below_set ?_ GE104.out) | exact HB.out)⟩
        ·rw [if_neg c11] at H
         have c11b0 : (a0_0 == 0) = false := beq_eq_false_iff_ne.mpr c11
         have c11b1 : (a0_0 != 0) = true := bne_iff_ne.mpr c11
         by_cases c31 : a0_0 = 1
         ·rw [if_pos c31] at H
          have c31b0 : (a0_0 == 1) = true := beq_iff_eq.mpr c31
          have c31b1 : (a0_0 != 1) = false := bne_eq_false_iff_eq.mpr c31
          clear c31
          replace H := Option.bind_eq_some_iff.mp H
          obtain ⟨t109, A320, H⟩ := H
          replace H : (if t109 = true then (if a0_0 = 2 then ((proteanref01_Sign.f k2 (bt a0_1 x3_2)).bind fun t110 => (if t110 = true then (proteanref01_Right.l0 k2 (wrap64 (x3_2 + 1)) a0_0 a0_1 a0_2) else (some false))) else (proteanref01_Right.l0 k2 (wrap64 (x3_2 + 1)) a0_0 a0_1 a0_2)) else (some false)) = some r := H
          have A32 := Aside0.mk A320
          clear A320
          by_cases c33 : t109 = true
          ·subst c33
           have H1 : (if a0_0 = 2 then ((proteanref01_Sign.f k2 (bt a0_1 x3_2)).bind fun t110 => (if t110 = true then (proteanref01_Right.l0 k2 (wrap64 (x3_2 + 1)) a0_0 a0_1 a0_2) else (some false))) else (proteanref01_Right.l0 k2 (wrap64 (x3_2 + 1)) a0_0 a0_1 a0_2)) = some r := by rw [if_pos rfl] at H; exact H
           clear H
           have H := H1
           clear H1
           by_cases c34 : a0_0 = 2
           ·rw [if_pos c34] at H
            have c34b0 : (a0_0 == 2) = true := beq_iff_eq.mpr c34
            have c34b1 : (a0_0 != 2) = false := bne_eq_false_iff_eq.mpr c34
            clear c34
            replace H := Option.bind_eq_some_iff.mp H
            obtain ⟨t110, A350, H⟩ := H
            replace H : (if t110 = true then (proteanref01_Right.l0 k2 (wrap64 (x3_2 + 1)) a0_0 a0_1 a0_2) else (some false)) = some r := H
            have A35 := Aside0.mk A350
            clear A350
            by_cases c36 : t110 = true
            ·subst c36
             have H1 : (proteanref01_Right.l0 k2 (wrap64 (x3_2 + 1)) a0_0 a0_1 a0_2) = some r := by rw [if_pos rfl] at H; exact H
             clear H
             have H := H1
             clear H1
             have H' := Aside0.mk H
             clear H
             have hcz37_0 : wr.cell? ⟨gb104, 0, none⟩ = some (.int .i64 a0_0) := (blk_cell BK104.out 0).trans rfl
             have hcz37_1 : wr.cell? ⟨gb104, 1, none⟩ = some (.string a0_1) := (blk_cell BK104.out 1).trans rfl
             have hcz37_2 : wr.cell? ⟨gb104, 2, none⟩ = some (.int .i64 a0_2) := (blk_cell BK104.out 2).trans rfl
             have hfz37_0 := blk_frozen BK104.out 0
             have hfz37_1 := blk_frozen BK104.out 1
             have hfz37_2 := blk_frozen BK104.out 2
             have p10 : 0 ≤ (x3_2 : Int) := of_decide_eq_true (by first | (with_reducible assumption) | assumption)
             have q10 : x3_2 < (a0_1.size : Int) := of_decide_eq_true (by first | (with_reducible assumption) | assumption)
             have hx10 := bt_at a0_1 x3_2
             replace p10 := eq_true p10
             replace q10 := eq_true q10
             go_wp2_with (first | (go_at_call 45; (with_reducible refine (proteanref01_Digit.calls (bt a0_1 x3_2) true _ A32.out).mono ?_); rintro e w' ⟨rfl, ⟨nd, rfl⟩⟩) | (go_at_call 46; (with_reducible refine (proteanref01_Sign.calls k2 (bt a0_1 x3_2) true _ A35.out).mono ?_); rintro e w' ⟨rfl, ⟨nd, rfl⟩⟩))
             go_roundg k2
             case measure => have := HJ1.out; have := HK2.out; omega
             case rel => exact ⟨(wrap64 (x3_2 + 1)), (by first | rfl | (simp; done) | (simp [*]; done)), H', ⟨by have := HJ1.out; have := HK2.out; omega⟩, ⟨by (with_reducible repeat (first | refine blk_drewN ?_ _ | refine blk_drew ?_ | refine blk_alloc ?_ _)); exact BK104.out⟩, ⟨by repeat (first | (with_reducible first | exact HB.out | apply below_alloc | apply pw_below_drewN | apply below_drew1 | refine below_set ?_ GE104.out) | exact HB.out)⟩⟩
            ·replace c36 := Bool.eq_false_iff.mpr c36
             subst c36
             have H1 : (some false) = some r := by rw [if_neg (show ¬ (false = true) by decide)] at H; exact H
             clear H
             have H := H1
             clear H1
             obtain rfl := Option.some.inj H
             have hcz38_0 : wr.cell? ⟨gb104, 0, none⟩ = some (.int .i64 a0_0) := (blk_cell BK104.out 0).trans rfl
             have hcz38_1 : wr.cell? ⟨gb104, 1, none⟩ = some (.string a0_1) := (blk_cell BK104.out 1).trans rfl
             have hcz38_2 : wr.cell? ⟨gb104, 2, none⟩ = some (.int .i64 a0_2) := (blk_cell BK104.out 2).trans rfl
             have hfz38_0 := blk_frozen BK104.out 0
             have hfz38_1 := blk_frozen BK104.out 1
             have hfz38_2 := blk_frozen BK104.out 2
             have p10 : 0 ≤ (x3_2 : Int) := of_decide_eq_true (by first | (with_reducible assumption) | assumption)
             have q10 : x3_2 < (a0_1.size : Int) := of_decide_eq_true (by first | (with_reducible assumption) | assumption)
             have hx10 := bt_at a0_1 x3_2
             replace p10 := eq_true p10
             replace q10 := eq_true q10
             go_wp2_with (first | (go_at_call 45; (with_reducible refine (proteanref01_Digit.calls (bt a0_1 x3_2) true _ A32.out).mono ?_); rintro e w' ⟨rfl, ⟨nd, rfl⟩⟩) | (go_at_call 46; (with_reducible refine (proteanref01_Sign.calls k2 (bt a0_1 x3_2) false _ A35.out).mono ?_); rintro e w' ⟨rfl, ⟨nd, rfl⟩⟩))
             go_ret
             exact ⟨by first | rfl | (simp [errW_none, errW_some] <;> rfl) | (simp [*, errW_none, errW_some] <;> rfl), by repeat (first | (with_reducible first | exact HB.out | apply below_alloc | apply pw_below_drewN | apply below_drew1 | refine below_set ?_ GE104.out) | exact HB.out)⟩
           ·rw [if_neg c34] at H
            have c34b0 : (a0_0 == 2) = false := beq_eq_false_iff_ne.mpr c34
            have c34b1 : (a0_0 != 2) = true := bne_iff_ne.mpr c34
            have H' := Aside0.mk H
            clear H
            have hcz39_0 : wr.cell? ⟨gb104, 0, none⟩ = some (.int .i64 a0_0) := (blk_cell BK104.out 0).trans rfl
            have hcz39_1 : wr.cell? ⟨gb104, 1, none⟩ = some (.string a0_1) := (blk_cell BK104.out 1).trans rfl
            have hcz39_2 : wr.cell? ⟨gb104, 2, none⟩ = some (.int .i64 a0_2) := (blk_cell BK104.out 2).trans rfl
            have hfz39_0 := blk_frozen BK104.out 0
            have hfz39_1 := blk_frozen BK104.out 1
            have hfz39_2 := blk_frozen BK104.out 2
            have p10 : 0 ≤ (x3_2 : Int) := of_decide_eq_true (by first | (with_reducible assumption) | assumption)
            have q10 : x3_2 < (a0_1.size : Int) := of_decide_eq_true (by first | (with_reducible assumption) | assumption)
            have hx10 := bt_at a0_1 x3_2
            replace p10 := eq_true p10
            replace q10 := eq_true q10
            go_wp2_with (first | (go_at_call 45; (with_reducible refine (proteanref01_Digit.calls (bt a0_1 x3_2) true _ A32.out).mono ?_); rintro e w' ⟨rfl, ⟨nd, rfl⟩⟩))
            go_roundg k2
            case measure => have := HJ1.out; have := HK2.out; omega
            case rel => exact ⟨(wrap64 (x3_2 + 1)), (by first | rfl | (simp; done) | (simp [*]; done)), H', ⟨by have := HJ1.out; have := HK2.out; omega⟩, ⟨by (with_reducible repeat (first | refine blk_drewN ?_ _ | refine blk_drew ?_ | refine blk_alloc ?_ _)); exact BK104.out⟩, ⟨by repeat (first | (with_reducible first | exact HB.out | apply below_alloc | apply pw_below_drewN | apply below_drew1 | refine below_set ?_ GE104.out) | exact HB.out)⟩⟩
          ·replace c33 := Bool.eq_false_iff.mpr c33
           subst c33
           have H1 : (some false) = some r := by rw [if_neg (show ¬ (false = true) by decide)] at H; exact H
           clear H
           have H := H1
           clear H1
           obtain rfl := Option.some.inj H
           have hcz40_0 : wr.cell? ⟨gb104, 0, none⟩ = some (.int .i64 a0_0) := (blk_cell BK104.out 0).trans rfl
           have hcz40_1 : wr.cell? ⟨gb104, 1, none⟩ = some (.string a0_1) := (blk_cell BK104.out 1).trans rfl
           have hcz40_2 : wr.cell? ⟨gb104, 2, none⟩ = some (.int .i64 a0_2) := (blk_cell BK104.out 2).trans rfl
           have hfz40_0 := blk_frozen BK104.out 0
           have hfz40_1 := blk_frozen BK104.out 1
           have hfz40_2 := blk_frozen BK104.out 2
           have p10 : 0 ≤ (x3_2 : Int) := of_decide_eq_true (by first | (with_reducible assumption) | assumption)
           have q10 : x3_2 < (a0_1.size : Int) := of_decide_eq_true (by first | (with_reducible assumption) | assumption)
           have hx10 := bt_at a0_1 x3_2
           replace p10 := eq_true p10
           replace q10 := eq_true q10
           go_wp2_with (first | (go_at_call 45; (with_reducible refine (proteanref01_Digit.calls (bt a0_1 x3_2) false _ A32.out).mono ?_); rintro e w' ⟨rfl, ⟨nd, rfl⟩⟩))
           go_ret
           exact ⟨by first | rfl | (simp [errW_none, errW_some] <;> rfl) | (simp [*, errW_none, errW_some] <;> rfl), by repeat (first | (with_reducible first | exact HB.out | apply below_alloc | apply pw_below_drewN | apply below_drew1 | refine below_set ?_ GE104.out) | exact HB.out)⟩
         ·rw [if_neg c31] at H
          have c31b0 : (a0_0 == 1) = false := beq_eq_false_iff_ne.mpr c31
          have c31b1 : (a0_0 != 1) = true := bne_iff_ne.mpr c31
          by_cases c41 : a0_0 = 2
          ·rw [if_pos c41] at H
           have c41b0 : (a0_0 == 2) = true := beq_iff_eq.mpr c41
           have c41b1 : (a0_0 != 2) = false := bne_eq_false_iff_eq.mpr c41
           clear c41
           replace H := Option.bind_eq_some_iff.mp H
           obtain ⟨t111, A420, H⟩ := H
           replace H : (if t111 = true then (proteanref01_Right.l0 k2 (wrap64 (x3_2 + 1)) a0_0 a0_1 a0_2) else (some false)) = some r := H
           have A42 := Aside0.mk A420
           clear A420
           by_cases c43 : t111 = true
           ·subst c43
            have H1 : (proteanref01_Right.l0 k2 (wrap64 (x3_2 + 1)) a0_0 a0_1 a0_2) = some r := by rw [if_pos rfl] at H; exact H
            clear H
            have H := H1
            clear H1
            have H' := Aside0.mk H
            clear H
            have hcz44_0 : wr.cell? ⟨gb104, 0, none⟩ = some (.int .i64 a0_0) := (blk_cell BK104.out 0).trans rfl
            have hcz44_1 : wr.cell? ⟨gb104, 1, none⟩ = some (.string a0_1) := (blk_cell BK104.out 1).trans rfl
            have hcz44_2 : wr.cell? ⟨gb104, 2, none⟩ = some (.int .i64 a0_2) := (blk_cell BK104.out 2).trans rfl
            have hfz44_0 := blk_frozen BK104.out 0
            have hfz44_1 := blk_frozen BK104.out 1
            have hfz44_2 := blk_frozen BK104.out 2
            have p10 : 0 ≤ (x3_2 : Int) := of_decide_eq_true (by first | (with_reducible assumption) | assumption)
            have q10 : x3_2 < (a0_1.size : Int) := of_decide_eq_true (by first | (with_reducible assumption) | assumption)
            have hx10 := bt_at a0_1 x3_2
            replace p10 := eq_true p10
            replace q10 := eq_true q10
            go_wp2_with (first | (go_at_call 46; (with_reducible refine (proteanref01_Sign.calls k2 (bt a0_1 x3_2) true _ A42.out).mono ?_); rintro e w' ⟨rfl, ⟨nd, rfl⟩⟩))
            go_roundg k2
            case measure => have := HJ1.out; have := HK2.out; omega
            case rel => exact ⟨(wrap64 (x3_2 + 1)), (by first | rfl | (simp; done) | (simp [*]; done)), H', ⟨by have := HJ1.out; have := HK2.out; omega⟩, ⟨by (with_reducible repeat (first | refine blk_drewN ?_ _ | refine blk_drew ?_ | refine blk_alloc ?_ _)); exact BK104.out⟩, ⟨by repeat (first | (with_reducible first | exact HB.out | apply below_alloc | apply pw_below_drewN | apply below_drew1 | refine below_set ?_ GE104.out) | exact HB.out)⟩⟩
           ·replace c43 := Bool.eq_false_iff.mpr c43
            subst c43
            have H1 : (some false) = some r := by rw [if_neg (show ¬ (false = true) by decide)] at H; exact H
            clear H
            have H := H1
            clear H1
            obtain rfl := Option.some.inj H
            have hcz45_0 : wr.cell? ⟨gb104, 0, none⟩ = some (.int .i64 a0_0) := (blk_cell BK104.out 0).trans rfl
            have hcz45_1 : wr.cell? ⟨gb104, 1, none⟩ = some (.string a0_1) := (blk_cell BK104.out 1).trans rfl
            have hcz45_2 : wr.cell? ⟨gb104, 2, none⟩ = some (.int .i64 a0_2) := (blk_cell BK104.out 2).trans rfl
            have hfz45_0 := blk_frozen BK104.out 0
            have hfz45_1 := blk_frozen BK104.out 1
            have hfz45_2 := blk_frozen BK104.out 2
            have p10 : 0 ≤ (x3_2 : Int) := of_decide_eq_true (by first | (with_reducible assumption) | assumption)
            have q10 : x3_2 < (a0_1.size : Int) := of_decide_eq_true (by first | (with_reducible assumption) | assumption)
            have hx10 := bt_at a0_1 x3_2
            replace p10 := eq_true p10
            replace q10 := eq_true q10
            go_wp2_with (first | (go_at_call 46; (with_reducible refine (proteanref01_Sign.calls k2 (bt a0_1 x3_2) false _ A42.out).mono ?_); rintro e w' ⟨rfl, ⟨nd, rfl⟩⟩))
            go_ret
            exact ⟨by first | rfl | (simp [errW_none, errW_some] <;> rfl) | (simp [*, errW_none, errW_some] <;> rfl), by repeat (first | (with_reducible first | exact HB.out | apply below_alloc | apply pw_below_drewN | apply below_drew1 | refine below_set ?_ GE104.out) | exact HB.out)⟩
          ·rw [if_neg c41] at H
           have c41b0 : (a0_0 == 2) = false := beq_eq_false_iff_ne.mpr c41
           have c41b1 : (a0_0 != 2) = true := bne_iff_ne.mpr c41
           have H' := Aside0.mk H
           clear H
           have hcz46_0 : wr.cell? ⟨gb104, 0, none⟩ = some (.int .i64 a0_0) := (blk_cell BK104.out 0).trans rfl
           have hcz46_1 : wr.cell? ⟨gb104, 1, none⟩ = some (.string a0_1) := (blk_cell BK104.out 1).trans rfl
           have hcz46_2 : wr.cell? ⟨gb104, 2, none⟩ = some (.int .i64 a0_2) := (blk_cell BK104.out 2).trans rfl
           have hfz46_0 := blk_frozen BK104.out 0
           have hfz46_1 := blk_frozen BK104.out 1
           have hfz46_2 := blk_frozen BK104.out 2
           have p10 : 0 ≤ (x3_2 : Int) := of_decide_eq_true (by first | (with_reducible assumption) | assumption)
           have q10 : x3_2 < (a0_1.size : Int) := of_decide_eq_true (by first | (with_reducible assumption) | assumption)
           have hx10 := bt_at a0_1 x3_2
           replace p10 := eq_true p10
           replace q10 := eq_true q10
           go_wp2
           go_roundg k2
           case measure => have := HJ1.out; have := HK2.out; omega
           case rel => exact ⟨(wrap64 (x3_2 + 1)), (by first | rfl | (simp; done) | (simp [*]; done)), H', ⟨by have := HJ1.out; have := HK2.out; omega⟩, ⟨by (with_reducible repeat (first | refine blk_drewN ?_ _ | refine blk_drew ?_ | refine blk_alloc ?_ _)); exact BK104.out⟩, ⟨by repeat (first | (with_reducible first | exact HB.out | apply below_alloc | apply pw_below_drewN | apply below_drew1 | refine below_set ?_ GE104.out) | exact HB.out)⟩⟩
       ·rw [if_neg c9] at H
        exact absurd H (by simp)
      ·rw [if_neg c8] at H
       have c8b0 : decide (x3_2 < (a0_1.size : Int)) = false := decide_eq_false c8
       clear c8
       by_cases c47 : a0_0 = 0
       ·rw [if_pos c47] at H
        have c47b0 : (a0_0 == 0) = true := beq_iff_eq.mpr c47
        have c47b1 : (a0_0 != 0) = false := bne_eq_false_iff_eq.mpr c47
        clear c47
        by_cases c48 : 0 < (a0_1.size : Int)
        ·rw [if_pos c48] at H
         have c48b0 : decide (0 < (a0_1.size : Int)) = true := decide_eq_true c48
         have c48b1 : decide (0 < a0_1.size) = true := decide_eq_true (by omega)
         clear c48
         replace H := Option.bind_eq_some_iff.mp H
         obtain ⟨t112, A500, H⟩ := H
         replace H : (some t112) = some r := H
         have A50 := Aside0.mk A500
         clear A500
         obtain rfl := Option.some.inj H
         have hcz51_0 : wr.cell? ⟨gb104, 0, none⟩ = some (.int .i64 a0_0) := (blk_cell BK104.out 0).trans rfl
         have hcz51_1 : wr.cell? ⟨gb104, 1, none⟩ = some (.string a0_1) := (blk_cell BK104.out 1).trans rfl
         have hcz51_2 : wr.cell? ⟨gb104, 2, none⟩ = some (.int .i64 a0_2) := (blk_cell BK104.out 2).trans rfl
         have hfz51_0 := blk_frozen BK104.out 0
         have hfz51_1 := blk_frozen BK104.out 1
         have hfz51_2 := blk_frozen BK104.out 2
         have p49 : 0 ≤ (0 : Int) := (by omega)
         have q49 : 0 < a0_1.size := (by have : (0 : Int) < (a0_1.size : Int) := of_decide_eq_true (by first | (with_reducible assumption) | assumption); omega)
         have hx49 : ∀ h : 0 < a0_1.size, ((a0_1[0]'h).toNat : Int) = bt a0_1 0 := bt_at a0_1 0
         clear p49
         have qi49 : (0 < (a0_1.size : Int)) = True := eq_true (of_decide_eq_true (by first | (with_reducible assumption) | assumption))
         replace q49 := eq_true q49
         go_wp2_with (first | ((with_reducible refine gate_callee (f := 43) rfl ?_); refine goesL_ (some 60) rfl rfl Try.func43 (by kernel_rfl) rfl #[.int .u8 (bt a0_1 0)] rfl (by (try simp only [List.map_toArray, List.map_cons, List.map_nil]); first | done | rfl | (simp only [List.length_drop, List.length_take]; rfl)) ?_; (with_reducible refine (proteanref01_Letter.calls (bt a0_1 0) t112 _ A50.out).mono ?_); rintro e w' ⟨rfl, ⟨nd, rfl⟩⟩; refine ⟨_, rfl, ?_⟩))
         go_ret
         exact ⟨by first | rfl | (simp [errW_none, errW_some] <;> rfl) | (simp [*, errW_none, errW_some] <;> rfl), by repeat (first | (with_reducible first | exact HB.out | apply below_alloc | apply pw_below_drewN | apply below_drew1 | refine below_set ?_ GE104.out) | exact HB.out)⟩
        ·rw [if_neg c48] at H
         exact absurd H (by simp)
       ·rw [if_neg c47] at H
        have c47b0 : (a0_0 == 0) = false := beq_eq_false_iff_ne.mpr c47
        have c47b1 : (a0_0 != 0) = true := bne_iff_ne.mpr c47
        by_cases c52 : a0_0 = 1
        ·rw [if_pos c52] at H
         have c52b0 : (a0_0 == 1) = true := beq_iff_eq.mpr c52
         have c52b1 : (a0_0 != 1) = false := bne_eq_false_iff_eq.mpr c52
         clear c52
         obtain rfl := Option.some.inj H
         have hcz53_0 : wr.cell? ⟨gb104, 0, none⟩ = some (.int .i64 a0_0) := (blk_cell BK104.out 0).trans rfl
         have hcz53_1 : wr.cell? ⟨gb104, 1, none⟩ = some (.string a0_1) := (blk_cell BK104.out 1).trans rfl
         have hcz53_2 : wr.cell? ⟨gb104, 2, none⟩ = some (.int .i64 a0_2) := (blk_cell BK104.out 2).trans rfl
         have hfz53_0 := blk_frozen BK104.out 0
         have hfz53_1 := blk_frozen BK104.out 1
         have hfz53_2 := blk_frozen BK104.out 2
         go_wp2
         go_ret
         exact ⟨by first | rfl | (simp [errW_none, errW_some] <;> rfl) | (simp [*, errW_none, errW_some] <;> rfl), by repeat (first | (with_reducible first | exact HB.out | apply below_alloc | apply pw_below_drewN | apply below_drew1 | refine below_set ?_ GE104.out) | exact HB.out)⟩
        ·rw [if_neg c52] at H
         have c52b0 : (a0_0 == 1) = false := beq_eq_false_iff_ne.mpr c52
         have c52b1 : (a0_0 != 1) = true := bne_iff_ne.mpr c52
         by_cases c54 : a0_0 = 2
         ·rw [if_pos c54] at H
          have c54b0 : (a0_0 == 2) = true := beq_iff_eq.mpr c54
          have c54b1 : (a0_0 != 2) = false := bne_eq_false_iff_eq.mpr c54
          clear c54
          obtain rfl := Option.some.inj H
          have hcz55_0 : wr.cell? ⟨gb104, 0, none⟩ = some (.int .i64 a0_0) := (blk_cell BK104.out 0).trans rfl
          have hcz55_1 : wr.cell? ⟨gb104, 1, none⟩ = some (.string a0_1) := (blk_cell BK104.out 1).trans rfl
          have hcz55_2 : wr.cell? ⟨gb104, 2, none⟩ = some (.int .i64 a0_2) := (blk_cell BK104.out 2).trans rfl
          have hfz55_0 := blk_frozen BK104.out 0
          have hfz55_1 := blk_frozen BK104.out 1
          have hfz55_2 := blk_frozen BK104.out 2
          go_wp2
          go_ret
          exact ⟨by first | rfl | (simp [errW_none, errW_some] <;> rfl) | (simp [*, errW_none, errW_some] <;> rfl), by repeat (first | (with_reducible first | exact HB.out | apply below_alloc | apply pw_below_drewN | apply below_drew1 | refine below_set ?_ GE104.out) | exact HB.out)⟩
         ·rw [if_neg c54] at H
          have c54b0 : (a0_0 == 2) = false := beq_eq_false_iff_ne.mpr c54
          have c54b1 : (a0_0 != 2) = true := bne_iff_ne.mpr c54
          obtain rfl := Option.some.inj H
          have hcz56_0 : wr.cell? ⟨gb104, 0, none⟩ = some (.int .i64 a0_0) := (blk_cell BK104.out 0).trans rfl
          have hcz56_1 : wr.cell? ⟨gb104, 1, none⟩ = some (.string a0_1) := (blk_cell BK104.out 1).trans rfl
          have hcz56_2 : wr.cell? ⟨gb104, 2, none⟩ = some (.int .i64 a0_2) := (blk_cell BK104.out 2).trans rfl
          have hfz56_0 := blk_frozen BK104.out 0
          have hfz56_1 := blk_frozen BK104.out 1
          have hfz56_2 := blk_frozen BK104.out 2
          go_wp2
          go_ret
          exact ⟨by first | rfl | (simp [errW_none, errW_some] <;> rfl) | (simp [*, errW_none, errW_some] <;> rfl), by repeat (first | (with_reducible first | exact HB.out | apply below_alloc | apply pw_below_drewN | apply below_drew1 | refine below_set ?_ GE104.out) | exact HB.out)⟩

/-! ### proteanref02_is: function 65 -/
def proteanref02_is.f (k : Nat) (l0_0 : List (S76)) (a0_1 : Int) (a0_2 : Int) (a0_3 : Int) (a0_4 : Int) (a0_5 : Int) (a1 : ByteArray) : Option (Bool) := (proteanref02_ok.f l0_0 a0_1 a0_2 a0_3 a0_4 a0_5).bind fun t114 => (if t114 = true then (if a0_1 < (l0_0.length : Int) then (if 0 ≤ a0_1 then ((proteanref01_Right.f k ((rd_T76 l0_0 a0_1).f0) ((rd_T76 l0_0 a0_1).f1) ((rd_T76 l0_0 a0_1).f2)).bind fun t116 => (if t116 = true then (if ((rd_T76 l0_0 a0_1).f1).toList = a1.toList then (some (((rd_T76 l0_0 a0_1).f0) != 1)) else (some false)) else (some false))) else (none)) else (some false)) else (some false))
set_option maxHeartbeats 8000000 in
set_option maxRecDepth 100000 in
theorem proteanref02_is.calls (k : Nat) (A0_0 : Option Addr) (c0_0 : Nat) (l0_0 : List (S76)) (a0_1 : Int) (a0_2 : Int) (a0_3 : Int) (a0_4 : Int) (a0_5 : Int) (a1 : ByteArray) (r : Bool) (w : World) (hr0_0 : Kd.C k76 w A0_0 l0_0.length l0_0) (hc0_0 : l0_0.length ≤ c0_0) (h : proteanref02_is.f k l0_0 a0_1 a0_2 a0_3 a0_4 a0_5 a1 = some r) :
    Calls Try.prog 65 #[.agg #[.slice A0_0 l0_0.length c0_0, .int .i64 a0_1, .int .i64 a0_2, .int .i64 a0_3, .int .i64 a0_4, .int .i64 a0_5], .string a1] w fun e w' => e = .returned (.bool r) ∧ Below w.heap.size w w' := by
 have hu78 := Try.underlying78
 have hu76 := Try.underlying76
 have HR0_0 := Aside0.mk hr0_0
 have HC0_0 := Aside0.mk hc0_0
 clear hr0_0 hc0_0
 have HB := Aside0.mk (Below.refl w.heap.size w)
 have H : ((proteanref02_ok.f l0_0 a0_1 a0_2 a0_3 a0_4 a0_5).bind fun t114 => (if t114 = true then (if a0_1 < (l0_0.length : Int) then (if 0 ≤ a0_1 then ((proteanref01_Right.f k ((rd_T76 l0_0 a0_1).f0) ((rd_T76 l0_0 a0_1).f1) ((rd_T76 l0_0 a0_1).f2)).bind fun t116 => (if t116 = true then (if ((rd_T76 l0_0 a0_1).f1).toList = a1.toList then (some (((rd_T76 l0_0 a0_1).f0) != 1)) else (some false)) else (some false))) else (none)) else (some false)) else (some false))) = some r := h
 clear h
 replace H := Option.bind_eq_some_iff.mp H
 obtain ⟨t114, A30, H⟩ := H
 replace H : (if t114 = true then (if a0_1 < (l0_0.length : Int) then (if 0 ≤ a0_1 then ((proteanref01_Right.f k ((rd_T76 l0_0 a0_1).f0) ((rd_T76 l0_0 a0_1).f1) ((rd_T76 l0_0 a0_1).f2)).bind fun t116 => (if t116 = true then (if ((rd_T76 l0_0 a0_1).f1).toList = a1.toList then (some (((rd_T76 l0_0 a0_1).f0) != 1)) else (some false)) else (some false))) else (none)) else (some false)) else (some false)) = some r := H
 have A3 := Aside0.mk A30
 clear A30
 by_cases c4 : t114 = true
 ·subst c4
  have H1 : (if a0_1 < (l0_0.length : Int) then (if 0 ≤ a0_1 then ((proteanref01_Right.f k ((rd_T76 l0_0 a0_1).f0) ((rd_T76 l0_0 a0_1).f1) ((rd_T76 l0_0 a0_1).f2)).bind fun t116 => (if t116 = true then (if ((rd_T76 l0_0 a0_1).f1).toList = a1.toList then (some (((rd_T76 l0_0 a0_1).f0) != 1)) else (some false)) else (some false))) else (none)) else (some false)) = some r := by rw [if_pos rfl] at H; exact H
  clear H
  have H := H1
  clear H1
  by_cases c5 : a0_1 < (l0_0.length : Int)
  ·rw [if_pos c5] at H
   have c5b0 : decide (a0_1 < (l0_0.length : Int)) = true := decide_eq_true c5
   clear c5
   by_cases c6 : 0 ≤ a0_1
   ·rw [if_pos c6] at H
    have c6b0 : decide (0 ≤ a0_1) = true := decide_eq_true c6
    clear c6
    replace H := Option.bind_eq_some_iff.mp H
    obtain ⟨t116, A70, H⟩ := H
    replace H : (if t116 = true then (if ((rd_T76 l0_0 a0_1).f1).toList = a1.toList then (some (((rd_T76 l0_0 a0_1).f0) != 1)) else (some false)) else (some false)) = some r := H
    have A7 := Aside0.mk A70
    clear A70
    by_cases c8 : t116 = true
    ·subst c8
     have H1 : (if ((rd_T76 l0_0 a0_1).f1).toList = a1.toList then (some (((rd_T76 l0_0 a0_1).f0) != 1)) else (some false)) = some r := by rw [if_pos rfl] at H; exact H
     clear H
     have H := H1
     clear H1
     by_cases c9 : ((rd_T76 l0_0 a0_1).f1).toList = a1.toList
     ·rw [if_pos c9] at H
      have c9b0 : (((rd_T76 l0_0 a0_1).f1).toList == a1.toList) = true := beq_iff_eq.mpr c9
      have c9b1 : (((rd_T76 l0_0 a0_1).f1).toList != a1.toList) = false := bne_eq_false_iff_eq.mpr c9
      clear c9
      obtain rfl := Option.some.inj H
      go_enter Try.func65, Try.ntmps65
      go_wp2_with (first | ((with_reducible refine gate_dst (N := 2) rfl ?_); (try (refine gate_guard (by rfl) ?_; dsimp only)); refine box_event ?hg (N := 2) ?hd (cs := #[.slice A0_0 l0_0.length c0_0, .int .i64 a0_1, .int .i64 a0_2, .int .i64 a0_3, .int .i64 a0_4, .int .i64 a0_5]) (t := 78) ?hr ?_; (case hd => rfl); (case hg => rfl); (case hr => first | (go_simp; done) | (go_simp; rfl)); intro gb113 hg w10 hbox hb; have n0_ := Aside0.mk (below_step (by repeat (first | (with_reducible first | exact HB.out | apply below_alloc | apply pw_below_drewN | apply below_drew1) | exact HB.out)) hb); have n1_ := Aside0.mk (hbox); have n2_ := Aside0.mk ((by rw [hg]; exact (below_size (by repeat (first | (with_reducible first | exact HB.out | apply below_alloc | apply pw_below_drewN | apply below_drew1) | exact HB.out))) : w.heap.size ≤ gb113)); have n3_ := Aside0.mk ((by rw [hg]; exact (below_size (by repeat (first | (with_reducible first | exact HB.out | apply below_alloc | apply pw_below_drewN | apply below_drew1) | exact HB.out))) : w.heap.size ≤ gb113)); clear HB; have HB := n0_; have BK113 := n1_; have GW113 := n2_; have GE113 := n3_; clear n0_ n1_ n2_ n3_; clear hb hbox hg; have hcz11_0 : w10.cell? ⟨gb113, 0, none⟩ = some (.slice A0_0 l0_0.length c0_0) := (blk_cell BK113.out 0).trans rfl; have hcz11_1 : w10.cell? ⟨gb113, 1, none⟩ = some (.int .i64 a0_1) := (blk_cell BK113.out 1).trans rfl; have hcz11_2 : w10.cell? ⟨gb113, 2, none⟩ = some (.int .i64 a0_2) := (blk_cell BK113.out 2).trans rfl; have hcz11_3 : w10.cell? ⟨gb113, 3, none⟩ = some (.int .i64 a0_3) := (blk_cell BK113.out 3).trans rfl; have hcz11_4 : w10.cell? ⟨gb113, 4, none⟩ = some (.int .i64 a0_4) := (blk_cell BK113.out 4).trans rfl; have hcz11_5 : w10.cell? ⟨gb113, 5, none⟩ = some (.int .i64 a0_5) := (blk_cell BK113.out 5).trans rfl; have hfz11_0 := blk_frozen BK113.out 0; have hfz11_1 := blk_frozen BK113.out 1; have hfz11_2 := blk_frozen BK113.out 2; have hfz11_3 := blk_frozen BK113.out 3; have hfz11_4 := blk_frozen BK113.out 4; have hfz11_5 := blk_frozen BK113.out 5) | ((with_reducible refine gate_callee (f := 47) rfl ?_); refine goesL_ (some 6) rfl rfl Try.func47 (by kernel_rfl) rfl #[.agg #[.slice A0_0 l0_0.length c0_0, .int .i64 a0_1, .int .i64 a0_2, .int .i64 a0_3, .int .i64 a0_4, .int .i64 a0_5]] rfl (by (try simp only [List.map_toArray, List.map_cons, List.map_nil]); first | done | rfl | (simp only [List.length_drop, List.length_take]; rfl)) ?_; (with_reducible refine (proteanref02_ok.calls _ _ l0_0 a0_1 a0_2 a0_3 a0_4 a0_5 true _ ?side1 ?side2 A3.out).mono ?_); (case side1 => repeat (first | exact (Kd.C_below HR0_0.out HB.out) | (with_reducible refine Kd.C_alloc ?_ _) | (with_reducible refine Kd.C_drewN ?_ _) | (with_reducible refine Kd.C_drew ?_))); (case side2 => exact HC0_0.out); rintro e w12 ⟨rfl, hb⟩; refine ⟨_, rfl, ?_⟩; have n0_ := Aside0.mk (blk_below (g := gb113) (o := .cells #[.slice A0_0 l0_0.length c0_0, .int .i64 a0_1, .int .i64 a0_2, .int .i64 a0_3, .int .i64 a0_4, .int .i64 a0_5] 78 (0, 0)) (by (with_reducible repeat (first | refine blk_drewN ?_ _ | refine blk_drew ?_ | refine blk_alloc ?_ _)); exact BK113.out) hb); have n1_ := Aside0.mk (below_step (by repeat (first | (with_reducible first | exact HB.out | apply below_alloc | apply pw_below_drewN | apply below_drew1 | refine below_set ?_ GE113.out) | exact HB.out)) hb); clear BK113; clear HB; have BK113 := n0_; have HB := n1_; clear n0_ n1_; (try clear hb); (try clear hb2); (try clear hk); (try clear hi); have hcz13_0 : w12.cell? ⟨gb113, 0, none⟩ = some (.slice A0_0 l0_0.length c0_0) := (blk_cell BK113.out 0).trans rfl; have hcz13_1 : w12.cell? ⟨gb113, 1, none⟩ = some (.int .i64 a0_1) := (blk_cell BK113.out 1).trans rfl; have hcz13_2 : w12.cell? ⟨gb113, 2, none⟩ = some (.int .i64 a0_2) := (blk_cell BK113.out 2).trans rfl; have hcz13_3 : w12.cell? ⟨gb113, 3, none⟩ = some (.int .i64 a0_3) := (blk_cell BK113.out 3).trans rfl; have hcz13_4 : w12.cell? ⟨gb113, 4, none⟩ = some (.int .i64 a0_4) := (blk_cell BK113.out 4).trans rfl; have hcz13_5 : w12.cell? ⟨gb113, 5, none⟩ = some (.int .i64 a0_5) := (blk_cell BK113.out 5).trans rfl; have hfz13_0 := blk_frozen BK113.out 0; have hfz13_1 := blk_frozen BK113.out 1; have hfz13_2 := blk_frozen BK113.out 2; have hfz13_3 := blk_frozen BK113.out 3; have hfz13_4 := blk_frozen BK113.out 4; have hfz13_5 := blk_frozen BK113.out 5; have p115 : 0 ≤ (a0_1 : Int) := of_decide_eq_true (by first | (with_reducible assumption) | assumption); have q115 : a0_1 < (l0_0.length : Int) := of_decide_eq_true (by first | (with_reducible assumption) | assumption); obtain ⟨ad115, e115, hx115_0, hx115_1, hx115_2⟩ := at_T76 HR0_0.out a0_1 p115 q115; cases e115; replace hx115_0 := (HB.out.cell (World.block_lt_of_cell? w _ hx115_0)).trans hx115_0; replace hx115_1 := (HB.out.cell (World.block_lt_of_cell? w _ hx115_1)).trans hx115_1; replace hx115_2 := (HB.out.cell (World.block_lt_of_cell? w _ hx115_2)).trans hx115_2; replace p115 := eq_true p115; replace q115 := eq_true q115) | (go_at_call 74; (with_reducible refine (proteanref01_Right.calls k ((rd_T76 l0_0 a0_1).f0) ((rd_T76 l0_0 a0_1).f1) ((rd_T76 l0_0 a0_1).f2) true _ A7.out).mono ?_); rintro e w14 ⟨rfl, hb⟩; have n0_ := Aside0.mk (blk_below (g := gb113) (o := .cells #[.slice (some ad115) l0_0.length c0_0, .int .i64 a0_1, .int .i64 a0_2, .int .i64 a0_3, .int .i64 a0_4, .int .i64 a0_5] 78 (0, 0)) (by (with_reducible repeat (first | refine blk_drewN ?_ _ | refine blk_drew ?_ | refine blk_alloc ?_ _)); exact BK113.out) hb); have n1_ := Aside0.mk (below_step (by repeat (first | (with_reducible first | exact HB.out | apply below_alloc | apply pw_below_drewN | apply below_drew1 | refine below_set ?_ GE113.out) | exact HB.out)) hb); clear BK113; clear HB; have BK113 := n0_; have HB := n1_; clear n0_ n1_; (try clear hb); (try clear hb2); (try clear hk); (try clear hi); have hcz15_0 : w14.cell? ⟨gb113, 0, none⟩ = some (.slice (some ad115) l0_0.length c0_0) := (blk_cell BK113.out 0).trans rfl; have hcz15_1 : w14.cell? ⟨gb113, 1, none⟩ = some (.int .i64 a0_1) := (blk_cell BK113.out 1).trans rfl; have hcz15_2 : w14.cell? ⟨gb113, 2, none⟩ = some (.int .i64 a0_2) := (blk_cell BK113.out 2).trans rfl; have hcz15_3 : w14.cell? ⟨gb113, 3, none⟩ = some (.int .i64 a0_3) := (blk_cell BK113.out 3).trans rfl; have hcz15_4 : w14.cell? ⟨gb113, 4, none⟩ = some (.int .i64 a0_4) := (blk_cell BK113.out 4).trans rfl; have hcz15_5 : w14.cell? ⟨gb113, 5, none⟩ = some (.int .i64 a0_5) := (blk_cell BK113.out 5).trans rfl; have hfz15_0 := blk_frozen BK113.out 0; have hfz15_1 := blk_frozen BK113.out 1; have hfz15_2 := blk_frozen BK113.out 2; have hfz15_3 := blk_frozen BK113.out 3; have hfz15_4 := blk_frozen BK113.out 4; have hfz15_5 := blk_frozen BK113.out 5; have p117 : 0 ≤ (a0_1 : Int) := of_decide_eq_true (by first | (with_reducible assumption) | assumption); have q117 : a0_1 < (l0_0.length : Int) := of_decide_eq_true (by first | (with_reducible assumption) | assumption); obtain ⟨ad117, e117, hx117_0, hx117_1, hx117_2⟩ := at_T76 HR0_0.out a0_1 p117 q117; obtain rfl : ad115 = ad117 := (by injection e117); replace hx117_0 := (HB.out.cell (World.block_lt_of_cell? w _ hx117_0)).trans hx117_0; replace hx117_1 := (HB.out.cell (World.block_lt_of_cell? w _ hx117_1)).trans hx117_1; replace hx117_2 := (HB.out.cell (World.block_lt_of_cell? w _ hx117_2)).trans hx117_2; replace p117 := eq_true p117; replace q117 := eq_true q117; have p118 : 0 ≤ (a0_1 : Int) := of_decide_eq_true (by first | (with_reducible assumption) | assumption); have q118 : a0_1 < (l0_0.length : Int) := of_decide_eq_true (by first | (with_reducible assumption) | assumption); obtain ⟨ad118, e118, hx118_0, hx118_1, hx118_2⟩ := at_T76 HR0_0.out a0_1 p118 q118; obtain rfl : ad115 = ad118 := (by injection e118); replace hx118_0 := (HB.out.cell (World.block_lt_of_cell? w _ hx118_0)).trans hx118_0; replace hx118_1 := (HB.out.cell (World.block_lt_of_cell? w _ hx118_1)).trans hx118_1; replace hx118_2 := (HB.out.cell (World.block_lt_of_cell? w _ hx118_2)).trans hx118_2; replace p118 := eq_true p118; replace q118 := eq_true q118))
      go_ret
      exact ⟨by first | rfl | (simp [errW_none, errW_some] <;> rfl) | (simp [*, errW_none, errW_some] <;> rfl), by repeat (first | (with_reducible first | exact HB.out | apply below_alloc | apply pw_below_drewN | apply below_drew1 | refine below_set ?_ GE113.out) | exact HB.out)⟩
     ·rw [if_neg c9] at H
      have c9b0 : (((rd_T76 l0_0 a0_1).f1).toList == a1.toList) = false := beq_eq_false_iff_ne.mpr c9
      have c9b1 : (((rd_T76 l0_0 a0_1).f1).toList != a1.toList) = true := bne_iff_ne.mpr c9
      obtain rfl := Option.some.inj H
      go_enter Try.func65, Try.ntmps65
      go_wp2_with (first | ((with_reducible refine gate_dst (N := 2) rfl ?_); (try (refine gate_guard (by rfl) ?_; dsimp only)); refine box_event ?hg (N := 2) ?hd (cs := #[.slice A0_0 l0_0.length c0_0, .int .i64 a0_1, .int .i64 a0_2, .int .i64 a0_3, .int .i64 a0_4, .int .i64 a0_5]) (t := 78) ?hr ?_; (case hd => rfl); (case hg => rfl); (case hr => first | (go_simp; done) | (go_simp; rfl)); intro gb113 hg w16 hbox hb; have n0_ := Aside0.mk (below_step (by repeat (first | (with_reducible first | exact HB.out | apply below_alloc | apply pw_below_drewN | apply below_drew1) | exact HB.out)) hb); have n1_ := Aside0.mk (hbox); have n2_ := Aside0.mk ((by rw [hg]; exact (below_size (by repeat (first | (with_reducible first | exact HB.out | apply below_alloc | apply pw_below_drewN | apply below_drew1) | exact HB.out))) : w.heap.size ≤ gb113)); have n3_ := Aside0.mk ((by rw [hg]; exact (below_size (by repeat (first | (with_reducible first | exact HB.out | apply below_alloc | apply pw_below_drewN | apply below_drew1) | exact HB.out))) : w.heap.size ≤ gb113)); clear HB; have HB := n0_; have BK113 := n1_; have GW113 := n2_; have GE113 := n3_; clear n0_ n1_ n2_ n3_; clear hb hbox hg; have hcz17_0 : w16.cell? ⟨gb113, 0, none⟩ = some (.slice A0_0 l0_0.length c0_0) := (blk_cell BK113.out 0).trans rfl; have hcz17_1 : w16.cell? ⟨gb113, 1, none⟩ = some (.int .i64 a0_1) := (blk_cell BK113.out 1).trans rfl; have hcz17_2 : w16.cell? ⟨gb113, 2, none⟩ = some (.int .i64 a0_2) := (blk_cell BK113.out 2).trans rfl; have hcz17_3 : w16.cell? ⟨gb113, 3, none⟩ = some (.int .i64 a0_3) := (blk_cell BK113.out 3).trans rfl; have hcz17_4 : w16.cell? ⟨gb113, 4, none⟩ = some (.int .i64 a0_4) := (blk_cell BK113.out 4).trans rfl; have hcz17_5 : w16.cell? ⟨gb113, 5, none⟩ = some (.int .i64 a0_5) := (blk_cell BK113.out 5).trans rfl; have hfz17_0 := blk_frozen BK113.out 0; have hfz17_1 := blk_frozen BK113.out 1; have hfz17_2 := blk_frozen BK113.out 2; have hfz17_3 := blk_frozen BK113.out 3; have hfz17_4 := blk_frozen BK113.out 4; have hfz17_5 := blk_frozen BK113.out 5) | ((with_reducible refine gate_callee (f := 47) rfl ?_); refine goesL_ (some 6) rfl rfl Try.func47 (by kernel_rfl) rfl #[.agg #[.slice A0_0 l0_0.length c0_0, .int .i64 a0_1, .int .i64 a0_2, .int .i64 a0_3, .int .i64 a0_4, .int .i64 a0_5]] rfl (by (try simp only [List.map_toArray, List.map_cons, List.map_nil]); first | done | rfl | (simp only [List.length_drop, List.length_take]; rfl)) ?_; (with_reducible refine (proteanref02_ok.calls _ _ l0_0 a0_1 a0_2 a0_3 a0_4 a0_5 true _ ?side1 ?side2 A3.out).mono ?_); (case side1 => repeat (first | exact (Kd.C_below HR0_0.out HB.out) | (with_reducible refine Kd.C_alloc ?_ _) | (with_reducible refine Kd.C_drewN ?_ _) | (with_reducible refine Kd.C_drew ?_))); (case side2 => exact HC0_0.out); rintro e w18 ⟨rfl, hb⟩; refine ⟨_, rfl, ?_⟩; have n0_ := Aside0.mk (blk_below (g := gb113) (o := .cells #[.slice A0_0 l0_0.length c0_0, .int .i64 a0_1, .int .i64 a0_2, .int .i64 a0_3, .int .i64 a0_4, .int .i64 a0_5] 78 (0, 0)) (by (with_reducible repeat (first | refine blk_drewN ?_ _ | refine blk_drew ?_ | refine blk_alloc ?_ _)); exact BK113.out) hb); have n1_ := Aside0.mk (below_step (by repeat (first | (with_reducible first | exact HB.out | apply below_alloc | apply pw_below_drewN | apply below_drew1 | refine below_set ?_ GE113.out) | exact HB.out)) hb); clear BK113; clear HB; have BK113 := n0_; have HB := n1_; clear n0_ n1_; (try clear hb); (try clear hb2); (try clear hk); (try clear hi); have hcz19_0 : w18.cell? ⟨gb113, 0, none⟩ = some (.slice A0_0 l0_0.length c0_0) := (blk_cell BK113.out 0).trans rfl; have hcz19_1 : w18.cell? ⟨gb113, 1, none⟩ = some (.int .i64 a0_1) := (blk_cell BK113.out 1).trans rfl; have hcz19_2 : w18.cell? ⟨gb113, 2, none⟩ = some (.int .i64 a0_2) := (blk_cell BK113.out 2).trans rfl; have hcz19_3 : w18.cell? ⟨gb113, 3, none⟩ = some (.int .i64 a0_3) := (blk_cell BK113.out 3).trans rfl; have hcz19_4 : w18.cell? ⟨gb113, 4, none⟩ = some (.int .i64 a0_4) := (blk_cell BK113.out 4).trans rfl; have hcz19_5 : w18.cell? ⟨gb113, 5, none⟩ = some (.int .i64 a0_5) := (blk_cell BK113.out 5).trans rfl; have hfz19_0 := blk_frozen BK113.out 0; have hfz19_1 := blk_frozen BK113.out 1; have hfz19_2 := blk_frozen BK113.out 2; have hfz19_3 := blk_frozen BK113.out 3; have hfz19_4 := blk_frozen BK113.out 4; have hfz19_5 := blk_frozen BK113.out 5; have p115 : 0 ≤ (a0_1 : Int) := of_decide_eq_true (by first | (with_reducible assumption) | assumption); have q115 : a0_1 < (l0_0.length : Int) := of_decide_eq_true (by first | (with_reducible assumption) | assumption); obtain ⟨ad115, e115, hx115_0, hx115_1, hx115_2⟩ := at_T76 HR0_0.out a0_1 p115 q115; cases e115; replace hx115_0 := (HB.out.cell (World.block_lt_of_cell? w _ hx115_0)).trans hx115_0; replace hx115_1 := (HB.out.cell (World.block_lt_of_cell? w _ hx115_1)).trans hx115_1; replace hx115_2 := (HB.out.cell (World.block_lt_of_cell? w _ hx115_2)).trans hx115_2; replace p115 := eq_true p115; replace q115 := eq_true q115) | (go_at_call 74; (with_reducible refine (proteanref01_Right.calls k ((rd_T76 l0_0 a0_1).f0) ((rd_T76 l0_0 a0_1).f1) ((rd_T76 l0_0 a0_1).f2) true _ A7.out).mono ?_); rintro e w20 ⟨rfl, hb⟩; have n0_ := Aside0.mk (blk_below (g := gb113) (o := .cells #[.slice (some ad115) l0_0.length c0_0, .int .i64 a0_1, .int .i64 a0_2, .int .i64 a0_3, .int .i64 a0_4, .int .i64 a0_5] 78 (0, 0)) (by (with_reducible repeat (first | refine blk_drewN ?_ _ | refine blk_drew ?_ | refine blk_alloc ?_ _)); exact BK113.out) hb); have n1_ := Aside0.mk (below_step (by repeat (first | (with_reducible first | exact HB.out | apply below_alloc | apply pw_below_drewN | apply below_drew1 | refine below_set ?_ GE113.out) | exact HB.out)) hb); clear BK113; clear HB; have BK113 := n0_; have HB := n1_; clear n0_ n1_; (try clear hb); (try clear hb2); (try clear hk); (try clear hi); have hcz21_0 : w20.cell? ⟨gb113, 0, none⟩ = some (.slice (some ad115) l0_0.length c0_0) := (blk_cell BK113.out 0).trans rfl; have hcz21_1 : w20.cell? ⟨gb113, 1, none⟩ = some (.int .i64 a0_1) := (blk_cell BK113.out 1).trans rfl; have hcz21_2 : w20.cell? ⟨gb113, 2, none⟩ = some (.int .i64 a0_2) := (blk_cell BK113.out 2).trans rfl; have hcz21_3 : w20.cell? ⟨gb113, 3, none⟩ = some (.int .i64 a0_3) := (blk_cell BK113.out 3).trans rfl; have hcz21_4 : w20.cell? ⟨gb113, 4, none⟩ = some (.int .i64 a0_4) := (blk_cell BK113.out 4).trans rfl; have hcz21_5 : w20.cell? ⟨gb113, 5, none⟩ = some (.int .i64 a0_5) := (blk_cell BK113.out 5).trans rfl; have hfz21_0 := blk_frozen BK113.out 0; have hfz21_1 := blk_frozen BK113.out 1; have hfz21_2 := blk_frozen BK113.out 2; have hfz21_3 := blk_frozen BK113.out 3; have hfz21_4 := blk_frozen BK113.out 4; have hfz21_5 := blk_frozen BK113.out 5; have p117 : 0 ≤ (a0_1 : Int) := of_decide_eq_true (by first | (with_reducible assumption) | assumption); have q117 : a0_1 < (l0_0.length : Int) := of_decide_eq_true (by first | (with_reducible assumption) | assumption); obtain ⟨ad117, e117, hx117_0, hx117_1, hx117_2⟩ := at_T76 HR0_0.out a0_1 p117 q117; obtain rfl : ad115 = ad117 := (by injection e117); replace hx117_0 := (HB.out.cell (World.block_lt_of_cell? w _ hx117_0)).trans hx117_0; replace hx117_1 := (HB.out.cell (World.block_lt_of_cell? w _ hx117_1)).trans hx117_1; replace hx117_2 := (HB.out.cell (World.block_lt_of_cell? w _ hx117_2)).trans hx117_2; replace p117 := eq_true p117; replace q117 := eq_true q117))
      go_ret
      exact ⟨by first | rfl | (simp [errW_none, errW_some] <;> rfl) | (simp [*, errW_none, errW_some] <;> rfl), by repeat (first | (with_reducible first | exact HB.out | apply below_alloc | apply pw_below_drewN | apply below_drew1 | refine below_set ?_ GE113.out) | exact HB.out)⟩
    ·replace c8 := Bool.eq_false_iff.mpr c8
     subst c8
     have H1 : (some false) = some r := by rw [if_neg (show ¬ (false = true) by decide)] at H; exact H
     clear H
     have H := H1
     clear H1
     obtain rfl := Option.some.inj H
     go_enter Try.func65, Try.ntmps65
     go_wp2_with (first | ((with_reducible refine gate_dst (N := 2) rfl ?_); (try (refine gate_guard (by rfl) ?_; dsimp only)); refine box_event ?hg (N := 2) ?hd (cs := #[.slice A0_0 l0_0.length c0_0, .int .i64 a0_1, .int .i64 a0_2, .int .i64 a0_3, .int .i64 a0_4, .int .i64 a0_5]) (t := 78) ?hr ?_; (case hd => rfl); (case hg => rfl); (case hr => first | (go_simp; done) | (go_simp; rfl)); intro gb113 hg w22 hbox hb; have n0_ := Aside0.mk (below_step (by repeat (first | (with_reducible first | exact HB.out | apply below_alloc | apply pw_below_drewN | apply below_drew1) | exact HB.out)) hb); have n1_ := Aside0.mk (hbox); have n2_ := Aside0.mk ((by rw [hg]; exact (below_size (by repeat (first | (with_reducible first | exact HB.out | apply below_alloc | apply pw_below_drewN | apply below_drew1) | exact HB.out))) : w.heap.size ≤ gb113)); have n3_ := Aside0.mk ((by rw [hg]; exact (below_size (by repeat (first | (with_reducible first | exact HB.out | apply below_alloc | apply pw_below_drewN | apply below_drew1) | exact HB.out))) : w.heap.size ≤ gb113)); clear HB; have HB := n0_; have BK113 := n1_; have GW113 := n2_; have GE113 := n3_; clear n0_ n1_ n2_ n3_; clear hb hbox hg; have hcz23_0 : w22.cell? ⟨gb113, 0, none⟩ = some (.slice A0_0 l0_0.length c0_0) := (blk_cell BK113.out 0).trans rfl; have hcz23_1 : w22.cell? ⟨gb113, 1, none⟩ = some (.int .i64 a0_1) := (blk_cell BK113.out 1).trans rfl; have hcz23_2 : w22.cell? ⟨gb113, 2, none⟩ = some (.int .i64 a0_2) := (blk_cell BK113.out 2).trans rfl; have hcz23_3 : w22.cell? ⟨gb113, 3, none⟩ = some (.int .i64 a0_3) := (blk_cell BK113.out 3).trans rfl; have hcz23_4 : w22.cell? ⟨gb113, 4, none⟩ = some (.int .i64 a0_4) := (blk_cell BK113.out 4).trans rfl; have hcz23_5 : w22.cell? ⟨gb113, 5, none⟩ = some (.int .i64 a0_5) := (blk_cell BK113.out 5).trans rfl; have hfz23_0 := blk_frozen BK113.out 0; have hfz23_1 := blk_frozen BK113.out 1; have hfz23_2 := blk_frozen BK113.out 2; have hfz23_3 := blk_frozen BK113.out 3; have hfz23_4 := blk_frozen BK113.out 4; have hfz23_5 := blk_frozen BK113.out 5) | ((with_reducible refine gate_callee (f := 47) rfl ?_); refine goesL_ (some 6) rfl rfl Try.func47 (by kernel_rfl) rfl #[.agg #[.slice A0_0 l0_0.length c0_0, .int .i64 a0_1, .int .i64 a0_2, .int .i64 a0_3, .int .i64 a0_4, .int .i64 a0_5]] rfl (by (try simp only [List.map_toArray, List.map_cons, List.map_nil]); first | done | rfl | (simp only [List.length_drop, List.length_take]; rfl)) ?_; (with_reducible refine (proteanref02_ok.calls _ _ l0_0 a0_1 a0_2 a0_3 a0_4 a0_5 true _ ?side1 ?side2 A3.out).mono ?_); (case side1 => repeat (first | exact (Kd.C_below HR0_0.out HB.out) | (with_reducible refine Kd.C_alloc ?_ _) | (with_reducible refine Kd.C_drewN ?_ _) | (with_reducible refine Kd.C_drew ?_))); (case side2 => exact HC0_0.out); rintro e w24 ⟨rfl, hb⟩; refine ⟨_, rfl, ?_⟩; have n0_ := Aside0.mk (blk_below (g := gb113) (o := .cells #[.slice A0_0 l0_0.length c0_0, .int .i64 a0_1, .int .i64 a0_2, .int .i64 a0_3, .int .i64 a0_4, .int .i64 a0_5] 78 (0, 0)) (by (with_reducible repeat (first | refine blk_drewN ?_ _ | refine blk_drew ?_ | refine blk_alloc ?_ _)); exact BK113.out) hb); have n1_ := Aside0.mk (below_step (by repeat (first | (with_reducible first | exact HB.out | apply below_alloc | apply pw_below_drewN | apply below_drew1 | refine below_set ?_ GE113.out) | exact HB.out)) hb); clear BK113; clear HB; have BK113 := n0_; have HB := n1_; clear n0_ n1_; (try clear hb); (try clear hb2); (try clear hk); (try clear hi); have hcz25_0 : w24.cell? ⟨gb113, 0, none⟩ = some (.slice A0_0 l0_0.length c0_0) := (blk_cell BK113.out 0).trans rfl; have hcz25_1 : w24.cell? ⟨gb113, 1, none⟩ = some (.int .i64 a0_1) := (blk_cell BK113.out 1).trans rfl; have hcz25_2 : w24.cell? ⟨gb113, 2, none⟩ = some (.int .i64 a0_2) := (blk_cell BK113.out 2).trans rfl; have hcz25_3 : w24.cell? ⟨gb113, 3, none⟩ = some (.int .i64 a0_3) := (blk_cell BK113.out 3).trans rfl; have hcz25_4 : w24.cell? ⟨gb113, 4, none⟩ = some (.int .i64 a0_4) := (blk_cell BK113.out 4).trans rfl; have hcz25_5 : w24.cell? ⟨gb113, 5, none⟩ = some (.int .i64 a0_5) := (blk_cell BK113.out 5).trans rfl; have hfz25_0 := blk_frozen BK113.out 0; have hfz25_1 := blk_frozen BK113.out 1; have hfz25_2 := blk_frozen BK113.out 2; have hfz25_3 := blk_frozen BK113.out 3; have hfz25_4 := blk_frozen BK113.out 4; have hfz25_5 := blk_frozen BK113.out 5; have p115 : 0 ≤ (a0_1 : Int) := of_decide_eq_true (by first | (with_reducible assumption) | assumption); have q115 : a0_1 < (l0_0.length : Int) := of_decide_eq_true (by first | (with_reducible assumption) | assumption); obtain ⟨ad115, e115, hx115_0, hx115_1, hx115_2⟩ := at_T76 HR0_0.out a0_1 p115 q115; cases e115; replace hx115_0 := (HB.out.cell (World.block_lt_of_cell? w _ hx115_0)).trans hx115_0; replace hx115_1 := (HB.out.cell (World.block_lt_of_cell? w _ hx115_1)).trans hx115_1; replace hx115_2 := (HB.out.cell (World.block_lt_of_cell? w _ hx115_2)).trans hx115_2; replace p115 := eq_true p115; replace q115 := eq_true q115) | (go_at_call 74; (with_reducible refine (proteanref01_Right.calls k ((rd_T76 l0_0 a0_1).f0) ((rd_T76 l0_0 a0_1).f1) ((rd_T76 l0_0 a0_1).f2) false _ A7.out).mono ?_); rintro e w26 ⟨rfl, hb⟩; have n0_ := Aside0.mk (blk_below (g := gb113) (o := .cells #[.slice (some ad115) l0_0.length c0_0, .int .i64 a0_1, .int .i64 a0_2, .int .i64 a0_3, .int .i64 a0_4, .int .i64 a0_5] 78 (0, 0)) (by (with_reducible repeat (first | refine blk_drewN ?_ _ | refine blk_drew ?_ | refine blk_alloc ?_ _)); exact BK113.out) hb); have n1_ := Aside0.mk (below_step (by repeat (first | (with_reducible first | exact HB.out | apply below_alloc | apply pw_below_drewN | apply below_drew1 | refine below_set ?_ GE113.out) | exact HB.out)) hb); clear BK113; clear HB; have BK113 := n0_; have HB := n1_; clear n0_ n1_; (try clear hb); (try clear hb2); (try clear hk); (try clear hi)))
     go_ret
     exact ⟨by first | rfl | (simp [errW_none, errW_some] <;> rfl) | (simp [*, errW_none, errW_some] <;> rfl), by repeat (first | (with_reducible first | exact HB.out | apply below_alloc | apply pw_below_drewN | apply below_drew1 | refine below_set ?_ GE113.out) | exact HB.out)⟩
   ·rw [if_neg c6] at H
    exact absurd H (by simp)
  ·rw [if_neg c5] at H
   have c5b0 : decide (a0_1 < (l0_0.length : Int)) = false := decide_eq_false c5
   clear c5
   obtain rfl := Option.some.inj H
   go_enter Try.func65, Try.ntmps65
   go_wp2_with (first | ((with_reducible refine gate_dst (N := 2) rfl ?_); (try (refine gate_guard (by rfl) ?_; dsimp only)); refine box_event ?hg (N := 2) ?hd (cs := #[.slice A0_0 l0_0.length c0_0, .int .i64 a0_1, .int .i64 a0_2, .int .i64 a0_3, .int .i64 a0_4, .int .i64 a0_5]) (t := 78) ?hr ?_; (case hd => rfl); (case hg => rfl); (case hr => first | (go_simp; done) | (go_simp; rfl)); intro gb113 hg w27 hbox hb; have n0_ := Aside0.mk (below_step (by repeat (first | (with_reducible first | exact HB.out | apply below_alloc | apply pw_below_drewN | apply below_drew1) | exact HB.out)) hb); have n1_ := Aside0.mk (hbox); have n2_ := Aside0.mk ((by rw [hg]; exact (below_size (by repeat (first | (with_reducible first | exact HB.out | apply below_alloc | apply pw_below_drewN | apply below_drew1) | exact HB.out))) : w.heap.size ≤ gb113)); have n3_ := Aside0.mk ((by rw [hg]; exact (below_size (by repeat (first | (with_reducible first | exact HB.out | apply below_alloc | apply pw_below_drewN | apply below_drew1) | exact HB.out))) : w.heap.size ≤ gb113)); clear HB; have HB := n0_; have BK113 := n1_; have GW113 := n2_; have GE113 := n3_; clear n0_ n1_ n2_ n3_; clear hb hbox hg; have hcz28_0 : w27.cell? ⟨gb113, 0, none⟩ = some (.slice A0_0 l0_0.length c0_0) := (blk_cell BK113.out 0).trans rfl; have hcz28_1 : w27.cell? ⟨gb113, 1, none⟩ = some (.int .i64 a0_1) := (blk_cell BK113.out 1).trans rfl; have hcz28_2 : w27.cell? ⟨gb113, 2, none⟩ = some (.int .i64 a0_2) := (blk_cell BK113.out 2).trans rfl; have hcz28_3 : w27.cell? ⟨gb113, 3, none⟩ = some (.int .i64 a0_3) := (blk_cell BK113.out 3).trans rfl; have hcz28_4 : w27.cell? ⟨gb113, 4, none⟩ = some (.int .i64 a0_4) := (blk_cell BK113.out 4).trans rfl; have hcz28_5 : w27.cell? ⟨gb113, 5, none⟩ = some (.int .i64 a0_5) := (blk_cell BK113.out 5).trans rfl; have hfz28_0 := blk_frozen BK113.out 0; have hfz28_1 := blk_frozen BK113.out 1; have hfz28_2 := blk_frozen BK113.out 2; have hfz28_3 := blk_frozen BK113.out 3; have hfz28_4 := blk_frozen BK113.out 4; have hfz28_5 := blk_frozen BK113.out 5) | ((with_reducible refine gate_callee (f := 47) rfl ?_); refine goesL_ (some 6) rfl rfl Try.func47 (by kernel_rfl) rfl #[.agg #[.slice A0_0 l0_0.length c0_0, .int .i64 a0_1, .int .i64 a0_2, .int .i64 a0_3, .int .i64 a0_4, .int .i64 a0_5]] rfl (by (try simp only [List.map_toArray, List.map_cons, List.map_nil]); first | done | rfl | (simp only [List.length_drop, List.length_take]; rfl)) ?_; (with_reducible refine (proteanref02_ok.calls _ _ l0_0 a0_1 a0_2 a0_3 a0_4 a0_5 true _ ?side1 ?side2 A3.out).mono ?_); (case side1 => repeat (first | exact (Kd.C_below HR0_0.out HB.out) | (with_reducible refine Kd.C_alloc ?_ _) | (with_reducible refine Kd.C_drewN ?_ _) | (with_reducible refine Kd.C_drew ?_))); (case side2 => exact HC0_0.out); rintro e w29 ⟨rfl, hb⟩; refine ⟨_, rfl, ?_⟩; have n0_ := Aside0.mk (blk_below (g := gb113) (o := .cells #[.slice A0_0 l0_0.length c0_0, .int .i64 a0_1, .int .i64 a0_2, .int .i64 a0_3, .int .i64 a0_4, .int .i64 a0_5] 78 (0, 0)) (by (with_reducible repeat (first | refine blk_drewN ?_ _ | refine blk_drew ?_ | refine blk_alloc ?_ _)); exact BK113.out) hb); have n1_ := Aside0.mk (below_step (by repeat (first | (with_reducible first | exact HB.out | apply below_alloc | apply pw_below_drewN | apply below_drew1 | refine below_set ?_ GE113.out) | exact HB.out)) hb); clear BK113; clear HB; have BK113 := n0_; have HB := n1_; clear n0_ n1_; (try clear hb); (try clear hb2); (try clear hk); (try clear hi); have hcz30_0 : w29.cell? ⟨gb113, 0, none⟩ = some (.slice A0_0 l0_0.length c0_0) := (blk_cell BK113.out 0).trans rfl; have hcz30_1 : w29.cell? ⟨gb113, 1, none⟩ = some (.int .i64 a0_1) := (blk_cell BK113.out 1).trans rfl; have hcz30_2 : w29.cell? ⟨gb113, 2, none⟩ = some (.int .i64 a0_2) := (blk_cell BK113.out 2).trans rfl; have hcz30_3 : w29.cell? ⟨gb113, 3, none⟩ = some (.int .i64 a0_3) := (blk_cell BK113.out 3).trans rfl; have hcz30_4 : w29.cell? ⟨gb113, 4, none⟩ = some (.int .i64 a0_4) := (blk_cell BK113.out 4).trans rfl; have hcz30_5 : w29.cell? ⟨gb113, 5, none⟩ = some (.int .i64 a0_5) := (blk_cell BK113.out 5).trans rfl; have hfz30_0 := blk_frozen BK113.out 0; have hfz30_1 := blk_frozen BK113.out 1; have hfz30_2 := blk_frozen BK113.out 2; have hfz30_3 := blk_frozen BK113.out 3; have hfz30_4 := blk_frozen BK113.out 4; have hfz30_5 := blk_frozen BK113.out 5))
   go_ret
   exact ⟨by first | rfl | (simp [errW_none, errW_some] <;> rfl) | (simp [*, errW_none, errW_some] <;> rfl), by repeat (first | (with_reducible first | exact HB.out | apply below_alloc | apply pw_below_drewN | apply below_drew1 | refine below_set ?_ GE113.out) | exact HB.out)⟩
 ·replace c4 := Bool.eq_false_iff.mpr c4
  subst c4
  have H1 : (some false) = some r := by rw [if_neg (show ¬ (false = true) by decide)] at H; exact H
  clear H
  have H := H1
  clear H1
  obtain rfl := Option.some.inj H
  go_enter Try.func65, Try.ntmps65
  go_wp2_with (first | ((with_reducible refine gate_dst (N := 2) rfl ?_); (try (refine gate_guard (by rfl) ?_; dsimp only)); refine box_event ?hg (N := 2) ?hd (cs := #[.slice A0_0 l0_0.length c0_0, .int .i64 a0_1, .int .i64 a0_2, .int .i64 a0_3, .int .i64 a0_4, .int .i64 a0_5]) (t := 78) ?hr ?_; (case hd => rfl); (case hg => rfl); (case hr => first | (go_simp; done) | (go_simp; rfl)); intro gb113 hg w31 hbox hb; have n0_ := Aside0.mk (below_step (by repeat (first | (with_reducible first | exact HB.out | apply below_alloc | apply pw_below_drewN | apply below_drew1) | exact HB.out)) hb); have n1_ := Aside0.mk (hbox); have n2_ := Aside0.mk ((by rw [hg]; exact (below_size (by repeat (first | (with_reducible first | exact HB.out | apply below_alloc | apply pw_below_drewN | apply below_drew1) | exact HB.out))) : w.heap.size ≤ gb113)); have n3_ := Aside0.mk ((by rw [hg]; exact (below_size (by repeat (first | (with_reducible first | exact HB.out | apply below_alloc | apply pw_below_drewN | apply below_drew1) | exact HB.out))) : w.heap.size ≤ gb113)); clear HB; have HB := n0_; have BK113 := n1_; have GW113 := n2_; have GE113 := n3_; clear n0_ n1_ n2_ n3_; clear hb hbox hg; have hcz32_0 : w31.cell? ⟨gb113, 0, none⟩ = some (.slice A0_0 l0_0.length c0_0) := (blk_cell BK113.out 0).trans rfl; have hcz32_1 : w31.cell? ⟨gb113, 1, none⟩ = some (.int .i64 a0_1) := (blk_cell BK113.out 1).trans rfl; have hcz32_2 : w31.cell? ⟨gb113, 2, none⟩ = some (.int .i64 a0_2) := (blk_cell BK113.out 2).trans rfl; have hcz32_3 : w31.cell? ⟨gb113, 3, none⟩ = some (.int .i64 a0_3) := (blk_cell BK113.out 3).trans rfl; have hcz32_4 : w31.cell? ⟨gb113, 4, none⟩ = some (.int .i64 a0_4) := (blk_cell BK113.out 4).trans rfl; have hcz32_5 : w31.cell? ⟨gb113, 5, none⟩ = some (.int .i64 a0_5) := (blk_cell BK113.out 5).trans rfl; have hfz32_0 := blk_frozen BK113.out 0; have hfz32_1 := blk_frozen BK113.out 1; have hfz32_2 := blk_frozen BK113.out 2; have hfz32_3 := blk_frozen BK113.out 3; have hfz32_4 := blk_frozen BK113.out 4; have hfz32_5 := blk_frozen BK113.out 5) | ((with_reducible refine gate_callee (f := 47) rfl ?_); refine goesL_ (some 6) rfl rfl Try.func47 (by kernel_rfl) rfl #[.agg #[.slice A0_0 l0_0.length c0_0, .int .i64 a0_1, .int .i64 a0_2, .int .i64 a0_3, .int .i64 a0_4, .int .i64 a0_5]] rfl (by (try simp only [List.map_toArray, List.map_cons, List.map_nil]); first | done | rfl | (simp only [List.length_drop, List.length_take]; rfl)) ?_; (with_reducible refine (proteanref02_ok.calls _ _ l0_0 a0_1 a0_2 a0_3 a0_4 a0_5 false _ ?side1 ?side2 A3.out).mono ?_); (case side1 => repeat (first | exact (Kd.C_below HR0_0.out HB.out) | (with_reducible refine Kd.C_alloc ?_ _) | (with_reducible refine Kd.C_drewN ?_ _) | (with_reducible refine Kd.C_drew ?_))); (case side2 => exact HC0_0.out); rintro e w33 ⟨rfl, hb⟩; refine ⟨_, rfl, ?_⟩; have n0_ := Aside0.mk (blk_below (g := gb113) (o := .cells #[.slice A0_0 l0_0.length c0_0, .int .i64 a0_1, .int .i64 a0_2, .int .i64 a0_3, .int .i64 a0_4, .int .i64 a0_5] 78 (0, 0)) (by (with_reducible repeat (first | refine blk_drewN ?_ _ | refine blk_drew ?_ | refine blk_alloc ?_ _)); exact BK113.out) hb); have n1_ := Aside0.mk (below_step (by repeat (first | (with_reducible first | exact HB.out | apply below_alloc | apply pw_below_drewN | apply below_drew1 | refine below_set ?_ GE113.out) | exact HB.out)) hb); clear BK113; clear HB; have BK113 := n0_; have HB := n1_; clear n0_ n1_; (try clear hb); (try clear hb2); (try clear hk); (try clear hi)))
  go_ret
  exact ⟨by first | rfl | (simp [errW_none, errW_some] <;> rfl) | (simp [*, errW_none, errW_some] <;> rfl), by repeat (first | (with_reducible first | exact HB.out | apply below_alloc | apply pw_below_drewN | apply below_drew1 | refine below_set ?_ GE113.out) | exact HB.out)⟩

/-! ### proteanref02_Keyword: function 78 -/
def proteanref02_Keyword.l0 : Nat → ByteArray → List ByteArray → Int → Option (Bool)
  | 0, _, _, _ => none
  | k + 1, x0, x3, x4 => if x4 < (x3.length : Int) then (if 0 ≤ x4 then (if (rdOf ByteArray.empty x3 x4).toList = x0.toList then (some true) else (proteanref02_Keyword.l0 k x0 x3 (wrap64 (x4 + 1)))) else (none)) else (some false)
def proteanref02_Keyword.f (k : Nat) (a0 : ByteArray) : Option (Bool) := proteanref02_Keyword.l0 k a0 (([(⟨#[102, 117, 110]⟩ : ByteArray), (⟨#[111, 117, 116]⟩ : ByteArray), (⟨#[114, 101, 116, 117, 114, 110]⟩ : ByteArray), (⟨#[105, 102]⟩ : ByteArray), (⟨#[101, 108, 115, 101]⟩ : ByteArray), (⟨#[119, 104, 105, 108, 101]⟩ : ByteArray), (⟨#[110, 101, 119]⟩ : ByteArray), (⟨#[112, 114, 111, 116, 111]⟩ : ByteArray), (⟨#[99, 97, 108, 108]⟩ : ByteArray), (⟨#[105, 110]⟩ : ByteArray), (⟨#[110, 117, 108, 108]⟩ : ByteArray), (⟨#[116, 114, 117, 101]⟩ : ByteArray), (⟨#[102, 97, 108, 115, 101]⟩ : ByteArray)] : List ByteArray)) 0
set_option maxHeartbeats 8000000 in
set_option maxRecDepth 100000 in
theorem proteanref02_Keyword.calls (k : Nat) (a0 : ByteArray) (r : Bool) (w : World) (h : proteanref02_Keyword.f k a0 = some r) :
    Calls Try.prog 78 #[.string a0] w fun e w' => e = .returned (.bool r) ∧ Below w.heap.size w w' := by
 have HB := Aside0.mk (Below.refl w.heap.size w)
 have H : (proteanref02_Keyword.l0 k a0 (([(⟨#[102, 117, 110]⟩ : ByteArray), (⟨#[111, 117, 116]⟩ : ByteArray), (⟨#[114, 101, 116, 117, 114, 110]⟩ : ByteArray), (⟨#[105, 102]⟩ : ByteArray), (⟨#[101, 108, 115, 101]⟩ : ByteArray), (⟨#[119, 104, 105, 108, 101]⟩ : ByteArray), (⟨#[110, 101, 119]⟩ : ByteArray), (⟨#[112, 114, 111, 116, 111]⟩ : ByteArray), (⟨#[99, 97, 108, 108]⟩ : ByteArray), (⟨#[105, 110]⟩ : ByteArray), (⟨#[110, 117, 108, 108]⟩ : ByteArray), (⟨#[116, 114, 117, 101]⟩ : ByteArray), (⟨#[102, 97, 108, 115, 101]⟩ : ByteArray)] : List ByteArray)) 0) = some r := h
 clear h
 obtain ⟨y119, hy119⟩ : ∃ y_ : List ByteArray, y_ = (([(⟨#[102, 117, 110]⟩ : ByteArray), (⟨#[111, 117, 116]⟩ : ByteArray), (⟨#[114, 101, 116, 117, 114, 110]⟩ : ByteArray), (⟨#[105, 102]⟩ : ByteArray), (⟨#[101, 108, 115, 101]⟩ : ByteArray), (⟨#[119, 104, 105, 108, 101]⟩ : ByteArray), (⟨#[110, 101, 119]⟩ : ByteArray), (⟨#[112, 114, 111, 116, 111]⟩ : ByteArray), (⟨#[99, 97, 108, 108]⟩ : ByteArray), (⟨#[105, 110]⟩ : ByteArray), (⟨#[110, 117, 108, 108]⟩ : ByteArray), (⟨#[116, 114, 117, 101]⟩ : ByteArray), (⟨#[102, 97, 108, 115, 101]⟩ : ByteArray)] : List ByteArray)) := ⟨_, rfl⟩
 replace H : (proteanref02_Keyword.l0 k a0 y119 0) = some r := by first | (rw [hy119]; with_reducible exact H) | (have H2_ := (Option.bind_some _ _).symm.trans H; rw [hy119]; with_reducible exact H2_) | (have H2_ := (Option.bind_some _ _).symm.trans H; with_reducible exact H2_) | with_reducible exact H | (rw [hy119]; exact H) | exact H
 have Ny119 := Aside0.mk hy119
 clear hy119
 have H' := Aside0.mk H
 clear H
 go_enter Try.func78, Try.ntmps78
 go_wp2_with (first | ((with_reducible refine gate_dst (N := 5) rfl ?_); refine Kd.R_lit Kd.string _ 9 ?hg (N := 5) ?hd (xs := ([(⟨#[102, 117, 110]⟩ : ByteArray), (⟨#[111, 117, 116]⟩ : ByteArray), (⟨#[114, 101, 116, 117, 114, 110]⟩ : ByteArray), (⟨#[105, 102]⟩ : ByteArray), (⟨#[101, 108, 115, 101]⟩ : ByteArray), (⟨#[119, 104, 105, 108, 101]⟩ : ByteArray), (⟨#[110, 101, 119]⟩ : ByteArray), (⟨#[112, 114, 111, 116, 111]⟩ : ByteArray), (⟨#[99, 97, 108, 108]⟩ : ByteArray), (⟨#[105, 110]⟩ : ByteArray), (⟨#[110, 117, 108, 108]⟩ : ByteArray), (⟨#[116, 114, 117, 101]⟩ : ByteArray), (⟨#[102, 97, 108, 115, 101]⟩ : ByteArray)] : List ByteArray)) (inner := [.string (⟨#[102, 117, 110]⟩ : ByteArray), .string (⟨#[111, 117, 116]⟩ : ByteArray), .string (⟨#[114, 101, 116, 117, 114, 110]⟩ : ByteArray), .string (⟨#[105, 102]⟩ : ByteArray), .string (⟨#[101, 108, 115, 101]⟩ : ByteArray), .string (⟨#[119, 104, 105, 108, 101]⟩ : ByteArray), .string (⟨#[110, 101, 119]⟩ : ByteArray), .string (⟨#[112, 114, 111, 116, 111]⟩ : ByteArray), .string (⟨#[99, 97, 108, 108]⟩ : ByteArray), .string (⟨#[105, 110]⟩ : ByteArray), .string (⟨#[110, 117, 108, 108]⟩ : ByteArray), .string (⟨#[116, 114, 117, 101]⟩ : ByteArray), .string (⟨#[102, 97, 108, 115, 101]⟩ : ByteArray)]) (ok := fun _ => True) (okp := fun _ => True) ?hr ?hp (fun _ hk => hk) trivial (Below.refl _ _) (Nat.le_refl _) (by simp) ?_; (case hd => rfl); (case hg => rfl); (case hr => first | (go_simp; done) | (go_simp; rfl)); (case hp => exact (Reps.one (show Kd.M Kd.string _ _ _ (⟨#[102, 117, 110]⟩ : ByteArray) [.string (⟨#[102, 117, 110]⟩ : ByteArray)] from rfl) (Reps.one (show Kd.M Kd.string _ _ _ (⟨#[111, 117, 116]⟩ : ByteArray) [.string (⟨#[111, 117, 116]⟩ : ByteArray)] from rfl) (Reps.one (show Kd.M Kd.string _ _ _ (⟨#[114, 101, 116, 117, 114, 110]⟩ : ByteArray) [.string (⟨#[114, 101, 116, 117, 114, 110]⟩ : ByteArray)] from rfl) (Reps.one (show Kd.M Kd.string _ _ _ (⟨#[105, 102]⟩ : ByteArray) [.string (⟨#[105, 102]⟩ : ByteArray)] from rfl) (Reps.one (show Kd.M Kd.string _ _ _ (⟨#[101, 108, 115, 101]⟩ : ByteArray) [.string (⟨#[101, 108, 115, 101]⟩ : ByteArray)] from rfl) (Reps.one (show Kd.M Kd.string _ _ _ (⟨#[119, 104, 105, 108, 101]⟩ : ByteArray) [.string (⟨#[119, 104, 105, 108, 101]⟩ : ByteArray)] from rfl) (Reps.one (show Kd.M Kd.string _ _ _ (⟨#[110, 101, 119]⟩ : ByteArray) [.string (⟨#[110, 101, 119]⟩ : ByteArray)] from rfl) (Reps.one (show Kd.M Kd.string _ _ _ (⟨#[112, 114, 111, 116, 111]⟩ : ByteArray) [.string (⟨#[112, 114, 111, 116, 111]⟩ : ByteArray)] from rfl) (Reps.one (show Kd.M Kd.string _ _ _ (⟨#[99, 97, 108, 108]⟩ : ByteArray) [.string (⟨#[99, 97, 108, 108]⟩ : ByteArray)] from rfl) (Reps.one (show Kd.M Kd.string _ _ _ (⟨#[105, 110]⟩ : ByteArray) [.string (⟨#[105, 110]⟩ : ByteArray)] from rfl) (Reps.one (show Kd.M Kd.string _ _ _ (⟨#[110, 117, 108, 108]⟩ : ByteArray) [.string (⟨#[110, 117, 108, 108]⟩ : ByteArray)] from rfl) (Reps.one (show Kd.M Kd.string _ _ _ (⟨#[116, 114, 117, 101]⟩ : ByteArray) [.string (⟨#[116, 114, 117, 101]⟩ : ByteArray)] from rfl) (Reps.one (show Kd.M Kd.string _ _ _ (⟨#[102, 97, 108, 115, 101]⟩ : ByteArray) [.string (⟨#[102, 97, 108, 115, 101]⟩ : ByteArray)] from rfl) (Reps.none _ _))))))))))))))); intro v120 w2 ho3 hb hg_ hnew_; clear hg_ hnew_; (first | rw [← Ny119.out] at ho3 | (simp only [Int.reduceToNat] at ho3; rw [← Ny119.out] at ho3)); have n0_ := Aside0.mk (Kd.R_lower ho3 (below_size (by repeat (first | (with_reducible first | exact HB.out | apply below_alloc | apply pw_below_drewN | apply below_drew1) | exact HB.out)))); have n1_ := Aside0.mk (below_step (by repeat (first | (with_reducible first | exact HB.out | apply below_alloc | apply pw_below_drewN | apply below_drew1) | exact HB.out)) hb); clear HB; have HO121 := n0_; have HB := n1_; clear n0_ n1_; clear hb ho3))
 go_loopg [4] k (fun kq v4 w' => ∃ (x4_1 : Int), v4 = .int .i64 x4_1 ∧ Aside0 (proteanref02_Keyword.l0 kq a0 y119 x4_1 = some r) ∧ Aside0 (kq ≤ k) ∧ Aside0 (Kd.R Kd.string 9 w' w.heap.size (fun _ => True) v120 y119) ∧ Aside0 (Below w.heap.size w w'))
 case atStart => exact ⟨(0), (by first | rfl | (simp; done) | (simp [*]; done)), H', ⟨Nat.le_refl _⟩, ⟨by (with_reducible repeat (first | apply Kd.R_alloc | apply Kd.R_drewN | apply Kd.R_drew)); exact HO121.out⟩, ⟨by repeat (first | (with_reducible first | exact HB.out | apply below_alloc | apply pw_below_drewN | apply below_drew1) | exact HB.out)⟩⟩
 case round =>
  clear H'
  try clear p2
  obtain ⟨x4_1, rfl, HA, HK1, HO_3, HB⟩ := hrel
  cases gk with
  | zero => exact absurd HA.out (by simp [proteanref02_Keyword.l0])
  | succ k1 =>
   have H := HA.out
   clear HA
   simp only [proteanref02_Keyword.l0] at H
   by_cases c4 : x4_1 < (y119.length : Int)
   ·rw [if_pos c4] at H
    have c4b0 : decide (x4_1 < (y119.length : Int)) = true := decide_eq_true c4
    clear c4
    by_cases c5 : 0 ≤ x4_1
    ·rw [if_pos c5] at H
     have c5b0 : decide (0 ≤ x4_1) = true := decide_eq_true c5
     clear c5
     by_cases c6 : (rdOf ByteArray.empty y119 x4_1).toList = a0.toList
     ·rw [if_pos c6] at H
      have c6b0 : ((rdOf ByteArray.empty y119 x4_1).toList == a0.toList) = true := beq_iff_eq.mpr c6
      have c6b1 : ((rdOf ByteArray.empty y119 x4_1).toList != a0.toList) = false := bne_eq_false_iff_eq.mpr c6
      clear c6
      obtain rfl := Option.some.inj H
      obtain ⟨Ao7, co7, eo7⟩ := Kd.R_slice HO_3.out
      subst eo7
      have p122 : 0 ≤ (x4_1 : Int) := of_decide_eq_true (by first | (with_reducible assumption) | assumption)
      have q122 : x4_1 < (y119.length : Int) := of_decide_eq_true (by first | (with_reducible assumption) | assumption)
      obtain ⟨ad122, e122, hx122_0⟩ := Kd.at_string (Kd.R_reads' HO_3.out).2.2 x4_1 p122 q122
      cases e122
      replace p122 := eq_true p122
      replace q122 := eq_true q122
      go_wp2
      go_ret
      exact ⟨by first | rfl | (simp [errW_none, errW_some] <;> rfl) | (simp [*, errW_none, errW_some] <;> rfl), by repeat (first | (with_reducible first | exact HB.out | apply below_alloc | apply pw_below_drewN | apply below_drew1) | exact HB.out)⟩
     ·rw [if_neg c6] at H
      have c6b0 : ((rdOf ByteArray.empty y119 x4_1).toList == a0.toList) = false := beq_eq_false_iff_ne.mpr c6
      have c6b1 : ((rdOf ByteArray.empty y119 x4_1).toList != a0.toList) = true := bne_iff_ne.mpr c6
      have H' := Aside0.mk H
      clear H
      obtain ⟨Ao8, co8, eo8⟩ := Kd.R_slice HO_3.out
      subst eo8
      have p122 : 0 ≤ (x4_1 : Int) := of_decide_eq_true (by first | (with_reducible assumption) | assumption)
      have q122 : x4_1 < (y119.length : Int) := of_decide_eq_true (by first | (with_reducible assumption) | assumption)
      obtain ⟨ad122, e122, hx122_0⟩ := Kd.at_string (Kd.R_reads' HO_3.out).2.2 x4_1 p122 q122
      cases e122
      replace p122 := eq_true p122
      replace q122 := eq_true q122
      go_wp2
      go_roundg k1
      case measure => have := HK1.out; omega
      case rel => exact ⟨(wrap64 (x4_1 + 1)), (by first | rfl | (simp; done) | (simp [*]; done)), H', ⟨by have := HK1.out; omega⟩, ⟨by (with_reducible repeat (first | apply Kd.R_alloc | apply Kd.R_drewN | apply Kd.R_drew)); exact HO_3.out⟩, ⟨by repeat (first | (with_reducible first | exact HB.out | apply below_alloc | apply pw_below_drewN | apply below_drew1) | exact HB.out)⟩⟩
    ·rw [if_neg c5] at H
     exact absurd H (by simp)
   ·rw [if_neg c4] at H
    have c4b0 : decide (x4_1 < (y119.length : Int)) = false := decide_eq_false c4
    clear c4
    obtain rfl := Option.some.inj H
    obtain ⟨Ao9, co9, eo9⟩ := Kd.R_slice HO_3.out
    subst eo9
    go_wp2
    go_ret
    exact ⟨by first | rfl | (simp [errW_none, errW_some] <;> rfl) | (simp [*, errW_none, errW_some] <;> rfl), by repeat (first | (with_reducible first | exact HB.out | apply below_alloc | apply pw_below_drewN | apply below_drew1) | exact HB.out)⟩

/-! ### proteanref02_Name: function 73 -/
def proteanref02_Name.f (k : Nat) (a0 : ByteArray) : Option (Bool) := (proteanref01_Right.f k 0 a0 0).bind fun t123 => (if t123 = true then ((proteanref02_Keyword.f k a0).bind fun t124 => (some (!t124))) else (some false))
set_option maxHeartbeats 8000000 in
set_option maxRecDepth 100000 in
theorem proteanref02_Name.calls (k : Nat) (a0 : ByteArray) (r : Bool) (w : World) (h : proteanref02_Name.f k a0 = some r) :
    Calls Try.prog 73 #[.string a0] w fun e w' => e = .returned (.bool r) ∧ Below w.heap.size w w' := by
 have hu76 := Try.underlying76
 have HB := Aside0.mk (Below.refl w.heap.size w)
 have H : ((proteanref01_Right.f k 0 a0 0).bind fun t123 => (if t123 = true then ((proteanref02_Keyword.f k a0).bind fun t124 => (some (!t124))) else (some false))) = some r := h
 clear h
 replace H := Option.bind_eq_some_iff.mp H
 obtain ⟨t123, A20, H⟩ := H
 replace H : (if t123 = true then ((proteanref02_Keyword.f k a0).bind fun t124 => (some (!t124))) else (some false)) = some r := H
 have A2 := Aside0.mk A20
 clear A20
 by_cases c3 : t123 = true
 ·subst c3
  have H1 : ((proteanref02_Keyword.f k a0).bind fun t124 => (some (!t124))) = some r := by rw [if_pos rfl] at H; exact H
  clear H
  have H := H1
  clear H1
  replace H := Option.bind_eq_some_iff.mp H
  obtain ⟨t124, A40, H⟩ := H
  replace H : (some (!t124)) = some r := H
  have A4 := Aside0.mk A40
  clear A40
  obtain rfl := Option.some.inj H
  go_enter Try.func73, Try.ntmps73
  go_wp2_with (first | ((with_reducible refine gate_callee (f := 74) rfl ?_); refine goesL_ (some 5) rfl rfl Try.func74 (by kernel_rfl) rfl #[.agg #[.int .i64 0, .string a0, .int .i64 0]] rfl (by (try simp only [List.map_toArray, List.map_cons, List.map_nil]); first | done | rfl | (simp only [List.length_drop, List.length_take]; rfl)) ?_; (with_reducible refine (proteanref01_Right.calls k 0 a0 0 true _ A2.out).mono ?_); rintro e w5 ⟨rfl, hb⟩; refine ⟨_, rfl, ?_⟩; have n0_ := Aside0.mk (below_step (by repeat (first | (with_reducible first | exact HB.out | apply below_alloc | apply pw_below_drewN | apply below_drew1) | exact HB.out)) hb); clear HB; have HB := n0_; clear n0_; (try clear hb); (try clear hb2); (try clear hk); (try clear hi)) | (go_at_call 78; (with_reducible refine (proteanref02_Keyword.calls k a0 t124 _ A4.out).mono ?_); rintro e w6 ⟨rfl, hb⟩; have n0_ := Aside0.mk (below_step (by repeat (first | (with_reducible first | exact HB.out | apply below_alloc | apply pw_below_drewN | apply below_drew1) | exact HB.out)) hb); clear HB; have HB := n0_; clear n0_; (try clear hb); (try clear hb2); (try clear hk); (try clear hi)))
  go_ret
  exact ⟨by first | rfl | (simp [errW_none, errW_some] <;> rfl) | (simp [*, errW_none, errW_some] <;> rfl), by repeat (first | (with_reducible first | exact HB.out | apply below_alloc | apply pw_below_drewN | apply below_drew1) | exact HB.out)⟩
 ·replace c3 := Bool.eq_false_iff.mpr c3
  subst c3
  have H1 : (some false) = some r := by rw [if_neg (show ¬ (false = true) by decide)] at H; exact H
  clear H
  have H := H1
  clear H1
  obtain rfl := Option.some.inj H
  go_enter Try.func73, Try.ntmps73
  go_wp2_with (first | ((with_reducible refine gate_callee (f := 74) rfl ?_); refine goesL_ (some 5) rfl rfl Try.func74 (by kernel_rfl) rfl #[.agg #[.int .i64 0, .string a0, .int .i64 0]] rfl (by (try simp only [List.map_toArray, List.map_cons, List.map_nil]); first | done | rfl | (simp only [List.length_drop, List.length_take]; rfl)) ?_; (with_reducible refine (proteanref01_Right.calls k 0 a0 0 false _ A2.out).mono ?_); rintro e w7 ⟨rfl, hb⟩; refine ⟨_, rfl, ?_⟩; have n0_ := Aside0.mk (below_step (by repeat (first | (with_reducible first | exact HB.out | apply below_alloc | apply pw_below_drewN | apply below_drew1) | exact HB.out)) hb); clear HB; have HB := n0_; clear n0_; (try clear hb); (try clear hb2); (try clear hk); (try clear hi)))
  go_ret
  exact ⟨by first | rfl | (simp [errW_none, errW_some] <;> rfl) | (simp [*, errW_none, errW_some] <;> rfl), by repeat (first | (with_reducible first | exact HB.out | apply below_alloc | apply pw_below_drewN | apply below_drew1) | exact HB.out)⟩

/-! ### proteanref02_isName: function 63 -/
def proteanref02_isName.f (k : Nat) (l0_0 : List (S76)) (a0_1 : Int) (a0_2 : Int) (a0_3 : Int) (a0_4 : Int) (a0_5 : Int) : Option (Bool) := (proteanref02_ok.f l0_0 a0_1 a0_2 a0_3 a0_4 a0_5).bind fun t126 => (if t126 = true then (if a0_1 < (l0_0.length : Int) then (if 0 ≤ a0_1 then (if ((rd_T76 l0_0 a0_1).f0) = 0 then ((proteanref02_Name.f k ((rd_T76 l0_0 a0_1).f1)).bind fun t129 => (some t129)) else (some false)) else (none)) else (some false)) else (some false))
set_option maxHeartbeats 8000000 in
set_option maxRecDepth 100000 in
theorem proteanref02_isName.calls (k : Nat) (A0_0 : Option Addr) (c0_0 : Nat) (l0_0 : List (S76)) (a0_1 : Int) (a0_2 : Int) (a0_3 : Int) (a0_4 : Int) (a0_5 : Int) (r : Bool) (w : World) (hr0_0 : Kd.C k76 w A0_0 l0_0.length l0_0) (hc0_0 : l0_0.length ≤ c0_0) (h : proteanref02_isName.f k l0_0 a0_1 a0_2 a0_3 a0_4 a0_5 = some r) :
    Calls Try.prog 63 #[.agg #[.slice A0_0 l0_0.length c0_0, .int .i64 a0_1, .int .i64 a0_2, .int .i64 a0_3, .int .i64 a0_4, .int .i64 a0_5]] w fun e w' => e = .returned (.bool r) ∧ Below w.heap.size w w' := by
 have hu78 := Try.underlying78
 have HR0_0 := Aside0.mk hr0_0
 have HC0_0 := Aside0.mk hc0_0
 clear hr0_0 hc0_0
 have HB := Aside0.mk (Below.refl w.heap.size w)
 have H : ((proteanref02_ok.f l0_0 a0_1 a0_2 a0_3 a0_4 a0_5).bind fun t126 => (if t126 = true then (if a0_1 < (l0_0.length : Int) then (if 0 ≤ a0_1 then (if ((rd_T76 l0_0 a0_1).f0) = 0 then ((proteanref02_Name.f k ((rd_T76 l0_0 a0_1).f1)).bind fun t129 => (some t129)) else (some false)) else (none)) else (some false)) else (some false))) = some r := h
 clear h
 replace H := Option.bind_eq_some_iff.mp H
 obtain ⟨t126, A20, H⟩ := H
 replace H : (if t126 = true then (if a0_1 < (l0_0.length : Int) then (if 0 ≤ a0_1 then (if ((rd_T76 l0_0 a0_1).f0) = 0 then ((proteanref02_Name.f k ((rd_T76 l0_0 a0_1).f1)).bind fun t129 => (some t129)) else (some false)) else (none)) else (some false)) else (some false)) = some r := H
 have A2 := Aside0.mk A20
 clear A20
 by_cases c3 : t126 = true
 ·subst c3
  have H1 : (if a0_1 < (l0_0.length : Int) then (if 0 ≤ a0_1 then (if ((rd_T76 l0_0 a0_1).f0) = 0 then ((proteanref02_Name.f k ((rd_T76 l0_0 a0_1).f1)).bind fun t129 => (some t129)) else (some false)) else (none)) else (some false)) = some r := by rw [if_pos rfl] at H; exact H
  clear H
  have H := H1
  clear H1
  by_cases c4 : a0_1 < (l0_0.length : Int)
  ·rw [if_pos c4] at H
   have c4b0 : decide (a0_1 < (l0_0.length : Int)) = true := decide_eq_true c4
   clear c4
   by_cases c5 : 0 ≤ a0_1
   ·rw [if_pos c5] at H
    have c5b0 : decide (0 ≤ a0_1) = true := decide_eq_true c5
    clear c5
    by_cases c6 : ((rd_T76 l0_0 a0_1).f0) = 0
    ·rw [if_pos c6] at H
     have c6b0 : (((rd_T76 l0_0 a0_1).f0) == 0) = true := beq_iff_eq.mpr c6
     have c6b1 : (((rd_T76 l0_0 a0_1).f0) != 0) = false := bne_eq_false_iff_eq.mpr c6
     clear c6
     replace H := Option.bind_eq_some_iff.mp H
     obtain ⟨t129, A70, H⟩ := H
     replace H : (some t129) = some r := H
     have A7 := Aside0.mk A70
     clear A70
     obtain rfl := Option.some.inj H
     go_enter Try.func63, Try.ntmps63
     go_wp2_with (first | ((with_reducible refine gate_dst (N := 1) rfl ?_); (try (refine gate_guard (by rfl) ?_; dsimp only)); refine box_event ?hg (N := 1) ?hd (cs := #[.slice A0_0 l0_0.length c0_0, .int .i64 a0_1, .int .i64 a0_2, .int .i64 a0_3, .int .i64 a0_4, .int .i64 a0_5]) (t := 78) ?hr ?_; (case hd => rfl); (case hg => rfl); (case hr => first | (go_simp; done) | (go_simp; rfl)); intro gb125 hg w8 hbox hb; have n0_ := Aside0.mk (below_step (by repeat (first | (with_reducible first | exact HB.out | apply below_alloc | apply pw_below_drewN | apply below_drew1) | exact HB.out)) hb); have n1_ := Aside0.mk (hbox); have n2_ := Aside0.mk ((by rw [hg]; exact (below_size (by repeat (first | (with_reducible first | exact HB.out | apply below_alloc | apply pw_below_drewN | apply below_drew1) | exact HB.out))) : w.heap.size ≤ gb125)); have n3_ := Aside0.mk ((by rw [hg]; exact (below_size (by repeat (first | (with_reducible first | exact HB.out | apply below_alloc | apply pw_below_drewN | apply below_drew1) | exact HB.out))) : w.heap.size ≤ gb125)); clear HB; have HB := n0_; have BK125 := n1_; have GW125 := n2_; have GE125 := n3_; clear n0_ n1_ n2_ n3_; clear hb hbox hg; have hcz9_0 : w8.cell? ⟨gb125, 0, none⟩ = some (.slice A0_0 l0_0.length c0_0) := (blk_cell BK125.out 0).trans rfl; have hcz9_1 : w8.cell? ⟨gb125, 1, none⟩ = some (.int .i64 a0_1) := (blk_cell BK125.out 1).trans rfl; have hcz9_2 : w8.cell? ⟨gb125, 2, none⟩ = some (.int .i64 a0_2) := (blk_cell BK125.out 2).trans rfl; have hcz9_3 : w8.cell? ⟨gb125, 3, none⟩ = some (.int .i64 a0_3) := (blk_cell BK125.out 3).trans rfl; have hcz9_4 : w8.cell? ⟨gb125, 4, none⟩ = some (.int .i64 a0_4) := (blk_cell BK125.out 4).trans rfl; have hcz9_5 : w8.cell? ⟨gb125, 5, none⟩ = some (.int .i64 a0_5) := (blk_cell BK125.out 5).trans rfl; have hfz9_0 := blk_frozen BK125.out 0; have hfz9_1 := blk_frozen BK125.out 1; have hfz9_2 := blk_frozen BK125.out 2; have hfz9_3 := blk_frozen BK125.out 3; have hfz9_4 := blk_frozen BK125.out 4; have hfz9_5 := blk_frozen BK125.out 5) | ((with_reducible refine gate_callee (f := 47) rfl ?_); refine goesL_ (some 4) rfl rfl Try.func47 (by kernel_rfl) rfl #[.agg #[.slice A0_0 l0_0.length c0_0, .int .i64 a0_1, .int .i64 a0_2, .int .i64 a0_3, .int .i64 a0_4, .int .i64 a0_5]] rfl (by (try simp only [List.map_toArray, List.map_cons, List.map_nil]); first | done | rfl | (simp only [List.length_drop, List.length_take]; rfl)) ?_; (with_reducible refine (proteanref02_ok.calls _ _ l0_0 a0_1 a0_2 a0_3 a0_4 a0_5 true _ ?side1 ?side2 A2.out).mono ?_); (case side1 => repeat (first | exact (Kd.C_below HR0_0.out HB.out) | (with_reducible refine Kd.C_alloc ?_ _) | (with_reducible refine Kd.C_drewN ?_ _) | (with_reducible refine Kd.C_drew ?_))); (case side2 => exact HC0_0.out); rintro e w10 ⟨rfl, hb⟩; refine ⟨_, rfl, ?_⟩; have n0_ := Aside0.mk (blk_below (g := gb125) (o := .cells #[.slice A0_0 l0_0.length c0_0, .int .i64 a0_1, .int .i64 a0_2, .int .i64 a0_3, .int .i64 a0_4, .int .i64 a0_5] 78 (0, 0)) (by (with_reducible repeat (first | refine blk_drewN ?_ _ | refine blk_drew ?_ | refine blk_alloc ?_ _)); exact BK125.out) hb); have n1_ := Aside0.mk (below_step (by repeat (first | (with_reducible first | exact HB.out | apply below_alloc | apply pw_below_drewN | apply below_drew1 | refine below_set ?_ GE125.out) | exact HB.out)) hb); clear BK125; clear HB; have BK125 := n0_; have HB := n1_; clear n0_ n1_; (try clear hb); (try clear hb2); (try clear hk); (try clear hi); have hcz11_0 : w10.cell? ⟨gb125, 0, none⟩ = some (.slice A0_0 l0_0.length c0_0) := (blk_cell BK125.out 0).trans rfl; have hcz11_1 : w10.cell? ⟨gb125, 1, none⟩ = some (.int .i64 a0_1) := (blk_cell BK125.out 1).trans rfl; have hcz11_2 : w10.cell? ⟨gb125, 2, none⟩ = some (.int .i64 a0_2) := (blk_cell BK125.out 2).trans rfl; have hcz11_3 : w10.cell? ⟨gb125, 3, none⟩ = some (.int .i64 a0_3) := (blk_cell BK125.out 3).trans rfl; have hcz11_4 : w10.cell? ⟨gb125, 4, none⟩ = some (.int .i64 a0_4) := (blk_cell BK125.out 4).trans rfl; have hcz11_5 : w10.cell? ⟨gb125, 5, none⟩ = some (.int .i64 a0_5) := (blk_cell BK125.out 5).trans rfl; have hfz11_0 := blk_frozen BK125.out 0; have hfz11_1 := blk_frozen BK125.out 1; have hfz11_2 := blk_frozen BK125.out 2; have hfz11_3 := blk_frozen BK125.out 3; have hfz11_4 := blk_frozen BK125.out 4; have hfz11_5 := blk_frozen BK125.out 5; have p127 : 0 ≤ (a0_1 : Int) := of_decide_eq_true (by first | (with_reducible assumption) | assumption); have q127 : a0_1 < (l0_0.length : Int) := of_decide_eq_true (by first | (with_reducible assumption) | assumption); obtain ⟨ad127, e127, hx127_0, hx127_1, hx127_2⟩ := at_T76 HR0_0.out a0_1 p127 q127; cases e127; replace hx127_0 := (HB.out.cell (World.block_lt_of_cell? w _ hx127_0)).trans hx127_0; replace hx127_1 := (HB.out.cell (World.block_lt_of_cell? w _ hx127_1)).trans hx127_1; replace hx127_2 := (HB.out.cell (World.block_lt_of_cell? w _ hx127_2)).trans hx127_2; replace p127 := eq_true p127; replace q127 := eq_true q127; have p128 : 0 ≤ (a0_1 : Int) := of_decide_eq_true (by first | (with_reducible assumption) | assumption); have q128 : a0_1 < (l0_0.length : Int) := of_decide_eq_true (by first | (with_reducible assumption) | assumption); obtain ⟨ad128, e128, hx128_0, hx128_1, hx128_2⟩ := at_T76 HR0_0.out a0_1 p128 q128; obtain rfl : ad127 = ad128 := (by injection e128); replace hx128_0 := (HB.out.cell (World.block_lt_of_cell? w _ hx128_0)).trans hx128_0; replace hx128_1 := (HB.out.cell (World.block_lt_of_cell? w _ hx128_1)).trans hx128_1; replace hx128_2 := (HB.out.cell (World.block_lt_of_cell? w _ hx128_2)).trans hx128_2; replace p128 := eq_true p128; replace q128 := eq_true q128) | (go_at_call 73; (with_reducible refine (proteanref02_Name.calls k ((rd_T76 l0_0 a0_1).f1) t129 _ A7.out).mono ?_); rintro e w12 ⟨rfl, hb⟩; have n0_ := Aside0.mk (blk_below (g := gb125) (o := .cells #[.slice (some ad127) l0_0.length c0_0, .int .i64 a0_1, .int .i64 a0_2, .int .i64 a0_3, .int .i64 a0_4, .int .i64 a0_5] 78 (0, 0)) (by (with_reducible repeat (first | refine blk_drewN ?_ _ | refine blk_drew ?_ | refine blk_alloc ?_ _)); exact BK125.out) hb); have n1_ := Aside0.mk (below_step (by repeat (first | (with_reducible first | exact HB.out | apply below_alloc | apply pw_below_drewN | apply below_drew1 | refine below_set ?_ GE125.out) | exact HB.out)) hb); clear BK125; clear HB; have BK125 := n0_; have HB := n1_; clear n0_ n1_; (try clear hb); (try clear hb2); (try clear hk); (try clear hi)))
     go_ret
     exact ⟨by first | rfl | (simp [errW_none, errW_some] <;> rfl) | (simp [*, errW_none, errW_some] <;> rfl), by repeat (first | (with_reducible first | exact HB.out | apply below_alloc | apply pw_below_drewN | apply below_drew1 | refine below_set ?_ GE125.out) | exact HB.out)⟩
    ·rw [if_neg c6] at H
     have c6b0 : (((rd_T76 l0_0 a0_1).f0) == 0) = false := beq_eq_false_iff_ne.mpr c6
     have c6b1 : (((rd_T76 l0_0 a0_1).f0) != 0) = true := bne_iff_ne.mpr c6
     obtain rfl := Option.some.inj H
     go_enter Try.func63, Try.ntmps63
     go_wp2_with (first | ((with_reducible refine gate_dst (N := 1) rfl ?_); (try (refine gate_guard (by rfl) ?_; dsimp only)); refine box_event ?hg (N := 1) ?hd (cs := #[.slice A0_0 l0_0.length c0_0, .int .i64 a0_1, .int .i64 a0_2, .int .i64 a0_3, .int .i64 a0_4, .int .i64 a0_5]) (t := 78) ?hr ?_; (case hd => rfl); (case hg => rfl); (case hr => first | (go_simp; done) | (go_simp; rfl)); intro gb125 hg w13 hbox hb; have n0_ := Aside0.mk (below_step (by repeat (first | (with_reducible first | exact HB.out | apply below_alloc | apply pw_below_drewN | apply below_drew1) | exact HB.out)) hb); have n1_ := Aside0.mk (hbox); have n2_ := Aside0.mk ((by rw [hg]; exact (below_size (by repeat (first | (with_reducible first | exact HB.out | apply below_alloc | apply pw_below_drewN | apply below_drew1) | exact HB.out))) : w.heap.size ≤ gb125)); have n3_ := Aside0.mk ((by rw [hg]; exact (below_size (by repeat (first | (with_reducible first | exact HB.out | apply below_alloc | apply pw_below_drewN | apply below_drew1) | exact HB.out))) : w.heap.size ≤ gb125)); clear HB; have HB := n0_; have BK125 := n1_; have GW125 := n2_; have GE125 := n3_; clear n0_ n1_ n2_ n3_; clear hb hbox hg; have hcz14_0 : w13.cell? ⟨gb125, 0, none⟩ = some (.slice A0_0 l0_0.length c0_0) := (blk_cell BK125.out 0).trans rfl; have hcz14_1 : w13.cell? ⟨gb125, 1, none⟩ = some (.int .i64 a0_1) := (blk_cell BK125.out 1).trans rfl; have hcz14_2 : w13.cell? ⟨gb125, 2, none⟩ = some (.int .i64 a0_2) := (blk_cell BK125.out 2).trans rfl; have hcz14_3 : w13.cell? ⟨gb125, 3, none⟩ = some (.int .i64 a0_3) := (blk_cell BK125.out 3).trans rfl; have hcz14_4 : w13.cell? ⟨gb125, 4, none⟩ = some (.int .i64 a0_4) := (blk_cell BK125.out 4).trans rfl; have hcz14_5 : w13.cell? ⟨gb125, 5, none⟩ = some (.int .i64 a0_5) := (blk_cell BK125.out 5).trans rfl; have hfz14_0 := blk_frozen BK125.out 0; have hfz14_1 := blk_frozen BK125.out 1; have hfz14_2 := blk_frozen BK125.out 2; have hfz14_3 := blk_frozen BK125.out 3; have hfz14_4 := blk_frozen BK125.out 4; have hfz14_5 := blk_frozen BK125.out 5) | ((with_reducible refine gate_callee (f := 47) rfl ?_); refine goesL_ (some 4) rfl rfl Try.func47 (by kernel_rfl) rfl #[.agg #[.slice A0_0 l0_0.length c0_0, .int .i64 a0_1, .int .i64 a0_2, .int .i64 a0_3, .int .i64 a0_4, .int .i64 a0_5]] rfl (by (try simp only [List.map_toArray, List.map_cons, List.map_nil]); first | done | rfl | (simp only [List.length_drop, List.length_take]; rfl)) ?_; (with_reducible refine (proteanref02_ok.calls _ _ l0_0 a0_1 a0_2 a0_3 a0_4 a0_5 true _ ?side1 ?side2 A2.out).mono ?_); (case side1 => repeat (first | exact (Kd.C_below HR0_0.out HB.out) | (with_reducible refine Kd.C_alloc ?_ _) | (with_reducible refine Kd.C_drewN ?_ _) | (with_reducible refine Kd.C_drew ?_))); (case side2 => exact HC0_0.out); rintro e w15 ⟨rfl, hb⟩; refine ⟨_, rfl, ?_⟩; have n0_ := Aside0.mk (blk_below (g := gb125) (o := .cells #[.slice A0_0 l0_0.length c0_0, .int .i64 a0_1, .int .i64 a0_2, .int .i64 a0_3, .int .i64 a0_4, .int .i64 a0_5] 78 (0, 0)) (by (with_reducible repeat (first | refine blk_drewN ?_ _ | refine blk_drew ?_ | refine blk_alloc ?_ _)); exact BK125.out) hb); have n1_ := Aside0.mk (below_step (by repeat (first | (with_reducible first | exact HB.out | apply below_alloc | apply pw_below_drewN | apply below_drew1 | refine below_set ?_ GE125.out) | exact HB.out)) hb); clear BK125; clear HB; have BK125 := n0_; have HB := n1_; clear n0_ n1_; (try clear hb); (try clear hb2); (try clear hk); (try clear hi); have hcz16_0 : w15.cell? ⟨gb125, 0, none⟩ = some (.slice A0_0 l0_0.length c0_0) := (blk_cell BK125.out 0).trans rfl; have hcz16_1 : w15.cell? ⟨gb125, 1, none⟩ = some (.int .i64 a0_1) := (blk_cell BK125.out 1).trans rfl; have hcz16_2 : w15.cell? ⟨gb125, 2, none⟩ = some (.int .i64 a0_2) := (blk_cell BK125.out 2).trans rfl; have hcz16_3 : w15.cell? ⟨gb125, 3, none⟩ = some (.int .i64 a0_3) := (blk_cell BK125.out 3).trans rfl; have hcz16_4 : w15.cell? ⟨gb125, 4, none⟩ = some (.int .i64 a0_4) := (blk_cell BK125.out 4).trans rfl; have hcz16_5 : w15.cell? ⟨gb125, 5, none⟩ = some (.int .i64 a0_5) := (blk_cell BK125.out 5).trans rfl; have hfz16_0 := blk_frozen BK125.out 0; have hfz16_1 := blk_frozen BK125.out 1; have hfz16_2 := blk_frozen BK125.out 2; have hfz16_3 := blk_frozen BK125.out 3; have hfz16_4 := blk_frozen BK125.out 4; have hfz16_5 := blk_frozen BK125.out 5; have p127 : 0 ≤ (a0_1 : Int) := of_decide_eq_true (by first | (with_reducible assumption) | assumption); have q127 : a0_1 < (l0_0.length : Int) := of_decide_eq_true (by first | (with_reducible assumption) | assumption); obtain ⟨ad127, e127, hx127_0, hx127_1, hx127_2⟩ := at_T76 HR0_0.out a0_1 p127 q127; cases e127; replace hx127_0 := (HB.out.cell (World.block_lt_of_cell? w _ hx127_0)).trans hx127_0; replace hx127_1 := (HB.out.cell (World.block_lt_of_cell? w _ hx127_1)).trans hx127_1; replace hx127_2 := (HB.out.cell (World.block_lt_of_cell? w _ hx127_2)).trans hx127_2; replace p127 := eq_true p127; replace q127 := eq_true q127))
     go_ret
     exact ⟨by first | rfl | (simp [errW_none, errW_some] <;> rfl) | (simp [*, errW_none, errW_some] <;> rfl), by repeat (first | (with_reducible first | exact HB.out | apply below_alloc | apply pw_below_drewN | apply below_drew1 | refine below_set ?_ GE125.out) | exact HB.out)⟩
   ·rw [if_neg c5] at H
    exact absurd H (by simp)
  ·rw [if_neg c4] at H
   have c4b0 : decide (a0_1 < (l0_0.length : Int)) = false := decide_eq_false c4
   clear c4
   obtain rfl := Option.some.inj H
   go_enter Try.func63, Try.ntmps63
   go_wp2_with (first | ((with_reducible refine gate_dst (N := 1) rfl ?_); (try (refine gate_guard (by rfl) ?_; dsimp only)); refine box_event ?hg (N := 1) ?hd (cs := #[.slice A0_0 l0_0.length c0_0, .int .i64 a0_1, .int .i64 a0_2, .int .i64 a0_3, .int .i64 a0_4, .int .i64 a0_5]) (t := 78) ?hr ?_; (case hd => rfl); (case hg => rfl); (case hr => first | (go_simp; done) | (go_simp; rfl)); intro gb125 hg w17 hbox hb; have n0_ := Aside0.mk (below_step (by repeat (first | (with_reducible first | exact HB.out | apply below_alloc | apply pw_below_drewN | apply below_drew1) | exact HB.out)) hb); have n1_ := Aside0.mk (hbox); have n2_ := Aside0.mk ((by rw [hg]; exact (below_size (by repeat (first | (with_reducible first | exact HB.out | apply below_alloc | apply pw_below_drewN | apply below_drew1) | exact HB.out))) : w.heap.size ≤ gb125)); have n3_ := Aside0.mk ((by rw [hg]; exact (below_size (by repeat (first | (with_reducible first | exact HB.out | apply below_alloc | apply pw_below_drewN | apply below_drew1) | exact HB.out))) : w.heap.size ≤ gb125)); clear HB; have HB := n0_; have BK125 := n1_; have GW125 := n2_; have GE125 := n3_; clear n0_ n1_ n2_ n3_; clear hb hbox hg; have hcz18_0 : w17.cell? ⟨gb125, 0, none⟩ = some (.slice A0_0 l0_0.length c0_0) := (blk_cell BK125.out 0).trans rfl; have hcz18_1 : w17.cell? ⟨gb125, 1, none⟩ = some (.int .i64 a0_1) := (blk_cell BK125.out 1).trans rfl; have hcz18_2 : w17.cell? ⟨gb125, 2, none⟩ = some (.int .i64 a0_2) := (blk_cell BK125.out 2).trans rfl; have hcz18_3 : w17.cell? ⟨gb125, 3, none⟩ = some (.int .i64 a0_3) := (blk_cell BK125.out 3).trans rfl; have hcz18_4 : w17.cell? ⟨gb125, 4, none⟩ = some (.int .i64 a0_4) := (blk_cell BK125.out 4).trans rfl; have hcz18_5 : w17.cell? ⟨gb125, 5, none⟩ = some (.int .i64 a0_5) := (blk_cell BK125.out 5).trans rfl; have hfz18_0 := blk_frozen BK125.out 0; have hfz18_1 := blk_frozen BK125.out 1; have hfz18_2 := blk_frozen BK125.out 2; have hfz18_3 := blk_frozen BK125.out 3; have hfz18_4 := blk_frozen BK125.out 4; have hfz18_5 := blk_frozen BK125.out 5) | ((with_reducible refine gate_callee (f := 47) rfl ?_); refine goesL_ (some 4) rfl rfl Try.func47 (by kernel_rfl) rfl #[.agg #[.slice A0_0 l0_0.length c0_0, .int .i64 a0_1, .int .i64 a0_2, .int .i64 a0_3, .int .i64 a0_4, .int .i64 a0_5]] rfl (by (try simp only [List.map_toArray, List.map_cons, List.map_nil]); first | done | rfl | (simp only [List.length_drop, List.length_take]; rfl)) ?_; (with_reducible refine (proteanref02_ok.calls _ _ l0_0 a0_1 a0_2 a0_3 a0_4 a0_5 true _ ?side1 ?side2 A2.out).mono ?_); (case side1 => repeat (first | exact (Kd.C_below HR0_0.out HB.out) | (with_reducible refine Kd.C_alloc ?_ _) | (with_reducible refine Kd.C_drewN ?_ _) | (with_reducible refine Kd.C_drew ?_))); (case side2 => exact HC0_0.out); rintro e w19 ⟨rfl, hb⟩; refine ⟨_, rfl, ?_⟩; have n0_ := Aside0.mk (blk_below (g := gb125) (o := .cells #[.slice A0_0 l0_0.length c0_0, .int .i64 a0_1, .int .i64 a0_2, .int .i64 a0_3, .int .i64 a0_4, .int .i64 a0_5] 78 (0, 0)) (by (with_reducible repeat (first | refine blk_drewN ?_ _ | refine blk_drew ?_ | refine blk_alloc ?_ _)); exact BK125.out) hb); have n1_ := Aside0.mk (below_step (by repeat (first | (with_reducible first | exact HB.out | apply below_alloc | apply pw_below_drewN | apply below_drew1 | refine below_set ?_ GE125.out) | exact HB.out)) hb); clear BK125; clear HB; have BK125 := n0_; have HB := n1_; clear n0_ n1_; (try clear hb); (try clear hb2); (try clear hk); (try clear hi); have hcz20_0 : w19.cell? ⟨gb125, 0, none⟩ = some (.slice A0_0 l0_0.length c0_0) := (blk_cell BK125.out 0).trans rfl; have hcz20_1 : w19.cell? ⟨gb125, 1, none⟩ = some (.int .i64 a0_1) := (blk_cell BK125.out 1).trans rfl; have hcz20_2 : w19.cell? ⟨gb125, 2, none⟩ = some (.int .i64 a0_2) := (blk_cell BK125.out 2).trans rfl; have hcz20_3 : w19.cell? ⟨gb125, 3, none⟩ = some (.int .i64 a0_3) := (blk_cell BK125.out 3).trans rfl; have hcz20_4 : w19.cell? ⟨gb125, 4, none⟩ = some (.int .i64 a0_4) := (blk_cell BK125.out 4).trans rfl; have hcz20_5 : w19.cell? ⟨gb125, 5, none⟩ = some (.int .i64 a0_5) := (blk_cell BK125.out 5).trans rfl; have hfz20_0 := blk_frozen BK125.out 0; have hfz20_1 := blk_frozen BK125.out 1; have hfz20_2 := blk_frozen BK125.out 2; have hfz20_3 := blk_frozen BK125.out 3; have hfz20_4 := blk_frozen BK125.out 4; have hfz20_5 := blk_frozen BK125.out 5))
   go_ret
   exact ⟨by first | rfl | (simp [errW_none, errW_some] <;> rfl) | (simp [*, errW_none, errW_some] <;> rfl), by repeat (first | (with_reducible first | exact HB.out | apply below_alloc | apply pw_below_drewN | apply below_drew1 | refine below_set ?_ GE125.out) | exact HB.out)⟩
 ·replace c3 := Bool.eq_false_iff.mpr c3
  subst c3
  have H1 : (some false) = some r := by rw [if_neg (show ¬ (false = true) by decide)] at H; exact H
  clear H
  have H := H1
  clear H1
  obtain rfl := Option.some.inj H
  go_enter Try.func63, Try.ntmps63
  go_wp2_with (first | ((with_reducible refine gate_dst (N := 1) rfl ?_); (try (refine gate_guard (by rfl) ?_; dsimp only)); refine box_event ?hg (N := 1) ?hd (cs := #[.slice A0_0 l0_0.length c0_0, .int .i64 a0_1, .int .i64 a0_2, .int .i64 a0_3, .int .i64 a0_4, .int .i64 a0_5]) (t := 78) ?hr ?_; (case hd => rfl); (case hg => rfl); (case hr => first | (go_simp; done) | (go_simp; rfl)); intro gb125 hg w21 hbox hb; have n0_ := Aside0.mk (below_step (by repeat (first | (with_reducible first | exact HB.out | apply below_alloc | apply pw_below_drewN | apply below_drew1) | exact HB.out)) hb); have n1_ := Aside0.mk (hbox); have n2_ := Aside0.mk ((by rw [hg]; exact (below_size (by repeat (first | (with_reducible first | exact HB.out | apply below_alloc | apply pw_below_drewN | apply below_drew1) | exact HB.out))) : w.heap.size ≤ gb125)); have n3_ := Aside0.mk ((by rw [hg]; exact (below_size (by repeat (first | (with_reducible first | exact HB.out | apply below_alloc | apply pw_below_drewN | apply below_drew1) | exact HB.out))) : w.heap.size ≤ gb125)); clear HB; have HB := n0_; have BK125 := n1_; have GW125 := n2_; have GE125 := n3_; clear n0_ n1_ n2_ n3_; clear hb hbox hg; have hcz22_0 : w21.cell? ⟨gb125, 0, none⟩ = some (.slice A0_0 l0_0.length c0_0) := (blk_cell BK125.out 0).trans rfl; have hcz22_1 : w21.cell? ⟨gb125, 1, none⟩ = some (.int .i64 a0_1) := (blk_cell BK125.out 1).trans rfl; have hcz22_2 : w21.cell? ⟨gb125, 2, none⟩ = some (.int .i64 a0_2) := (blk_cell BK125.out 2).trans rfl; have hcz22_3 : w21.cell? ⟨gb125, 3, none⟩ = some (.int .i64 a0_3) := (blk_cell BK125.out 3).trans rfl; have hcz22_4 : w21.cell? ⟨gb125, 4, none⟩ = some (.int .i64 a0_4) := (blk_cell BK125.out 4).trans rfl; have hcz22_5 : w21.cell? ⟨gb125, 5, none⟩ = some (.int .i64 a0_5) := (blk_cell BK125.out 5).trans rfl; have hfz22_0 := blk_frozen BK125.out 0; have hfz22_1 := blk_frozen BK125.out 1; have hfz22_2 := blk_frozen BK125.out 2; have hfz22_3 := blk_frozen BK125.out 3; have hfz22_4 := blk_frozen BK125.out 4; have hfz22_5 := blk_frozen BK125.out 5) | ((with_reducible refine gate_callee (f := 47) rfl ?_); refine goesL_ (some 4) rfl rfl Try.func47 (by kernel_rfl) rfl #[.agg #[.slice A0_0 l0_0.length c0_0, .int .i64 a0_1, .int .i64 a0_2, .int .i64 a0_3, .int .i64 a0_4, .int .i64 a0_5]] rfl (by (try simp only [List.map_toArray, List.map_cons, List.map_nil]); first | done | rfl | (simp only [List.length_drop, List.length_take]; rfl)) ?_; (with_reducible refine (proteanref02_ok.calls _ _ l0_0 a0_1 a0_2 a0_3 a0_4 a0_5 false _ ?side1 ?side2 A2.out).mono ?_); (case side1 => repeat (first | exact (Kd.C_below HR0_0.out HB.out) | (with_reducible refine Kd.C_alloc ?_ _) | (with_reducible refine Kd.C_drewN ?_ _) | (with_reducible refine Kd.C_drew ?_))); (case side2 => exact HC0_0.out); rintro e w23 ⟨rfl, hb⟩; refine ⟨_, rfl, ?_⟩; have n0_ := Aside0.mk (blk_below (g := gb125) (o := .cells #[.slice A0_0 l0_0.length c0_0, .int .i64 a0_1, .int .i64 a0_2, .int .i64 a0_3, .int .i64 a0_4, .int .i64 a0_5] 78 (0, 0)) (by (with_reducible repeat (first | refine blk_drewN ?_ _ | refine blk_drew ?_ | refine blk_alloc ?_ _)); exact BK125.out) hb); have n1_ := Aside0.mk (below_step (by repeat (first | (with_reducible first | exact HB.out | apply below_alloc | apply pw_below_drewN | apply below_drew1 | refine below_set ?_ GE125.out) | exact HB.out)) hb); clear BK125; clear HB; have BK125 := n0_; have HB := n1_; clear n0_ n1_; (try clear hb); (try clear hb2); (try clear hk); (try clear hi)))
  go_ret
  exact ⟨by first | rfl | (simp [errW_none, errW_some] <;> rfl) | (simp [*, errW_none, errW_some] <;> rfl), by repeat (first | (with_reducible first | exact HB.out | apply below_alloc | apply pw_below_drewN | apply below_drew1 | refine below_set ?_ GE125.out) | exact HB.out)⟩

/-! ### proteanref01_Blank: function 42 -/
def proteanref01_Blank.f (a0 : Int) : Option (Bool) := if a0 = 9 then (some true) else (if a0 = 10 then (some true) else (if a0 = 13 then (some true) else (some (a0 == 32))))
set_option maxHeartbeats 8000000 in
set_option maxRecDepth 100000 in
theorem proteanref01_Blank.calls (a0 : Int) (r : Bool) (w : World) (h : proteanref01_Blank.f a0 = some r) :
    Calls Try.prog 42 #[.int .u8 a0] w fun e w' => e = .returned (.bool r) ∧ Drawn0 w w' := by
 have H : (if a0 = 9 then (some true) else (if a0 = 10 then (some true) else (if a0 = 13 then (some true) else (some (a0 == 32))))) = some r := h
 clear h
 by_cases c2 : a0 = 9
 ·rw [if_pos c2] at H
  have c2b0 : (a0 == 9) = true := beq_iff_eq.mpr c2
  have c2b1 : (a0 != 9) = false := bne_eq_false_iff_eq.mpr c2
  clear c2
  obtain rfl := Option.some.inj H
  go_enter Try.func42, Try.ntmps42
  go_wp2
  go_ret
  exact ⟨by first | rfl | (simp; done) | (simp [*]; done), by repeat (first | exact Drawn0.refl _ | apply Drawn0.step)⟩
 ·rw [if_neg c2] at H
  have c2b0 : (a0 == 9) = false := beq_eq_false_iff_ne.mpr c2
  have c2b1 : (a0 != 9) = true := bne_iff_ne.mpr c2
  by_cases c3 : a0 = 10
  ·rw [if_pos c3] at H
   have c3b0 : (a0 == 10) = true := beq_iff_eq.mpr c3
   have c3b1 : (a0 != 10) = false := bne_eq_false_iff_eq.mpr c3
   clear c3
   obtain rfl := Option.some.inj H
   go_enter Try.func42, Try.ntmps42
   go_wp2
   go_ret
   exact ⟨by first | rfl | (simp; done) | (simp [*]; done), by repeat (first | exact Drawn0.refl _ | apply Drawn0.step)⟩
  ·rw [if_neg c3] at H
   have c3b0 : (a0 == 10) = false := beq_eq_false_iff_ne.mpr c3
   have c3b1 : (a0 != 10) = true := bne_iff_ne.mpr c3
   by_cases c4 : a0 = 13
   ·rw [if_pos c4] at H
    have c4b0 : (a0 == 13) = true := beq_iff_eq.mpr c4
    have c4b1 : (a0 != 13) = false := bne_eq_false_iff_eq.mpr c4
    clear c4
    obtain rfl := Option.some.inj H
    go_enter Try.func42, Try.ntmps42
    go_wp2
    go_ret
    exact ⟨by first | rfl | (simp; done) | (simp [*]; done), by repeat (first | exact Drawn0.refl _ | apply Drawn0.step)⟩
   ·rw [if_neg c4] at H
    have c4b0 : (a0 == 13) = false := beq_eq_false_iff_ne.mpr c4
    have c4b1 : (a0 != 13) = true := bne_iff_ne.mpr c4
    obtain rfl := Option.some.inj H
    go_enter Try.func42, Try.ntmps42
    go_wp2
    go_ret
    exact ⟨by first | rfl | (simp; done) | (simp [*]; done), by repeat (first | exact Drawn0.refl _ | apply Drawn0.step)⟩

/-! ### proteanref01_Lex: function 32 -/
mutual
def proteanref01_Lex.l0 : Nat → ByteArray → List (S76) → Int → Option ((List (S76)) × Int × Int)
  | 0, _, _, _ => none
  | k + 1, x0, x4, x5 => if x5 < (x0.size : Int) then (if 0 ≤ x5 then ((proteanref01_Blank.f (bt x0 x5)).bind fun t134 => (if t134 = true then (proteanref01_Lex.l0 k x0 x4 (wrap64 (x5 + 1))) else (if (bt x0 x5) = 35 then (none) else ((proteanref01_Letter.f (bt x0 x5)).bind fun t135 => (if t135 = true then (proteanref01_Lex.l1 k x0 x4 x5 (wrap64 (x5 + 1)) 0) else ((proteanref01_Digit.f (bt x0 x5)).bind fun t143 => (if t143 = true then (none) else ((proteanref01_Sign.f k (bt x0 x5)).bind fun t144 => (if t144 = true then (if x5 ≤ (wrap64 (x5 + 1)) then (if (wrap64 (x5 + 1)) ≤ (x0.size : Int) then (if x4.length < 4398046511104 then (proteanref01_Lex.l0 k x0 (x4 ++ [(⟨2, x0.extract (x5 : Int).toNat ((wrap64 (x5 + 1)) : Int).toNat, x5⟩ : S76)]) (wrap64 (x5 + 1))) else (none)) else (none)) else (none)) else (none)))))))))) else (none)) else (some (x4, 0, 0))
def proteanref01_Lex.l1 : Nat → ByteArray → List (S76) → Int → Int → Int → Option ((List (S76)) × Int × Int)
  | 0, _, _, _, _, _ => none
  | k + 1, x0, x4, x5, x7, x8 => if x7 < (x0.size : Int) then (if 0 ≤ x7 then ((proteanref01_Inner.f (bt x0 x7)).bind fun t136 => (if t136 = true then (proteanref01_Lex.l1 k x0 x4 x5 (wrap64 (x7 + 1)) x8) else (if 0 ≤ x5 then (if x5 ≤ x7 then (if x7 ≤ (x0.size : Int) then (if x4.length < 4398046511104 then (proteanref01_Lex.l0 k x0 (x4 ++ [(⟨x8, x0.extract (x5 : Int).toNat (x7 : Int).toNat, x5⟩ : S76)]) x7) else (none)) else (none)) else (none)) else (none)))) else (none)) else (if 0 ≤ x5 then (if x5 ≤ x7 then (if x7 ≤ (x0.size : Int) then (if x4.length < 4398046511104 then (proteanref01_Lex.l0 k x0 (x4 ++ [(⟨x8, x0.extract (x5 : Int).toNat (x7 : Int).toNat, x5⟩ : S76)]) x7) else (none)) else (none)) else (none)) else (none))
end
def proteanref01_Lex.f (k : Nat) (a0 : ByteArray) : Option ((List (S76)) × Int × Int) := if (a0.size : Int) > 65536 then (none) else (proteanref01_Lex.l0 k a0 (([] : List (S76))) 0)
set_option maxHeartbeats 8000000 in
set_option maxRecDepth 100000 in
theorem proteanref01_Lex.calls (k : Nat) (a0 : ByteArray) (r1 : List (S76)) (r2 : Int) (r3 : Int) (w : World) (h : proteanref01_Lex.f k a0 = some (r1, r2, r3)) :
    Calls Try.prog 32 #[.string a0] w fun e w' => ∃ v0_ : Value, e = .returned (.tuple #[v0_, .agg #[.int .i64 r2, .int .i64 r3]]) ∧ Kd.R k76 76 w' w.heap.size (fun _ => True) v0_ r1 ∧ Below w.heap.size w w' := by
 have hu47 := Try.underlying47
 have hu76 := Try.underlying76
 have HB := Aside0.mk (Below.refl w.heap.size w)
 have H : (if (a0.size : Int) > 65536 then (none) else (proteanref01_Lex.l0 k a0 (([] : List (S76))) 0)) = some (r1, r2, r3) := h
 clear h
 by_cases c2 : (a0.size : Int) > 65536
 ·rw [if_pos c2] at H
  exact absurd H (by simp)
 ·rw [if_neg c2] at H
  have c2b0 : decide (65536 < (a0.size : Int)) = false := decide_eq_false c2
  have c2b1 : decide (65536 < a0.size) = false := decide_eq_false (by omega)
  clear c2
  obtain ⟨y131, hy131⟩ : ∃ y_ : List (S76), y_ = (([] : List (S76))) := ⟨_, rfl⟩
  replace H : (proteanref01_Lex.l0 k a0 y131 0) = some (r1, r2, r3) := by first | (rw [hy131]; with_reducible exact H) | (have H2_ := (Option.bind_some _ _).symm.trans H; rw [hy131]; with_reducible exact H2_) | (have H2_ := (Option.bind_some _ _).symm.trans H; with_reducible exact H2_) | with_reducible exact H | (rw [hy131]; exact H) | exact H
  have Ny131 := Aside0.mk hy131
  clear hy131
  have H' := Aside0.mk H
  clear H
  go_enter Try.func32, Try.ntmps32
  go_wp2_with (first | ((with_reducible refine gate_dst (N := 3) rfl ?_); refine box_event ?hg (N := 3) ?hd (cs := #[.int .i64 0, .int .i64 0]) (t := 47) ?hr ?_; (case hd => rfl); (case hg => rfl); (case hr => first | (go_simp; done) | (go_simp; rfl)); intro gb130 hg w3 hbox hb; have n0_ := Aside0.mk (below_step (by repeat (first | (with_reducible first | exact HB.out | apply below_alloc | apply pw_below_drewN | apply below_drew1) | exact HB.out)) hb); have n1_ := Aside0.mk (hbox); have n2_ := Aside0.mk ((by rw [hg]; exact (below_size (by repeat (first | (with_reducible first | exact HB.out | apply below_alloc | apply pw_below_drewN | apply below_drew1) | exact HB.out))) : w.heap.size ≤ gb130)); have n3_ := Aside0.mk ((by rw [hg]; exact (below_size (by repeat (first | (with_reducible first | exact HB.out | apply below_alloc | apply pw_below_drewN | apply below_drew1) | exact HB.out))) : w.heap.size ≤ gb130)); clear HB; have HB := n0_; have BK130 := n1_; have GW130 := n2_; have GE130 := n3_; clear n0_ n1_ n2_ n3_; clear hb hbox hg) | ((with_reducible refine gate_dst (N := 13) rfl ?_); refine Kd.R_lit k76 _ 76 ?hg (N := 13) ?hd (xs := ([] : List (S76))) (inner := []) (ok := fun _ => True) (okp := fun _ => True) ?hr ?hp (fun _ hk => hk) trivial (Below.refl _ _) (Nat.le_refl _) (by simp) ?_; (case hd => rfl); (case hg => rfl); (case hr => first | (go_simp; done) | (go_simp; rfl)); (case hp => exact (Reps.none _ _)); intro v132 w4 ho5 hb hg_ hnew_; clear hg_ hnew_; (first | rw [← Ny131.out] at ho5 | (simp only [Int.reduceToNat] at ho5; rw [← Ny131.out] at ho5)); have n0_ := Aside0.mk (Kd.R_lower ho5 (below_size (by repeat (first | (with_reducible first | exact HB.out | apply below_alloc | apply pw_below_drewN | apply below_drew1 | refine below_set ?_ GE130.out) | exact HB.out)))); have n1_ := Aside0.mk (blk_below (g := gb130) (o := .cells #[.int .i64 0, .int .i64 0] 47 (0, 0)) (by (with_reducible repeat (first | refine blk_drewN ?_ _ | refine blk_drew ?_ | refine blk_alloc ?_ _)); exact BK130.out) hb); have n2_ := Aside0.mk (below_step (by repeat (first | (with_reducible first | exact HB.out | apply below_alloc | apply pw_below_drewN | apply below_drew1 | refine below_set ?_ GE130.out) | exact HB.out)) hb); clear BK130; clear HB; have HO133 := n0_; have BK130 := n1_; have HB := n2_; clear n0_ n1_ n2_; clear hb ho5))
  go_loopg [4, 5] k (fun kq v4 v5 w' => ∃ (x4_1 : List (S76)) (x5_1 : Int), v5 = .int .i64 x5_1 ∧ Aside0 (proteanref01_Lex.l0 kq a0 x4_1 x5_1 = some (r1, r2, r3)) ∧ Aside0 (kq ≤ k) ∧ Aside0 (Kd.R k76 76 w' w.heap.size (fun _ => True) v4 x4_1) ∧ Aside0 (w'.heap[gb130]? = some (.cells #[.int .i64 0, .int .i64 0] 47 (0, 0))) ∧ Aside0 (Below w.heap.size w w'))
  case atStart => exact ⟨(y131), (0), (by first | rfl | (simp; done) | (simp [*]; done)), H', ⟨Nat.le_refl _⟩, ⟨by (with_reducible repeat (first | apply Kd.R_alloc | apply Kd.R_drewN | apply Kd.R_drew)); exact HO133.out⟩, ⟨by (with_reducible repeat (first | refine blk_drewN ?_ _ | refine blk_drew ?_ | refine blk_alloc ?_ _)); exact BK130.out⟩, ⟨by repeat (first | (with_reducible first | exact HB.out | apply below_alloc | apply pw_below_drewN | apply below_drew1 | refine below_set ?_ GE130.out) | exact HB.out)⟩⟩
  case round =>
   clear H'
   try clear c2
   try clear c2b0
   try clear c2b1
   try clear p2
   try clear c3
   obtain ⟨x4_1, x5_1, rfl, HA, HK1, HO_4, BK130, HB⟩ := hrel
   cases gk with
   | zero => exact absurd HA.out (by simp [proteanref01_Lex.l0])
   | succ k1 =>
    have H := HA.out
    clear HA
    simp only [proteanref01_Lex.l0] at H
    by_cases c6 : x5_1 < (a0.size : Int)
    ·rw [if_pos c6] at H
     have c6b0 : decide (x5_1 < (a0.size : Int)) = true := decide_eq_true c6
     clear c6
     by_cases c7 : 0 ≤ x5_1
     ·rw [if_pos c7] at H
      have c7b0 : decide (0 ≤ x5_1) = true := decide_eq_true c7
      clear c7
      replace H := Option.bind_eq_some_iff.mp H
      obtain ⟨t134, A90, H⟩ := H
      replace H : (if t134 = true then (proteanref01_Lex.l0 k1 a0 x4_1 (wrap64 (x5_1 + 1))) else (if (bt a0 x5_1) = 35 then (none) else ((proteanref01_Letter.f (bt a0 x5_1)).bind fun t135 => (if t135 = true then (proteanref01_Lex.l1 k1 a0 x4_1 x5_1 (wrap64 (x5_1 + 1)) 0) else ((proteanref01_Digit.f (bt a0 x5_1)).bind fun t143 => (if t143 = true then (none) else ((proteanref01_Sign.f k1 (bt a0 x5_1)).bind fun t144 => (if t144 = true then (if x5_1 ≤ (wrap64 (x5_1 + 1)) then (if (wrap64 (x5_1 + 1)) ≤ (a0.size : Int) then (if x4_1.length < 4398046511104 then (proteanref01_Lex.l0 k1 a0 (x4_1 ++ [(⟨2, a0.extract (x5_1 : Int).toNat ((wrap64 (x5_1 + 1)) : Int).toNat, x5_1⟩ : S76)]) (wrap64 (x5_1 + 1))) else (none)) else (none)) else (none)) else (none))))))))) = some (r1, r2, r3) := H
      have A9 := Aside0.mk A90
      clear A90
      by_cases c10 : t134 = true
      ·subst c10
       have H1 : (proteanref01_Lex.l0 k1 a0 x4_1 (wrap64 (x5_1 + 1))) = some (r1, r2, r3) := by rw [if_pos rfl] at H; exact H
       clear H
       have H := H1
       clear H1
       have H' := Aside0.mk H
       clear H
       have p8 : 0 ≤ (x5_1 : Int) := of_decide_eq_true (by first | (with_reducible assumption) | assumption)
       have q8 : x5_1 < (a0.size : Int) := of_decide_eq_true (by first | (with_reducible assumption) | assumption)
       have hx8 := bt_at a0 x5_1
       replace p8 := eq_true p8
       replace q8 := eq_true q8
       go_wp2_with (first | ((with_reducible refine gate_callee (f := 42) rfl ?_); refine goesL_ (some 22) rfl rfl Try.func42 (by kernel_rfl) rfl #[.int .u8 (bt a0 x5_1)] rfl (by (try simp only [List.map_toArray, List.map_cons, List.map_nil]); first | done | rfl | (simp only [List.length_drop, List.length_take]; rfl)) ?_; (with_reducible refine (proteanref01_Blank.calls (bt a0 x5_1) true _ A9.out).mono ?_); rintro e w' ⟨rfl, ⟨nd, rfl⟩⟩; refine ⟨_, rfl, ?_⟩))
       go_roundg k1
       case measure => have := HK1.out; omega
       case rel => exact ⟨(x4_1), (wrap64 (x5_1 + 1)), (by first | rfl | (simp; done) | (simp [*]; done)), H', ⟨by have := HK1.out; omega⟩, ⟨by (with_reducible repeat (first | apply Kd.R_alloc | apply Kd.R_drewN | apply Kd.R_drew)); exact HO_4.out⟩, ⟨by (with_reducible repeat (first | refine blk_drewN ?_ _ | refine blk_drew ?_ | refine blk_alloc ?_ _)); exact BK130.out⟩, ⟨by repeat (first | (with_reducible first | exact HB.out | apply below_alloc | apply pw_below_drewN | apply below_drew1 | refine below_set ?_ GE130.out) | exact HB.out)⟩⟩
      ·replace c10 := Bool.eq_false_iff.mpr c10
       subst c10
       have H1 : (if (bt a0 x5_1) = 35 then (none) else ((proteanref01_Letter.f (bt a0 x5_1)).bind fun t135 => (if t135 = true then (proteanref01_Lex.l1 k1 a0 x4_1 x5_1 (wrap64 (x5_1 + 1)) 0) else ((proteanref01_Digit.f (bt a0 x5_1)).bind fun t143 => (if t143 = true then (none) else ((proteanref01_Sign.f k1 (bt a0 x5_1)).bind fun t144 => (if t144 = true then (if x5_1 ≤ (wrap64 (x5_1 + 1)) then (if (wrap64 (x5_1 + 1)) ≤ (a0.size : Int) then (if x4_1.length < 4398046511104 then (proteanref01_Lex.l0 k1 a0 (x4_1 ++ [(⟨2, a0.extract (x5_1 : Int).toNat ((wrap64 (x5_1 + 1)) : Int).toNat, x5_1⟩ : S76)]) (wrap64 (x5_1 + 1))) else (none)) else (none)) else (none)) else (none)))))))) = some (r1, r2, r3) := by rw [if_neg (show ¬ (false = true) by decide)] at H; exact H
       clear H
       have H := H1
       clear H1
       by_cases c11 : (bt a0 x5_1) = 35
       ·rw [if_pos c11] at H
        exact absurd H (by simp)
       ·rw [if_neg c11] at H
        have c11b0 : ((bt a0 x5_1) == 35) = false := beq_eq_false_iff_ne.mpr c11
        have c11b1 : ((bt a0 x5_1) != 35) = true := bne_iff_ne.mpr c11
        replace H := Option.bind_eq_some_iff.mp H
        obtain ⟨t135, A120, H⟩ := H
        replace H : (if t135 = true then (proteanref01_Lex.l1 k1 a0 x4_1 x5_1 (wrap64 (x5_1 + 1)) 0) else ((proteanref01_Digit.f (bt a0 x5_1)).bind fun t143 => (if t143 = true then (none) else ((proteanref01_Sign.f k1 (bt a0 x5_1)).bind fun t144 => (if t144 = true then (if x5_1 ≤ (wrap64 (x5_1 + 1)) then (if (wrap64 (x5_1 + 1)) ≤ (a0.size : Int) then (if x4_1.length < 4398046511104 then (proteanref01_Lex.l0 k1 a0 (x4_1 ++ [(⟨2, a0.extract (x5_1 : Int).toNat ((wrap64 (x5_1 + 1)) : Int).toNat, x5_1⟩ : S76)]) (wrap64 (x5_1 + 1))) else (none)) else (none)) else (none)) else (none)))))) = some (r1, r2, r3) := H
        have A12 := Aside0.mk A120
        clear A120
        by_cases c13 : t135 = true
        ·subst c13
         have H1 : (proteanref01_Lex.l1 k1 a0 x4_1 x5_1 (wrap64 (x5_1 + 1)) 0) = some (r1, r2, r3) := by rw [if_pos rfl] at H; exact H
         clear H
         have H := H1
         clear H1
         have H' := Aside0.mk H
         clear H
         have p8 : 0 ≤ (x5_1 : Int) := of_decide_eq_true (by first | (with_reducible assumption) | assumption)
         have q8 : x5_1 < (a0.size : Int) := of_decide_eq_true (by first | (with_reducible assumption) | assumption)
         have hx8 := bt_at a0 x5_1
         replace p8 := eq_true p8
         replace q8 := eq_true q8
         go_wp2_with (first | ((with_reducible refine gate_callee (f := 42) rfl ?_); refine goesL_ (some 22) rfl rfl Try.func42 (by kernel_rfl) rfl #[.int .u8 (bt a0 x5_1)] rfl (by (try simp only [List.map_toArray, List.map_cons, List.map_nil]); first | done | rfl | (simp only [List.length_drop, List.length_take]; rfl)) ?_; (with_reducible refine (proteanref01_Blank.calls (bt a0 x5_1) false _ A9.out).mono ?_); rintro e w' ⟨rfl, ⟨nd, rfl⟩⟩; refine ⟨_, rfl, ?_⟩) | ((with_reducible refine gate_callee (f := 43) rfl ?_); refine goesL_ (some 42) rfl rfl Try.func43 (by kernel_rfl) rfl #[.int .u8 (bt a0 x5_1)] rfl (by (try simp only [List.map_toArray, List.map_cons, List.map_nil]); first | done | rfl | (simp only [List.length_drop, List.length_take]; rfl)) ?_; (with_reducible refine (proteanref01_Letter.calls (bt a0 x5_1) true _ A12.out).mono ?_); rintro e w' ⟨rfl, ⟨nd, rfl⟩⟩; refine ⟨_, rfl, ?_⟩))
         go_loopg [7] k1 (fun kq v7 w' => ∃ (x7_2 : Int), v7 = .int .i64 x7_2 ∧ Aside0 (proteanref01_Lex.l1 kq a0 x4_1 x5_1 x7_2 0 = some (r1, r2, r3)) ∧ Aside0 (kq ≤ k1) ∧ Aside0 (Kd.R k76 76 w' w.heap.size (fun _ => True) u4 x4_1) ∧ Aside0 (w'.heap[gb130]? = some (.cells #[.int .i64 0, .int .i64 0] 47 (0, 0))) ∧ Aside0 (Below w.heap.size w w'))
         case atStart => exact ⟨(wrap64 (x5_1 + 1)), (by first | rfl | (simp; done) | (simp [*]; done)), H', ⟨Nat.le_refl _⟩, ⟨by (with_reducible repeat (first | apply Kd.R_alloc | apply Kd.R_drewN | apply Kd.R_drew)); exact HO_4.out⟩, ⟨by (with_reducible repeat (first | refine blk_drewN ?_ _ | refine blk_drew ?_ | refine blk_alloc ?_ _)); exact BK130.out⟩, ⟨by repeat (first | (with_reducible first | exact HB.out | apply below_alloc | apply pw_below_drewN | apply below_drew1 | refine below_set ?_ GE130.out) | exact HB.out)⟩⟩
         case round =>
          clear H'
          try clear c1
          try clear c2
          try clear c2b0
          try clear c2b1
          try clear p2
          try clear c3
          try clear c4
          try clear c6
          try clear c6b0
          try clear p6
          try clear c7
          try clear c7b0
          try clear p8
          try clear q8
          try clear hx8
          try clear c10
          try clear c11
          try clear c11b0
          try clear c11b1
          try clear c13
          try clear p2
          try clear p8
          try clear q8
          obtain ⟨x7_2, rfl, HA, HK2, HO_4, BK130, HB⟩ := hrel
          cases gk with
          | zero => exact absurd HA.out (by simp [proteanref01_Lex.l1])
          | succ k2 =>
           have H := HA.out
           clear HA
           simp only [proteanref01_Lex.l1] at H
           by_cases c14 : x7_2 < (a0.size : Int)
           ·rw [if_pos c14] at H
            have c14b0 : decide (x7_2 < (a0.size : Int)) = true := decide_eq_true c14
            clear c14
            by_cases c15 : 0 ≤ x7_2
            ·rw [if_pos c15] at H
             have c15b0 : decide (0 ≤ x7_2) = true := decide_eq_true c15
             clear c15
             replace H := Option.bind_eq_some_iff.mp H
             obtain ⟨t136, A170, H⟩ := H
             replace H : (if t136 = true then (proteanref01_Lex.l1 k2 a0 x4_1 x5_1 (wrap64 (x7_2 + 1)) 0) else (if 0 ≤ x5_1 then (if x5_1 ≤ x7_2 then (if x7_2 ≤ (a0.size : Int) then (if x4_1.length < 4398046511104 then (proteanref01_Lex.l0 k2 a0 (x4_1 ++ [(⟨0, a0.extract (x5_1 : Int).toNat (x7_2 : Int).toNat, x5_1⟩ : S76)]) x7_2) else (none)) else (none)) else (none)) else (none))) = some (r1, r2, r3) := H
             have A17 := Aside0.mk A170
             clear A170
             by_cases c18 : t136 = true
             ·subst c18
              have H1 : (proteanref01_Lex.l1 k2 a0 x4_1 x5_1 (wrap64 (x7_2 + 1)) 0) = some (r1, r2, r3) := by rw [if_pos rfl] at H; exact H
              clear H
              have H := H1
              clear H1
              have H' := Aside0.mk H
              clear H
              have p16 : 0 ≤ (x7_2 : Int) := of_decide_eq_true (by first | (with_reducible assumption) | assumption)
              have q16 : x7_2 < (a0.size : Int) := of_decide_eq_true (by first | (with_reducible assumption) | assumption)
              have hx16 := bt_at a0 x7_2
              replace p16 := eq_true p16
              replace q16 := eq_true q16
              go_wp2_with (first | (go_at_call 44; (with_reducible refine (proteanref01_Inner.calls (bt a0 x7_2) true _ A17.out).mono ?_); rintro e w' ⟨rfl, ⟨nd, rfl⟩⟩))
              go_roundg k2
              case measure => have := HK1.out; have := HK2.out; omega
              case rel => exact ⟨(wrap64 (x7_2 + 1)), (by first | rfl | (simp; done) | (simp [*]; done)), H', ⟨by have := HK1.out; have := HK2.out; omega⟩, ⟨by (with_reducible repeat (first | apply Kd.R_alloc | apply Kd.R_drewN | apply Kd.R_drew)); exact HO_4.out⟩, ⟨by (with_reducible repeat (first | refine blk_drewN ?_ _ | refine blk_drew ?_ | refine blk_alloc ?_ _)); exact BK130.out⟩, ⟨by repeat (first | (with_reducible first | exact HB.out | apply below_alloc | apply pw_below_drewN | apply below_drew1 | refine below_set ?_ GE130.out) | exact HB.out)⟩⟩
             ·replace c18 := Bool.eq_false_iff.mpr c18
              subst c18
              have H1 : (if 0 ≤ x5_1 then (if x5_1 ≤ x7_2 then (if x7_2 ≤ (a0.size : Int) then (if x4_1.length < 4398046511104 then (proteanref01_Lex.l0 k2 a0 (x4_1 ++ [(⟨0, a0.extract (x5_1 : Int).toNat (x7_2 : Int).toNat, x5_1⟩ : S76)]) x7_2) else (none)) else (none)) else (none)) else (none)) = some (r1, r2, r3) := by rw [if_neg (show ¬ (false = true) by decide)] at H; exact H
              clear H
              have H := H1
              clear H1
              by_cases c19 : 0 ≤ x5_1
              ·rw [if_pos c19] at H
               have c19b0 := eq_true c19
               have c19b1 : decide (0 ≤ x5_1) = true := decide_eq_true c19
               clear c19
               by_cases c20 : x5_1 ≤ x7_2
               ·rw [if_pos c20] at H
                have c20b0 := eq_true c20
                have c20b1 : decide (x5_1 ≤ x7_2) = true := decide_eq_true c20
                clear c20
                by_cases c21 : x7_2 ≤ (a0.size : Int)
                ·rw [if_pos c21] at H
                 have c21b0 := eq_true c21
                 have c21b1 : decide (x7_2 ≤ (a0.size : Int)) = true := decide_eq_true c21
                 clear c21
                 by_cases c22 : x4_1.length < 4398046511104
                 ·rw [if_pos c22] at H
                  have LMc22 := Aside0.mk c22
                  clear c22
                  obtain ⟨y137, hy137⟩ : ∃ y_ : List (S76), y_ = (x4_1 ++ [(⟨0, a0.extract (x5_1 : Int).toNat (x7_2 : Int).toNat, x5_1⟩ : S76)]) := ⟨_, rfl⟩
                  replace H : (proteanref01_Lex.l0 k2 a0 y137 x7_2) = some (r1, r2, r3) := by first | (rw [hy137]; with_reducible exact H) | (have H2_ := (Option.bind_some _ _).symm.trans H; rw [hy137]; with_reducible exact H2_) | (have H2_ := (Option.bind_some _ _).symm.trans H; with_reducible exact H2_) | with_reducible exact H | (rw [hy137]; exact H) | exact H
                  have Ny137 := Aside0.mk hy137
                  clear hy137
                  have H' := Aside0.mk H
                  clear H
                  have p16 : 0 ≤ (x7_2 : Int) := of_decide_eq_true (by first | (with_reducible assumption) | assumption)
                  have q16 : x7_2 < (a0.size : Int) := of_decide_eq_true (by first | (with_reducible assumption) | assumption)
                  have hx16 := bt_at a0 x7_2
                  replace p16 := eq_true p16
                  replace q16 := eq_true q16
                  go_wp2_with (first | (go_at_call 44; (with_reducible refine (proteanref01_Inner.calls (bt a0 x7_2) false _ A17.out).mono ?_); rintro e w' ⟨rfl, ⟨nd, rfl⟩⟩) | ((with_reducible refine gate_builtin (b := .append) (xs := #[.tmp 87, .tmp 95]) rfl ?_); at_builtin; refine Kd.R_append k76 (w0 := w) w.heap.size rfl (.tmp 87) (.tmp 95) 62 76 (.agg #[(.int .i64 0), (.string ⟨#[]⟩), (.int .i64 0)]) 32 rfl Try.underlying62 info76 rfl (by decide) (by omega) u4 x4_1 (⟨0, a0.extract (x5_1 : Int).toNat (x7_2 : Int).toNat, x5_1⟩ : S76) [.int .i64 0, .string (a0.extract (x5_1 : Int).toNat (x7_2 : Int).toNat), .int .i64 x5_1] (fun _ => True) (fun _ => False) rfl rfl ?aP (fun _ hk => hk.elim) ?aF ?aO ?aB ?aS ?aL ?_; (case aP => exact k76_mkM _ _ _ (⟨0, a0.extract (x5_1 : Int).toNat (x7_2 : Int).toNat, x5_1⟩ : S76)); (case aB => exact (by repeat (first | (with_reducible first | exact HB.out | apply below_alloc | apply pw_below_drewN | apply below_drew1 | refine below_set ?_ GE130.out) | exact HB.out))); (case aF => exact (fun _ _ => trivial)); (case aO => exact (by (with_reducible repeat (first | apply Kd.R_alloc | apply Kd.R_drewN | apply Kd.R_drew)); exact HO_4.out)); (case aS => exact (below_size (by repeat (first | (with_reducible first | exact HB.out | apply below_alloc | apply pw_below_drewN | apply below_drew1 | refine below_set ?_ GE130.out) | exact HB.out)))); (case aL => have := LMc22.out; omega); intro v138 w23 ho hb hg hat; rw [← Ny137.out] at ho; have n0_ := Aside0.mk (blk_grown (g := gb130) (o := .cells #[.int .i64 0, .int .i64 0] 47 (0, 0)) (by (with_reducible repeat (first | refine blk_drewN ?_ _ | refine blk_drew ?_ | refine blk_alloc ?_ _)); exact BK130.out) hg (Kd.R_ne HO_4.out BK130.out (by decide))); have n1_ := Aside0.mk (hb); have n2_ := Aside0.mk (ho); clear BK130; clear HB; clear HO_4; have BK130 := n0_; have HB := n1_; have HO139 := n2_; clear n0_ n1_ n2_; clear ho hb hg hat))
                  go_roundg k2
                  case measure => have := HK1.out; have := HK2.out; omega
                  case rel => exact ⟨(y137), (x7_2), (by first | rfl | (simp; done) | (simp [*]; done)), H', ⟨by have := HK1.out; have := HK2.out; omega⟩, ⟨by (with_reducible repeat (first | apply Kd.R_alloc | apply Kd.R_drewN | apply Kd.R_drew)); exact HO139.out⟩, ⟨by (with_reducible repeat (first | refine blk_drewN ?_ _ | refine blk_drew ?_ | refine blk_alloc ?_ _)); exact BK130.out⟩, ⟨by repeat (first | (with_reducible first | exact HB.out | apply below_alloc | apply pw_below_drewN | apply below_drew1 | refine below_set ?_ GE130.out) | exact HB.out)⟩⟩
                 ·rw [if_neg c22] at H
                  exact absurd H (by simp)
                ·rw [if_neg c21] at H
                 exact absurd H (by simp)
               ·rw [if_neg c20] at H
                exact absurd H (by simp)
              ·rw [if_neg c19] at H
               exact absurd H (by simp)
            ·rw [if_neg c15] at H
             exact absurd H (by simp)
           ·rw [if_neg c14] at H
            have c14b0 : decide (x7_2 < (a0.size : Int)) = false := decide_eq_false c14
            clear c14
            by_cases c24 : 0 ≤ x5_1
            ·rw [if_pos c24] at H
             have c24b0 := eq_true c24
             have c24b1 : decide (0 ≤ x5_1) = true := decide_eq_true c24
             clear c24
             by_cases c25 : x5_1 ≤ x7_2
             ·rw [if_pos c25] at H
              have c25b0 := eq_true c25
              have c25b1 : decide (x5_1 ≤ x7_2) = true := decide_eq_true c25
              clear c25
              by_cases c26 : x7_2 ≤ (a0.size : Int)
              ·rw [if_pos c26] at H
               have c26b0 := eq_true c26
               have c26b1 : decide (x7_2 ≤ (a0.size : Int)) = true := decide_eq_true c26
               clear c26
               by_cases c27 : x4_1.length < 4398046511104
               ·rw [if_pos c27] at H
                have LMc27 := Aside0.mk c27
                clear c27
                obtain ⟨y140, hy140⟩ : ∃ y_ : List (S76), y_ = (x4_1 ++ [(⟨0, a0.extract (x5_1 : Int).toNat (x7_2 : Int).toNat, x5_1⟩ : S76)]) := ⟨_, rfl⟩
                replace H : (proteanref01_Lex.l0 k2 a0 y140 x7_2) = some (r1, r2, r3) := by first | (rw [hy140]; with_reducible exact H) | (have H2_ := (Option.bind_some _ _).symm.trans H; rw [hy140]; with_reducible exact H2_) | (have H2_ := (Option.bind_some _ _).symm.trans H; with_reducible exact H2_) | with_reducible exact H | (rw [hy140]; exact H) | exact H
                have Ny140 := Aside0.mk hy140
                clear hy140
                have H' := Aside0.mk H
                clear H
                go_wp2_with (first | ((with_reducible refine gate_builtin (b := .append) (xs := #[.tmp 87, .tmp 95]) rfl ?_); at_builtin; refine Kd.R_append k76 (w0 := w) w.heap.size rfl (.tmp 87) (.tmp 95) 62 76 (.agg #[(.int .i64 0), (.string ⟨#[]⟩), (.int .i64 0)]) 32 rfl Try.underlying62 info76 rfl (by decide) (by omega) u4 x4_1 (⟨0, a0.extract (x5_1 : Int).toNat (x7_2 : Int).toNat, x5_1⟩ : S76) [.int .i64 0, .string (a0.extract (x5_1 : Int).toNat (x7_2 : Int).toNat), .int .i64 x5_1] (fun _ => True) (fun _ => False) rfl rfl ?aP (fun _ hk => hk.elim) ?aF ?aO ?aB ?aS ?aL ?_; (case aP => exact k76_mkM _ _ _ (⟨0, a0.extract (x5_1 : Int).toNat (x7_2 : Int).toNat, x5_1⟩ : S76)); (case aB => exact (by repeat (first | (with_reducible first | exact HB.out | apply below_alloc | apply pw_below_drewN | apply below_drew1 | refine below_set ?_ GE130.out) | exact HB.out))); (case aF => exact (fun _ _ => trivial)); (case aO => exact (by (with_reducible repeat (first | apply Kd.R_alloc | apply Kd.R_drewN | apply Kd.R_drew)); exact HO_4.out)); (case aS => exact (below_size (by repeat (first | (with_reducible first | exact HB.out | apply below_alloc | apply pw_below_drewN | apply below_drew1 | refine below_set ?_ GE130.out) | exact HB.out)))); (case aL => have := LMc27.out; omega); intro v141 w28 ho hb hg hat; rw [← Ny140.out] at ho; have n0_ := Aside0.mk (blk_grown (g := gb130) (o := .cells #[.int .i64 0, .int .i64 0] 47 (0, 0)) (by (with_reducible repeat (first | refine blk_drewN ?_ _ | refine blk_drew ?_ | refine blk_alloc ?_ _)); exact BK130.out) hg (Kd.R_ne HO_4.out BK130.out (by decide))); have n1_ := Aside0.mk (hb); have n2_ := Aside0.mk (ho); clear BK130; clear HB; clear HO_4; have BK130 := n0_; have HB := n1_; have HO142 := n2_; clear n0_ n1_ n2_; clear ho hb hg hat))
                go_roundg k2
                case measure => have := HK1.out; have := HK2.out; omega
                case rel => exact ⟨(y140), (x7_2), (by first | rfl | (simp; done) | (simp [*]; done)), H', ⟨by have := HK1.out; have := HK2.out; omega⟩, ⟨by (with_reducible repeat (first | apply Kd.R_alloc | apply Kd.R_drewN | apply Kd.R_drew)); exact HO142.out⟩, ⟨by (with_reducible repeat (first | refine blk_drewN ?_ _ | refine blk_drew ?_ | refine blk_alloc ?_ _)); exact BK130.out⟩, ⟨by repeat (first | (with_reducible first | exact HB.out | apply below_alloc | apply pw_below_drewN | apply below_drew1 | refine below_set ?_ GE130.out) | exact HB.out)⟩⟩
               ·rw [if_neg c27] at H
                exact absurd H (by simp)
              ·rw [if_neg c26] at H
               exact absurd H (by simp)
             ·rw [if_neg c25] at H
              exact absurd H (by simp)
            ·rw [if_neg c24] at H
             exact absurd H (by simp)
        ·replace c13 := Bool.eq_false_iff.mpr c13
         subst c13
         have H1 : ((proteanref01_Digit.f (bt a0 x5_1)).bind fun t143 => (if t143 = true then (none) else ((proteanref01_Sign.f k1 (bt a0 x5_1)).bind fun t144 => (if t144 = true then (if x5_1 ≤ (wrap64 (x5_1 + 1)) then (if (wrap64 (x5_1 + 1)) ≤ (a0.size : Int) then (if x4_1.length < 4398046511104 then (proteanref01_Lex.l0 k1 a0 (x4_1 ++ [(⟨2, a0.extract (x5_1 : Int).toNat ((wrap64 (x5_1 + 1)) : Int).toNat, x5_1⟩ : S76)]) (wrap64 (x5_1 + 1))) else (none)) else (none)) else (none)) else (none))))) = some (r1, r2, r3) := by rw [if_neg (show ¬ (false = true) by decide)] at H; exact H
         clear H
         have H := H1
         clear H1
         replace H := Option.bind_eq_some_iff.mp H
         obtain ⟨t143, A290, H⟩ := H
         replace H : (if t143 = true then (none) else ((proteanref01_Sign.f k1 (bt a0 x5_1)).bind fun t144 => (if t144 = true then (if x5_1 ≤ (wrap64 (x5_1 + 1)) then (if (wrap64 (x5_1 + 1)) ≤ (a0.size : Int) then (if x4_1.length < 4398046511104 then (proteanref01_Lex.l0 k1 a0 (x4_1 ++ [(⟨2, a0.extract (x5_1 : Int).toNat ((wrap64 (x5_1 + 1)) : Int).toNat, x5_1⟩ : S76)]) (wrap64 (x5_1 + 1))) else (none)) else (none)) else (none)) else (none)))) = some (r1, r2, r3) := H
         have A29 := Aside0.mk A290
         clear A290
         by_cases c30 : t143 = true
         ·subst c30
          have H1 : (none) = some (r1, r2, r3) := by rw [if_pos rfl] at H; exact H
          clear H
          have H := H1
          clear H1
          exact absurd H (by simp)
         ·replace c30 := Bool.eq_false_iff.mpr c30
          subst c30
          have H1 : ((proteanref01_Sign.f k1 (bt a0 x5_1)).bind fun t144 => (if t144 = true then (if x5_1 ≤ (wrap64 (x5_1 + 1)) then (if (wrap64 (x5_1 + 1)) ≤ (a0.size : Int) then (if x4_1.length < 4398046511104 then (proteanref01_Lex.l0 k1 a0 (x4_1 ++ [(⟨2, a0.extract (x5_1 : Int).toNat ((wrap64 (x5_1 + 1)) : Int).toNat, x5_1⟩ : S76)]) (wrap64 (x5_1 + 1))) else (none)) else (none)) else (none)) else (none))) = some (r1, r2, r3) := by rw [if_neg (show ¬ (false = true) by decide)] at H; exact H
          clear H
          have H := H1
          clear H1
          replace H := Option.bind_eq_some_iff.mp H
          obtain ⟨t144, A310, H⟩ := H
          replace H : (if t144 = true then (if x5_1 ≤ (wrap64 (x5_1 + 1)) then (if (wrap64 (x5_1 + 1)) ≤ (a0.size : Int) then (if x4_1.length < 4398046511104 then (proteanref01_Lex.l0 k1 a0 (x4_1 ++ [(⟨2, a0.extract (x5_1 : Int).toNat ((wrap64 (x5_1 + 1)) : Int).toNat, x5_1⟩ : S76)]) (wrap64 (x5_1 + 1))) else (none)) else (none)) else (none)) else (none)) = some (r1, r2, r3) := H
          have A31 := Aside0.mk A310
          clear A310
          by_cases c32 : t144 = true
          ·subst c32
           have H1 : (if x5_1 ≤ (wrap64 (x5_1 + 1)) then (if (wrap64 (x5_1 + 1)) ≤ (a0.size : Int) then (if x4_1.length < 4398046511104 then (proteanref01_Lex.l0 k1 a0 (x4_1 ++ [(⟨2, a0.extract (x5_1 : Int).toNat ((wrap64 (x5_1 + 1)) : Int).toNat, x5_1⟩ : S76)]) (wrap64 (x5_1 + 1))) else (none)) else (none)) else (none)) = some (r1, r2, r3) := by rw [if_pos rfl] at H; exact H
           clear H
           have H := H1
           clear H1
           have c33b0 := eq_true (of_decide_eq_true (by first | (with_reducible assumption) | assumption) : 0 ≤ x5_1)
           by_cases c34 : x5_1 ≤ (wrap64 (x5_1 + 1))
           ·rw [if_pos c34] at H
            have c34b0 := eq_true c34
            have c34b1 : decide (x5_1 ≤ (wrap64 (x5_1 + 1))) = true := decide_eq_true c34
            by_cases c35 : (wrap64 (x5_1 + 1)) ≤ (a0.size : Int)
            ·rw [if_pos c35] at H
             have c35b0 := eq_true c35
             have c35b1 : decide ((wrap64 (x5_1 + 1)) ≤ (a0.size : Int)) = true := decide_eq_true c35
             by_cases c36 : x4_1.length < 4398046511104
             ·rw [if_pos c36] at H
              have LMc36 := Aside0.mk c36
              clear c36
              obtain ⟨y145, hy145⟩ : ∃ y_ : List (S76), y_ = (x4_1 ++ [(⟨2, a0.extract (x5_1 : Int).toNat ((wrap64 (x5_1 + 1)) : Int).toNat, x5_1⟩ : S76)]) := ⟨_, rfl⟩
              replace H : (proteanref01_Lex.l0 k1 a0 y145 (wrap64 (x5_1 + 1))) = some (r1, r2, r3) := by first | (rw [hy145]; with_reducible exact H) | (have H2_ := (Option.bind_some _ _).symm.trans H; rw [hy145]; with_reducible exact H2_) | (have H2_ := (Option.bind_some _ _).symm.trans H; with_reducible exact H2_) | with_reducible exact H | (rw [hy145]; exact H) | exact H
              have Ny145 := Aside0.mk hy145
              clear hy145
              have H' := Aside0.mk H
              clear H
              have p8 : 0 ≤ (x5_1 : Int) := of_decide_eq_true (by first | (with_reducible assumption) | assumption)
              have q8 : x5_1 < (a0.size : Int) := of_decide_eq_true (by first | (with_reducible assumption) | assumption)
              have hx8 := bt_at a0 x5_1
              replace p8 := eq_true p8
              replace q8 := eq_true q8
              go_wp2_with (first | ((with_reducible refine gate_callee (f := 42) rfl ?_); refine goesL_ (some 22) rfl rfl Try.func42 (by kernel_rfl) rfl #[.int .u8 (bt a0 x5_1)] rfl (by (try simp only [List.map_toArray, List.map_cons, List.map_nil]); first | done | rfl | (simp only [List.length_drop, List.length_take]; rfl)) ?_; (with_reducible refine (proteanref01_Blank.calls (bt a0 x5_1) false _ A9.out).mono ?_); rintro e w' ⟨rfl, ⟨nd, rfl⟩⟩; refine ⟨_, rfl, ?_⟩) | ((with_reducible refine gate_callee (f := 43) rfl ?_); refine goesL_ (some 42) rfl rfl Try.func43 (by kernel_rfl) rfl #[.int .u8 (bt a0 x5_1)] rfl (by (try simp only [List.map_toArray, List.map_cons, List.map_nil]); first | done | rfl | (simp only [List.length_drop, List.length_take]; rfl)) ?_; (with_reducible refine (proteanref01_Letter.calls (bt a0 x5_1) false _ A12.out).mono ?_); rintro e w' ⟨rfl, ⟨nd, rfl⟩⟩; refine ⟨_, rfl, ?_⟩) | ((with_reducible refine gate_callee (f := 45) rfl ?_); refine goesL_ (some 56) rfl rfl Try.func45 (by kernel_rfl) rfl #[.int .u8 (bt a0 x5_1)] rfl (by (try simp only [List.map_toArray, List.map_cons, List.map_nil]); first | done | rfl | (simp only [List.length_drop, List.length_take]; rfl)) ?_; (with_reducible refine (proteanref01_Digit.calls (bt a0 x5_1) false _ A29.out).mono ?_); rintro e w' ⟨rfl, ⟨nd, rfl⟩⟩; refine ⟨_, rfl, ?_⟩) | ((with_reducible refine gate_callee (f := 46) rfl ?_); refine goesL_ (some 83) rfl rfl Try.func46 (by kernel_rfl) rfl #[.int .u8 (bt a0 x5_1)] rfl (by (try simp only [List.map_toArray, List.map_cons, List.map_nil]); first | done | rfl | (simp only [List.length_drop, List.length_take]; rfl)) ?_; (with_reducible refine (proteanref01_Sign.calls k1 (bt a0 x5_1) true _ A31.out).mono ?_); rintro e w' ⟨rfl, ⟨nd, rfl⟩⟩; refine ⟨_, rfl, ?_⟩) | ((with_reducible refine gate_builtin (b := .append) (xs := #[.tmp 87, .tmp 95]) rfl ?_); at_builtin; refine Kd.R_append k76 (w0 := w) w.heap.size rfl (.tmp 87) (.tmp 95) 62 76 (.agg #[(.int .i64 0), (.string ⟨#[]⟩), (.int .i64 0)]) 32 rfl Try.underlying62 info76 rfl (by decide) (by omega) u4 x4_1 (⟨2, a0.extract (x5_1 : Int).toNat ((wrap64 (x5_1 + 1)) : Int).toNat, x5_1⟩ : S76) [.int .i64 2, .string (a0.extract (x5_1 : Int).toNat ((wrap64 (x5_1 + 1)) : Int).toNat), .int .i64 x5_1] (fun _ => True) (fun _ => False) rfl rfl ?aP (fun _ hk => hk.elim) ?aF ?aO ?aB ?aS ?aL ?_; (case aP => exact k76_mkM _ _ _ (⟨2, a0.extract (x5_1 : Int).toNat ((wrap64 (x5_1 + 1)) : Int).toNat, x5_1⟩ : S76)); (case aB => exact (by repeat (first | (with_reducible first | exact HB.out | apply below_alloc | apply pw_below_drewN | apply below_drew1 | refine below_set ?_ GE130.out) | exact HB.out))); (case aF => exact (fun _ _ => trivial)); (case aO => exact (by (with_reducible repeat (first | apply Kd.R_alloc | apply Kd.R_drewN | apply Kd.R_drew)); exact HO_4.out)); (case aS => exact (below_size (by repeat (first | (with_reducible first | exact HB.out | apply below_alloc | apply pw_below_drewN | apply below_drew1 | refine below_set ?_ GE130.out) | exact HB.out)))); (case aL => have := LMc36.out; omega); intro v146 w37 ho hb hg hat; rw [← Ny145.out] at ho; have n0_ := Aside0.mk (blk_grown (g := gb130) (o := .cells #[.int .i64 0, .int .i64 0] 47 (0, 0)) (by (with_reducible repeat (first | refine blk_drewN ?_ _ | refine blk_drew ?_ | refine blk_alloc ?_ _)); exact BK130.out) hg (Kd.R_ne HO_4.out BK130.out (by decide))); have n1_ := Aside0.mk (hb); have n2_ := Aside0.mk (ho); clear BK130; clear HB; clear HO_4; have BK130 := n0_; have HB := n1_; have HO147 := n2_; clear n0_ n1_ n2_; clear ho hb hg hat))
              go_roundg k1
              case measure => have := HK1.out; omega
              case rel => exact ⟨(y145), (wrap64 (x5_1 + 1)), (by first | rfl | (simp; done) | (simp [*]; done)), H', ⟨by have := HK1.out; omega⟩, ⟨by (with_reducible repeat (first | apply Kd.R_alloc | apply Kd.R_drewN | apply Kd.R_drew)); exact HO147.out⟩, ⟨by (with_reducible repeat (first | refine blk_drewN ?_ _ | refine blk_drew ?_ | refine blk_alloc ?_ _)); exact BK130.out⟩, ⟨by repeat (first | (with_reducible first | exact HB.out | apply below_alloc | apply pw_below_drewN | apply below_drew1 | refine below_set ?_ GE130.out) | exact HB.out)⟩⟩
             ·rw [if_neg c36] at H
              exact absurd H (by simp)
            ·rw [if_neg c35] at H
             exact absurd H (by simp)
           ·rw [if_neg c34] at H
            exact absurd H (by simp)
          ·replace c32 := Bool.eq_false_iff.mpr c32
           subst c32
           have H1 : (none) = some (r1, r2, r3) := by rw [if_neg (show ¬ (false = true) by decide)] at H; exact H
           clear H
           have H := H1
           clear H1
           exact absurd H (by simp)
     ·rw [if_neg c7] at H
      exact absurd H (by simp)
    ·rw [if_neg c6] at H
     have c6b0 : decide (x5_1 < (a0.size : Int)) = false := decide_eq_false c6
     clear c6
     simp only [Option.some.injEq, Prod.mk.injEq] at H
     obtain ⟨rfl, rfl, rfl⟩ := H
     have hcz38_0 : wr.cell? ⟨gb130, 0, none⟩ = some (.int .i64 0) := (blk_cell BK130.out 0).trans rfl
     have hcz38_1 : wr.cell? ⟨gb130, 1, none⟩ = some (.int .i64 0) := (blk_cell BK130.out 1).trans rfl
     have hfz38_0 := blk_frozen BK130.out 0
     have hfz38_1 := blk_frozen BK130.out 1
     go_wp2
     refine bodyPost_ret (results_tc rfl _ _ gb130 47 #[.int .i64 0, .int .i64 0] (0, 0) _ rfl (by (with_reducible repeat (first | refine blk_drewN ?_ _ | refine blk_drew ?_ | refine blk_alloc ?_ _)); refine blk_put (cs := #[.int .i64 0, .int .i64 0]) ?_ 1 _ rfl; (with_reducible repeat (first | refine blk_drewN ?_ _ | refine blk_drew ?_ | refine blk_alloc ?_ _)); refine blk_put (cs := #[.int .i64 0, .int .i64 0]) ?_ 0 _ rfl; (with_reducible repeat (first | refine blk_drewN ?_ _ | refine blk_drew ?_ | refine blk_alloc ?_ _)); exact BK130.out) Try.underlying47 rfl (by kernel_rfl)) rfl ?_
     exact ⟨_, by first | rfl | (simp [errW_none, errW_some] <;> rfl) | (simp [*, errW_none, errW_some] <;> rfl), by (with_reducible repeat (first | apply Kd.R_alloc | apply Kd.R_drewN | apply Kd.R_drew)); exact Kd.R_mono (Kd.R_far (p := ⟨gb130, 1, none⟩) (Kd.R_far (p := ⟨gb130, 0, none⟩) (Kd.R_types HO_4.out BK130.out (by decide)) (fun _ hk => hk.2) (.int .i64 0)) (fun _ hk => hk.2) (.int .i64 0)) (fun _ hk => trivial), by repeat (first | (with_reducible first | exact HB.out | apply below_alloc | apply pw_below_drewN | apply below_drew1 | refine below_set ?_ GE130.out) | exact HB.out)⟩

/-! ### proteanref03_Deep: function 23 -/
/-! ### proteanref03_Count: function 24 -/
/-! ### proteanref03_Big: function 8 -/
/-! ### proteanref12_Ints: function 16 -/
def proteanref12_Ints.l0 : Nat → List Int → List Int → Int → Option (Bool)
  | 0, _, _, _ => none
  | k + 1, x0, x1, x5 => if x5 < (x0.length : Int) then (if 0 ≤ x5 then (if x5 < (x1.length : Int) then (if (rd x0 x5) = (rd x1 x5) then (proteanref12_Ints.l0 k x0 x1 (wrap64 (x5 + 1))) else (some false)) else (none)) else (none)) else (some true)
def proteanref12_Ints.f (k : Nat) (l0 : List Int) (l1 : List Int) : Option (Bool) := if (l0.length : Int) = (l1.length : Int) then (proteanref12_Ints.l0 k l0 l1 0) else (some false)
set_option maxHeartbeats 8000000 in
set_option maxRecDepth 100000 in
theorem proteanref12_Ints.calls (k : Nat) (A0 : Option Addr) (c0 : Nat) (l0 : List Int) (A1 : Option Addr) (c1 : Nat) (l1 : List Int) (r : Bool) (w : World) (hr0 : Kd.C (Kd.int .i64) w A0 l0.length l0) (hc0 : l0.length ≤ c0) (hr1 : Kd.C (Kd.int .i64) w A1 l1.length l1) (hc1 : l1.length ≤ c1) (h : proteanref12_Ints.f k l0 l1 = some r) :
    Calls Try.prog 16 #[.slice A0 l0.length c0, .slice A1 l1.length c1] w fun e w' => e = .returned (.bool r) ∧ Drawn0 w w' := by
 have HR0 := Aside0.mk hr0
 have HC0 := Aside0.mk hc0
 clear hr0 hc0
 have HR1 := Aside0.mk hr1
 have HC1 := Aside0.mk hc1
 clear hr1 hc1
 have H : (if (l0.length : Int) = (l1.length : Int) then (proteanref12_Ints.l0 k l0 l1 0) else (some false)) = some r := h
 clear h
 by_cases c3 : (l0.length : Int) = (l1.length : Int)
 ·rw [if_pos c3] at H
  have c3b0 : ((l0.length : Int) == (l1.length : Int)) = true := beq_iff_eq.mpr c3
  have c3b1 : ((l0.length : Int) != (l1.length : Int)) = false := bne_eq_false_iff_eq.mpr c3
  have c3b2 : (l0.length == l1.length) = true := by first | simpa using c3 | (simp at c3 ⊢; omega)
  clear c3
  have H' := Aside0.mk H
  clear H
  go_enter Try.func16, Try.ntmps16
  go_wp2
  repeat (go_quiet (fail); try go_wp2)
  go_loopg [5] k (fun kq v5 w' => ∃ (x5_1 : Int), v5 = .int .i64 x5_1 ∧ Aside0 (proteanref12_Ints.l0 kq l0 l1 x5_1 = some r) ∧ Aside0 (kq ≤ k) ∧ Drawn0 w w')
  case atStart => exact ⟨(0), (by first | rfl | (simp; done) | (simp [*]; done)), H', ⟨Nat.le_refl _⟩, by repeat (first | exact Drawn0.refl _ | apply Drawn0.step)⟩
  case round =>
   clear H'
   try clear c1
   try clear p2
   try clear c3
   try clear c3b0
   try clear c3b1
   try clear c3b2
   obtain ⟨x5_1, rfl, HA, HK1, ⟨m1, rfl⟩⟩ := hrel
   cases gk with
   | zero => exact absurd HA.out (by simp [proteanref12_Ints.l0])
   | succ k1 =>
    have H := HA.out
    clear HA
    simp only [proteanref12_Ints.l0] at H
    by_cases c4 : x5_1 < (l0.length : Int)
    ·rw [if_pos c4] at H
     have c4b0 : decide (x5_1 < (l0.length : Int)) = true := decide_eq_true c4
     clear c4
     by_cases c5 : 0 ≤ x5_1
     ·rw [if_pos c5] at H
      have c5b0 : decide (0 ≤ x5_1) = true := decide_eq_true c5
      clear c5
      by_cases c6 : x5_1 < (l1.length : Int)
      ·rw [if_pos c6] at H
       have c6b0 : decide (x5_1 < (l1.length : Int)) = true := decide_eq_true c6
       clear c6
       by_cases c7 : (rd l0 x5_1) = (rd l1 x5_1)
       ·rw [if_pos c7] at H
        have c7b0 : ((rd l0 x5_1) == (rd l1 x5_1)) = true := beq_iff_eq.mpr c7
        have c7b1 : ((rd l0 x5_1) != (rd l1 x5_1)) = false := bne_eq_false_iff_eq.mpr c7
        clear c7
        have H' := Aside0.mk H
        clear H
        have p162 : 0 ≤ (x5_1 : Int) := of_decide_eq_true (by first | (with_reducible assumption) | assumption)
        have q162 : x5_1 < (l0.length : Int) := of_decide_eq_true (by first | (with_reducible assumption) | assumption)
        obtain ⟨ad162, e162, hx162_0⟩ := Kd.at_int HR0.out x5_1 p162 q162
        cases e162
        replace p162 := eq_true p162
        replace q162 := eq_true q162
        have p163 : 0 ≤ (x5_1 : Int) := of_decide_eq_true (by first | (with_reducible assumption) | assumption)
        have q163 : x5_1 < (l1.length : Int) := of_decide_eq_true (by first | (with_reducible assumption) | assumption)
        obtain ⟨ad163, e163, hx163_0⟩ := Kd.at_int HR1.out x5_1 p163 q163
        cases e163
        replace p163 := eq_true p163
        replace q163 := eq_true q163
        go_wp2
        repeat (go_quiet (fail); try go_wp2)
        go_roundg k1
        case measure => have := HK1.out; omega
        case rel => exact ⟨(wrap64 (x5_1 + 1)), (by first | rfl | (simp; done) | (simp [*]; done)), H', ⟨by have := HK1.out; omega⟩, by repeat (first | exact Drawn0.refl _ | apply Drawn0.step)⟩
       ·rw [if_neg c7] at H
        have c7b0 : ((rd l0 x5_1) == (rd l1 x5_1)) = false := beq_eq_false_iff_ne.mpr c7
        have c7b1 : ((rd l0 x5_1) != (rd l1 x5_1)) = true := bne_iff_ne.mpr c7
        obtain rfl := Option.some.inj H
        have p162 : 0 ≤ (x5_1 : Int) := of_decide_eq_true (by first | (with_reducible assumption) | assumption)
        have q162 : x5_1 < (l0.length : Int) := of_decide_eq_true (by first | (with_reducible assumption) | assumption)
        obtain ⟨ad162, e162, hx162_0⟩ := Kd.at_int HR0.out x5_1 p162 q162
        cases e162
        replace p162 := eq_true p162
        replace q162 := eq_true q162
        have p163 : 0 ≤ (x5_1 : Int) := of_decide_eq_true (by first | (with_reducible assumption) | assumption)
        have q163 : x5_1 < (l1.length : Int) := of_decide_eq_true (by first | (with_reducible assumption) | assumption)
        obtain ⟨ad163, e163, hx163_0⟩ := Kd.at_int HR1.out x5_1 p163 q163
        cases e163
        replace p163 := eq_true p163
        replace q163 := eq_true q163
        go_wp2
        repeat (go_quiet (fail); try go_wp2)
        go_ret
        exact ⟨by first | rfl | (simp; done) | (simp [*]; done), by repeat (first | exact Drawn0.refl _ | apply Drawn0.step)⟩
      ·rw [if_neg c6] at H
       exact absurd H (by simp)
     ·rw [if_neg c5] at H
      exact absurd H (by simp)
    ·rw [if_neg c4] at H
     have c4b0 : decide (x5_1 < (l0.length : Int)) = false := decide_eq_false c4
     clear c4
     obtain rfl := Option.some.inj H
     go_wp2
     repeat (go_quiet (fail); try go_wp2)
     go_ret
     exact ⟨by first | rfl | (simp; done) | (simp [*]; done), by repeat (first | exact Drawn0.refl _ | apply Drawn0.step)⟩
 ·rw [if_neg c3] at H
  have c3b0 : ((l0.length : Int) == (l1.length : Int)) = false := beq_eq_false_iff_ne.mpr c3
  have c3b1 : ((l0.length : Int) != (l1.length : Int)) = true := bne_iff_ne.mpr c3
  have c3b2 : (l0.length == l1.length) = false := by first | simpa using c3 | (simp at c3 ⊢; omega)
  obtain rfl := Option.some.inj H
  go_enter Try.func16, Try.ntmps16
  go_wp2
  repeat (go_quiet (fail); try go_wp2)
  go_ret
  exact ⟨by first | rfl | (simp; done) | (simp [*]; done), by repeat (first | exact Drawn0.refl _ | apply Drawn0.step)⟩

end Go.Proofs.Ytdbngbmokgeeiaa.Pr
