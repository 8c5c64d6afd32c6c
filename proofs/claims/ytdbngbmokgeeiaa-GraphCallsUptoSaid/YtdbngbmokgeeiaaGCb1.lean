/- A part of the proof that GraphCalls returns true for every argument. Parts: Pr0 BriA Heap ManA ManB BriB BriC Shf ManC MnD MnE Srt Flow Cmp. No conditions beyond the given statement's own. -/
import Derived.Test.YtdbngbmokgeeiaaProg
import Derived.Below
import Derived.Deep.Draws
import Derived.Deep.AppendLies
import Derived.Maps.AppendAt
import Derived.OwnWalk
import Derived.Laws.BytesArg
import Derived.Laws.MakeOwn
import Derived.Laws.OwnMore
import Derived.Deep.OwnRows
import Derived.Tactics
import Derived.Lib.ConvBytes
import Derived.Laws.Slices
import Derived.WalkKit
import Derived.KernelRfl
import Derived.RowKit3
import Derived.Deep.LoopGhost
import Derived.Deep.QuietTactic
import Derived.BigQuiet
import Derived.WideLaws
import Derived.Deep.DeepCutAuto
import Derived.Deep.CutBlock
import Derived.Deep.RegionHeld3
import Derived.Laws.Rows
import Derived.Lib.AppendStr
import Derived.ArgAppend
import Derived.Laws.IdiomCopy
import Derived.OrdersHeld
import Derived.Laws.BitsLemmas
import Derived.RowKit
import Derived.Test.YtdbngbmokgeeiaaWWords
import Derived.Test.YtdbngbmokgeeiaaWLast
import Derived.Test.YtdbngbmokgeeiaaWTab
import Derived.Test.YtdbngbmokgeeiaaWQPut
import Derived.Test.YtdbngbmokgeeiaaWApart
import Derived.Test.YtdbngbmokgeeiaaWArr
import Derived.Test.YtdbngbmokgeeiaaWZeros
import Derived.Test.YtdbngbmokgeeiaaWFoot
import Derived.Test.YtdbngbmokgeeiaaWKept
import Derived.Test.YtdbngbmokgeeiaaWShare
import Derived.Test.YtdbngbmokgeeiaaWN
import Derived.Test.YtdbngbmokgeeiaaWRepsOne
import Derived.Test.YtdbngbmokgeeiaaWGuard
import Derived.Test.YtdbngbmokgeeiaaWNEv
import Derived.Test.YtdbngbmokgeeiaaWMore
import Derived.Test.YtdbngbmokgeeiaaRows
import Derived.RangeFuncNested
import Derived.RangeFuncBound
import Derived.RangeFuncCalls
import Derived.RangeFuncLeaves
import Derived.Shelf.Abstract
import Derived.Shelf.RegionOpen
import Derived.OwnWalkIn
import Derived.TacticsInMore
import Derived.LoopNIn
import Derived.LoopIn
import Derived.Lib.Hide
import Derived.Outline
import Derived.Shelf.Small.Bits
import Derived.Shelf.Small.Wraps
import Derived.Shelf.Strconv.Itoa0
import Derived.Shelf.Sort.Plain
import Derived.Ground.Names2Prog
import Derived.Shelf.Slices.CompactI
import Derived.Shelf.Slices.SearchI
import Derived.Shelf.Slices.Cells
import Derived.Shelf.Slices.In.SortNone
import Derived.OrdersIn
import Derived.Lib.SlicesCompact

-- Written by wip/xprint.py (the kit's print, run over this seat with some contracts of my own). Not trusted: Lean checks it.
namespace Go.Proofs.Ytdbngbmokgeeiaa.Pr
open Go.RowKit Go.Proofs.YtdbngbmokgeeiaaW.PrintWords Go.Proofs.YtdbngbmokgeeiaaW.PrintLast Go.Proofs.YtdbngbmokgeeiaaW.PrintMore
attribute [local go_sem] max2_int min2_int max_two min_two max_three min_three max_four min_four   -- for this text's walks alone
set_option linter.unusedVariables false
set_option linter.unusedSimpArgs false
def errW : Option Int → Value
  | none => .nilIface
  | some c => .iface 0 (.int .i64 c)
theorem errW_none : errW none = .nilIface := rfl
theorem errW_some (c : Int) : errW (some c) = .iface 0 (.int .i64 c) := rfl
theorem info3 : (Try.prog.info? 3).map (fun i => (i.zero, i.size, i.bytes)) = some (some (.int .i64 0), 1, 8) := by kernel_rfl
theorem info32 : (Try.prog.info? 32).map (fun i => (i.zero, i.size, i.bytes)) = some (some (.slice none 0 0), 1, 24) := by kernel_rfl
theorem info55 : (Try.prog.info? 55).map (fun i => (i.zero, i.size, i.bytes)) = some (some (.agg #[(.int .i64 0), (.string ⟨#[]⟩), (.string ⟨#[]⟩), (.string ⟨#[]⟩), (.slice none 0 0), (.slice none 0 0), (.slice none 0 0), (.slice none 0 0)]), 8, 152) := by kernel_rfl
theorem info76 : (Try.prog.info? 76).map (fun i => (i.zero, i.size, i.bytes)) = some (some (.agg #[(.int .i64 0), (.string ⟨#[]⟩), (.int .i64 0)]), 3, 32) := by kernel_rfl
-- the values' own types
structure S76 where
  f0 : Int
  f1 : ByteArray
  f2 : Int
def z76 : S76 := ⟨(0 : Int), (⟨#[]⟩ : ByteArray), (0 : Int)⟩
def k76 : Kd S76 := Kd.iso (Kd.pair (Kd.int .i64) (Kd.pair Kd.string (Kd.int .i64))) (fun x : S76 => (x.f0, x.f1, x.f2))
theorem k76_open {w : World} {x : S76} {cs : List Value} (h : k76.K w x cs) : cs = [.int .i64 x.f0, .string x.f1, .int .i64 x.f2] := by
  obtain ⟨_, _, rfl, rfl, ⟨_, _, rfl, rfl, rfl⟩⟩ := h
  exact rfl
theorem k76_mkM (w : World) (base : Nat) (ok : Nat → Prop) (x : S76)  : k76.M w base ok x [.int .i64 x.f0, .string x.f1, .int .i64 x.f2] := ⟨[.int .i64 x.f0], [.string x.f1, .int .i64 x.f2], rfl, rfl, ⟨[.string x.f1], [.int .i64 x.f2], rfl, rfl, rfl⟩⟩
def rd_T76 (xs : List S76) (i : Int) : S76 := xs.getD i.toNat z76
theorem at_T76 {w : World} {A : Option Addr} {n : Nat} {xs : List S76} (h : Kd.C k76 w A n xs) (i : Int) (h0 : 0 ≤ i) (h1 : i < n) : ∃ ad , A = some ad ∧ w.cell? (ad.add (i.toNat * 3)) = some (.int .i64 (rd_T76 xs i).f0) ∧ w.cell? ⟨(ad.add (i.toNat * 3)).block, (ad.add (i.toNat * 3)).off + 1, none⟩ = some (.string (rd_T76 xs i).f1) ∧ w.cell? ⟨(ad.add (i.toNat * 3)).block, (ad.add (i.toNat * 3)).off + 2, none⟩ = some (.int .i64 (rd_T76 xs i).f2) := by
  obtain ⟨ad, c, e, _, hK, hc0⟩ := Kd.C_get h z76 i h0 h1
  have hc : ∀ j u, c[j]? = some u → w.cell? (ad.add (i.toNat * 3 + j)) = some u := hc0
  obtain rfl := k76_open hK
  exact ⟨ad, e, hc 0 _ rfl, by rw [← add_field _ _ 1 (by omega)]; exact hc 1 _ rfl, by rw [← add_field _ _ 2 (by omega)]; exact hc 2 _ rfl⟩
structure S114 where
  f0 : Int
  f1 : Int
  f2 : ByteArray
def z114 : S114 := ⟨(0 : Int), (0 : Int), (⟨#[]⟩ : ByteArray)⟩
def k114 : Kd S114 := Kd.iso (Kd.pair (Kd.int .i64) (Kd.pair (Kd.int .i64) Kd.string)) (fun x : S114 => (x.f0, x.f1, x.f2))
theorem k114_mk (w : World) (x : S114)  : k114.K w x [.int .i64 x.f0, .int .i64 x.f1, .string x.f2] := ⟨[.int .i64 x.f0], [.int .i64 x.f1, .string x.f2], rfl, rfl, ⟨[.int .i64 x.f1], [.string x.f2], rfl, rfl, rfl⟩⟩
structure S55 where
  f0 : Int
  f1 : ByteArray
  f2 : ByteArray
  f3 : ByteArray
  f4 : (List S114)
  f5 : (List ByteArray)
  f6 : (List S55)
  f7 : (List S55)
def z55 : S55 := ⟨(0 : Int), (⟨#[]⟩ : ByteArray), (⟨#[]⟩ : ByteArray), (⟨#[]⟩ : ByteArray), ([] : List S114), ([] : List ByteArray), ([] : List S55), ([] : List S55)⟩
def F55 (d : Kd S55) : Kd S55 := Kd.iso (Kd.pair (Kd.int .i64) (Kd.pair Kd.string (Kd.pair Kd.string (Kd.pair Kd.string (Kd.pair (Kd.slice 114 k114) (Kd.pair (Kd.slice 9 Kd.string) (Kd.pair (Kd.slice 55 d) (Kd.slice 55 d)))))))) (fun x : S55 => (x.f0, x.f1, x.f2, x.f3, x.f4, x.f5, x.f6, x.f7))
theorem mono55 : Kd.Mono F55 := Kd.mono_iso _ (Kd.mono_pair (Kd.mono_const _) (Kd.mono_pair (Kd.mono_const _) (Kd.mono_pair (Kd.mono_const _) (Kd.mono_pair (Kd.mono_const _) (Kd.mono_pair (Kd.mono_const _) (Kd.mono_pair (Kd.mono_const _) (Kd.mono_pair (Kd.mono_slice 55 Kd.mono_id) (Kd.mono_slice 55 Kd.mono_id))))))))
theorem sub55 : Kd.Sub F55 [9, 55, 114] := Kd.sub_iso _ (Kd.sub_pair (Kd.sub_const _ (by decide)) (Kd.sub_pair (Kd.sub_const _ (by decide)) (Kd.sub_pair (Kd.sub_const _ (by decide)) (Kd.sub_pair (Kd.sub_const _ (by decide)) (Kd.sub_pair (Kd.sub_const _ (by decide)) (Kd.sub_pair (Kd.sub_const _ (by decide)) (Kd.sub_pair (Kd.sub_slice 55 (by decide) Kd.sub_id) (Kd.sub_slice 55 (by decide) Kd.sub_id))))))))
theorem sz55 : ∀ n, (Kd.upto F55 8 [9, 55, 114] n).sz = 8 := Kd.upto_sz (fun _ => rfl)
def k55 : Kd S55 := Kd.fix F55 8 [9, 55, 114] sz55 (Kd.upto_E sub55)
theorem k55_open {w : World} {x : S55} {cs : List Value} (h : k55.K w x cs) : ∃ A4 c4 A5 c5 A6 c6 A7 c7, cs = [.int .i64 x.f0, .string x.f1, .string x.f2, .string x.f3, .slice A4 x.f4.length c4, .slice A5 x.f5.length c5, .slice A6 x.f6.length c6, .slice A7 x.f7.length c7] ∧ x.f4.length ≤ c4 ∧ k114.C w A4 x.f4.length x.f4 ∧ x.f5.length ≤ c5 ∧ Kd.string.C w A5 x.f5.length x.f5 ∧ x.f6.length ≤ c6 ∧ k55.C w A6 x.f6.length x.f6 ∧ x.f7.length ≤ c7 ∧ k55.C w A7 x.f7.length x.f7 := by
  obtain ⟨n, h⟩ := h
  cases n with
  | zero => exact h.elim
  | succ n =>
    obtain ⟨_, _, rfl, rfl, ⟨_, _, rfl, rfl, ⟨_, _, rfl, rfl, ⟨_, _, rfl, rfl, ⟨_, _, rfl, ⟨A4, c4, rfl, l4, g4⟩, ⟨_, _, rfl, ⟨A5, c5, rfl, l5, g5⟩, ⟨_, _, rfl, ⟨A6, c6, rfl, l6, g6⟩, ⟨A7, c7, rfl, l7, g7⟩⟩⟩⟩⟩⟩⟩⟩ := h
    exact ⟨A4, c4, A5, c5, A6, c6, A7, c7, rfl, l4, g4, l5, g5, l6, Kd.fix_C g6, l7, Kd.fix_C g7⟩
theorem k55_mk (w : World) (x : S55) {A4 : Option Addr} {c4 : Nat} (l4 : x.f4.length ≤ c4) (g4 : k114.C w A4 x.f4.length x.f4) {A5 : Option Addr} {c5 : Nat} (l5 : x.f5.length ≤ c5) (g5 : Kd.string.C w A5 x.f5.length x.f5) {A6 : Option Addr} {c6 : Nat} (l6 : x.f6.length ≤ c6) (g6 : k55.C w A6 x.f6.length x.f6) {A7 : Option Addr} {c7 : Nat} (l7 : x.f7.length ≤ c7) (g7 : k55.C w A7 x.f7.length x.f7) : k55.K w x [.int .i64 x.f0, .string x.f1, .string x.f2, .string x.f3, .slice A4 x.f4.length c4, .slice A5 x.f5.length c5, .slice A6 x.f6.length c6, .slice A7 x.f7.length c7] := by
  obtain ⟨n6, q6⟩ := Kd.fix_C_back mono55 g6
  obtain ⟨n7, q7⟩ := Kd.fix_C_back mono55 g7
  have r6 := Kd.upto_C_le mono55 sz55 (show n6 ≤ (max n6 n7) by omega) q6
  have r7 := Kd.upto_C_le mono55 sz55 (show n7 ≤ (max n6 n7) by omega) q7
  exact ⟨(max n6 n7) + 1, ⟨[.int .i64 x.f0], [.string x.f1, .string x.f2, .string x.f3, .slice A4 x.f4.length c4, .slice A5 x.f5.length c5, .slice A6 x.f6.length c6, .slice A7 x.f7.length c7], rfl, rfl, ⟨[.string x.f1], [.string x.f2, .string x.f3, .slice A4 x.f4.length c4, .slice A5 x.f5.length c5, .slice A6 x.f6.length c6, .slice A7 x.f7.length c7], rfl, rfl, ⟨[.string x.f2], [.string x.f3, .slice A4 x.f4.length c4, .slice A5 x.f5.length c5, .slice A6 x.f6.length c6, .slice A7 x.f7.length c7], rfl, rfl, ⟨[.string x.f3], [.slice A4 x.f4.length c4, .slice A5 x.f5.length c5, .slice A6 x.f6.length c6, .slice A7 x.f7.length c7], rfl, rfl, ⟨[.slice A4 x.f4.length c4], [.slice A5 x.f5.length c5, .slice A6 x.f6.length c6, .slice A7 x.f7.length c7], rfl, ⟨A4, c4, rfl, l4, g4⟩, ⟨[.slice A5 x.f5.length c5], [.slice A6 x.f6.length c6, .slice A7 x.f7.length c7], rfl, ⟨A5, c5, rfl, l5, g5⟩, ⟨[.slice A6 x.f6.length c6], [.slice A7 x.f7.length c7], rfl, ⟨A6, c6, rfl, l6, r6⟩, ⟨A7, c7, rfl, l7, r7⟩⟩⟩⟩⟩⟩⟩⟩⟩
theorem k55_openF {W : World} {ok : Nat → Prop} {x : S55} {cs : List Value} (h : Kd.FK k55 W ok x cs) : ∃ A4 c4 A5 c5 A6 c6 A7 c7, cs = [.int .i64 x.f0, .string x.f1, .string x.f2, .string x.f3, .slice A4 x.f4.length c4, .slice A5 x.f5.length c5, .slice A6 x.f6.length c6, .slice A7 x.f7.length c7] ∧ x.f4.length ≤ c4 ∧ Kd.F k114 W ok A4 x.f4.length x.f4 ∧ x.f5.length ≤ c5 ∧ Kd.F Kd.string W ok A5 x.f5.length x.f5 ∧ x.f6.length ≤ c6 ∧ Kd.F k55 W ok A6 x.f6.length x.f6 ∧ x.f7.length ≤ c7 ∧ Kd.F k55 W ok A7 x.f7.length x.f7 := by
  obtain ⟨A4, c4, A5, c5, A6, c6, A7, c7, rfl, l4, _, l5, _, l6, _, l7, _⟩ := k55_open (Kd.FK_now h)
  exact ⟨A4, c4, A5, c5, A6, c6, A7, c7, rfl, l4, (fun W' hW => by obtain ⟨A4_, c4_, A5_, c5_, A6_, c6_, A7_, c7_, he, l4_, g4_, l5_, g5_, l6_, g6_, l7_, g7_⟩ := k55_open (h W' hW); injection (Option.some.inj (show some (Value.slice A4 x.f4.length c4) = some (Value.slice A4_ x.f4.length c4_) from congrArg (fun l => l[4]?) he)) with ha_ _ _; rw [ha_]; exact g4_), l5, (fun W' hW => by obtain ⟨A4_, c4_, A5_, c5_, A6_, c6_, A7_, c7_, he, l4_, g4_, l5_, g5_, l6_, g6_, l7_, g7_⟩ := k55_open (h W' hW); injection (Option.some.inj (show some (Value.slice A5 x.f5.length c5) = some (Value.slice A5_ x.f5.length c5_) from congrArg (fun l => l[5]?) he)) with ha_ _ _; rw [ha_]; exact g5_), l6, (fun W' hW => by obtain ⟨A4_, c4_, A5_, c5_, A6_, c6_, A7_, c7_, he, l4_, g4_, l5_, g5_, l6_, g6_, l7_, g7_⟩ := k55_open (h W' hW); injection (Option.some.inj (show some (Value.slice A6 x.f6.length c6) = some (Value.slice A6_ x.f6.length c6_) from congrArg (fun l => l[6]?) he)) with ha_ _ _; rw [ha_]; exact g6_), l7, (fun W' hW => by obtain ⟨A4_, c4_, A5_, c5_, A6_, c6_, A7_, c7_, he, l4_, g4_, l5_, g5_, l6_, g6_, l7_, g7_⟩ := k55_open (h W' hW); injection (Option.some.inj (show some (Value.slice A7 x.f7.length c7) = some (Value.slice A7_ x.f7.length c7_) from congrArg (fun l => l[7]?) he)) with ha_ _ _; rw [ha_]; exact g7_)⟩
theorem k55_mkF (W : World) (ok : Nat → Prop) (x : S55) {A4 : Option Addr} {c4 : Nat} (l4 : x.f4.length ≤ c4) (g4 : Kd.F k114 W ok A4 x.f4.length x.f4) {A5 : Option Addr} {c5 : Nat} (l5 : x.f5.length ≤ c5) (g5 : Kd.F Kd.string W ok A5 x.f5.length x.f5) {A6 : Option Addr} {c6 : Nat} (l6 : x.f6.length ≤ c6) (g6 : Kd.F k55 W ok A6 x.f6.length x.f6) {A7 : Option Addr} {c7 : Nat} (l7 : x.f7.length ≤ c7) (g7 : Kd.F k55 W ok A7 x.f7.length x.f7) : Kd.FK k55 W ok x [.int .i64 x.f0, .string x.f1, .string x.f2, .string x.f3, .slice A4 x.f4.length c4, .slice A5 x.f5.length c5, .slice A6 x.f6.length c6, .slice A7 x.f7.length c7] := fun W2 hW => k55_mk W2 x l4 (g4 W2 hW) l5 (g5 W2 hW) l6 (g6 W2 hW) l7 (g7 W2 hW)
def rd_T55 (xs : List S55) (i : Int) : S55 := xs.getD i.toNat z55
theorem at_T55 {w : World} {A : Option Addr} {n : Nat} {xs : List S55} (h : Kd.C k55 w A n xs) (i : Int) (h0 : 0 ≤ i) (h1 : i < n) : ∃ ad A4 c4 A5 c5 A6 c6 A7 c7, A = some ad ∧ w.cell? (ad.add (i.toNat * 8)) = some (.int .i64 (rd_T55 xs i).f0) ∧ w.cell? ⟨(ad.add (i.toNat * 8)).block, (ad.add (i.toNat * 8)).off + 1, none⟩ = some (.string (rd_T55 xs i).f1) ∧ w.cell? ⟨(ad.add (i.toNat * 8)).block, (ad.add (i.toNat * 8)).off + 2, none⟩ = some (.string (rd_T55 xs i).f2) ∧ w.cell? ⟨(ad.add (i.toNat * 8)).block, (ad.add (i.toNat * 8)).off + 3, none⟩ = some (.string (rd_T55 xs i).f3) ∧ w.cell? ⟨(ad.add (i.toNat * 8)).block, (ad.add (i.toNat * 8)).off + 4, none⟩ = some (.slice A4 (rd_T55 xs i).f4.length c4) ∧ w.cell? ⟨(ad.add (i.toNat * 8)).block, (ad.add (i.toNat * 8)).off + 5, none⟩ = some (.slice A5 (rd_T55 xs i).f5.length c5) ∧ w.cell? ⟨(ad.add (i.toNat * 8)).block, (ad.add (i.toNat * 8)).off + 6, none⟩ = some (.slice A6 (rd_T55 xs i).f6.length c6) ∧ w.cell? ⟨(ad.add (i.toNat * 8)).block, (ad.add (i.toNat * 8)).off + 7, none⟩ = some (.slice A7 (rd_T55 xs i).f7.length c7) ∧ (rd_T55 xs i).f4.length ≤ c4 ∧ k114.C w A4 (rd_T55 xs i).f4.length (rd_T55 xs i).f4 ∧ (rd_T55 xs i).f5.length ≤ c5 ∧ Kd.string.C w A5 (rd_T55 xs i).f5.length (rd_T55 xs i).f5 ∧ (rd_T55 xs i).f6.length ≤ c6 ∧ k55.C w A6 (rd_T55 xs i).f6.length (rd_T55 xs i).f6 ∧ (rd_T55 xs i).f7.length ≤ c7 ∧ k55.C w A7 (rd_T55 xs i).f7.length (rd_T55 xs i).f7 := by
  obtain ⟨ad, c, e, _, hK, hc0⟩ := Kd.C_get h z55 i h0 h1
  have hc : ∀ j u, c[j]? = some u → w.cell? (ad.add (i.toNat * 8 + j)) = some u := hc0
  obtain ⟨A4, c4, A5, c5, A6, c6, A7, c7, rfl, l4, g4, l5, g5, l6, g6, l7, g7⟩ := k55_open hK
  exact ⟨ad, A4, c4, A5, c5, A6, c6, A7, c7, e, hc 0 _ rfl, by rw [← add_field _ _ 1 (by omega)]; exact hc 1 _ rfl, by rw [← add_field _ _ 2 (by omega)]; exact hc 2 _ rfl, by rw [← add_field _ _ 3 (by omega)]; exact hc 3 _ rfl, by rw [← add_field _ _ 4 (by omega)]; exact hc 4 _ rfl, by rw [← add_field _ _ 5 (by omega)]; exact hc 5 _ rfl, by rw [← add_field _ _ 6 (by omega)]; exact hc 6 _ rfl, by rw [← add_field _ _ 7 (by omega)]; exact hc 7 _ rfl, l4, g4, l5, g5, l6, g6, l7, g7⟩
structure S42 where
  f0 : ByteArray
  f1 : (List ByteArray)
  f2 : (List S55)
def z42 : S42 := ⟨(⟨#[]⟩ : ByteArray), ([] : List ByteArray), ([] : List S55)⟩
def k42 : Kd S42 := Kd.iso (Kd.pair Kd.string (Kd.pair (Kd.slice 9 Kd.string) (Kd.slice 55 k55))) (fun x : S42 => (x.f0, x.f1, x.f2))
theorem k42_open {w : World} {x : S42} {cs : List Value} (h : k42.K w x cs) : ∃ A1 c1 A2 c2, cs = [.string x.f0, .slice A1 x.f1.length c1, .slice A2 x.f2.length c2] ∧ x.f1.length ≤ c1 ∧ Kd.string.C w A1 x.f1.length x.f1 ∧ x.f2.length ≤ c2 ∧ k55.C w A2 x.f2.length x.f2 := by
  obtain ⟨_, _, rfl, rfl, ⟨_, _, rfl, ⟨A1, c1, rfl, l1, g1⟩, ⟨A2, c2, rfl, l2, g2⟩⟩⟩ := h
  exact ⟨A1, c1, A2, c2, rfl, l1, g1, l2, g2⟩
theorem k42_mk (w : World) (x : S42) {A1 : Option Addr} {c1 : Nat} (l1 : x.f1.length ≤ c1) (g1 : Kd.string.C w A1 x.f1.length x.f1) {A2 : Option Addr} {c2 : Nat} (l2 : x.f2.length ≤ c2) (g2 : k55.C w A2 x.f2.length x.f2) : k42.K w x [.string x.f0, .slice A1 x.f1.length c1, .slice A2 x.f2.length c2] := ⟨[.string x.f0], [.slice A1 x.f1.length c1, .slice A2 x.f2.length c2], rfl, rfl, ⟨[.slice A1 x.f1.length c1], [.slice A2 x.f2.length c2], rfl, ⟨A1, c1, rfl, l1, g1⟩, ⟨A2, c2, rfl, l2, g2⟩⟩⟩
theorem k42_mkF (W : World) (ok : Nat → Prop) (x : S42) {A1 : Option Addr} {c1 : Nat} (l1 : x.f1.length ≤ c1) (g1 : Kd.F Kd.string W ok A1 x.f1.length x.f1) {A2 : Option Addr} {c2 : Nat} (l2 : x.f2.length ≤ c2) (g2 : Kd.F k55 W ok A2 x.f2.length x.f2) : Kd.FK k42 W ok x [.string x.f0, .slice A1 x.f1.length c1, .slice A2 x.f2.length c2] := fun W2 hW => k42_mk W2 x l1 (g1 W2 hW) l2 (g2 W2 hW)
def rd_T42 (xs : List S42) (i : Int) : S42 := xs.getD i.toNat z42
theorem at_T42 {w : World} {A : Option Addr} {n : Nat} {xs : List S42} (h : Kd.C k42 w A n xs) (i : Int) (h0 : 0 ≤ i) (h1 : i < n) : ∃ ad A1 c1 A2 c2, A = some ad ∧ w.cell? (ad.add (i.toNat * 3)) = some (.string (rd_T42 xs i).f0) ∧ w.cell? ⟨(ad.add (i.toNat * 3)).block, (ad.add (i.toNat * 3)).off + 1, none⟩ = some (.slice A1 (rd_T42 xs i).f1.length c1) ∧ w.cell? ⟨(ad.add (i.toNat * 3)).block, (ad.add (i.toNat * 3)).off + 2, none⟩ = some (.slice A2 (rd_T42 xs i).f2.length c2) ∧ (rd_T42 xs i).f1.length ≤ c1 ∧ Kd.string.C w A1 (rd_T42 xs i).f1.length (rd_T42 xs i).f1 ∧ (rd_T42 xs i).f2.length ≤ c2 ∧ k55.C w A2 (rd_T42 xs i).f2.length (rd_T42 xs i).f2 := by
  obtain ⟨ad, c, e, _, hK, hc0⟩ := Kd.C_get h z42 i h0 h1
  have hc : ∀ j u, c[j]? = some u → w.cell? (ad.add (i.toNat * 3 + j)) = some u := hc0
  obtain ⟨A1, c1, A2, c2, rfl, l1, g1, l2, g2⟩ := k42_open hK
  exact ⟨ad, A1, c1, A2, c2, e, hc 0 _ rfl, by rw [← add_field _ _ 1 (by omega)]; exact hc 1 _ rfl, by rw [← add_field _ _ 2 (by omega)]; exact hc 2 _ rfl, l1, g1, l2, g2⟩
def rd_L9 (xs : List (List Int)) (i : Int) : (List Int) := xs.getD i.toNat ([] : List Int)
theorem at_L9 {w : World} {A : Option Addr} {n : Nat} {xs : List (List Int)} (h : Kd.C (Kd.slice 3 (Kd.int .i64)) w A n xs) (i : Int) (h0 : 0 ≤ i) (h1 : i < n) : ∃ ad A0 c0, A = some ad ∧ w.cell? (ad.add i.toNat) = some (.slice A0 (rd_L9 xs i).length c0) ∧ (rd_L9 xs i).length ≤ c0 ∧ (Kd.int .i64).C w A0 (rd_L9 xs i).length (rd_L9 xs i) := by
  obtain ⟨ad, c, e, _, hK, hc0⟩ := Kd.C_get h ([] : List Int) i h0 h1
  have hc : ∀ j u, c[j]? = some u → w.cell? (ad.add (i.toNat * 1 + j)) = some u := hc0
  obtain ⟨A0, c0, rfl, l0, g0⟩ := hK
  exact ⟨ad, A0, c0, e, by have hq := hc 0 _ rfl; rwa [Nat.mul_one, Nat.add_zero] at hq, l0, g0⟩
end Go.Proofs.Ytdbngbmokgeeiaa.Pr

namespace Go.Proofs.Ytdbngbmokgeeiaa.Man
open Go.RowKit Go.Proofs.Ytdbngbmokgeeiaa.Pr Go.Proofs.YtdbngbmokgeeiaaW.PrintWords
set_option maxRecDepth 100000
set_option linter.unusedVariables false
set_option linter.unusedSimpArgs false
theorem bulk_pos {H : Type} (d : DataW H) : 1 ≤ Rows.uptoBulk d := by
  cases d with
  | lit l => cases l <;> simp [Rows.uptoBulk]
  | nil => simp [Rows.uptoBulk]
  | ptr d => simp [Rows.uptoBulk]
  | slice elems spare => simp [Rows.uptoBulk]
  | agg parts => simp [Rows.uptoBulk]
  | iface t d => simp [Rows.uptoBulk]
  | map entries => simp [Rows.uptoBulk]
  | held h => simp [Rows.uptoBulk]
theorem bulk_len {H : Type} (l : List (DataW H)) : l.length ≤ Rows.uptoBulkAll l := by
  induction l with
  | nil => simp [Rows.uptoBulkAll]
  | cons x r ih => have := bulk_pos x; simp only [Rows.uptoBulkAll, List.length_cons]; omega
theorem mapM_get {α β : Type} (f : α → Option β) : ∀ (l : List α) (r : List β), l.mapM f = some r → r.length = l.length ∧ ∀ (i : Nat) a, l[i]? = some a → ∃ b, r[i]? = some b ∧ f a = some b := by
  intro l
  induction l with
  | nil => intro r h; simp at h; subst h; exact ⟨rfl, fun i a h => by simp at h⟩
  | cons x l ih =>
    intro r h
    simp only [List.mapM_cons, Option.bind_eq_bind, Option.bind_eq_some_iff, Option.pure_def, Option.some.injEq] at h
    obtain ⟨b, hb, r', hr', rfl⟩ := h
    obtain ⟨h1, h2⟩ := ih r' hr'
    refine ⟨by simp [h1], fun i a ha => ?_⟩
    cases i with
    | zero => simp at ha; subst ha; exact ⟨b, rfl, hb⟩
    | succ i => simpa using h2 i a (by simpa using ha)
theorem cells_get {w : World} {b n : Nat} {a : Addr} {c : List Value} (h : w.cells? b a n = some c) : c.length = n ∧ ∀ (i : Nat) u, c[i]? = some u → w.cell? (a.add i) = some u := by
  unfold World.cells? at h
  split at h
  · obtain ⟨h1, h2⟩ := mapM_get _ _ _ h
    rw [List.length_range] at h1
    refine ⟨h1, fun i u hu => ?_⟩
    have hi : i < n := by rw [← h1]; exact (List.getElem?_eq_some_iff.1 hu).1
    obtain ⟨b, hb, hf⟩ := h2 i i (by simp [hi])
    rw [hu] at hb; cases hb; exact hf
  · cases h
theorem addr_add (a : Addr) (i j : Nat) : a.add (i + j) = (a.add i).add j := by
  unfold Addr.add
  by_cases h1 : i = 0
  · subst h1; simp
  · by_cases h2 : j = 0
    · subst h2; simp [h1]
    · simp [h1, h2, Nat.add_assoc]
theorem bridge_slice {H : Type} {enc : TypeId × Value → H} {w : World} {α : Type} {t e : TypeId} (hu : Try.prog.underlying t = some (.slice e)) (d : Kd α) (z : α) (hsz : Try.prog.cellsOf e = d.sz) (Q : α → Nat → Prop) (fuel : Nat) {held : Bool} {sp : Nat → Bool}
    (hE : ∀ cs (D : DataW H) ps, DataW.trod enc Try.prog w 0 sp held fuel e cs = some (D, ps) → ∃ x, d.K w x cs ∧ Q x (Rows.uptoBulk D)) (cs : List Value) (D : DataW H) (ps : List MemPlace)
    (h : DataW.trod enc Try.prog w 0 sp held (fuel + 1) t cs = some (D, ps)) :
    ∃ (A : Option Addr) (c : Nat) (xs : List α) (Ds : List (DataW H)), cs = [.slice A xs.length c] ∧ xs.length ≤ c ∧ d.C w A xs.length xs ∧ Rows.uptoBulkAll Ds + 1 ≤ Rows.uptoBulk D ∧ xs.length = Ds.length ∧ ∀ (i : Nat) x D', xs[i]? = some x → Ds[i]? = some D' → Q x (Rows.uptoBulk D') := by
  unfold DataW.trod at h
  rw [hu] at h
  split at h <;> rename_i he
  all_goals first | (cases he; done) | skip
  · -- nil
    cases h
    exact ⟨none, 0, [], [], rfl, Nat.le_refl _, Kd.C_nil _ _, by simp [Rows.uptoBulkAll, Rows.uptoBulk], rfl, fun i x D' hx => by simp at hx⟩
  · rename_i e2 a len cap
    cases he
    dsimp only at h
    split at h
    · rename_i hc
      simp only [Option.bind_eq_some_iff, Option.map_eq_some_iff] at h
      obtain ⟨els, hels, rest, _, hD⟩ := h
      simp only [Prod.mk.injEq] at hD
      obtain ⟨rfl, _⟩ := hD
      obtain ⟨hl, hg⟩ := mapM_get _ _ _ hels
      rw [List.length_range] at hl
      have hx : ∀ i, i < len → ∃ cs, cs.length = d.sz ∧ (∀ (j : Nat) u, cs[j]? = some u → w.cell? ((a.add (i * d.sz)).add j) = some u) ∧ ∃ x, d.K w x cs ∧ ∀ q, els[i]? = some q → Q x (Rows.uptoBulk q.1) := by
        intro i hi
        obtain ⟨q, hq, hf⟩ := hg i i (by simp [hi])
        simp only [Option.bind_eq_some_iff] at hf
        obtain ⟨cs, hcs, ht⟩ := hf
        obtain ⟨h1, h2⟩ := cells_get hcs
        obtain ⟨x, hK, hQ⟩ := hE cs q.1 q.2 ht
        rw [hsz] at h1 h2
        exact ⟨cs, h1, h2, x, hK, fun q' hq' => by rw [hq] at hq'; cases hq'; exact hQ⟩
      have hch : ∃ f : Nat → α, ∀ i, i < len → ∃ cs, cs.length = d.sz ∧ (∀ (j : Nat) u, cs[j]? = some u → w.cell? ((a.add (i * d.sz)).add j) = some u) ∧ d.K w (f i) cs ∧ ∀ q, els[i]? = some q → Q (f i) (Rows.uptoBulk q.1) := by
        refine ⟨fun i => if hi : i < len then Classical.choose (Classical.choose_spec (hx i hi)).2.2 else z, fun i hi => ?_⟩
        have hs := Classical.choose_spec (hx i hi)
        refine ⟨Classical.choose (hx i hi), hs.1, hs.2.1, ?_⟩
        simp only [dif_pos hi]
        exact Classical.choose_spec hs.2.2
      obtain ⟨f, hf⟩ := hch
      refine ⟨some a, cap, (List.range len).map f, els.map (·.1), by simp, by simp; exact hc.2.1, ⟨rfl, ?_, fun _ => ⟨a, rfl, fun j p hj => ?_⟩⟩, ?_, by simp [hl], fun i x D' hi hD' => ?_⟩
      · have := hc.2.2; simp [maxLen] at this ⊢; omega
      · simp only [List.getElem?_map, Option.map_eq_some_iff] at hj
        obtain ⟨j', hj', rfl⟩ := hj
        obtain ⟨h1, h2⟩ := List.getElem?_eq_some_iff.1 hj'
        simp at h1 h2; subst h2
        obtain ⟨cs, c1, c2, c3, _⟩ := hf j h1
        refine ⟨cs, c1, c3, fun i u hu => ?_⟩
        rw [← c2 i u hu]
        congr 1
        exact addr_add a _ _
      · simp only [Rows.uptoBulk]; omega
      · simp only [List.getElem?_map, Option.map_eq_some_iff] at hi hD'
        obtain ⟨i', hi', rfl⟩ := hi
        obtain ⟨q, hq, rfl⟩ := hD'
        obtain ⟨h1, h2⟩ := List.getElem?_eq_some_iff.1 hi'
        simp at h1 h2; subst h2
        obtain ⟨cs, c1, c2, c3, c4⟩ := hf i h1
        exact c4 q hq
    · cases h
  all_goals first | (cases h; done) | skip
theorem bridge_int {H : Type} {enc : TypeId × Value → H} {w : World} {t : TypeId} {k : IntKind} (hu : Try.prog.underlying t = some (.int k)) {held : Bool} {sp : Nat → Bool} (fuel : Nat) (cs : List Value) (D : DataW H) (ps : List MemPlace)
    (h : DataW.trod enc Try.prog w 0 sp held fuel t cs = some (D, ps)) : ∃ n, cs = [.int k n] := by
  cases fuel with
  | zero => cases h
  | succ fuel =>
  unfold DataW.trod at h
  rw [hu] at h
  split at h <;> rename_i he
  all_goals first | (cases he; done) | skip
  · rename_i k2 k3 n
    cases he
    split at h
    · rename_i hk; exact ⟨n, by rw [hk.1]⟩
    · cases h
  all_goals first | (cases h; done) | skip
theorem bridge_string {H : Type} {enc : TypeId × Value → H} {w : World} {t : TypeId} (hu : Try.prog.underlying t = some .string) {held : Bool} {sp : Nat → Bool} (fuel : Nat) (cs : List Value) (D : DataW H) (ps : List MemPlace)
    (h : DataW.trod enc Try.prog w 0 sp held fuel t cs = some (D, ps)) : ∃ s, cs = [.string s] ∧ s.size ≤ Rows.uptoBulk D := by
  cases fuel with
  | zero => cases h
  | succ fuel =>
  unfold DataW.trod at h
  rw [hu] at h
  split at h <;> rename_i he
  all_goals first | (cases he; done) | skip
  · rename_i s
    split at h
    · cases h
      exact ⟨s, rfl, by simp only [Rows.uptoBulk]; have e : s.data.toList.length = s.size := by rw [Array.length_toList]; rfl
                        omega⟩
    · cases h
  all_goals first | (cases h; done) | skip
theorem bridge_struct {H : Type} {enc : TypeId × Value → H} {w : World} {t : TypeId} {fs : Array Field} (hu : Try.prog.underlying t = some (.struct fs)) {held : Bool} {sp : Nat → Bool} (fuel : Nat) (cs : List Value) (D : DataW H) (ps : List MemPlace)
    (h : DataW.trod enc Try.prog w 0 sp held (fuel + 1) t cs = some (D, ps)) : cs.length = Try.prog.cellsOf t ∧ ∃ Ds, Rows.uptoBulk D = Rows.uptoBulkAll Ds + 1 ∧ Ds.length = fs.size ∧
      ∀ (i : Nat) f, fs[i]? = some f → ∃ D' p', Ds[i]? = some D' ∧ DataW.trod enc Try.prog w 0 sp held fuel f.type ((cs.drop f.offset).take (Try.prog.cellsOf f.type)) = some (D', p') := by
  unfold DataW.trod at h
  rw [hu] at h
  split at h <;> rename_i he
  all_goals first | (cases he; done) | skip
  · rename_i fs'
    cases he
    split at h
    · rename_i hc
      simp only [Option.map_eq_some_iff, Prod.mk.injEq] at h
      obtain ⟨xs, hxs, rfl, _⟩ := h
      obtain ⟨h1, h2⟩ := mapM_get _ _ _ hxs
      refine ⟨hc, xs.map (·.1), by simp [Rows.uptoBulk], by simpa using h1, fun i f hf => ?_⟩
      obtain ⟨q, hq, ht⟩ := h2 i f (by simpa using hf)
      exact ⟨q.1, q.2, by simp [hq], ht⟩
    · cases h
  all_goals exact absurd rfl ((by assumption : ∀ fs' : Array Field, some (TypeDesc.struct fs) = some (TypeDesc.struct fs') → False) _)
end Go.Proofs.Ytdbngbmokgeeiaa.Man

namespace Go.Proofs.Ytdbngbmokgeeiaa.Pr
open Go.RowKit Go.Proofs.YtdbngbmokgeeiaaW.PrintWords
theorem k114_heap : Kd.Heap k114 := Kd.heap_iso _ (Kd.heap_pair (Kd.heap_int .i64) (Kd.heap_pair (Kd.heap_int .i64) Kd.heap_string))
theorem k55_heap : Kd.Heap k55 := Kd.heap_fix (fun _ h_ => Kd.heap_iso _ (Kd.heap_pair (Kd.heap_int .i64) (Kd.heap_pair Kd.heap_string (Kd.heap_pair Kd.heap_string (Kd.heap_pair Kd.heap_string (Kd.heap_pair (Kd.heap_slice 114 k114_heap) (Kd.heap_pair (Kd.heap_slice 9 Kd.heap_string) (Kd.heap_pair (Kd.heap_slice 55 h_) (Kd.heap_slice 55 h_)))))))))
end Go.Proofs.Ytdbngbmokgeeiaa.Pr

namespace Go.Proofs.Ytdbngbmokgeeiaa.Man
open Go.RowKit Go.Shelf Go.Proofs.Ytdbngbmokgeeiaa.Pr Go.Proofs.YtdbngbmokgeeiaaW.PrintWords
attribute [local go_sem] Oper.semAt_some
set_option linter.unusedVariables false
set_option linter.unusedSimpArgs false
def flat : List S55 → List S55
  | [] => []
  | s :: r => s :: (flat s.f6 ++ (flat s.f7 ++ flat r))
termination_by l => SizeOf.sizeOf l
decreasing_by
  all_goals (obtain ⟨f0, f1, f2, f3, f4, f5, f6, f7⟩ := s; simp; omega)
def rowOf (bx : Option Nat) (W : World) : Option Nat := bx.bind fun b => (W.cell? ⟨b, 0, none⟩).bind Value.ownBlock
def Good (bx : Option Nat) (W : World) : Prop := ∀ k, rowOf bx W = some k → k < W.heap.size
def Kp (n0 B : Nat) (bx : Option Nat) (W W' : World) : Prop :=
  Below n0 W W' ∧ (Good bx W → Good bx W' ∧ (rowOf bx W' = rowOf bx W ∨ ∀ k, rowOf bx W' = some k → W.heap.size ≤ k) ∧
    ∀ k c, B ≤ k → W.heap[k]? = some c → c.isCells = true → rowOf bx W ≠ some k → W'.heap[k]? = some c)
theorem Kp.refl (n0 B : Nat) (bx : Option Nat) (W : World) : Kp n0 B bx W W :=
  ⟨Below.refl _ _, fun h => ⟨h, .inl rfl, fun _ _ _ h _ _ => h⟩⟩
theorem Kp.trans {n0 B : Nat} {bx : Option Nat} {X Y Z : World} (h : Kp n0 B bx X Y) (k : Kp n0 B bx Y Z) : Kp n0 B bx X Z := by
  refine ⟨h.1.trans k.1, fun hg => ?_⟩
  obtain ⟨g1, r1, c1⟩ := h.2 hg
  obtain ⟨g2, r2, c2⟩ := k.2 g1
  have hs : X.heap.size ≤ Y.heap.size := h.1.size
  refine ⟨g2, ?_, ?_⟩
  · rcases r2 with r2 | r2
    · rw [r2]; exact r1
    · exact .inr fun j hj => Nat.le_trans hs (r2 j hj)
  · intro j c hB hc hcc hne
    have hlt : j < X.heap.size := (Array.getElem?_eq_some_iff.1 hc).1
    refine c2 j c hB (c1 j c hB hc hcc hne) hcc ?_
    rcases r1 with r1 | r1
    · rw [r1]; exact hne
    · intro e; have := r1 j e; omega
theorem Kp.putObj {n0 B : Nat} {bx : Option Nat} (hn : n0 ≤ B) (hb : ∀ b, bx = some b → b < B) (W : World) (l : Nat) (o o' : Obj) (hl : B ≤ l) (h : W.heap[l]? = some o) (ho : o.isCells = false) (_ : o.isWalk = false) : Kp n0 B bx W (W.putObj l o') := by
  have hlt : l < W.heap.size := (Array.getElem?_eq_some_iff.1 h).1
  have hoth : ∀ j, j ≠ l → (W.putObj l o').heap[j]? = W.heap[j]? := fun j hj => World.putObj_heap_other hj
  have hrow : rowOf bx (W.putObj l o') = rowOf bx W := by
    unfold rowOf
    cases bx with
    | none => rfl
    | some b =>
      have hb' := hb b rfl
      simp only [Option.bind_some]
      rw [show (W.putObj l o').cell? ⟨b, 0, none⟩ = W.cell? ⟨b, 0, none⟩ from World.cell?_of_block (hoth b (by omega))]
  have hsz : W.heap.size ≤ (W.putObj l o').heap.size := (grownBy_putObj' W l o').size
  refine ⟨(Below.refl n0 W).grown (grownBy_putObj' W l o') (by omega) (fun k e => by cases e; omega), fun hg => ⟨fun k hk => ?_, .inl hrow, fun k c hB hc hcc _ => ?_⟩⟩
  · rw [hrow] at hk; exact Nat.lt_of_lt_of_le (hg k hk) hsz
  · rw [hoth k ?_]; exact hc
    intro e; subst e; rw [h] at hc; cases hc; rw [ho] at hcc; cases hcc
theorem rowOf_alloc (bx : Option Nat) (W : World) (o : Obj) (hb : ∀ b, bx = some b → b < W.heap.size) : rowOf bx (W.alloc o) = rowOf bx W := by
  unfold rowOf
  cases bx with
  | none => rfl
  | some b => simp only [Option.bind_some]; rw [World.cell?_of_block (Below.heap_alloc W o b (hb b rfl))]
theorem Kp.alloc {n0 B : Nat} {bx : Option Nat} {X W : World} (h : Kp n0 B bx X W) (o : Obj) (hn : n0 ≤ W.heap.size) (hb : ∀ b, bx = some b → b < W.heap.size) : Kp n0 B bx X (W.alloc o) := by
  refine h.trans ⟨(Below.refl _ _).alloc hn o, fun hg => ⟨fun k hk => ?_, .inl (rowOf_alloc bx W o hb), fun k c hB hc _ _ => ?_⟩⟩
  · rw [rowOf_alloc bx W o hb] at hk; have := hg k hk; simp; omega
  · rw [Below.heap_alloc W o k (Array.getElem?_eq_some_iff.1 hc).1]; exact hc
abbrev Elt (w : World) (P : Nat → Prop) (T : S55 → Prop) : Type := { p : S55 × List Value // Kd.FK k55 w P p.1 p.2 ∧ T p.1 }
def encE {w : World} {P : Nat → Prop} {T : S55 → Prop} (x : Elt w P T) : Array Value := #[.agg x.1.2.toArray]
end Go.Proofs.Ytdbngbmokgeeiaa.Man

namespace Go.Proofs.Ytdbngbmokgeeiaa.Man
open Go.RowKit Go.Shelf Go.Proofs.Ytdbngbmokgeeiaa.Pr Go.Proofs.YtdbngbmokgeeiaaW.PrintWords
attribute [local go_sem] Oper.semAt_some
set_option linter.unusedVariables false
set_option linter.unusedSimpArgs false
theorem flat_take_succ (l : List S55) (k : Nat) (h : k < l.length) : flat (l.take (k + 1)) = flat (l.take k) ++ (l[k] :: (flat l[k].f6 ++ flat l[k].f7)) := by
  induction l generalizing k with
  | nil => simp at h
  | cons s r ih =>
    cases k with
    | zero => simp [flat]
    | succ k => simp [flat, ih k (by simpa using h)]
theorem flat_append (a b : List S55) : flat (a ++ b) = flat a ++ flat b := by
  induction a with
  | nil => simp [flat]
  | cons s r ih => simp [flat, ih]
theorem flat_len (l : List S55) (k : Nat) (h : k < l.length) : (flat (l.take k)).length + (1 + ((flat (rd_T55 l k).f6).length + (flat (rd_T55 l k).f7).length)) ≤ (flat l).length := by
  have h1 := flat_take_succ l k h
  have h2 : flat l = flat (l.take (k + 1)) ++ flat (l.drop (k + 1)) := by rw [← flat_append, List.take_append_drop]
  have h3 : rd_T55 l k = l[k] := by simp [rd_T55, List.getD, h]
  rw [h2, h1, h3]
  simp; omega
theorem flat_mem (l : List S55) (k : Nat) (h : k < l.length) (s : S55) (hs : s ∈ rd_T55 l k :: (flat (rd_T55 l k).f6 ++ flat (rd_T55 l k).f7)) : s ∈ flat l := by
  have h1 := flat_take_succ l k h
  have h2 : flat l = flat (l.take (k + 1)) ++ flat (l.drop (k + 1)) := by rw [← flat_append, List.take_append_drop]
  have h3 : rd_T55 l k = l[k] := by simp [rd_T55, List.getD, h]
  rw [h3] at hs
  rw [h2, h1]
  exact List.mem_append_left _ (List.mem_append_right _ hs)
theorem size_mem (l : List S55) (k : Nat) (h : k < l.length) : SizeOf.sizeOf (rd_T55 l k).f6 < SizeOf.sizeOf l ∧ SizeOf.sizeOf (rd_T55 l k).f7 < SizeOf.sizeOf l := by
  have h3 : rd_T55 l k = l[k] := by simp [rd_T55, List.getD, h]
  have h4 := List.sizeOf_lt_of_mem (List.getElem_mem h)
  rw [h3]
  generalize l[k] = s at h4
  obtain ⟨f0, f1, f2, f3, f4, f5, f6, f7⟩ := s
  simp at h4
  simp; omega
theorem Kp.keep {n0 B : Nat} {bx : Option Nat} {W W' : World} (h : Kp n0 B bx W W') (hg : Good bx W) {k : Nat} {c : Array Value} {t : TypeId} (hB : B ≤ k) (hc : W.heap[k]? = some (.cells c t (0, 0))) (hne : rowOf bx W ≠ some k) :
    W'.heap[k]? = some (.cells c t (0, 0)) ∧ rowOf bx W' ≠ some k := by
  obtain ⟨g1, r1, c1⟩ := h.2 hg
  refine ⟨c1 k _ hB hc rfl hne, ?_⟩
  have hlt : k < W.heap.size := (Array.getElem?_eq_some_iff.1 hc).1
  rcases r1 with r1 | r1
  · rw [r1]; exact hne
  · intro e; have := r1 k e; omega
theorem cell_at_block {W : World} {k : Nat} {c : Array Value} {t : TypeId} (hc : W.heap[k]? = some (.cells c t (0, 0))) (j : Nat) : W.cell? ⟨k, j, none⟩ = c[j]? := by
  simp [World.cell?, hc]
theorem atF {w : World} {P : Nat → Prop} {A : Option Addr} {xs : List S55} (h : Kd.F k55 w P A xs.length xs) (k : Nat) (hk : k < xs.length) : ∃ ad A4 c4 A5 c5 A6 c6 A7 c7, A = some ad ∧ w.cell? (ad.add (k * 8)) = some (.int .i64 (rd_T55 xs k).f0) ∧
    w.cell? ⟨(ad.add (k * 8)).block, (ad.add (k * 8)).off + 1, none⟩ = some (.string (rd_T55 xs k).f1) ∧ w.cell? ⟨(ad.add (k * 8)).block, (ad.add (k * 8)).off + 2, none⟩ = some (.string (rd_T55 xs k).f2) ∧
    w.cell? ⟨(ad.add (k * 8)).block, (ad.add (k * 8)).off + 3, none⟩ = some (.string (rd_T55 xs k).f3) ∧ w.cell? ⟨(ad.add (k * 8)).block, (ad.add (k * 8)).off + 4, none⟩ = some (.slice A4 (rd_T55 xs k).f4.length c4) ∧
    w.cell? ⟨(ad.add (k * 8)).block, (ad.add (k * 8)).off + 5, none⟩ = some (.slice A5 (rd_T55 xs k).f5.length c5) ∧ w.cell? ⟨(ad.add (k * 8)).block, (ad.add (k * 8)).off + 6, none⟩ = some (.slice A6 (rd_T55 xs k).f6.length c6) ∧
    w.cell? ⟨(ad.add (k * 8)).block, (ad.add (k * 8)).off + 7, none⟩ = some (.slice A7 (rd_T55 xs k).f7.length c7) ∧ (rd_T55 xs k).f4.length ≤ c4 ∧ Kd.F k114 w P A4 (rd_T55 xs k).f4.length (rd_T55 xs k).f4 ∧
    (rd_T55 xs k).f5.length ≤ c5 ∧ Kd.F Kd.string w P A5 (rd_T55 xs k).f5.length (rd_T55 xs k).f5 ∧ (rd_T55 xs k).f6.length ≤ c6 ∧ Kd.F k55 w P A6 (rd_T55 xs k).f6.length (rd_T55 xs k).f6 ∧
    (rd_T55 xs k).f7.length ≤ c7 ∧ Kd.F k55 w P A7 (rd_T55 xs k).f7.length (rd_T55 xs k).f7 ∧
    Kd.FK k55 w P (rd_T55 xs k) [.int .i64 (rd_T55 xs k).f0, .string (rd_T55 xs k).f1, .string (rd_T55 xs k).f2, .string (rd_T55 xs k).f3, .slice A4 (rd_T55 xs k).f4.length c4, .slice A5 (rd_T55 xs k).f5.length c5, .slice A6 (rd_T55 xs k).f6.length c6, .slice A7 (rd_T55 xs k).f7.length c7] := by
  obtain ⟨ad, _, e, _⟩ := Kd.C_get (Kd.F_now h) z55 (k : Int) (by omega) (by omega)
  subst e
  have hV : Kd.V k55 55 w 0 P (.slice (some ad) xs.length xs.length) xs := Kd.V_mk (Nat.le_refl _) h
  obtain ⟨c, hcl, hFK, hcc⟩ := Kd.V_get hV z55 (k : Int) (by omega) (by omega)
  simp only [Int.toNat_natCast] at hFK hcc
  replace hcc : ∀ j u, c[j]? = some u → w.cell? (ad.add (k * 8 + j)) = some u := hcc
  replace hFK : Kd.FK k55 w P (rd_T55 xs k) c := hFK
  have hFK' := hFK
  obtain ⟨A4, c4, A5, c5, A6, c6, A7, c7, rfl, l4, g4, l5, g5, l6, g6, l7, g7⟩ := k55_openF hFK
  exact ⟨ad, A4, c4, A5, c5, A6, c6, A7, c7, rfl, hcc 0 _ rfl, by rw [← add_field _ _ 1 (by omega)]; exact hcc 1 _ rfl, by rw [← add_field _ _ 2 (by omega)]; exact hcc 2 _ rfl, by rw [← add_field _ _ 3 (by omega)]; exact hcc 3 _ rfl,
    by rw [← add_field _ _ 4 (by omega)]; exact hcc 4 _ rfl, by rw [← add_field _ _ 5 (by omega)]; exact hcc 5 _ rfl, by rw [← add_field _ _ 6 (by omega)]; exact hcc 6 _ rfl, by rw [← add_field _ _ 7 (by omega)]; exact hcc 7 _ rfl, l4, g4, l5, g5, l6, g6, l7, g7, hFK'⟩
set_option maxRecDepth 100000 in
set_option maxHeartbeats 2000000 in
theorem all_in (w : World) (P : Nat → Prop) (T : S55 → Prop) (l : Nat) (B N : Nat) (bx : Option Nat) (hn : w.heap.size ≤ B) (hb : ∀ b, bx = some b → b < B) (J Jx : List (Elt w P T) → World → Prop)
    (hY : ∀ m pre x W, J pre W → pre.length < N → YieldAt Fence.wide m Try.prog l (encE x) W fun e W' =>
      (e = .returned (.bool true) ∧ J (pre ++ [x]) W' ∧ Kp w.heap.size B bx W W') ∨ (e = .returned (.bool false) ∧ Jx (pre ++ [x]) W'))
    (hJ : ∀ pre W W', J pre W → W.grownBy W' none → J pre W') :
    ∀ (m : Nat) (xs : List S55), SizeOf.sizeOf xs < m → ∀ (n : Nat) (A : Option Addr) (c : Nat) (pre : List (Elt w P T)) (W : World), xs.length ≤ c → (∀ s, s ∈ flat xs → T s) → Kd.F k55 w P A xs.length xs → J pre W → Below w.heap.size w W → Good bx W → B ≤ W.heap.size → pre.length + (flat xs).length ≤ N →
      CallsIn Fence.wide n Try.prog 35 #[.slice A xs.length c, .func (.yield l) #[] #[]] W fun e W' =>
        (e = .returned (.bool true) ∧ ∃ es : List (Elt w P T), es.map (·.1.1) = flat xs ∧ J (pre ++ es) W' ∧ Kp w.heap.size B bx W W') ∨
        (e = .returned (.bool false) ∧ ∃ (es : List (Elt w P T)) (q : List S55), es.map (·.1.1) ++ q = flat xs ∧ Jx (pre ++ es) W') := by
  intro m
  induction m with
  | zero => intro xs h; omega
  | succ m ih =>
  intro xs hsz n A c pre W hlc hT hC hJ0 hBe hG hBW hN
  have hdd : ∀ k : Nat, (Fence.wide.depth.isSome = true → 1 ≤ k) := fun k h => by simp [Fence.wide] at h
  have hlen : xs.length ≤ 9223372036854775807 := Kd.F_max hC
  refine callsIn_of_wp Try.func35 rfl trivial ?_ rfl
  simp only [Try.ntmps35, List.size_toArray, List.length_cons, List.length_nil, Nat.reduceAdd, Nat.reduceSub, Array.replicate_succ, Array.replicate_zero, List.push_toArray, List.append_toArray, List.nil_append, List.cons_append]
  have IH := Lib.hid ih
  have HY := Lib.hid hY
  have HJ := Lib.hid hJ
  have HC := Lib.hid hC
  have HG := Lib.hid hG
  have HT := Lib.hid hT
  clear ih hY hJ hC hG hT
  gi_wp2
  gi_loopw [9] (fun i wr => ∃ (k : Nat) (es : List (Elt w P T)), k ≤ xs.length ∧ i = .int .i64 k ∧ Hid (es.map (·.1.1) = flat (xs.take k)) ∧ Hid (J (pre ++ es) wr) ∧ Hid (Kp w.heap.size B bx W wr))
    (fun i _ => xs.length - (intOf i).toNat)
  case atStart => exact ⟨0, [], Nat.zero_le _, rfl, by simp [Hid, flat], by simpa [Hid] using hJ0, Kp.refl _ _ _ _⟩
  case round =>
    obtain ⟨k, es, hk, rfl, hes, hJk, hKp⟩ := hrel
    have hle := hKp.out.1.size
    by_cases hlt : k < xs.length
    · have hfl := flat_len xs k hlt
      obtain ⟨hs6, hs7⟩ := size_mem xs k hlt
      have hel : es.length = (flat (xs.take k)).length := by rw [← hes.out]; simp
      have hbel := Lib.hid (hBe.trans hKp.out.1)
      obtain ⟨ad, A4, c4, A5, c5, A6, c6, A7, c7, e0, h0, h1, h2, h3, h4, h5, h6, h7, l4, g4, l5, g5, l6, g6, l7, g7, hK⟩ := atF HC.out k hlt
      obtain ⟨x, hx⟩ : ∃ x : Elt w P T, x = ⟨(rd_T55 xs k, _), hK, HT.out _ (flat_mem xs k hlt _ (by simp))⟩ := ⟨_, rfl⟩
      replace h0 := pw_cell_below hbel.out h0
      replace h1 := pw_cell_below hbel.out h1
      replace h2 := pw_cell_below hbel.out h2
      replace h3 := pw_cell_below hbel.out h3
      replace h4 := pw_cell_below hbel.out h4
      replace h5 := pw_cell_below hbel.out h5
      replace h6 := pw_cell_below hbel.out h6
      replace h7 := pw_cell_below hbel.out h7
      have G6 := Lib.hid g6
      have G7 := Lib.hid g7
      clear g4 g5 l4 l5 g6 g7
      subst e0
      obtain ⟨s, hs⟩ : ∃ s, s = rd_T55 xs k := ⟨_, rfl⟩
      have HX : Hid (encE x = #[.agg #[.int .i64 (rd_T55 xs k).f0, .string (rd_T55 xs k).f1, .string (rd_T55 xs k).f2, .string (rd_T55 xs k).f3, .slice A4 (rd_T55 xs k).f4.length c4, .slice A5 (rd_T55 xs k).f5.length c5, .slice A6 (rd_T55 xs k).f6.length c6, .slice A7 (rd_T55 xs k).f7.length c7]]) := by rw [hx]; rfl
      have HX1 : Hid (x.1.1 = rd_T55 xs k) := by rw [hx]; rfl
      clear hx hK
      rw [← hs] at h0 h1 h2 h3 h4 h5 h6 h7 l6 l7 hs6 hs7 hfl HX HX1 G6 G7
      have HS := Lib.hid hs
      clear hs
      have hy := HY.out (n - 1) (pre ++ es) x (wr.alloc (.cells #[.int .i64 s.f0, .string s.f1, .string s.f2, .string s.f3, .slice A4 s.f4.length c4, .slice A5 s.f5.length c5, .slice A6 s.f6.length c6, .slice A7 s.f7.length c7] 55)) (HJ.out _ _ _ hJk.out (World.grownBy_alloc _ _ _)) (by simp; omega)
      rw [HX.out] at hy
      -- what each call leaves, with what is wanted next laid beside it
      have hg0 : Good bx wr := (hKp.out.2 HG.out).1
      have hbw : ∀ b, bx = some b → b < wr.heap.size := fun b e => by have := hb b e; omega
      have hn1 : rowOf bx (wr.alloc (.cells #[.int .i64 s.f0, .string s.f1, .string s.f2, .string s.f3, .slice A4 s.f4.length c4, .slice A5 s.f5.length c5, .slice A6 s.f6.length c6, .slice A7 s.f7.length c7] 55)) ≠ some wr.heap.size := by
        rw [rowOf_alloc bx wr _ hbw]; intro e; have := hg0 _ e; omega
      have hK1 := Kp.alloc hKp.out (.cells #[.int .i64 s.f0, .string s.f1, .string s.f2, .string s.f3, .slice A4 s.f4.length c4, .slice A5 s.f5.length c5, .slice A6 s.f6.length c6, .slice A7 s.f7.length c7] 55) (by omega) hbw
      have hblk := World.alloc_heap_new wr (.cells #[.int .i64 s.f0, .string s.f1, .string s.f2, .string s.f3, .slice A4 s.f4.length c4, .slice A5 s.f5.length c5, .slice A6 s.f6.length c6, .slice A7 s.f7.length c7] 55)
      have hg1 := (hK1.2 HG.out).1
      generalize hW1 : (wr.alloc (.cells #[.int .i64 s.f0, .string s.f1, .string s.f2, .string s.f3, .slice A4 s.f4.length c4, .slice A5 s.f5.length c5, .slice A6 s.f6.length c6, .slice A7 s.f7.length c7] 55)) = W1 at hy hn1 hK1 hblk hg1
      have h7c : ∀ W3 e7, e7 = es ++ [x] → ∀ e6 : List (Elt w P T), e6.map (·.1.1) = flat s.f6 → J (pre ++ (e7 ++ e6)) W3 → Kp w.heap.size B bx W1 W3 → CallsIn Fence.wide (n - 1) Try.prog 35 #[.slice A7 s.f7.length c7, .func (.yield l) #[] #[]] W3 fun e W4 =>
          (e = .returned (.bool true) ∧ Hid (∃ es : List (Elt w P T), es.map (·.1.1) = flat (xs.take (k + 1)) ∧ J (pre ++ es) W4 ∧ Kp w.heap.size B bx W W4)) ∨
          (e = .returned (.bool false) ∧ Hid (∃ (es : List (Elt w P T)) (q : List S55), es.map (·.1.1) ++ q = flat xs ∧ Jx (pre ++ es) W4)) := by
        rintro W3 _ rfl e6 he6 hj hk3
        have hl6 : e6.length = (flat s.f6).length := by rw [← he6]; simp
        refine (IH.out s.f7 (by omega) (n - 1) A7 c7 _ W3 l7 (fun s' hs' => HT.out s' (flat_mem xs k hlt s' (by rw [← HS.out]; simp [hs']))) G7.out hj ((hBe.trans hK1.1).trans hk3.1) ((hk3.2 hg1).1) (by have := hk3.1.size; have := hK1.1.size; omega) (by simp; omega)).mono ?_
        have htk := flat_take_succ xs k hlt
        have h3 : xs[k] = s := by rw [HS.out]; simp [rd_T55, List.getD, hlt]
        rw [h3] at htk
        have hx1 : x.1.1 = s := by rw [HX1.out]
        rintro e W4 (⟨rfl, e8, he8, hj8, hk8⟩ | ⟨rfl, e8, q, he8, hj8⟩)
        · refine .inl ⟨rfl, (es ++ [x]) ++ e6 ++ e8, ?_, by simpa [List.append_assoc] using hj8, (hK1.trans hk3).trans hk8⟩
          rw [htk]; simp [hes.out, he6, he8, hx1]
        · refine .inr ⟨rfl, (es ++ [x]) ++ e6 ++ e8, q ++ flat (xs.drop (k + 1)), ?_, by simpa [List.append_assoc] using hj8⟩
          rw [show flat xs = flat (xs.take (k + 1)) ++ flat (xs.drop (k + 1)) from by rw [← flat_append, List.take_append_drop], htk, ← he8]
          simp [hes.out, he6, hx1]
      have h6c : ∀ W2, J (pre ++ es ++ [x]) W2 → Kp w.heap.size B bx W1 W2 → CallsIn Fence.wide (n - 1) Try.prog 35 #[.slice A6 s.f6.length c6, .func (.yield l) #[] #[]] W2 fun e W3 =>
          (e = .returned (.bool true) ∧ W3.cell? ⟨wr.heap.size, 7, none⟩ = some (.slice A7 s.f7.length c7) ∧ Hid (CallsIn Fence.wide (n - 1) Try.prog 35 #[.slice A7 s.f7.length c7, .func (.yield l) #[] #[]] W3 fun e W4 =>
            (e = .returned (.bool true) ∧ Hid (∃ es : List (Elt w P T), es.map (·.1.1) = flat (xs.take (k + 1)) ∧ J (pre ++ es) W4 ∧ Kp w.heap.size B bx W W4)) ∨
            (e = .returned (.bool false) ∧ Hid (∃ (es : List (Elt w P T)) (q : List S55), es.map (·.1.1) ++ q = flat xs ∧ Jx (pre ++ es) W4)))) ∨
          (e = .returned (.bool false) ∧ Hid (∃ (es : List (Elt w P T)) (q : List S55), es.map (·.1.1) ++ q = flat xs ∧ Jx (pre ++ es) W3)) := by
        intro W2 hj hk2
        obtain ⟨hb2, hr2⟩ := hk2.keep hg1 (by omega) hblk hn1
        refine (IH.out s.f6 (by omega) (n - 1) A6 c6 _ W2 l6 (fun s' hs' => HT.out s' (flat_mem xs k hlt s' (by rw [← HS.out]; simp [hs']))) G6.out hj ((hBe.trans hK1.1).trans hk2.1) ((hk2.2 hg1).1) (by have := hk2.1.size; have := hK1.1.size; omega) (by simp; omega)).mono ?_
        have htk := flat_take_succ xs k hlt
        have h3 : xs[k] = s := by rw [HS.out]; simp [rd_T55, List.getD, hlt]
        rw [h3] at htk
        have hx1 : x.1.1 = s := by rw [HX1.out]
        rintro e W3 (⟨rfl, e6, he6, hj6, hk6⟩ | ⟨rfl, e6, q, he6, hj6⟩)
        · obtain ⟨hb3, hr3⟩ := hk6.keep ((hk2.2 hg1).1) (by omega) hb2 hr2
          exact .inl ⟨rfl, by rw [cell_at_block hb3]; rfl, h7c W3 _ rfl e6 he6 (by simpa [List.append_assoc] using hj6) (hk2.trans hk6)⟩
        · refine .inr ⟨rfl, (es ++ [x]) ++ e6, q ++ (flat s.f7 ++ flat (xs.drop (k + 1))), ?_, by simpa [List.append_assoc] using hj6⟩
          rw [show flat xs = flat (xs.take (k + 1)) ++ flat (xs.drop (k + 1)) from by rw [← flat_append, List.take_append_drop], htk, ← he6]
          simp [hes.out, hx1]
      have hy2 := YieldAt.mono (R' := fun e W2 =>
          (e = .returned (.bool true) ∧ W2.cell? ⟨wr.heap.size, 6, none⟩ = some (.slice A6 s.f6.length c6) ∧ Hid (CallsIn Fence.wide (n - 1) Try.prog 35 #[.slice A6 s.f6.length c6, .func (.yield l) #[] #[]] W2 fun e W3 =>
          (e = .returned (.bool true) ∧ W3.cell? ⟨wr.heap.size, 7, none⟩ = some (.slice A7 s.f7.length c7) ∧ Hid (CallsIn Fence.wide (n - 1) Try.prog 35 #[.slice A7 s.f7.length c7, .func (.yield l) #[] #[]] W3 fun e W4 =>
            (e = .returned (.bool true) ∧ Hid (∃ es : List (Elt w P T), es.map (·.1.1) = flat (xs.take (k + 1)) ∧ J (pre ++ es) W4 ∧ Kp w.heap.size B bx W W4)) ∨
            (e = .returned (.bool false) ∧ Hid (∃ (es : List (Elt w P T)) (q : List S55), es.map (·.1.1) ++ q = flat xs ∧ Jx (pre ++ es) W4)))) ∨
          (e = .returned (.bool false) ∧ Hid (∃ (es : List (Elt w P T)) (q : List S55), es.map (·.1.1) ++ q = flat xs ∧ Jx (pre ++ es) W3)))) ∨
          (e = .returned (.bool false) ∧ Hid (∃ (es : List (Elt w P T)) (q : List S55), es.map (·.1.1) ++ q = flat xs ∧ Jx (pre ++ es) W2))) hy (fun e W2 h => by
        have htk := flat_take_succ xs k hlt
        have h3 : xs[k] = s := by rw [HS.out]; simp [rd_T55, List.getD, hlt]
        rw [h3] at htk
        have hx1 : x.1.1 = s := by rw [HX1.out]
        rcases h with ⟨rfl, hj, hk2⟩ | ⟨rfl, hj⟩
        · obtain ⟨hb2, hr2⟩ := hk2.keep hg1 (by omega) hblk hn1
          exact .inl ⟨rfl, by rw [cell_at_block hb2]; rfl, h6c W2 hj hk2⟩
        · refine .inr ⟨rfl, es ++ [x], (flat s.f6 ++ flat s.f7) ++ flat (xs.drop (k + 1)), ?_, by simpa [List.append_assoc] using hj⟩
          rw [show flat xs = flat (xs.take (k + 1)) ++ flat (xs.drop (k + 1)) from by rw [← flat_append, List.take_append_drop], htk]
          simp [hes.out, hx1])
      have h29 : Fence.wide.fn 35 := trivial
      subst hW1
      clear hy h6c h7c hblk hg1 hK1 hn1 hbw hg0
      obtain ⟨fn, tmps, assign, body, hy, hR⟩ := hy2
      gi_wp2_with (first
        | ((try refine ⟨hdd _, ?_⟩); refine hR.mono ?_; clear hR; rintro e W2 (⟨rfl, hc6, hcall6⟩ | ⟨rfl, hx2⟩))
        | ((try refine ⟨hdd _, ?_⟩); gi_at_call 35; refine hcall6.out.mono ?_; clear hcall6; rintro e W3 (⟨rfl, hc7, hcall7⟩ | ⟨rfl, hx3⟩))
        | ((try refine ⟨hdd _, ?_⟩); gi_at_call 35; refine hcall7.out.mono ?_; clear hcall7; rintro e W4 (⟨rfl, hd4⟩ | ⟨rfl, hx4⟩)))
      · go_roundw
        case rel =>
          obtain ⟨es', he', hj', hk'⟩ := hd4.out
          exact ⟨k + 1, es', by omega, by go_num, he', hj', hk'⟩
        case measure => simp [intOf]; omega
      · go_ret
        exact .inr ⟨rfl, hx4.out⟩
      · go_ret
        exact .inr ⟨rfl, hx3.out⟩
      · go_ret
        exact .inr ⟨rfl, hx2.out⟩
    · have hke : k = xs.length := by omega
      gi_wp2
      go_ret
      refine .inl ⟨rfl, es, ?_, hJk.out, hKp.out⟩
      rw [hes.out, hke, List.take_length]
end Go.Proofs.Ytdbngbmokgeeiaa.Man

namespace Go.Proofs.Ytdbngbmokgeeiaa.Man
open Go.RowKit Go.Proofs.Ytdbngbmokgeeiaa.Pr Go.Proofs.YtdbngbmokgeeiaaW.PrintWords
set_option maxRecDepth 100000
set_option linter.unusedVariables false
set_option linter.unusedSimpArgs false
def Fit (l : List S55) (n : Nat) : Prop := (flat l).length ≤ n ∧ ∀ s ∈ flat l, s.f4.length ≤ n ∧ s.f5.length ≤ n ∧ s.f6.length ≤ n ∧ s.f7.length ≤ n
theorem Fit.mono {l : List S55} {n m : Nat} (h : Fit l n) (hm : n ≤ m) : Fit l m :=
  ⟨Nat.le_trans h.1 hm, fun s hs => by have := h.2 s hs; omega⟩
theorem flat_cons (s : S55) (r : List S55) : flat (s :: r) = s :: (flat s.f6 ++ (flat s.f7 ++ flat r)) := by rw [flat]
theorem Fit.cons {s : S55} {r : List S55} {n m : Nat} (h : Fit [s] n) (hr : Fit r m) : Fit (s :: r) (n + m) := by
  have e : flat (s :: r) = flat [s] ++ flat r := by rw [flat_cons, flat_cons]; simp [flat]
  unfold Fit
  rw [e]
  refine ⟨by rw [List.length_append]; have := h.1; have := hr.1; omega, fun x hx => ?_⟩
  rcases List.mem_append.1 hx with hx | hx
  · have := h.2 x hx; omega
  · have := hr.2 x hx; omega
theorem fit_list (l : List S55) {H : Type} (Ds : List (DataW H)) (hl : l.length = Ds.length) (h : ∀ (i : Nat) x D', l[i]? = some x → Ds[i]? = some D' → Fit [x] (Rows.uptoBulk D')) : Fit l (Rows.uptoBulkAll Ds) := by
  induction l generalizing Ds with
  | nil => exact ⟨by simp [flat], fun s hs => by simp [flat] at hs⟩
  | cons x r ih =>
    cases Ds with
    | nil => simp at hl
    | cons D Ds => exact Fit.cons (h 0 x D rfl rfl) (ih Ds (by simpa using hl) (fun i y D' h1 h2 => h (i + 1) y D' (by simpa using h1) (by simpa using h2)))
end Go.Proofs.Ytdbngbmokgeeiaa.Man
namespace Go.Proofs.Ytdbngbmokgeeiaa.Man
open Go.RowKit Go.Proofs.Ytdbngbmokgeeiaa.Pr Go.Proofs.YtdbngbmokgeeiaaW.PrintWords
set_option maxRecDepth 100000
set_option linter.unusedVariables false
set_option linter.unusedSimpArgs false
theorem cellsT_int : Try.prog.cellsOf 3 = 1 := by kernel_rfl
theorem cellsT_string : Try.prog.cellsOf 9 = 1 := by kernel_rfl
theorem cellsT_operand : Try.prog.cellsOf 114 = 3 := by kernel_rfl
theorem cellsT_operands : Try.prog.cellsOf 53 = 1 := by kernel_rfl
theorem cellsT_strings : Try.prog.cellsOf 39 = 1 := by kernel_rfl
theorem cellsT_stmts : Try.prog.cellsOf 40 = 1 := by kernel_rfl
theorem cellsT_stmt : Try.prog.cellsOf 55 = 8 := by kernel_rfl
theorem bridge_operand {H : Type} {enc : TypeId × Value → H} {w : World} {held : Bool} {sp : Nat → Bool} (fuel : Nat) (cs : List Value) (D : DataW H) (ps : List MemPlace)
    (h : DataW.trod enc Try.prog w 0 sp held fuel 114 cs = some (D, ps)) : ∃ x, k114.K w x cs ∧ 0 ≤ Rows.uptoBulk D := by
  cases fuel with
  | zero => cases h
  | succ fuel =>
  obtain ⟨hl, Ds, hb, hn, hf⟩ := bridge_struct Try.underlying114 fuel cs D ps h
  rw [cellsT_operand] at hl
  obtain ⟨a, b, c, rfl⟩ : ∃ a b c, cs = [a, b, c] := by
    match cs, hl with
    | [a, b, c], _ => exact ⟨a, b, c, rfl⟩
  obtain ⟨D0, p0, g0, t0⟩ := hf 0 _ rfl
  obtain ⟨D1, p1, g1, t1⟩ := hf 1 _ rfl
  obtain ⟨D2, p2, g2, t2⟩ := hf 2 _ rfl
  simp only [List.getElem_toArray, List.getElem_cons_zero, List.getElem_cons_succ, cellsT_int, cellsT_string, List.drop_zero, List.drop_succ_cons, List.take_succ_cons, List.take_zero] at t0 t1 t2
  obtain ⟨n0, e0⟩ := bridge_int Try.underlying3 _ _ _ _ t0
  obtain ⟨n1, e1⟩ := bridge_int Try.underlying3 _ _ _ _ t1
  obtain ⟨s2, e2, _⟩ := bridge_string Try.underlying9 _ _ _ _ t2
  cases e0; cases e1; cases e2
  exact ⟨⟨n0, n1, s2⟩, k114_mk w ⟨n0, n1, s2⟩, Nat.zero_le _⟩
theorem bridge_str1 {H : Type} {enc : TypeId × Value → H} {w : World} {held : Bool} {sp : Nat → Bool} (fuel : Nat) (cs : List Value) (D : DataW H) (ps : List MemPlace)
    (h : DataW.trod enc Try.prog w 0 sp held fuel 9 cs = some (D, ps)) : ∃ x, Kd.string.K w x cs ∧ 0 ≤ Rows.uptoBulk D := by
  obtain ⟨s, rfl, _⟩ := bridge_string Try.underlying9 _ _ _ _ h
  exact ⟨s, rfl, Nat.zero_le _⟩
theorem bridge_stmt {H : Type} {enc : TypeId × Value → H} {w : World} {held : Bool} {sp : Nat → Bool} (fuel : Nat) : ∀ (cs : List Value) (D : DataW H) (ps : List MemPlace)
    (h : DataW.trod enc Try.prog w 0 sp held fuel 55 cs = some (D, ps)), ∃ x, k55.K w x cs ∧ Fit [x] (Rows.uptoBulk D) := by
  induction fuel using Nat.strongRecOn with
  | _ fuel ih =>
  intro cs D ps h
  cases fuel with
  | zero => cases h
  | succ fuel =>
  obtain ⟨hl, Ds, hb, hn, hf⟩ := bridge_struct Try.underlying55 fuel cs D ps h
  rw [cellsT_stmt] at hl
  obtain ⟨a, b, c, d, e, f, g, i, rfl⟩ : ∃ a b c d e f g i, cs = [a, b, c, d, e, f, g, i] := by
    match cs, hl with
    | [a, b, c, d, e, f, g, i], _ => exact ⟨a, b, c, d, e, f, g, i, rfl⟩
  obtain ⟨D0, p0, g0, t0⟩ := hf 0 _ rfl
  obtain ⟨D1, p1, g1, t1⟩ := hf 1 _ rfl
  obtain ⟨D2, p2, g2, t2⟩ := hf 2 _ rfl
  obtain ⟨D3, p3, g3, t3⟩ := hf 3 _ rfl
  obtain ⟨D4, p4, g4, t4⟩ := hf 4 _ rfl
  obtain ⟨D5, p5, g5, t5⟩ := hf 5 _ rfl
  obtain ⟨D6, p6, g6, t6⟩ := hf 6 _ rfl
  obtain ⟨D7, p7, g7, t7⟩ := hf 7 _ rfl
  simp only [List.getElem_toArray, List.getElem_cons_zero, List.getElem_cons_succ, cellsT_int, cellsT_string, cellsT_operands, cellsT_strings, cellsT_stmts, List.drop_zero, List.drop_succ_cons, List.take_succ_cons, List.take_zero] at t0 t1 t2 t3 t4 t5 t6 t7
  cases fuel with
  | zero => cases t0
  | succ fuel =>
  obtain ⟨n0, e0⟩ := bridge_int Try.underlying3 _ _ _ _ t0
  obtain ⟨s1, e1, _⟩ := bridge_string Try.underlying9 _ _ _ _ t1
  obtain ⟨s2, e2, _⟩ := bridge_string Try.underlying9 _ _ _ _ t2
  obtain ⟨s3, e3, _⟩ := bridge_string Try.underlying9 _ _ _ _ t3
  obtain ⟨A4, c4, l4, D4s, e4, m4, q4, b4, n4, _⟩ := bridge_slice Try.underlying53 k114 z114 cellsT_operand (fun _ _ => True) fuel (fun cs D ps h => by obtain ⟨x, hx, _⟩ := bridge_operand fuel cs D ps h; exact ⟨x, hx, trivial⟩) _ _ _ t4
  obtain ⟨A5, c5, l5, D5s, e5, m5, q5, b5, n5, _⟩ := bridge_slice Try.underlying39 Kd.string (⟨#[]⟩ : ByteArray) cellsT_string (fun _ _ => True) fuel (fun cs D ps h => by obtain ⟨x, hx, _⟩ := bridge_str1 fuel cs D ps h; exact ⟨x, hx, trivial⟩) _ _ _ t5
  obtain ⟨A6, c6, l6, D6s, e6, m6, q6, b6, n6, f6⟩ := bridge_slice Try.underlying40 k55 z55 cellsT_stmt (fun x n => Fit [x] n) fuel (fun cs D ps h => ih fuel (by omega) cs D ps h) _ _ _ t6
  obtain ⟨A7, c7, l7, D7s, e7, m7, q7, b7, n7, f7⟩ := bridge_slice Try.underlying40 k55 z55 cellsT_stmt (fun x n => Fit [x] n) fuel (fun cs D ps h => ih fuel (by omega) cs D ps h) _ _ _ t7
  cases e0; cases e1; cases e2; cases e3; cases e4; cases e5; cases e6; cases e7
  have F6 := fit_list l6 D6s n6 f6
  have F7 := fit_list l7 D7s n7 f7
  refine ⟨⟨n0, s1, s2, s3, l4, l5, l6, l7⟩, k55_mk w ⟨n0, s1, s2, s3, l4, l5, l6, l7⟩ m4 q4 m5 q5 m6 q6 m7 q7, ?_⟩
  have B4 := bulk_len D4s
  have B5 := bulk_len D5s
  have B6 := bulk_len D6s
  have B7 := bulk_len D7s
  have hsum : Rows.uptoBulk D4 + Rows.uptoBulk D5 + Rows.uptoBulk D6 + Rows.uptoBulk D7 + 1 ≤ Rows.uptoBulk D := by
    rw [hb]
    obtain ⟨x0, x1, x2, x3, x4, x5, x6, x7, rfl⟩ : ∃ x0 x1 x2 x3 x4 x5 x6 x7, Ds = [x0, x1, x2, x3, x4, x5, x6, x7] := by
      match Ds, hn with
      | [x0, x1, x2, x3, x4, x5, x6, x7], _ => exact ⟨x0, x1, x2, x3, x4, x5, x6, x7, rfl⟩
    cases g4; cases g5; cases g6; cases g7
    simp only [Rows.uptoBulkAll]; omega
  unfold Fit
  rw [flat_cons]
  simp only [flat, List.append_nil, List.length_cons, List.length_append, List.mem_cons, List.mem_append]
  refine ⟨by have := F6.1; have := F7.1; omega, fun x hx => ?_⟩
  rcases hx with rfl | hx | hx
  · simp only; omega
  · have := F6.2 x hx; omega
  · have := F7.2 x hx; omega
end Go.Proofs.Ytdbngbmokgeeiaa.Man

namespace Go.Proofs.Ytdbngbmokgeeiaa.Man
open Go.RowKit Go.Proofs.Ytdbngbmokgeeiaa.Pr Go.Proofs.YtdbngbmokgeeiaaW.PrintWords
set_option maxRecDepth 100000
set_option linter.unusedVariables false
set_option linter.unusedSimpArgs false
theorem cellsT_func : Try.prog.cellsOf 42 = 3 := by kernel_rfl
theorem cellsT_funcs : Try.prog.cellsOf 22 = 1 := by kernel_rfl
theorem cellsT_prog : Try.prog.cellsOf 24 = 1 := by kernel_rfl
def FitF (f : S42) (n : Nat) : Prop := f.f1.length ≤ n ∧ Fit f.f2 n
def FitP (l : List S42) (n : Nat) : Prop := l.length ≤ n ∧ ∀ f ∈ l, FitF f n
theorem FitF.mono {f : S42} {n m : Nat} (h : FitF f n) (hm : n ≤ m) : FitF f m := ⟨by have := h.1; omega, h.2.mono hm⟩
theorem FitP.mono {l : List S42} {n m : Nat} (h : FitP l n) (hm : n ≤ m) : FitP l m := ⟨by have := h.1; omega, fun f hf => (h.2 f hf).mono hm⟩
theorem bridge_func {H : Type} {enc : TypeId × Value → H} {w : World} {held : Bool} {sp : Nat → Bool} (fuel : Nat) (cs : List Value) (D : DataW H) (ps : List MemPlace)
    (h : DataW.trod enc Try.prog w 0 sp held fuel 42 cs = some (D, ps)) : ∃ x, k42.K w x cs ∧ FitF x (Rows.uptoBulk D) := by
  cases fuel with
  | zero => cases h
  | succ fuel =>
  obtain ⟨hl, Ds, hb, hn, hf⟩ := bridge_struct Try.underlying42 fuel cs D ps h
  rw [cellsT_func] at hl
  obtain ⟨a, b, c, rfl⟩ : ∃ a b c, cs = [a, b, c] := by
    match cs, hl with
    | [a, b, c], _ => exact ⟨a, b, c, rfl⟩
  obtain ⟨D0, p0, g0, t0⟩ := hf 0 _ rfl
  obtain ⟨D1, p1, g1, t1⟩ := hf 1 _ rfl
  obtain ⟨D2, p2, g2, t2⟩ := hf 2 _ rfl
  simp only [List.getElem_toArray, List.getElem_cons_zero, List.getElem_cons_succ, cellsT_string, cellsT_strings, cellsT_stmts, List.drop_zero, List.drop_succ_cons, List.take_succ_cons, List.take_zero] at t0 t1 t2
  cases fuel with
  | zero => cases t0
  | succ fuel =>
  obtain ⟨s0, e0, _⟩ := bridge_string Try.underlying9 _ _ _ _ t0
  obtain ⟨A1, c1, l1, D1s, e1, m1, q1, b1, n1, _⟩ := bridge_slice Try.underlying39 Kd.string (⟨#[]⟩ : ByteArray) cellsT_string (fun _ _ => True) fuel (fun cs D ps h => by obtain ⟨x, hx, _⟩ := bridge_str1 fuel cs D ps h; exact ⟨x, hx, trivial⟩) _ _ _ t1
  obtain ⟨A2, c2, l2, D2s, e2, m2, q2, b2, n2, f2⟩ := bridge_slice Try.underlying40 k55 z55 cellsT_stmt (fun x n => Fit [x] n) fuel (fun cs D ps h => bridge_stmt fuel cs D ps h) _ _ _ t2
  cases e0; cases e1; cases e2
  have F2 := fit_list l2 D2s n2 f2
  have B1 := bulk_len D1s
  have B2 := bulk_len D2s
  have hsum : Rows.uptoBulk D1 + Rows.uptoBulk D2 + 1 ≤ Rows.uptoBulk D := by
    rw [hb]
    obtain ⟨x0, x1, x2, rfl⟩ : ∃ x0 x1 x2, Ds = [x0, x1, x2] := by
      match Ds, hn with
      | [x0, x1, x2], _ => exact ⟨x0, x1, x2, rfl⟩
    cases g1; cases g2
    simp only [Rows.uptoBulkAll]; omega
  exact ⟨⟨s0, l1, l2⟩, k42_mk w ⟨s0, l1, l2⟩ m1 q1 m2 q2, by simp only; omega, F2.mono (by omega)⟩
theorem bulk_get {H : Type} : ∀ (Ds : List (DataW H)) (i : Nat) (D : DataW H), Ds[i]? = some D → Rows.uptoBulk D ≤ Rows.uptoBulkAll Ds := by
  intro Ds
  induction Ds with
  | nil => intro i D h; simp at h
  | cons x r ih =>
    intro i D h
    cases i with
    | zero => simp at h; subst h; simp only [Rows.uptoBulkAll]; omega
    | succ i => have := ih i D (by simpa using h); simp only [Rows.uptoBulkAll]; omega
theorem bridge_funcs {H : Type} {enc : TypeId × Value → H} {w : World} {held : Bool} {sp : Nat → Bool} (fuel : Nat) (cs : List Value) (D : DataW H) (ps : List MemPlace)
    (h : DataW.trod enc Try.prog w 0 sp held fuel 22 cs = some (D, ps)) : ∃ A c l, cs = [.slice A l.length c] ∧ l.length ≤ c ∧ Kd.C k42 w A l.length l ∧ FitP l (Rows.uptoBulk D) := by
  cases fuel with
  | zero => cases h
  | succ fuel =>
  obtain ⟨A, c, l, Ds, e, m, q, hb, hn, hf⟩ := bridge_slice Try.underlying22 k42 z42 cellsT_func (fun x n => FitF x n) fuel (fun cs D ps h => bridge_func fuel cs D ps h) _ _ _ h
  have B := bulk_len Ds
  refine ⟨A, c, l, e, m, q, by omega, fun f hfm => ?_⟩
  obtain ⟨i, hi, rfl⟩ := List.getElem_of_mem hfm
  have hD : Ds[i]? = some (Ds[i]'(by omega)) := List.getElem?_eq_getElem (by omega)
  have h1 := hf i _ _ (List.getElem?_eq_getElem hi) hD
  have h2 := bulk_get Ds i _ hD
  exact h1.mono (by omega)
theorem bridge_prog {H : Type} {enc : TypeId × Value → H} {w : World} {held : Bool} {sp : Nat → Bool} (fuel : Nat) (v : Array Value) (D : DataW H) (ps : List MemPlace)
    (h : DataW.trod enc Try.prog w 0 sp held fuel 24 (Value.agg v).cells.toList = some (D, ps)) : ∃ A c l, v = #[.slice A l.length c] ∧ l.length ≤ c ∧ Kd.C k42 w A l.length l ∧ FitP l (Rows.uptoBulk D) := by
  cases fuel with
  | zero => cases h
  | succ fuel =>
  obtain ⟨hl, Ds, hb, hn, hf⟩ := bridge_struct Try.underlying24 fuel _ D ps h
  rw [cellsT_prog] at hl
  obtain ⟨v0, hv⟩ : ∃ a, v = #[a] := by
    have hl' : v.size = 1 := by simpa [Value.cells] using hl
    obtain ⟨l⟩ := v
    match l, hl' with
    | [a], _ => exact ⟨a, rfl⟩
  subst hv
  obtain ⟨D0, p0, g0, t0⟩ := hf 0 _ rfl
  simp only [Value.cells, List.getElem_toArray, List.getElem_cons_zero, cellsT_funcs, List.drop_zero, List.take_succ_cons, List.take_zero] at t0
  obtain ⟨A, c, l, e, m, q, hB⟩ := bridge_funcs fuel _ _ _ t0
  have hsum : Rows.uptoBulk D0 ≤ Rows.uptoBulk D := by have := bulk_get Ds 0 D0 g0; omega
  obtain rfl : v0 = .slice A l.length c := by simpa using e
  exact ⟨A, c, l, rfl, m, q, hB.mono hsum⟩
theorem len_flat (l : List S55) : l.length ≤ (flat l).length := by
  induction l with
  | nil => simp
  | cons s r ih => rw [flat_cons]; simp; omega
end Go.Proofs.Ytdbngbmokgeeiaa.Man

/-
  DERIVED: THE SHELF's CONTRACTS AT THIS DUMP, IN PLAIN WORDS (tools/lay-plain.mjs out of 'TryShelf.lean', which tools/lay-shelf.mjs wrote): THE SAME DECLARATIONS UNDER THE SAME NAMES: 'import', 'namespace', 'open', 'def', 'theorem' AND NOTHING ELSE: no command of the shelf's: FOR A HAND-IN. Each laying: the table of numbers ('.._ren') and one theorem, a field a fact of the dump's own or the kernel's comparison; each contract: ONE APPLICATION.
-/
namespace Go.Proofs
open Go.Shelf
def Try.lays189_ren : Go.Shelf.Ren := ⟨fun | 189 => 28 | 125 => 39 | 257 => 38 | 128 => 61 | 129 => 62 | 294 => 52 | 295 => 53 | 296 => 54 | 297 => 55 | 298 => 56 | 299 => 57 | 216 => 58 | 300 => 59 | 301 => 60 | 328 => 67 | 329 => 68 | 330 => 69 | 331 => 70 | 332 => 71 | 215 => 72 | 343 => 77 | n => n, fun | 28 => 32 | 3 => 3 | 46 => 72 | 0 => 0 | 51 => 97 | 53 => 99 | 4 => 4 | 183 => 89 | 182 => 88 | 131 => 94 | 5 => 5 | 9 => 9 | 218 => 104 | 222 => 108 | 228 => 118 | 229 => 119 | n => n, fun | n => n⟩
theorem Try.lays189 : Go.Proofs.Lays.n189 Try.prog Try.lays189_ren := {
  mixed := by kernel_rfl
  f125 := Try.func39.trans (congrArg some (by kernel_rfl))
  f128 := Try.func61.trans (congrArg some (by kernel_rfl))
  f129 := Try.func62.trans (congrArg some (by kernel_rfl))
  f189 := Try.func28.trans (congrArg some (by kernel_rfl))
  f215 := Try.func72.trans (congrArg some (by kernel_rfl))
  f216 := Try.func58.trans (congrArg some (by kernel_rfl))
  f257 := Try.func38.trans (congrArg some (by kernel_rfl))
  f294 := Try.func52.trans (congrArg some (by kernel_rfl))
  f295 := Try.func53.trans (congrArg some (by kernel_rfl))
  f296 := Try.func54.trans (congrArg some (by kernel_rfl))
  f297 := Try.func55.trans (congrArg some (by kernel_rfl))
  f298 := Try.func56.trans (congrArg some (by kernel_rfl))
  f299 := Try.func57.trans (congrArg some (by kernel_rfl))
  f300 := Try.func59.trans (congrArg some (by kernel_rfl))
  f301 := Try.func60.trans (congrArg some (by kernel_rfl))
  f328 := Try.func67.trans (congrArg some (by kernel_rfl))
  f329 := Try.func68.trans (congrArg some (by kernel_rfl))
  f330 := Try.func69.trans (congrArg some (by kernel_rfl))
  f331 := Try.func70.trans (congrArg some (by kernel_rfl))
  f332 := Try.func71.trans (congrArg some (by kernel_rfl))
  f343 := Try.func77.trans (congrArg some (by kernel_rfl))
  t0 := Try.underlying0
  a0 := Try.isAgg0
  z0 := Try.sizeOf0
  v0 := Try.zeroValue0
  t3 := Try.underlying3
  a3 := Try.isAgg3
  z3 := Try.sizeOf3
  v3 := Try.zeroValue3
  t4 := Try.underlying4
  a4 := Try.isAgg4
  z4 := Try.sizeOf4
  v4 := Try.zeroValue4
  t5 := Try.underlying5
  a5 := Try.isAgg5
  z5 := Try.sizeOf5
  v5 := Try.zeroValue5
  t9 := Try.underlying9
  a9 := Try.isAgg9
  z9 := Try.sizeOf9
  v9 := Try.zeroValue9
  t28 := Try.underlying32
  a28 := Try.isAgg32
  z28 := Try.sizeOf32
  v28 := Try.zeroValue32
  t46 := Try.underlying72
  a46 := Try.isAgg72
  z46 := Try.sizeOf72
  v46 := Try.zeroValue72
  t51 := Try.underlying97
  a51 := Try.isAgg97
  z51 := Try.sizeOf97
  v51 := Try.zeroValue97
  t53 := Try.underlying99
  a53 := Try.isAgg99
  z53 := Try.sizeOf99
  v53 := Try.zeroValue99
  t131 := Try.underlying94
  a131 := Try.isAgg94
  z131 := Try.sizeOf94
  v131 := Try.zeroValue94
  t182 := Try.underlying88
  a182 := Try.isAgg88
  z182 := Try.sizeOf88
  v182 := Try.zeroValue88
  t183 := Try.underlying89
  a183 := Try.isAgg89
  z183 := Try.sizeOf89
  v183 := Try.zeroValue89
  t218 := Try.underlying104
  a218 := Try.isAgg104
  z218 := Try.sizeOf104
  v218 := Try.zeroValue104
  t222 := Try.underlying108
  a222 := Try.isAgg108
  z222 := Try.sizeOf108
  v222 := Try.zeroValue108
  t228 := Try.underlying118
  a228 := Try.isAgg118
  z228 := Try.sizeOf118
  v228 := Try.zeroValue118
  t229 := Try.underlying119
  a229 := Try.isAgg119
  z229 := Try.sizeOf119
  v229 := Try.zeroValue119 }
open Go.Sort Go.RowKit in
theorem Try.slices_Sort_int (blk off cap : Nat) (zs : List Int) (w : World) (hH : Holds (Value.int .i64) w blk off zs.toArray) (hblk : blk < w.heap.size) (hsz : zs.length < 4611686018427387904) :
    Calls Try.prog 28 #[.slice (some ⟨blk, off, none⟩) zs.length cap] w fun e w' =>
      e = .returned (.tuple #[]) ∧ ∃ n os, w' = grow (putRow (Value.int .i64) (Sort.ahead w n) blk off (zs.mergeSort fun x y => decide (x ≤ y)).toArray) os := Any.slices_Sort_int Try.lays189 blk off cap zs w hH hblk hsz
def Try.laysNm220_ren : Go.Shelf.Ren := ⟨fun | 20 => 29 | n => n, fun | 22 => 32 | 3 => 3 | 4 => 4 | 0 => 0 | n => n, fun | n => n⟩
theorem Try.laysNm220 : Go.Proofs.Lays2.n20 Try.prog Try.laysNm220_ren := {
  mixed := by kernel_rfl
  f20 := Try.func29.trans (congrArg some (by kernel_rfl))
  t0 := Try.underlying0
  a0 := Try.isAgg0
  z0 := Try.sizeOf0
  v0 := Try.zeroValue0
  t3 := Try.underlying3
  a3 := Try.isAgg3
  z3 := Try.sizeOf3
  v3 := Try.zeroValue3
  t4 := Try.underlying4
  a4 := Try.isAgg4
  z4 := Try.sizeOf4
  v4 := Try.zeroValue4
  t22 := Try.underlying32
  a22 := Try.isAgg32
  z22 := Try.sizeOf32
  v22 := Try.zeroValue32
  i3 := by kernel_rfl }
open Go.RowKit Go.Lib Go.Sort in
theorem Try.slices_Compact_int (blk off cap : Nat) (zs : List Int) (w : World) (hH : Holds (Value.int .i64) w blk off zs.toArray) (hsz : zs.length ≤ 9223372036854775807) (hcap : zs.length ≤ cap) :
    Calls Try.prog 29 #[.slice (some ⟨blk, off, none⟩) zs.length cap] w fun e w' => e = .returned (.slice (some ⟨blk, off, none⟩) (Lib.compact zs).length cap) ∧ ∃ q, w' = putRow (Value.int .i64) (Sort.ahead w q) blk off (Lib.compact zs ++ List.replicate (zs.length - (Lib.compact zs).length) 0).toArray := Any.slices_Compact_int Try.laysNm220 blk off cap zs w hH hsz hcap
open Go.RowKit Go.Lib Go.Sort in
theorem Try.slices_Compact_int_empty (a : Option Addr) (cap : Nat) (w : World) :
    Calls Try.prog 29 #[.slice a 0 cap] w fun e w' => e = .returned (.slice a 0 cap) ∧ w' = w := Any.slices_Compact_int_empty Try.laysNm220 a cap w
open Go.RowKit Go.Sort in
theorem Try.slices_Sort_int_none (p : Option Addr) (cap : Nat) (w : World) :
    Calls Try.prog 28 #[.slice p 0 cap] w fun e w' => e = .returned (.tuple #[]) ∧ w' = w := Any.slices_Sort_int_none Try.lays189 p cap w
end Go.Proofs

namespace Go.Proofs.Ytdbngbmokgeeiaa.Man
open Go.RowKit Go.Shelf Go.Proofs.Ytdbngbmokgeeiaa.Pr Go.Proofs.YtdbngbmokgeeiaaW.PrintWords
attribute [local go_sem] Oper.semAt_some
set_option linter.unusedVariables false
set_option linter.unusedSimpArgs false
theorem room_of_none {F : Fence} (hd : F.depth = none) (k : Nat) : F.room k := fun d h => by rw [hd] at h; cases h
theorem roundIn_anyDepth {F : Fence} (hd : F.depth = none) {m m' : Nat} {P : Program} {l : Nat} {f : FuncId} {tmps : Array Value} {assign body : Code} {w : World} {R : Ending → World → Prop}
    (h : RoundIn F m P l f tmps assign body w R) : RoundIn F m' P l f tmps assign body w R := ⟨h.1, fun c cs _ => h.2 c cs (room_of_none hd _)⟩
theorem yieldAt_anyDepth {F : Fence} (hd : F.depth = none) {m : Nat} (m' : Nat) {P : Program} {l : Nat} {args : Array Value} {W : World} {R : Ending → World → Prop} (h : YieldAt F m P l args W R) : YieldAt F m' P l args W R := by
  obtain ⟨fn, tmps, assign, body, hy, hR⟩ := h
  exact ⟨fn, tmps, assign, body, hy, roundIn_anyDepth hd hR⟩
set_option maxHeartbeats 1000000 in
theorem all1_in (w : World) (P : Nat → Prop) (T : S55 → Prop) (n l : Nat) (B : Nat) (bx : Option Nat) (hn : w.heap.size ≤ B) (hb : ∀ b, bx = some b → b < B) (J Jx : List (Elt w P T) → World → Prop) (xs : List S55) (A : Option Addr) (c : Nat) (hlc : xs.length ≤ c) (hT : ∀ s, s ∈ flat xs → T s) (hC : Kd.F k55 w P A xs.length xs)
    (hY : ∀ pre x W, J pre W → pre.length < (flat xs).length → YieldAt Fence.wide (n - 1) Try.prog l (encE x) W fun e W' =>
      (e = .returned (.bool true) ∧ J (pre ++ [x]) W' ∧ Kp w.heap.size B bx W W') ∨ (e = .returned (.bool false) ∧ Jx (pre ++ [x]) W'))
    (hJ : ∀ pre W W', J pre W → W.grownBy W' none → J pre W') (W : World) (hJ0 : J [] W) (hBe : Below w.heap.size w W) (hG : Good bx W) (hBW : B ≤ W.heap.size) (Bt : Nat) (hBt : W.cell? ⟨Bt, 0, none⟩ = some (.slice A xs.length c)) :
    CallsIn Fence.wide n Try.prog 34 #[.func (.yield l) #[] #[], .pointer (some ⟨Bt, 0, none⟩)] W fun e W' => (∃ v, e = .returned v) ∧
      ((∃ es : List (Elt w P T), es.map (·.1.1) = flat xs ∧ J es W') ∨ (∃ es : List (Elt w P T), (∃ q, es.map (·.1.1) ++ q = flat xs) ∧ Jx es W')) := by
  have hdd : ∀ k : Nat, (Fence.wide.depth.isSome = true → 1 ≤ k) := fun k h => by simp [Fence.wide] at h
  have hp := all_in w P T l B (flat xs).length bx hn hb J Jx (fun m pre x W hj hl => yieldAt_anyDepth rfl m (hY pre x W hj hl)) hJ _ xs (Nat.lt_succ_self _) (n - 1) A c [] W hlc hT hC hJ0 hBe hG hBW (by simp)
  have h29 : Fence.wide.fn 35 := trivial
  clear hY hJ hC hT
  refine callsIn_of_wp Try.func34 rfl trivial ?_ rfl
  simp only [Try.ntmps34, List.size_toArray, List.length_cons, List.length_nil, Nat.reduceAdd, Nat.reduceSub, Array.replicate_succ, Array.replicate_zero, List.push_toArray, List.append_toArray, List.nil_append, List.cons_append]
  gi_wp2_with ((try refine ⟨hdd _, ?_⟩); gi_at_call 35; refine hp.mono ?_; clear hp; rintro e W1 (⟨rfl, es, hes, hJ1, _⟩ | ⟨rfl, es, q, hq, hx⟩))
  · go_end0
    exact ⟨⟨_, rfl⟩, .inl ⟨es, hes, by simpa using hJ1⟩⟩
  · go_end0
    exact ⟨⟨_, rfl⟩, .inr ⟨es, ⟨q, hq⟩, by simpa using hx⟩⟩
theorem all_stops (w w1 : World) (P : Nat → Prop) (T : S55 → Prop) (n : Nat) (bx : Option Nat) (xs : List S55) (A : Option Addr) (c : Nat) (hlc : xs.length ≤ c) (hT : ∀ s, s ∈ flat xs → T s) (hC : Kd.F k55 w P A xs.length xs) (hBe : Below w.heap.size w w1) (Bt : Nat) (hlt : Bt < w1.heap.size)
    (hBt : w1.cell? ⟨Bt, 0, none⟩ = some (.slice A xs.length c)) (hb : ∀ b, bx = some b → b < w1.heap.size) (hG : Good bx w1) :
    SeqStopsK Fence.wide n Try.prog 34 #[.pointer (some ⟨Bt, 0, none⟩)] (encE (w := w) (P := P) (T := T)) (Kp w.heap.size w1.heap.size bx) (fun es => es.map (·.1.1) = flat xs) (fun es => ∃ q, es.map (·.1.1) ++ q = flat xs) (flat xs).length w1 := by
  intro l J Jx W hW hJ _ hY h0
  refine all1_in w P T n l w1.heap.size bx hBe.size hb J Jx xs A c hlc hT hC hY (fun pre X Y hj hg => hJ pre X Y none hj hg (fun r e => by cases e)) W h0 (hBe.trans (hW.mono hBe.size)) ?_ hW.size Bt ((hW.cell (p := ⟨Bt, 0, none⟩) hlt).trans hBt)
  intro k hk
  have hr : rowOf bx W = rowOf bx w1 := by
    unfold rowOf
    cases bx with
    | none => rfl
    | some b => simp only [Option.bind_some]; rw [hW.cell (p := ⟨b, 0, none⟩) (hb b rfl)]
  rw [hr] at hk
  exact Nat.lt_of_lt_of_le (hG k hk) hW.size
set_option maxHeartbeats 1000000 in
theorem mkAll_in (n : Nat) (v : Value) (hv : v.oneCell' = true) (w : World) :
    CallsIn Fence.wide n Try.prog 26 #[v] w fun e w' => e = .returned (.func (.func 34) #[] #[.pointer (some ⟨w.heap.size, 0, none⟩)]) ∧ w' = w.alloc (.cells #[v] 40) := by
  refine callsIn_of_wp Try.func26 rfl trivial ?_ rfl
  simp only [Try.ntmps26, List.size_toArray, List.length_cons, List.length_nil, Nat.reduceAdd, Nat.reduceSub, Array.replicate_succ, Array.replicate_zero, List.push_toArray, List.append_toArray, List.nil_append, List.cons_append]
  gi_wp2
  go_ret
  exact ⟨rfl, rfl⟩
end Go.Proofs.Ytdbngbmokgeeiaa.Man

namespace Go.Proofs.Ytdbngbmokgeeiaa.Man
open Go.RowKit Go.Shelf Go.Proofs.Ytdbngbmokgeeiaa.Pr Go.Proofs.YtdbngbmokgeeiaaW.PrintWords
attribute [local go_sem] Oper.semAt_some
set_option linter.unusedVariables false
set_option linter.unusedSimpArgs false
theorem Good.none (W : World) : Good none W := fun k h => by simp [rowOf] at h
end Go.Proofs.Ytdbngbmokgeeiaa.Man

namespace Go.Proofs.Ytdbngbmokgeeiaa.Man
open Go.RowKit Go.Shelf Go.Proofs.Ytdbngbmokgeeiaa.Pr Go.Proofs.YtdbngbmokgeeiaaW.PrintWords
attribute [local go_sem] Oper.semAt_some
set_option linter.unusedVariables false
set_option linter.unusedSimpArgs false
def leftOf (listed : Array Bool) : Nat := (listed.toList.filter (fun b => !b)).length
theorem left_set (l : List Bool) (i : Nat) (h : l[i]? = some false) : ((l.set i true).filter (fun b => !b)).length + 1 = (l.filter (fun b => !b)).length := by
  induction l generalizing i with
  | nil => simp at h
  | cons b r ih =>
    cases i with
    | zero => obtain rfl : b = false := by simpa using h
              simp
    | succ i =>
      have := ih i (by simpa using h)
      cases b <;> simp <;> omega
theorem ready_mem {md : Region.Mode} {ops : Array Oper} {listed : Array Bool} {i : Nat} (h : i ∈ Region.ready md ops listed) : listed.toList[i]? = some false := by
  unfold Region.ready at h
  have := (List.mem_filter.1 h).2
  simp only [Bool.and_eq_true, Bool.not_eq_true'] at this
  have h1 := this.1
  rw [Array.getD_eq_getD_getElem?] at h1
  rw [Array.getElem?_toList]
  cases hh : listed[i]? with
  | none => rw [hh] at h1; simp at h1
  | some b => rw [hh] at h1; simp at h1; rw [h1]
theorem wpAnyIn_inv {F : Fence} {n : Nat} {P : Program} {md : Region.Mode} {ops : Array Oper} {Q : Exit → Act → World → Prop} (I : Array Bool → Act → World → Prop)
    (hstep : ∀ listed a w i, I listed a w → i ∈ Region.ready md ops listed → wpOpIn F n P ops Q i (fun a w => I (listed.setIfInBounds i true) a w) a w)
    (hend : ∀ listed a w, I listed a w → Region.ready md ops listed = [] → Q .normal a w) :
    ∀ fuel listed a w, leftOf listed ≤ fuel → I listed a w → wpAnyIn F n P md ops Q fuel listed a w := by
  intro fuel
  induction fuel with
  | zero =>
    intro listed a w hf hi
    have hr : Region.ready md ops listed = [] := by
      cases hh : Region.ready md ops listed with
      | nil => rfl
      | cons i r =>
        have h1 := ready_mem (md := md) (ops := ops) (listed := listed) (i := i) (by rw [hh]; simp)
        have := left_set _ _ h1
        unfold leftOf at hf; omega
    exact ⟨hr, hend _ _ _ hi hr⟩
  | succ fuel ih =>
    intro listed a w hf hi
    refine ⟨fun hr => hend _ _ _ hi hr, fun i hi' => wpOpIn_mono (fun a' w' h => ih _ a' w' ?_ h) (hstep _ _ _ i hi hi')⟩
    have h1 := ready_mem hi'
    have := left_set _ _ h1
    unfold leftOf at hf ⊢
    simp only [Array.toList_setIfInBounds]
    omega
theorem rangeAll {w w1 : World} {P : Nat → Prop} {T : S55 → Prop} {g : Operand} {ps : Array Tmp} {assign body : Code} {Q : Exit → Act → World → Prop} {a : Act} {n : Nat} (hn : 1 ≤ n)
    (l : List S55) (A : Option Addr) (c : Nat) (hlc : l.length ≤ c) (hT : ∀ s, s ∈ flat l → T s) (hC : Kd.F k55 w P A l.length l) (hBe : Below w.heap.size w w1) (Bt : Nat) (hlt : Bt < w1.heap.size)
    (hBt : w1.cell? ⟨Bt, 0, none⟩ = some (.slice A l.length c)) (hg : a.eval g = .func (.func 34) #[] #[.pointer (some ⟨Bt, 0, none⟩)])
    (bx : Option Nat) (hb : ∀ b, bx = some b → b < w1.heap.size) (hG : Good bx w1) (hps : ps.size = 1)
    (I : List (Elt w P T) → World → Prop) (Ix : Code → List (Elt w P T) → World → Prop) (hI : OwnFrom w1.heap.size I) (hIx : ∀ c, OwnFrom w1.heap.size (Ix c)) (h0 : I [] w1) (Ax : Elt w P T → Act → World → Prop) (hAx : ∀ x a', OwnFrom w1.heap.size (fun (_ : Unit) W => Ax x a' W))
    (hassign : ∀ (l : Nat) (pre : List (Elt w P T)) (x : Elt w P T) (W : World) (K : Act → World → Prop), I pre W → (∀ a' W', KeepsFrom w1.heap.size W W' → Kp w.heap.size w1.heap.size bx W W' → I pre W' → Ax x a' W' → K a' W') →
      assign.wpIn (Fence.wide.inRound l) (n - 1 - 1) Try.prog (Exit.then K (fun _ _ _ => False)) { tmps := (ps.zip (encE x)).foldl (fun t (p, v) => t.setIfInBounds p v) a.tmps, defers := [] } W)
    (hbody : ∀ (l' : Nat) (pre : List (Elt w P T)) (x : Elt w P T) (a' : Act) (W : World), w1.heap.size ≤ l' → (∃ r, W.heap[l']? = some (.loop r)) → I pre W → Ax x a' W → pre.length < (flat l).length → body.wpIn (Fence.wide.inRound l') (n - 1 - 1) Try.prog (ownPostG w1.heap.size (Kp w.heap.size w1.heap.size bx) I Ix (pre ++ [x]) W) a' W)
    (hdone : ∀ (D : Nat) (es : List (Elt w P T)) (W : World), w1.heap.size ≤ D → es.map (·.1.1) = flat l → I es W → W.heap[D]? = some (.deferred (some [])) → Q .normal { a with defers := { target := .collected D, args := #[] } :: a.defers } W)
    (hstop : ∀ (D : Nat) (c : Code) (pre : List (Elt w P T)) (W : World), w1.heap.size ≤ D → (∃ q, pre.map (·.1.1) ++ q = flat l) → Ix c pre W → W.heap[D]? = some (.deferred (some [])) → c.wpIn Fence.wide n Try.prog Q { a with defers := { target := .collected D, args := #[] } :: a.defers } W) :
    (Code.rangeFunc g ps assign body).wpIn Fence.wide n Try.prog Q a w1 :=
  wpIn_rangeFunc_ownH (F := Fence.wide) rfl hn (gf := 34) (lb := #[.pointer (some ⟨Bt, 0, none⟩)]) hg trivial (enters_of Try.func34 (by kernel_rfl) rfl)
    (all_stops w w1 P T _ bx l A c hlc hT hC hBe Bt hlt hBt hb hG) (fun h k => Kp.trans h k) (Kp.putObj hBe.size hb) (Below.refl _ _) (fun _ => by simp [encE, hps])
    I Ix hI hIx h0 Ax hAx hassign hbody hdone hstop
end Go.Proofs.Ytdbngbmokgeeiaa.Man

namespace Go.Proofs.Ytdbngbmokgeeiaa.Man
open Go.RowKit Go.Shelf Go.Proofs.Ytdbngbmokgeeiaa.Pr Go.Proofs.YtdbngbmokgeeiaaW.PrintWords
set_option linter.unusedVariables false
set_option linter.unusedSimpArgs false
def srt (xs : List Int) : List Int := xs.mergeSort (fun x y => decide (x ≤ y))
theorem srt_len (xs : List Int) : (srt xs).length = xs.length := List.length_mergeSort _
theorem put_own {w : World} {base g n cap : Nat} {xs : List Value} (h : w.ownsRow base 3 1 (.slice (some ⟨g, 0, none⟩) n cap) n xs) (ys : List Int) (hl : ys.length = n) (q : Nat) (os : Array Obj) :
    (Go.Sort.grow (Go.Sort.putRow (Value.int .i64) (Go.Sort.ahead w q) g 0 ys.toArray) os).ownsRow base 3 1 (.slice (some ⟨g, 0, none⟩) n cap) n (ys.map (Value.int .i64)) ∧
    w.grownBy (Go.Sort.grow (Go.Sort.putRow (Value.int .i64) (Go.Sort.ahead w q) g 0 ys.toArray) os) (some g) := by
  obtain ⟨_, ⟨h1, _⟩ | ⟨g', cap', cur, hv, hb, hh, hn, hc, hs, ht⟩⟩ := h
  · simp at h1
  simp only [Value.slice.injEq, Option.some.injEq, Addr.mk.injEq, and_true, true_and] at hv
  obtain ⟨rfl, rfl⟩ := hv
  have hlt : g < w.heap.size := (Array.getElem?_eq_some_iff.1 hh).1
  have hat : (Go.Sort.putRow (Value.int .i64) (Go.Sort.ahead w q) g 0 ys.toArray).heap[g]? = some (.cells (Go.Sort.putCells (Value.int .i64) 0 ys.toArray cur) 3 (0, 0)) := by
    simp only [Go.Sort.putRow, Go.Sort.mapBlock, Go.Sort.ahead, Array.getElem?_modify, if_true, hh, Option.map_some, Go.Sort.onCells]
  refine ⟨⟨by simp [hl], .inr ⟨g, cap, Go.Sort.putCells (Value.int .i64) 0 ys.toArray cur, rfl, hb, ?_, hn, hc, by simpa [Go.Sort.putCells] using hs, ?_⟩⟩, rfl, rfl, rfl, by simp [Go.Sort.grow, Go.Sort.ahead], fun k hk hne => ?_⟩
  · rw [show (Go.Sort.grow (Go.Sort.putRow (Value.int .i64) (Go.Sort.ahead w q) g 0 ys.toArray) os).heap = (Go.Sort.putRow (Value.int .i64) (Go.Sort.ahead w q) g 0 ys.toArray).heap ++ os from rfl,
      Array.getElem?_append_left (by simpa [Go.Sort.ahead] using hlt)]
    exact hat
  · apply List.ext_getElem?
    intro j
    rw [List.getElem?_take]
    by_cases hj : j < n
    · rw [if_pos (by omega)]
      have hjc : j < cur.size := by omega
      simp only [Go.Sort.putCells, Array.getElem?_toList, Array.getElem?_mapIdx, List.getElem?_map]
      rw [Array.getElem?_eq_getElem hjc, Option.map_some, if_pos ⟨Nat.zero_le _, by simpa [hl] using hj⟩, Nat.sub_zero, List.getElem?_eq_getElem (by omega)]
      simp [hl, hj]
    · rw [if_neg (by omega)]
      symm
      simp only [List.getElem?_map, Option.map_eq_none_iff]
      exact List.getElem?_eq_none (by omega)
  · rw [show (Go.Sort.grow (Go.Sort.putRow (Value.int .i64) (Go.Sort.ahead w q) g 0 ys.toArray) os).heap = (Go.Sort.putRow (Value.int .i64) (Go.Sort.ahead w q) g 0 ys.toArray).heap ++ os from rfl,
      Array.getElem?_append_left (by simpa [Go.Sort.ahead] using hk)]
    simp only [Go.Sort.putRow, Go.Sort.mapBlock, Array.getElem?_modify]
    rw [if_neg (fun e => hne (by rw [e]))]
    rfl
theorem own_holds {w : World} {base g n cap : Nat} {xs : List Int} (h : w.ownsRow base 3 1 (.slice (some ⟨g, 0, none⟩) n cap) n (xs.map (Value.int .i64))) (hn : xs.length = n) : Go.Sort.Holds (Value.int .i64) w g 0 xs.toArray ∧ g < w.heap.size ∧ n ≤ cap := by
  obtain ⟨_, ⟨h1, _⟩ | ⟨g', cap', cur, hv, hb, hh, hnc, hc, hs, ht⟩⟩ := h
  · simp at h1
  simp only [Value.slice.injEq, Option.some.injEq, Addr.mk.injEq, and_true, true_and] at hv
  obtain ⟨rfl, rfl⟩ := hv
  refine ⟨fun j hj => ?_, (Array.getElem?_eq_some_iff.1 hh).1, hnc⟩
  have hj' : j < xs.length := by simpa using hj
  have e : cur.toList[j]? = some (Value.int .i64 xs[j]) := by
    have := congrArg (fun l => l[j]?) ht
    simp only [List.getElem?_take, List.getElem?_map] at this
    rw [if_pos (by omega), List.getElem?_eq_getElem hj'] at this
    simpa using this
  constructor
  · simp only [World.cell?, hh, Nat.zero_add]
    rw [Array.getElem?_toList] at e
    simp [e, hj']
  · simp [World.frozen?, hh]
theorem sort_own (xs : List Int) (v : Value) (base : Nat) (w : World) (h : w.ownsRow base 3 1 v xs.length (xs.map (Value.int .i64))) (hsz : xs.length < 4611686018427387904) :
    Calls Try.prog 28 #[v] w fun e w' => e = .returned (.tuple #[]) ∧ w'.ownsRow base 3 1 v xs.length ((srt xs).map (Value.int .i64)) ∧ w.grownBy w' v.ownBlock := by
  rcases h.2 with ⟨rfl, h0⟩ | ⟨g, cap, cur, rfl, _⟩
  · have hx : xs = [] := List.length_eq_zero_iff.1 h0
    subst hx
    refine (Try.slices_Sort_int_none none 0 w).mono ?_
    rintro e w' ⟨rfl, rfl⟩
    exact ⟨rfl, by simpa [srt] using World.ownsRow_nil _ _ _ _, ⟨rfl, rfl, rfl, Nat.le_refl _, fun _ _ _ => rfl⟩⟩
  · obtain ⟨hH, hlt, _⟩ := own_holds h rfl
    refine (Try.slices_Sort_int g 0 cap xs w hH hlt hsz).mono ?_
    rintro e w' ⟨rfl, q, os, rfl⟩
    exact ⟨rfl, put_own h (srt xs) (srt_len xs) q os⟩
theorem compact_own (xs : List Int) (v : Value) (base : Nat) (w : World) (h : w.ownsRow base 3 1 v xs.length (xs.map (Value.int .i64))) (hsz : xs.length < 4611686018427387904) :
    Calls Try.prog 29 #[v] w fun e w' => ∃ v', e = .returned v' ∧ w'.ownsRow base 3 1 v' (Lib.compact xs).length ((Lib.compact xs).map (Value.int .i64)) ∧ w.grownBy w' v.ownBlock ∧ v'.ownBlock = v.ownBlock := by
  rcases h.2 with ⟨rfl, h0⟩ | ⟨g, cap, cur, rfl, _⟩
  · have hx : xs = [] := List.length_eq_zero_iff.1 h0
    subst hx
    refine (Try.slices_Compact_int_empty none 0 w).mono ?_
    rintro e w' ⟨rfl, rfl⟩
    exact ⟨_, rfl, World.ownsRow_nil _ _ _ _, ⟨rfl, rfl, rfl, Nat.le_refl _, fun _ _ _ => rfl⟩, rfl⟩
  · obtain ⟨hH, hlt, hcap⟩ := own_holds h rfl
    refine (Try.slices_Compact_int g 0 cap xs w hH (by omega) hcap).mono ?_
    rintro e w' ⟨rfl, q, rfl⟩
    have hle := Go.Lib.compact_length_le xs
    obtain ⟨h1, h2⟩ := put_own h (Lib.compact xs ++ List.replicate (xs.length - (Lib.compact xs).length) 0) (by simp; omega) q #[]
    rw [Go.Sort.grow_empty] at h1 h2
    have h3 := own_take h1 hle
    rw [Nat.mul_one, List.map_append, List.take_left' (by simp)] at h3
    exact ⟨_, rfl, h3, h2, rfl⟩
end Go.Proofs.Ytdbngbmokgeeiaa.Man

namespace Go.Proofs.Ytdbngbmokgeeiaa.Man
open Go.RowKit Go.Shelf Go.Proofs.Ytdbngbmokgeeiaa.Pr Go.Proofs.YtdbngbmokgeeiaaW.PrintWords
attribute [local go_sem] Oper.semAt_some
set_option linter.unusedVariables false
set_option linter.unusedSimpArgs false
theorem wpOpIn_value {F : Fence} {n : Nat} {P : Program} {ops : Array Oper} {Q : Exit → Act → World → Prop} {i : Nat} {K : Act → World → Prop} {a : Act} {w w' : World} {o : Oper} {r : Value}
    (ho : ops[i]? = some o) (hg : o.guard = none) (hd : ∀ c, o.op ≠ .defer c) (hab : o.about P w a.eval = none)
    (hrun : (execOp a.eval o).run P w = .ok (.value r) w') (hK : K (a.put o.dst r) w') : wpOpIn F n P ops Q i K a w := by
  unfold wpOpIn
  simp only [ho, Region.wanted, hg, if_true]
  refine ⟨fun f h => (by rw [hab] at h; cases h), ?_⟩
  rw [Oper.semAt_eq _ _ _ hd, hrun]
  exact hK
theorem wpOpIn_skip {F : Fence} {n : Nat} {P : Program} {ops : Array Oper} {Q : Exit → Act → World → Prop} {i : Nat} {K : Act → World → Prop} {a : Act} {w w' : World} {o : Oper}
    (ho : ops[i]? = some o) (hg : o.guard = none) (hd : ∀ c, o.op ≠ .defer c) (hab : o.about P w a.eval = none)
    (hrun : (execOp a.eval o).run P w = .ok .skip w') (hK : K (a.put o.dst undef) w') : wpOpIn F n P ops Q i K a w := by
  unfold wpOpIn
  simp only [ho, Region.wanted, hg, if_true]
  refine ⟨fun f h => (by rw [hab] at h; cases h), ?_⟩
  rw [Oper.semAt_eq _ _ _ hd, hrun]
  exact hK
def dstOf (ops : Array Oper) (j : Nat) : Option Tmp := (ops[j]?).bind (·.dst)
def flowOk (ops : Array Oper) (n : Nat) : Bool :=
  (List.range ops.size).all fun i => (match dstOf ops i with | none => true | some d => decide (d < n)) &&
    (List.range ops.size).all fun j => i == j || (dstOf ops i).isNone || !((dstOf ops i) == (dstOf ops j))
def putTmps (ops : Array Oper) (val : Nat → Value) (t : Array Value) : Nat → Array Value
  | 0 => t
  | j + 1 => match dstOf ops j with
    | some d => (putTmps ops val t j).setIfInBounds d (val j)
    | none => putTmps ops val t j
def waitsOk (ops : Array Oper) : Bool := (List.range ops.size).all fun i => match ops[i]? with
  | some o => o.after.all fun e => !Region.binds .any e || decide (e.on < i)
  | none => true
structure Agrees (ops : Array Oper) (base : Act) (val : Nat → Value) (done : Nat → Bool) (a : Act) : Prop where
  defers : a.defers = base.defers
  size : a.tmps.size = base.tmps.size
  has : ∀ j d, dstOf ops j = some d → done j = true → a.tmps.getD d undef = val j
  other : ∀ t, (∀ j, dstOf ops j ≠ some t) → a.tmps.getD t undef = base.tmps.getD t undef
def upd (done : Nat → Bool) (i : Nat) : Nat → Bool := fun j => if j = i then true else done j
theorem flow_lt {ops : Array Oper} {n : Nat} (h : flowOk ops n = true) {j d : Nat} (hd : dstOf ops j = some d) : d < n := by
  have hj : j < ops.size := by
    by_cases hj : j < ops.size
    · exact hj
    · simp [dstOf, Array.getElem?_eq_none (Nat.le_of_not_lt hj)] at hd
  have := List.all_eq_true.1 h j (List.mem_range.2 hj)
  simp only [hd, Bool.and_eq_true, decide_eq_true_eq] at this
  exact this.1
theorem flow_inj {ops : Array Oper} {n : Nat} (h : flowOk ops n = true) {i j d : Nat} (hi : dstOf ops i = some d) (hj : dstOf ops j = some d) : i = j := by
  have lt : ∀ {k : Nat}, dstOf ops k = some d → k < ops.size := fun {k} hk => by
    by_cases hj : k < ops.size
    · exact hj
    · simp [dstOf, Array.getElem?_eq_none (Nat.le_of_not_lt hj)] at hk
  have := List.all_eq_true.1 h i (List.mem_range.2 (lt hi))
  simp only [Bool.and_eq_true] at this
  have := List.all_eq_true.1 this.2 j (List.mem_range.2 (lt hj))
  rw [hi, hj] at this
  simpa using this
theorem getD_set (t : Array Value) (d : Nat) (v : Value) (k : Nat) : (t.setIfInBounds d v).getD k undef = if k = d ∧ d < t.size then v else t.getD k undef := by
  rw [Array.getD_eq_getD_getElem?, Array.getD_eq_getD_getElem?, Array.getElem?_setIfInBounds]
  by_cases h : d = k
  · subst h
    by_cases h2 : d < t.size
    · simp [h2]
    · simp [h2]
  · rw [if_neg h, if_neg (fun e => h e.1.symm)]
theorem Agrees.put {ops : Array Oper} {base : Act} {val : Nat → Value} {done : Nat → Bool} {a : Act} (hok : flowOk ops base.tmps.size = true) (h : Agrees ops base val done a) (i : Nat) {o : Oper} (ho : ops[i]? = some o) :
    Agrees ops base val (upd done i) (a.put o.dst (val i)) := by
  have hdi : dstOf ops i = o.dst := by simp [dstOf, ho]
  cases hd : o.dst with
  | none =>
    refine ⟨h.defers, h.size, fun j d hj hdn => ?_, h.other⟩
    refine h.has j d hj ?_
    unfold upd at hdn
    split at hdn
    · rename_i e; subst e; rw [hdi, hd] at hj; cases hj
    · exact hdn
  | some d =>
    rw [hd] at hdi
    refine ⟨h.defers, by simp [Act.put, h.size], fun j d' hj hdn => ?_, fun t ht => ?_⟩
    · simp only [Act.put, getD_set]
      by_cases e : d' = d
      · subst e
        obtain rfl := flow_inj hok hj hdi
        rw [if_pos ⟨rfl, by rw [h.size]; exact flow_lt hok hdi⟩]
      · rw [if_neg (fun x => e x.1)]
        refine h.has j d' hj ?_
        unfold upd at hdn
        split at hdn
        · rename_i e2; subst e2; rw [hdi] at hj; cases hj; exact absurd rfl e
        · exact hdn
    · simp only [Act.put, getD_set]
      rw [if_neg (fun x => ht i (by rw [hdi, x.1]))]
      exact h.other t ht
theorem putTmps_size (ops : Array Oper) (val : Nat → Value) (t : Array Value) (n : Nat) : (putTmps ops val t n).size = t.size := by
  induction n with
  | zero => rfl
  | succ n ih => unfold putTmps; split <;> simp [ih]
theorem putTmps_get {ops : Array Oper} {N : Nat} (hok : flowOk ops N = true) (val : Nat → Value) (t : Array Value) (hN : t.size = N) : ∀ n k, (putTmps ops val t n).getD k undef = if h : ∃ j, j < n ∧ dstOf ops j = some k then val (Classical.choose h) else t.getD k undef := by
  intro n
  induction n with
  | zero => intro k; rw [dif_neg (by rintro ⟨j, hj, _⟩; omega)]; rfl
  | succ n ih =>
    intro k
    unfold putTmps
    cases hd : dstOf ops n with
    | none =>
      simp only [ih]
      have : (∃ j, j < n ∧ dstOf ops j = some k) ↔ (∃ j, j < n + 1 ∧ dstOf ops j = some k) :=
        ⟨fun ⟨j, h1, h2⟩ => ⟨j, by omega, h2⟩, fun ⟨j, h1, h2⟩ => ⟨j, by (have : j ≠ n := fun e => (by subst e; rw [hd] at h2; cases h2)); omega, h2⟩⟩
      by_cases hh : ∃ j, j < n ∧ dstOf ops j = some k
      · rw [dif_pos hh, dif_pos (this.1 hh)]
        congr 1
        exact flow_inj hok (Classical.choose_spec hh).2 (Classical.choose_spec (this.1 hh)).2
      · rw [dif_neg hh, dif_neg (fun h => hh (this.2 h))]
    | some d =>
      simp only [getD_set, putTmps_size]
      by_cases e : k = d
      · subst e
        have hh : ∃ j, j < n + 1 ∧ dstOf ops j = some k := ⟨n, by omega, hd⟩
        rw [if_pos ⟨rfl, by rw [hN]; exact flow_lt hok hd⟩, dif_pos hh]
        congr 1
        exact flow_inj hok hd (Classical.choose_spec hh).2
      · rw [if_neg (fun x => e x.1), ih]
        have : (∃ j, j < n ∧ dstOf ops j = some k) ↔ (∃ j, j < n + 1 ∧ dstOf ops j = some k) :=
          ⟨fun ⟨j, h1, h2⟩ => ⟨j, by omega, h2⟩, fun ⟨j, h1, h2⟩ => ⟨j, by (have : j ≠ n := fun e' => (by subst e'; rw [hd] at h2; cases h2; exact e rfl)); omega, h2⟩⟩
        by_cases hh : ∃ j, j < n ∧ dstOf ops j = some k
        · rw [dif_pos hh, dif_pos (this.1 hh)]
          congr 1
          exact flow_inj hok (Classical.choose_spec hh).2 (Classical.choose_spec (this.1 hh)).2
        · rw [dif_neg hh, dif_neg (fun h => hh (this.2 h))]
theorem Agrees.all {ops : Array Oper} {base : Act} {val : Nat → Value} {done : Nat → Bool} {a : Act} (hok : flowOk ops base.tmps.size = true) (h : Agrees ops base val done a) (hd : ∀ j, j < ops.size → done j = true) :
    a = { tmps := putTmps ops val base.tmps ops.size, defers := base.defers } := by
  obtain ⟨at_, ad⟩ := a
  have h1 := h.defers
  have h2 := h.size
  simp only at h1 h2
  subst h1
  congr 1
  apply Array.ext
  · rw [putTmps_size]; exact h2
  · intro k k1 k2
    have e1 : at_[k] = at_.getD k undef := by simp [k1]
    have e2 : (putTmps ops val base.tmps ops.size)[k] = (putTmps ops val base.tmps ops.size).getD k undef := by rw [Array.getD_eq_getD_getElem?, Array.getElem?_eq_getElem k2]; rfl
    rw [e1, e2, putTmps_get hok val base.tmps rfl]
    by_cases hh : ∃ j, j < ops.size ∧ dstOf ops j = some k
    · rw [dif_pos hh]
      exact h.has _ k (Classical.choose_spec hh).2 (hd _ (Classical.choose_spec hh).1)
    · rw [dif_neg hh]
      refine h.other k (fun j hj => hh ⟨j, ?_, hj⟩)
      by_cases hlt : j < ops.size
      · exact hlt
      · simp [dstOf, Array.getElem?_eq_none (Nat.le_of_not_lt hlt)] at hj
theorem Agrees.keep {ops : Array Oper} {base : Act} {val : Nat → Value} {done : Nat → Bool} {a : Act} (h : Agrees ops base val done a) (t : Tmp) (hc : ((List.range ops.size).all fun j => !(dstOf ops j == some t)) = true) : a.eval (.tmp t) = base.eval (.tmp t) :=
  h.other t (fun j hj => by
    have hlt : j < ops.size := by
      by_cases hlt : j < ops.size
      · exact hlt
      · simp [dstOf, Array.getElem?_eq_none (Nat.le_of_not_lt hlt)] at hj
    have := List.all_eq_true.1 hc j (List.mem_range.2 hlt)
    rw [hj] at this
    simp at this)
theorem Agrees.val_ {ops : Array Oper} {base : Act} {val : Nat → Value} {done : Nat → Bool} {a : Act} (h : Agrees ops base val done a) {j t : Nat} (hj : dstOf ops j = some t) (hd : done j = true) : a.eval (.tmp t) = val j := h.has j t hj hd
def setv (val : Nat → Value) (i : Nat) (r : Value) : Nat → Value := fun j => if j = i then r else val j
theorem Agrees.put2 {ops : Array Oper} {base : Act} {val : Nat → Value} {done : Nat → Bool} {a : Act} (hok : flowOk ops base.tmps.size = true) (h : Agrees ops base val done a) (i : Nat) {o : Oper} (ho : ops[i]? = some o) (hd : done i = false) (r : Value) :
    Agrees ops base (setv val i r) (upd done i) (a.put o.dst r) := by
  have h2 : Agrees ops base (setv val i r) done a := ⟨h.defers, h.size, fun j d hj hdn => by
    rw [h.has j d hj hdn]; unfold setv; rw [if_neg (fun e => by subst e; rw [hd] at hdn; cases hdn)], h.other⟩
  have h3 := h2.put hok i ho
  have e : setv val i r i = r := by simp [setv]
  rw [e] at h3; exact h3
theorem wpAnyIn_flow2 {F : Fence} {n : Nat} {P : Program} {ops : Array Oper} {Q : Exit → Act → World → Prop} (base : Act) (v0 : Nat → Value) (S : (Nat → Bool) → (Nat → Value) → World → Prop) (hok : flowOk ops base.tmps.size = true) (hwt : waitsOk ops = true) (w0 : World)
    (h0 : S (fun _ => false) v0 w0)
    (hstep : ∀ i o done val a w, ops[i]? = some o → done i = false → (∀ e ∈ o.after, Region.binds .any e = true → done e.on = true) → Agrees ops base val done a → S done val w →
      ∀ K : Act → World → Prop, (∀ r w', S (upd done i) (setv val i r) w' → K (a.put o.dst r) w') → wpOpIn F n P ops Q i K a w)
    (hend : ∀ w done val, (∀ j, j < ops.size → done j = true) → S done val w → Q .normal { tmps := putTmps ops val base.tmps ops.size, defers := base.defers } w) :
    wpAnyIn F n P .any ops Q ops.size (Array.replicate ops.size false) base w0 := by
  refine wpAnyIn_inv (fun listed a w => listed.size = ops.size ∧ ∃ done val, (∀ j, j < ops.size → listed[j]? = some (done j)) ∧ Agrees ops base val done a ∧ S done val w) ?_ ?_ _ _ _ _ (by simp [leftOf]) ⟨by simp, fun _ => false, v0, fun j hj => by simp [hj], ⟨rfl, rfl, fun _ _ _ h => (by cases h), fun _ _ => rfl⟩, h0⟩
  · rintro listed a w i ⟨hs, done, val, hl, ha, hS⟩ hr
    have hmem := ready_mem hr
    have hlt : i < ops.size := by
      rw [Array.getElem?_toList] at hmem
      have := (Array.getElem?_eq_some_iff.1 hmem).1
      omega
    have hdi : done i = false := by
      rw [Array.getElem?_toList, hl i hlt] at hmem; simpa using hmem
    have ho : ops[i]? = some ops[i] := Array.getElem?_eq_getElem hlt
    refine hstep i ops[i] done val a w ho hdi (fun e he hb => ?_) ha hS _ (fun r w' hw' => ⟨by simp [hs], upd done i, setv val i r, fun j hj => ?_, ha.put2 hok i ho hdi r, hw'⟩)
    · have := (List.mem_filter.1 hr).2
      simp only [Bool.and_eq_true, ho, Option.map_some, Option.getD_some] at this
      have h2 := Array.all_eq_true_iff_forall_mem.1 this.2 e he
      rw [hb] at h2
      simp only [Bool.not_true, Bool.false_or] at h2
      rw [Array.getD_eq_getD_getElem?] at h2
      by_cases hlt2 : e.on < ops.size
      · rw [hl e.on hlt2] at h2; simpa using h2
      · rw [Array.getElem?_eq_none (by omega)] at h2; simp at h2
    · rw [Array.getElem?_setIfInBounds]
      by_cases e : i = j
      · subst e; rw [if_pos rfl, if_pos (by omega)]; simp [upd]
      · rw [if_neg e, hl j hj]; simp [upd, Ne.symm e]
  · rintro listed a w ⟨hs, done, val, hl, ha, hS⟩ hr
    -- nothing is ready, so all have been done (or some wait for ever: then ready would not be empty for the least one)
    have hall : ∀ j, j < ops.size → done j = true := by
      intro j
      induction j using Nat.strongRecOn with
      | _ j ih =>
      intro hj
      cases hdj : done j with
      | true => rfl
      | false =>
        exfalso
        have : j ∈ Region.ready .any ops listed := by
          unfold Region.ready
          refine List.mem_filter.2 ⟨List.mem_range.2 hj, ?_⟩
          simp only [Bool.and_eq_true]
          refine ⟨by rw [Array.getD_eq_getD_getElem?, hl j hj, hdj]; rfl, ?_⟩
          rw [Array.getElem?_eq_getElem hj]
          simp only [Option.map_some, Option.getD_some]
          refine Array.all_eq_true_iff_forall_mem.2 fun e he => ?_
          have hw := List.all_eq_true.1 hwt j (List.mem_range.2 hj)
          rw [Array.getElem?_eq_getElem hj] at hw
          have hw2 := Array.all_eq_true_iff_forall_mem.1 hw e he
          cases hb : Region.binds .any e with
          | false => simp
          | true =>
            rw [hb] at hw2
            simp only [Bool.not_true, Bool.false_or, decide_eq_true_eq] at hw2
            have hlt : e.on < ops.size := by omega
            simp only [Bool.not_true, Bool.false_or]
            rw [Array.getD_eq_getD_getElem?, hl e.on hlt, ih e.on hw2 hlt]; rfl
        rw [hr] at this; cases this
    rw [ha.all hok hall]
    exact hend w done val hall hS
end Go.Proofs.Ytdbngbmokgeeiaa.Man

namespace Go.Proofs.Ytdbngbmokgeeiaa.Man
open Go.Lib
section
variable {α : Type} [Inhabited α] [DecidableEq α]
theorem compact_mem (zs : List α) (x : α) : x ∈ compact zs ↔ x ∈ zs := by
  unfold compact compactUpTo
  simp only [List.mem_map, List.mem_filter, List.mem_range]
  constructor
  · rintro ⟨j, ⟨hj, _⟩, rfl⟩
    have : zs.toArray[j]! = zs[j] := by simp [hj]
    rw [this]; exact List.getElem_mem hj
  · intro hx
    obtain ⟨j, hj, rfl⟩ := List.getElem_of_mem hx
    have main : ∀ j, j < zs.length → ∃ a, (a < zs.length ∧ keeps zs.toArray a = true) ∧ zs.toArray[a]! = zs.toArray[j]! := by
      intro j
      induction j with
      | zero => intro h; exact ⟨0, ⟨h, by simp [keeps]⟩, rfl⟩
      | succ j ih =>
        intro h
        by_cases he : zs.toArray[j + 1]! = zs.toArray[j]!
        · obtain ⟨a, h1, h2⟩ := ih (by omega)
          exact ⟨a, h1, h2.trans he.symm⟩
        · exact ⟨j + 1, ⟨h, keeps_pos (by simpa using he)⟩, rfl⟩
    obtain ⟨a, h1, h2⟩ := main j hj
    exact ⟨a, h1, by rw [h2]; simp [hj]⟩
theorem compact_rises (zs : List α) (le : α → α → Prop) (ha : ∀ a b, le a b → le b a → a = b) (hs : ∀ i j (hi : i < zs.length) (hj : j < zs.length), i ≤ j → le zs[i] zs[j]) : (compact zs).Pairwise (fun a b => le a b ∧ a ≠ b) := by
  unfold compact compactUpTo
  rw [List.pairwise_map]
  have h0 : ((List.range zs.length).filter (keeps zs.toArray)).Pairwise (fun a b => a < b ∧ (a < zs.length ∧ b < zs.length) ∧ keeps zs.toArray b = true) := by
    have h1 : ((List.range zs.length).filter (keeps zs.toArray)).Pairwise (· < ·) := List.Pairwise.filter _ List.pairwise_lt_range
    refine List.Pairwise.imp_of_mem (fun {a b} h2 h3 h => ⟨h, ?_, ?_⟩) h1
    · exact ⟨List.mem_range.1 (List.mem_filter.1 h2).1, List.mem_range.1 (List.mem_filter.1 h3).1⟩
    · exact (List.mem_filter.1 h3).2
  refine List.Pairwise.imp (fun {a b} h => ?_) h0
  obtain ⟨h1, ⟨h2, h3⟩, h4⟩ := h
  have ea : zs.toArray[a]! = zs[a] := by simp [h2]
  have eb : zs.toArray[b]! = zs[b] := by simp [h3]
  rw [ea, eb]
  refine ⟨hs a b h2 h3 (by omega), fun e => ?_⟩
  simp only [keeps, decide_eq_true_eq] at h4
  rcases h4 with h4 | h4
  · omega
  · apply h4
    have hb1 : b - 1 < zs.length := by omega
    have ec : zs.toArray[b - 1]! = zs[b - 1] := by simp [hb1]
    rw [eb, ec]
    refine ha _ _ ?_ (hs (b - 1) b hb1 h3 (by omega))
    rw [← e]
    exact hs a (b - 1) h2 hb1 (by omega)
end
end Go.Proofs.Ytdbngbmokgeeiaa.Man
