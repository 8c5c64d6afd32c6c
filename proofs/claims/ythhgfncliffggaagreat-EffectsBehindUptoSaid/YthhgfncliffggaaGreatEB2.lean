/- A part of the proof that EffectsBehind returns true for every argument. No conditions beyond the given statement's own. -/
import Derived.Shelf.Small.Bits
import Derived.Shelf.Small.Wraps
import Derived.Shelf.Strconv.Itoa0
import Derived.Shelf.Sort.Plain
import Derived.Shelf.Slices.Turned
import Derived.Ground.Names2Prog
import Derived.Shelf.Slices.Clone
import Derived.Shelf.Slices.CompactI
import Derived.Shelf.Slices.CompactS
import Derived.Shelf.Slices.SearchI
import Derived.Shelf.Slices.Cells
import Derived.Shelf.Slices.In.SortNone
import Derived.Shelf.Spec.SlicesGrow
import Derived.Test.YthhgfncliffggaaGreatProg
import Derived.Lib.SlicesCompact
import Derived.Below
import Derived.Deep.Draws
import Derived.Deep.AppendLies
import Derived.Maps.AppendAt
import Derived.OwnWalk
import Derived.Laws.BytesArg
import Derived.Laws.MakeOwn
import Derived.Laws.OwnMore
import Derived.Deep.OwnRows
import Derived.Tactics
import Derived.Lib.ConvBytes
import Derived.Laws.Slices
import Derived.WalkKit
import Derived.KernelRfl
import Derived.RowKit3
import Derived.Deep.LoopGhost
import Derived.Deep.QuietTactic
import Derived.BigQuiet
import Derived.WideLaws
import Derived.Deep.DeepCutAuto
import Derived.Deep.CutBlock
import Derived.Deep.RegionHeld3
import Derived.Laws.Rows
import Derived.Lib.AppendStr
import Derived.ArgAppend
import Derived.Laws.IdiomCopy
import Derived.OrdersHeld
import Derived.Laws.BitsLemmas
import Derived.RowKit
import Derived.Test.YthhgfncliffggaaGreatEB1
import Derived.Laws.StructEq
import Derived.Test.YthhgfncliffggaaGreatRows
import Derived.RangeFuncNested
import Derived.RangeFuncBound
import Derived.RangeFuncCalls
import Derived.RangeFuncLeaves
import Derived.Shelf.Abstract
import Derived.Shelf.RegionOpen
import Derived.OwnWalkIn
import Derived.TacticsInMore
import Derived.LoopNIn
import Derived.LoopIn
import Derived.Lib.Hide
import Derived.Outline
import Derived.OrdersIn
import Derived.Sort.LoopGhostIn
import Derived.Maps.OwnIn
import Derived.WalkMore
import Derived.Says
set_option maxHeartbeats 8000000
set_option maxRecDepth 100000
set_option linter.unusedVariables false
set_option linter.unusedSimpArgs false
namespace Go.Proofs
open Go.Shelf
def Tryz.lays189_ren:Go.Shelf.Ren:=⟨fun | 189 =>47 | 125 =>59 | 257 =>74 | 128 =>87 | 129 =>88 | 294 =>93 | 295 =>94 | 296 =>95 | 297 =>96 | 298 =>97 | 299 =>98 | 216 =>99 | 300 =>100 | 301 =>101 | 328 =>114 | 329 =>105 | 330 =>106 | 331 =>115 | 332 =>116 | 215 =>117 | 343 =>122 | n =>n,fun | 28 =>43 | 3 =>3 | 46 =>97 | 0 =>0 | 51 =>132 | 53 =>134 | 4 =>4 | 183 =>124 | 182 =>123 | 131 =>129 | 5 =>5 | 9 =>9 | 218 =>146 | 222 =>150 | 228 =>162 | 229 =>163 | n =>n,fun | n =>n⟩
theorem Tryz.lays189:Go.Proofs.Lays.n189 Tryz.prog Tryz.lays189_ren:={
 mixed:=by kernel_rfl
 f125:=Tryz.func59.trans (congrArg some qF0)
 f128:=Tryz.func87.trans (congrArg some qF0)
 f129:=Tryz.func88.trans (congrArg some qF0)
 f189:=Tryz.func47.trans (congrArg some qF0)
 f215:=Tryz.func117.trans (congrArg some qF0)
 f216:=Tryz.func99.trans (congrArg some qF0)
 f257:=Tryz.func74.trans (congrArg some qF0)
 f294:=Tryz.func93.trans (congrArg some qF0)
 f295:=Tryz.func94.trans (congrArg some qF0)
 f296:=Tryz.func95.trans (congrArg some qF0)
 f297:=Tryz.func96.trans (congrArg some qF0)
 f298:=Tryz.func97.trans (congrArg some qF0)
 f299:=Tryz.func98.trans (congrArg some qF0)
 f300:=Tryz.func100.trans (congrArg some qF0)
 f301:=Tryz.func101.trans (congrArg some qF0)
 f328:=Tryz.func114.trans (congrArg some qF0)
 f329:=Tryz.func105.trans (congrArg some qF0)
 f330:=Tryz.func106.trans (congrArg some qF0)
 f331:=Tryz.func115.trans (congrArg some qF0)
 f332:=Tryz.func116.trans (congrArg some qF0)
 f343:=Tryz.func122.trans (congrArg some qF0)
 t0:=Tryz.underlying0
 a0:=Tryz.isAgg0
 z0:=Tryz.sizeOf0
 v0:=Tryz.zeroValue0
 t3:=Tryz.underlying3
 a3:=Tryz.isAgg3
 z3:=Tryz.sizeOf3
 v3:=Tryz.zeroValue3
 t4:=Tryz.underlying4
 a4:=Tryz.isAgg4
 z4:=Tryz.sizeOf4
 v4:=Tryz.zeroValue4
 t5:=Tryz.underlying5
 a5:=Tryz.isAgg5
 z5:=Tryz.sizeOf5
 v5:=Tryz.zeroValue5
 t9:=Tryz.underlying9
 a9:=Tryz.isAgg9
 z9:=Tryz.sizeOf9
 v9:=Tryz.zeroValue9
 t28:=Tryz.underlying43
 a28:=Tryz.isAgg43
 z28:=Tryz.sizeOf43
 v28:=Tryz.zeroValue43
 t46:=Tryz.underlying97
 a46:=Tryz.isAgg97
 z46:=Tryz.sizeOf97
 v46:=Tryz.zeroValue97
 t51:=Tryz.underlying132
 a51:=Tryz.isAgg132
 z51:=Tryz.sizeOf132
 v51:=Tryz.zeroValue132
 t53:=Tryz.underlying134
 a53:=Tryz.isAgg134
 z53:=Tryz.sizeOf134
 v53:=Tryz.zeroValue134
 t131:=Tryz.underlying129
 a131:=Tryz.isAgg129
 z131:=Tryz.sizeOf129
 v131:=Tryz.zeroValue129
 t182:=Tryz.underlying123
 a182:=Tryz.isAgg123
 z182:=Tryz.sizeOf123
 v182:=Tryz.zeroValue123
 t183:=Tryz.underlying124
 a183:=Tryz.isAgg124
 z183:=Tryz.sizeOf124
 v183:=Tryz.zeroValue124
 t218:=Tryz.underlying146
 a218:=Tryz.isAgg146
 z218:=Tryz.sizeOf146
 v218:=Tryz.zeroValue146
 t222:=Tryz.underlying150
 a222:=Tryz.isAgg150
 z222:=Tryz.sizeOf150
 v222:=Tryz.zeroValue150
 t228:=Tryz.underlying162
 a228:=Tryz.isAgg162
 z228:=Tryz.sizeOf162
 v228:=Tryz.zeroValue162
 t229:=Tryz.underlying163
 a229:=Tryz.isAgg163
 z229:=Tryz.sizeOf163
 v229:=Tryz.zeroValue163 }
open Go.Sort Go.RowKit in
theorem Tryz.slices_Sort_int (blk off cap:Nat) (zs:List Int) (w:World) (hH:Holds (Value.int .i64) w blk off zs.toArray) (hblk:blk < w.heap.size) (hsz:zs.length < 4611686018427387904) :
  Calls Tryz.prog 47 #[.slice (some ⟨blk,off,none⟩) zs.length cap] w fun e w' =>
   e = .returned (.tuple #[])∧∃ n os,w' = grow (putRow (Value.int .i64) (Sort.ahead w n) blk off (zs.mergeSort fun x y =>decide (x≤y)).toArray) os:=Any.slices_Sort_int Tryz.lays189 blk off cap zs w hH hblk hsz
def Tryz.lays190_ren:Go.Shelf.Ren:=⟨fun | 190 =>38 | 125 =>59 | 258 =>58 | 128 =>87 | 129 =>88 | 302 =>78 | 303 =>79 | 304 =>80 | 305 =>81 | 306 =>82 | 307 =>83 | 308 =>84 | 309 =>85 | 310 =>86 | 333 =>104 | 329 =>105 | 330 =>106 | 334 =>107 | 335 =>108 | 336 =>109 | 344 =>118 | n =>n,fun | 31 =>25 | 9 =>9 | 3 =>3 | 46 =>97 | 0 =>0 | 51 =>132 | 53 =>134 | 4 =>4 | 183 =>124 | 182 =>123 | 131 =>129 | 5 =>5 | 218 =>146 | 222 =>150 | 228 =>162 | 229 =>163 | n =>n,fun | n =>n⟩
theorem Tryz.lays190:Go.Proofs.Lays.n190 Tryz.prog Tryz.lays190_ren:={
 mixed:=by kernel_rfl
 f125:=Tryz.func59.trans (congrArg some qF0)
 f128:=Tryz.func87.trans (congrArg some qF0)
 f129:=Tryz.func88.trans (congrArg some qF0)
 f190:=Tryz.func38.trans (congrArg some qF0)
 f258:=Tryz.func58.trans (congrArg some qF0)
 f302:=Tryz.func78.trans (congrArg some qF0)
 f303:=Tryz.func79.trans (congrArg some qF0)
 f304:=Tryz.func80.trans (congrArg some qF0)
 f305:=Tryz.func81.trans (congrArg some qF0)
 f306:=Tryz.func82.trans (congrArg some qF0)
 f307:=Tryz.func83.trans (congrArg some qF0)
 f308:=Tryz.func84.trans (congrArg some qF0)
 f309:=Tryz.func85.trans (congrArg some qF0)
 f310:=Tryz.func86.trans (congrArg some qF0)
 f329:=Tryz.func105.trans (congrArg some qF0)
 f330:=Tryz.func106.trans (congrArg some qF0)
 f333:=Tryz.func104.trans (congrArg some qF0)
 f334:=Tryz.func107.trans (congrArg some qF0)
 f335:=Tryz.func108.trans (congrArg some qF0)
 f336:=Tryz.func109.trans (congrArg some qF0)
 f344:=Tryz.func118.trans (congrArg some qF0)
 t0:=Tryz.underlying0
 a0:=Tryz.isAgg0
 z0:=Tryz.sizeOf0
 v0:=Tryz.zeroValue0
 t3:=Tryz.underlying3
 a3:=Tryz.isAgg3
 z3:=Tryz.sizeOf3
 v3:=Tryz.zeroValue3
 t4:=Tryz.underlying4
 a4:=Tryz.isAgg4
 z4:=Tryz.sizeOf4
 v4:=Tryz.zeroValue4
 t5:=Tryz.underlying5
 a5:=Tryz.isAgg5
 z5:=Tryz.sizeOf5
 v5:=Tryz.zeroValue5
 t9:=Tryz.underlying9
 a9:=Tryz.isAgg9
 z9:=Tryz.sizeOf9
 v9:=Tryz.zeroValue9
 t31:=Tryz.underlying25
 a31:=Tryz.isAgg25
 z31:=Tryz.sizeOf25
 v31:=Tryz.zeroValue25
 t46:=Tryz.underlying97
 a46:=Tryz.isAgg97
 z46:=Tryz.sizeOf97
 v46:=Tryz.zeroValue97
 t51:=Tryz.underlying132
 a51:=Tryz.isAgg132
 z51:=Tryz.sizeOf132
 v51:=Tryz.zeroValue132
 t53:=Tryz.underlying134
 a53:=Tryz.isAgg134
 z53:=Tryz.sizeOf134
 v53:=Tryz.zeroValue134
 t131:=Tryz.underlying129
 a131:=Tryz.isAgg129
 z131:=Tryz.sizeOf129
 v131:=Tryz.zeroValue129
 t182:=Tryz.underlying123
 a182:=Tryz.isAgg123
 z182:=Tryz.sizeOf123
 v182:=Tryz.zeroValue123
 t183:=Tryz.underlying124
 a183:=Tryz.isAgg124
 z183:=Tryz.sizeOf124
 v183:=Tryz.zeroValue124
 t218:=Tryz.underlying146
 a218:=Tryz.isAgg146
 z218:=Tryz.sizeOf146
 v218:=Tryz.zeroValue146
 t222:=Tryz.underlying150
 a222:=Tryz.isAgg150
 z222:=Tryz.sizeOf150
 v222:=Tryz.zeroValue150
 t228:=Tryz.underlying162
 a228:=Tryz.isAgg162
 z228:=Tryz.sizeOf162
 v228:=Tryz.zeroValue162
 t229:=Tryz.underlying163
 a229:=Tryz.isAgg163
 z229:=Tryz.sizeOf163
 v229:=Tryz.zeroValue163 }
open Go.Sort Go.RowKit in
theorem Tryz.slices_Sort_string (blk off cap:Nat) (ss:List (List UInt8)) (w:World) (hH:Holds encStr w blk off ss.toArray) (hblk:blk < w.heap.size) (hsz:ss.length < 4611686018427387904) :
  Calls Tryz.prog 38 #[.slice (some ⟨blk,off,none⟩) ss.length cap] w fun e w' =>
   e = .returned (.tuple #[])∧∃ n os,w' = grow (putRow encStr (Sort.ahead w n) blk off (ss.mergeSort fun x y =>decide (x≤y)).toArray) os:=Any.slices_Sort_string Tryz.lays190 blk off cap ss w hH hblk hsz
def Tryz.lays108_ren:Go.Shelf.Ren:=⟨fun | 108 =>102 | n =>n,fun | 28 =>43 | 3 =>3 | 0 =>0 | 4 =>4 | n =>n,fun | n =>n⟩
theorem Tryz.lays108:Go.Proofs.Lays.n108 Tryz.prog Tryz.lays108_ren:={
 mixed:=by kernel_rfl
 f108:=Tryz.func102.trans (congrArg some qF0)
 t0:=Tryz.underlying0
 a0:=Tryz.isAgg0
 z0:=Tryz.sizeOf0
 v0:=Tryz.zeroValue0
 t3:=Tryz.underlying3
 a3:=Tryz.isAgg3
 z3:=Tryz.sizeOf3
 v3:=Tryz.zeroValue3
 t4:=Tryz.underlying4
 a4:=Tryz.isAgg4
 z4:=Tryz.sizeOf4
 v4:=Tryz.zeroValue4
 t28:=Tryz.underlying43
 a28:=Tryz.isAgg43
 z28:=Tryz.sizeOf43
 v28:=Tryz.zeroValue43 }
open Go.Lib in
theorem Tryz.slices_Index_int (b off n c:Nat) (zs:List Int) (x:Int) (w:World) (hz:n≤zs.length) (hbig:n≤9223372036854775807) (hc:∀ j,j < zs.length→w.cell? ⟨b,off + j,none⟩ = some (.int .i64 (zs.getD j 0))) :
  Calls Tryz.prog 102 #[.slice (some ⟨b,off,none⟩) n c,.int .i64 x] w fun e w' =>e = .returned (.int .i64 (Lib.idxOf (zs.take n) x))∧w' = w:=Any.slices_Index_int Tryz.lays108 b off n c zs x w hz hbig hc
def Tryz.laysNm215_ren:Go.Shelf.Ren:=⟨fun | 15 =>103 | n =>n,fun | 22 =>43 | 3 =>3 | 4 =>4 | n =>n,fun | n =>n⟩
theorem Tryz.laysNm215:Go.Proofs.Lays2.n15 Tryz.prog Tryz.laysNm215_ren:={
 mixed:=by kernel_rfl
 f15:=Tryz.func103.trans (congrArg some qF0)
 t3:=Tryz.underlying3
 a3:=Tryz.isAgg3
 z3:=Tryz.sizeOf3
 v3:=Tryz.zeroValue3
 t4:=Tryz.underlying4
 a4:=Tryz.isAgg4
 z4:=Tryz.sizeOf4
 v4:=Tryz.zeroValue4
 t22:=Tryz.underlying43
 a22:=Tryz.isAgg43
 z22:=Tryz.sizeOf43
 v22:=Tryz.zeroValue43
 i3:=by kernel_rfl }
open Go.RowKit Go.Lib in
theorem Tryz.slices_Clone_int (b off n c:Nat) (zs:List Int) (w:World) (hz:n≤zs.length) (hbig:n * 8≤140737488355328) (hc:∀ j,j < zs.length→w.cell? ⟨b,off + j,none⟩ = some (.int .i64 (zs.getD j 0))) :
  Calls Tryz.prog 103 #[.slice (some ⟨b,off,none⟩) n c] w fun e w' =>∃ v',e = .returned v'∧w'.ownsRow w.heap.size 3 1 v' n ((zs.take n).map (Value.int .i64))∧v'≠.slice none 0 0∧Below w.heap.size w w':=Any.slices_Clone_int Tryz.laysNm215 b off n c zs w hz hbig hc
open Go.RowKit Go.Lib in
theorem Tryz.slices_Clone_int_nil (n c:Nat) (w:World) :
  Calls Tryz.prog 103 #[.slice none n c] w fun e w' =>e = .returned (.slice none 0 0)∧w' = w:=Any.slices_Clone_int_nil Tryz.laysNm215 n c w
def Tryz.laysNm216_ren:Go.Shelf.Ren:=⟨fun | 16 =>32 | n =>n,fun | 24 =>25 | 9 =>9 | 4 =>4 | n =>n,fun | n =>n⟩
theorem Tryz.laysNm216:Go.Proofs.Lays2.n16 Tryz.prog Tryz.laysNm216_ren:={
 mixed:=by kernel_rfl
 f16:=Tryz.func32.trans (congrArg some qF0)
 t4:=Tryz.underlying4
 a4:=Tryz.isAgg4
 z4:=Tryz.sizeOf4
 v4:=Tryz.zeroValue4
 t9:=Tryz.underlying9
 a9:=Tryz.isAgg9
 z9:=Tryz.sizeOf9
 v9:=Tryz.zeroValue9
 t24:=Tryz.underlying25
 a24:=Tryz.isAgg25
 z24:=Tryz.sizeOf25
 v24:=Tryz.zeroValue25
 i9:=by kernel_rfl }
open Go.RowKit Go.Lib in
theorem Tryz.slices_Clone_string (b off n c:Nat) (zs:List ByteArray) (w:World) (hz:n≤zs.length) (hbig:n * 16≤140737488355328) (hc:∀ j,j < zs.length→w.cell? ⟨b,off + j,none⟩ = some (.string (zs.getD j ByteArray.empty))) :
  Calls Tryz.prog 32 #[.slice (some ⟨b,off,none⟩) n c] w fun e w' =>∃ v',e = .returned v'∧w'.ownsRow w.heap.size 9 1 v' n ((zs.take n).map (Value.string))∧v'≠.slice none 0 0∧Below w.heap.size w w':=Any.slices_Clone_string Tryz.laysNm216 b off n c zs w hz hbig hc
open Go.RowKit Go.Lib in
theorem Tryz.slices_Clone_string_nil (n c:Nat) (w:World) :
  Calls Tryz.prog 32 #[.slice none n c] w fun e w' =>e = .returned (.slice none 0 0)∧w' = w:=Any.slices_Clone_string_nil Tryz.laysNm216 n c w
open Go.RowKit Go.Lib in
theorem Tryz.slices_Clone_int_zero (a:Addr) (c:Nat) (w:World) :
  Calls Tryz.prog 103 #[.slice (some a) 0 c] w fun e w' =>∃ v',e = .returned v'∧w'.ownsRow w.heap.size 3 1 v' 0 []∧v'≠.slice none 0 0∧Below w.heap.size w w':=Any.slices_Clone_int_zero Tryz.laysNm215 a c w
open Go.RowKit Go.Lib in
theorem Tryz.slices_Clone_string_zero (a:Addr) (c:Nat) (w:World) :
  Calls Tryz.prog 32 #[.slice (some a) 0 c] w fun e w' =>∃ v',e = .returned v'∧w'.ownsRow w.heap.size 9 1 v' 0 []∧v'≠.slice none 0 0∧Below w.heap.size w w':=Any.slices_Clone_string_zero Tryz.laysNm216 a c w
def Tryz.laysNm220_ren:Go.Shelf.Ren:=⟨fun | 20 =>48 | n =>n,fun | 22 =>43 | 3 =>3 | 4 =>4 | 0 =>0 | n =>n,fun | n =>n⟩
theorem Tryz.laysNm220:Go.Proofs.Lays2.n20 Tryz.prog Tryz.laysNm220_ren:={
 mixed:=by kernel_rfl
 f20:=Tryz.func48.trans (congrArg some qF0)
 t0:=Tryz.underlying0
 a0:=Tryz.isAgg0
 z0:=Tryz.sizeOf0
 v0:=Tryz.zeroValue0
 t3:=Tryz.underlying3
 a3:=Tryz.isAgg3
 z3:=Tryz.sizeOf3
 v3:=Tryz.zeroValue3
 t4:=Tryz.underlying4
 a4:=Tryz.isAgg4
 z4:=Tryz.sizeOf4
 v4:=Tryz.zeroValue4
 t22:=Tryz.underlying43
 a22:=Tryz.isAgg43
 z22:=Tryz.sizeOf43
 v22:=Tryz.zeroValue43
 i3:=by kernel_rfl }
open Go.RowKit Go.Lib Go.Sort in
theorem Tryz.slices_Compact_int (blk off cap:Nat) (zs:List Int) (w:World) (hH:Holds (Value.int .i64) w blk off zs.toArray) (hsz:zs.length≤9223372036854775807) (hcap:zs.length≤cap) :
  Calls Tryz.prog 48 #[.slice (some ⟨blk,off,none⟩) zs.length cap] w fun e w' =>e = .returned (.slice (some ⟨blk,off,none⟩) (Lib.compact zs).length cap)∧∃ q,w' = putRow (Value.int .i64) (Sort.ahead w q) blk off (Lib.compact zs ++ List.replicate (zs.length - (Lib.compact zs).length) 0).toArray:=Any.slices_Compact_int Tryz.laysNm220 blk off cap zs w hH hsz hcap
open Go.RowKit Go.Lib Go.Sort in
theorem Tryz.slices_Compact_int_empty (a:Option Addr) (cap:Nat) (w:World) :
  Calls Tryz.prog 48 #[.slice a 0 cap] w fun e w' =>e = .returned (.slice a 0 cap)∧w' = w:=Any.slices_Compact_int_empty Tryz.laysNm220 a cap w
def Tryz.lays194_ren:Go.Shelf.Ren:=⟨fun | 194 =>39 | n =>n,fun | 31 =>25 | 9 =>9 | 3 =>3 | 4 =>4 | 0 =>0 | n =>n,fun | n =>n⟩
theorem Tryz.lays194:Go.Proofs.Lays.n194 Tryz.prog Tryz.lays194_ren:={
 mixed:=by kernel_rfl
 f194:=Tryz.func39.trans (congrArg some qF0)
 t0:=Tryz.underlying0
 a0:=Tryz.isAgg0
 z0:=Tryz.sizeOf0
 v0:=Tryz.zeroValue0
 t3:=Tryz.underlying3
 a3:=Tryz.isAgg3
 z3:=Tryz.sizeOf3
 v3:=Tryz.zeroValue3
 t4:=Tryz.underlying4
 a4:=Tryz.isAgg4
 z4:=Tryz.sizeOf4
 v4:=Tryz.zeroValue4
 t9:=Tryz.underlying9
 a9:=Tryz.isAgg9
 z9:=Tryz.sizeOf9
 v9:=Tryz.zeroValue9
 t31:=Tryz.underlying25
 a31:=Tryz.isAgg25
 z31:=Tryz.sizeOf25
 v31:=Tryz.zeroValue25 }
open Go.RowKit Go.Lib Go.Sort in
theorem Tryz.slices_Compact_string (blk off cap:Nat) (zs:List (List UInt8)) (w:World) (hH:Holds encStr w blk off zs.toArray) (hsz:zs.length≤9223372036854775807) (hcap:zs.length≤cap) :
  Calls Tryz.prog 39 #[.slice (some ⟨blk,off,none⟩) zs.length cap] w fun e w' =>e = .returned (.slice (some ⟨blk,off,none⟩) (Lib.compact zs).length cap)∧∃ q,w' = putRow encStr (Sort.ahead w q) blk off (Lib.compact zs ++ List.replicate (zs.length - (Lib.compact zs).length) []).toArray:=Any.slices_Compact_string Tryz.lays194 blk off cap zs w hH hsz hcap
open Go.RowKit Go.Lib Go.Sort in
theorem Tryz.slices_Compact_string_empty (a:Option Addr) (cap:Nat) (w:World) :
  Calls Tryz.prog 39 #[.slice a 0 cap] w fun e w' =>e = .returned (.slice a 0 cap)∧w' = w:=Any.slices_Compact_string_empty Tryz.lays194 a cap w
open Go.RowKit Go.Sort in
theorem Tryz.slices_Sort_string_none (p:Option Addr) (cap:Nat) (w:World) :
  Calls Tryz.prog 38 #[.slice p 0 cap] w fun e w' =>e = .returned (.tuple #[])∧w' = w:=Any.slices_Sort_string_none Tryz.lays190 p cap w
open Go.RowKit Go.Sort in
theorem Tryz.slices_Sort_int_none (p:Option Addr) (cap:Nat) (w:World) :
  Calls Tryz.prog 47 #[.slice p 0 cap] w fun e w' =>e = .returned (.tuple #[])∧w' = w:=Any.slices_Sort_int_none Tryz.lays189 p cap w
def Tryz.growS_ren:Go.Shelf.Ren:=⟨fun | 4 =>57 | n =>n,fun | 22 =>25 | 25 =>9 | 3 =>3 | 4 =>4 | 9 =>9 | 20 =>20 | 0 =>0 | n =>n,fun | n =>n⟩
theorem Tryz.growS:Go.Proofs.Lays8.n4 Tryz.prog Tryz.growS_ren:={
 mixed:=by kernel_rfl
 f4:=⟨Tryz.f57.name,by decide,Tryz.func57.trans (congrArg some qF0)⟩
 t0:=Tryz.underlying0
 a0:=Tryz.isAgg0
 z0:=Tryz.sizeOf0
 v0:=Tryz.zeroValue0
 t3:=Tryz.underlying3
 a3:=Tryz.isAgg3
 z3:=Tryz.sizeOf3
 v3:=Tryz.zeroValue3
 t4:=Tryz.underlying4
 a4:=Tryz.isAgg4
 z4:=Tryz.sizeOf4
 v4:=Tryz.zeroValue4
 t9:=Tryz.underlying9
 a9:=Tryz.isAgg9
 z9:=Tryz.sizeOf9
 v9:=Tryz.zeroValue9
 t20:=Tryz.underlying20
 a20:=Tryz.isAgg20
 z20:=Tryz.sizeOf20
 v20:=Tryz.zeroValue20
 t22:=Tryz.underlying25
 a22:=Tryz.isAgg25
 z22:=Tryz.sizeOf25
 v22:=Tryz.zeroValue25 }
end Go.Proofs
namespace Go.Proofs.YthhgfncliffggaaGreat.Tarj
def upd {α:Type} (f:Nat→α) (n:Nat) (v:α):Nat→α:=fun x =>if x = n then v else f x
theorem a2S {α:Type} (f:Nat→α) (n:Nat) (v:α):upd f n v n = v:=by simp [upd]
theorem a1R {α:Type} (f:Nat→α) {n x:Nat} (v:α) (h:x≠n):upd f n v x = f x:=by simp [upd,h]
structure St where
 next:Nat
 index:Nat→Nat
 low:Nat→Nat
 stack:List Nat
 on:Nat→Bool
 knots:List (List Nat)
def sortN (l:List Nat):List Nat:=l.mergeSort (fun a b =>decide (a≤b))
theorem b6I (l:List Nat):(sortN l).Perm l:=List.mergeSort_perm _ _
theorem a4V {l:List Nat} {x:Nat}:x ∈ sortN l ↔ x ∈ l:=(b6I l).mem_iff
def knotF (n:Nat) (s:St):St :=
 { s with stack:=s.stack.take (s.stack.idxOf n),on:=fun x =>if x ∈ s.stack.drop (s.stack.idxOf n) then false else s.on x,knots:=s.knots ++ [sortN (s.stack.drop (s.stack.idxOf n))] }
def enterF (n:Nat) (s:St):St:={ s with next:=s.next + 1,index:=upd s.index n (s.next + 1),low:=upd s.low n (s.next + 1),stack:=s.stack ++ [n],on:=upd s.on n true }
def stepF (vis:Nat→St→St) (n:Nat) (t:St) (m:Nat):St :=
 if t.index m = 0 then { vis m t with low:=upd (vis m t).low n (min ((vis m t).low n) ((vis m t).low m)) }
 else if t.on m = true then { t with low:=upd t.low n (min (t.low n) (t.index m)) } else t
def leaveF (n:Nat) (t:St):St:=if t.low n = t.index n then knotF n t else t
def visitF (adj:Nat→List Nat):Nat→Nat→St→St
 | 0,_,s =>s
 | k + 1,n,s =>leaveF n ((adj n).foldl (stepF (visitF adj k) n) (enterF n s))
inductive Rch (adj:Nat→List Nat):Nat→Nat→Prop
 | refl (x:Nat):Rch adj x x
 | step {x y z:Nat} (h:y ∈ adj x) (r:Rch adj y z):Rch adj x z
theorem Rch.one {adj:Nat→List Nat} {x y:Nat} (h:y ∈ adj x):Rch adj x y:=.step h (.refl _)
theorem Rch.trans {adj:Nat→List Nat} {x y z:Nat} (h:Rch adj x y) (r:Rch adj y z):Rch adj x z:=by
 induction h with
 | refl =>exact r
 | step h _ ih =>exact .step h (ih r)
theorem Rch.closed {adj:Nat→List Nat} (S:Nat→Prop) (hS:∀ x,S x→∀ y,y ∈ adj x→S y) {x y:Nat} (r:Rch adj x y) (h:S x):S y:=by
 induction r with
 | refl =>exact h
 | step h' _ ih =>exact ih (hS _ h _ h')
def IsKnot (adj:Nat→List Nat) (l:List Nat):Prop:=l≠[]∧l.Pairwise (·≤·)∧∀ x,x ∈ l→∀ y,y ∈ l ↔ Rch adj x y∧Rch adj y x
structure Inv (adj:Nat→List Nat) (N:Nat) (s:St) (G:List Nat):Prop where
 vlt:∀ x,s.index x≠0→x < N
 ile:∀ x,s.index x≤s.next
 son:∀ x,s.on x = true ↔ x ∈ s.stack
 svis:∀ x,x ∈ s.stack→s.index x≠0
 sord:s.stack.Pairwise (fun x y =>s.index x < s.index y)
 gst:∀ x,x ∈ G→x ∈ s.stack
 black:∀ x,s.index x≠0→x ∉ G→∀ y,y ∈ adj x→s.index y≠0
 dcl:∀ x,s.index x≠0→x ∉ s.stack→∀ y,y ∈ adj x→s.index y≠0∧y ∉ s.stack
 toG:∀ x,x ∈ s.stack→∃ z,z ∈ G∧s.index z≤s.index x∧Rch adj x z
 frG:∀ z,z ∈ G→∀ x,x ∈ s.stack→s.index z≤s.index x→Rch adj z x
 kcl:∀ l,l ∈ s.knots→IsKnot adj l
 kmem:∀ x,(∃ l,l ∈ s.knots∧x ∈ l) ↔ s.index x≠0∧x ∉ s.stack
 kdis:s.knots.Pairwise (fun l m =>∀ x,x ∈ l→x ∉ m)
structure Post (adj:Nat→List Nat) (N:Nat) (n:Nat) (s s':St) (G:List Nat) (e:List Nat):Prop where
 inv:Inv adj N s' G
 keep:∀ x,s.index x≠0→s'.index x = s.index x∧s'.low x = s.low x
 vis:s'.index n≠0
 ext:s'.stack = s.stack ++ e
 next:s.next≤s'.next
 new:∀ x,s.index x = 0→s'.index x≠0→s.next < s'.index x
 snd:n ∈ s'.stack→∃ y,y ∈ s.stack∧s'.index y = s'.low n∧Rch adj n y
 off:n ∉ s'.stack→s.next < s'.low n
 cmp:∀ x,x ∈ e→∀ y,y ∈ adj x→y ∈ s.stack→s'.low n≤s'.index y
structure LInv (adj:Nat→List Nat) (N:Nat) (n:Nat) (s t:St) (G pre e:List Nat):Prop where
 nw:s.index n = 0
 gs:∀ x,x ∈ G→x ∈ s.stack
 inv:Inv adj N t (n :: G)
 keep:∀ x,s.index x≠0→t.index x = s.index x∧t.low x = s.low x
 idn:t.index n = s.next + 1
 ext:t.stack = s.stack ++ n :: e
 next:s.next + 1≤t.next
 new:∀ x,s.index x = 0→t.index x≠0→s.next < t.index x
 lown:t.low n≤t.index n∧∃ y,y ∈ t.stack∧t.index y = t.low n∧Rch adj n y
 cmp:∀ x,x ∈ e→∀ y,y ∈ adj x→y ∈ s.stack→t.low n≤t.index y
 cmpn:∀ y,y ∈ pre→y ∈ s.stack→t.low n≤t.index y
 pvis:∀ y,y ∈ pre→t.index y≠0
theorem Inv.low {adj:Nat→List Nat} {N:Nat} {t:St} {G:List Nat} (h:Inv adj N t G) (f:Nat→Nat):Inv adj N { t with low:=f } G :=
 ⟨h.vlt,h.ile,h.son,h.svis,h.sord,h.gst,h.black,h.dcl,h.toG,h.frG,h.kcl,h.kmem,h.kdis⟩
section
variable {adj:Nat→List Nat} {N:Nat}
theorem b5Z {s:St} {G:List Nat} {n:Nat} (h:Inv adj N s G) (hn:s.index n = 0) (hlt:n < N) (hG:∀ z,z ∈ G→Rch adj z n):LInv adj N n s (enterF n s) G [] []:=by
 have hns:n ∉ s.stack:=fun e =>h.svis n e hn
 have ix:∀ x,s.index x≠0→(enterF n s).index x = s.index x:=fun x hx =>a1R _ _ (fun e =>hx (e ▸ hn))
 have ixn:(enterF n s).index n = s.next + 1:=a2S _ _ _;have ve:∀ x,(enterF n s).index x≠0→x = n∨s.index x≠0:=fun x hx =>by
  by_cases e:x = n
  ·exact .inl e
  ·exact .inr (by rw [show (enterF n s).index x = s.index x from a1R _ _ e] at hx;exact hx)
 have ms:∀ x,x ∈ (enterF n s).stack ↔ x ∈ s.stack∨x = n:=fun x =>by simp [enterF]
 refine ⟨hn,h.gst,⟨?_,?_,?_,?_,?_,?_,?_,?_,?_,?_,h.kcl,?_,h.kdis⟩,?_,ixn,rfl,zJ0 _,?_,?_,?_,?_,?_⟩
 ·intro x hx;rcases ve x hx with rfl | hx
  ·exact hlt
  ·exact h.vlt x hx
 ·intro x;by_cases e:x = n
  ·subst e;rw [ixn];exact zJ0 _
  ·rw [show (enterF n s).index x = s.index x from a1R _ _ e];exact Nat.le_succ_of_le (h.ile x)
 ·intro x;rw [ms x];by_cases e:x = n
  ·subst e;simp [enterF,upd]
  ·rw [show (enterF n s).on x = s.on x from a1R _ _ e,h.son x];simp [e]
 ·intro x hx;rcases (ms x).1 hx with hx | rfl
  ·rw [ix x (h.svis x hx)];exact h.svis x hx
  ·rw [ixn];exact Nat.succ_ne_zero _
 ·show (s.stack ++ [n]).Pairwise _;refine List.pairwise_append.2 ⟨h.sord.imp_of_mem (fun {a b} ha hb hab =>?_),List.pairwise_singleton _ _,fun a ha b hb =>?_⟩
  ·rw [ix a (h.svis a ha),ix b (h.svis b hb)];exact hab
  ·rw [zA1.1 hb,ixn,ix a (h.svis a ha)];exact Nat.lt_succ_of_le (h.ile a)
 ·intro x hx;rcases zQ0.1 hx with rfl | hx
  ·exact (ms _).2 (.inr rfl)
  ·exact (ms _).2 (.inl (h.gst x hx))
 ·intro x hx hg y hy;rcases ve x hx with rfl | hx'
  ·exact absurd zN0 hg
  ·have:=h.black x hx' (fun e =>hg (zP0 _ e)) y hy;rw [ix y this];exact this
 ·intro x hx hs y hy;have hxn:x≠n:=fun e =>hs ((ms _).2 (.inr e))
  have hx':=(ve x hx).resolve_left hxn;obtain ⟨a,b⟩:=h.dcl x hx' (fun e =>hs ((ms _).2 (.inl e))) y hy;exact ⟨by rw [ix y a];exact a,fun e =>((ms y).1 e).elim b (fun e =>a (e ▸ hn))⟩
 ·intro x hx;rcases (ms x).1 hx with hx | rfl
  ·obtain ⟨z,a,b,c⟩:=h.toG x hx;exact ⟨z,zP0 _ a,by rw [ix z (h.svis z (h.gst z a)),ix x (h.svis x hx)];exact b,c⟩
  ·exact ⟨x,zN0,zJ0 _,.refl _⟩
 ·intro z hz x hx hle;rcases zQ0.1 hz with rfl | hz2
  ·rcases (ms x).1 hx with hx | rfl
   ·rw [ixn,ix x (h.svis x hx)] at hle;have:=h.ile x;omega
   ·exact .refl _
  ·rcases (ms x).1 hx with hx | rfl
   ·rw [ix z (h.svis z (h.gst z hz2)),ix x (h.svis x hx)] at hle;exact h.frG z hz2 x hx hle
   ·exact hG z hz2
 ·intro x;rw [show (enterF n s).knots = s.knots from rfl,h.kmem x];constructor
  ·rintro ⟨a,b⟩;exact ⟨by rw [ix x a];exact a,fun e =>((ms x).1 e).elim b (fun e =>a (e ▸ hn))⟩
  ·rintro ⟨a,b⟩;have hxn:x≠n:=fun e =>b ((ms _).2 (.inr e))
   exact ⟨(ve x a).resolve_left hxn,fun e =>b ((ms _).2 (.inl e))⟩
 ·intro x hx;exact ⟨ix x hx,a1R _ _ (fun e =>hx (e ▸ hn))⟩
 ·intro x h0 h1;rcases ve x h1 with rfl | h1
  ·rw [ixn];exact zS0 _
  ·exact absurd h0 h1
 ·have e:(enterF n s).low n = s.next + 1:=a2S _ _ _;exact ⟨by rw [e,ixn];exact zJ0 _,n,(ms n).2 (.inr rfl),by rw [e,ixn],.refl _⟩
 ·intro x hx;cases hx
 ·intro x hx;cases hx
 ·intro x hx;cases hx
theorem b7N {vis:Nat→St→St} {n:Nat} {s t:St} {G pre e:List Nat} {m:Nat} (h:LInv adj N n s t G pre e) (hm:m ∈ adj n) (hv:t.index m = 0→∃ e',Post adj N m t (vis m t) (n :: G) e'):∃ e',LInv adj N n s (stepF vis n t m) G (pre ++ [m]) e':=by
 have hnst:n ∈ t.stack:=by rw [h.ext];simp
 have hsub:∀ y,y ∈ s.stack→y ∈ t.stack:=fun y hy =>by rw [h.ext];exact zT0.2 (.inl hy)
 unfold stepF;by_cases h0:t.index m = 0
 ·rw [if_pos h0];obtain ⟨e',p⟩:=hv h0;have hkn:=p.keep n (h.inv.svis n hnst);have hmn:m≠n:=fun x =>h.inv.svis n hnst (x ▸ h0)
  have ln:(upd (vis m t).low n (min ((vis m t).low n) ((vis m t).low m))) n = min (t.low n) ((vis m t).low m):=by rw [a2S,hkn.2]
  refine ⟨e ++ e',⟨h.nw,h.gs,p.inv.low _,?_,?_,?_,?_,?_,?_,?_,?_,?_⟩⟩
  ·intro x hx;have k1:=h.keep x hx;have hx2:t.index x≠0:=by rw [k1.1];exact hx
   have k2:=p.keep x hx2;refine ⟨k2.1.trans k1.1,?_⟩;have hxn:x≠n:=fun e =>hx (e ▸ h.nw)
   show upd (vis m t).low n _ x = _;rw [a1R _ _ hxn];exact k2.2.trans k1.2
  ·show (vis m t).index n = _;rw [hkn.1];exact h.idn
  ·show (vis m t).stack = _;rw [p.ext,h.ext];simp
  ·exact zF0 h.next p.next
  ·intro x a b;by_cases c:t.index x = 0
   ·exact zP1 (Nat.lt_of_succ_le h.next) (zD2 (p.new x c b))
   ·have:=h.new x a c;rw [← (p.keep x c).1] at this;exact this
  ·show upd _ n _ n≤(vis m t).index n∧∃ y,y ∈ (vis m t).stack∧(vis m t).index y = upd _ n _ n∧_;rw [ln];obtain ⟨l1,y,y1,y2,y3⟩:=h.lown;refine ⟨zF0 (Nat.min_le_left _ _) (by rw [hkn.1];exact l1),?_⟩;by_cases hst:m ∈ (vis m t).stack
   ·obtain ⟨z,z1,z2,z3⟩:=p.snd hst;by_cases hle:t.low n≤(vis m t).low m
    ·rw [Nat.min_eq_left hle];exact qA3
    ·rw [Nat.min_eq_right qC0];exact ⟨z,by rw [p.ext];exact zT0.2 (.inl z1),z2,.step hm z3⟩
   ·have a:=p.off hst;have b:=h.inv.ile n;rw [Nat.min_eq_left qC0];exact qA3
  ·intro x hx y hy hys;show upd _ n _ n≤(vis m t).index y;rw [ln];rcases zT0.1 hx with hx | hx
   ·rw [(p.keep y (h.inv.svis y (hsub y hys))).1];exact zF0 (Nat.min_le_left _ _) (h.cmp x hx y hy hys)
   ·exact zF0 (Nat.min_le_right _ _) (p.cmp x hx y hy (hsub y hys))
  ·intro y hy hys;show upd _ n _ n≤(vis m t).index y;rw [ln,(p.keep y (h.inv.svis y (hsub y hys))).1];rcases zT0.1 hy with hy | hy
   ·exact zF0 (Nat.min_le_left _ _) (h.cmpn y hy hys)
   ·rw [zA1.1 hy] at hys;exact absurd h0 (h.inv.svis m (hsub m hys))
  ·intro y hy;show (vis m t).index y≠0;rcases zT0.1 hy with hy | hy
   ·rw [(p.keep y (h.pvis y hy)).1];exact h.pvis y hy
   ·rw [zA1.1 hy];exact p.vis
 ·rw [if_neg h0];by_cases hon:t.on m = true
  ·rw [if_pos hon];have hms:=(h.inv.son m).1 hon;have ln:(upd t.low n (min (t.low n) (t.index m))) n = min (t.low n) (t.index m):=a2S _ _ _;refine ⟨e,⟨h.nw,h.gs,h.inv.low _,?_,h.idn,h.ext,h.next,h.new,?_,?_,?_,?_⟩⟩
   ·intro x hx;refine ⟨(h.keep x hx).1,?_⟩;have hxn:x≠n:=fun e =>hx (e ▸ h.nw)
    show upd t.low n _ x = _;rw [a1R _ _ hxn];exact (h.keep x hx).2
   ·show upd _ n _ n≤t.index n∧∃ y,y ∈ t.stack∧t.index y = upd _ n _ n∧_;rw [ln];obtain ⟨l1,y,y1,y2,y3⟩:=h.lown;refine ⟨zF0 (Nat.min_le_left _ _) l1,?_⟩;by_cases hle:t.low n≤t.index m
    ·rw [Nat.min_eq_left hle];exact ⟨y,y1,y2,y3⟩
    ·rw [Nat.min_eq_right qC0];exact ⟨m,hms,rfl,.one hm⟩
   ·intro x hx y hy hys;show upd _ n _ n≤t.index y;rw [ln];exact zF0 (Nat.min_le_left _ _) (h.cmp x hx y hy hys)
   ·intro y hy hys;show upd _ n _ n≤t.index y;rw [ln];rcases zT0.1 hy with hy | hy
    ·exact zF0 (Nat.min_le_left _ _) (h.cmpn y hy hys)
    ·rw [zA1.1 hy];exact Nat.min_le_right _ _
   ·intro y hy;rcases zT0.1 hy with hy | hy
    ·exact h.pvis y hy
    ·rw [zA1.1 hy];exact h0
  ·rw [if_neg hon];have hms:m ∉ t.stack:=fun e =>hon ((h.inv.son m).2 e)
   refine ⟨e,⟨h.nw,h.gs,h.inv,h.keep,h.idn,h.ext,h.next,h.new,h.lown,h.cmp,?_,?_⟩⟩
   ·intro y hy hys;rcases zT0.1 hy with hy | hy
    ·exact h.cmpn y hy hys
    ·rw [zA1.1 hy] at hys;exact absurd (hsub m hys) hms
   ·intro y hy;rcases zT0.1 hy with hy | hy
    ·exact h.pvis y hy
    ·rw [zA1.1 hy];exact h0
theorem c0C {s t:St} {G e:List Nat} {n:Nat} (h:LInv adj N n s t G (adj n) e) (hlow:t.low n = t.index n) :
  ∀ x,(x ∈ n :: e∨(t.index x≠0∧x ∉ t.stack))→∀ y,y ∈ adj x→(y ∈ n :: e∨(t.index y≠0∧y ∉ t.stack)):=by
 have hord:=h.inv.sord;rw [h.ext] at hord;intro x hx y hy;rcases hx with hx | hx
 ·-- y has been visited
  have hyv:t.index y≠0:=by
   rcases zQ0.1 hx with rfl | hxe
   ·exact h.pvis y hy
   ·by_cases hg:x ∈ n :: G
    ·-- a grey node on e would stand twice
     rcases zQ0.1 hg with rfl | hg
     ·exact h.pvis y hy
     ·exact absurd ((List.pairwise_append.1 hord).2.2 x (h.gs x hg) x (zP0 _ hxe)) (zX1 _)
    ·exact h.inv.black x (h.inv.svis x (by rw [h.ext];exact zT0.2 (.inr (zP0 _ hxe)))) hg y hy
  by_cases hst:y ∈ t.stack
  ·rw [h.ext] at hst;rcases zT0.1 hst with hs | hs
   ·exfalso;have hle:t.low n≤t.index y:=by
     rcases zQ0.1 hx with rfl | hxe
     ·exact h.cmpn y hy hs
     ·exact h.cmp x hxe y hy hs
    have:=(List.pairwise_append.1 hord).2.2 y hs n zN0;omega
   ·exact .inl hs
  ·exact .inr ⟨hyv,hst⟩
 ·exact .inr (h.inv.dcl x hx.1 hx.2 y hy)
theorem b3L {a:List Nat} {n:Nat} {e:List Nat} (h:n ∉ a):(a ++ n :: e).idxOf n = a.length:=by
 rw [List.idxOf_append,if_neg h];simp
theorem leave_ok {s t:St} {G e:List Nat} {n:Nat} (hs:Inv adj N s G) (h:LInv adj N n s t G (adj n) e):∃ e',Post adj N n s (leaveF n t) G e':=by
 have hord:=h.inv.sord;rw [h.ext] at hord;obtain ⟨o1,o2,o3⟩:=List.pairwise_append.1 hord;have hns:n ∉ s.stack:=fun w =>hs.svis n w h.nw
 have hnst:n ∈ t.stack:=by rw [h.ext];simp
 have hsub:∀ y,y ∈ s.stack→y ∈ t.stack:=fun y hy =>by rw [h.ext];exact zT0.2 (.inl hy)
 have hne:∀ x,x ∈ n :: e→x ∈ t.stack:=fun x hx =>by rw [h.ext];exact zT0.2 (.inr hx)
 have hdis:∀ x,x ∈ s.stack→x ∉ n :: e:=fun x hx hy =>absurd (o3 x hx x hy) (zX1 _)
 have hge:∀ x,x ∈ n :: e→t.index n≤t.index x:=fun x hx =>by
  rcases zQ0.1 hx with rfl | hx
  ·exact zJ0 _
  ·exact zD2 ((zM3.1 o2).1 x hx)
 have hix:∀ x,x ∈ s.stack→t.index x = s.index x:=fun x hx =>(h.keep x (hs.svis x hx)).1
 obtain ⟨l1,y0,y1,y2,y3⟩:=h.lown;unfold leaveF;by_cases hlow:t.low n = t.index n
 ·rw [if_pos hlow];have hcl:=c0C h hlow;have htk:t.stack.take (t.stack.idxOf n) = s.stack:=by rw [h.ext,b3L hns,List.take_left'];rfl
  have hdr:t.stack.drop (t.stack.idxOf n) = n :: e:=by rw [h.ext,b3L hns,List.drop_left'];rfl
  have hst:(knotF n t).stack = s.stack:=htk;have hkn:(knotF n t).knots = t.knots ++ [sortN (n :: e)]:=by show t.knots ++ [sortN _] = _;rw [hdr]
  have c1:∀ x,x ∈ n :: e→Rch adj n x:=fun x hx =>h.inv.frG n zN0 x (hne x hx) (hge x hx)
  have c2:∀ x,x ∈ n :: e→Rch adj x n:=fun x hx =>by
   obtain ⟨z,z1,z2,z3⟩:=h.inv.toG x (hne x hx);rcases zQ0.1 z1 with rfl | zg
   ·exact z3
   ·exfalso;rcases z3.closed _ hcl (.inl hx) with q | q
    ·exact hdis z (h.gs z zg) q
    ·exact q.2 (hsub z (h.gs z zg))
  have c3:∀ x,x ∈ n :: e→∀ y,y ∈ n :: e ↔ Rch adj x y∧Rch adj y x:=fun x hx y =>by
   constructor
   ·exact fun hy =>⟨(c2 x hx).trans (c1 y hy),(c2 y hy).trans (c1 x hx)⟩
   ·rintro ⟨r1,r2⟩;rcases r1.closed _ hcl (.inl hx) with q | q
    ·exact q
    ·exfalso;have:t.index x≠0∧x ∉ t.stack:=r2.closed (fun z =>t.index z≠0∧z ∉ t.stack) (fun z hz w hw =>h.inv.dcl z hz.1 hz.2 w hw) q;exact this.2 (hne x hx)
  have hkc:IsKnot adj (sortN (n :: e)):=by
   refine ⟨fun w =>?_,?_,fun x hx y =>?_⟩
   ·have:n ∈ sortN (n :: e):=a4V.2 zN0;rw [w] at this;cases this
   ·have:=List.pairwise_mergeSort (le:=fun a b:Nat =>decide (a≤b)) (fun a b c h1 h2 =>by simp at *;omega) (fun a b =>by simp;omega) (n :: e);exact this.imp (fun h =>by simpa using h)
   ·rw [a4V];exact c3 x (a4V.1 hx) y
  refine ⟨[],⟨⟨h.inv.vlt,h.inv.ile,?_,?_,?_,?_,?_,?_,?_,?_,?_,?_,?_⟩,h.keep,?_,?_,Nat.le_of_succ_le h.next,h.new,?_,?_,?_⟩⟩
  ·intro x;show (if x ∈ t.stack.drop (t.stack.idxOf n) then false else t.on x) = true ↔ x ∈ (knotF n t).stack;rw [hdr,hst];by_cases hx:x ∈ n :: e
   ·rw [if_pos hx];exact ⟨fun w =>(by cases w),fun w =>absurd hx (hdis x w)⟩
   ·rw [if_neg hx,h.inv.son x,h.ext,zT0];exact ⟨fun w =>w.resolve_right hx,.inl⟩
  ·intro x hx;rw [hst] at hx;exact h.inv.svis x (hsub x hx)
  ·rw [hst];exact o1
  ·intro x hx;rw [hst];exact h.gs x hx
  ·intro x hx hg y hy;by_cases hxn:x = n
   ·subst hxn;exact h.pvis y hy
   ·exact h.inv.black x hx (fun w =>(zQ0.1 w).elim hxn hg) y hy
  ·intro x hx hxs y hy;rw [hst] at hxs ⊢;have:x ∈ n :: e∨(t.index x≠0∧x ∉ t.stack):=by
    by_cases hx2:x ∈ t.stack
    ·rw [h.ext] at hx2;exact .inl ((zT0.1 hx2).resolve_left hxs)
    ·exact .inr ⟨hx,hx2⟩
   rcases hcl x this y hy with q | q
   ·exact ⟨h.inv.svis y (hne y q),fun w =>hdis y w q⟩
   ·exact ⟨q.1,fun w =>q.2 (hsub y w)⟩
  ·intro x hx;rw [hst] at hx;obtain ⟨z,a,b,c⟩:=hs.toG x hx;exact ⟨z,a,by show t.index z≤t.index x;rw [hix z (h.gs z a),hix x hx];exact b,c⟩
  ·intro z hz x hx hle;rw [hst] at hx;have hle':t.index z≤t.index x:=hle;rw [hix z (h.gs z hz),hix x hx] at hle';exact hs.frG z hz x hx hle'
  ·intro l hl;rw [hkn] at hl;rcases zT0.1 hl with hl | hl
   ·exact h.inv.kcl l hl
   ·rw [zA1.1 hl];exact hkc
  ·intro x;show _ ↔ t.index x≠0∧x ∉ (knotF n t).stack;rw [hkn,hst];constructor
   ·rintro ⟨l,hl,hx⟩;rcases zT0.1 hl with hl | hl
    ·obtain ⟨a,b⟩:=(h.inv.kmem x).1 ⟨l,hl,hx⟩;exact ⟨a,fun w =>b (hsub x w)⟩
    ·rw [zA1.1 hl] at hx;have hx':=a4V.1 hx;exact ⟨h.inv.svis x (hne x hx'),fun w =>hdis x w hx'⟩
   ·rintro ⟨a,b⟩;by_cases hx2:x ∈ t.stack
    ·have:x ∈ n :: e:=by rw [h.ext] at hx2;exact (zT0.1 hx2).resolve_left b
     exact ⟨_,zT0.2 (.inr zN0),a4V.2 this⟩
    ·obtain ⟨l,hl,hx⟩:=(h.inv.kmem x).2 ⟨a,hx2⟩;exact ⟨l,zT0.2 (.inl hl),hx⟩
  ·rw [hkn];refine List.pairwise_append.2 ⟨h.inv.kdis,List.pairwise_singleton _ _,fun l hl m hm x hx w =>?_⟩;rw [zA1.1 hm] at w;exact ((h.inv.kmem x).1 ⟨l,hl,hx⟩).2 (hne x (a4V.1 w))
  ·exact h.inv.svis n hnst
  ·rw [hst,zR2]
  ·intro w;rw [hst] at w;exact absurd w hns
  ·intro _;show s.next < t.low n;rw [hlow,h.idn];exact zS0 _
  ·intro x hx;cases hx
 ·rw [if_neg hlow];have hlt:t.low n < t.index n:=by omega
  refine ⟨n :: e,⟨⟨h.inv.vlt,h.inv.ile,h.inv.son,h.inv.svis,h.inv.sord,fun x hx =>hsub x (h.gs x hx),?_,h.inv.dcl,?_,fun z hz =>h.inv.frG z (zP0 _ hz),h.inv.kcl,h.inv.kmem,h.inv.kdis⟩,h.keep,h.inv.svis n hnst,h.ext,Nat.le_of_succ_le h.next,h.new,?_,fun w =>absurd hnst w,?_⟩⟩
  ·intro x hx hg y hy;by_cases hxn:x = n
   ·subst hxn;exact h.pvis y hy
   ·exact h.inv.black x hx (fun w =>(zQ0.1 w).elim hxn hg) y hy
  ·intro x hx;obtain ⟨z,z1,z2,z3⟩:=h.inv.toG x hx;rcases zQ0.1 z1 with rfl | zg
   ·obtain ⟨q,q1,q2,q3⟩:=h.inv.toG y0 y1;rcases zQ0.1 q1 with rfl | qg
    ·omega
    ·exact ⟨q,qg,by omega,z3.trans (y3.trans q3)⟩
   ·exact ⟨z,zg,z2,z3⟩
  ·intro _;refine ⟨y0,?_,y2,y3⟩;have y1':=y1;rw [h.ext] at y1';refine (zT0.1 y1').resolve_right (fun w =>?_);have:=hge y0 w;omega
  ·intro x hx y hy hys;rcases zQ0.1 hx with rfl | hx
   ·exact h.cmpn y hy hys
   ·exact h.cmp x hx y hy hys
def whites (N:Nat) (s:St):Nat:=(List.range N).countP (fun x =>decide (s.index x = 0))
theorem b2O {N:Nat} {s t:St} {n:Nat} (hn:n < N) (h:∀ x,s.index x≠0→t.index x≠0) (h0:s.index n = 0) (h1:t.index n≠0):whites N t < whites N s:=by
 unfold whites;have key:∀ l:List Nat,n ∈ l→l.countP (fun x =>decide (t.index x = 0)) < l.countP (fun x =>decide (s.index x = 0)):=by
  intro l
  induction l with
  | nil =>intro w;cases w
  | cons a r ih =>
   intro w;have hr:r.countP (fun x =>decide (t.index x = 0))≤r.countP (fun x =>decide (s.index x = 0)) :=
    List.countP_mono_left fun x _ hx =>by
     simp only [zB2] at hx ⊢;exact Classical.byContradiction fun w =>h x w hx
   rw [List.countP_cons,List.countP_cons];by_cases ha:a = n
   ·subst ha;simp [h0,h1];omega
   ·have:=ih ((zQ0.1 w).resolve_left (fun e =>ha e.symm));by_cases q:t.index a = 0
    ·have q2:s.index a = 0:=Classical.byContradiction fun w =>h a w q
     simp [q,q2];exact this
    ·simp [q];split <;> omega
 exact key _ (zX0.2 hn)
theorem loop_ok (hN:∀ x,x < N→∀ y,y ∈ adj x→y < N) {vis:Nat→St→St} {n:Nat} {s:St} {G:List Nat} (hs:Inv adj N s G) :
  ∀ (suf pre:List Nat) (t:St) (e:List Nat),pre ++ suf = adj n→LInv adj N n s t G pre e →
   (∀ (t':St) (G':List Nat) (m:Nat),Inv adj N t' G'→t'.index m = 0→m < N→(∀ z,z ∈ G'→Rch adj z m)→whites N t' < whites N s→∃ e',Post adj N m t' (vis m t') G' e')→n < N →
   ∃ e',LInv adj N n s (suf.foldl (stepF vis n) t) G (adj n) e':=by
 intro suf
 induction suf with
 | nil =>intro pre t e hp h _ _;rw [zR2] at hp;subst hp;exact ⟨e,h⟩
 | cons m r ih =>
  intro pre t e hp h hv hn;have hm:m ∈ adj n:=by rw [← hp];simp
  have hw:whites N t < whites N s:=b2O hn (fun x hx =>by rw [(h.keep x hx).1];exact hx) h.nw (by rw [h.idn];exact Nat.succ_ne_zero _)
  obtain ⟨e',h'⟩:=b7N h hm (fun h0 =>hv t (n :: G) m h.inv h0 (hN n hn m hm) (fun z hz =>by
   rcases zQ0.1 hz with rfl | hz
   ·exact .one hm
   ·refine Rch.trans (h.inv.frG z (zP0 _ hz) n (by rw [h.ext];simp) ?_) (.one hm);rw [h.idn,(h.keep z (hs.svis z (h.gs z hz))).1]
    exact Nat.le_succ_of_le (hs.ile z)) hw)
  exact ih (pre ++ [m]) _ e' (by rw [← hp];simp) h' hv hn
theorem b1H (hN:∀ x,x < N→∀ y,y ∈ adj x→y < N):∀ (k:Nat) (s:St) (G:List Nat) (n:Nat),Inv adj N s G→s.index n = 0→n < N→(∀ z,z ∈ G→Rch adj z n)→whites N s≤k→∃ e,Post adj N n s (visitF adj k n s) G e:=by
 intro k
 induction k with
 | zero =>
  intro s G n hs h0 hn _ hk;exfalso;have:whites N s = 0:=Nat.le_zero.1 hk;unfold whites at this;rw [List.countP_eq_zero] at this;exact this n (zX0.2 hn) (by simpa using h0)
 | succ k ih =>
  intro s G n hs h0 hn hG hk;obtain ⟨e,h⟩:=loop_ok hN (vis:=visitF adj k) hs (adj n) [] _ _ rfl (b5Z hs h0 hn hG) (fun t' G' m a b c d w =>ih t' G' m a b c d qC0) hn;exact leave_ok hs h
def rootsF (adj:Nat→List Nat) (N:Nat) (l:List Nat) (s:St):St:=l.foldl (fun t n =>if t.index n = 0 then visitF adj N n t else t) s
def st0:St:=⟨0,fun _ =>0,fun _ =>0,[],fun _ =>false,[]⟩
theorem a6H (N:Nat) (s:St):whites N s≤N:=by
 have:=List.countP_le_length (p:=fun x =>decide (s.index x = 0)) (l:=List.range N);simpa [whites] using this
theorem roots_ok (hN:∀ x,x < N→∀ y,y ∈ adj x→y < N):∀ (l:List Nat) (s:St),(∀ x,x ∈ l→x < N)→Inv adj N s []→Inv adj N (rootsF adj N l s) []∧(∀ x,s.index x≠0→(rootsF adj N l s).index x≠0)∧∀ x,x ∈ l→(rootsF adj N l s).index x≠0:=by
 intro l
 induction l with
 | nil =>intro s _ h;exact ⟨h,fun _ h =>h,fun _ h =>by cases h⟩
 | cons n r ih =>
  intro s hl h;by_cases h0:s.index n = 0
  ·obtain ⟨e,p⟩:=b1H hN N s [] n h h0 (hl n zN0) (fun _ h =>by cases h) (a6H N s);obtain ⟨a,b,c⟩:=ih (visitF adj N n s) (fun x hx =>hl x (zP0 _ hx)) p.inv;have e1:rootsF adj N (n :: r) s = rootsF adj N r (visitF adj N n s):=by simp [rootsF,h0]
   rw [e1];refine ⟨a,fun x hx =>b x (by rw [(p.keep x hx).1];exact hx),fun x hx =>?_⟩;rcases zQ0.1 hx with rfl | hx
   ·exact b _ p.vis
   ·exact c x hx
  ·obtain ⟨a,b,c⟩:=ih s (fun x hx =>hl x (zP0 _ hx)) h;have e1:rootsF adj N (n :: r) s = rootsF adj N r s:=by simp [rootsF,h0]
   rw [e1];refine ⟨a,b,fun x hx =>?_⟩;rcases zQ0.1 hx with rfl | hx
   ·exact b _ h0
   ·exact c x hx
theorem inv0:Inv adj N st0 []:=by
 refine ⟨fun x h =>absurd rfl h,fun _ =>zJ0 _,fun x =>?_,fun x h =>?_,List.Pairwise.nil,fun x h =>?_,fun x h =>absurd rfl h,fun x h =>absurd rfl h,fun x h =>?_,fun z h =>?_,fun l h =>?_,fun x =>?_,List.Pairwise.nil⟩
 ·simp [st0]
 ·cases h
 ·cases h
 ·cases h
 ·cases h
 ·cases h
 ·constructor
  ·rintro ⟨l,h,_⟩;cases h
  ·rintro ⟨h,_⟩;exact absurd rfl h
def knotsF (adj:Nat→List Nat) (N:Nat):List (List Nat):=(rootsF adj N (List.range N) st0).knots
theorem knots_ok (hN:∀ x,x < N→∀ y,y ∈ adj x→y < N):(∀ l,l ∈ knotsF adj N→IsKnot adj l)∧(knotsF adj N).Pairwise (fun l m =>∀ x,x ∈ l→x ∉ m)∧∀ x,(∃ l,l ∈ knotsF adj N∧x ∈ l) ↔ x < N:=by
 obtain ⟨h,_,hv⟩:=roots_ok hN (List.range N) st0 (fun x hx =>zX0.1 hx) inv0;refine ⟨h.kcl,h.kdis,fun x =>?_⟩;have hst:∀ y,y ∉ (rootsF adj N (List.range N) st0).stack:=fun y hy =>by obtain ⟨z,hz,_⟩:=h.toG y hy;cases hz
 constructor
 ·intro hx;exact h.vlt x ((h.kmem x).1 hx).1
 ·intro hx;exact (h.kmem x).2 ⟨hv x (zX0.2 hx),hst x⟩
end
def Sc (adj:Nat→List Nat) (x y:Nat):Prop:=Rch adj x y∧Rch adj y x
theorem Sc.refl (adj:Nat→List Nat) (x:Nat):Sc adj x x:=⟨.refl _,.refl _⟩
theorem Sc.symm {adj:Nat→List Nat} {x y:Nat} (h:Sc adj x y):Sc adj y x:=⟨h.2,h.1⟩
theorem Sc.trans {adj:Nat→List Nat} {x y z:Nat} (h:Sc adj x y) (k:Sc adj y z):Sc adj x z:=⟨h.1.trans k.1,k.2.trans h.2⟩
theorem Rch.lt {adj:Nat→List Nat} {N:Nat} (hN:∀ x,x < N→∀ y,y ∈ adj x→y < N) {x y:Nat} (r:Rch adj x y) (h:x < N):y < N:=r.closed (fun x =>x < N) hN h
def Rdy (adj:Nat→List Nat) (num:Nat→Nat) (k m:Nat):Prop:=k≤num m∧∀ y,Rch adj m y→num y < k∨Rch adj y m
structure Nmb (adj:Nat→List Nat) (N M:Nat) (num:Nat→Nat):Prop where
 cls:∀ x y,x < N→y < N→(num x = num y ↔ Sc adj x y)
 lt:∀ x,x < N→num x < M
 at_:∀ k,k < M→∃ n,n < N∧num n = k∧Rdy adj num k n∧∀ m,m < N→Rdy adj num k m→n≤m
section
variable {adj:Nat→List Nat} {N M M':Nat} {num num':Nat→Nat}
theorem Rdy.other (hN:∀ x,x < N→∀ y,y ∈ adj x→y < N) {k:Nat} (ih:∀ x,x < N→(num x < k ↔ num' x < k)) {m:Nat} (hm:m < N) (h:Rdy adj num k m):Rdy adj num' k m :=
 ⟨by have:=ih m hm;have:=h.1;omega,fun y r =>(h.2 y r).imp (fun q =>(ih y (r.lt hN hm)).1 q) id⟩
theorem Nmb.one (hN:∀ x,x < N→∀ y,y ∈ adj x→y < N) (h:Nmb adj N M num) (h':Nmb adj N M' num') {k:Nat} (ih:∀ x,x < N→(num x < k ↔ num' x < k)) {x:Nat} (hx:x < N) (e:num x = k):num' x = k:=by
 obtain ⟨n,n1,n2,n3,n4⟩:=h.at_ k (by have:=h.lt x hx;omega);have r1:=n3.other hN ih n1;obtain ⟨n',q1,q2,q3,q4⟩:=h'.at_ k (by have:=h'.lt n n1;have:=r1.1;omega);have r2:=q3.other hN (fun x hx =>(ih x hx).symm) q1;have a:=q4 n n1 r1;have b:=n4 n' q1 r2;obtain rfl:n = n':=by omega
 have s:=(h.cls x n hx n1).1 qC0;have:=(h'.cls x n hx n1).2 s;omega
theorem Nmb.uniq (hN:∀ x,x < N→∀ y,y ∈ adj x→y < N) (h:Nmb adj N M num) (h':Nmb adj N M' num'):M = M'∧∀ x,x < N→num x = num' x:=by
 have P:∀ k x,x < N→(num x = k ↔ num' x = k):=by
  intro k
  induction k using Nat.strongRecOn with
  | _ k ih =>
   have ih':∀ x,x < N→(num x < k ↔ num' x < k):=fun x hx =>by
    constructor
    ·intro q;have:=(ih _ q x hx).1 rfl;omega
    ·intro q;have:=(ih _ q x hx).2 rfl;omega
   exact fun x hx =>⟨fun e =>h.one hN h' ih' hx e,fun e =>h'.one hN h (fun x hx =>(ih' x hx).symm) hx e⟩
 refine ⟨?_,fun x hx =>((P (num x) x hx).1 rfl).symm⟩;rcases Nat.lt_trichotomy M M' with c | c | c
 ·obtain ⟨n,n1,n2,_⟩:=h'.at_ M c;have:=(P M n n1).2 n2;have:=h.lt n n1;omega
 ·exact c
 ·obtain ⟨n,n1,n2,_⟩:=h.at_ M' c;have:=(P M' n n1).1 n2;have:=h'.lt n n1;omega
theorem Nmb.down (hN:∀ x,x < N→∀ y,y ∈ adj x→y < N) (h:Nmb adj N M num) {x y:Nat} (hx:x < N) (r:Rch adj x y):num y≤num x:=by
 obtain ⟨n,n1,n2,n3,n4⟩:=h.at_ (num x) (h.lt x hx);have s:=(h.cls x n hx n1).1 qC0;rcases n3.2 y (s.2.trans r) with q | q
 ·omega
 ·have hy:=r.lt hN hx;have:=(h.cls n y n1 hy).2 ⟨s.2.trans r,q⟩;omega
theorem b5Y {α:Type} {l:List α} {p q:α→Bool} (h:∀ x,x ∈ l→p x = true→q x = true) {n:α} (hn:n ∈ l) (h1:q n = true) (h2:p n = false):(l.filter p).length < (l.filter q).length:=by
 induction l with
 | nil =>cases hn
 | cons a t ih =>
  have hle:(t.filter p).length≤(t.filter q).length:=by
   clear ih hn;have ht:∀ x,x ∈ t→p x = true→q x = true:=fun x hx =>h x (zP0 _ hx)
   clear h
   induction t with
   | nil =>exact zJ0 _
   | cons b s ih2 =>
    have:=ih2 (fun x hx =>ht x (zP0 _ hx));have hb:=ht b zN0;rw [zA2,zA2];by_cases e:p b = true
    ·rw [if_pos e,if_pos (hb e)];simpa using this
    ·rw [if_neg e]
     split <;> simp <;> omega
  rw [zA2,zA2];rcases zQ0.1 hn with rfl | hn
  ·rw [if_neg (by rw [h2];simp),if_pos h1,zR0];omega
  ·have:=ih (fun x hx =>h x (zP0 _ hx)) hn;have ha:=h a zN0;by_cases e:p a = true
   ·rw [if_pos e,if_pos (ha e)];simpa using this
   ·rw [if_neg e]
    split <;> simp <;> omega
def Rd (adj:Nat→List Nat) (o:Nat→Int) (j m:Nat):Prop:=¬ (0≤o m∧o m < j)∧∀ y,Rch adj m y→(0≤o y∧o y < j)∨Rch adj y m
structure Pn (adj:Nat→List Nat) (N k:Nat) (o:Nat→Int):Prop where
 lo:∀ x,x < N→-1≤o x∧o x < k
 cls:∀ x y,x < N→y < N→0≤o x→(o x = o y ↔ Sc adj x y)
 at_:∀ j,j < k→∃ n,n < N∧o n = j∧Rd adj o j n∧∀ m,m < N→Rd adj o j m→n≤m
variable {k:Nat} {o:Nat→Int}
theorem Pn.start (adj:Nat→List Nat) (N:Nat):Pn adj N 0 (fun _ =>-1):=⟨fun x _ =>by omega,fun x y _ _ h =>by omega,fun j h =>by omega⟩
theorem Pn.congr {o':Nat→Int} (hN:∀ x,x < N→∀ y,y ∈ adj x→y < N) (h:Pn adj N k o) (e:∀ x,x < N→o' x = o x):Pn adj N k o':=by
 refine ⟨fun x hx =>by rw [e x hx];exact h.lo x hx,fun x y hx hy =>by rw [e x hx,e y hy];exact h.cls x y hx hy,fun j hj =>?_⟩;have hr:∀ m,m < N→(Rd adj o' j m ↔ Rd adj o j m):=fun m hm =>by
  unfold Rd;rw [e m hm];exact ⟨fun q =>⟨q.1,fun y r =>by have:=q.2 y r;rw [e y (r.lt hN hm)] at this;exact this⟩,fun q =>⟨q.1,fun y r =>by rw [e y (r.lt hN hm)];exact q.2 y r⟩⟩
 obtain ⟨n,a,b,c,d⟩:=h.at_ j hj;exact ⟨n,a,by rw [e n a];exact b,(hr n a).2 c,fun m hm q =>d m hm ((hr m hm).1 q)⟩
theorem Pn.shut (hN:∀ x,x < N→∀ y,y ∈ adj x→y < N) (h:Pn adj N k o) {x y:Nat} (hx:x < N) (h0:0≤o x) (r:Rch adj x y):0≤o y:=by
 obtain ⟨j,hj⟩:∃ j:Nat,o x = j:=⟨(o x).toNat,by omega⟩;obtain ⟨n,a,b,c,d⟩:=h.at_ j (by have:=(h.lo x hx).2;omega);have s:=(h.cls x n hx a h0).1 qC0;rcases c.2 y (s.2.trans r) with q | q
 ·exact q.1
 ·have hy:=r.lt hN hx;have:=(h.cls n y a hy qC0).2 ⟨s.2.trans r,q⟩;omega
open Classical in
theorem Pn.step (hN:∀ x,x < N→∀ y,y ∈ adj x→y < N) (h:Pn adj N k o) {n:Nat} (hn:n < N) (h0:o n < 0) (hr:∀ y,Rch adj n y→0≤o y∨Rch adj y n)
  (hl:∀ m,m < N→o m < 0→(∀ y,Rch adj m y→0≤o y∨Rch adj y m)→n≤m) {o':Nat→Int} (ho:∀ x,x < N→o' x = if Sc adj n x then (k:Int) else o x):Pn adj N (k + 1) o':=by
 have hsc:∀ x,x < N→Sc adj n x→o x < 0:=fun x hx s =>by
  apply Classical.byContradiction;intro q;have:=(h.cls x n hx hn qC0).2 s.symm;omega
 have low:∀ x,x < N→∀ j:Nat,j≤k→((0≤o' x∧o' x < j) ↔ (0≤o x∧o x < j)):=fun x hx j hj =>by
  rw [ho x hx];by_cases s:Sc adj n x
  ·rw [if_pos s];have:=hsc x hx s;omega
  ·rw [if_neg s]
 have rd:∀ j,j≤k→∀ m,m < N→(Rd adj o' j m ↔ Rd adj o j m):=fun j hj m hm =>by
  unfold Rd;constructor
  ·exact fun q =>⟨fun w =>q.1 ((low m hm j hj).2 w),fun y r =>(q.2 y r).imp (fun w =>(low y (r.lt hN hm) j hj).1 w) id⟩
  ·exact fun q =>⟨fun w =>q.1 ((low m hm j hj).1 w),fun y r =>(q.2 y r).imp (fun w =>(low y (r.lt hN hm) j hj).2 w) id⟩
 refine ⟨fun x hx =>?_,fun x y hx hy hx0 =>?_,fun j hj =>?_⟩
 ·rw [ho x hx];have:=h.lo x hx
  split <;> omega
 ·rw [ho x hx] at hx0 ⊢;rw [ho y hy];by_cases sx:Sc adj n x
  ·rw [if_pos sx];by_cases sy:Sc adj n y
   ·rw [if_pos sy];exact ⟨fun _ =>sx.symm.trans sy,fun _ =>rfl⟩
   ·rw [if_neg sy];have:=(h.lo y hy).2;exact ⟨fun e =>by omega,fun s =>absurd (sx.trans s) sy⟩
  ·rw [if_neg sx] at hx0 ⊢;by_cases sy:Sc adj n y
   ·rw [if_pos sy];have:=(h.lo x hx).2;exact ⟨fun e =>by omega,fun s =>absurd (sy.trans s.symm) sx⟩
   ·rw [if_neg sy];exact h.cls x y hx hy hx0
 ·by_cases e:j = k
  ·subst e;refine ⟨n,hn,by rw [ho n hn,if_pos (Sc.refl _ _)],(rd j (zJ0 _) n hn).2 ⟨by omega,fun y r =>?_⟩,fun m hm q =>?_⟩
   ·rcases hr y r with w | w
    ·exact .inl ⟨w,(h.lo y (r.lt hN hn)).2⟩
    ·exact .inr w
   ·have q':=(rd j (zJ0 _) m hm).1 q;refine hl m hm ?_ (fun y r =>(q'.2 y r).imp (fun w =>w.1) id);have:=(h.lo m hm).2;have:=q'.1;omega
  ·obtain ⟨n',a,b,c,d⟩:=h.at_ j qC0;refine ⟨n',a,?_,(rd j qC0 n' a).2 c,fun m hm q =>d m hm ((rd j qC0 m hm).1 q)⟩;rw [ho n' a,if_neg (fun s =>by have:=hsc n' a s;omega)];exact b
theorem Pn.done (h:Pn adj N k o) (ha:∀ x,x < N→0≤o x) {num:Nat→Nat} (hn:∀ x,x < N→(num x:Int) = o x) (hN:∀ x,x < N→∀ y,y ∈ adj x→y < N):Nmb adj N k num:=by
 refine ⟨fun x y hx hy =>?_,fun x hx =>?_,fun j hj =>?_⟩
 ·rw [← h.cls x y hx hy (ha x hx),← hn x hx,← hn y hy];omega
 ·have:=(h.lo x hx).2;have:=hn x hx;omega
 ·have rd:∀ m,m < N→(Rdy adj num j m ↔ Rd adj o j m):=fun m hm =>by
   unfold Rdy Rd;have e:=hn m hm;constructor
   ·exact fun q =>⟨by have:=q.1;omega,fun y r =>(q.2 y r).imp (fun w =>by have:=hn y (r.lt hN hm);have:=ha y (r.lt hN hm);omega) id⟩
   ·exact fun q =>⟨by have:=q.1;have:=ha m hm;omega,fun y r =>(q.2 y r).imp (fun w =>by have:=hn y (r.lt hN hm);omega) id⟩
  obtain ⟨n,a,b,c,d⟩:=h.at_ j hj;exact ⟨n,a,by have:=hn n a;omega,(rd n a).2 c,fun m hm q =>d m hm ((rd m hm).1 q)⟩
open Classical in
theorem Pn.some (hN:∀ x,x < N→∀ y,y ∈ adj x→y < N) (h:Pn adj N k o) {x:Nat} (hx:x < N) (h0:o x < 0):∃ n,n < N∧o n < 0∧∀ y,Rch adj n y→0≤o y∨Rch adj y n:=by
 obtain ⟨c,hc⟩:∃ c,c = ((List.range N).filter (fun y =>decide (Rch adj x y∧o y < 0))).length:=⟨_,rfl⟩
 induction c using Nat.strongRecOn generalizing x with
 | _ c ih =>
  by_cases q:∀ y,Rch adj x y→0≤o y∨Rch adj y x
  ·exact ⟨x,hx,h0,q⟩
  ·obtain ⟨y,hy⟩:=Classical.not_forall.1 q;obtain ⟨r,hy2⟩:=Classical.not_imp.1 hy;have hy3:¬ 0≤o y:=fun w =>hy2 (.inl w)
   have hy4:¬ Rch adj y x:=fun w =>hy2 (.inr w)
   have hyN:=r.lt hN hx;refine ih _ ?_ hyN qC0 rfl;rw [hc];refine b5Y (n:=x) (fun z _ hz =>?_) (zX0.2 hx) ?_ ?_
   ·have:=zB0 hz;exact zI0 ⟨r.trans this.1,this.2⟩
   ·exact zI0 ⟨.refl _,h0⟩
   ·exact zM0 (fun w =>hy4 w.1)
def uns (N:Nat) (o:Nat→Int):Nat:=((List.range N).filter (fun x =>decide (o x < 0))).length
theorem uns_zero {N:Nat} {o:Nat→Int} (h:uns N o = 0):∀ x,x < N→0≤o x:=fun x hx =>by
 have e:=List.eq_nil_of_length_eq_zero h;apply Classical.byContradiction;intro q;have:x ∈ (List.range N).filter (fun x =>decide (o x < 0)):=zT1.2 ⟨zX0.2 hx,by simp;omega⟩;rw [e] at this;cases this
theorem uns_lt {N:Nat} {o o':Nat→Int} {n:Nat} (hn:n < N) (h:∀ x,x < N→o' x < 0→o x < 0) (h1:o n < 0) (h2:0≤o' n):uns N o' < uns N o :=
 b5Y (n:=n) (fun x hx hp =>zI0 (h x (zX0.1 hx) (zB0 hp))) (zX0.2 hn) (zI0 h1) (zM0 qC0)
theorem least_ex (P:Nat→Prop) (N:Nat):(∃ n,n < N∧P n∧∀ x,x < n→¬ P x)∨∀ x,x < N→¬ P x:=by
 induction N with
 | zero =>exact .inr (fun x h =>by omega)
 | succ N ih =>
  rcases ih with ⟨n,a,b,c⟩ | h
  ·exact .inl ⟨n,by omega,b,c⟩
  ·by_cases p:P N
   ·exact .inl ⟨N,by omega,p,h⟩
   ·exact .inr (fun x hx =>by
     by_cases e:x = N
     ·rw [e];exact p
     ·exact h x qC0)
open Classical in
theorem b6S (hN:∀ x,x < N→∀ y,y ∈ adj x→y < N):∃ M num,Nmb adj N M num:=by
 have key:∀ (u k:Nat) (o:Nat→Int),Pn adj N k o→uns N o≤u→∃ M num,Nmb adj N M num:=by
  intro u
  induction u with
  | zero =>
   intro k o h hu;have ha:=uns_zero (Nat.le_zero.1 hu);exact qB3
  | succ u ih =>
   intro k o h hu;rcases least_ex (fun x =>o x < 0∧∀ y,Rch adj x y→0≤o y∨Rch adj y x) N with ⟨n,n1,⟨n2,n3⟩,n4⟩ | hno
   ·have h2:=h.step hN n1 n2 n3 (fun m hm m1 m2 =>by
     apply Classical.byContradiction;intro q
     exact n4 m qC0 ⟨m1,m2⟩) (o':=fun x =>if Sc adj n x then (k:Int) else o x) (fun x _ =>rfl)
    refine ih (k + 1) _ h2 ?_
    have:=uns_lt (N:=N) (o:=o) (o':=fun x =>if Sc adj n x then (k:Int) else o x) n1 (fun x _ q =>by
     have q':(if Sc adj n x then (k:Int) else o x) < 0:=q
     split at q'
     ·omega
     ·exact q') n2 (by show 0≤(if Sc adj n n then (k:Int) else o n);rw [if_pos (Sc.refl _ _)];omega)
    omega
   ·have ha:∀ x,x < N→0≤o x:=fun x hx =>by
     apply Classical.byContradiction;intro q;obtain ⟨n,a,b,c⟩:=h.some hN hx qC0;exact hno n a ⟨b,c⟩
    exact qB3
 exact key _ 0 _ (Pn.start adj N) (zJ0 _)
end
end Go.Proofs.YthhgfncliffggaaGreat.Tarj
namespace Go.Proofs.YthhgfncliffggaaGreat.Man
open Go.Lib
section
variable {α:Type} [Inhabited α] [DecidableEq α]
theorem a9U (zs:List α) (x:α):x ∈ compact zs ↔ x ∈ zs:=by
 unfold compact compactUpTo;simp only [zW2,zT1,zX0];constructor
 ·rintro ⟨j,⟨hj,_⟩,rfl⟩;have:zs.toArray[j]! = zs[j]:=by simp [hj]
  rw [this];exact zD1 hj
 ·intro hx;obtain ⟨j,hj,rfl⟩:=List.getElem_of_mem hx;have main:∀ j,j < zs.length→∃ a,(a < zs.length∧keeps zs.toArray a = true)∧zs.toArray[a]! = zs.toArray[j]!:=by
   intro j
   induction j with
   | zero =>intro h;exact ⟨0,⟨h,by simp [keeps]⟩,rfl⟩
   | succ j ih =>
    intro h;by_cases he:zs.toArray[j + 1]! = zs.toArray[j]!
    ·obtain ⟨a,h1,h2⟩:=ih qC0;exact ⟨a,h1,h2.trans he.symm⟩
    ·exact ⟨j + 1,⟨h,keeps_pos (by simpa using he)⟩,rfl⟩
  obtain ⟨a,h1,h2⟩:=main j hj;exact ⟨a,h1,by rw [h2];simp [hj]⟩
theorem a7N (zs:List α) (le:α→α→Prop) (ha:∀ a b,le a b→le b a→a = b) (hs:∀ i j (hi:i < zs.length) (hj:j < zs.length),i≤j→le zs[i] zs[j]):(compact zs).Pairwise (fun a b =>le a b∧a≠b):=by
 unfold compact compactUpTo;rw [zT3];have h0:((List.range zs.length).filter (keeps zs.toArray)).Pairwise (fun a b =>a < b∧(a < zs.length∧b < zs.length)∧keeps zs.toArray b = true):=by
  have h1:((List.range zs.length).filter (keeps zs.toArray)).Pairwise (· < ·):=List.Pairwise.filter _ zV3;refine List.Pairwise.imp_of_mem (fun {a b} h2 h3 h =>⟨h,?_,?_⟩) h1
  ·exact ⟨zX0.1 (zT1.1 h2).1,zX0.1 (zT1.1 h3).1⟩
  ·exact (zT1.1 h3).2
 refine List.Pairwise.imp (fun {a b} h =>?_) h0;obtain ⟨h1,⟨h2,h3⟩,h4⟩:=h;have ea:zs.toArray[a]! = zs[a]:=by simp [h2]
 have eb:zs.toArray[b]! = zs[b]:=by simp [h3]
 rw [ea,eb];refine ⟨hs a b h2 h3 qC0,fun e =>?_⟩;simp only [keeps,zB2] at h4;rcases h4 with h4 | h4
 ·omega
 ·apply h4;have hb1:b - 1 < zs.length:=by omega
  have ec:zs.toArray[b - 1]! = zs[b - 1]:=by simp [hb1]
  rw [eb,ec];refine ha _ _ ?_ (hs (b - 1) b hb1 h3 qC0);rw [← e];exact hs a (b - 1) h2 hb1 qC0
end
end Go.Proofs.YthhgfncliffggaaGreat.Man
namespace Go.Proofs.YthhgfncliffggaaGreat.Tarj
structure KH (adj:Nat→List Nat) (N K:Nat) (cls lw:Nat→Nat) (r tn:Nat→List Nat):Prop where
 hN:∀ x,x < N→∀ y,y ∈ adj x→y < N
 cl:∀ x,x < N→cls x < K
 sc:∀ x y,x < N→y < N→(cls x = cls y ↔ Sc adj x y)
 lw1:∀ k,k < K→lw k < N∧cls (lw k) = k
 lw2:∀ x,x < N→lw (cls x)≤x
 rm:∀ k,k < K→∀ j,j ∈ r k ↔ j≠k∧∃ x,x < N∧cls x = k∧∃ y,y ∈ adj x∧cls y = j
 rn:∀ k,k < K→(r k).Nodup
 tm:∀ k,k < K→∀ j,j ∈ tn k ↔ j < K∧k ∈ r j
 tnn:∀ k,k < K→(tn k).Nodup
def oD (cls:Nat→Nat) (dn:Nat→Bool) (num:Nat→Nat):Nat→Int:=fun x =>if dn (cls x) = true then ((num (cls x):Nat):Int) else -1
theorem b8W {cls:Nat→Nat} {dn:Nat→Bool} {num:Nat→Nat} {x:Nat}:oD cls dn num x < 0 ↔ dn (cls x) = false:=by
 unfold oD;cases h:dn (cls x) with
 | true =>rw [if_pos rfl];exact ⟨fun q =>by omega,fun q =>by cases q⟩
 | false =>rw [if_neg qE0];exact ⟨fun _ =>rfl,fun _ =>by omega⟩
theorem b3H {cls:Nat→Nat} {dn:Nat→Bool} {num:Nat→Nat} {x:Nat}:0≤oD cls dn num x ↔ dn (cls x) = true:=by
 have:=b8W (cls:=cls) (dn:=dn) (num:=num) (x:=x);cases h:dn (cls x) with
 | true =>rw [h] at this;exact ⟨fun _ =>rfl,fun _ =>by have:=mt this.1 qE0;omega⟩
 | false =>have:=this.2 h;exact ⟨fun q =>by omega,fun q =>by cases q⟩
def nd (dn:Nat→Bool) (l:List Nat):Nat:=(l.filter (fun j =>!dn j)).length
theorem b9A {dn:Nat→Bool} {l:List Nat} (h:nd dn l = 0):∀ j,j ∈ l→dn j = true:=fun j hj =>by
 have e:=List.eq_nil_of_length_eq_zero h;cases q:dn j with
 | true =>rfl
 | false =>
  have:j ∈ l.filter (fun j =>!dn j):=zT1.2 ⟨hj,by rw [q];rfl⟩;rw [e] at this;cases this
theorem nd_all {dn:Nat→Bool} {l:List Nat} (h:∀ j,j ∈ l→dn j = true):nd dn l = 0:=by
 unfold nd;rw [List.length_eq_zero_iff,List.filter_eq_nil_iff];intro j hj;rw [h j hj];simp
theorem b9B {dn:Nat→Bool} {x:Nat}:∀ {l:List Nat},x ∉ l→nd (upd dn x true) l = nd dn l
 | [],_ =>rfl
 | a :: t,h =>by
  have e:a≠x:=fun e =>h (e ▸ zN0)
  have ih:=b9B (dn:=dn) (x:=x) (l:=t) (fun q =>h (zP0 _ q));unfold nd at *;rw [zA2,zA2,a1R _ _ e]
  split
  ·rw [zR0,zR0,ih]
  ·exact ih
theorem nd_in {dn:Nat→Bool} {x:Nat} (hx:dn x = false):∀ {l:List Nat},l.Nodup→x ∈ l→nd (upd dn x true) l + 1 = nd dn l
 | [],_,h =>by cases h
 | a :: t,hn,h =>by
  obtain ⟨h1,h2⟩:=List.nodup_cons.1 hn;by_cases e:a = x
  ·subst e;have:=b9B (dn:=dn) (x:=a) h1;unfold nd at *;rw [zA2,zA2,a2S,hx,if_neg qE0,if_pos qE0,zR0,this]
  ·have ih:=nd_in (dn:=dn) hx h2 ((zQ0.1 h).resolve_left (Ne.symm e));unfold nd at *;rw [zA2,zA2,a1R _ _ e]
   split
   ·rw [zR0,zR0];omega
   ·exact ih
structure KI (adj:Nat→List Nat) (N K:Nat) (cls:Nat→Nat) (r:Nat→List Nat) (n:Nat) (dn:Nat→Bool) (num left:Nat→Nat) (l:List Nat):Prop where
 pn:Pn adj N n (oD cls dn num)
 lf:∀ k,k < K→left k = nd dn (r k)
 lm:∀ k,k ∈ l ↔ k < K∧dn k = false∧left k = 0
 ln:l.Nodup
 ct:n + nd dn (List.range K) = K
section
variable {adj:Nat→List Nat} {N K:Nat} {cls lw:Nat→Nat} {r tn:Nat→List Nat} {n:Nat} {dn:Nat→Bool} {num left left0:Nat→Nat} {l l0:List Nat}
theorem KI.start (H:KH adj N K cls lw r tn) (hl:∀ k,k < K→left k = (r k).length) (hm:∀ k,k ∈ l ↔ k < K∧(r k).length = 0) (hn:l.Nodup):KI adj N K cls r 0 (fun _ =>false) (fun _ =>0) left l:=by
 have e:∀ L:List Nat,nd (fun _ =>false) L = L.length:=fun L =>by unfold nd;rw [List.filter_eq_self.2 qE0]
 refine ⟨(Pn.start adj N).congr H.hN (fun x _ =>by unfold oD;rw [if_neg qE0]),fun k hk =>by rw [e,hl k hk],fun k =>?_,hn,by rw [e,zF2];omega⟩;rw [hm k];constructor
 ·exact fun q =>⟨q.1,rfl,by rw [hl k q.1];exact q.2⟩
 ·exact fun q =>⟨q.1,by rw [← hl k q.1];exact q.2.2⟩
theorem KI.ready (H:KH adj N K cls lw r tn) (h:KI adj N K cls r n dn num left l) {x:Nat} (hx:x < K) (hz:left x = 0):∀ y,Rch adj (lw x) y→0≤oD cls dn num y∨Rch adj y (lw x):=by
 obtain ⟨w1,w2⟩:=H.lw1 x hx;intro y hr
 have key:=hr.closed (fun z =>z < N∧(0≤oD cls dn num z∨cls z = x)) (fun z hz' u hu =>by
  have huN:=H.hN z hz'.1 u hu;refine ⟨huN,?_⟩;rcases hz'.2 with q | q
  ·exact .inl (h.pn.shut H.hN hz'.1 q (.one hu))
  ·by_cases e:cls u = x
   ·exact .inr e
   ·left
    have hin:cls u ∈ r x:=(H.rm x hx _).2 ⟨e,z,hz'.1,q,u,hu,rfl⟩;rw [h.lf x hx] at hz
    exact b3H.2 (b9A hz _ hin)) ⟨w1,.inr w2⟩
 rcases key.2 with q | q
 ·exact .inl q
 ·exact .inr ((H.sc y (lw x) key.1 w1).1 (by rw [q,w2])).1
theorem KI.heap (H:KH adj N K cls lw r tn) (h:KI adj N K cls r n dn num left l) {m:Nat} (hm:m < N) (h0:oD cls dn num m < 0) (hr:∀ y,Rch adj m y→0≤oD cls dn num y∨Rch adj y m):cls m ∈ l:=by
 have hk:=H.cl m hm;refine (h.lm _).2 ⟨hk,b8W.1 h0,?_⟩;rw [h.lf _ hk];refine nd_all (fun j hj =>?_);obtain ⟨e,x,hx,hxc,y,hy,hyc⟩:=(H.rm _ hk j).1 hj;have s:=(H.sc x m hx hm).1 hxc;have r1:Rch adj m y:=s.2.trans (.one hy);rcases hr y r1 with q | q
 ·have:=b3H.1 q;rw [hyc] at this;exact this
 ·have hyN:=H.hN x hx y hy;have:=(H.sc y m hyN hm).2 ⟨q,r1⟩;exact absurd (hyc.symm.trans this) e
theorem KI.pop (H:KH adj N K cls lw r tn) (h:KI adj N K cls r n dn num left l) {x:Nat} (hx:x ∈ l) (hmin:∀ y,y ∈ l→lw x≤lw y):Pn adj N (n + 1) (oD cls (upd dn x true) (upd num x n))∧n + 1 + nd (upd dn x true) (List.range K) = K:=by
 obtain ⟨a,b,c⟩:=(h.lm x).1 hx;obtain ⟨w1,w2⟩:=H.lw1 x a;have h0:oD cls dn num (lw x) < 0:=b8W.2 (by rw [w2];exact b);refine ⟨h.pn.step H.hN w1 h0 (h.ready H a c) (fun m hm m0 mr =>zF0 (hmin _ (h.heap H hm m0 mr)) (H.lw2 m hm)) (fun z hz =>?_),?_⟩
 ·have hs:Sc adj (lw x) z ↔ cls z = x:=by
   rw [← H.sc (lw x) z w1 hz,w2];exact ⟨Eq.symm,Eq.symm⟩
  by_cases e:cls z = x
  ·rw [if_pos (hs.2 e)];unfold oD;rw [e,a2S,a2S,if_pos rfl]
  ·rw [if_neg (fun q =>e (hs.1 q))];unfold oD;rw [a1R _ _ e,a1R _ _ e]
 ·have:=nd_in (dn:=dn) b (List.nodup_range (n:=K)) (zX0.2 a);have:=h.ct;omega
structure KJ (t:List Nat) (left0:Nat→Nat) (l0:List Nat) (j:Nat) (left:Nat→Nat) (l:List Nat):Prop where
 lf:∀ k,left k = left0 k - (if k ∈ t.take j then 1 else 0)
 lm:∀ k,k ∈ l ↔ k ∈ l0∨(k ∈ t.take j∧left k = 0)
 ln:l.Nodup
theorem KJ.start (t:List Nat) (left0:Nat→Nat) (hn:l0.Nodup):KJ t left0 l0 0 left0 l0:=⟨fun k =>by simp,fun k =>by simp,hn⟩
theorem a9M {t:List Nat} (h:t.Nodup) {j:Nat} (hj:j < t.length):t[j] ∉ t.take j:=by
 intro q;have h2:(t.take j ++ t.drop j).Nodup:=by rw [List.take_append_drop];exact h
 rw [List.nodup_append] at h2;exact h2.2.2 _ q _ (by rw [zS2 hj];exact zN0) rfl
theorem KJ.val {t:List Nat} {j:Nat} (h:KJ t left0 l0 j left l) (ht:t.Nodup) (hj:j < t.length):left t[j] = left0 t[j]:=by
 rw [h.lf,if_neg (a9M ht hj)];rfl
theorem KJ.new {t:List Nat} {j:Nat} (h:KJ t left0 l0 j left l) (ht:t.Nodup) (hj:j < t.length) (h0:t[j] ∉ l0):t[j] ∉ l:=fun q =>by
 rcases (h.lm _).1 q with q | q
 ·exact h0 q
 ·exact a9M ht hj q.1
theorem KJ.step {t:List Nat} {j:Nat} (h:KJ t left0 l0 j left l) (ht:t.Nodup) (hj:j < t.length) (h0:t[j] ∉ l0) {l1:List Nat} (hl:if left t[j] - 1 = 0 then l1.Perm (l ++ [t[j]]) else l1 = l):KJ t left0 l0 (j + 1) (upd left t[j] (left t[j] - 1)) l1:=by
 have hnew:=a9M ht hj;have hv:=h.val ht hj;have hmem:∀ k,k ∈ t.take (j + 1) ↔ k ∈ t.take j∨k = t[j]:=fun k =>by
  rw [zB1 hj,zT0,zA1]
 have hlf:∀ k,upd left t[j] (left t[j] - 1) k = left0 k - (if k ∈ t.take (j + 1) then 1 else 0):=fun k =>by
  by_cases e:k = t[j]
  ·subst e;rw [a2S,hv,if_pos ((hmem _).2 (.inr rfl))]
  ·rw [a1R _ _ e,h.lf k];by_cases q:k ∈ t.take j
   ·rw [if_pos q,if_pos ((hmem k).2 (.inl q))]
   ·rw [if_neg q,if_neg (fun w =>((hmem k).1 w).elim q e)]
 have hnl:=h.new ht hj h0;refine ⟨hlf,fun k =>?_,?_⟩
 ·rw [hmem k];by_cases e:k = t[j]
  ·subst e;rw [a2S]
   split at hl
   ·next hz =>exact ⟨fun _ =>.inr ⟨.inr rfl,hz⟩,fun _ =>hl.mem_iff.2 (zT0.2 (.inr (zA1.2 rfl)))⟩
   ·next hz =>
    subst hl;exact ⟨fun q =>absurd q hnl,fun q =>q.elim (fun q =>absurd q h0) (fun q =>absurd q.2 hz)⟩
  ·rw [a1R _ _ e];have:k ∈ l1 ↔ k ∈ l:=by
    split at hl
    ·rw [hl.mem_iff,zT0,zA1];exact ⟨fun q =>q.resolve_right e,.inl⟩
    ·rw [hl]
   rw [this,h.lm k];exact ⟨fun q =>q.imp id (fun q =>⟨.inl q.1,q.2⟩),fun q =>q.imp id (fun q =>⟨q.1.resolve_right e,q.2⟩)⟩
 ·split at hl
  ·refine hl.nodup_iff.2 (List.nodup_append.2 ⟨h.ln,by simp,fun a ha b hb =>?_⟩);rw [zA1.1 hb];exact fun e =>hnl (e ▸ ha)
  ·rw [hl];exact h.ln
theorem KI.told (H:KH adj N K cls lw r tn) (h:KI adj N K cls r n dn num left l) {x:Nat} (hx:x ∈ l) {k:Nat} (hk:k ∈ tn x):k < K∧dn k = false∧1≤left k∧k≠x∧k ∉ l:=by
 obtain ⟨a,b,c⟩:=(h.lm x).1 hx;obtain ⟨q1,q2⟩:=(H.tm x a k).1 hk;obtain ⟨e,z,hz,hzc,y,hy,hyc⟩:=(H.rm k q1 x).1 q2;have hl:1≤left k:=by
  rw [h.lf k q1];rcases zR1 (nd dn (r k)) with q | q
  ·have:=b9A q x q2;rw [b] at this;cases this
  ·exact q
 refine ⟨q1,?_,hl,Ne.symm e,fun w =>by have:=((h.lm k).1 w).2.2;omega⟩;cases q:dn k with
 | false =>rfl
 | true =>
  have hp:0≤oD cls dn num z:=b3H.2 (by rw [hzc];exact q);have:=h.pn.shut H.hN hz hp (.one hy);have:=b3H.1 this;rw [hyc,b] at this;cases this
theorem KI.next (H:KH adj N K cls lw r tn) (h:KI adj N K cls r n dn num left l) {x:Nat} {l':List Nat} (hp:(x :: l').Perm l) (hmin:∀ y,y ∈ l→lw x≤lw y) {left1:Nat→Nat} {l1:List Nat} (hJ:KJ (tn x) left l' (tn x).length left1 l1) :
  KI adj N K cls r (n + 1) (upd dn x true) (upd num x n) left1 l1:=by
 have hx:x ∈ l:=hp.mem_iff.1 zN0;obtain ⟨a,b,c⟩:=(h.lm x).1 hx;have hnd:(x :: l').Nodup:=hp.nodup_iff.2 h.ln;obtain ⟨d1,d2⟩:=List.nodup_cons.1 hnd;obtain ⟨p1,p2⟩:=h.pop H hx hmin;have ml:∀ k,k ∈ l' ↔ k ∈ l∧k≠x:=fun k =>by
  rw [← hp.mem_iff,zQ0];exact ⟨fun q =>⟨.inr q,fun e =>d1 (e ▸ q)⟩,fun q =>q.1.resolve_left q.2⟩
 have lf:∀ k,k < K→left1 k = nd (upd dn x true) (r k):=fun k hk =>by
  rw [hJ.lf k,zN1,h.lf k hk];by_cases q:x ∈ r k
  ·rw [if_pos ((H.tm x a k).2 ⟨hk,q⟩)];have:=nd_in (dn:=dn) b (H.rn k hk) q;omega
  ·rw [if_neg (fun w =>q ((H.tm x a k).1 w).2),b9B q];rfl
 refine ⟨p1,lf,fun k =>?_,hJ.ln,p2⟩;rw [hJ.lm k,zN1,ml k];constructor
 ·rintro (⟨q,e⟩ | ⟨q,z⟩)
  ·obtain ⟨q1,q2,q3⟩:=(h.lm k).1 q;refine ⟨q1,by rw [a1R _ _ e];exact q2,?_⟩;rw [hJ.lf k,q3];exact Nat.zero_sub _
  ·obtain ⟨q1,q2,q3,q4,_⟩:=h.told H hx q;exact ⟨q1,by rw [a1R _ _ q4];exact q2,z⟩
 ·rintro ⟨q1,q2,q3⟩;have e:k≠x:=fun e =>by rw [e,a2S] at q2;cases q2
  rw [a1R _ _ e] at q2;by_cases w:k ∈ tn x
  ·exact .inr ⟨w,q3⟩
  ·left
   refine ⟨(h.lm k).2 ⟨q1,q2,?_⟩,e⟩;rw [hJ.lf k,zN1,if_neg w] at q3;exact q3
theorem KI.done (H:KH adj N K cls lw r tn) (h:KI adj N K cls r n dn num left []):Nmb adj N n (fun x =>num (cls x)):=by
 have ha:∀ x,x < N→0≤oD cls dn num x:=fun x hx =>by
  apply Classical.byContradiction;intro q;obtain ⟨m,a,b,c⟩:=h.pn.some H.hN hx qC0;cases h.heap H a b c
 refine h.pn.done ha (fun x hx =>?_) H.hN;have:=b3H.1 (ha x hx);unfold oD;rw [if_pos this]
theorem KI.len (h:KI adj N K cls r n dn num left l):n≤K:=by have:=h.ct;omega
theorem KI.num_lt (h:KI adj N K cls r n dn num left l):∀ x,x ∈ l→x < K:=fun x hx =>((h.lm x).1 hx).1
theorem a8M {l:List Nat} {K:Nat} (hn:l.Nodup) (h:∀ x,x ∈ l→x < K):l.length≤K:=by
 induction K generalizing l with
 | zero =>
  cases l with
  | nil =>exact zJ0 _
  | cons a t =>exact absurd (h a zN0) (zP2 _)
 | succ K ih =>
  have h1:=ih (l:=l.filter (fun x =>decide (x≠K))) (hn.filter _) (fun x hx =>by
   obtain ⟨q1,q2⟩:=zT1.1 hx;have:=h x q1;have:=zB0 q2
   omega)
  have h2:l.length≤(l.filter (fun x =>decide (x≠K))).length + 1:=by
   clear h ih h1
   induction l with
   | nil =>simp
   | cons a t iht =>
    obtain ⟨d1,d2⟩:=List.nodup_cons.1 hn;rw [zA2];by_cases e:a = K
    ·subst e;have hf:t.filter (fun x =>decide (x≠a)) = t:=List.filter_eq_self.2 (fun x hx =>zI0 (fun (e2:x = a) =>d1 (e2 ▸ hx)));rw [if_neg qE0,hf];simp
    ·rw [if_pos (zI0 e),zR0,zR0];have:=iht d2;omega
  omega
end
end Go.Proofs.YthhgfncliffggaaGreat.Tarj
namespace Go.Proofs.YthhgfncliffggaaGreat.Man
def adjF (g:List (List Int)) (x:Nat):List Nat:=(g.getD x []).map Int.toNat
structure GOk (g:List (List Int)):Prop where
 len:g.length≤1000
 row:∀ v,(g.getD v []).length≤1000
 ent:∀ v,v < g.length→∀ m,m ∈ g.getD v []→0≤m∧m < (g.length:Int)
theorem GOk.adj {g:List (List Int)} (h:GOk g):∀ x,x < g.length→∀ y,y ∈ adjF g x→y < g.length:=by
 intro x hx y hy;obtain ⟨m,hm,rfl⟩:=zW2.1 hy;have:=h.ent x hx m hm;omega
end Go.Proofs.YthhgfncliffggaaGreat.Man
namespace Go.Proofs.YthhgfncliffggaaGreat.Pr
open Go.RowKit Go.Proofs.YthhgfncliffggaaGreatW.PrintWords Go.Proofs.YthhgfncliffggaaGreatW.PrintLast Go.Proofs.YthhgfncliffggaaGreatW.PrintMore
attribute [local go_sem] a5J a5I a6Y a6X a6A a5Z a7K a7J   -- for this text's walks alone
def errW:Option Int→Value
 | none =>.nilIface
 | some c =>.iface 0 (.int .i64 c)
theorem a0Z:errW none = .nilIface:=rfl
theorem a0Y (c:Int):errW (some c) = .iface 0 (.int .i64 c):=rfl
theorem b1X:(Tryz.prog.info? 3).map (fun i =>(i.zero,i.size,i.bytes)) = some (some (.int .i64 0),1,8):=by kernel_rfl
theorem b4R:(Tryz.prog.info? 9).map (fun i =>(i.zero,i.size,i.bytes)) = some (some (.string ⟨#[]⟩),1,16):=by kernel_rfl
theorem info42:(Tryz.prog.info? 42).map (fun i =>(i.zero,i.size,i.bytes)) = some (some (.agg #[(.string ⟨#[]⟩),(.int .i64 0),(.slice none 0 0)]),3,48):=by kernel_rfl
theorem info43:(Tryz.prog.info? 43).map (fun i =>(i.zero,i.size,i.bytes)) = some (some (.slice none 0 0),1,24):=by kernel_rfl
theorem info65:(Tryz.prog.info? 65).map (fun i =>(i.zero,i.size,i.bytes)) = some (some (.agg #[(.int .i64 0),(.string ⟨#[]⟩),(.string ⟨#[]⟩),(.string ⟨#[]⟩),(.slice none 0 0),(.slice none 0 0),(.slice none 0 0),(.slice none 0 0)]),8,152):=by kernel_rfl
theorem b1Y:(Tryz.prog.info? 101).map (fun i =>(i.zero,i.size,i.bytes)) = some (some (.agg #[(.int .i64 0),(.string ⟨#[]⟩),(.int .i64 0)]),3,32):=by kernel_rfl
structure S101 where
 f0:Int
 f1:ByteArray
 f2:Int
def z101:S101:=⟨(0:Int),(⟨#[]⟩:ByteArray),(0:Int)⟩
def k101:Kd S101:=Kd.iso (Kd.pair (Kd.int .i64) (Kd.pair Kd.string (Kd.int .i64))) (fun x:S101 =>(x.f0,x.f1,x.f2))
theorem b9N {w:World} {x:S101} {cs:List Value} (h:k101.K w x cs):cs = [.int .i64 x.f0,.string x.f1,.int .i64 x.f2]:=by
 obtain ⟨_,_,rfl,rfl,⟨_,_,rfl,rfl,rfl⟩⟩:=h;exact rfl
theorem a8P (w:World) (base:Nat) (ok:Nat→Prop) (x:S101) :k101.M w base ok x [.int .i64 x.f0,.string x.f1,.int .i64 x.f2]:=⟨[.int .i64 x.f0],[.string x.f1,.int .i64 x.f2],rfl,rfl,⟨[.string x.f1],[.int .i64 x.f2],rfl,rfl,rfl⟩⟩
def a0U (xs:List S101) (i:Int):S101:=xs.getD i.toNat z101
theorem a4I {w:World} {A:Option Addr} {n:Nat} {xs:List S101} (h:Kd.C k101 w A n xs) (i:Int) (h0:0≤i) (h1:i < n):∃ ad ,A = some ad∧w.cell? (ad.add (i.toNat * 3)) = some (.int .i64 (a0U xs i).f0)∧w.cell? ⟨(ad.add (i.toNat * 3)).block,(ad.add (i.toNat * 3)).off + 1,none⟩ = some (.string (a0U xs i).f1)∧w.cell? ⟨(ad.add (i.toNat * 3)).block,(ad.add (i.toNat * 3)).off + 2,none⟩ = some (.int .i64 (a0U xs i).f2):=by
 obtain ⟨ad,c,e,_,hK,hc0⟩:=Kd.b2I h z101 i h0 h1;have hc:∀ j u,c[j]? = some u→w.cell? (ad.add (i.toNat * 3 + j)) = some u:=hc0;obtain rfl:=b9N hK;exact ⟨ad,e,hc 0 _ rfl,by rw [← a1L _ _ 1 qC0];exact hc 1 _ rfl,by rw [← a1L _ _ 2 qC0];exact hc 2 _ rfl⟩
structure S155 where
 f0:Int
 f1:Int
 f2:ByteArray
def z155:S155:=⟨(0:Int),(0:Int),(⟨#[]⟩:ByteArray)⟩
def k155:Kd S155:=Kd.iso (Kd.pair (Kd.int .i64) (Kd.pair (Kd.int .i64) Kd.string)) (fun x:S155 =>(x.f0,x.f1,x.f2))
theorem b9L (w:World) (x:S155) :k155.K w x [.int .i64 x.f0,.int .i64 x.f1,.string x.f2]:=⟨[.int .i64 x.f0],[.int .i64 x.f1,.string x.f2],rfl,rfl,⟨[.int .i64 x.f1],[.string x.f2],rfl,rfl,rfl⟩⟩
theorem k155_mkM (w:World) (base:Nat) (ok:Nat→Prop) (x:S155) :k155.M w base ok x [.int .i64 x.f0,.int .i64 x.f1,.string x.f2]:=⟨[.int .i64 x.f0],[.int .i64 x.f1,.string x.f2],rfl,rfl,⟨[.int .i64 x.f1],[.string x.f2],rfl,rfl,rfl⟩⟩
structure S65 where
 f0:Int
 f1:ByteArray
 f2:ByteArray
 f3:ByteArray
 f4:(List S155)
 f5:(List ByteArray)
 f6:(List S65)
 f7:(List S65)
def z65:S65:=⟨(0:Int),(⟨#[]⟩:ByteArray),(⟨#[]⟩:ByteArray),(⟨#[]⟩:ByteArray),([]:List S155),([]:List ByteArray),([]:List S65),([]:List S65)⟩
def F65 (d:Kd S65):Kd S65:=Kd.iso (Kd.pair (Kd.int .i64) (Kd.pair Kd.string (Kd.pair Kd.string (Kd.pair Kd.string (Kd.pair (Kd.slice 155 k155) (Kd.pair (Kd.slice 9 Kd.string) (Kd.pair (Kd.slice 65 d) (Kd.slice 65 d)))))))) (fun x:S65 =>(x.f0,x.f1,x.f2,x.f3,x.f4,x.f5,x.f6,x.f7))
theorem b5N:Kd.Mono F65:=Kd.mono_iso _ (Kd.a4E (Kd.a4B _) (Kd.a4E (Kd.a4B _) (Kd.a4E (Kd.a4B _) (Kd.a4E (Kd.a4B _) (Kd.a4E (Kd.a4B _) (Kd.a4E (Kd.a4B _) (Kd.a4E (Kd.b0S 65 Kd.b9D) (Kd.b0S 65 Kd.b9D))))))))
theorem sub65:Kd.Sub F65 [9,65,155]:=Kd.sub_iso _ (Kd.a5E (Kd.a4U _ qB0) (Kd.a5E (Kd.a4U _ qB0) (Kd.a5E (Kd.a4U _ qB0) (Kd.a5E (Kd.a4U _ qB0) (Kd.a5E (Kd.a4U _ qB0) (Kd.a5E (Kd.a4U _ qB0) (Kd.a5E (Kd.b2R 65 qB0 Kd.sub_id) (Kd.b2R 65 qB0 Kd.sub_id))))))))
theorem sz65:∀ n,(Kd.upto F65 8 [9,65,155] n).sz = 8:=Kd.upto_sz (fun _ =>rfl)
def k65:Kd S65:=Kd.fix F65 8 [9,65,155] sz65 (Kd.upto_E sub65)
theorem a3O {w:World} {x:S65} {cs:List Value} (h:k65.K w x cs):∃ A4 c4 A5 c5 A6 c6 A7 c7,cs = [.int .i64 x.f0,.string x.f1,.string x.f2,.string x.f3,.slice A4 x.f4.length c4,.slice A5 x.f5.length c5,.slice A6 x.f6.length c6,.slice A7 x.f7.length c7]∧x.f4.length≤c4∧k155.C w A4 x.f4.length x.f4∧x.f5.length≤c5∧Kd.string.C w A5 x.f5.length x.f5∧x.f6.length≤c6∧k65.C w A6 x.f6.length x.f6∧x.f7.length≤c7∧k65.C w A7 x.f7.length x.f7:=by
 obtain ⟨n,h⟩:=h;cases n with
 | zero =>exact h.elim
 | succ n =>
  obtain ⟨_,_,rfl,rfl,⟨_,_,rfl,rfl,⟨_,_,rfl,rfl,⟨_,_,rfl,rfl,⟨_,_,rfl,⟨A4,c4,rfl,l4,g4⟩,⟨_,_,rfl,⟨A5,c5,rfl,l5,g5⟩,⟨_,_,rfl,⟨A6,c6,rfl,l6,g6⟩,⟨A7,c7,rfl,l7,g7⟩⟩⟩⟩⟩⟩⟩⟩:=h;exact ⟨A4,c4,A5,c5,A6,c6,A7,c7,rfl,l4,g4,l5,g5,l6,Kd.fix_C g6,l7,Kd.fix_C g7⟩
theorem k65_mk (w:World) (x:S65) {A4:Option Addr} {c4:Nat} (l4:x.f4.length≤c4) (g4:k155.C w A4 x.f4.length x.f4) {A5:Option Addr} {c5:Nat} (l5:x.f5.length≤c5) (g5:Kd.string.C w A5 x.f5.length x.f5) {A6:Option Addr} {c6:Nat} (l6:x.f6.length≤c6) (g6:k65.C w A6 x.f6.length x.f6) {A7:Option Addr} {c7:Nat} (l7:x.f7.length≤c7) (g7:k65.C w A7 x.f7.length x.f7):k65.K w x [.int .i64 x.f0,.string x.f1,.string x.f2,.string x.f3,.slice A4 x.f4.length c4,.slice A5 x.f5.length c5,.slice A6 x.f6.length c6,.slice A7 x.f7.length c7]:=by
 obtain ⟨n6,q6⟩:=Kd.b0V b5N g6;obtain ⟨n7,q7⟩:=Kd.b0V b5N g7;have r6:=Kd.b2Q b5N sz65 (show n6≤(max n6 n7) by omega) q6;have r7:=Kd.b2Q b5N sz65 (show n7≤(max n6 n7) by omega) q7;exact ⟨(max n6 n7) + 1,⟨[.int .i64 x.f0],[.string x.f1,.string x.f2,.string x.f3,.slice A4 x.f4.length c4,.slice A5 x.f5.length c5,.slice A6 x.f6.length c6,.slice A7 x.f7.length c7],rfl,rfl,⟨[.string x.f1],[.string x.f2,.string x.f3,.slice A4 x.f4.length c4,.slice A5 x.f5.length c5,.slice A6 x.f6.length c6,.slice A7 x.f7.length c7],rfl,rfl,⟨[.string x.f2],[.string x.f3,.slice A4 x.f4.length c4,.slice A5 x.f5.length c5,.slice A6 x.f6.length c6,.slice A7 x.f7.length c7],rfl,rfl,⟨[.string x.f3],[.slice A4 x.f4.length c4,.slice A5 x.f5.length c5,.slice A6 x.f6.length c6,.slice A7 x.f7.length c7],rfl,rfl,⟨[.slice A4 x.f4.length c4],[.slice A5 x.f5.length c5,.slice A6 x.f6.length c6,.slice A7 x.f7.length c7],rfl,⟨A4,c4,rfl,l4,g4⟩,⟨[.slice A5 x.f5.length c5],[.slice A6 x.f6.length c6,.slice A7 x.f7.length c7],rfl,⟨A5,c5,rfl,l5,g5⟩,⟨[.slice A6 x.f6.length c6],[.slice A7 x.f7.length c7],rfl,⟨A6,c6,rfl,l6,r6⟩,⟨A7,c7,rfl,l7,r7⟩⟩⟩⟩⟩⟩⟩⟩⟩
theorem b9J {W:World} {ok:Nat→Prop} {x:S65} {cs:List Value} (h:Kd.FK k65 W ok x cs):∃ A4 c4 A5 c5 A6 c6 A7 c7,cs = [.int .i64 x.f0,.string x.f1,.string x.f2,.string x.f3,.slice A4 x.f4.length c4,.slice A5 x.f5.length c5,.slice A6 x.f6.length c6,.slice A7 x.f7.length c7]∧x.f4.length≤c4∧Kd.F k155 W ok A4 x.f4.length x.f4∧x.f5.length≤c5∧Kd.F Kd.string W ok A5 x.f5.length x.f5∧x.f6.length≤c6∧Kd.F k65 W ok A6 x.f6.length x.f6∧x.f7.length≤c7∧Kd.F k65 W ok A7 x.f7.length x.f7:=by
 obtain ⟨A4,c4,A5,c5,A6,c6,A7,c7,rfl,l4,_,l5,_,l6,_,l7,_⟩:=a3O (Kd.a6G h);exact ⟨A4,c4,A5,c5,A6,c6,A7,c7,rfl,l4,(fun W' hW =>by obtain ⟨A4_,c4_,A5_,c5_,A6_,c6_,A7_,c7_,he,l4_,g4_,l5_,g5_,l6_,g6_,l7_,g7_⟩:=a3O (h W' hW);injection (zC0 (show some (Value.slice A4 x.f4.length c4) = some (Value.slice A4_ x.f4.length c4_) from congrArg (fun l =>l[4]?) he)) with ha_ _ _;rw [ha_];exact g4_),l5,(fun W' hW =>by obtain ⟨A4_,c4_,A5_,c5_,A6_,c6_,A7_,c7_,he,l4_,g4_,l5_,g5_,l6_,g6_,l7_,g7_⟩:=a3O (h W' hW);injection (zC0 (show some (Value.slice A5 x.f5.length c5) = some (Value.slice A5_ x.f5.length c5_) from congrArg (fun l =>l[5]?) he)) with ha_ _ _;rw [ha_];exact g5_),l6,(fun W' hW =>by obtain ⟨A4_,c4_,A5_,c5_,A6_,c6_,A7_,c7_,he,l4_,g4_,l5_,g5_,l6_,g6_,l7_,g7_⟩:=a3O (h W' hW);injection (zC0 (show some (Value.slice A6 x.f6.length c6) = some (Value.slice A6_ x.f6.length c6_) from congrArg (fun l =>l[6]?) he)) with ha_ _ _;rw [ha_];exact g6_),l7,(fun W' hW =>by obtain ⟨A4_,c4_,A5_,c5_,A6_,c6_,A7_,c7_,he,l4_,g4_,l5_,g5_,l6_,g6_,l7_,g7_⟩:=a3O (h W' hW);injection (zC0 (show some (Value.slice A7 x.f7.length c7) = some (Value.slice A7_ x.f7.length c7_) from congrArg (fun l =>l[7]?) he)) with ha_ _ _;rw [ha_];exact g7_)⟩
theorem k65_mkF (W:World) (ok:Nat→Prop) (x:S65) {A4:Option Addr} {c4:Nat} (l4:x.f4.length≤c4) (g4:Kd.F k155 W ok A4 x.f4.length x.f4) {A5:Option Addr} {c5:Nat} (l5:x.f5.length≤c5) (g5:Kd.F Kd.string W ok A5 x.f5.length x.f5) {A6:Option Addr} {c6:Nat} (l6:x.f6.length≤c6) (g6:Kd.F k65 W ok A6 x.f6.length x.f6) {A7:Option Addr} {c7:Nat} (l7:x.f7.length≤c7) (g7:Kd.F k65 W ok A7 x.f7.length x.f7):Kd.FK k65 W ok x [.int .i64 x.f0,.string x.f1,.string x.f2,.string x.f3,.slice A4 x.f4.length c4,.slice A5 x.f5.length c5,.slice A6 x.f6.length c6,.slice A7 x.f7.length c7]:=fun W2 hW =>k65_mk W2 x l4 (g4 W2 hW) l5 (g5 W2 hW) l6 (g6 W2 hW) l7 (g7 W2 hW)
def a0J (xs:List S65) (i:Int):S65:=xs.getD i.toNat z65
theorem a1W {w:World} {A:Option Addr} {n:Nat} {xs:List S65} (h:Kd.C k65 w A n xs) (i:Int) (h0:0≤i) (h1:i < n):∃ ad A4 c4 A5 c5 A6 c6 A7 c7,A = some ad∧w.cell? (ad.add (i.toNat * 8)) = some (.int .i64 (a0J xs i).f0)∧w.cell? ⟨(ad.add (i.toNat * 8)).block,(ad.add (i.toNat * 8)).off + 1,none⟩ = some (.string (a0J xs i).f1)∧w.cell? ⟨(ad.add (i.toNat * 8)).block,(ad.add (i.toNat * 8)).off + 2,none⟩ = some (.string (a0J xs i).f2)∧w.cell? ⟨(ad.add (i.toNat * 8)).block,(ad.add (i.toNat * 8)).off + 3,none⟩ = some (.string (a0J xs i).f3)∧w.cell? ⟨(ad.add (i.toNat * 8)).block,(ad.add (i.toNat * 8)).off + 4,none⟩ = some (.slice A4 (a0J xs i).f4.length c4)∧w.cell? ⟨(ad.add (i.toNat * 8)).block,(ad.add (i.toNat * 8)).off + 5,none⟩ = some (.slice A5 (a0J xs i).f5.length c5)∧w.cell? ⟨(ad.add (i.toNat * 8)).block,(ad.add (i.toNat * 8)).off + 6,none⟩ = some (.slice A6 (a0J xs i).f6.length c6)∧w.cell? ⟨(ad.add (i.toNat * 8)).block,(ad.add (i.toNat * 8)).off + 7,none⟩ = some (.slice A7 (a0J xs i).f7.length c7)∧(a0J xs i).f4.length≤c4∧k155.C w A4 (a0J xs i).f4.length (a0J xs i).f4∧(a0J xs i).f5.length≤c5∧Kd.string.C w A5 (a0J xs i).f5.length (a0J xs i).f5∧(a0J xs i).f6.length≤c6∧k65.C w A6 (a0J xs i).f6.length (a0J xs i).f6∧(a0J xs i).f7.length≤c7∧k65.C w A7 (a0J xs i).f7.length (a0J xs i).f7:=by
 obtain ⟨ad,c,e,_,hK,hc0⟩:=Kd.b2I h z65 i h0 h1;have hc:∀ j u,c[j]? = some u→w.cell? (ad.add (i.toNat * 8 + j)) = some u:=hc0;obtain ⟨A4,c4,A5,c5,A6,c6,A7,c7,rfl,l4,g4,l5,g5,l6,g6,l7,g7⟩:=a3O hK;exact ⟨ad,A4,c4,A5,c5,A6,c6,A7,c7,e,hc 0 _ rfl,by rw [← a1L _ _ 1 qC0];exact hc 1 _ rfl,by rw [← a1L _ _ 2 qC0];exact hc 2 _ rfl,by rw [← a1L _ _ 3 qC0];exact hc 3 _ rfl,by rw [← a1L _ _ 4 qC0];exact hc 4 _ rfl,by rw [← a1L _ _ 5 qC0];exact hc 5 _ rfl,by rw [← a1L _ _ 6 qC0];exact hc 6 _ rfl,by rw [← a1L _ _ 7 qC0];exact hc 7 _ rfl,l4,g4,l5,g5,l6,g6,l7,g7⟩
structure S34 where
 f0:ByteArray
 f1:(List ByteArray)
 f2:(List S65)
def z34:S34:=⟨(⟨#[]⟩:ByteArray),([]:List ByteArray),([]:List S65)⟩
def k34:Kd S34:=Kd.iso (Kd.pair Kd.string (Kd.pair (Kd.slice 9 Kd.string) (Kd.slice 65 k65))) (fun x:S34 =>(x.f0,x.f1,x.f2))
theorem k34_open {w:World} {x:S34} {cs:List Value} (h:k34.K w x cs):∃ A1 c1 A2 c2,cs = [.string x.f0,.slice A1 x.f1.length c1,.slice A2 x.f2.length c2]∧x.f1.length≤c1∧Kd.string.C w A1 x.f1.length x.f1∧x.f2.length≤c2∧k65.C w A2 x.f2.length x.f2:=by
 obtain ⟨_,_,rfl,rfl,⟨_,_,rfl,⟨A1,c1,rfl,l1,g1⟩,⟨A2,c2,rfl,l2,g2⟩⟩⟩:=h;exact ⟨A1,c1,A2,c2,rfl,l1,g1,l2,g2⟩
theorem b9K (w:World) (x:S34) {A1:Option Addr} {c1:Nat} (l1:x.f1.length≤c1) (g1:Kd.string.C w A1 x.f1.length x.f1) {A2:Option Addr} {c2:Nat} (l2:x.f2.length≤c2) (g2:k65.C w A2 x.f2.length x.f2):k34.K w x [.string x.f0,.slice A1 x.f1.length c1,.slice A2 x.f2.length c2]:=⟨[.string x.f0],[.slice A1 x.f1.length c1,.slice A2 x.f2.length c2],rfl,rfl,⟨[.slice A1 x.f1.length c1],[.slice A2 x.f2.length c2],rfl,⟨A1,c1,rfl,l1,g1⟩,⟨A2,c2,rfl,l2,g2⟩⟩⟩
theorem k34_mkF (W:World) (ok:Nat→Prop) (x:S34) {A1:Option Addr} {c1:Nat} (l1:x.f1.length≤c1) (g1:Kd.F Kd.string W ok A1 x.f1.length x.f1) {A2:Option Addr} {c2:Nat} (l2:x.f2.length≤c2) (g2:Kd.F k65 W ok A2 x.f2.length x.f2):Kd.FK k34 W ok x [.string x.f0,.slice A1 x.f1.length c1,.slice A2 x.f2.length c2]:=fun W2 hW =>b9K W2 x l1 (g1 W2 hW) l2 (g2 W2 hW)
def a0V (xs:List S34) (i:Int):S34:=xs.getD i.toNat z34
theorem a6Q {w:World} {A:Option Addr} {n:Nat} {xs:List S34} (h:Kd.C k34 w A n xs) (i:Int) (h0:0≤i) (h1:i < n):∃ ad A1 c1 A2 c2,A = some ad∧w.cell? (ad.add (i.toNat * 3)) = some (.string (a0V xs i).f0)∧w.cell? ⟨(ad.add (i.toNat * 3)).block,(ad.add (i.toNat * 3)).off + 1,none⟩ = some (.slice A1 (a0V xs i).f1.length c1)∧w.cell? ⟨(ad.add (i.toNat * 3)).block,(ad.add (i.toNat * 3)).off + 2,none⟩ = some (.slice A2 (a0V xs i).f2.length c2)∧(a0V xs i).f1.length≤c1∧Kd.string.C w A1 (a0V xs i).f1.length (a0V xs i).f1∧(a0V xs i).f2.length≤c2∧k65.C w A2 (a0V xs i).f2.length (a0V xs i).f2:=by
 obtain ⟨ad,c,e,_,hK,hc0⟩:=Kd.b2I h z34 i h0 h1;have hc:∀ j u,c[j]? = some u→w.cell? (ad.add (i.toNat * 3 + j)) = some u:=hc0;obtain ⟨A1,c1,A2,c2,rfl,l1,g1,l2,g2⟩:=k34_open hK;exact ⟨ad,A1,c1,A2,c2,e,hc 0 _ rfl,by rw [← a1L _ _ 1 qC0];exact hc 1 _ rfl,by rw [← a1L _ _ 2 qC0];exact hc 2 _ rfl,l1,g1,l2,g2⟩
def a1B (xs:List (List Int)) (i:Int):(List Int):=xs.getD i.toNat ([]:List Int)
theorem at_L9 {w:World} {A:Option Addr} {n:Nat} {xs:List (List Int)} (h:Kd.C (Kd.slice 3 (Kd.int .i64)) w A n xs) (i:Int) (h0:0≤i) (h1:i < n):∃ ad A0 c0,A = some ad∧w.cell? (ad.add i.toNat) = some (.slice A0 (a1B xs i).length c0)∧(a1B xs i).length≤c0∧(Kd.int .i64).C w A0 (a1B xs i).length (a1B xs i):=by
 obtain ⟨ad,c,e,_,hK,hc0⟩:=Kd.b2I h ([]:List Int) i h0 h1;have hc:∀ j u,c[j]? = some u→w.cell? (ad.add (i.toNat * 1 + j)) = some u:=hc0;obtain ⟨A0,c0,rfl,l0,g0⟩:=hK;exact ⟨ad,A0,c0,e,by have hq:=hc 0 _ rfl;rwa [zX2,zS3] at hq,l0,g0⟩
structure S42 where
 f0:ByteArray
 f1:Int
 f2:(List ByteArray)
def z42:S42:=⟨(⟨#[]⟩:ByteArray),(0:Int),([]:List ByteArray)⟩
def k42:Kd S42:=Kd.iso (Kd.pair Kd.string (Kd.pair (Kd.int .i64) (Kd.slice 9 Kd.string))) (fun x:S42 =>(x.f0,x.f1,x.f2))
theorem k42_open {w:World} {x:S42} {cs:List Value} (h:k42.K w x cs):∃ A2 c2,cs = [.string x.f0,.int .i64 x.f1,.slice A2 x.f2.length c2]∧x.f2.length≤c2∧Kd.string.C w A2 x.f2.length x.f2:=by
 obtain ⟨_,_,rfl,rfl,⟨_,_,rfl,rfl,⟨A2,c2,rfl,l2,g2⟩⟩⟩:=h;exact ⟨A2,c2,rfl,l2,g2⟩
theorem k42_mk (w:World) (x:S42) {A2:Option Addr} {c2:Nat} (l2:x.f2.length≤c2) (g2:Kd.string.C w A2 x.f2.length x.f2):k42.K w x [.string x.f0,.int .i64 x.f1,.slice A2 x.f2.length c2]:=⟨[.string x.f0],[.int .i64 x.f1,.slice A2 x.f2.length c2],rfl,rfl,⟨[.int .i64 x.f1],[.slice A2 x.f2.length c2],rfl,rfl,⟨A2,c2,rfl,l2,g2⟩⟩⟩
theorem k42_mkF (W:World) (ok:Nat→Prop) (x:S42) {A2:Option Addr} {c2:Nat} (l2:x.f2.length≤c2) (g2:Kd.F Kd.string W ok A2 x.f2.length x.f2):Kd.FK k42 W ok x [.string x.f0,.int .i64 x.f1,.slice A2 x.f2.length c2]:=fun W2 hW =>k42_mk W2 x l2 (g2 W2 hW)
def a2X (xs:List S42) (i:Int):S42:=xs.getD i.toNat z42
theorem b1A {w:World} {A:Option Addr} {n:Nat} {xs:List S42} (h:Kd.C k42 w A n xs) (i:Int) (h0:0≤i) (h1:i < n):∃ ad A2 c2,A = some ad∧w.cell? (ad.add (i.toNat * 3)) = some (.string (a2X xs i).f0)∧w.cell? ⟨(ad.add (i.toNat * 3)).block,(ad.add (i.toNat * 3)).off + 1,none⟩ = some (.int .i64 (a2X xs i).f1)∧w.cell? ⟨(ad.add (i.toNat * 3)).block,(ad.add (i.toNat * 3)).off + 2,none⟩ = some (.slice A2 (a2X xs i).f2.length c2)∧(a2X xs i).f2.length≤c2∧Kd.string.C w A2 (a2X xs i).f2.length (a2X xs i).f2:=by
 obtain ⟨ad,c,e,_,hK,hc0⟩:=Kd.b2I h z42 i h0 h1;have hc:∀ j u,c[j]? = some u→w.cell? (ad.add (i.toNat * 3 + j)) = some u:=hc0;obtain ⟨A2,c2,rfl,l2,g2⟩:=k42_open hK;exact ⟨ad,A2,c2,e,hc 0 _ rfl,by rw [← a1L _ _ 1 qC0];exact hc 1 _ rfl,by rw [← a1L _ _ 2 qC0];exact hc 2 _ rfl,l2,g2⟩
end Go.Proofs.YthhgfncliffggaaGreat.Pr
namespace Go.Proofs.YthhgfncliffggaaGreat.Man
open Go.RowKit Go.Proofs.YthhgfncliffggaaGreat.Pr Go.Proofs.YthhgfncliffggaaGreatW.PrintWords
theorem bulk_pos {H:Type} (d:DataW H):1≤Rows.uptoBulk d:=by
 cases d with
 | lit l =>cases l <;> simp [Rows.uptoBulk]
 | nil =>simp [Rows.uptoBulk]
 | ptr d =>simp [Rows.uptoBulk]
 | slice elems spare =>simp [Rows.uptoBulk]
 | agg parts =>simp [Rows.uptoBulk]
 | iface t d =>simp [Rows.uptoBulk]
 | map entries =>simp [Rows.uptoBulk]
 | held h =>simp [Rows.uptoBulk]
theorem a3Y {H:Type} (l:List (DataW H)):l.length≤Rows.uptoBulkAll l:=by
 induction l with
 | nil =>simp [Rows.uptoBulkAll]
 | cons x r ih =>have:=bulk_pos x;simp only [Rows.uptoBulkAll,zR0];omega
theorem b1W {α β:Type} (f:α→Option β):∀ (l:List α) (r:List β),l.mapM f = some r→r.length = l.length∧∀ (i:Nat) a,l[i]? = some a→∃ b,r[i]? = some b∧f a = some b:=by
 intro l
 induction l with
 | nil =>intro r h;simp at h;subst h;exact ⟨rfl,fun i a h =>by simp at h⟩
 | cons x l ih =>
  intro r h;simp only [List.mapM_cons,Option.bind_eq_bind,zB3,Option.pure_def,Option.some.injEq] at h;obtain ⟨b,hb,r',hr',rfl⟩:=h;obtain ⟨h1,h2⟩:=ih r' hr';refine ⟨by simp [h1],fun i a ha =>?_⟩;cases i with
  | zero =>simp at ha;subst ha;exact ⟨b,rfl,hb⟩
  | succ i =>simpa using h2 i a (by simpa using ha)
theorem c0G {w:World} {b n:Nat} {a:Addr} {c:List Value} (h:w.cells? b a n = some c):c.length = n∧∀ (i:Nat) u,c[i]? = some u→w.cell? (a.add i) = some u:=by
 unfold World.cells? at h
 split at h
 ·obtain ⟨h1,h2⟩:=b1W _ _ _ h;rw [zF2] at h1;refine ⟨h1,fun i u hu =>?_⟩;have hi:i < n:=by rw [← h1];exact (List.getElem?_eq_some_iff.1 hu).1
  obtain ⟨b,hb,hf⟩:=h2 i i (by simp [hi]);rw [hu] at hb;cases hb;exact hf
 ·cases h
theorem addr_add (a:Addr) (i j:Nat):a.add (i + j) = (a.add i).add j:=by
 unfold Addr.add;by_cases h1:i = 0
 ·subst h1;simp
 ·by_cases h2:j = 0
  ·subst h2;simp [h1]
  ·simp [h1,h2,zY0]
theorem a2F {H:Type} {enc:TypeId × Value→H} {w:World} {α:Type} {t e:TypeId} (hu:Tryz.prog.underlying t = some (.slice e)) (d:Kd α) (z:α) (hsz:Tryz.prog.cellsOf e = d.sz) (Q:α→Nat→Prop) (fuel:Nat) {held:Bool} {sp:Nat→Bool}
  (hE:∀ cs (D:DataW H) ps,DataW.trod enc Tryz.prog w 0 sp held fuel e cs = some (D,ps)→∃ x,d.K w x cs∧Q x (Rows.uptoBulk D)) (cs:List Value) (D:DataW H) (ps:List MemPlace)
  (h:DataW.trod enc Tryz.prog w 0 sp held (fuel + 1) t cs = some (D,ps)) :
  ∃ (A:Option Addr) (c:Nat) (xs:List α) (Ds:List (DataW H)),cs = [.slice A xs.length c]∧xs.length≤c∧d.C w A xs.length xs∧Rows.uptoBulkAll Ds + 1≤Rows.uptoBulk D∧xs.length = Ds.length∧∀ (i:Nat) x D',xs[i]? = some x→Ds[i]? = some D'→Q x (Rows.uptoBulk D'):=by
 unfold DataW.trod at h;rw [hu] at h
 split at h <;> rename_i he
 all_goals first | (cases he;done) | skip
 ·-- nil
  cases h;exact ⟨none,0,[],[],rfl,zJ0 _,Kd.c0X _ _,by simp [Rows.uptoBulkAll,Rows.uptoBulk],rfl,fun i x D' hx =>by simp at hx⟩
 ·rename_i e2 a len cap
  cases he;dsimp only at h
  split at h
  ·rename_i hc
   simp only [zB3,zC1] at h;obtain ⟨els,hels,rest,_,hD⟩:=h;simp only [Prod.mk.injEq] at hD;obtain ⟨rfl,_⟩:=hD;obtain ⟨hl,hg⟩:=b1W _ _ _ hels;rw [zF2] at hl;have hx:∀ i,i < len→∃ cs,cs.length = d.sz∧(∀ (j:Nat) u,cs[j]? = some u→w.cell? ((a.add (i * d.sz)).add j) = some u)∧∃ x,d.K w x cs∧∀ q,els[i]? = some q→Q x (Rows.uptoBulk q.1):=by
    intro i hi;obtain ⟨q,hq,hf⟩:=hg i i (by simp [hi]);simp only [zB3] at hf;obtain ⟨cs,hcs,ht⟩:=hf;obtain ⟨h1,h2⟩:=c0G hcs;obtain ⟨x,hK,hQ⟩:=hE cs q.1 q.2 ht;rw [hsz] at h1 h2;exact ⟨cs,h1,h2,x,hK,fun q' hq' =>by rw [hq] at hq';cases hq';exact hQ⟩
   have hch:∃ f:Nat→α,∀ i,i < len→∃ cs,cs.length = d.sz∧(∀ (j:Nat) u,cs[j]? = some u→w.cell? ((a.add (i * d.sz)).add j) = some u)∧d.K w (f i) cs∧∀ q,els[i]? = some q→Q (f i) (Rows.uptoBulk q.1):=by
    refine ⟨fun i =>if hi:i < len then Classical.choose (Classical.choose_spec (hx i hi)).2.2 else z,fun i hi =>?_⟩;have hs:=Classical.choose_spec (hx i hi);refine ⟨Classical.choose (hx i hi),hs.1,hs.2.1,?_⟩;simp only [dif_pos hi];exact Classical.choose_spec hs.2.2
   obtain ⟨f,hf⟩:=hch;refine ⟨some a,cap,(List.range len).map f,els.map (·.1),by simp,by simp;exact hc.2.1,⟨rfl,?_,fun _ =>⟨a,rfl,fun j p hj =>?_⟩⟩,?_,by simp [hl],fun i x D' hi hD' =>?_⟩
   ·have:=hc.2.2;simp [maxLen] at this ⊢;omega
   ·simp only [List.getElem?_map,zC1] at hj;obtain ⟨j',hj',rfl⟩:=hj;obtain ⟨h1,h2⟩:=List.getElem?_eq_some_iff.1 hj';simp at h1 h2;subst h2;obtain ⟨cs,c1,c2,c3,_⟩:=hf j h1;refine ⟨cs,c1,c3,fun i u hu =>?_⟩;rw [← c2 i u hu]
    congr 1
    exact addr_add a _ _
   ·simp only [Rows.uptoBulk];omega
   ·simp only [List.getElem?_map,zC1] at hi hD';obtain ⟨i',hi',rfl⟩:=hi;obtain ⟨q,hq,rfl⟩:=hD';obtain ⟨h1,h2⟩:=List.getElem?_eq_some_iff.1 hi';simp at h1 h2;subst h2;obtain ⟨cs,c1,c2,c3,c4⟩:=hf i h1;exact c4 q hq
  ·cases h
 all_goals first | (cases h;done) | skip
theorem a7T {H:Type} {enc:TypeId × Value→H} {w:World} {t:TypeId} {k:IntKind} (hu:Tryz.prog.underlying t = some (.int k)) {held:Bool} {sp:Nat→Bool} (fuel:Nat) (cs:List Value) (D:DataW H) (ps:List MemPlace)
  (h:DataW.trod enc Tryz.prog w 0 sp held fuel t cs = some (D,ps)):∃ n,cs = [.int k n]:=by
 cases fuel with
 | zero =>cases h
 | succ fuel =>
 unfold DataW.trod at h;rw [hu] at h
 split at h <;> rename_i he
 all_goals first | (cases he;done) | skip
 ·rename_i k2 k3 n
  cases he
  split at h
  ·rename_i hk;exact ⟨n,by rw [hk.1]⟩
  ·cases h
 all_goals first | (cases h;done) | skip
theorem a2L {H : Type} {enc : TypeId × Value → H} {w : World} {t : TypeId} (hu : Tryz.prog.underlying t = some .string) {held : Bool} {sp : Nat → Bool} (fuel : Nat) (cs : List Value) (D : DataW H) (ps : List MemPlace)
    (h : DataW.trod enc Tryz.prog w 0 sp held fuel t cs = some (D, ps)) : ∃ s, cs = [.string s] ∧ s.size ≤ Rows.uptoBulk D := by
  cases fuel with
  | zero => cases h
  | succ fuel =>
  unfold DataW.trod at h;rw [hu] at h
  split at h <;> rename_i he
  all_goals first | (cases he; done) | skip
  · rename_i s
    split at h
    · cases h
      exact ⟨s, rfl, by simp only [Rows.uptoBulk]; have e : s.data.toList.length = s.size := by rw [zC3]; rfl
                        omega⟩
    · cases h
  all_goals first | (cases h; done) | skip
theorem a3J {H:Type} {enc:TypeId × Value→H} {w:World} {t:TypeId} {fs:Array Field} (hu:Tryz.prog.underlying t = some (.struct fs)) {held:Bool} {sp:Nat→Bool} (fuel:Nat) (cs:List Value) (D:DataW H) (ps:List MemPlace)
  (h:DataW.trod enc Tryz.prog w 0 sp held (fuel + 1) t cs = some (D,ps)):cs.length = Tryz.prog.cellsOf t∧∃ Ds,Rows.uptoBulk D = Rows.uptoBulkAll Ds + 1∧Ds.length = fs.size ∧
   ∀ (i:Nat) f,fs[i]? = some f→∃ D' p',Ds[i]? = some D'∧DataW.trod enc Tryz.prog w 0 sp held fuel f.type ((cs.drop f.offset).take (Tryz.prog.cellsOf f.type)) = some (D',p'):=by
 unfold DataW.trod at h;rw [hu] at h
 split at h <;> rename_i he
 all_goals first | (cases he;done) | skip
 ·rename_i fs'
  cases he
  split at h
  ·rename_i hc
   simp only [zC1,Prod.mk.injEq] at h;obtain ⟨xs,hxs,rfl,_⟩:=h;obtain ⟨h1,h2⟩:=b1W _ _ _ hxs;refine ⟨hc,xs.map (·.1),by simp [Rows.uptoBulk],by simpa using h1,fun i f hf =>?_⟩;obtain ⟨q,hq,ht⟩:=h2 i f (by simpa using hf);exact ⟨q.1,q.2,by simp [hq],ht⟩
  ·cases h
 all_goals exact absurd rfl ((by assumption:∀ fs':Array Field,some (TypeDesc.struct fs) = some (TypeDesc.struct fs')→False) _)
end Go.Proofs.YthhgfncliffggaaGreat.Man
namespace Go.Proofs.YthhgfncliffggaaGreat.Pr
open Go.RowKit Go.Proofs.YthhgfncliffggaaGreatW.PrintWords
theorem b9M:Kd.Heap k155:=Kd.b1Z _ (Kd.a2Q (Kd.a7L .i64) (Kd.a2Q (Kd.a7L .i64) Kd.a2P))
theorem a8O:Kd.Heap k65:=Kd.heap_fix (fun _ h_ =>Kd.b1Z _ (Kd.a2Q (Kd.a7L .i64) (Kd.a2Q Kd.a2P (Kd.a2Q Kd.a2P (Kd.a2Q Kd.a2P (Kd.a2Q (Kd.a3F 155 b9M) (Kd.a2Q (Kd.a3F 9 Kd.a2P) (Kd.a2Q (Kd.a3F 65 h_) (Kd.a3F 65 h_)))))))))
theorem k34_heap:Kd.Heap k34:=Kd.b1Z _ (Kd.a2Q Kd.a2P (Kd.a2Q (Kd.a3F 9 Kd.a2P) (Kd.a3F 65 a8O)))
theorem b9O:(Tryz.prog.info? 155).map (fun i =>(i.zero,i.size,i.bytes)) = some (some (.agg #[(.int .i64 0),(.int .i64 0),(.string ⟨#[]⟩)]),3,32):=by kernel_rfl
theorem b5U:(Tryz.prog.info? 34).map (fun i =>(i.zero,i.size,i.bytes)) = some (some (.agg #[(.string ⟨#[]⟩),(.slice none 0 0),(.slice none 0 0)]),3,64):=by kernel_rfl
end Go.Proofs.YthhgfncliffggaaGreat.Pr
namespace Go.Proofs.YthhgfncliffggaaGreat.Man
open Go.RowKit Go.Shelf Go.Proofs.YthhgfncliffggaaGreat.Pr Go.Proofs.YthhgfncliffggaaGreatW.PrintWords
attribute [local go_sem] Oper.semAt_some
def flat:List S65→List S65
 | [] =>[]
 | s :: r =>s :: (flat s.f6 ++ (flat s.f7 ++ flat r))
termination_by l =>SizeOf.sizeOf l
decreasing_by
 all_goals (obtain ⟨f0,f1,f2,f3,f4,f5,f6,f7⟩:=s;simp;omega)
def rowOf (bx:Option Nat) (W:World):Option Nat:=bx.bind fun b =>(W.cell? ⟨b,0,none⟩).bind Value.ownBlock
def Good (bx:Option Nat) (W:World):Prop:=∀ k,rowOf bx W = some k→k < W.heap.size
def Kp (n0 B:Nat) (bx:Option Nat) (W W':World):Prop :=
 Below n0 W W'∧(Good bx W→Good bx W'∧(rowOf bx W' = rowOf bx W∨∀ k,rowOf bx W' = some k→W.heap.size≤k) ∧
  ∀ k c,B≤k→W.heap[k]? = some c→c.isCells = true→rowOf bx W≠some k→W'.heap[k]? = some c)
theorem Kp.refl (n0 B:Nat) (bx:Option Nat) (W:World):Kp n0 B bx W W :=
 ⟨zG0 _ _,fun h =>⟨h,.inl rfl,fun _ _ _ h _ _ =>h⟩⟩
theorem Kp.trans {n0 B:Nat} {bx:Option Nat} {X Y Z:World} (h:Kp n0 B bx X Y) (k:Kp n0 B bx Y Z):Kp n0 B bx X Z:=by
 refine ⟨h.1.trans k.1,fun hg =>?_⟩;obtain ⟨g1,r1,c1⟩:=h.2 hg;obtain ⟨g2,r2,c2⟩:=k.2 g1;have hs:X.heap.size≤Y.heap.size:=h.1.size;refine ⟨g2,?_,?_⟩
 ·rcases r2 with r2 | r2
  ·rw [r2];exact r1
  ·exact .inr fun j hj =>zF0 hs (r2 j hj)
 ·intro j c hB hc hcc hne;have hlt:j < X.heap.size:=(Array.getElem?_eq_some_iff.1 hc).1;refine c2 j c hB (c1 j c hB hc hcc hne) hcc ?_;rcases r1 with r1 | r1
  ·rw [r1];exact hne
  ·intro e;have:=r1 j e;omega
theorem Kp.putObj {n0 B:Nat} {bx:Option Nat} (hn:n0≤B) (hb:∀ b,bx = some b→b < B) (W:World) (l:Nat) (o o':Obj) (hl:B≤l) (h:W.heap[l]? = some o) (ho:o.isCells = false) (_:o.isWalk = false):Kp n0 B bx W (W.putObj l o'):=by
 have hlt:l < W.heap.size:=(Array.getElem?_eq_some_iff.1 h).1;have hoth:∀ j,j≠l→(W.putObj l o').heap[j]? = W.heap[j]?:=fun j hj =>World.putObj_heap_other hj
 have hrow:rowOf bx (W.putObj l o') = rowOf bx W:=by
  unfold rowOf;cases bx with
  | none =>rfl
  | some b =>
   have hb':=hb b rfl;simp only [zU0];rw [show (W.putObj l o').cell? ⟨b,0,none⟩ = W.cell? ⟨b,0,none⟩ from World.cell?_of_block (hoth b qC0)]
 have hsz:W.heap.size≤(W.putObj l o').heap.size:=(grownBy_putObj' W l o').size;refine ⟨(zG0 n0 W).grown (grownBy_putObj' W l o') qC0 (fun k e =>by cases e;omega),fun hg =>⟨fun k hk =>?_,.inl hrow,fun k c hB hc hcc _ =>?_⟩⟩
 ·rw [hrow] at hk;exact zP1 (hg k hk) hsz
 ·rw [hoth k ?_];exact hc;intro e;subst e;rw [h] at hc;cases hc;rw [ho] at hcc;cases hcc
theorem a6U (bx:Option Nat) (W:World) (o:Obj) (hb:∀ b,bx = some b→b < W.heap.size):rowOf bx (W.alloc o) = rowOf bx W:=by
 unfold rowOf;cases bx with
 | none =>rfl
 | some b =>simp only [zU0];rw [World.cell?_of_block (Below.heap_alloc W o b (hb b rfl))]
theorem Kp.alloc {n0 B:Nat} {bx:Option Nat} {X W:World} (h:Kp n0 B bx X W) (o:Obj) (hn:n0≤W.heap.size) (hb:∀ b,bx = some b→b < W.heap.size):Kp n0 B bx X (W.alloc o):=by
 refine h.trans ⟨(zG0 _ _).alloc hn o,fun hg =>⟨fun k hk =>?_,.inl (a6U bx W o hb),fun k c hB hc _ _ =>?_⟩⟩
 ·rw [a6U bx W o hb] at hk;have:=hg k hk;simp;omega
 ·rw [Below.heap_alloc W o k (Array.getElem?_eq_some_iff.1 hc).1];exact hc
abbrev Elt (w:World) (P:Nat→Prop) (T:S65→Prop):Type:={ p:S65 × List Value // Kd.FK k65 w P p.1 p.2∧T p.1 }
def encE {w:World} {P:Nat→Prop} {T:S65→Prop} (x:Elt w P T):Array Value:=#[.agg x.1.2.toArray]
theorem a2Z (l:List S65) (k:Nat) (h:k < l.length):flat (l.take (k + 1)) = flat (l.take k) ++ (l[k] :: (flat l[k].f6 ++ flat l[k].f7)):=by
 induction l generalizing k with
 | nil =>simp at h
 | cons s r ih =>
  cases k with
  | zero =>simp [flat]
  | succ k =>simp [flat,ih k (by simpa using h)]
theorem a4G (a b:List S65):flat (a ++ b) = flat a ++ flat b:=by
 induction a with
 | nil =>simp [flat]
 | cons s r ih =>simp [flat,ih]
theorem flat_len (l:List S65) (k:Nat) (h:k < l.length):(flat (l.take k)).length + (1 + ((flat (a0J l k).f6).length + (flat (a0J l k).f7).length))≤(flat l).length:=by
 have h1:=a2Z l k h;have h2:flat l = flat (l.take (k + 1)) ++ flat (l.drop (k + 1)):=by rw [← a4G,List.take_append_drop]
 have h3:a0J l k = l[k]:=by simp [a0J,List.getD,h]
 rw [h2,h1,h3];simp;omega
theorem a6M (l:List S65) (k:Nat) (h:k < l.length) (s:S65) (hs:s ∈ a0J l k :: (flat (a0J l k).f6 ++ flat (a0J l k).f7)):s ∈ flat l:=by
 have h1:=a2Z l k h;have h2:flat l = flat (l.take (k + 1)) ++ flat (l.drop (k + 1)):=by rw [← a4G,List.take_append_drop]
 have h3:a0J l k = l[k]:=by simp [a0J,List.getD,h]
 rw [h3] at hs;rw [h2,h1];exact zQ3 _ (zW3 _ hs)
theorem a8K (l:List S65) (k:Nat) (h:k < l.length):SizeOf.sizeOf (a0J l k).f6 < SizeOf.sizeOf l∧SizeOf.sizeOf (a0J l k).f7 < SizeOf.sizeOf l:=by
 have h3:a0J l k = l[k]:=by simp [a0J,List.getD,h]
 have h4:=List.sizeOf_lt_of_mem (zD1 h);rw [h3];generalize l[k] = s at h4;obtain ⟨f0,f1,f2,f3,f4,f5,f6,f7⟩:=s;simp at h4;simp;omega
theorem Kp.keep {n0 B:Nat} {bx:Option Nat} {W W':World} (h:Kp n0 B bx W W') (hg:Good bx W) {k:Nat} {c:Array Value} {t:TypeId} (hB:B≤k) (hc:W.heap[k]? = some (.cells c t (0,0))) (hne:rowOf bx W≠some k) :
  W'.heap[k]? = some (.cells c t (0,0))∧rowOf bx W'≠some k:=by
 obtain ⟨g1,r1,c1⟩:=h.2 hg;refine ⟨c1 k _ hB hc rfl hne,?_⟩;have hlt:k < W.heap.size:=(Array.getElem?_eq_some_iff.1 hc).1;rcases r1 with r1 | r1
 ·rw [r1];exact hne
 ·intro e;have:=r1 k e;omega
theorem a2T {W:World} {k:Nat} {c:Array Value} {t:TypeId} (hc:W.heap[k]? = some (.cells c t (0,0))) (j:Nat):W.cell? ⟨k,j,none⟩ = c[j]?:=by
 simp [World.cell?,hc]
theorem atF {w:World} {P:Nat→Prop} {A:Option Addr} {xs:List S65} (h:Kd.F k65 w P A xs.length xs) (k:Nat) (hk:k < xs.length):∃ ad A4 c4 A5 c5 A6 c6 A7 c7,A = some ad∧w.cell? (ad.add (k * 8)) = some (.int .i64 (a0J xs k).f0) ∧
  w.cell? ⟨(ad.add (k * 8)).block,(ad.add (k * 8)).off + 1,none⟩ = some (.string (a0J xs k).f1)∧w.cell? ⟨(ad.add (k * 8)).block,(ad.add (k * 8)).off + 2,none⟩ = some (.string (a0J xs k).f2) ∧
  w.cell? ⟨(ad.add (k * 8)).block,(ad.add (k * 8)).off + 3,none⟩ = some (.string (a0J xs k).f3)∧w.cell? ⟨(ad.add (k * 8)).block,(ad.add (k * 8)).off + 4,none⟩ = some (.slice A4 (a0J xs k).f4.length c4) ∧
  w.cell? ⟨(ad.add (k * 8)).block,(ad.add (k * 8)).off + 5,none⟩ = some (.slice A5 (a0J xs k).f5.length c5)∧w.cell? ⟨(ad.add (k * 8)).block,(ad.add (k * 8)).off + 6,none⟩ = some (.slice A6 (a0J xs k).f6.length c6) ∧
  w.cell? ⟨(ad.add (k * 8)).block,(ad.add (k * 8)).off + 7,none⟩ = some (.slice A7 (a0J xs k).f7.length c7)∧(a0J xs k).f4.length≤c4∧Kd.F k155 w P A4 (a0J xs k).f4.length (a0J xs k).f4 ∧
  (a0J xs k).f5.length≤c5∧Kd.F Kd.string w P A5 (a0J xs k).f5.length (a0J xs k).f5∧(a0J xs k).f6.length≤c6∧Kd.F k65 w P A6 (a0J xs k).f6.length (a0J xs k).f6 ∧
  (a0J xs k).f7.length≤c7∧Kd.F k65 w P A7 (a0J xs k).f7.length (a0J xs k).f7 ∧
  Kd.FK k65 w P (a0J xs k) [.int .i64 (a0J xs k).f0,.string (a0J xs k).f1,.string (a0J xs k).f2,.string (a0J xs k).f3,.slice A4 (a0J xs k).f4.length c4,.slice A5 (a0J xs k).f5.length c5,.slice A6 (a0J xs k).f6.length c6,.slice A7 (a0J xs k).f7.length c7]:=by
 obtain ⟨ad,_,e,_⟩:=Kd.b2I (Kd.a4M h) z65 (k:Int) qC0 qC0;subst e;have hV:Kd.V k65 65 w 0 P (.slice (some ad) xs.length xs.length) xs:=Kd.V_mk (zJ0 _) h;obtain ⟨c,hcl,hFK,hcc⟩:=Kd.V_get hV z65 (k:Int) qC0 qC0;simp only [zK0] at hFK hcc;replace hcc:∀ j u,c[j]? = some u→w.cell? (ad.add (k * 8 + j)) = some u:=hcc;replace hFK:Kd.FK k65 w P (a0J xs k) c:=hFK;have hFK':=hFK;obtain ⟨A4,c4,A5,c5,A6,c6,A7,c7,rfl,l4,g4,l5,g5,l6,g6,l7,g7⟩:=b9J hFK
 exact ⟨ad,A4,c4,A5,c5,A6,c6,A7,c7,rfl,hcc 0 _ rfl,by rw [← a1L _ _ 1 qC0];exact hcc 1 _ rfl,by rw [← a1L _ _ 2 qC0];exact hcc 2 _ rfl,by rw [← a1L _ _ 3 qC0];exact hcc 3 _ rfl,
  by rw [← a1L _ _ 4 qC0];exact hcc 4 _ rfl,by rw [← a1L _ _ 5 qC0];exact hcc 5 _ rfl,by rw [← a1L _ _ 6 qC0];exact hcc 6 _ rfl,by rw [← a1L _ _ 7 qC0];exact hcc 7 _ rfl,l4,g4,l5,g5,l6,g6,l7,g7,hFK'⟩
theorem all_in (w:World) (P:Nat→Prop) (T:S65→Prop) (l:Nat) (B N:Nat) (bx:Option Nat) (hn:w.heap.size≤B) (hb:∀ b,bx = some b→b < B) (J Jx:List (Elt w P T)→World→Prop)
  (hY:∀ m pre x W,J pre W→pre.length < N→YieldAt Fence.wide m Tryz.prog l (encE x) W fun e W' =>
   (e = .returned (.bool true)∧J (pre ++ [x]) W'∧Kp w.heap.size B bx W W')∨(e = .returned (.bool false)∧Jx (pre ++ [x]) W'))
  (hJ:∀ pre W W',J pre W→W.grownBy W' none→J pre W') :
  ∀ (m:Nat) (xs:List S65),SizeOf.sizeOf xs < m→∀ (n:Nat) (A:Option Addr) (c:Nat) (pre:List (Elt w P T)) (W:World),xs.length≤c→(∀ s,s ∈ flat xs→T s)→Kd.F k65 w P A xs.length xs→J pre W→Below w.heap.size w W→Good bx W→B≤W.heap.size→pre.length + (flat xs).length≤N →
   CallsIn Fence.wide n Tryz.prog 56 #[.slice A xs.length c,.func (.yield l) #[] #[]] W fun e W' =>
    (e = .returned (.bool true)∧∃ es:List (Elt w P T),es.map (·.1.1) = flat xs∧J (pre ++ es) W'∧Kp w.heap.size B bx W W') ∨
    (e = .returned (.bool false)∧∃ (es:List (Elt w P T)) (q:List S65),es.map (·.1.1) ++ q = flat xs∧Jx (pre ++ es) W'):=by
 intro m
 induction m with
 | zero =>intro xs h;omega
 | succ m ih =>
 intro xs hsz n A c pre W hlc hT hC hJ0 hBe hG hBW hN;have hdd:∀ k:Nat,(Fence.wide.depth.isSome = true→1≤k):=fun k h =>by simp [Fence.wide] at h
 have hlen:xs.length≤9223372036854775807:=Kd.F_max hC;refine callsIn_of_wp Tryz.func56 rfl trivial ?_ rfl
 simp only [Tryz.ntmps56,zQ1,zR0,zI1,Nat.reduceAdd,Nat.reduceSub,zH3,zI3,zP3,zL3,zJ2,zK3];have IH:=zA0 ih;have HY:=zA0 hY;have HJ:=zA0 hJ;have HC:=zA0 hC;have HG:=zA0 hG;have HT:=zA0 hT;clear ih hY hJ hC hG hT
 gi_wp2
 gi_loopw [9] (fun i wr =>∃ (k:Nat) (es:List (Elt w P T)),k≤xs.length∧i = .int .i64 k∧Hid (es.map (·.1.1) = flat (xs.take k))∧Hid (J (pre ++ es) wr)∧Hid (Kp w.heap.size B bx W wr))
  (fun i _ =>xs.length - (intOf i).toNat)
 case atStart =>exact ⟨0,[],zG2 _,rfl,by simp [Hid,flat],by simpa [Hid] using hJ0,Kp.refl _ _ _ _⟩
 case round =>
  obtain ⟨k,es,hk,rfl,hes,hJk,hKp⟩:=hrel;have hle:=hKp.out.1.size;by_cases hlt:k < xs.length
  ·have hfl:=flat_len xs k hlt;obtain ⟨hs6,hs7⟩:=a8K xs k hlt;have hel:es.length = (flat (xs.take k)).length:=by rw [← hes.out];simp
   have hbel:=zA0 (hBe.trans hKp.out.1);obtain ⟨ad,A4,c4,A5,c5,A6,c6,A7,c7,e0,h0,h1,h2,h3,h4,h5,h6,h7,l4,g4,l5,g5,l6,g6,l7,g7,hK⟩:=atF HC.out k hlt;obtain ⟨x,hx⟩:∃ x:Elt w P T,x = ⟨(a0J xs k,_),hK,HT.out _ (a6M xs k hlt _ qE0)⟩:=⟨_,rfl⟩;replace h0:=a0A hbel.out h0;replace h1:=a0A hbel.out h1;replace h2:=a0A hbel.out h2;replace h3:=a0A hbel.out h3;replace h4:=a0A hbel.out h4;replace h5:=a0A hbel.out h5;replace h6:=a0A hbel.out h6;replace h7:=a0A hbel.out h7;have G6:=zA0 g6;have G7:=zA0 g7;clear g4 g5 l4 l5 g6 g7;subst e0;obtain ⟨s,hs⟩:∃ s,s = a0J xs k:=⟨_,rfl⟩;have HX:Hid (encE x = #[.agg #[.int .i64 (a0J xs k).f0,.string (a0J xs k).f1,.string (a0J xs k).f2,.string (a0J xs k).f3,.slice A4 (a0J xs k).f4.length c4,.slice A5 (a0J xs k).f5.length c5,.slice A6 (a0J xs k).f6.length c6,.slice A7 (a0J xs k).f7.length c7]]):=by rw [hx];rfl
   have HX1:Hid (x.1.1 = a0J xs k):=by rw [hx];rfl
   clear hx hK;rw [← hs] at h0 h1 h2 h3 h4 h5 h6 h7 l6 l7 hs6 hs7 hfl HX HX1 G6 G7;have HS:=zA0 hs;clear hs;have hy:=HY.out (n - 1) (pre ++ es) x (wr.alloc (.cells #[.int .i64 s.f0,.string s.f1,.string s.f2,.string s.f3,.slice A4 s.f4.length c4,.slice A5 s.f5.length c5,.slice A6 s.f6.length c6,.slice A7 s.f7.length c7] 65)) (HJ.out _ _ _ hJk.out (World.grownBy_alloc _ _ _)) qV0;rw [HX.out] at hy;have hg0:Good bx wr:=(hKp.out.2 HG.out).1;have hbw:∀ b,bx = some b→b < wr.heap.size:=fun b e =>by have:=hb b e;omega
   have hn1:rowOf bx (wr.alloc (.cells #[.int .i64 s.f0,.string s.f1,.string s.f2,.string s.f3,.slice A4 s.f4.length c4,.slice A5 s.f5.length c5,.slice A6 s.f6.length c6,.slice A7 s.f7.length c7] 65))≠some wr.heap.size:=by
    rw [a6U bx wr _ hbw];intro e;have:=hg0 _ e;omega
   have hK1:=Kp.alloc hKp.out (.cells #[.int .i64 s.f0,.string s.f1,.string s.f2,.string s.f3,.slice A4 s.f4.length c4,.slice A5 s.f5.length c5,.slice A6 s.f6.length c6,.slice A7 s.f7.length c7] 65) qC0 hbw;have hblk:=World.alloc_heap_new wr (.cells #[.int .i64 s.f0,.string s.f1,.string s.f2,.string s.f3,.slice A4 s.f4.length c4,.slice A5 s.f5.length c5,.slice A6 s.f6.length c6,.slice A7 s.f7.length c7] 65);have hg1:=(hK1.2 HG.out).1;generalize hW1:(wr.alloc (.cells #[.int .i64 s.f0,.string s.f1,.string s.f2,.string s.f3,.slice A4 s.f4.length c4,.slice A5 s.f5.length c5,.slice A6 s.f6.length c6,.slice A7 s.f7.length c7] 65)) = W1 at hy hn1 hK1 hblk hg1;have h7c:∀ W3 e7,e7 = es ++ [x]→∀ e6:List (Elt w P T),e6.map (·.1.1) = flat s.f6→J (pre ++ (e7 ++ e6)) W3→Kp w.heap.size B bx W1 W3→CallsIn Fence.wide (n - 1) Tryz.prog 56 #[.slice A7 s.f7.length c7,.func (.yield l) #[] #[]] W3 fun e W4 =>
     (e = .returned (.bool true)∧Hid (∃ es:List (Elt w P T),es.map (·.1.1) = flat (xs.take (k + 1))∧J (pre ++ es) W4∧Kp w.heap.size B bx W W4)) ∨
     (e = .returned (.bool false)∧Hid (∃ (es:List (Elt w P T)) (q:List S65),es.map (·.1.1) ++ q = flat xs∧Jx (pre ++ es) W4)):=by
    rintro W3 _ rfl e6 he6 hj hk3;have hl6:e6.length = (flat s.f6).length:=by rw [← he6];simp
    refine (IH.out s.f7 qC0 (n - 1) A7 c7 _ W3 l7 (fun s' hs' =>HT.out s' (a6M xs k hlt s' (by rw [← HS.out];simp [hs']))) G7.out hj ((hBe.trans hK1.1).trans hk3.1) ((hk3.2 hg1).1) (by have:=hk3.1.size;have:=hK1.1.size;omega) qV0).mono ?_;have htk:=a2Z xs k hlt;have h3:xs[k] = s:=by rw [HS.out];simp [a0J,List.getD,hlt]
    rw [h3] at htk;have hx1:x.1.1 = s:=by rw [HX1.out]
    rintro e W4 (⟨rfl,e8,he8,hj8,hk8⟩ | ⟨rfl,e8,q,he8,hj8⟩)
    ·refine .inl ⟨rfl,(es ++ [x]) ++ e6 ++ e8,?_,by simpa [zU2] using hj8,(hK1.trans hk3).trans hk8⟩;rw [htk];simp [hes.out,he6,he8,hx1]
    ·refine .inr ⟨rfl,(es ++ [x]) ++ e6 ++ e8,q ++ flat (xs.drop (k + 1)),?_,by simpa [zU2] using hj8⟩;rw [show flat xs = flat (xs.take (k + 1)) ++ flat (xs.drop (k + 1)) from by rw [← a4G,List.take_append_drop],htk,← he8];simp [hes.out,he6,hx1]
   have h6c:∀ W2,J (pre ++ es ++ [x]) W2→Kp w.heap.size B bx W1 W2→CallsIn Fence.wide (n - 1) Tryz.prog 56 #[.slice A6 s.f6.length c6,.func (.yield l) #[] #[]] W2 fun e W3 =>
     (e = .returned (.bool true)∧W3.cell? ⟨wr.heap.size,7,none⟩ = some (.slice A7 s.f7.length c7)∧Hid (CallsIn Fence.wide (n - 1) Tryz.prog 56 #[.slice A7 s.f7.length c7,.func (.yield l) #[] #[]] W3 fun e W4 =>
      (e = .returned (.bool true)∧Hid (∃ es:List (Elt w P T),es.map (·.1.1) = flat (xs.take (k + 1))∧J (pre ++ es) W4∧Kp w.heap.size B bx W W4)) ∨
      (e = .returned (.bool false)∧Hid (∃ (es:List (Elt w P T)) (q:List S65),es.map (·.1.1) ++ q = flat xs∧Jx (pre ++ es) W4)))) ∨
     (e = .returned (.bool false)∧Hid (∃ (es:List (Elt w P T)) (q:List S65),es.map (·.1.1) ++ q = flat xs∧Jx (pre ++ es) W3)):=by
    intro W2 hj hk2;obtain ⟨hb2,hr2⟩:=hk2.keep hg1 qC0 hblk hn1;refine (IH.out s.f6 qC0 (n - 1) A6 c6 _ W2 l6 (fun s' hs' =>HT.out s' (a6M xs k hlt s' (by rw [← HS.out];simp [hs']))) G6.out hj ((hBe.trans hK1.1).trans hk2.1) ((hk2.2 hg1).1) (by have:=hk2.1.size;have:=hK1.1.size;omega) qV0).mono ?_;have htk:=a2Z xs k hlt;have h3:xs[k] = s:=by rw [HS.out];simp [a0J,List.getD,hlt]
    rw [h3] at htk;have hx1:x.1.1 = s:=by rw [HX1.out]
    rintro e W3 (⟨rfl,e6,he6,hj6,hk6⟩ | ⟨rfl,e6,q,he6,hj6⟩)
    ·obtain ⟨hb3,hr3⟩:=hk6.keep ((hk2.2 hg1).1) qC0 hb2 hr2;exact .inl ⟨rfl,by rw [a2T hb3];rfl,h7c W3 _ rfl e6 he6 (by simpa [zU2] using hj6) (hk2.trans hk6)⟩
    ·refine .inr ⟨rfl,(es ++ [x]) ++ e6,q ++ (flat s.f7 ++ flat (xs.drop (k + 1))),?_,by simpa [zU2] using hj6⟩;rw [show flat xs = flat (xs.take (k + 1)) ++ flat (xs.drop (k + 1)) from by rw [← a4G,List.take_append_drop],htk,← he6];simp [hes.out,hx1]
   have hy2:=YieldAt.mono (R':=fun e W2 =>
     (e = .returned (.bool true)∧W2.cell? ⟨wr.heap.size,6,none⟩ = some (.slice A6 s.f6.length c6)∧Hid (CallsIn Fence.wide (n - 1) Tryz.prog 56 #[.slice A6 s.f6.length c6,.func (.yield l) #[] #[]] W2 fun e W3 =>
     (e = .returned (.bool true)∧W3.cell? ⟨wr.heap.size,7,none⟩ = some (.slice A7 s.f7.length c7)∧Hid (CallsIn Fence.wide (n - 1) Tryz.prog 56 #[.slice A7 s.f7.length c7,.func (.yield l) #[] #[]] W3 fun e W4 =>
      (e = .returned (.bool true)∧Hid (∃ es:List (Elt w P T),es.map (·.1.1) = flat (xs.take (k + 1))∧J (pre ++ es) W4∧Kp w.heap.size B bx W W4)) ∨
      (e = .returned (.bool false)∧Hid (∃ (es:List (Elt w P T)) (q:List S65),es.map (·.1.1) ++ q = flat xs∧Jx (pre ++ es) W4)))) ∨
     (e = .returned (.bool false)∧Hid (∃ (es:List (Elt w P T)) (q:List S65),es.map (·.1.1) ++ q = flat xs∧Jx (pre ++ es) W3)))) ∨
     (e = .returned (.bool false)∧Hid (∃ (es:List (Elt w P T)) (q:List S65),es.map (·.1.1) ++ q = flat xs∧Jx (pre ++ es) W2))) hy (fun e W2 h =>by
    have htk:=a2Z xs k hlt;have h3:xs[k] = s:=by rw [HS.out];simp [a0J,List.getD,hlt]
    rw [h3] at htk;have hx1:x.1.1 = s:=by rw [HX1.out]
    rcases h with ⟨rfl,hj,hk2⟩ | ⟨rfl,hj⟩
    ·obtain ⟨hb2,hr2⟩:=hk2.keep hg1 qC0 hblk hn1;exact .inl ⟨rfl,by rw [a2T hb2];rfl,h6c W2 hj hk2⟩
    ·refine .inr ⟨rfl,es ++ [x],(flat s.f6 ++ flat s.f7) ++ flat (xs.drop (k + 1)),?_,by simpa [zU2] using hj⟩;rw [show flat xs = flat (xs.take (k + 1)) ++ flat (xs.drop (k + 1)) from by rw [← a4G,List.take_append_drop],htk]
     simp [hes.out,hx1])
   have h29:Fence.wide.fn 56:=trivial;subst hW1;clear hy h6c h7c hblk hg1 hK1 hn1 hbw hg0;obtain ⟨fn,tmps,assign,body,hy,hR⟩:=hy2
   gi_wp2_with (first
    | ((try refine ⟨hdd _,?_⟩);refine hR.mono ?_;clear hR;rintro e W2 (⟨rfl,hc6,hcall6⟩ | ⟨rfl,hx2⟩))
    | ((try refine ⟨hdd _,?_⟩);gi_at_call 56;refine hcall6.out.mono ?_;clear hcall6;rintro e W3 (⟨rfl,hc7,hcall7⟩ | ⟨rfl,hx3⟩))
    | ((try refine ⟨hdd _,?_⟩);gi_at_call 56;refine hcall7.out.mono ?_;clear hcall7;rintro e W4 (⟨rfl,hd4⟩ | ⟨rfl,hx4⟩)))
   ·go_roundw
    case rel =>
     obtain ⟨es',he',hj',hk'⟩:=hd4.out;exact ⟨k + 1,es',by omega,by go_num,he',hj',hk'⟩
    case measure =>simp [intOf];omega
   ·go_ret;exact .inr ⟨rfl,hx4.out⟩
   ·go_ret;exact .inr ⟨rfl,hx3.out⟩
   ·go_ret;exact .inr ⟨rfl,hx2.out⟩
  ·have hke:k = xs.length:=by omega
   gi_wp2
   go_ret;refine .inl ⟨rfl,es,?_,hJk.out,hKp.out⟩;rw [hes.out,hke,zN1]
def Fit (l:List S65) (n:Nat):Prop:=(flat l).length≤n∧∀ s ∈ flat l,s.f4.length≤n∧s.f5.length≤n∧s.f6.length≤n∧s.f7.length≤n∧∀ b ∈ s.f5,b.size≤n
theorem b3O {s:S65} {n m:Nat} (h:s.f4.length≤n∧s.f5.length≤n∧s.f6.length≤n∧s.f7.length≤n∧∀ b ∈ s.f5,b.size≤n) (hm:n≤m):s.f4.length≤m∧s.f5.length≤m∧s.f6.length≤m∧s.f7.length≤m∧∀ b ∈ s.f5,b.size≤m :=
 ⟨zF0 h.1 hm,zF0 h.2.1 hm,zF0 h.2.2.1 hm,zF0 h.2.2.2.1 hm,fun b hb =>zF0 (h.2.2.2.2 b hb) hm⟩
theorem Fit.mono {l:List S65} {n m:Nat} (h:Fit l n) (hm:n≤m):Fit l m :=
 ⟨zF0 h.1 hm,fun s hs =>b3O (h.2 s hs) hm⟩
theorem a7M (s:S65) (r:List S65):flat (s :: r) = s :: (flat s.f6 ++ (flat s.f7 ++ flat r)):=by rw [flat]
theorem Fit.cons {s:S65} {r:List S65} {n m:Nat} (h:Fit [s] n) (hr:Fit r m):Fit (s :: r) (n + m):=by
 have e:flat (s :: r) = flat [s] ++ flat r:=by rw [a7M,a7M];simp [flat]
 unfold Fit;rw [e];refine ⟨by rw [zO0];have:=h.1;have:=hr.1;omega,fun x hx =>?_⟩;rcases zT0.1 hx with hx | hx
 ·exact b3O (h.2 x hx) (Nat.le_add_right _ _)
 ·exact b3O (hr.2 x hx) (Nat.le_add_left _ _)
theorem a8R (l:List S65) {H:Type} (Ds:List (DataW H)) (hl:l.length = Ds.length) (h:∀ (i:Nat) x D',l[i]? = some x→Ds[i]? = some D'→Fit [x] (Rows.uptoBulk D')):Fit l (Rows.uptoBulkAll Ds):=by
 induction l generalizing Ds with
 | nil =>exact ⟨by simp [flat],fun s hs =>by simp [flat] at hs⟩
 | cons x r ih =>
  cases Ds with
  | nil =>simp at hl
  | cons D Ds =>exact Fit.cons (h 0 x D rfl rfl) (ih Ds (by simpa using hl) (fun i y D' h1 h2 =>h (i + 1) y D' (by simpa using h1) (by simpa using h2)))
theorem b0X:Tryz.prog.cellsOf 3 = 1:=by kernel_rfl
theorem a2K:Tryz.prog.cellsOf 9 = 1:=by kernel_rfl
theorem a6P:Tryz.prog.cellsOf 155 = 3:=by kernel_rfl
theorem a9V:Tryz.prog.cellsOf 63 = 1:=by kernel_rfl
theorem a4T:Tryz.prog.cellsOf 25 = 1:=by kernel_rfl
theorem a6B:Tryz.prog.cellsOf 32 = 1:=by kernel_rfl
theorem a4H:Tryz.prog.cellsOf 65 = 8:=by kernel_rfl
theorem b0K {H:Type} {enc:TypeId × Value→H} {w:World} {held:Bool} {sp:Nat→Bool} (fuel:Nat) (cs:List Value) (D:DataW H) (ps:List MemPlace)
  (h:DataW.trod enc Tryz.prog w 0 sp held fuel 155 cs = some (D,ps)):∃ x,k155.K w x cs∧0≤Rows.uptoBulk D:=by
 cases fuel with
 | zero =>cases h
 | succ fuel =>
 obtain ⟨hl,Ds,hb,hn,hf⟩:=a3J Tryz.underlying155 fuel cs D ps h;rw [a6P] at hl;obtain ⟨a,b,c,rfl⟩:∃ a b c,cs = [a,b,c]:=by
  match cs,hl with
  | [a,b,c],_ =>exact ⟨a,b,c,rfl⟩
 obtain ⟨D0,p0,g0,t0⟩:=hf 0 _ rfl;obtain ⟨D1,p1,g1,t1⟩:=hf 1 _ rfl;obtain ⟨D2,p2,g2,t2⟩:=hf 2 _ rfl;simp only [zJ3,zF3,zN3,b0X,a2K,zZ2,zR3,zV2,zO2] at t0 t1 t2;obtain ⟨n0,e0⟩:=a7T Tryz.underlying3 _ _ _ _ t0;obtain ⟨n1,e1⟩:=a7T Tryz.underlying3 _ _ _ _ t1;obtain ⟨s2,e2,_⟩:=a2L Tryz.underlying9 _ _ _ _ t2;cases e0;cases e1;cases e2;exact ⟨⟨n0,n1,s2⟩,b9L w ⟨n0,n1,s2⟩,zG2 _⟩
theorem a7A {H:Type} {enc:TypeId × Value→H} {w:World} {held:Bool} {sp:Nat→Bool} (fuel:Nat) (cs:List Value) (D:DataW H) (ps:List MemPlace)
  (h:DataW.trod enc Tryz.prog w 0 sp held fuel 9 cs = some (D,ps)):∃ x,Kd.string.K w x cs∧x.size≤Rows.uptoBulk D:=by
 obtain ⟨s,rfl,hs⟩:=a2L Tryz.underlying9 _ _ _ _ h;exact ⟨s,rfl,hs⟩
theorem b2D {H:Type}:∀ (Ds:List (DataW H)) (i:Nat) (D:DataW H),Ds[i]? = some D→Rows.uptoBulk D≤Rows.uptoBulkAll Ds:=by
 intro Ds
 induction Ds with
 | nil =>intro i D h;simp at h
 | cons x r ih =>
  intro i D h;cases i with
  | zero =>simp at h;subst h;simp only [Rows.uptoBulkAll];omega
  | succ i =>have:=ih i D (by simpa using h);simp only [Rows.uptoBulkAll];omega
theorem a9C {H:Type} {xs:List ByteArray} {Ds:List (DataW H)} (hn:xs.length = Ds.length) (hf:∀ (i:Nat) x D',xs[i]? = some x→Ds[i]? = some D'→x.size≤Rows.uptoBulk D'):∀ b ∈ xs,b.size≤Rows.uptoBulkAll Ds:=by
 intro b hb;obtain ⟨i,hi,rfl⟩:=List.getElem_of_mem hb;have hD:Ds[i]? = some (Ds[i]'qC0):=zD0 qC0;exact zF0 (hf i _ _ (zD0 hi) hD) (b2D Ds i _ hD)
theorem a9Y {H:Type} {enc:TypeId × Value→H} {w:World} {held:Bool} {sp:Nat→Bool} (fuel:Nat):∀ (cs:List Value) (D:DataW H) (ps:List MemPlace)
  (h:DataW.trod enc Tryz.prog w 0 sp held fuel 65 cs = some (D,ps)),∃ x,k65.K w x cs∧Fit [x] (Rows.uptoBulk D):=by
 induction fuel using Nat.strongRecOn with
 | _ fuel ih =>
 intro cs D ps h;cases fuel with
 | zero =>cases h
 | succ fuel =>
 obtain ⟨hl,Ds,hb,hn,hf⟩:=a3J Tryz.underlying65 fuel cs D ps h;rw [a4H] at hl;obtain ⟨a,b,c,d,e,f,g,i,rfl⟩:∃ a b c d e f g i,cs = [a,b,c,d,e,f,g,i]:=by
  match cs,hl with
  | [a,b,c,d,e,f,g,i],_ =>exact ⟨a,b,c,d,e,f,g,i,rfl⟩
 obtain ⟨D0,p0,g0,t0⟩:=hf 0 _ rfl;obtain ⟨D1,p1,g1,t1⟩:=hf 1 _ rfl;obtain ⟨D2,p2,g2,t2⟩:=hf 2 _ rfl;obtain ⟨D3,p3,g3,t3⟩:=hf 3 _ rfl;obtain ⟨D4,p4,g4,t4⟩:=hf 4 _ rfl;obtain ⟨D5,p5,g5,t5⟩:=hf 5 _ rfl;obtain ⟨D6,p6,g6,t6⟩:=hf 6 _ rfl;obtain ⟨D7,p7,g7,t7⟩:=hf 7 _ rfl;simp only [zJ3,zF3,zN3,b0X,a2K,a9V,a4T,a6B,zZ2,zR3,zV2,zO2] at t0 t1 t2 t3 t4 t5 t6 t7;cases fuel with
 | zero =>cases t0
 | succ fuel =>
 obtain ⟨n0,e0⟩:=a7T Tryz.underlying3 _ _ _ _ t0;obtain ⟨s1,e1,_⟩:=a2L Tryz.underlying9 _ _ _ _ t1;obtain ⟨s2,e2,_⟩:=a2L Tryz.underlying9 _ _ _ _ t2;obtain ⟨s3,e3,_⟩:=a2L Tryz.underlying9 _ _ _ _ t3;obtain ⟨A4,c4,l4,D4s,e4,m4,q4,b4,n4,_⟩:=a2F Tryz.underlying63 k155 z155 a6P (fun _ _ =>True) fuel (fun cs D ps h =>by obtain ⟨x,hx,_⟩:=b0K fuel cs D ps h;exact ⟨x,hx,trivial⟩) _ _ _ t4;obtain ⟨A5,c5,l5,D5s,e5,m5,q5,b5,n5,f5⟩:=a2F Tryz.underlying25 Kd.string (⟨#[]⟩:ByteArray) a2K (fun x n =>x.size≤n) fuel (fun cs D ps h =>a7A fuel cs D ps h) _ _ _ t5;obtain ⟨A6,c6,l6,D6s,e6,m6,q6,b6,n6,f6⟩:=a2F Tryz.underlying32 k65 z65 a4H (fun x n =>Fit [x] n) fuel (fun cs D ps h =>ih fuel qC0 cs D ps h) _ _ _ t6;obtain ⟨A7,c7,l7,D7s,e7,m7,q7,b7,n7,f7⟩:=a2F Tryz.underlying32 k65 z65 a4H (fun x n =>Fit [x] n) fuel (fun cs D ps h =>ih fuel qC0 cs D ps h) _ _ _ t7;cases e0;cases e1;cases e2;cases e3;cases e4;cases e5;cases e6;cases e7;have F6:=a8R l6 D6s n6 f6;have F7:=a8R l7 D7s n7 f7;refine ⟨⟨n0,s1,s2,s3,l4,l5,l6,l7⟩,k65_mk w ⟨n0,s1,s2,s3,l4,l5,l6,l7⟩ m4 q4 m5 q5 m6 q6 m7 q7,?_⟩;have B4:=a3Y D4s;have B5:=a3Y D5s;have B6:=a3Y D6s;have B7:=a3Y D7s;have hsum:Rows.uptoBulk D4 + Rows.uptoBulk D5 + Rows.uptoBulk D6 + Rows.uptoBulk D7 + 1≤Rows.uptoBulk D:=by
  rw [hb];obtain ⟨x0,x1,x2,x3,x4,x5,x6,x7,rfl⟩:∃ x0 x1 x2 x3 x4 x5 x6 x7,Ds = [x0,x1,x2,x3,x4,x5,x6,x7]:=by
   match Ds,hn with
   | [x0,x1,x2,x3,x4,x5,x6,x7],_ =>exact ⟨x0,x1,x2,x3,x4,x5,x6,x7,rfl⟩
  cases g4;cases g5;cases g6;cases g7;simp only [Rows.uptoBulkAll];omega
 unfold Fit;rw [a7M];simp only [flat,zR2,zR0,zO0,zQ0,zT0];refine ⟨by have:=F6.1;have:=F7.1;omega,fun x hx =>?_⟩;rcases hx with rfl | hx | hx
 ·have S5:=a9C n5 f5;exact ⟨by simp only;omega,by simp only;omega,by simp only;omega,by simp only;omega,fun b hb =>zF0 (S5 b hb) qC0⟩
 ·exact b3O (F6.2 x hx) qC0
 ·exact b3O (F7.2 x hx) qC0
theorem a6Z:Tryz.prog.cellsOf 34 = 3:=by kernel_rfl
theorem b3T:Tryz.prog.cellsOf 22 = 1:=by kernel_rfl
theorem b4U:Tryz.prog.cellsOf 24 = 1:=by kernel_rfl
def FitF (f:S34) (n:Nat):Prop:=f.f1.length≤n∧Fit f.f2 n∧∀ b ∈ f.f1,b.size≤n
def FitP (l:List S34) (n:Nat):Prop:=l.length≤n∧∀ f ∈ l,FitF f n
theorem FitF.mono {f:S34} {n m:Nat} (h:FitF f n) (hm:n≤m):FitF f m:=⟨by have:=h.1;omega,h.2.1.mono hm,fun b hb =>zF0 (h.2.2 b hb) hm⟩
theorem FitP.mono {l:List S34} {n m:Nat} (h:FitP l n) (hm:n≤m):FitP l m:=⟨by have:=h.1;omega,fun f hf =>(h.2 f hf).mono hm⟩
theorem b4Y {H:Type} {enc:TypeId × Value→H} {w:World} {held:Bool} {sp:Nat→Bool} (fuel:Nat) (cs:List Value) (D:DataW H) (ps:List MemPlace)
  (h:DataW.trod enc Tryz.prog w 0 sp held fuel 34 cs = some (D,ps)):∃ x,k34.K w x cs∧FitF x (Rows.uptoBulk D):=by
 cases fuel with
 | zero =>cases h
 | succ fuel =>
 obtain ⟨hl,Ds,hb,hn,hf⟩:=a3J Tryz.underlying34 fuel cs D ps h;rw [a6Z] at hl;obtain ⟨a,b,c,rfl⟩:∃ a b c,cs = [a,b,c]:=by
  match cs,hl with
  | [a,b,c],_ =>exact ⟨a,b,c,rfl⟩
 obtain ⟨D0,p0,g0,t0⟩:=hf 0 _ rfl;obtain ⟨D1,p1,g1,t1⟩:=hf 1 _ rfl;obtain ⟨D2,p2,g2,t2⟩:=hf 2 _ rfl;simp only [zJ3,zF3,zN3,a2K,a4T,a6B,zZ2,zR3,zV2,zO2] at t0 t1 t2;cases fuel with
 | zero =>cases t0
 | succ fuel =>
 obtain ⟨s0,e0,_⟩:=a2L Tryz.underlying9 _ _ _ _ t0;obtain ⟨A1,c1,l1,D1s,e1,m1,q1,b1,n1,f1⟩:=a2F Tryz.underlying25 Kd.string (⟨#[]⟩:ByteArray) a2K (fun x n =>x.size≤n) fuel (fun cs D ps h =>a7A fuel cs D ps h) _ _ _ t1;obtain ⟨A2,c2,l2,D2s,e2,m2,q2,b2,n2,f2⟩:=a2F Tryz.underlying32 k65 z65 a4H (fun x n =>Fit [x] n) fuel (fun cs D ps h =>a9Y fuel cs D ps h) _ _ _ t2;cases e0;cases e1;cases e2;have F2:=a8R l2 D2s n2 f2;have B1:=a3Y D1s;have B2:=a3Y D2s;have hsum:Rows.uptoBulk D1 + Rows.uptoBulk D2 + 1≤Rows.uptoBulk D:=by
  rw [hb];obtain ⟨x0,x1,x2,rfl⟩:∃ x0 x1 x2,Ds = [x0,x1,x2]:=by
   match Ds,hn with
   | [x0,x1,x2],_ =>exact ⟨x0,x1,x2,rfl⟩
  cases g1;cases g2;simp only [Rows.uptoBulkAll];omega
 exact ⟨⟨s0,l1,l2⟩,b9K w ⟨s0,l1,l2⟩ m1 q1 m2 q2,by simp only;omega,F2.mono qC0,fun b hb =>zF0 (a9C n1 f1 b hb) qC0⟩
theorem b9Z {H:Type}:∀ (l:List S34) (Ds:List (DataW H)),l.length = Ds.length→(∀ (i:Nat) x D',l[i]? = some x→Ds[i]? = some D'→FitF x (Rows.uptoBulk D'))→(l.flatMap fun f =>flat f.f2).length≤Rows.uptoBulkAll Ds:=by
 intro l
 induction l with
 | nil =>intro Ds _ _;simp
 | cons x r ih =>
  intro Ds hl h;cases Ds with
  | nil =>simp at hl
  | cons D Ds =>
   have h1:=(h 0 x D rfl rfl).2.1.1;have h2:=ih Ds (by simpa using hl) (fun i y D' h1 h2 =>h (i + 1) y D' (by simpa using h1) (by simpa using h2));simp only [List.flatMap_cons,zO0,Rows.uptoBulkAll];omega
theorem b3V {H:Type} {enc:TypeId × Value→H} {w:World} {held:Bool} {sp:Nat→Bool} (fuel:Nat) (cs:List Value) (D:DataW H) (ps:List MemPlace)
  (h:DataW.trod enc Tryz.prog w 0 sp held fuel 22 cs = some (D,ps)):∃ A c l,cs = [.slice A l.length c]∧l.length≤c∧Kd.C k34 w A l.length l∧FitP l (Rows.uptoBulk D)∧(l.flatMap fun f =>flat f.f2).length≤Rows.uptoBulk D:=by
 cases fuel with
 | zero =>cases h
 | succ fuel =>
 obtain ⟨A,c,l,Ds,e,m,q,hb,hn,hf⟩:=a2F Tryz.underlying22 k34 z34 a6Z (fun x n =>FitF x n) fuel (fun cs D ps h =>b4Y fuel cs D ps h) _ _ _ h;have B:=a3Y Ds;refine ⟨A,c,l,e,m,q,⟨by omega,fun f hfm =>?_⟩,zF0 (b9Z l Ds hn hf) qC0⟩;obtain ⟨i,hi,rfl⟩:=List.getElem_of_mem hfm;have hD:Ds[i]? = some (Ds[i]'qC0):=zD0 qC0;have h1:=hf i _ _ (zD0 hi) hD;have h2:=b2D Ds i _ hD;exact h1.mono qC0
theorem b4X {H:Type} {enc:TypeId × Value→H} {w:World} {held:Bool} {sp:Nat→Bool} (fuel:Nat) (v:Array Value) (D:DataW H) (ps:List MemPlace)
  (h:DataW.trod enc Tryz.prog w 0 sp held fuel 24 (Value.agg v).cells.toList = some (D,ps)):∃ A c l,v = #[.slice A l.length c]∧l.length≤c∧Kd.C k34 w A l.length l∧FitP l (Rows.uptoBulk D)∧(l.flatMap fun f =>flat f.f2).length≤Rows.uptoBulk D:=by
 cases fuel with
 | zero =>cases h
 | succ fuel =>
 obtain ⟨hl,Ds,hb,hn,hf⟩:=a3J Tryz.underlying24 fuel _ D ps h;rw [b4U] at hl;obtain ⟨v0,hv⟩:∃ a,v = #[a]:=by
  have hl':v.size = 1:=by simpa [Value.cells] using hl
  obtain ⟨l⟩:=v
  match l,hl' with
  | [a],_ =>exact ⟨a,rfl⟩
 subst hv;obtain ⟨D0,p0,g0,t0⟩:=hf 0 _ rfl;simp only [Value.cells,zJ3,zF3,b3T,zZ2,zV2,zO2] at t0;obtain ⟨A,c,l,e,m,q,hB,hT⟩:=b3V fuel _ _ _ t0;have hsum:Rows.uptoBulk D0≤Rows.uptoBulk D:=by have:=b2D Ds 0 D0 g0;omega
 obtain rfl:v0 = .slice A l.length c:=by simpa using e
 exact ⟨A,c,l,rfl,m,q,hB.mono hsum,zF0 hT hsum⟩
theorem len_flat (l:List S65):l.length≤(flat l).length:=by
 induction l with
 | nil =>simp
 | cons s r ih =>rw [a7M];simp;omega
theorem c0K {H:Type} {enc:TypeId × Value→H} {w:World} {held:Bool} {sp:Nat→Bool} (fuel:Nat) (v:Array Value) (D:DataW H) (ps:List MemPlace)
  (h:DataW.trod enc Tryz.prog w 0 sp held fuel 34 (Value.agg v).cells.toList = some (D,ps)):∃ A c A' c' x,v = #[.string x.f0,.slice A x.f1.length c,.slice A' x.f2.length c']∧(x.f1.length≤c∧Kd.C Kd.string w A x.f1.length x.f1∧x.f2.length≤c'∧Kd.C k65 w A' x.f2.length x.f2)∧FitP [x] (Rows.uptoBulk D):=by
 cases fuel with
 | zero =>cases h
 | succ fuel =>
 obtain ⟨hl,Ds,hb,hn,hf⟩:=a3J Tryz.underlying34 fuel _ D ps h;rw [a6Z] at hl;obtain ⟨a,b,c,hv⟩:∃ a b c,v = #[a,b,c]:=by
  have hl':v.size = 3:=by simpa [Value.cells] using hl
  obtain ⟨l⟩:=v
  match l,hl' with
  | [a,b,c],_ =>exact ⟨a,b,c,rfl⟩
 subst hv;obtain ⟨D0,p0,g0,t0⟩:=hf 0 _ rfl;obtain ⟨D1,p1,g1,t1⟩:=hf 1 _ rfl;obtain ⟨D2,p2,g2,t2⟩:=hf 2 _ rfl;simp only [Value.cells,zJ3,zF3,zN3,a2K,a4T,a6B,zZ2,zR3,zV2,zO2] at t0 t1 t2;cases fuel with
 | zero =>cases t0
 | succ fuel =>
 obtain ⟨s0,e0,_⟩:=a2L Tryz.underlying9 _ _ _ _ t0;obtain ⟨A1,c1,l1,D1s,e1,m1,q1,b1,n1,f1⟩:=a2F Tryz.underlying25 Kd.string (⟨#[]⟩:ByteArray) a2K (fun x n =>x.size≤n) fuel (fun cs D ps h =>a7A fuel cs D ps h) _ _ _ t1;obtain ⟨A2,c2,l2,D2s,e2,m2,q2,b2,n2,f2⟩:=a2F Tryz.underlying32 k65 z65 a4H (fun x n =>Fit [x] n) fuel (fun cs D ps h =>a9Y fuel cs D ps h) _ _ _ t2;cases e0;cases e1;cases e2;have F2:=a8R l2 D2s n2 f2;have B1:=a3Y D1s;have B2:=a3Y D2s;have hsum:Rows.uptoBulk D1 + Rows.uptoBulk D2 + 1≤Rows.uptoBulk D:=by
  rw [hb];obtain ⟨x0,x1,x2,rfl⟩:∃ x0 x1 x2,Ds = [x0,x1,x2]:=by
   match Ds,hn with
   | [x0,x1,x2],_ =>exact ⟨x0,x1,x2,rfl⟩
  cases g1;cases g2;simp only [Rows.uptoBulkAll];omega
 refine ⟨A1,c1,A2,c2,⟨s0,l1,l2⟩,rfl,⟨m1,q1,m2,q2⟩,by simp only [zY2];omega,fun g hg =>?_⟩;obtain rfl:=zA1.1 hg;exact ⟨by simp only;omega,F2.mono qC0,fun b hb =>zF0 (a9C n1 f1 b hb) qC0⟩
theorem b2V {F:Fence} (hd:F.depth = none) (k:Nat):F.room k:=fun d h =>by rw [hd] at h;cases h
theorem a8F {F:Fence} (hd:F.depth = none) {m m':Nat} {P:Program} {l:Nat} {f:FuncId} {tmps:Array Value} {assign body:Code} {w:World} {R:Ending→World→Prop}
  (h:RoundIn F m P l f tmps assign body w R):RoundIn F m' P l f tmps assign body w R:=⟨h.1,fun c cs _ =>h.2 c cs (b2V hd _)⟩
theorem a8E {F:Fence} (hd:F.depth = none) {m:Nat} (m':Nat) {P:Program} {l:Nat} {args:Array Value} {W:World} {R:Ending→World→Prop} (h:YieldAt F m P l args W R):YieldAt F m' P l args W R:=by
 obtain ⟨fn,tmps,assign,body,hy,hR⟩:=h;exact ⟨fn,tmps,assign,body,hy,a8F hd hR⟩
theorem all1_in (w:World) (P:Nat→Prop) (T:S65→Prop) (n l:Nat) (B:Nat) (bx:Option Nat) (hn:w.heap.size≤B) (hb:∀ b,bx = some b→b < B) (J Jx:List (Elt w P T)→World→Prop) (xs:List S65) (A:Option Addr) (c:Nat) (hlc:xs.length≤c) (hT:∀ s,s ∈ flat xs→T s) (hC:Kd.F k65 w P A xs.length xs)
  (hY:∀ pre x W,J pre W→pre.length < (flat xs).length→YieldAt Fence.wide (n - 1) Tryz.prog l (encE x) W fun e W' =>
   (e = .returned (.bool true)∧J (pre ++ [x]) W'∧Kp w.heap.size B bx W W')∨(e = .returned (.bool false)∧Jx (pre ++ [x]) W'))
  (hJ:∀ pre W W',J pre W→W.grownBy W' none→J pre W') (W:World) (hJ0:J [] W) (hBe:Below w.heap.size w W) (hG:Good bx W) (hBW:B≤W.heap.size) (Bt:Nat) (hBt:W.cell? ⟨Bt,0,none⟩ = some (.slice A xs.length c)) :
  CallsIn Fence.wide n Tryz.prog 55 #[.func (.yield l) #[] #[],.pointer (some ⟨Bt,0,none⟩)] W fun e W' =>(∃ v,e = .returned v) ∧
   ((∃ es:List (Elt w P T),es.map (·.1.1) = flat xs∧J es W')∨(∃ es:List (Elt w P T),(∃ q,es.map (·.1.1) ++ q = flat xs)∧Jx es W')):=by
 have hdd:∀ k:Nat,(Fence.wide.depth.isSome = true→1≤k):=fun k h =>by simp [Fence.wide] at h
 have hp:=all_in w P T l B (flat xs).length bx hn hb J Jx (fun m pre x W hj hl =>a8E rfl m (hY pre x W hj hl)) hJ _ xs (zS0 _) (n - 1) A c [] W hlc hT hC hJ0 hBe hG hBW qE0;have h29:Fence.wide.fn 56:=trivial;clear hY hJ hC hT;refine callsIn_of_wp Tryz.func55 rfl trivial ?_ rfl
 simp only [Tryz.ntmps55,zQ1,zR0,zI1,Nat.reduceAdd,Nat.reduceSub,zH3,zI3,zP3,zL3,zJ2,zK3]
 gi_wp2_with ((try refine ⟨hdd _,?_⟩);gi_at_call 56;refine hp.mono ?_;clear hp;rintro e W1 (⟨rfl,es,hes,hJ1,_⟩ | ⟨rfl,es,q,hq,hx⟩))
 ·go_end0
  exact ⟨⟨_,rfl⟩,.inl ⟨es,hes,by simpa using hJ1⟩⟩
 ·go_end0
  exact ⟨⟨_,rfl⟩,.inr ⟨es,⟨q,hq⟩,by simpa using hx⟩⟩
theorem c0N (w w1:World) (P:Nat→Prop) (T:S65→Prop) (n:Nat) (bx:Option Nat) (xs:List S65) (A:Option Addr) (c:Nat) (hlc:xs.length≤c) (hT:∀ s,s ∈ flat xs→T s) (hC:Kd.F k65 w P A xs.length xs) (hBe:Below w.heap.size w w1) (Bt:Nat) (hlt:Bt < w1.heap.size)
  (hBt:w1.cell? ⟨Bt,0,none⟩ = some (.slice A xs.length c)) (hb:∀ b,bx = some b→b < w1.heap.size) (hG:Good bx w1) :
  SeqStopsK Fence.wide n Tryz.prog 55 #[.pointer (some ⟨Bt,0,none⟩)] (encE (w:=w) (P:=P) (T:=T)) (Kp w.heap.size w1.heap.size bx) (fun es =>es.map (·.1.1) = flat xs) (fun es =>∃ q,es.map (·.1.1) ++ q = flat xs) (flat xs).length w1:=by
 intro l J Jx W hW hJ _ hY h0;refine all1_in w P T n l w1.heap.size bx hBe.size hb J Jx xs A c hlc hT hC hY (fun pre X Y hj hg =>hJ pre X Y none hj hg (fun r e =>by cases e)) W h0 (hBe.trans (hW.mono hBe.size)) ?_ hW.size Bt ((hW.cell (p:=⟨Bt,0,none⟩) hlt).trans hBt);intro k hk;have hr:rowOf bx W = rowOf bx w1:=by
  unfold rowOf;cases bx with
  | none =>rfl
  | some b =>simp only [zU0];rw [hW.cell (p:=⟨b,0,none⟩) (hb b rfl)]
 rw [hr] at hk;exact zP1 (hG k hk) hW.size
theorem b5O (n:Nat) (v:Value) (hv:v.oneCell' = true) (w:World) :
  CallsIn Fence.wide n Tryz.prog 33 #[v] w fun e w' =>e = .returned (.func (.func 55) #[] #[.pointer (some ⟨w.heap.size,0,none⟩)])∧w' = w.alloc (.cells #[v] 32):=by
 refine callsIn_of_wp Tryz.func33 rfl trivial ?_ rfl
 simp only [Tryz.ntmps33,zQ1,zR0,zI1,Nat.reduceAdd,Nat.reduceSub,zH3,zI3,zP3,zL3,zJ2,zK3]
 gi_wp2
 go_ret;exact ⟨rfl,rfl⟩
theorem Good.none (W:World):Good none W:=fun k h =>by simp [rowOf] at h
def Ev {α:Type} (f:Nat→Option α) (r:α):Prop:=∃ k,∀ k',k≤k'→f k' = some r
theorem Ev.const {α:Type} (r:α):Ev (fun _ =>some r) r:=⟨0,fun _ _ =>rfl⟩
theorem Ev.bind {α β:Type} {f:Nat→Option α} {g:Nat→α→Option β} {a:α} {b:β} (h:Ev f a) (h2:Ev (fun k =>g k a) b):Ev (fun k =>(f k).bind (g k)) b:=by
 obtain ⟨k1,e1⟩:=h;obtain ⟨k2,e2⟩:=h2;exact ⟨max k1 k2,fun k' hk =>by show (f k').bind (g k') = some b;rw [e1 k' qC0];exact e2 k' qC0⟩
theorem Ev.succ {α:Type} {f g:Nat→Option α} {r:α} (h:Ev g r) (hs:∀ k,f (k + 1) = g k):Ev f r:=by
 obtain ⟨k,e⟩:=h;exact ⟨k + 1,fun k' hk =>by obtain ⟨j,rfl⟩:∃ j,k' = j + 1:=⟨k' - 1,by omega⟩;rw [hs];exact e j qC0⟩
theorem Ev.step {α:Type} {f:Nat→Option α} {r:α} (h:Ev (fun k =>f (k + 1)) r):Ev f r:=h.succ (fun _ =>rfl)
theorem pz (n:Nat) (h:n≤1050000):wrap64 ((n:Int) + 1) = ((n + 1:Nat):Int):=by simp only [wrap64];omega
def leftOf (listed:Array Bool):Nat:=(listed.toList.filter (fun b =>!b)).length
theorem b5R (l : List Bool) (i : Nat) (h : l[i]? = some false) : ((l.set i true).filter (fun b => !b)).length + 1 = (l.filter (fun b => !b)).length := by
  induction l generalizing i with
  | nil => simp at h
  | cons b r ih =>
    cases i with
    | zero => obtain rfl : b = false := by simpa using h
              simp
    | succ i =>
      have := ih i (by simpa using h);cases b <;> simp <;> omega
theorem a5V {md:Region.Mode} {ops:Array Oper} {listed:Array Bool} {i:Nat} (h:i ∈ Region.ready md ops listed):listed.toList[i]? = some false:=by
 unfold Region.ready at h;have:=(zT1.1 h).2;simp only [zZ0,Bool.not_eq_true'] at this;have h1:=this.1;rw [zH1] at h1;rw [Array.getElem?_toList];cases hh:listed[i]? with
 | none =>rw [hh] at h1;simp at h1
 | some b =>rw [hh] at h1;simp at h1;rw [h1]
theorem a6S {F:Fence} {n:Nat} {P:Program} {md:Region.Mode} {ops:Array Oper} {Q:Exit→Act→World→Prop} (I:Array Bool→Act→World→Prop)
  (hstep:∀ listed a w i,I listed a w→i ∈ Region.ready md ops listed→wpOpIn F n P ops Q i (fun a w =>I (listed.setIfInBounds i true) a w) a w)
  (hend:∀ listed a w,I listed a w→Region.ready md ops listed = []→Q .normal a w) :
  ∀ fuel listed a w,leftOf listed≤fuel→I listed a w→wpAnyIn F n P md ops Q fuel listed a w:=by
 intro fuel
 induction fuel with
 | zero =>
  intro listed a w hf hi;have hr:Region.ready md ops listed = []:=by
   cases hh:Region.ready md ops listed with
   | nil =>rfl
   | cons i r =>
    have h1:=a5V (md:=md) (ops:=ops) (listed:=listed) (i:=i) (by rw [hh];simp);have:=b5R _ _ h1;unfold leftOf at hf;omega
  exact ⟨hr,hend _ _ _ hi hr⟩
 | succ fuel ih =>
  intro listed a w hf hi;refine ⟨fun hr =>hend _ _ _ hi hr,fun i hi' =>wpOpIn_mono (fun a' w' h =>ih _ a' w' ?_ h) (hstep _ _ _ i hi hi')⟩;have h1:=a5V hi';have:=b5R _ _ h1;unfold leftOf at hf ⊢;simp only [Array.toList_setIfInBounds];omega
theorem rangeAll {w w1:World} {P:Nat→Prop} {T:S65→Prop} {g:Operand} {ps:Array Tmp} {assign body:Code} {Q:Exit→Act→World→Prop} {a:Act} {n:Nat} (hn:1≤n)
  (l:List S65) (A:Option Addr) (c:Nat) (hlc:l.length≤c) (hT:∀ s,s ∈ flat l→T s) (hC:Kd.F k65 w P A l.length l) (hBe:Below w.heap.size w w1) (Bt:Nat) (hlt:Bt < w1.heap.size)
  (hBt:w1.cell? ⟨Bt,0,none⟩ = some (.slice A l.length c)) (hg:a.eval g = .func (.func 55) #[] #[.pointer (some ⟨Bt,0,none⟩)])
  (bx:Option Nat) (hb:∀ b,bx = some b→b < w1.heap.size) (hG:Good bx w1) (hps:ps.size = 1)
  (I:List (Elt w P T)→World→Prop) (Ix:Code→List (Elt w P T)→World→Prop) (hI:OwnFrom w1.heap.size I) (hIx:∀ c,OwnFrom w1.heap.size (Ix c)) (h0:I [] w1) (Ax:Elt w P T→Act→World→Prop) (hAx:∀ x a',OwnFrom w1.heap.size (fun (_:Unit) W =>Ax x a' W))
  (hassign:∀ (l:Nat) (pre:List (Elt w P T)) (x:Elt w P T) (W:World) (K:Act→World→Prop),I pre W→(∀ a' W',KeepsFrom w1.heap.size W W'→Kp w.heap.size w1.heap.size bx W W'→I pre W'→Ax x a' W'→K a' W') →
   assign.wpIn (Fence.wide.inRound l) (n - 1 - 1) Tryz.prog (Exit.then K (fun _ _ _ =>False)) { tmps:=(ps.zip (encE x)).foldl (fun t (p,v) =>t.setIfInBounds p v) a.tmps,defers:=[] } W)
  (hbody:∀ (l':Nat) (pre:List (Elt w P T)) (x:Elt w P T) (a':Act) (W:World),w1.heap.size≤l'→(∃ r,W.heap[l']? = some (.loop r))→I pre W→Ax x a' W→pre.length < (flat l).length→body.wpIn (Fence.wide.inRound l') (n - 1 - 1) Tryz.prog (ownPostG w1.heap.size (Kp w.heap.size w1.heap.size bx) I Ix (pre ++ [x]) W) a' W)
  (hdone:∀ (D:Nat) (es:List (Elt w P T)) (W:World),w1.heap.size≤D→es.map (·.1.1) = flat l→I es W→W.heap[D]? = some (.deferred (some []))→Q .normal { a with defers:={ target:=.collected D,args:=#[] } :: a.defers } W)
  (hstop:∀ (D:Nat) (c:Code) (pre:List (Elt w P T)) (W:World),w1.heap.size≤D→(∃ q,pre.map (·.1.1) ++ q = flat l)→Ix c pre W→W.heap[D]? = some (.deferred (some []))→c.wpIn Fence.wide n Tryz.prog Q { a with defers:={ target:=.collected D,args:=#[] } :: a.defers } W) :
  (Code.rangeFunc g ps assign body).wpIn Fence.wide n Tryz.prog Q a w1 :=
 wpIn_rangeFunc_ownH (F:=Fence.wide) rfl hn (gf:=55) (lb:=#[.pointer (some ⟨Bt,0,none⟩)]) hg trivial (enters_of Tryz.func55 qF0 rfl)
  (c0N w w1 P T _ bx l A c hlc hT hC hBe Bt hlt hBt hb hG) (fun h k =>Kp.trans h k) (Kp.putObj hBe.size hb) (zG0 _ _) (fun _ =>by simp [encE,hps])
  I Ix hI hIx h0 Ax hAx hassign hbody hdone hstop
open Go.Lib Go.Sort
def srtS (xs:List (List UInt8)):List (List UInt8):=xs.mergeSort (fun x y =>decide (x≤y))
theorem b5H (xs:List (List UInt8)):(srtS xs).length = xs.length:=List.length_mergeSort _
theorem b5K {w:World} {base g n cap:Nat} {xs:List Value} (h:w.ownsRow base 9 1 (.slice (some ⟨g,0,none⟩) n cap) n xs) (ys:List (List UInt8)) (hl:ys.length = n) (q:Nat) (os:Array Obj) :
  (Go.Sort.grow (Go.Sort.putRow encStr (Go.Sort.ahead w q) g 0 ys.toArray) os).ownsRow base 9 1 (.slice (some ⟨g,0,none⟩) n cap) n (ys.map encStr) ∧
  w.grownBy (Go.Sort.grow (Go.Sort.putRow encStr (Go.Sort.ahead w q) g 0 ys.toArray) os) (some g):=by
 obtain ⟨_,⟨h1,_⟩ | ⟨g',cap',cur,hv,hb,hh,hn,hc,hs,ht⟩⟩:=h
 ·simp at h1
 simp only [Value.slice.injEq,Option.some.injEq,Addr.mk.injEq,and_true,true_and] at hv;obtain ⟨rfl,rfl⟩:=hv;have hlt:g < w.heap.size:=(Array.getElem?_eq_some_iff.1 hh).1;have hat:(Go.Sort.putRow encStr (Go.Sort.ahead w q) g 0 ys.toArray).heap[g]? = some (.cells (Go.Sort.putCells encStr 0 ys.toArray cur) 9 (0,0)):=by
  simp only [Go.Sort.putRow,Go.Sort.mapBlock,Go.Sort.ahead,Array.getElem?_modify,if_true,hh,zH2,Go.Sort.onCells]
 refine ⟨⟨by simp [hl],.inr ⟨g,cap,Go.Sort.putCells encStr 0 ys.toArray cur,rfl,hb,?_,hn,hc,by simpa [Go.Sort.putCells] using hs,?_⟩⟩,rfl,rfl,rfl,by simp [Go.Sort.grow,Go.Sort.ahead],fun k hk hne =>?_⟩
 ·rw [show (Go.Sort.grow (Go.Sort.putRow encStr (Go.Sort.ahead w q) g 0 ys.toArray) os).heap = (Go.Sort.putRow encStr (Go.Sort.ahead w q) g 0 ys.toArray).heap ++ os from rfl,
   Array.getElem?_append_left (by simpa [Go.Sort.ahead] using hlt)]
  exact hat
 ·apply zE2;intro j;rw [List.getElem?_take];by_cases hj:j < n
  ·rw [if_pos qC0];have hjc:j < cur.size:=by omega
   simp only [Go.Sort.putCells,Array.getElem?_toList,Array.getElem?_mapIdx,List.getElem?_map];rw [Array.getElem?_eq_getElem hjc,zH2,if_pos ⟨zG2 _,by simpa [hl] using hj⟩,Nat.sub_zero,zD0 qC0];simp [hl,hj]
  ·rw [if_neg qC0]
   symm
   simp only [List.getElem?_map,Option.map_eq_none_iff];exact List.getElem?_eq_none qC0
 ·rw [show (Go.Sort.grow (Go.Sort.putRow encStr (Go.Sort.ahead w q) g 0 ys.toArray) os).heap = (Go.Sort.putRow encStr (Go.Sort.ahead w q) g 0 ys.toArray).heap ++ os from rfl,
   Array.getElem?_append_left (by simpa [Go.Sort.ahead] using hk)]
  simp only [Go.Sort.putRow,Go.Sort.mapBlock,Array.getElem?_modify];rw [if_neg (fun e =>hne (by rw [e]))]
  rfl
theorem b0O {w:World} {base g n cap:Nat} {xs:List (List UInt8)} (h:w.ownsRow base 9 1 (.slice (some ⟨g,0,none⟩) n cap) n (xs.map encStr)) (hn:xs.length = n):Go.Sort.Holds encStr w g 0 xs.toArray∧g < w.heap.size∧n≤cap:=by
 obtain ⟨_,⟨h1,_⟩ | ⟨g',cap',cur,hv,hb,hh,hnc,hc,hs,ht⟩⟩:=h
 ·simp at h1
 simp only [Value.slice.injEq,Option.some.injEq,Addr.mk.injEq,and_true,true_and] at hv;obtain ⟨rfl,rfl⟩:=hv;refine ⟨fun j hj =>?_,(Array.getElem?_eq_some_iff.1 hh).1,hnc⟩;have hj':j < xs.length:=by simpa using hj
 have e:cur.toList[j]? = some (encStr xs[j]):=by
  have:=congrArg (fun l =>l[j]?) ht;simp only [List.getElem?_take,List.getElem?_map] at this;rw [if_pos qC0,zD0 hj'] at this;simpa using this
 constructor
 ·simp only [World.cell?,hh,zZ1];rw [Array.getElem?_toList] at e;simp [e,hj']
 ·simp [World.frozen?,hh]
theorem b7Q (xs:List (List UInt8)) (v:Value) (base:Nat) (w:World) (h:w.ownsRow base 9 1 v xs.length (xs.map encStr)) (hsz:xs.length < 4611686018427387904) :
  Calls Tryz.prog 38 #[v] w fun e w' =>e = .returned (.tuple #[])∧w'.ownsRow base 9 1 v xs.length ((srtS xs).map encStr)∧w.grownBy w' v.ownBlock:=by
 rcases h.2 with ⟨rfl,h0⟩ | ⟨g,cap,cur,rfl,_⟩
 ·have hx:xs = []:=List.length_eq_zero_iff.1 h0;subst hx;refine (Tryz.slices_Sort_string_none none 0 w).mono ?_;rintro e w' ⟨rfl,rfl⟩;exact ⟨rfl,by simpa [srtS] using World.ownsRow_nil _ _ _ _,⟨rfl,rfl,rfl,zJ0 _,fun _ _ _ =>rfl⟩⟩
 ·obtain ⟨hH,hlt,_⟩:=b0O h rfl;refine (Tryz.slices_Sort_string g 0 cap xs w hH hlt hsz).mono ?_;rintro e w' ⟨rfl,q,os,rfl⟩;exact ⟨rfl,b5K h (srtS xs) (b5H xs) q os⟩
theorem b3Q (xs:List (List UInt8)) (v:Value) (base:Nat) (w:World) (h:w.ownsRow base 9 1 v xs.length (xs.map encStr)) (hsz:xs.length < 4611686018427387904) :
  Calls Tryz.prog 39 #[v] w fun e w' =>∃ v',e = .returned v'∧w'.ownsRow base 9 1 v' (Lib.compact xs).length ((Lib.compact xs).map encStr)∧w.grownBy w' v.ownBlock∧v'.ownBlock = v.ownBlock:=by
 rcases h.2 with ⟨rfl,h0⟩ | ⟨g,cap,cur,rfl,_⟩
 ·have hx:xs = []:=List.length_eq_zero_iff.1 h0;subst hx;refine (Tryz.slices_Compact_string_empty none 0 w).mono ?_;rintro e w' ⟨rfl,rfl⟩;exact qC3
 ·obtain ⟨hH,hlt,hcap⟩:=b0O h rfl;refine (Tryz.slices_Compact_string g 0 cap xs w hH qC0 hcap).mono ?_;rintro e w' ⟨rfl,q,rfl⟩;have hle:=Go.Lib.compact_length_le xs;obtain ⟨h1,h2⟩:=b5K h (Lib.compact xs ++ List.replicate (xs.length - (Lib.compact xs).length) []) qV0 q #[];rw [Go.Sort.grow_empty] at h1 h2;have h3:=a8L h1 hle;rw [zX2,List.map_append,List.take_left' qE0] at h3;exact ⟨_,rfl,h3,h2,rfl⟩
def srt (xs:List Int):List Int:=xs.mergeSort (fun x y =>decide (x≤y))
theorem b1K (xs:List Int):(srt xs).length = xs.length:=List.length_mergeSort _
theorem b8K {w:World} {base g n cap:Nat} {xs:List Value} (h:w.ownsRow base 3 1 (.slice (some ⟨g,0,none⟩) n cap) n xs) (ys:List Int) (hl:ys.length = n) (q:Nat) (os:Array Obj) :
  (Go.Sort.grow (Go.Sort.putRow (Value.int .i64) (Go.Sort.ahead w q) g 0 ys.toArray) os).ownsRow base 3 1 (.slice (some ⟨g,0,none⟩) n cap) n (ys.map (Value.int .i64)) ∧
  w.grownBy (Go.Sort.grow (Go.Sort.putRow (Value.int .i64) (Go.Sort.ahead w q) g 0 ys.toArray) os) (some g):=by
 obtain ⟨_,⟨h1,_⟩ | ⟨g',cap',cur,hv,hb,hh,hn,hc,hs,ht⟩⟩:=h
 ·simp at h1
 simp only [Value.slice.injEq,Option.some.injEq,Addr.mk.injEq,and_true,true_and] at hv;obtain ⟨rfl,rfl⟩:=hv;have hlt:g < w.heap.size:=(Array.getElem?_eq_some_iff.1 hh).1;have hat:(Go.Sort.putRow (Value.int .i64) (Go.Sort.ahead w q) g 0 ys.toArray).heap[g]? = some (.cells (Go.Sort.putCells (Value.int .i64) 0 ys.toArray cur) 3 (0,0)):=by
  simp only [Go.Sort.putRow,Go.Sort.mapBlock,Go.Sort.ahead,Array.getElem?_modify,if_true,hh,zH2,Go.Sort.onCells]
 refine ⟨⟨by simp [hl],.inr ⟨g,cap,Go.Sort.putCells (Value.int .i64) 0 ys.toArray cur,rfl,hb,?_,hn,hc,by simpa [Go.Sort.putCells] using hs,?_⟩⟩,rfl,rfl,rfl,by simp [Go.Sort.grow,Go.Sort.ahead],fun k hk hne =>?_⟩
 ·rw [show (Go.Sort.grow (Go.Sort.putRow (Value.int .i64) (Go.Sort.ahead w q) g 0 ys.toArray) os).heap = (Go.Sort.putRow (Value.int .i64) (Go.Sort.ahead w q) g 0 ys.toArray).heap ++ os from rfl,
   Array.getElem?_append_left (by simpa [Go.Sort.ahead] using hlt)]
  exact hat
 ·apply zE2;intro j;rw [List.getElem?_take];by_cases hj:j < n
  ·rw [if_pos qC0];have hjc:j < cur.size:=by omega
   simp only [Go.Sort.putCells,Array.getElem?_toList,Array.getElem?_mapIdx,List.getElem?_map];rw [Array.getElem?_eq_getElem hjc,zH2,if_pos ⟨zG2 _,by simpa [hl] using hj⟩,Nat.sub_zero,zD0 qC0];simp [hl,hj]
  ·rw [if_neg qC0]
   symm
   simp only [List.getElem?_map,Option.map_eq_none_iff];exact List.getElem?_eq_none qC0
 ·rw [show (Go.Sort.grow (Go.Sort.putRow (Value.int .i64) (Go.Sort.ahead w q) g 0 ys.toArray) os).heap = (Go.Sort.putRow (Value.int .i64) (Go.Sort.ahead w q) g 0 ys.toArray).heap ++ os from rfl,
   Array.getElem?_append_left (by simpa [Go.Sort.ahead] using hk)]
  simp only [Go.Sort.putRow,Go.Sort.mapBlock,Array.getElem?_modify];rw [if_neg (fun e =>hne (by rw [e]))]
  rfl
theorem own_holds {w:World} {base g n cap:Nat} {xs:List Int} (h:w.ownsRow base 3 1 (.slice (some ⟨g,0,none⟩) n cap) n (xs.map (Value.int .i64))) (hn:xs.length = n):Go.Sort.Holds (Value.int .i64) w g 0 xs.toArray∧g < w.heap.size∧n≤cap:=by
 obtain ⟨_,⟨h1,_⟩ | ⟨g',cap',cur,hv,hb,hh,hnc,hc,hs,ht⟩⟩:=h
 ·simp at h1
 simp only [Value.slice.injEq,Option.some.injEq,Addr.mk.injEq,and_true,true_and] at hv;obtain ⟨rfl,rfl⟩:=hv;refine ⟨fun j hj =>?_,(Array.getElem?_eq_some_iff.1 hh).1,hnc⟩;have hj':j < xs.length:=by simpa using hj
 have e:cur.toList[j]? = some (Value.int .i64 xs[j]):=by
  have:=congrArg (fun l =>l[j]?) ht;simp only [List.getElem?_take,List.getElem?_map] at this;rw [if_pos qC0,zD0 hj'] at this;simpa using this
 constructor
 ·simp only [World.cell?,hh,zZ1];rw [Array.getElem?_toList] at e;simp [e,hj']
 ·simp [World.frozen?,hh]
theorem b1L (xs:List Int) (v:Value) (base:Nat) (w:World) (h:w.ownsRow base 3 1 v xs.length (xs.map (Value.int .i64))) (hsz:xs.length < 4611686018427387904) :
  Calls Tryz.prog 47 #[v] w fun e w' =>e = .returned (.tuple #[])∧w'.ownsRow base 3 1 v xs.length ((srt xs).map (Value.int .i64))∧w.grownBy w' v.ownBlock:=by
 rcases h.2 with ⟨rfl,h0⟩ | ⟨g,cap,cur,rfl,_⟩
 ·have hx:xs = []:=List.length_eq_zero_iff.1 h0;subst hx;refine (Tryz.slices_Sort_int_none none 0 w).mono ?_;rintro e w' ⟨rfl,rfl⟩;exact ⟨rfl,by simpa [srt] using World.ownsRow_nil _ _ _ _,⟨rfl,rfl,rfl,zJ0 _,fun _ _ _ =>rfl⟩⟩
 ·obtain ⟨hH,hlt,_⟩:=own_holds h rfl;refine (Tryz.slices_Sort_int g 0 cap xs w hH hlt hsz).mono ?_;rintro e w' ⟨rfl,q,os,rfl⟩;exact ⟨rfl,b8K h (srt xs) (b1K xs) q os⟩
theorem a9T (xs:List Int) (v:Value) (base:Nat) (w:World) (h:w.ownsRow base 3 1 v xs.length (xs.map (Value.int .i64))) (hsz:xs.length < 4611686018427387904) :
  Calls Tryz.prog 48 #[v] w fun e w' =>∃ v',e = .returned v'∧w'.ownsRow base 3 1 v' (Lib.compact xs).length ((Lib.compact xs).map (Value.int .i64))∧w.grownBy w' v.ownBlock∧v'.ownBlock = v.ownBlock:=by
 rcases h.2 with ⟨rfl,h0⟩ | ⟨g,cap,cur,rfl,_⟩
 ·have hx:xs = []:=List.length_eq_zero_iff.1 h0;subst hx;refine (Tryz.slices_Compact_int_empty none 0 w).mono ?_;rintro e w' ⟨rfl,rfl⟩;exact qC3
 ·obtain ⟨hH,hlt,hcap⟩:=own_holds h rfl;refine (Tryz.slices_Compact_int g 0 cap xs w hH qC0 hcap).mono ?_;rintro e w' ⟨rfl,q,rfl⟩;have hle:=Go.Lib.compact_length_le xs;obtain ⟨h1,h2⟩:=b8K h (Lib.compact xs ++ List.replicate (xs.length - (Lib.compact xs).length) 0) qV0 q #[];rw [Go.Sort.grow_empty] at h1 h2;have h3:=a8L h1 hle;rw [zX2,List.map_append,List.take_left' qE0] at h3;exact ⟨_,rfl,h3,h2,rfl⟩
theorem b7X (s nm:ByteArray) (A1 A2:Option Addr) (n1 c1 n2 c2 b:Nat) (w:World) (hb:w.cell? ⟨b,0,none⟩ = some (.string nm)) :
  Calls Tryz.prog 73 #[.agg #[.string s,.slice A1 n1 c1,.slice A2 n2 c2],.pointer (some ⟨b,0,none⟩)] w fun e w' =>e = .returned (.bool (s.toList == nm.toList))∧Below w.heap.size w w':=by
 have hlt:=zE1 _ _ hb;have hne:¬ b = w.heap.size:=Nat.ne_of_lt hlt;have hb':(w.alloc (.cells #[.string s,.slice A1 n1 c1,.slice A2 n2 c2] 34)).cell? ⟨b,0,none⟩ = some (.string nm):=((a0D (zG0 _ w) _).cell hlt).trans hb;go_enter Tryz.func73,Tryz.ntmps73
 go_wp2;go_ret;exact ⟨rfl,a0D (zG0 _ _) _⟩
def firstIx (nm:ByteArray):List S34→Nat→Int
 | [],_ =>-1
 | f :: r,i =>if (f.f0.toList == nm.toList) = true then (i:Int) else firstIx nm r (i + 1)
def funIx (l:List S34) (nm:ByteArray):Int:=firstIx nm l 0
theorem drop_T34 (l:List S34) (j:Nat) (h:j < l.length):l.drop j = a0V l (j:Int) :: l.drop (j + 1):=by
 rw [zS2 h]
 congr 1
 unfold a0V;rw [zK0,zE0,zD0 h];rfl
theorem b9P (l:List S34) (A:Option Addr) (c b:Nat) (nm:ByteArray) (w:World) (hc:l.length≤c) (hC:Kd.C k34 w A l.length l) (hb:w.cell? ⟨b,0,none⟩ = some (.string nm)) (hl:l.length≤1050000) :
  Calls Tryz.prog 72 #[.slice A l.length c,.func (.func 73) #[] #[.pointer (some ⟨b,0,none⟩)]] w fun e w' =>e = .returned (.int .i64 (funIx l nm))∧Below w.heap.size w w':=by
 have HB:=zA0 (zG0 w.heap.size w);have K0:=zA0 hC;have HN:=zA0 hb;have hlt:=zE1 _ _ hb;clear hC hb;go_enter Tryz.func72,Tryz.ntmps72
 go_wp2;go_loopg [8,5] l.length (fun kq v8 v5 w' =>∃ j:Nat,j + kq = l.length∧v8 = .int .i64 j∧Hid (firstIx nm (l.drop j) j = funIx l nm)∧Hid (Below w.heap.size w w'))
 case atStart =>exact ⟨0,by omega,rfl,zA0 rfl,HB⟩
 case round =>
  obtain ⟨j,hj,rfl,HI,HB⟩:=hrel;by_cases hjl:j < l.length
  ·obtain ⟨ad,A1,c1,A2,c2,eA,x0,x1,x2,_⟩:=a6Q (Kd.a0H K0.out HB.out) (j:Int) qC0 qC0;subst eA;rw [zK0] at x0 x1 x2;have hw:=pz j qC0;obtain ⟨k1,rfl⟩:∃ k1,gk = k1 + 1:=⟨gk - 1,by omega⟩;have hcall:=zA0 (b7X (a0V l (j:Int)).f0 nm A1 A2 (a0V l (j:Int)).f1.length c1 (a0V l (j:Int)).f2.length c2 b wr ((HB.out.cell hlt).trans HN.out));have hd:=drop_T34 l j hjl;have HD:=zA0 hd;clear hd;cases hbb:((a0V l (j:Int)).f0.toList == nm.toList) with
   | true =>
    rw [hbb] at hcall;have hres:=zA0 (show funIx l nm = (j:Int) by rw [← HI.out,HD.out];simp only [firstIx,hbb,if_true]);clear hbb
    go_wp2_with (first
     | (go_at_call 73;with_reducible refine hcall.out.mono ?_;rintro x w1 ⟨rfl,hb1⟩;have HB:=zA0 (a0L HB.out hb1);clear hb1))
    go_ret;exact ⟨by rw [hres.out];rfl,HB.out⟩
   | false =>
    rw [hbb] at hcall;have hres:=zA0 (show firstIx nm (l.drop (j + 1)) (j + 1) = funIx l nm by rw [← HI.out,HD.out];simp only [firstIx,hbb,Bool.false_eq_true,if_false]);clear hbb
    go_wp2_with (first
     | (go_at_call 73;with_reducible refine hcall.out.mono ?_;rintro x w1 ⟨rfl,hb1⟩;have HB:=zA0 (a0L HB.out hb1);clear hb1))
    go_roundg k1
    case measure =>exact zS0 _
    case rel =>exact ⟨j + 1,by rw [zY0,zJ1 1];exact hj,by first | rw [hw] | simp,hres,HB⟩
  ·have hje:j = l.length:=by omega
   have hres:=zA0 (show funIx l nm = -1 by rw [← HI.out,hje,zE3 (zJ0 _)];rfl);go_wp2;go_ret;exact ⟨by rw [hres.out];rfl,HB.out⟩
theorem fun_any (l:List S34) (A:Option Addr) (c:Nat) (nm:ByteArray) (w:World) (hc:l.length≤c) (hC:Kd.C k34 w A l.length l) (hl:l.length≤1050000) :
  Calls Tryz.prog 46 #[.agg #[.slice A l.length c],.string nm] w fun e w' =>e = .returned (.int .i64 (funIx l nm))∧Below w.heap.size w w':=by
 have K0:=zA0 hC;clear hC;go_enter Tryz.func46,Tryz.ntmps46
 go_wp2_with (first
  | (go_at_call 72;have hb:=a0D (a0D (zG0 w.heap.size w) (.cells #[.slice A l.length c] 24)) (.cells #[.string nm] 9);with_reducible refine (b9P l A c (w.heap.size + 1) nm _ hc (Kd.a0H K0.out hb) (by have:=a9Z (w.alloc (.cells #[.slice A l.length c] 24)) (.cells #[.string nm] 9);exact (a0I (by simpa using this) 0).trans rfl) hl).mono ?_;rintro x w1 ⟨rfl,hb1⟩;have HB:=zA0 (a0L hb hb1);clear hb hb1))
 go_ret;exact qD3
structure Fr (S:Nat→Prop) (W W':World):Prop where
 size:W.heap.size≤W'.heap.size
 block:∀ k,k < W.heap.size→¬ S k→W'.heap[k]? = W.heap[k]?
theorem Fr.refl (S:Nat→Prop) (W:World):Fr S W W:=⟨zJ0 _,fun _ _ _ =>rfl⟩
theorem Fr.trans {S S':Nat→Prop} {X Y Z:World} (h:Fr S X Y) (k:Fr S' Y Z) (hs:∀ i,i < X.heap.size→S' i→S i):Fr S X Z :=
 ⟨zF0 h.size k.size,fun i hi hn =>(k.block i (zP1 hi h.size) (fun e =>hn (hs i hi e))).trans (h.block i hi hn)⟩
theorem Fr.a3W {W W':World} (S:Nat→Prop) (h:Below W.heap.size W W'):Fr S W W':=⟨h.size,fun k hk _ =>h.block k hk⟩
theorem Fr.a6L {W W':World} {row:Option Nat} (h:W.grownBy W' row):Fr (fun k =>some k = row) W W':=⟨h.size,fun k hk hn =>h.block k hk hn⟩
theorem Fr.b3E (W:World) (b:Nat) (v:Value):Fr (fun k =>k = b) W (W.setCell ⟨b,0,none⟩ v):=⟨(grownBy_setCell' W b v).size,fun k _ hn =>Below.heap_setCell W ⟨b,0,none⟩ v k hn⟩
theorem Fr.mono {S S':Nat→Prop} {W W':World} (h:Fr S W W') (hs:∀ k,S k→S' k):Fr S' W W':=⟨h.size,fun k hk hn =>h.block k hk (fun e =>hn (hs k e))⟩
theorem Fr.others {S:Nat→Prop} {W W':World} (h:Fr S W W') (hs:∀ k o,S k→W.heap[k]? = some o→o.isCells = true):KeepsOthers W W' :=
 ⟨h.size,fun k o hk ho =>(h.block k (Array.getElem?_eq_some_iff.1 hk).1 (fun e =>by have:=hs k o e hk;rw [ho] at this;cases this)).trans hk⟩
structure OS (w:World) (A:Option Addr) (n c:Nat) (ds:List Nat) (W:World) (vo:Value) (outs:List (List Int)):Prop where
 be:Below w.heap.size w W
 bp:Boxed W w.heap.size 24 (.slice A n c)
 bo:Boxed W (w.heap.size + 1) 39 vo
 ro:Kd.S (Kd.slice 3 (Kd.int .i64)) 43 W w.heap.size (fun _ =>True) vo outs
 df:∀ D,D ∈ ds→w.heap.size≤D∧W.heap[D]? = some (.deferred (some []))
structure GS (w:World) (A:Option Addr) (n c bL:Nat) (ds:List Nat) (W:World) (vb vl:Value) (xs:List Int) (vo:Value) (outs:List (List Int)):Prop where
 be:Below w.heap.size w W
 bp:Boxed W w.heap.size 24 (.slice A n c)
 bo:Boxed W (w.heap.size + 1) 39 vo
 bl:Boxed W bL 43 vb
 lb:w.heap.size + 2≤bL
 rl:W.ownsRow w.heap.size 3 1 vl xs.length (xs.map (Value.int .i64))
 ro:Kd.S (Kd.slice 3 (Kd.int .i64)) 43 W w.heap.size (fun k =>k≠bL∧some k≠vl.ownBlock) vo outs
 df:∀ D,D ∈ ds→w.heap.size≤D∧W.heap[D]? = some (.deferred (some []))
section
variable {w W W':World} {A:Option Addr} {n c bL:Nat} {ds:List Nat} {vb vl vo:Value} {xs:List Int} {outs:List (List Int)}
theorem OS.below (h:OS w A n c ds W vo outs) (hb:Below W.heap.size W W'):OS w A n c ds W' vo outs :=
 ⟨h.be.trans (hb.mono h.be.size),(hb.block _ h.bp.lt).trans h.bp,(hb.block _ h.bo.lt).trans h.bo,Kd.a7U h.ro hb,fun D hD =>⟨(h.df D hD).1,(hb.block D (Array.getElem?_eq_some_iff.1 (h.df D hD).2).1).trans (h.df D hD).2⟩⟩
theorem GS.below (h:GS w A n c bL ds W vb vl xs vo outs) (hb:Below W.heap.size W W'):GS w A n c bL ds W' vb vl xs vo outs :=
 ⟨h.be.trans (hb.mono h.be.size),(hb.block _ h.bp.lt).trans h.bp,(hb.block _ h.bo.lt).trans h.bo,(hb.block _ h.bl.lt).trans h.bl,h.lb,a3N h.rl (fun k hk =>hb.block k (a5W h.rl k hk)),Kd.a7U h.ro hb,
  fun D hD =>⟨(h.df D hD).1,(hb.block D (Array.getElem?_eq_some_iff.1 (h.df D hD).2).1).trans (h.df D hD).2⟩⟩
theorem GS.alloc (h:GS w A n c bL ds W vb vl xs vo outs) (o:Obj):GS w A n c bL ds (W.alloc o) vb vl xs vo outs:=h.below (a0D (zG0 _ _) o)
theorem GS.nrow (h:GS w A n c bL ds W vb vl xs vo outs):some w.heap.size≠vl.ownBlock∧some (w.heap.size + 1)≠vl.ownBlock∧some bL≠vl.ownBlock :=
 ⟨h.bp.not_row qB0 h.rl,h.bo.not_row qB0 h.rl,h.bl.not_row qB0 h.rl⟩
theorem GS.row (h:GS w A n c bL ds W vb vl xs vo outs) {v1:Value} {ys:List Int} (hr:W'.ownsRow w.heap.size 3 1 v1 ys.length (ys.map (Value.int .i64))) (hg:W.grownBy W' vl.ownBlock)
  (hat:v1.ownBlock = vl.ownBlock∨∃ b,v1.ownBlock = some b∧W.heap.size≤b):GS w A n c bL ds W' vb v1 ys vo outs:=by
 obtain ⟨n1,n2,n3⟩:=h.nrow;refine ⟨h.be.grown hg h.be.size (fun k hk =>a1O h.rl k hk),h.bp.kept hg n1,h.bo.kept hg n2,h.bl.kept hg n3,h.lb,hr,?_,fun D hD =>⟨(h.df D hD).1,?_⟩⟩
 ·exact Kd.b0A (Kd.S_after h.ro hg hat) (fun _ hk =>hk)
 ·have h1:=(h.df D hD).2;rw [hg.block D (Array.getElem?_eq_some_iff.1 h1).1 (fun e =>by obtain ⟨cs,hc⟩:=a1S h.rl D e.symm;rw [h1] at hc;cases hc)];exact h1
theorem GS.setL (h:GS w A n c bL ds W vb vl xs vo outs) (u:Value):GS w A n c bL ds (W.setCell ⟨bL,0,none⟩ u) u vl xs vo outs:=by
 have hl:=h.lb;refine ⟨h.be.setCell (p:=⟨bL,0,none⟩) (by show w.heap.size≤bL;omega) u,h.bp.other qC0 u,h.bo.other qC0 u,h.bl.set u,h.lb,a3N h.rl (fun k hk =>Below.heap_setCell W ⟨bL,0,none⟩ u k (fun e =>h.nrow.2.2 (by rw [hk];exact congrArg some e.symm))),?_,fun D hD =>⟨(h.df D hD).1,?_⟩⟩
 ·exact Kd.S_far h.ro (fun k hk =>hk.1) u
 ·have h1:=(h.df D hD).2;rw [Below.heap_setCell W ⟨bL,0,none⟩ u D (fun e =>by have h2:W.heap[bL]? = _:=h.bl;rw [show D = bL from e,h2] at h1;cases h1)];exact h1
theorem GS.clear (h:GS w A n c bL ds W vb vl xs vo outs):GS w A n c bL ds W vb (.slice none 0 0) [] vo outs :=
 ⟨h.be,h.bp,h.bo,h.bl,h.lb,World.ownsRow_nil _ _ _ _,Kd.b0A h.ro (fun k hk =>⟨hk.1,by simp [Value.ownBlock]⟩),h.df⟩
theorem GS.turn (h:GS w A n c bL ds W vb vl xs vo outs) {B:Nat} {row:Option Nat} (hn:w.heap.size≤B) (hd:∀ D,D ∈ ds→D < B) (hg:W.grownBy W' row) (hr:∀ r,row = some r→B≤r∧∃ o:Obj,W.heap[r]? = some o∧o.isCells = false) :
  GS w A n c bL ds W' vb vl xs vo outs:=by
 have hc:∀ k cs t,W.heap[k]? = some (.cells cs t (0,0))→some k≠row:=fun k cs t h1 e =>by
  obtain ⟨_,o,ho,hoc⟩:=hr k e.symm;rw [h1] at ho;cases ho;cases hoc
 refine ⟨h.be.grown hg h.be.size (fun k hk =>zF0 hn (hr k hk).1),h.bp.kept hg (hc _ _ _ h.bp),h.bo.kept hg (hc _ _ _ h.bo),h.bl.kept hg (hc _ _ _ h.bl),h.lb,
  a3N h.rl (fun k hk =>hg.block k (a5W h.rl k hk) (by obtain ⟨cs,hcs⟩:=a1S h.rl k hk;exact hc _ _ _ hcs)),?_,fun D hD =>⟨(h.df D hD).1,?_⟩⟩
 ·refine Kd.b0A (Kd.b6C (Kd.b0C h.ro) (fun k hk hlt =>?_)) (fun _ hk =>hk.1);obtain ⟨_,_,_,q,_,cs,hcs⟩:=hk;exact hg.block k hlt (hc _ _ _ hcs)
 ·have h1:=(h.df D hD).2;rw [hg.block D (Array.getElem?_eq_some_iff.1 h1).1 (fun e =>by have:=(hr D e.symm).1;have:=hd D hD;omega)];exact h1
theorem OS.turn (h:OS w A n c ds W vo outs) {B:Nat} {row:Option Nat} (hn:w.heap.size≤B) (hd:∀ D,D ∈ ds→D < B) (hg:W.grownBy W' row) (hr:∀ r,row = some r→B≤r∧∃ o:Obj,W.heap[r]? = some o∧o.isCells = false) :
  OS w A n c ds W' vo outs:=by
 have hc:∀ k cs t,W.heap[k]? = some (.cells cs t (0,0))→some k≠row:=fun k cs t h1 e =>by
  obtain ⟨_,o,ho,hoc⟩:=hr k e.symm;rw [h1] at ho;cases ho;cases hoc
 refine ⟨h.be.grown hg h.be.size (fun k hk =>zF0 hn (hr k hk).1),h.bp.kept hg (hc _ _ _ h.bp),h.bo.kept hg (hc _ _ _ h.bo),?_,fun D hD =>⟨(h.df D hD).1,?_⟩⟩
 ·refine Kd.b0A (Kd.b6C (Kd.b0C h.ro) (fun k hk hlt =>?_)) (fun _ hk =>hk.1);obtain ⟨_,_,_,q,_,cs,hcs⟩:=hk;exact hg.block k hlt (hc _ _ _ hcs)
 ·have h1:=(h.df D hD).2;rw [hg.block D (Array.getElem?_eq_some_iff.1 h1).1 (fun e =>by have:=(hr D e.symm).1;have:=hd D hD;omega)];exact h1
theorem OS.start (h:OS w A n c ds W vo outs):GS w A n c W.heap.size ds (W.alloc (.cells #[.slice none 0 0] 43)) (.slice none 0 0) (.slice none 0 0) [] vo outs:=by
 have h':=h.below (a0D (zG0 _ _) (.cells #[.slice none 0 0] 43));refine ⟨h'.be,h'.bp,h'.bo,Boxed.new W _ _,?_,World.ownsRow_nil _ _ _ _,?_,h'.df⟩
 ·have:=h.bo.lt;omega
 ·refine Kd.b0A (Kd.a7U (Kd.b0C h.ro) (a0D (zG0 _ _) _)) (fun k hk =>⟨?_,by simp [Value.ownBlock]⟩);have:=hk.2.2.1;omega
theorem GS.kp {B:Nat} {v1:Value} {ys:List Int} (h:GS w A n c bL ds W vl vl xs vo outs) (h':GS w A n c bL ds W' v1 v1 ys vo outs) (hb:bL < B) (hB:Below w.heap.size W W') (hf:Fr (fun k =>k = bL∨some k = vl.ownBlock) W W')
  (hat:v1.ownBlock = vl.ownBlock∨∃ b,v1.ownBlock = some b∧W.heap.size≤b):KeepsFrom B W W'∧Kp w.heap.size B (some bL) W W':=by
 have r1:rowOf (some bL) W = vl.ownBlock:=by simp [rowOf,h.bl.cell]
 have r2:rowOf (some bL) W' = v1.ownBlock:=by simp [rowOf,h'.bl.cell]
 refine ⟨(hf.others ?_).from B,hB,fun _ =>⟨fun k hk =>?_,?_,fun k o hk ho hc hne =>?_⟩⟩
 ·rintro k o (rfl | hk) ho
  ·have h2:W.heap[k]? = _:=h.bl;rw [h2] at ho;cases ho;rfl
  ·obtain ⟨cs,hcs⟩:=a1S h.rl k hk.symm;rw [hcs] at ho;cases ho;rfl
 ·rw [r2] at hk;exact a5W h'.rl k hk
 ·rw [r1,r2];rcases hat with hat | ⟨b,hb1,hb2⟩
  ·exact .inl hat
  ·right;intro k hk;rw [hb1] at hk;cases hk;exact hb2
 ·rw [hf.block k (Array.getElem?_eq_some_iff.1 ho).1 (by rintro (e | e);omega;rw [r1] at hne;exact hne e.symm)];exact ho
end
section
variable {F:Fence} {nF:Nat} {ops:Array Oper} {rest:List Oper} {o:Oper} {a:Act} {Q:Exit→Act→World→Prop} {w W:World} {A:Option Addr} {n c bL:Nat} {ds:List Nat} {vb vl vo:Value} {xs:List Int} {outs:List (List Int)}
theorem a5P (x:Int) (hgd:o.guard = none) (s y:Operand) (ho:o.op = .call { callee:=.builtin .append,args:=#[s,y],argTypes:=#[43,43] }) (hs:a.eval s = vl) (hx:a.eval y = .slice (some ⟨W.heap.size,0,none⟩) 1 1)
  (h:GS w A n c bL ds W vb vl xs vo outs) (hl:xs.length≤1000000000)
  (hK:∀ v1 W1,GS w A n c bL ds W1 vb v1 (xs ++ [x]) vo outs→Below w.heap.size W W1→Fr (fun k =>some k = vl.ownBlock) W W1→(v1.ownBlock = vl.ownBlock∨∃ b,v1.ownBlock = some b∧W.heap.size≤b)→(∃ A' c',v1 = .slice A' (xs.length + 1) c')→wpListIn F nF Tryz.prog ops Q rest (a.put o.dst v1) W1) :
  wpListIn F nF Tryz.prog ops Q (o :: rest) a (W.alloc (.cells #[.int .i64 x] 3)):=by
 obtain ⟨i0,hi,hz0,hz1,hz2⟩:=info_parts b1X;have hb:=a0D (zG0 W.heap.size W) (.cells #[.int .i64 x] 3);refine wpListIn_append_own_at (w:=W.alloc (.cells #[.int .i64 x] 3)) hgd s y 43 ho w.heap.size 3 i0 _ 1 8 Tryz.underlying43 hi hz0 hz1 hz2 rfl qB0 vl xs.length (xs.map (Value.int .i64)) hs (h.alloc _).rl ⟨W.heap.size,0,none⟩ 1 1 [.int .i64 x] hx rfl (cell_one_new W _ _)
  (by simp [Value.oneCell']) (by unfold maxLen;omega) qC0 qA2 ?_
 intro v1 W1 hown hg _ hat;have hat':v1.ownBlock = vl.ownBlock∨∃ b,v1.ownBlock = some b∧(W.alloc (.cells #[.int .i64 x] 3)).heap.size≤b:=hat.imp_right fun e =>⟨_,e,zJ0 _⟩
 have h1:=(h.alloc (.cells #[.int .i64 x] 3)).row (ys:=xs ++ [x]) (v1:=v1) (by simpa using hown) hg hat';obtain ⟨g,cap,hv⟩:=ownsRow_succ hown;refine hK v1 W1 h1 ?_ ?_ ?_ ⟨_,_,hv⟩
 ·exact (hb.mono h.be.size).grown hg qA2 (fun k hk =>a1O h.rl k hk)
 ·exact (Fr.a3W _ hb).trans (Fr.a6L hg) (fun i _ e =>e)
 ·rcases hat' with e | ⟨b,e,e2⟩
  ·exact .inl e
  ·exact .inr ⟨b,e,by simp at e2;omega⟩
theorem a5O (hgd:o.guard = none) (s y:Operand) (ho:o.op = .call { callee:=.builtin .append,args:=#[s,y],argTypes:=#[39,39] }) (hs:a.eval s = vo) (hx:a.eval y = .slice (some ⟨W.heap.size,0,none⟩) 1 1)
  (h:GS w A n c bL ds W vb vl xs vo outs) (hl:outs.length≤1000000000)
  (hK:∀ v1 W1,(OS w A n c ds (W1.setCell ⟨w.heap.size + 1,0,none⟩ v1) v1 (outs ++ [xs])∧Below w.heap.size W (W1.setCell ⟨w.heap.size + 1,0,none⟩ v1)∧KeepsOthers W (W1.setCell ⟨w.heap.size + 1,0,none⟩ v1))→Boxed W1 (w.heap.size + 1) 39 vo→(∃ A' c',v1 = .slice A' (outs.length + 1) c')→wpListIn F nF Tryz.prog ops Q rest (a.put o.dst v1) W1) :
  wpListIn F nF Tryz.prog ops Q (o :: rest) a (W.alloc (.cells #[vl] 43)):=by
 obtain ⟨i0,hi,hz0,hz1,hz2⟩:=info_parts info43;have hb:=a0D (zG0 W.heap.size W) (.cells #[vl] 43);obtain ⟨n1,n2,n3⟩:=h.nrow;obtain ⟨f,hf,h0,inner,hown,hreps⟩:=Kd.S_tag (h.alloc (.cells #[vl] 43)).ro outs.length (fun k =>some k = vl.ownBlock) (fun k hk h2 =>h2.2 hk);rw [List.length_zipIdx] at hown;have hne:some bL≠vo.ownBlock:=fun e =>(h0 bL e.symm).1 rfl
 have hvr:(Kd.int .i64).R 3 (W.alloc (.cells #[vl] 43)) w.heap.size (fun k =>some k = vl.ownBlock∧f k = outs.length) vl xs:=Kd.a2W (by have:=(h.alloc (.cells #[vl] 43)).rl;simpa [encs] using this) (fun k hk =>⟨hk.symm,hf k hk.symm⟩);have hvv:vl.oneCell' = true:=by
  rcases h.rl.2 with ⟨e,_⟩ | ⟨g,cap,cur,e,_⟩ <;> rw [e] <;> rfl
 refine wpListIn_append_own_at (w:=W.alloc (.cells #[vl] 43)) hgd s y 39 ho w.heap.size 43 i0 _ 1 24 Tryz.underlying39 hi hz0 hz1 hz2 rfl qB0 vo outs.length inner hs hown ⟨W.heap.size,0,none⟩ 1 1 [vl] hx rfl (cell_one_new W _ _)
  (by simpa using hvv) (by unfold maxLen;omega) qC0 qA2 ?_
 intro v1 W1 hown1 hg _ hat;have hat':v1.ownBlock = vo.ownBlock∨∃ b,v1.ownBlock = some b∧(W.alloc (.cells #[vl] 43)).heap.size≤b:=hat.imp_right fun e =>⟨_,e,zJ0 _⟩
 have hty:∀ k,vo.ownBlock = some k→∃ cells,W.heap[k]? = some (.cells cells 43 (0,0)):=Kd.S_typed h.ro;have hS:Kd.S (Kd.slice 3 (Kd.int .i64)) 43 W1 w.heap.size (fun _ =>True) v1 (outs ++ [xs]):=by
  refine ⟨f,?_⟩;rw [Kd.zip_snoc];refine Kd.a7V (d:=Kd.tag f (Kd.slice 3 (Kd.int .i64))) (ok:=fun _ =>True) (okp:=fun k =>some k = vl.ownBlock) (W:=W.alloc (.cells #[vl] 43)) (v:=vo) (inner:=inner) (cs:=[vl]) (fun _ _ =>trivial) (hreps.imp_ (fun p cs hp =>(Kd.tag f (Kd.slice 3 (Kd.int .i64))).M_mono (fun k hk =>⟨trivial,hk.2⟩) hp)) ?_ ?_ (fun _ _ =>trivial) (by rw [List.length_zipIdx];exact hown1) hg hat'
  ·exact ⟨vl,rfl,hvr⟩
  ·intro k hk;refine ⟨trivial,fun e =>?_⟩;exact (h0 k e.symm).2 hk
 have hnb:∀ B t v,t≠(43:Nat)→Boxed W B t v→some B≠vo.ownBlock:=fun B t v ht hB e =>by
  obtain ⟨cs,hcs⟩:=hty B e.symm;have h2:W.heap[B]? = _:=hB;rw [h2] at hcs;cases hcs;exact ht rfl
 have bo1:Boxed W1 (w.heap.size + 1) 39 vo:=(h.bo.alloc _).kept hg (hnb _ _ _ qB0 h.bo);have bp1:Boxed W1 w.heap.size 24 (.slice A n c):=(h.bp.alloc _).kept hg (hnb _ _ _ qB0 h.bp);have hobase:∀ k,vo.ownBlock = some k→w.heap.size≤k:=Kd.S_base h.ro;have be1:Below w.heap.size W W1:=(hb.mono h.be.size).grown hg qA2 hobase;have hlt:=h.bo.lt;have ko1:KeepsOthers W (W1.setCell ⟨w.heap.size + 1,0,none⟩ v1):=by
  refine Fr.others (S:=fun k =>some k = vo.ownBlock∨k = w.heap.size + 1) (((Fr.a3W _ hb).trans (Fr.a6L hg) (fun i _ e =>.inl e)).trans (Fr.b3E W1 _ v1) (fun i _ e =>.inr e)) ?_;rintro k o (e | rfl) ho
  ·obtain ⟨cs,hcs⟩:=hty k e.symm;rw [hcs] at ho;cases ho;rfl
  ·have h2:W.heap[w.heap.size + 1]? = _:=h.bo;rw [h2] at ho;cases ho;rfl
 have beS:Below w.heap.size W (W1.setCell ⟨w.heap.size + 1,0,none⟩ v1):=be1.setCell (p:=⟨w.heap.size + 1,0,none⟩) (by show w.heap.size≤w.heap.size + 1;omega) v1;obtain ⟨g,cap,hv⟩:=ownsRow_succ hown1;refine hK v1 W1 ⟨⟨h.be.trans beS,bp1.other qC0 v1,bo1.set v1,?_,fun D hD =>⟨(h.df D hD).1,ko1.same D _ (h.df D hD).2 rfl⟩⟩,beS,ko1⟩ bo1 ⟨_,_,hv⟩;exact Kd.b0A (Kd.S_far (p:=⟨w.heap.size + 1,0,none⟩) (Kd.S_types hS bo1 qB0) (fun k hk =>hk.2) v1) (fun _ hk =>hk.1)
end
theorem a3P (b o j:Nat):(⟨b,o,none⟩:Addr).add j = ⟨b,o + j,none⟩:=by
 unfold Addr.add
 split
 ·next h =>rw [h];rfl
 ·rfl
theorem a0R {F:Fence} {n:Nat} {P:Program} {ops:Array Oper} {Q:Exit→Act→World→Prop} {i:Nat} {K:Act→World→Prop} {a:Act} {w w':World} {o:Oper} {r:Value}
  (ho:ops[i]? = some o) (hg:o.guard = none) (hd:∀ c,o.op≠.defer c) (hab:o.about P w a.eval = none)
  (hrun:(execOp a.eval o).run P w = .ok (.value r) w') (hK:K (a.put o.dst r) w'):wpOpIn F n P ops Q i K a w:=by
 unfold wpOpIn;simp only [ho,Region.wanted,hg,if_true];refine ⟨fun f h =>(by rw [hab] at h;cases h),?_⟩;rw [Oper.semAt_eq _ _ _ hd,hrun];exact hK
theorem a1Z {F:Fence} {n:Nat} {P:Program} {ops:Array Oper} {Q:Exit→Act→World→Prop} {i:Nat} {K:Act→World→Prop} {a:Act} {w w':World} {o:Oper}
  (ho:ops[i]? = some o) (hg:o.guard = none) (hd:∀ c,o.op≠.defer c) (hab:o.about P w a.eval = none)
  (hrun:(execOp a.eval o).run P w = .ok .skip w') (hK:K (a.put o.dst undef) w'):wpOpIn F n P ops Q i K a w:=by
 unfold wpOpIn;simp only [ho,Region.wanted,hg,if_true];refine ⟨fun f h =>(by rw [hab] at h;cases h),?_⟩;rw [Oper.semAt_eq _ _ _ hd,hrun];exact hK
def dstOf (ops:Array Oper) (j:Nat):Option Tmp:=(ops[j]?).bind (·.dst)
def flowOk (ops:Array Oper) (n:Nat):Bool :=
 (List.range ops.size).all fun i =>(match dstOf ops i with | none =>true | some d =>decide (d < n)) &&
  (List.range ops.size).all fun j =>i == j || (dstOf ops i).isNone || !((dstOf ops i) == (dstOf ops j))
def putTmps (ops:Array Oper) (val:Nat→Value) (t:Array Value):Nat→Array Value
 | 0 =>t
 | j + 1 =>match dstOf ops j with
  | some d =>(putTmps ops val t j).setIfInBounds d (val j)
  | none =>putTmps ops val t j
def waitsOk (ops:Array Oper):Bool:=(List.range ops.size).all fun i =>match ops[i]? with
 | some o =>o.after.all fun e =>!Region.binds .any e || decide (e.on < i)
 | none =>true
structure Agrees (ops:Array Oper) (base:Act) (val:Nat→Value) (done:Nat→Bool) (a:Act):Prop where
 defers:a.defers = base.defers
 size:a.tmps.size = base.tmps.size
 has:∀ j d,dstOf ops j = some d→done j = true→a.tmps.getD d undef = val j
 other:∀ t,(∀ j,dstOf ops j≠some t)→a.tmps.getD t undef = base.tmps.getD t undef
def upd (done:Nat→Bool) (i:Nat):Nat→Bool:=fun j =>if j = i then true else done j
theorem b9V {ops:Array Oper} {n:Nat} (h:flowOk ops n = true) {j d:Nat} (hd:dstOf ops j = some d):d < n:=by
 have hj:j < ops.size:=by
  by_cases hj:j < ops.size
  ·exact hj
  ·simp [dstOf,Array.getElem?_eq_none (Nat.le_of_not_lt hj)] at hd
 have:=zC2.1 h j (zX0.2 hj);simp only [hd,zZ0,zB2] at this;exact this.1
theorem a8Q {ops:Array Oper} {n:Nat} (h:flowOk ops n = true) {i j d:Nat} (hi:dstOf ops i = some d) (hj:dstOf ops j = some d):i = j:=by
 have lt:∀ {k:Nat},dstOf ops k = some d→k < ops.size:=fun {k} hk =>by
  by_cases hj:k < ops.size
  ·exact hj
  ·simp [dstOf,Array.getElem?_eq_none (Nat.le_of_not_lt hj)] at hk
 have:=zC2.1 h i (zX0.2 (lt hi));simp only [zZ0] at this;have:=zC2.1 this.2 j (zX0.2 (lt hj));rw [hi,hj] at this;simpa using this
theorem b2A (t:Array Value) (d:Nat) (v:Value) (k:Nat):(t.setIfInBounds d v).getD k undef = if k = d∧d < t.size then v else t.getD k undef:=by
 rw [zH1,zH1,Array.getElem?_setIfInBounds];by_cases h:d = k
 ·subst h;by_cases h2:d < t.size
  ·simp [h2]
  ·simp [h2]
 ·rw [if_neg h,if_neg (fun e =>h e.1.symm)]
theorem Agrees.put {ops:Array Oper} {base:Act} {val:Nat→Value} {done:Nat→Bool} {a:Act} (hok:flowOk ops base.tmps.size = true) (h:Agrees ops base val done a) (i:Nat) {o:Oper} (ho:ops[i]? = some o) :
  Agrees ops base val (upd done i) (a.put o.dst (val i)):=by
 have hdi:dstOf ops i = o.dst:=by simp [dstOf,ho]
 cases hd:o.dst with
 | none =>
  refine ⟨h.defers,h.size,fun j d hj hdn =>?_,h.other⟩;refine h.has j d hj ?_;unfold upd at hdn
  split at hdn
  ·rename_i e;subst e;rw [hdi,hd] at hj;cases hj
  ·exact hdn
 | some d =>
  rw [hd] at hdi;refine ⟨h.defers,by simp [Act.put,h.size],fun j d' hj hdn =>?_,fun t ht =>?_⟩
  ·simp only [Act.put,b2A];by_cases e:d' = d
   ·subst e;obtain rfl:=a8Q hok hj hdi;rw [if_pos ⟨rfl,by rw [h.size];exact b9V hok hdi⟩]
   ·rw [if_neg (fun x =>e x.1)];refine h.has j d' hj ?_;unfold upd at hdn
    split at hdn
    ·rename_i e2;subst e2;rw [hdi] at hj;cases hj;exact absurd rfl e
    ·exact hdn
  ·simp only [Act.put,b2A];rw [if_neg (fun x =>ht i (by rw [hdi,x.1]))];exact h.other t ht
theorem a8A (ops:Array Oper) (val:Nat→Value) (t:Array Value) (n:Nat):(putTmps ops val t n).size = t.size:=by
 induction n with
 | zero =>rfl
 | succ n ih =>unfold putTmps;split <;> simp [ih]
theorem b4I {ops:Array Oper} {N:Nat} (hok:flowOk ops N = true) (val:Nat→Value) (t:Array Value) (hN:t.size = N):∀ n k,(putTmps ops val t n).getD k undef = if h:∃ j,j < n∧dstOf ops j = some k then val (Classical.choose h) else t.getD k undef:=by
 intro n
 induction n with
 | zero =>intro k;rw [dif_neg (by rintro ⟨j,hj,_⟩;omega)];rfl
 | succ n ih =>
  intro k;unfold putTmps;cases hd:dstOf ops n with
  | none =>
   simp only [ih];have:(∃ j,j < n∧dstOf ops j = some k) ↔ (∃ j,j < n + 1∧dstOf ops j = some k) :=
    ⟨fun ⟨j,h1,h2⟩ =>⟨j,by omega,h2⟩,fun ⟨j,h1,h2⟩ =>⟨j,by (have:j≠n:=fun e =>(by subst e;rw [hd] at h2;cases h2));omega,h2⟩⟩
   by_cases hh:∃ j,j < n∧dstOf ops j = some k
   ·rw [dif_pos hh,dif_pos (this.1 hh)]
    congr 1
    exact a8Q hok (Classical.choose_spec hh).2 (Classical.choose_spec (this.1 hh)).2
   ·rw [dif_neg hh,dif_neg (fun h =>hh (this.2 h))]
  | some d =>
   simp only [b2A,a8A];by_cases e:k = d
   ·subst e;have hh:∃ j,j < n + 1∧dstOf ops j = some k:=⟨n,by omega,hd⟩;rw [if_pos ⟨rfl,by rw [hN];exact b9V hok hd⟩,dif_pos hh]
    congr 1
    exact a8Q hok hd (Classical.choose_spec hh).2
   ·rw [if_neg (fun x =>e x.1),ih];have:(∃ j,j < n∧dstOf ops j = some k) ↔ (∃ j,j < n + 1∧dstOf ops j = some k) :=
     ⟨fun ⟨j,h1,h2⟩ =>⟨j,by omega,h2⟩,fun ⟨j,h1,h2⟩ =>⟨j,by (have:j≠n:=fun e' =>(by subst e';rw [hd] at h2;cases h2;exact e rfl));omega,h2⟩⟩
    by_cases hh:∃ j,j < n∧dstOf ops j = some k
    ·rw [dif_pos hh,dif_pos (this.1 hh)]
     congr 1
     exact a8Q hok (Classical.choose_spec hh).2 (Classical.choose_spec (this.1 hh)).2
    ·rw [dif_neg hh,dif_neg (fun h =>hh (this.2 h))]
theorem Agrees.all {ops:Array Oper} {base:Act} {val:Nat→Value} {done:Nat→Bool} {a:Act} (hok:flowOk ops base.tmps.size = true) (h:Agrees ops base val done a) (hd:∀ j,j < ops.size→done j = true) :
  a = { tmps:=putTmps ops val base.tmps ops.size,defers:=base.defers }:=by
 obtain ⟨at_,ad⟩:=a;have h1:=h.defers;have h2:=h.size;simp only at h1 h2;subst h1
 congr 1
 apply Array.ext
 ·rw [a8A];exact h2
 ·intro k k1 k2;have e1:at_[k] = at_.getD k undef:=by simp [k1]
  have e2:(putTmps ops val base.tmps ops.size)[k] = (putTmps ops val base.tmps ops.size).getD k undef:=by rw [zH1,Array.getElem?_eq_getElem k2];rfl
  rw [e1,e2,b4I hok val base.tmps rfl];by_cases hh:∃ j,j < ops.size∧dstOf ops j = some k
  ·rw [dif_pos hh];exact h.has _ k (Classical.choose_spec hh).2 (hd _ (Classical.choose_spec hh).1)
  ·rw [dif_neg hh];refine h.other k (fun j hj =>hh ⟨j,?_,hj⟩);by_cases hlt:j < ops.size
   ·exact hlt
   ·simp [dstOf,Array.getElem?_eq_none (Nat.le_of_not_lt hlt)] at hj
theorem a5Q {F:Fence} {n:Nat} {P:Program} {ops:Array Oper} {Q:Exit→Act→World→Prop} (base:Act) (val:Nat→Value) (S:(Nat→Bool)→World→Prop) (hok:flowOk ops base.tmps.size = true) (hwt:waitsOk ops = true) (w0:World)
  (h0:S (fun _ =>false) w0)
  (hstep:∀ i o done a w,ops[i]? = some o→done i = false→(∀ e ∈ o.after,Region.binds .any e = true→done e.on = true)→Agrees ops base val done a→S done w →
   ∀ K:Act→World→Prop,(∀ w',S (upd done i) w'→K (a.put o.dst (val i)) w')→wpOpIn F n P ops Q i K a w)
  (hend:∀ w done,(∀ j,j < ops.size→done j = true)→S done w→Q .normal { tmps:=putTmps ops val base.tmps ops.size,defers:=base.defers } w) :
  wpAnyIn F n P .any ops Q ops.size (Array.replicate ops.size false) base w0:=by
 refine a6S (fun listed a w =>listed.size = ops.size∧∃ done,(∀ j,j < ops.size→listed[j]? = some (done j))∧Agrees ops base val done a∧S done w) ?_ ?_ _ _ _ _ (by simp [leftOf]) ⟨by simp,fun _ =>false,fun j hj =>by simp [hj],⟨rfl,rfl,fun _ _ _ h =>(by cases h),fun _ _ =>rfl⟩,h0⟩
 ·rintro listed a w i ⟨hs,done,hl,ha,hS⟩ hr;have hmem:=a5V hr;have hlt:i < ops.size:=by
   rw [Array.getElem?_toList] at hmem;have:=(Array.getElem?_eq_some_iff.1 hmem).1;omega
  have hdi:done i = false:=by
   rw [Array.getElem?_toList,hl i hlt] at hmem;simpa using hmem
  have ho:ops[i]? = some ops[i]:=Array.getElem?_eq_getElem hlt;refine hstep i ops[i] done a w ho hdi (fun e he hb =>?_) ha hS _ (fun w' hw' =>⟨by simp [hs],upd done i,fun j hj =>?_,ha.put hok i ho,hw'⟩)
  ·have:=(zT1.1 hr).2;simp only [zZ0,ho,zH2,zL2] at this;have h2:=zO1.1 this.2 e he;rw [hb] at h2;simp only [zM2,zT2] at h2;rw [zH1] at h2;by_cases hlt2:e.on < ops.size
   ·rw [hl e.on hlt2] at h2;simpa using h2
   ·rw [Array.getElem?_eq_none qC0] at h2;simp at h2
  ·rw [Array.getElem?_setIfInBounds];by_cases e:i = j
   ·subst e;rw [if_pos rfl,if_pos qC0];simp [upd]
   ·rw [if_neg e,hl j hj];simp [upd,Ne.symm e]
 ·rintro listed a w ⟨hs,done,hl,ha,hS⟩ hr;have hall:∀ j,j < ops.size→done j = true:=by
   intro j
   induction j using Nat.strongRecOn with
   | _ j ih =>
   intro hj;cases hdj:done j with
   | true =>rfl
   | false =>
    exfalso;have:j ∈ Region.ready .any ops listed:=by
     unfold Region.ready;refine zT1.2 ⟨zX0.2 hj,?_⟩;simp only [zZ0];refine ⟨by rw [zH1,hl j hj,hdj];rfl,?_⟩;rw [Array.getElem?_eq_getElem hj];simp only [zH2,zL2];refine zO1.2 fun e he =>?_
     have hw:=zC2.1 hwt j (zX0.2 hj);rw [Array.getElem?_eq_getElem hj] at hw;have hw2:=zO1.1 hw e he;cases hb:Region.binds .any e with
     | false =>simp
     | true =>
      rw [hb] at hw2;simp only [zM2,zT2,zB2] at hw2;have hlt:e.on < ops.size:=by omega
      simp only [zM2,zT2];rw [zH1,hl e.on hlt,ih e.on hw2 hlt];rfl
    rw [hr] at this;cases this
  rw [ha.all hok hall];exact hend w done hall hS
theorem Agrees.keep {ops:Array Oper} {base:Act} {val:Nat→Value} {done:Nat→Bool} {a:Act} (h:Agrees ops base val done a) (t:Tmp) (hc:((List.range ops.size).all fun j =>!(dstOf ops j == some t)) = true):a.eval (.tmp t) = base.eval (.tmp t) :=
 h.other t (fun j hj =>by
  have hlt:j < ops.size:=by
   by_cases hlt:j < ops.size
   ·exact hlt
   ·simp [dstOf,Array.getElem?_eq_none (Nat.le_of_not_lt hlt)] at hj
  have:=zC2.1 hc j (zX0.2 hlt);rw [hj] at this
  simp at this)
theorem Agrees.val_ {ops:Array Oper} {base:Act} {val:Nat→Value} {done:Nat→Bool} {a:Act} (h:Agrees ops base val done a) {j t:Nat} (hj:dstOf ops j = some t) (hd:done j = true):a.eval (.tmp t) = val j:=h.has j t hj hd
theorem a1C {W W':World} {B:Nat} {t:TypeId} {v:Value} (h:Boxed W B t v) (hb:Below W.heap.size W W'):Boxed W' B t v:=(hb.block B h.lt).trans h
def setv (val:Nat→Value) (i:Nat) (r:Value):Nat→Value:=fun j =>if j = i then r else val j
theorem Agrees.put2 {ops:Array Oper} {base:Act} {val:Nat→Value} {done:Nat→Bool} {a:Act} (hok:flowOk ops base.tmps.size = true) (h:Agrees ops base val done a) (i:Nat) {o:Oper} (ho:ops[i]? = some o) (hd:done i = false) (r:Value) :
  Agrees ops base (setv val i r) (upd done i) (a.put o.dst r):=by
 have h2:Agrees ops base (setv val i r) done a:=⟨h.defers,h.size,fun j d hj hdn =>by
  rw [h.has j d hj hdn];unfold setv;rw [if_neg (fun e =>by subst e;rw [hd] at hdn;cases hdn)],h.other⟩
 have h3:=h2.put hok i ho;have e:setv val i r i = r:=by simp [setv]
 rw [e] at h3;exact h3
theorem a1X {F:Fence} {n:Nat} {P:Program} {ops:Array Oper} {Q:Exit→Act→World→Prop} (base:Act) (v0:Nat→Value) (S:(Nat→Bool)→(Nat→Value)→World→Prop) (hok:flowOk ops base.tmps.size = true) (hwt:waitsOk ops = true) (w0:World)
  (h0:S (fun _ =>false) v0 w0)
  (hstep:∀ i o done val a w,ops[i]? = some o→done i = false→(∀ e ∈ o.after,Region.binds .any e = true→done e.on = true)→Agrees ops base val done a→S done val w →
   ∀ K:Act→World→Prop,(∀ r w',S (upd done i) (setv val i r) w'→K (a.put o.dst r) w')→wpOpIn F n P ops Q i K a w)
  (hend:∀ w done val,(∀ j,j < ops.size→done j = true)→S done val w→Q .normal { tmps:=putTmps ops val base.tmps ops.size,defers:=base.defers } w) :
  wpAnyIn F n P .any ops Q ops.size (Array.replicate ops.size false) base w0:=by
 refine a6S (fun listed a w =>listed.size = ops.size∧∃ done val,(∀ j,j < ops.size→listed[j]? = some (done j))∧Agrees ops base val done a∧S done val w) ?_ ?_ _ _ _ _ (by simp [leftOf]) ⟨by simp,fun _ =>false,v0,fun j hj =>by simp [hj],⟨rfl,rfl,fun _ _ _ h =>(by cases h),fun _ _ =>rfl⟩,h0⟩
 ·rintro listed a w i ⟨hs,done,val,hl,ha,hS⟩ hr;have hmem:=a5V hr;have hlt:i < ops.size:=by
   rw [Array.getElem?_toList] at hmem;have:=(Array.getElem?_eq_some_iff.1 hmem).1;omega
  have hdi:done i = false:=by
   rw [Array.getElem?_toList,hl i hlt] at hmem;simpa using hmem
  have ho:ops[i]? = some ops[i]:=Array.getElem?_eq_getElem hlt;refine hstep i ops[i] done val a w ho hdi (fun e he hb =>?_) ha hS _ (fun r w' hw' =>⟨by simp [hs],upd done i,setv val i r,fun j hj =>?_,ha.put2 hok i ho hdi r,hw'⟩)
  ·have:=(zT1.1 hr).2;simp only [zZ0,ho,zH2,zL2] at this;have h2:=zO1.1 this.2 e he;rw [hb] at h2;simp only [zM2,zT2] at h2;rw [zH1] at h2;by_cases hlt2:e.on < ops.size
   ·rw [hl e.on hlt2] at h2;simpa using h2
   ·rw [Array.getElem?_eq_none qC0] at h2;simp at h2
  ·rw [Array.getElem?_setIfInBounds];by_cases e:i = j
   ·subst e;rw [if_pos rfl,if_pos qC0];simp [upd]
   ·rw [if_neg e,hl j hj];simp [upd,Ne.symm e]
 ·rintro listed a w ⟨hs,done,val,hl,ha,hS⟩ hr;have hall:∀ j,j < ops.size→done j = true:=by
   intro j
   induction j using Nat.strongRecOn with
   | _ j ih =>
   intro hj;cases hdj:done j with
   | true =>rfl
   | false =>
    exfalso;have:j ∈ Region.ready .any ops listed:=by
     unfold Region.ready;refine zT1.2 ⟨zX0.2 hj,?_⟩;simp only [zZ0];refine ⟨by rw [zH1,hl j hj,hdj];rfl,?_⟩;rw [Array.getElem?_eq_getElem hj];simp only [zH2,zL2];refine zO1.2 fun e he =>?_
     have hw:=zC2.1 hwt j (zX0.2 hj);rw [Array.getElem?_eq_getElem hj] at hw;have hw2:=zO1.1 hw e he;cases hb:Region.binds .any e with
     | false =>simp
     | true =>
      rw [hb] at hw2;simp only [zM2,zT2,zB2] at hw2;have hlt:e.on < ops.size:=by omega
      simp only [zM2,zT2];rw [zH1,hl e.on hlt,ih e.on hw2 hlt];rfl
    rw [hr] at this;cases this
  rw [ha.all hok hall];exact hend w done val hall hS
def Blk (W:World) (B:Nat) (t:TypeId) (vs:Array Value):Prop:=W.heap[B]? = some (.cells vs t (0,0))
theorem Blk.lt {W:World} {B:Nat} {t:TypeId} {vs:Array Value} (h:Blk W B t vs):B < W.heap.size:=(Array.getElem?_eq_some_iff.1 h).1
theorem Blk.cell {W:World} {B:Nat} {t:TypeId} {vs:Array Value} (h:Blk W B t vs) (j:Nat):W.cell? ⟨B,j,none⟩ = vs[j]?:=a2T h j
theorem Blk.frozen {W:World} {B:Nat} {t:TypeId} {vs:Array Value} (h:Blk W B t vs) (j:Nat):W.frozen? ⟨B,j,none⟩ = false:=by
 have h':W.heap[B]? = some (.cells vs t (0,0)):=h;simp [World.frozen?,h']
structure VS (w:World) (bL:Nat) (ds:List Nat) (W:World) (vb v:Value) (xs:List ByteArray):Prop where
 be:Below w.heap.size w W
 bl:Boxed W bL 25 vb
 lb:w.heap.size≤bL
 rl:W.ownsRow w.heap.size 9 1 v xs.length (xs.map Value.string)
 df:∀ D,D ∈ ds→w.heap.size≤D∧W.heap[D]? = some (.deferred (some []))
section
variable {w W W':World} {bL:Nat} {ds:List Nat} {vb v:Value} {xs:List ByteArray}
theorem VS.below (h:VS w bL ds W vb v xs) (hb:Below W.heap.size W W'):VS w bL ds W' vb v xs :=
 ⟨h.be.trans (hb.mono h.be.size),(hb.block _ h.bl.lt).trans h.bl,h.lb,a3N h.rl (fun k hk =>hb.block k (a5W h.rl k hk)),
  fun D hD =>⟨(h.df D hD).1,(hb.block D (Array.getElem?_eq_some_iff.1 (h.df D hD).2).1).trans (h.df D hD).2⟩⟩
theorem VS.nrow (h:VS w bL ds W vb v xs):some bL≠v.ownBlock:=h.bl.not_row qB0 h.rl
theorem VS.row (h:VS w bL ds W vb v xs) {v1:Value} {ys:List ByteArray} (hr:W'.ownsRow w.heap.size 9 1 v1 ys.length (ys.map Value.string)) (hg:W.grownBy W' v.ownBlock):VS w bL ds W' vb v1 ys:=by
 refine ⟨h.be.grown hg h.be.size (fun k hk =>a1O h.rl k hk),h.bl.kept hg h.nrow,h.lb,hr,fun D hD =>⟨(h.df D hD).1,?_⟩⟩;have h1:=(h.df D hD).2;rw [hg.block D (Array.getElem?_eq_some_iff.1 h1).1 (fun e =>by obtain ⟨cs,hc⟩:=a1S h.rl D e.symm;rw [h1] at hc;cases hc)];exact h1
theorem VS.setL (h:VS w bL ds W vb v xs) (u:Value):VS w bL ds (W.setCell ⟨bL,0,none⟩ u) u v xs:=by
 have hl:=h.lb;refine ⟨h.be.setCell (p:=⟨bL,0,none⟩) hl u,h.bl.set u,h.lb,a3N h.rl (fun k hk =>Below.heap_setCell W ⟨bL,0,none⟩ u k (fun e =>h.nrow (by rw [hk];exact congrArg some e.symm))),fun D hD =>⟨(h.df D hD).1,?_⟩⟩;have h1:=(h.df D hD).2;rw [Below.heap_setCell W ⟨bL,0,none⟩ u D (fun e =>by have h2:W.heap[bL]? = _:=h.bl;rw [show D = bL from e,h2] at h1;cases h1)];exact h1
theorem VS.turn (h:VS w bL ds W vb v xs) {B:Nat} {row:Option Nat} (hn:w.heap.size≤B) (hd:∀ D,D ∈ ds→D < B) (hg:W.grownBy W' row) (hr:∀ r,row = some r→B≤r∧∃ o:Obj,W.heap[r]? = some o∧o.isCells = false):VS w bL ds W' vb v xs:=by
 have hc:∀ k cs t,W.heap[k]? = some (.cells cs t (0,0))→some k≠row:=fun k cs t h1 e =>by
  obtain ⟨_,o,ho,hoc⟩:=hr k e.symm;rw [h1] at ho;cases ho;cases hoc
 refine ⟨h.be.grown hg h.be.size (fun k hk =>zF0 hn (hr k hk).1),h.bl.kept hg (hc _ _ _ h.bl),h.lb,
  a3N h.rl (fun k hk =>hg.block k (a5W h.rl k hk) (by obtain ⟨cs,hcs⟩:=a1S h.rl k hk;exact hc _ _ _ hcs)),fun D hD =>⟨(h.df D hD).1,?_⟩⟩
 have h1:=(h.df D hD).2;rw [hg.block D (Array.getElem?_eq_some_iff.1 h1).1 (fun e =>by have:=(hr D e.symm).1;have:=hd D hD;omega)];exact h1
theorem VS.cons (h:VS w bL ds W vb v xs) {D:Nat} (hD:w.heap.size≤D) (hZ:W.heap[D]? = some (.deferred (some []))):VS w bL (D :: ds) W vb v xs :=
 ⟨h.be,h.bl,h.lb,h.rl,fun E hE =>by
  rcases zQ0.1 hE with rfl | hE
  ·exact ⟨hD,hZ⟩
  ·exact h.df E hE⟩
theorem VS.kp {B:Nat} {v1:Value} {ys:List ByteArray} (h:VS w bL ds W v v xs) (h':VS w bL ds W' v1 v1 ys) (hb:bL < B) (hB:Below w.heap.size W W') (hf:Fr (fun k =>k = bL∨some k = v.ownBlock) W W')
  (hat:v1.ownBlock = v.ownBlock∨∃ b,v1.ownBlock = some b∧W.heap.size≤b):KeepsFrom B W W'∧Kp w.heap.size B (some bL) W W':=by
 have r1:rowOf (some bL) W = v.ownBlock:=by simp [rowOf,h.bl.cell]
 have r2:rowOf (some bL) W' = v1.ownBlock:=by simp [rowOf,h'.bl.cell]
 refine ⟨(hf.others ?_).from B,hB,fun _ =>⟨fun k hk =>?_,?_,fun k o hk ho hc hne =>?_⟩⟩
 ·rintro k o (rfl | hk) ho
  ·have h2:W.heap[k]? = _:=h.bl;rw [h2] at ho;cases ho;rfl
  ·obtain ⟨cs,hcs⟩:=a1S h.rl k hk.symm;rw [hcs] at ho;cases ho;rfl
 ·rw [r2] at hk;exact a5W h'.rl k hk
 ·rw [r1,r2];rcases hat with hat | ⟨b,hb1,hb2⟩
  ·exact .inl hat
  ·right;intro k hk;rw [hb1] at hk;cases hk;exact hb2
 ·rw [hf.block k (Array.getElem?_eq_some_iff.1 ho).1 (by rintro (e | e);omega;rw [r1] at hne;exact hne e.symm)];exact ho
theorem VS.step {B:Nat} {X Y Z:World} {v0 v1:Value} {xs ys:List ByteArray} (h:VS w bL ds X v0 v0 xs) (hXY:Below X.heap.size X Y) (hg:VS w bL ds Z v0 v1 ys) (hf:Fr (fun k =>some k = v0.ownBlock) Y Z) (hbe:Below w.heap.size Y Z) (hat:v1.ownBlock = v0.ownBlock∨∃ b,v1.ownBlock = some b∧Y.heap.size≤b) (hb:bL < B) :
  VS w bL ds (Z.setCell ⟨bL,0,none⟩ v1) v1 v1 ys∧KeepsFrom B X (Z.setCell ⟨bL,0,none⟩ v1)∧Kp w.heap.size B (some bL) X (Z.setCell ⟨bL,0,none⟩ v1)∧X.heap.size≤(Z.setCell ⟨bL,0,none⟩ v1).heap.size:=by
 have hg2:=hg.setL v1;have hlb:=h.lb;have hF:Fr (fun k =>k = bL∨some k = v0.ownBlock) X (Z.setCell ⟨bL,0,none⟩ v1):=((Fr.a3W (fun k =>k = bL∨some k = v0.ownBlock) hXY).trans hf (fun i _ e =>.inr e)).trans (Fr.b3E Z bL v1) (fun i _ e =>.inl e);have hB:Below w.heap.size X (Z.setCell ⟨bL,0,none⟩ v1):=((hXY.mono h.be.size).trans hbe).setCell (p:=⟨bL,0,none⟩) (by show w.heap.size≤bL;omega) v1;obtain ⟨q1,q2⟩:=h.kp hg2 hb hB hF (hat.imp_right fun ⟨b,e,hb⟩ =>⟨b,e,zF0 hXY.size hb⟩);exact ⟨hg2,q1,q2,hF.size⟩
end
theorem a9F {P:Program} (w:World) (base:Nat) (t ty e:TypeId) (i:TypeInfo) (size:Nat) (ht:P.underlying t = some (.slice e)) (hi:P.info? e = some i) (v:Value) (n:Nat) (xs:List Value) (hown:w.ownsRow base e size v n xs) (c:Nat) :
  (Builtin.append_ #[t,t] ty #[v,.slice none 0 c]).run P w = .ok v w:=by
 rcases hown.2 with ⟨rfl,rfl⟩ | ⟨g,cap,cur,rfl,hbg,hg,hnc,_⟩
 ·simp [Builtin.append_,run_underlying ht,sizeOf,typeInfo,hi,Builtin.lenOf,Builtin.firstCells,loadCells,loadCellsFrom]
 ·simp [Builtin.append_,run_underlying ht,sizeOf,typeInfo,hi,Builtin.lenOf,Builtin.firstCells,loadCells,loadCellsFrom,storeCells,hnc]
section
variable {F:Fence} {nF:Nat} {ops:Array Oper} {rest:List Oper} {o:Oper} {a:Act} {Q:Exit→Act→World→Prop} {w W:World} {bL:Nat} {ds:List Nat} {vb v:Value} {xs:List ByteArray}
theorem a7Q (ys:List ByteArray) (A:Option Addr) (c:Nat) (hgd:o.guard = none) (s y:Operand) (ho:o.op = .call { callee:=.builtin .append,args:=#[s,y],argTypes:=#[25,25] }) (hs:a.eval s = v) (hx:a.eval y = .slice A ys.length c)
  (hsrc:Kd.C Kd.string W A ys.length ys) (h:VS w bL ds W vb v xs) (hl:xs.length + ys.length≤8000000000000)
  (hK:∀ v1 W1,VS w bL ds W1 vb v1 (xs ++ ys)→Below w.heap.size W W1→Fr (fun k =>some k = v.ownBlock) W W1→(v1.ownBlock = v.ownBlock∨∃ b,v1.ownBlock = some b∧W.heap.size≤b)→(∃ A' n' c',v1 = .slice A' n' c')→wpListIn F nF Tryz.prog ops Q rest (a.put o.dst v1) W1) :
  wpListIn F nF Tryz.prog ops Q (o :: rest) a W:=by
 obtain ⟨i0,hi,hz0,hz1,hz2⟩:=info_parts b4R;cases A with
 | none =>
  have hy:ys = []:=by
   rcases zR1 ys.length with h0 | h0
   ·exact List.length_eq_zero_iff.1 h0
   ·obtain ⟨ad,e,_⟩:=Kd.a3A hsrc 0 qC0 qC0;cases e
  subst hy;refine wpListIn_plain hgd fun K hK' =>?_
  have hr:=a9F (P:=Tryz.prog) W w.heap.size 25 o.type 9 i0 1 Tryz.underlying25 hi v xs.length (xs.map Value.string) h.rl c;unfold Oper.wpIn;refine ⟨by simp [Oper.about,ho,resolve,Target.leads,Sem.run_pure],?_⟩;rw [Oper.semAt_plain F _ _ (by rw [ho];intro c hc';cases hc')];simp only [zI1] at hx;simp [execOp,ho,resolve,invoke,builtin,hs,hx,hr,Result.andThen];obtain ⟨A',n',c',e'⟩:∃ A' n' c',v = .slice A' n' c':=by
   rcases h.rl.2 with ⟨e,_⟩ | ⟨g,cap,cur,e,_⟩ <;> exact ⟨_,_,_,e⟩
  exact hK' _ _ (hK v W (by rw [zR2];exact h) (zG0 _ _) (Fr.refl _ _) (.inl rfl) ⟨A',n',c',e'⟩)
 | some ad =>
  refine wpListIn_append_own_at (w:=W) hgd s y 25 ho w.heap.size 9 i0 _ 1 16 Tryz.underlying25 hi hz0 hz1 hz2 rfl qB0 v xs.length (xs.map Value.string) hs h.rl ad ys.length c (ys.map Value.string) hx qE0 ?_ ?_
   (by unfold maxLen;omega) qC0 h.be.size ?_
  ·intro j u hu;rw [List.getElem?_map] at hu;have hj:j < ys.length:=by
    by_cases hj:j < ys.length
    ·exact hj
    ·rw [List.getElem?_eq_none qC0] at hu;cases hu
   obtain ⟨ad',e,hc⟩:=Kd.a3A hsrc (j:Int) (zH0 j) (zW1.2 hj);cases e;rw [zD0 hj] at hu;cases hu;rw [zK0] at hc;rw [hc];unfold rdOf;rw [zK0,zE0,zD0 hj];rfl
  ·intro u hu;obtain ⟨b,_,rfl⟩:=zW2.1 hu
   rfl
  ·intro v1 W1 hown hg _ hat;have h1:=h.row (ys:=xs ++ ys) (v1:=v1) (by simpa using hown) hg;refine hK v1 W1 h1 ((zG0 _ _).grown hg h.be.size (fun k hk =>a1O h.rl k hk)) (Fr.a6L hg) (hat.imp_right fun e =>⟨_,e,zJ0 _⟩) ?_;rcases h1.rl.2 with ⟨e,_⟩ | ⟨g,cap,cur,e,_⟩ <;> exact ⟨_,_,_,e⟩
end
theorem lit_C (W:World) (ys:List ByteArray) (hl:ys.length≤1050000):Kd.C Kd.string (W.alloc (.cells (ys.map Value.string).toArray 9)) (some ⟨W.heap.size,0,none⟩) ys.length ys:=by
 refine Kd.a5D (d:=ByteArray.empty) ⟨rfl,zF0 hl qB0,fun _ =>⟨_,rfl,fun j hj =>?_⟩⟩;rw [a3P,a2T (World.alloc_heap_new W _)];simp [List.getD,hj]
theorem c0E (l:List ByteArray) (A:Option Addr) (c:Nat) (w:World) (hC:Kd.C Kd.string w A l.length l) (hl:l.length≤1000000000) :
  Calls Tryz.prog 32 #[.slice A l.length c] w fun e w' =>∃ v',e = .returned v'∧w'.ownsRow w.heap.size 9 1 v' l.length (l.map Value.string)∧Below w.heap.size w w':=by
 cases A with
 | none =>
  have hy:l = []:=by
   rcases zR1 l.length with h0 | h0
   ·exact List.length_eq_zero_iff.1 h0
   ·obtain ⟨ad,e,_⟩:=Kd.a3A hC 0 qC0 qC0;cases e
  subst hy;refine (Tryz.slices_Clone_string_nil 0 c w).mono ?_;rintro e w' ⟨rfl,rfl⟩;exact ⟨_,rfl,World.ownsRow_nil _ _ _ _,zG0 _ _⟩
 | some ad =>
  rcases zR1 l.length with h0 | h0
  ·have hy:l = []:=List.length_eq_zero_iff.1 h0;subst hy;refine (Tryz.slices_Clone_string_zero ad c w).mono ?_;rintro e w' ⟨v',rfl,h1,_,hb⟩;exact ⟨v',rfl,h1,hb⟩
  ·have hall:∀ j,j < l.length→w.cell? (ad.add j) = some (.string (l.getD j ByteArray.empty)):=by
    intro j hj;obtain ⟨ad',e,hc⟩:=Kd.a3A hC (j:Int) (zH0 j) (zW1.2 hj);cases e;rw [zK0] at hc;rw [hc];unfold rdOf;rw [zK0]
   have hsp:ad.spot = none:=World.cell?_spot (hall 0 h0);obtain ⟨b,off,sp⟩:=ad;simp only at hsp;subst hsp;refine (Tryz.slices_Clone_string b off l.length c l w (zJ0 _) qC0 (fun j hj =>by rw [← a3P];exact hall j hj)).mono ?_;rintro e w' ⟨v',rfl,h1,_,hb⟩;rw [zN1] at h1;exact ⟨v',rfl,h1,hb⟩
theorem b8R {w:World} {b b' e size n:Nat} {v:Value} {xs:List Value} (h:w.ownsRow b e size v n xs) (hb:b'≤b):w.ownsRow b' e size v n xs:=by
 rcases h with ⟨h0,⟨h1,h2⟩ | ⟨g,cap,cur,hv,hg,r⟩⟩
 ·exact ⟨h0,.inl ⟨h1,h2⟩⟩
 ·exact ⟨h0,.inr ⟨g,cap,cur,hv,zF0 hb hg,r⟩⟩
theorem VS.blk {w W W':World} {bL:Nat} {ds:List Nat} {vb v:Value} {xs:List ByteArray} (h:VS w bL ds W vb v xs) {B:Nat} {t:TypeId} {vs:Array Value} (hB:Blk W B t vs) (ht:t≠(9:Nat)) (hf:Fr (fun k =>some k = v.ownBlock) W W'):Blk W' B t vs :=
 (hf.block B hB.lt (fun e =>by obtain ⟨cs,hcs⟩:=a1S h.rl B e.symm;rw [show W.heap[B]? = _ from hB] at hcs;cases hcs;exact ht rfl)).trans hB
def CV (w:World) (bL:Nat) (ds:List Nat) (G:S65→List ByteArray) (P0:List ByteArray) (B:Nat) (L:List S65) (X:World):Prop :=
 ∃ v,VS w bL ds X v v (P0 ++ L.flatMap G)∧B≤X.heap.size
def PV (w w1:World) (bL:Nat) (ds:List Nat) (G:S65→List ByteArray) (P0:List ByteArray) (L:List S65) (X:World):Exit→World→Prop
 | .normal,Y =>KeepsFrom w1.heap.size X Y∧Kp w.heap.size w1.heap.size (some bL) X Y∧CV w bL ds G P0 w1.heap.size L Y
 | _,_ =>False
theorem fm_len {α β:Type} (g:α→List β) (k:Nat):∀ L:List α,(∀ s,s ∈ L→(g s).length≤k)→(L.flatMap g).length≤L.length * k:=by
 intro L
 induction L with
 | nil =>intro _;simp
 | cons s r ih =>
  intro h;have h1:=h s zN0;have h2:=ih (fun x hx =>h x (zP0 _ hx));simp only [List.flatMap_cons,zO0,zR0,Nat.add_mul,Nat.one_mul];omega
open Go.Proofs.YthhgfncliffggaaGreatW.PrintMore
theorem grow_any (n:Nat) (hn:n≤4000000) (w:World) :
  Calls Tryz.prog 57 #[.slice none 0 0,.int .i64 (n:Int)] w fun e w' =>∃ v,e = .returned v∧Kd.R Kd.string 9 w' w.heap.size (fun _ =>True) v []∧Below w.heap.size w w':=by
 by_cases h0:n = 0
 ·subst h0;refine (Any8.slices_Grow_room Tryz.growS none 0 0 0 w (zJ0 _) qC0 qC0 (zJ0 _)).mono ?_;rintro e w' ⟨rfl,rfl⟩;exact ⟨_,rfl,Kd.b0E _ _ _ _ _,zG0 _ _⟩
 ·obtain ⟨i0,hi,hz0,hz1,hz2⟩:=info_parts b4R;refine (Any8.slices_Grow_grow Tryz.growS i0 (.string ⟨#[]⟩) hi hz0 (by rw [hz1];exact Nat.one_pos) none 0 0 n [] w (zJ0 _) qC0 (by rw [hz2];omega) qC0 (by rw [hz1];rfl) (fun _ =>rfl) (fun a h =>by cases h)).mono ?_;rintro e w' ⟨rfl,rfl⟩;refine ⟨_,rfl,?_,?_⟩
  ·refine Kd.a2W ?_ (fun _ _ =>trivial);have hge:=grownCap_ge w (0 + n) 0 9;refine ⟨rfl,.inr ⟨w.heap.size,_,_,rfl,zJ0 _,World.alloc_heap_new _ _,zG2 _,grownCap_le_maxLen w (0 + n) 0 9 (by unfold maxLen;omega),?_,rfl⟩⟩;have e1:∀ m,(Builtin.zeroCells (Value.string ⟨#[]⟩).cells m).size = m:=fun m =>by simp [Builtin.zeroCells,Value.cells]
   simp only [Array.size_append,e1];show 0 + (0 + n - 0) + (grownCap w (0 + n) 0 9 - (0 + n)) = grownCap w (0 + n) 0 9 * 1;omega
  ·exact (a0D (zG0 w.heap.size w).drew _)
theorem b6W (xs ys:List ByteArray) (hx:xs.length≤1050000) (hy:ys.length≤1050000) (A1 A2:Option Addr) (c1 c2 bb:Nat) (w:World) (h1:Kd.C Kd.string w A1 xs.length xs) (h2:Kd.C Kd.string w A2 ys.length ys)
  (hb:w.heap[bb]? = some (.cells #[.slice A1 xs.length c1,.slice A2 ys.length c2] 25 (0,0))) :
  Calls Tryz.prog 37 #[.slice (some ⟨bb,0,none⟩) 2 2] w fun e w' =>∃ v,e = .returned v∧Kd.R Kd.string 9 w' w.heap.size (fun _ =>True) v (xs ++ ys)∧Below w.heap.size w w':=by
 have H1:=zA0 h1;have H2:=zA0 h2;have HB:=zA0 hb;have z0:w.cell? ⟨bb,0,none⟩ = some (.slice A1 xs.length c1):=(a0I hb 0).trans rfl;have z1:w.cell? ⟨bb,1,none⟩ = some (.slice A2 ys.length c2):=(a0I hb 1).trans rfl;have q1:wrap64 (0 + (xs.length:Int)) = ((xs.length:Nat):Int):=by simp only [wrap64];omega
 have q2:wrap64 ((xs.length:Int) + (ys.length:Int)) = ((xs.length + ys.length:Nat):Int):=by simp only [wrap64];omega
 have p1:¬ ((xs.length:Int) < 0):=by omega
 have p2:¬ (((xs.length + ys.length:Nat):Int) < 0):=by omega
 have hg:=grow_any (xs.length + ys.length) qC0;rw [show ((xs.length + ys.length:Nat):Int) = (xs.length:Int) + (ys.length:Int) from Int.natCast_add _ _] at hg q2 p2;have HG:=zA0 hg;clear hg;clear h1 h2 hb;go_enter Tryz.func37,Tryz.ntmps37
 go_upto_region 3 with (fail)
 refine wp_loop_rounds 3 ?_;rw [rounds_succ];go_wp2;rw [rounds_succ];go_wp2;rw [rounds_succ]
 go_upto_region 11 with (first
  | (go_at_call 57;(with_reducible refine (HG.out _).mono ?_;rintro z w1 ⟨v1,rfl,hr1,hb1⟩;have HO1:=zA0 hr1;have HBW1:=zA0 hb1;clear hr1 hb1)))
 have e0:w1.cell? ⟨bb,0,none⟩ = some (.slice A1 xs.length c1):=(a0I (a0P HB.out HBW1.out) 0).trans rfl;clear z0 z1;refine wp_loop_rounds 3 ?_;rw [rounds_succ];go_wp2_with (first | ((with_reducible refine a0N (N:=33) rfl ?_);(refine Kd.a6F (w0:=w) Value.string ByteArray.empty (h1:=fun _ =>rfl) w.heap.size rfl (.tmp 31) (.tmp 32) 25 9 (.string ⟨#[]⟩) 16 rfl Tryz.underlying25 b4R rfl qB0 v1 ([]:List ByteArray) xs A1 xs.length c1 (fun _ =>True) ?hs ?hx (fun _ _ =>trivial) HO1.out (Kd.a0H H1.out HBW1.out) HBW1.out HBW1.out.size (by simp only [zO0,zI1];omega) ?_;(case hs =>first | (go_simp;done) | (go_simp;rfl));(case hx =>first | (go_simp;done) | (go_simp;rfl));intro v2 w2 ho hb hg hat;have HO2:=zA0 ho;have HBW2:=zA0 hb;clear ho hb hg hat)));have e1:w2.cell? ⟨bb,1,none⟩ = some (.slice A2 ys.length c2):=(a0I (a0P HB.out HBW2.out) 1).trans rfl;clear e0;rw [rounds_succ];go_wp2_with (first | ((with_reducible refine a0N (N:=33) rfl ?_);(refine Kd.a6F (w0:=w) Value.string ByteArray.empty (h1:=fun _ =>rfl) w.heap.size rfl (.tmp 31) (.tmp 32) 25 9 (.string ⟨#[]⟩) 16 rfl Tryz.underlying25 b4R rfl qB0 v2 (([]:List ByteArray) ++ xs) ys A2 ys.length c2 (fun _ =>True) ?hs ?hx (fun _ _ =>trivial) HO2.out (Kd.a0H H2.out HBW2.out) HBW2.out HBW2.out.size (by simp only [zO0,zI1];omega) ?_;(case hs =>first | (go_simp;done) | (go_simp;rfl));(case hx =>first | (go_simp;done) | (go_simp;rfl));intro v3 w3 ho hb hg hat;have HO3:=zA0 ho;have HBW3:=zA0 hb;clear ho hb hg hat)));clear e1;rw [rounds_succ];go_wp2;go_ret;exact ⟨v3,rfl,by have h:=HO3.out;rw [zJ2] at h;exact h,HBW3.out⟩
def capB (xs:List ByteArray):List ByteArray:=(Lib.compact (srtS (xs.map (·.data.toList)))).map (fun x =>⟨x.toArray⟩)
def unionF (a b:List ByteArray):List ByteArray:=capB (a ++ b)
theorem b4W (xs:List ByteArray):(xs.map (·.data.toList)).map encStr = xs.map Value.string:=by
 rw [List.map_map];apply List.map_congr_left;intro x _
 rfl
theorem capB_map (xs:List ByteArray):(Lib.compact (srtS (xs.map (·.data.toList)))).map encStr = (capB xs).map Value.string:=by
 unfold capB;rw [List.map_map];rfl
theorem sort_R (xs:List ByteArray) (v:Value) (base:Nat) (w:World) (h:Kd.R Kd.string 9 w base (fun _ =>True) v xs) (hl:xs.length≤4000000) :
  Calls Tryz.prog 38 #[v] w fun e w' =>e = .returned (.tuple #[])∧w'.ownsRow base 9 1 v xs.length ((srtS (xs.map (·.data.toList))).map encStr)∧w.grownBy w' v.ownBlock:=by
 have ho:=Kd.a2C h;have h2:=b7Q (xs.map (·.data.toList)) v base w (by rw [b4W,zU1];exact ho) (by rw [zU1];omega);rw [zU1] at h2;exact h2
theorem c0B (xs:List ByteArray) (v:Value) (base:Nat) (w:World) (h:w.ownsRow base 9 1 v xs.length ((srtS (xs.map (·.data.toList))).map encStr)) (hl:xs.length≤4000000) :
  Calls Tryz.prog 39 #[v] w fun e w' =>∃ v',e = .returned v'∧Kd.R Kd.string 9 w' base (fun _ =>True) v' (capB xs)∧w.grownBy w' v.ownBlock∧v'.ownBlock = v.ownBlock:=by
 have hlen:(srtS (xs.map (·.data.toList))).length = xs.length:=by rw [b5H,zU1]
 have h2:=b3Q (srtS (xs.map (·.data.toList))) v base w (by rw [hlen];exact h) (by rw [hlen];omega);refine h2.mono ?_;rintro e w' ⟨v',rfl,h3,hg,hb⟩;refine ⟨v',rfl,?_,hg,hb⟩;rw [capB_map] at h3;refine Kd.a2W ?_ (fun _ _ =>trivial);have e:(Lib.compact (srtS (xs.map (·.data.toList)))).length = (capB xs).length:=by unfold capB;rw [zU1]
 rw [e] at h3;exact h3
theorem a7D (xs ys:List ByteArray) (hx:xs.length≤1050000) (hy:ys.length≤1050000) (A1 A2:Option Addr) (c1 c2:Nat) (w:World) (h1:Kd.C Kd.string w A1 xs.length xs) (h2:Kd.C Kd.string w A2 ys.length ys) :
  Calls Tryz.prog 15 #[.slice A1 xs.length c1,.slice A2 ys.length c2] w fun e w' =>∃ v,e = .returned v∧Kd.R Kd.string 9 w' w.heap.size (fun _ =>True) v (unionF xs ys)∧Below w.heap.size w w':=by
 have hba:Below w.heap.size w (w.alloc (.cells #[.slice A1 xs.length c1,.slice A2 ys.length c2] 25)):=a0D (zG0 _ _) _;have HC:=zA0 (b6W xs ys hx hy A1 A2 c1 c2 w.heap.size _ (Kd.a0H h1 hba) (Kd.a0H h2 hba) (World.alloc_heap_new w _));have HBA:=zA0 hba;have hl:(xs ++ ys).length≤4000000:=by rw [zO0];omega
 have HL:=zA0 hl;clear h1 h2 hba hl hx hy;go_enter Tryz.func15,Tryz.ntmps15
 go_wp2_with (first
  | (go_at_call 37;(with_reducible refine HC.out.mono ?_;rintro z w1 ⟨v1,rfl,hr1,hb1⟩;have HR1:=zA0 (Kd.a4J hr1 HBA.out.size);have HB1:=zA0 (HBA.out.trans (hb1.mono HBA.out.size));clear hr1 hb1))
  | (go_at_call 38;(with_reducible refine (sort_R _ _ _ _ HR1.out HL.out).mono ?_;rintro z w2 ⟨rfl,ho2,hg2⟩;have HO2:=zA0 ho2;have HB2:=zA0 (HB1.out.grown hg2 HB1.out.size (fun k hk =>a1O ho2 k hk));clear ho2 hg2))
  | (go_at_call 39;(with_reducible refine (c0B _ _ _ _ HO2.out HL.out).mono ?_;rintro z w3 ⟨v3,rfl,hr3,hg3,hb3⟩;have HR3:=zA0 hr3;have HB3:=zA0 (HB2.out.grown hg3 HB2.out.size (fun k hk =>a1O HO2.out k hk));clear hr3 hg3 hb3)))
 go_ret;exact ⟨v3,rfl,HR3.out,HB3.out⟩
end Go.Proofs.YthhgfncliffggaaGreat.Man
