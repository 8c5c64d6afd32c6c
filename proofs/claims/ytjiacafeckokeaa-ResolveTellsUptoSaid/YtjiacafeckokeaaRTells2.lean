/- A part of the proof that ResolveTells returns true for every argument. No conditions beyond the given statement's own. -/
import Derived.Shelf.Small.Bits
import Derived.Shelf.Strconv.Itoa0
import Derived.Shelf.Sort.Plain
import Derived.Ground.Names2Prog
import Derived.Shelf.Slices.Clone
import Derived.Shelf.Slices.CompactS
import Derived.Shelf.Slices.Cells
import Derived.Shelf.Slices.In.SortNone
import Derived.Ground.SlgnProg
import Derived.Shelf.SlicesE.Compact
import Derived.Ground.SlgfProg
import Derived.Shelf.SlicesE.IndexFunc
import Derived.Shelf.SlicesE.DeleteFunc
import Derived.Test.YtjiacafeckokeaaProg
import Derived.Lib.SlicesCompact
import Derived.Below
import Derived.Deep.Draws
import Derived.Deep.AppendLies
import Derived.Maps.AppendAt
import Derived.OwnWalk
import Derived.Laws.BytesArg
import Derived.Laws.MakeOwn
import Derived.Laws.OwnMore
import Derived.Deep.OwnRows
import Derived.Tactics
import Derived.Lib.ConvBytes
import Derived.Laws.Slices
import Derived.WalkKit
import Derived.KernelRfl
import Derived.RowKit3
import Derived.Deep.LoopGhost
import Derived.Deep.QuietTactic
import Derived.BigQuiet
import Derived.WideLaws
import Derived.Deep.DeepCutAuto
import Derived.Deep.CutBlock
import Derived.Deep.RegionHeld3
import Derived.Laws.Rows
import Derived.Lib.AppendStr
import Derived.ArgAppend
import Derived.Laws.IdiomCopy
import Derived.OrdersHeld
import Derived.Laws.BitsLemmas
import Derived.RowKit
import Derived.Test.YtjiacafeckokeaaRTells1
import Derived.RangeFuncNested
import Derived.RangeFuncBound
import Derived.RangeFuncCalls
import Derived.RangeFuncLeaves
import Derived.Shelf.Abstract
import Derived.Shelf.RegionOpen
import Derived.OwnWalkIn
import Derived.TacticsInMore
import Derived.LoopNIn
import Derived.LoopIn
import Derived.Lib.Hide
import Derived.Outline
import Derived.OrdersIn
import Derived.Sort.LoopGhostIn
import Derived.Maps.OwnOps
import Derived.Maps.Views
import Derived.Carry
import Derived.RegionTactic
import Derived.WalkMore
import Derived.Says
import Derived.Maps.OwnIn
import Derived.Test.YtjiacafeckokeaaRows
set_option linter.unusedVariables false
set_option linter.unusedSimpArgs false
namespace Go.Proofs
open Go.Shelf
def Try.lays190_ren:Go.Shelf.Ren:=⟨fun | 190 =>41 | 125 =>57 | 258 =>56 | 128 =>72 | 129 =>73 | 302 =>63 | 303 =>64 | 304 =>65 | 305 =>66 | 306 =>67 | 307 =>68 | 308 =>69 | 309 =>70 | 310 =>71 | 333 =>78 | 329 =>79 | 330 =>80 | 334 =>81 | 335 =>82 | 336 =>83 | 344 =>87 | n =>n,fun | 31 =>28 | 9 =>9 | 3 =>3 | 46 =>90 | 0 =>0 | 51 =>106 | 53 =>108 | 4 =>4 | 183 =>98 | 182 =>97 | 131 =>103 | 5 =>5 | 218 =>113 | 222 =>117 | 228 =>121 | 229 =>122 | n =>n,fun | n =>n⟩
theorem Try.lays190:Go.Proofs.Lays.n190 Try.prog Try.lays190_ren:={
 mixed:=by kernel_rfl
 f125:=Try.func57.trans (congrArg some (by kernel_rfl))
 f128:=Try.func72.trans (congrArg some (by kernel_rfl))
 f129:=Try.func73.trans (congrArg some (by kernel_rfl))
 f190:=Try.func41.trans (congrArg some (by kernel_rfl))
 f258:=Try.func56.trans (congrArg some (by kernel_rfl))
 f302:=Try.func63.trans (congrArg some (by kernel_rfl))
 f303:=Try.func64.trans (congrArg some (by kernel_rfl))
 f304:=Try.func65.trans (congrArg some (by kernel_rfl))
 f305:=Try.func66.trans (congrArg some (by kernel_rfl))
 f306:=Try.func67.trans (congrArg some (by kernel_rfl))
 f307:=Try.func68.trans (congrArg some (by kernel_rfl))
 f308:=Try.func69.trans (congrArg some (by kernel_rfl))
 f309:=Try.func70.trans (congrArg some (by kernel_rfl))
 f310:=Try.func71.trans (congrArg some (by kernel_rfl))
 f329:=Try.func79.trans (congrArg some (by kernel_rfl))
 f330:=Try.func80.trans (congrArg some (by kernel_rfl))
 f333:=Try.func78.trans (congrArg some (by kernel_rfl))
 f334:=Try.func81.trans (congrArg some (by kernel_rfl))
 f335:=Try.func82.trans (congrArg some (by kernel_rfl))
 f336:=Try.func83.trans (congrArg some (by kernel_rfl))
 f344:=Try.func87.trans (congrArg some (by kernel_rfl))
 t0:=Try.underlying0
 a0:=Try.isAgg0
 z0:=Try.sizeOf0
 v0:=Try.zeroValue0
 t3:=Try.underlying3
 a3:=Try.isAgg3
 z3:=Try.sizeOf3
 v3:=Try.zeroValue3
 t4:=Try.underlying4
 a4:=Try.isAgg4
 z4:=Try.sizeOf4
 v4:=Try.zeroValue4
 t5:=Try.underlying5
 a5:=Try.isAgg5
 z5:=Try.sizeOf5
 v5:=Try.zeroValue5
 t9:=Try.underlying9
 a9:=Try.isAgg9
 z9:=Try.sizeOf9
 v9:=Try.zeroValue9
 t31:=Try.underlying28
 a31:=Try.isAgg28
 z31:=Try.sizeOf28
 v31:=Try.zeroValue28
 t46:=Try.underlying90
 a46:=Try.isAgg90
 z46:=Try.sizeOf90
 v46:=Try.zeroValue90
 t51:=Try.underlying106
 a51:=Try.isAgg106
 z51:=Try.sizeOf106
 v51:=Try.zeroValue106
 t53:=Try.underlying108
 a53:=Try.isAgg108
 z53:=Try.sizeOf108
 v53:=Try.zeroValue108
 t131:=Try.underlying103
 a131:=Try.isAgg103
 z131:=Try.sizeOf103
 v131:=Try.zeroValue103
 t182:=Try.underlying97
 a182:=Try.isAgg97
 z182:=Try.sizeOf97
 v182:=Try.zeroValue97
 t183:=Try.underlying98
 a183:=Try.isAgg98
 z183:=Try.sizeOf98
 v183:=Try.zeroValue98
 t218:=Try.underlying113
 a218:=Try.isAgg113
 z218:=Try.sizeOf113
 v218:=Try.zeroValue113
 t222:=Try.underlying117
 a222:=Try.isAgg117
 z222:=Try.sizeOf117
 v222:=Try.zeroValue117
 t228:=Try.underlying121
 a228:=Try.isAgg121
 z228:=Try.sizeOf121
 v228:=Try.zeroValue121
 t229:=Try.underlying122
 a229:=Try.isAgg122
 z229:=Try.sizeOf122
 v229:=Try.zeroValue122 }
open Go.Sort Go.RowKit in
theorem Try.slices_Sort_string (blk off cap:Nat) (ss:List (List UInt8)) (w:World) (hH:Holds encStr w blk off ss.toArray) (hblk:blk < w.heap.size) (hsz:ss.length < 4611686018427387904) :
  Calls Try.prog 41 #[.slice (some ⟨blk,off,none⟩) ss.length cap] w fun e w' =>
   e = .returned (.tuple #[])∧∃ n os,w' = grow (putRow encStr (Sort.ahead w n) blk off (ss.mergeSort fun x y =>decide (x≤y)).toArray) os:=Any.slices_Sort_string Try.lays190 blk off cap ss w hH hblk hsz
def Try.laysNm216_ren:Go.Shelf.Ren:=⟨fun | 16 =>25 | n =>n,fun | 24 =>28 | 9 =>9 | 4 =>4 | n =>n,fun | n =>n⟩
theorem Try.laysNm216:Go.Proofs.Lays2.n16 Try.prog Try.laysNm216_ren:={
 mixed:=by kernel_rfl
 f16:=Try.func25.trans (congrArg some (by kernel_rfl))
 t4:=Try.underlying4
 a4:=Try.isAgg4
 z4:=Try.sizeOf4
 v4:=Try.zeroValue4
 t9:=Try.underlying9
 a9:=Try.isAgg9
 z9:=Try.sizeOf9
 v9:=Try.zeroValue9
 t24:=Try.underlying28
 a24:=Try.isAgg28
 z24:=Try.sizeOf28
 v24:=Try.zeroValue28
 i9:=by kernel_rfl }
open Go.RowKit Go.Lib in
theorem Try.slices_Clone_string (b off n c:Nat) (zs:List ByteArray) (w:World) (hz:n≤zs.length) (hbig:n * 16≤140737488355328) (hc:∀ j,j < zs.length→w.cell? ⟨b,off + j,none⟩ = some (.string (zs.getD j ByteArray.empty))) :
  Calls Try.prog 25 #[.slice (some ⟨b,off,none⟩) n c] w fun e w' =>∃ v',e = .returned v'∧w'.ownsRow w.heap.size 9 1 v' n ((zs.take n).map (Value.string))∧v'≠.slice none 0 0∧Below w.heap.size w w':=Any.slices_Clone_string Try.laysNm216 b off n c zs w hz hbig hc
open Go.RowKit Go.Lib in
theorem Try.slices_Clone_string_nil (n c:Nat) (w:World) :
  Calls Try.prog 25 #[.slice none n c] w fun e w' =>e = .returned (.slice none 0 0)∧w' = w:=Any.slices_Clone_string_nil Try.laysNm216 n c w
open Go.RowKit Go.Lib in
theorem Try.slices_Clone_string_zero (a:Addr) (c:Nat) (w:World) :
  Calls Try.prog 25 #[.slice (some a) 0 c] w fun e w' =>∃ v',e = .returned v'∧w'.ownsRow w.heap.size 9 1 v' 0 []∧v'≠.slice none 0 0∧Below w.heap.size w w':=Any.slices_Clone_string_zero Try.laysNm216 a c w
def Try.lays194_ren:Go.Shelf.Ren:=⟨fun | 194 =>42 | n =>n,fun | 31 =>28 | 9 =>9 | 3 =>3 | 4 =>4 | 0 =>0 | n =>n,fun | n =>n⟩
theorem Try.lays194:Go.Proofs.Lays.n194 Try.prog Try.lays194_ren:={
 mixed:=by kernel_rfl
 f194:=Try.func42.trans (congrArg some (by kernel_rfl))
 t0:=Try.underlying0
 a0:=Try.isAgg0
 z0:=Try.sizeOf0
 v0:=Try.zeroValue0
 t3:=Try.underlying3
 a3:=Try.isAgg3
 z3:=Try.sizeOf3
 v3:=Try.zeroValue3
 t4:=Try.underlying4
 a4:=Try.isAgg4
 z4:=Try.sizeOf4
 v4:=Try.zeroValue4
 t9:=Try.underlying9
 a9:=Try.isAgg9
 z9:=Try.sizeOf9
 v9:=Try.zeroValue9
 t31:=Try.underlying28
 a31:=Try.isAgg28
 z31:=Try.sizeOf28
 v31:=Try.zeroValue28 }
open Go.RowKit Go.Lib Go.Sort in
theorem Try.slices_Compact_string (blk off cap:Nat) (zs:List (List UInt8)) (w:World) (hH:Holds encStr w blk off zs.toArray) (hsz:zs.length≤9223372036854775807) (hcap:zs.length≤cap) :
  Calls Try.prog 42 #[.slice (some ⟨blk,off,none⟩) zs.length cap] w fun e w' =>e = .returned (.slice (some ⟨blk,off,none⟩) (Lib.compact zs).length cap)∧∃ q,w' = putRow encStr (Sort.ahead w q) blk off (Lib.compact zs ++ List.replicate (zs.length - (Lib.compact zs).length) []).toArray:=Any.slices_Compact_string Try.lays194 blk off cap zs w hH hsz hcap
open Go.RowKit Go.Lib Go.Sort in
theorem Try.slices_Compact_string_empty (a:Option Addr) (cap:Nat) (w:World) :
  Calls Try.prog 42 #[.slice a 0 cap] w fun e w' =>e = .returned (.slice a 0 cap)∧w' = w:=Any.slices_Compact_string_empty Try.lays194 a cap w
open Go.RowKit Go.Sort in
theorem Try.slices_Sort_string_none (p:Option Addr) (cap:Nat) (w:World) :
  Calls Try.prog 41 #[.slice p 0 cap] w fun e w' =>e = .returned (.tuple #[])∧w' = w:=Any.slices_Sort_string_none Try.lays190 p cap w
def Try.laysSlH10_f39_ren:Go.Shelf.Ren:=⟨fun | 10 =>39 | 6 =>55 | n =>n,fun | 22 =>28 | 23 =>9 | 25 =>69 | 3 =>3 | 4 =>4 | 0 =>0 | n =>n,fun | n =>n⟩
theorem Try.laysSlH10_f39:Go.Proofs.SlLaysH.n10 Try.prog Try.laysSlH10_f39_ren:={
 mixed:=by kernel_rfl
 f6:=⟨Try.f55.name,by decide,Try.func55.trans (congrArg some (by kernel_rfl))⟩
 f10:=⟨Try.f39.name,by decide,Try.func39.trans (congrArg some (by kernel_rfl))⟩
 t0:=Try.underlying0
 a0:=Try.isAgg0
 z0:=Try.sizeOf0
 v0:=Try.zeroValue0
 t3:=Try.underlying3
 a3:=Try.isAgg3
 z3:=Try.sizeOf3
 v3:=Try.zeroValue3
 t4:=Try.underlying4
 a4:=Try.isAgg4
 z4:=Try.sizeOf4
 v4:=Try.zeroValue4
 t22:=Try.underlying28
 a22:=Try.isAgg28
 z22:=Try.sizeOf28
 v22:=Try.zeroValue28
 a23:=Try.isAgg9
 z23:=Try.sizeOf9
 t25:=Try.underlying69
 a25:=Try.isAgg69
 z25:=Try.sizeOf69
 v25:=Try.zeroValue69 }
open Go.RowKit Go.Lib Go.Sort in
theorem Try.slices_DeleteFunc {α:Type} [Inhabited α] (enc:α→Value) (hO:OneCell enc) (p:α→Bool) (g:Nat) (lb:Array Value) (eg:∀ args w,(callFunc g args).run Try.prog w = .ok (.enter g args) w) (zr:α) (v23:∀ w,(zeroValue 9).run Try.prog w = .ok (enc zr) w) (blk off cap:Nat) (d:Array α) (w:World) (hp:PredAt Try.prog g lb enc p w) (hpo:PredOver Try.prog g lb enc p blk off d.size w) (hH:Holds enc w blk off d) (hsz:d.size≤9223372036854775807) (hcap:d.size≤cap) :
  Calls Try.prog 39 #[.slice (some ⟨blk,off,none⟩) d.size cap,.func (.func g) #[] lb] w fun e w' =>e = .returned (.slice (some ⟨blk,off,none⟩) (d.toList.filter fun x =>!p x).length cap)∧∃ q,w' = putRow enc (Sort.ahead w q) blk off ((d.toList.filter fun x =>!p x) ++ List.replicate (d.size - (d.toList.filter fun x =>!p x).length) zr).toArray:=AnyE.slices_DeleteFunc Try.laysSlH10_f39 enc hO p g lb eg zr v23 blk off cap d w hp hpo hH hsz hcap
def Try.laysDel_ren:Go.Shelf.Ren:=⟨fun | 10 =>39 | 6 =>55 | n =>n,fun | 22 =>28 | 23 =>9 | 25 =>69 | 3 =>3 | 4 =>4 | 0 =>0 | n =>n,fun | n =>n⟩
theorem Try.laysDel:Go.Proofs.SlLaysH.n10 Try.prog Try.laysDel_ren:={
 mixed:=by kernel_rfl
 f6:=⟨Try.f55.name,by decide,Try.func55.trans (congrArg some (by kernel_rfl))⟩
 f10:=⟨Try.f39.name,by decide,Try.func39.trans (congrArg some (by kernel_rfl))⟩
 t0:=Try.underlying0
 a0:=Try.isAgg0
 z0:=Try.sizeOf0
 v0:=Try.zeroValue0
 t3:=Try.underlying3
 a3:=Try.isAgg3
 z3:=Try.sizeOf3
 v3:=Try.zeroValue3
 t4:=Try.underlying4
 a4:=Try.isAgg4
 z4:=Try.sizeOf4
 v4:=Try.zeroValue4
 t22:=Try.underlying28
 a22:=Try.isAgg28
 z22:=Try.sizeOf28
 v22:=Try.zeroValue28
 a23:=Try.isAgg9
 z23:=Try.sizeOf9
 t25:=Try.underlying69
 a25:=Try.isAgg69
 z25:=Try.sizeOf69
 v25:=Try.zeroValue69 }
end Go.Proofs
namespace Go.Proofs.Ytjiacafeckokeaa.Man
open Go.Lib
section
variable {α:Type} [Inhabited α] [DecidableEq α]
theorem b2K (zs:List α) (x:α):x ∈ compact zs ↔ x ∈ zs:=by
 unfold compact compactUpTo
 simp only [List.mem_map,List.mem_filter,List.mem_range]
 constructor
 ·rintro ⟨j,⟨hj,_⟩,rfl⟩
  have:zs.toArray[j]! = zs[j]:=by simp [hj]
  rw [this];exact List.getElem_mem hj
 ·intro hx
  obtain ⟨j,hj,rfl⟩:=List.getElem_of_mem hx
  have main:∀ j,j < zs.length→∃ a,(a < zs.length∧keeps zs.toArray a = true)∧zs.toArray[a]! = zs.toArray[j]!:=by
   intro j
   induction j with
   | zero =>intro h;exact ⟨0,⟨h,by simp [keeps]⟩,rfl⟩
   | succ j ih =>
    intro h
    by_cases he:zs.toArray[j + 1]! = zs.toArray[j]!
    ·obtain ⟨a,h1,h2⟩:=ih (by omega)
     exact ⟨a,h1,h2.trans he.symm⟩
    ·exact ⟨j + 1,⟨h,keeps_pos (by simpa using he)⟩,rfl⟩
  obtain ⟨a,h1,h2⟩:=main j hj
  exact ⟨a,h1,by rw [h2];simp [hj]⟩
theorem b0E (zs:List α) (le:α→α→Prop) (ha:∀ a b,le a b→le b a→a = b) (hs:∀ i j (hi:i < zs.length) (hj:j < zs.length),i≤j→le zs[i] zs[j]):(compact zs).Pairwise (fun a b =>le a b∧a≠b):=by
 unfold compact compactUpTo
 rw [List.pairwise_map]
 have h0:((List.range zs.length).filter (keeps zs.toArray)).Pairwise (fun a b =>a < b∧(a < zs.length∧b < zs.length)∧keeps zs.toArray b = true):=by
  have h1:((List.range zs.length).filter (keeps zs.toArray)).Pairwise (· < ·):=List.Pairwise.filter _ List.pairwise_lt_range
  refine List.Pairwise.imp_of_mem (fun {a b} h2 h3 h =>⟨h,?_,?_⟩) h1
  ·exact ⟨List.mem_range.1 (List.mem_filter.1 h2).1,List.mem_range.1 (List.mem_filter.1 h3).1⟩
  ·exact (List.mem_filter.1 h3).2
 refine List.Pairwise.imp (fun {a b} h =>?_) h0
 obtain ⟨h1,⟨h2,h3⟩,h4⟩:=h
 have ea:zs.toArray[a]! = zs[a]:=by simp [h2]
 have eb:zs.toArray[b]! = zs[b]:=by simp [h3]
 rw [ea,eb]
 refine ⟨hs a b h2 h3 (by omega),fun e =>?_⟩
 simp only [keeps,decide_eq_true_eq] at h4
 rcases h4 with h4 | h4
 ·omega
 ·apply h4
  have hb1:b - 1 < zs.length:=by omega
  have ec:zs.toArray[b - 1]! = zs[b - 1]:=by simp [hb1]
  rw [eb,ec]
  refine ha _ _ ?_ (hs (b - 1) b hb1 h3 (by omega))
  rw [← e]
  exact hs a (b - 1) h2 hb1 (by omega)
end
end Go.Proofs.Ytjiacafeckokeaa.Man
namespace Go.Proofs.Ytjiacafeckokeaa.Pr
open Go.RowKit Go.Proofs.YtjiacafeckokeaaW.PrintWords Go.Proofs.YtjiacafeckokeaaW.PrintLast Go.Proofs.YtjiacafeckokeaaW.PrintMore
attribute [local go_sem] a4B a3Z a4W a4V a3G a3F a4A a3Y   -- for this text's walks alone
def errW:Option Int→Value
 | none =>.nilIface
 | some c =>.iface 0 (.int .i64 c)
theorem a0T:errW none = .nilIface:=rfl
theorem a0S (c:Int):errW (some c) = .iface 0 (.int .i64 c):=rfl
theorem b1K:(Try.prog.info? 9).map (fun i =>(i.zero,i.size,i.bytes)) = some (some (.string ⟨#[]⟩),1,16):=by kernel_rfl
theorem info32:(Try.prog.info? 32).map (fun i =>(i.zero,i.size,i.bytes)) = some (some (.agg #[(.string ⟨#[]⟩),(.slice none 0 0),(.slice none 0 0)]),3,64):=by kernel_rfl
theorem b3F:(Try.prog.info? 46).map (fun i =>(i.zero,i.size,i.bytes)) = some (some (.agg #[(.int .i64 0),(.string ⟨#[]⟩),(.string ⟨#[]⟩),(.string ⟨#[]⟩),(.slice none 0 0),(.slice none 0 0),(.slice none 0 0),(.slice none 0 0)]),8,152):=by kernel_rfl
theorem b5N:(Try.prog.info? 76).map (fun i =>(i.zero,i.size,i.bytes)) = some (some (.agg #[(.int .i64 0),(.string ⟨#[]⟩),(.int .i64 0)]),3,32):=by kernel_rfl
structure S76 where
 f0:Int
 f1:ByteArray
 f2:Int
def z76:S76:=⟨(0:Int),(⟨#[]⟩:ByteArray),(0:Int)⟩
def k76:Kd S76:=Kd.iso (Kd.pair (Kd.int .i64) (Kd.pair Kd.string (Kd.int .i64))) (fun x:S76 =>(x.f0,x.f1,x.f2))
theorem k76_open {w:World} {x:S76} {cs:List Value} (h:k76.K w x cs):cs = [.int .i64 x.f0,.string x.f1,.int .i64 x.f2]:=by
 obtain ⟨_,_,rfl,rfl,⟨_,_,rfl,rfl,rfl⟩⟩:=h
 exact rfl
theorem b2F (w:World) (base:Nat) (ok:Nat→Prop) (x:S76) :k76.M w base ok x [.int .i64 x.f0,.string x.f1,.int .i64 x.f2]:=⟨[.int .i64 x.f0],[.string x.f1,.int .i64 x.f2],rfl,rfl,⟨[.string x.f1],[.int .i64 x.f2],rfl,rfl,rfl⟩⟩
def a1K (xs:List S76) (i:Int):S76:=xs.getD i.toNat z76
theorem a5Z {w:World} {A:Option Addr} {n:Nat} {xs:List S76} (h:Kd.C k76 w A n xs) (i:Int) (h0:0≤i) (h1:i < n):∃ ad ,A = some ad∧w.cell? (ad.add (i.toNat * 3)) = some (.int .i64 (a1K xs i).f0)∧w.cell? ⟨(ad.add (i.toNat * 3)).block,(ad.add (i.toNat * 3)).off + 1,none⟩ = some (.string (a1K xs i).f1)∧w.cell? ⟨(ad.add (i.toNat * 3)).block,(ad.add (i.toNat * 3)).off + 2,none⟩ = some (.int .i64 (a1K xs i).f2):=by
 obtain ⟨ad,c,e,_,hK,hc0⟩:=Kd.b1T h z76 i h0 h1
 have hc:∀ j u,c[j]? = some u→w.cell? (ad.add (i.toNat * 3 + j)) = some u:=hc0
 obtain rfl:=k76_open hK
 exact ⟨ad,e,hc 0 _ rfl,by rw [← a0W _ _ 1 (by omega)];exact hc 1 _ rfl,by rw [← a0W _ _ 2 (by omega)];exact hc 2 _ rfl⟩
structure S56 where
 f0:Int
 f1:Int
 f2:ByteArray
def z56:S56:=⟨(0:Int),(0:Int),(⟨#[]⟩:ByteArray)⟩
def k56:Kd S56:=Kd.iso (Kd.pair (Kd.int .i64) (Kd.pair (Kd.int .i64) Kd.string)) (fun x:S56 =>(x.f0,x.f1,x.f2))
theorem k56_heap:Kd.Heap k56:=Kd.b3G _ (Kd.a4C (Kd.b0A .i64) (Kd.a4C (Kd.b0A .i64) Kd.a4X))
theorem k56_open {w:World} {x:S56} {cs:List Value} (h:k56.K w x cs):cs = [.int .i64 x.f0,.int .i64 x.f1,.string x.f2]:=by
 obtain ⟨_,_,rfl,rfl,⟨_,_,rfl,rfl,rfl⟩⟩:=h
 exact rfl
theorem k56_mk (w:World) (x:S56) :k56.K w x [.int .i64 x.f0,.int .i64 x.f1,.string x.f2]:=⟨[.int .i64 x.f0],[.int .i64 x.f1,.string x.f2],rfl,rfl,⟨[.int .i64 x.f1],[.string x.f2],rfl,rfl,rfl⟩⟩
theorem k56_mkM (w:World) (base:Nat) (ok:Nat→Prop) (x:S56) :k56.M w base ok x [.int .i64 x.f0,.int .i64 x.f1,.string x.f2]:=⟨[.int .i64 x.f0],[.int .i64 x.f1,.string x.f2],rfl,rfl,⟨[.int .i64 x.f1],[.string x.f2],rfl,rfl,rfl⟩⟩
def a1R (xs:List S56) (i:Int):S56:=xs.getD i.toNat z56
theorem a6T {w:World} {A:Option Addr} {n:Nat} {xs:List S56} (h:Kd.C k56 w A n xs) (i:Int) (h0:0≤i) (h1:i < n):∃ ad ,A = some ad∧w.cell? (ad.add (i.toNat * 3)) = some (.int .i64 (a1R xs i).f0)∧w.cell? ⟨(ad.add (i.toNat * 3)).block,(ad.add (i.toNat * 3)).off + 1,none⟩ = some (.int .i64 (a1R xs i).f1)∧w.cell? ⟨(ad.add (i.toNat * 3)).block,(ad.add (i.toNat * 3)).off + 2,none⟩ = some (.string (a1R xs i).f2):=by
 obtain ⟨ad,c,e,_,hK,hc0⟩:=Kd.b1T h z56 i h0 h1
 have hc:∀ j u,c[j]? = some u→w.cell? (ad.add (i.toNat * 3 + j)) = some u:=hc0
 obtain rfl:=k56_open hK
 exact ⟨ad,e,hc 0 _ rfl,by rw [← a0W _ _ 1 (by omega)];exact hc 1 _ rfl,by rw [← a0W _ _ 2 (by omega)];exact hc 2 _ rfl⟩
structure S46 where
 f0:Int
 f1:ByteArray
 f2:ByteArray
 f3:ByteArray
 f4:(List S56)
 f5:(List ByteArray)
 f6:(List S46)
 f7:(List S46)
def z46:S46:=⟨(0:Int),(⟨#[]⟩:ByteArray),(⟨#[]⟩:ByteArray),(⟨#[]⟩:ByteArray),([]:List S56),([]:List ByteArray),([]:List S46),([]:List S46)⟩
def F46 (d:Kd S46):Kd S46:=Kd.iso (Kd.pair (Kd.int .i64) (Kd.pair Kd.string (Kd.pair Kd.string (Kd.pair Kd.string (Kd.pair (Kd.slice 56 k56) (Kd.pair (Kd.slice 9 Kd.string) (Kd.pair (Kd.slice 46 d) (Kd.slice 46 d)))))))) (fun x:S46 =>(x.f0,x.f1,x.f2,x.f3,x.f4,x.f5,x.f6,x.f7))
theorem b3C:Kd.Mono F46:=Kd.mono_iso _ (Kd.a4U (Kd.a4S _) (Kd.a4U (Kd.a4S _) (Kd.a4U (Kd.a4S _) (Kd.a4U (Kd.a4S _) (Kd.a4U (Kd.a4S _) (Kd.a4U (Kd.a4S _) (Kd.a4U (Kd.a9G 46 Kd.b5K) (Kd.a9G 46 Kd.b5K))))))))
theorem sub46:Kd.Sub F46 [9,46,56]:=Kd.sub_iso _ (Kd.a5Q (Kd.a5J _ (by decide)) (Kd.a5Q (Kd.a5J _ (by decide)) (Kd.a5Q (Kd.a5J _ (by decide)) (Kd.a5Q (Kd.a5J _ (by decide)) (Kd.a5Q (Kd.a5J _ (by decide)) (Kd.a5Q (Kd.a5J _ (by decide)) (Kd.a5Q (Kd.b0V 46 (by decide) Kd.sub_id) (Kd.b0V 46 (by decide) Kd.sub_id))))))))
theorem sz46:∀ n,(Kd.upto F46 8 [9,46,56] n).sz = 8:=Kd.upto_sz (fun _ =>rfl)
def k46:Kd S46:=Kd.fix F46 8 [9,46,56] sz46 (Kd.upto_E sub46)
theorem a6M:Kd.Heap k46:=Kd.heap_fix (fun _ h_ =>Kd.b3G _ (Kd.a4C (Kd.b0A .i64) (Kd.a4C Kd.a4X (Kd.a4C Kd.a4X (Kd.a4C Kd.a4X (Kd.a4C (Kd.a6N 56 k56_heap) (Kd.a4C (Kd.a6N 9 Kd.a4X) (Kd.a4C (Kd.a6N 46 h_) (Kd.a6N 46 h_)))))))))
theorem a3R {w:World} {x:S46} {cs:List Value} (h:k46.K w x cs):∃ A4 c4 A5 c5 A6 c6 A7 c7,cs = [.int .i64 x.f0,.string x.f1,.string x.f2,.string x.f3,.slice A4 x.f4.length c4,.slice A5 x.f5.length c5,.slice A6 x.f6.length c6,.slice A7 x.f7.length c7]∧x.f4.length≤c4∧k56.C w A4 x.f4.length x.f4∧x.f5.length≤c5∧Kd.string.C w A5 x.f5.length x.f5∧x.f6.length≤c6∧k46.C w A6 x.f6.length x.f6∧x.f7.length≤c7∧k46.C w A7 x.f7.length x.f7:=by
 obtain ⟨n,h⟩:=h
 cases n with
 | zero =>exact h.elim
 | succ n =>
  obtain ⟨_,_,rfl,rfl,⟨_,_,rfl,rfl,⟨_,_,rfl,rfl,⟨_,_,rfl,rfl,⟨_,_,rfl,⟨A4,c4,rfl,l4,g4⟩,⟨_,_,rfl,⟨A5,c5,rfl,l5,g5⟩,⟨_,_,rfl,⟨A6,c6,rfl,l6,g6⟩,⟨A7,c7,rfl,l7,g7⟩⟩⟩⟩⟩⟩⟩⟩:=h
  exact ⟨A4,c4,A5,c5,A6,c6,A7,c7,rfl,l4,g4,l5,g5,l6,Kd.fix_C g6,l7,Kd.fix_C g7⟩
theorem k46_mk (w:World) (x:S46) {A4:Option Addr} {c4:Nat} (l4:x.f4.length≤c4) (g4:k56.C w A4 x.f4.length x.f4) {A5:Option Addr} {c5:Nat} (l5:x.f5.length≤c5) (g5:Kd.string.C w A5 x.f5.length x.f5) {A6:Option Addr} {c6:Nat} (l6:x.f6.length≤c6) (g6:k46.C w A6 x.f6.length x.f6) {A7:Option Addr} {c7:Nat} (l7:x.f7.length≤c7) (g7:k46.C w A7 x.f7.length x.f7):k46.K w x [.int .i64 x.f0,.string x.f1,.string x.f2,.string x.f3,.slice A4 x.f4.length c4,.slice A5 x.f5.length c5,.slice A6 x.f6.length c6,.slice A7 x.f7.length c7]:=by
 obtain ⟨n6,q6⟩:=Kd.a9I b3C g6
 obtain ⟨n7,q7⟩:=Kd.a9I b3C g7
 have r6:=Kd.b0T b3C sz46 (show n6≤(max n6 n7) by omega) q6
 have r7:=Kd.b0T b3C sz46 (show n7≤(max n6 n7) by omega) q7
 exact ⟨(max n6 n7) + 1,⟨[.int .i64 x.f0],[.string x.f1,.string x.f2,.string x.f3,.slice A4 x.f4.length c4,.slice A5 x.f5.length c5,.slice A6 x.f6.length c6,.slice A7 x.f7.length c7],rfl,rfl,⟨[.string x.f1],[.string x.f2,.string x.f3,.slice A4 x.f4.length c4,.slice A5 x.f5.length c5,.slice A6 x.f6.length c6,.slice A7 x.f7.length c7],rfl,rfl,⟨[.string x.f2],[.string x.f3,.slice A4 x.f4.length c4,.slice A5 x.f5.length c5,.slice A6 x.f6.length c6,.slice A7 x.f7.length c7],rfl,rfl,⟨[.string x.f3],[.slice A4 x.f4.length c4,.slice A5 x.f5.length c5,.slice A6 x.f6.length c6,.slice A7 x.f7.length c7],rfl,rfl,⟨[.slice A4 x.f4.length c4],[.slice A5 x.f5.length c5,.slice A6 x.f6.length c6,.slice A7 x.f7.length c7],rfl,⟨A4,c4,rfl,l4,g4⟩,⟨[.slice A5 x.f5.length c5],[.slice A6 x.f6.length c6,.slice A7 x.f7.length c7],rfl,⟨A5,c5,rfl,l5,g5⟩,⟨[.slice A6 x.f6.length c6],[.slice A7 x.f7.length c7],rfl,⟨A6,c6,rfl,l6,r6⟩,⟨A7,c7,rfl,l7,r7⟩⟩⟩⟩⟩⟩⟩⟩⟩
theorem a2H {W:World} {ok:Nat→Prop} {x:S46} {cs:List Value} (h:Kd.FK k46 W ok x cs):∃ A4 c4 A5 c5 A6 c6 A7 c7,cs = [.int .i64 x.f0,.string x.f1,.string x.f2,.string x.f3,.slice A4 x.f4.length c4,.slice A5 x.f5.length c5,.slice A6 x.f6.length c6,.slice A7 x.f7.length c7]∧x.f4.length≤c4∧Kd.F k56 W ok A4 x.f4.length x.f4∧x.f5.length≤c5∧Kd.F Kd.string W ok A5 x.f5.length x.f5∧x.f6.length≤c6∧Kd.F k46 W ok A6 x.f6.length x.f6∧x.f7.length≤c7∧Kd.F k46 W ok A7 x.f7.length x.f7:=by
 obtain ⟨A4,c4,A5,c5,A6,c6,A7,c7,rfl,l4,_,l5,_,l6,_,l7,_⟩:=a3R (Kd.a5F h)
 exact ⟨A4,c4,A5,c5,A6,c6,A7,c7,rfl,l4,(fun W' hW =>by obtain ⟨A4_,c4_,A5_,c5_,A6_,c6_,A7_,c7_,he,l4_,g4_,l5_,g5_,l6_,g6_,l7_,g7_⟩:=a3R (h W' hW);injection (Option.some.inj (show some (Value.slice A4 x.f4.length c4) = some (Value.slice A4_ x.f4.length c4_) from congrArg (fun l =>l[4]?) he)) with ha_ _ _;rw [ha_];exact g4_),l5,(fun W' hW =>by obtain ⟨A4_,c4_,A5_,c5_,A6_,c6_,A7_,c7_,he,l4_,g4_,l5_,g5_,l6_,g6_,l7_,g7_⟩:=a3R (h W' hW);injection (Option.some.inj (show some (Value.slice A5 x.f5.length c5) = some (Value.slice A5_ x.f5.length c5_) from congrArg (fun l =>l[5]?) he)) with ha_ _ _;rw [ha_];exact g5_),l6,(fun W' hW =>by obtain ⟨A4_,c4_,A5_,c5_,A6_,c6_,A7_,c7_,he,l4_,g4_,l5_,g5_,l6_,g6_,l7_,g7_⟩:=a3R (h W' hW);injection (Option.some.inj (show some (Value.slice A6 x.f6.length c6) = some (Value.slice A6_ x.f6.length c6_) from congrArg (fun l =>l[6]?) he)) with ha_ _ _;rw [ha_];exact g6_),l7,(fun W' hW =>by obtain ⟨A4_,c4_,A5_,c5_,A6_,c6_,A7_,c7_,he,l4_,g4_,l5_,g5_,l6_,g6_,l7_,g7_⟩:=a3R (h W' hW);injection (Option.some.inj (show some (Value.slice A7 x.f7.length c7) = some (Value.slice A7_ x.f7.length c7_) from congrArg (fun l =>l[7]?) he)) with ha_ _ _;rw [ha_];exact g7_)⟩
theorem b5M (W:World) (ok:Nat→Prop) (x:S46) {A4:Option Addr} {c4:Nat} (l4:x.f4.length≤c4) (g4:Kd.F k56 W ok A4 x.f4.length x.f4) {A5:Option Addr} {c5:Nat} (l5:x.f5.length≤c5) (g5:Kd.F Kd.string W ok A5 x.f5.length x.f5) {A6:Option Addr} {c6:Nat} (l6:x.f6.length≤c6) (g6:Kd.F k46 W ok A6 x.f6.length x.f6) {A7:Option Addr} {c7:Nat} (l7:x.f7.length≤c7) (g7:Kd.F k46 W ok A7 x.f7.length x.f7):Kd.FK k46 W ok x [.int .i64 x.f0,.string x.f1,.string x.f2,.string x.f3,.slice A4 x.f4.length c4,.slice A5 x.f5.length c5,.slice A6 x.f6.length c6,.slice A7 x.f7.length c7]:=fun W2 hW =>k46_mk W2 x l4 (g4 W2 hW) l5 (g5 W2 hW) l6 (g6 W2 hW) l7 (g7 W2 hW)
def a0J (xs:List S46) (i:Int):S46:=xs.getD i.toNat z46
theorem a3C {w:World} {A:Option Addr} {n:Nat} {xs:List S46} (h:Kd.C k46 w A n xs) (i:Int) (h0:0≤i) (h1:i < n):∃ ad A4 c4 A5 c5 A6 c6 A7 c7,A = some ad∧w.cell? (ad.add (i.toNat * 8)) = some (.int .i64 (a0J xs i).f0)∧w.cell? ⟨(ad.add (i.toNat * 8)).block,(ad.add (i.toNat * 8)).off + 1,none⟩ = some (.string (a0J xs i).f1)∧w.cell? ⟨(ad.add (i.toNat * 8)).block,(ad.add (i.toNat * 8)).off + 2,none⟩ = some (.string (a0J xs i).f2)∧w.cell? ⟨(ad.add (i.toNat * 8)).block,(ad.add (i.toNat * 8)).off + 3,none⟩ = some (.string (a0J xs i).f3)∧w.cell? ⟨(ad.add (i.toNat * 8)).block,(ad.add (i.toNat * 8)).off + 4,none⟩ = some (.slice A4 (a0J xs i).f4.length c4)∧w.cell? ⟨(ad.add (i.toNat * 8)).block,(ad.add (i.toNat * 8)).off + 5,none⟩ = some (.slice A5 (a0J xs i).f5.length c5)∧w.cell? ⟨(ad.add (i.toNat * 8)).block,(ad.add (i.toNat * 8)).off + 6,none⟩ = some (.slice A6 (a0J xs i).f6.length c6)∧w.cell? ⟨(ad.add (i.toNat * 8)).block,(ad.add (i.toNat * 8)).off + 7,none⟩ = some (.slice A7 (a0J xs i).f7.length c7)∧(a0J xs i).f4.length≤c4∧k56.C w A4 (a0J xs i).f4.length (a0J xs i).f4∧(a0J xs i).f5.length≤c5∧Kd.string.C w A5 (a0J xs i).f5.length (a0J xs i).f5∧(a0J xs i).f6.length≤c6∧k46.C w A6 (a0J xs i).f6.length (a0J xs i).f6∧(a0J xs i).f7.length≤c7∧k46.C w A7 (a0J xs i).f7.length (a0J xs i).f7:=by
 obtain ⟨ad,c,e,_,hK,hc0⟩:=Kd.b1T h z46 i h0 h1
 have hc:∀ j u,c[j]? = some u→w.cell? (ad.add (i.toNat * 8 + j)) = some u:=hc0
 obtain ⟨A4,c4,A5,c5,A6,c6,A7,c7,rfl,l4,g4,l5,g5,l6,g6,l7,g7⟩:=a3R hK
 exact ⟨ad,A4,c4,A5,c5,A6,c6,A7,c7,e,hc 0 _ rfl,by rw [← a0W _ _ 1 (by omega)];exact hc 1 _ rfl,by rw [← a0W _ _ 2 (by omega)];exact hc 2 _ rfl,by rw [← a0W _ _ 3 (by omega)];exact hc 3 _ rfl,by rw [← a0W _ _ 4 (by omega)];exact hc 4 _ rfl,by rw [← a0W _ _ 5 (by omega)];exact hc 5 _ rfl,by rw [← a0W _ _ 6 (by omega)];exact hc 6 _ rfl,by rw [← a0W _ _ 7 (by omega)];exact hc 7 _ rfl,l4,g4,l5,g5,l6,g6,l7,g7⟩
structure S32 where
 f0:ByteArray
 f1:(List ByteArray)
 f2:(List S46)
def z32:S32:=⟨(⟨#[]⟩:ByteArray),([]:List ByteArray),([]:List S46)⟩
def k32:Kd S32:=Kd.iso (Kd.pair Kd.string (Kd.pair (Kd.slice 9 Kd.string) (Kd.slice 46 k46))) (fun x:S32 =>(x.f0,x.f1,x.f2))
theorem k32_open {w:World} {x:S32} {cs:List Value} (h:k32.K w x cs):∃ A1 c1 A2 c2,cs = [.string x.f0,.slice A1 x.f1.length c1,.slice A2 x.f2.length c2]∧x.f1.length≤c1∧Kd.string.C w A1 x.f1.length x.f1∧x.f2.length≤c2∧k46.C w A2 x.f2.length x.f2:=by
 obtain ⟨_,_,rfl,rfl,⟨_,_,rfl,⟨A1,c1,rfl,l1,g1⟩,⟨A2,c2,rfl,l2,g2⟩⟩⟩:=h
 exact ⟨A1,c1,A2,c2,rfl,l1,g1,l2,g2⟩
theorem k32_mk (w:World) (x:S32) {A1:Option Addr} {c1:Nat} (l1:x.f1.length≤c1) (g1:Kd.string.C w A1 x.f1.length x.f1) {A2:Option Addr} {c2:Nat} (l2:x.f2.length≤c2) (g2:k46.C w A2 x.f2.length x.f2):k32.K w x [.string x.f0,.slice A1 x.f1.length c1,.slice A2 x.f2.length c2]:=⟨[.string x.f0],[.slice A1 x.f1.length c1,.slice A2 x.f2.length c2],rfl,rfl,⟨[.slice A1 x.f1.length c1],[.slice A2 x.f2.length c2],rfl,⟨A1,c1,rfl,l1,g1⟩,⟨A2,c2,rfl,l2,g2⟩⟩⟩
theorem k32_mkF (W:World) (ok:Nat→Prop) (x:S32) {A1:Option Addr} {c1:Nat} (l1:x.f1.length≤c1) (g1:Kd.F Kd.string W ok A1 x.f1.length x.f1) {A2:Option Addr} {c2:Nat} (l2:x.f2.length≤c2) (g2:Kd.F k46 W ok A2 x.f2.length x.f2):Kd.FK k32 W ok x [.string x.f0,.slice A1 x.f1.length c1,.slice A2 x.f2.length c2]:=fun W2 hW =>k32_mk W2 x l1 (g1 W2 hW) l2 (g2 W2 hW)
def a0P (xs:List S32) (i:Int):S32:=xs.getD i.toNat z32
theorem a3N {w:World} {A:Option Addr} {n:Nat} {xs:List S32} (h:Kd.C k32 w A n xs) (i:Int) (h0:0≤i) (h1:i < n):∃ ad A1 c1 A2 c2,A = some ad∧w.cell? (ad.add (i.toNat * 3)) = some (.string (a0P xs i).f0)∧w.cell? ⟨(ad.add (i.toNat * 3)).block,(ad.add (i.toNat * 3)).off + 1,none⟩ = some (.slice A1 (a0P xs i).f1.length c1)∧w.cell? ⟨(ad.add (i.toNat * 3)).block,(ad.add (i.toNat * 3)).off + 2,none⟩ = some (.slice A2 (a0P xs i).f2.length c2)∧(a0P xs i).f1.length≤c1∧Kd.string.C w A1 (a0P xs i).f1.length (a0P xs i).f1∧(a0P xs i).f2.length≤c2∧k46.C w A2 (a0P xs i).f2.length (a0P xs i).f2:=by
 obtain ⟨ad,c,e,_,hK,hc0⟩:=Kd.b1T h z32 i h0 h1
 have hc:∀ j u,c[j]? = some u→w.cell? (ad.add (i.toNat * 3 + j)) = some u:=hc0
 obtain ⟨A1,c1,A2,c2,rfl,l1,g1,l2,g2⟩:=k32_open hK
 exact ⟨ad,A1,c1,A2,c2,e,hc 0 _ rfl,by rw [← a0W _ _ 1 (by omega)];exact hc 1 _ rfl,by rw [← a0W _ _ 2 (by omega)];exact hc 2 _ rfl,l1,g1,l2,g2⟩
end Go.Proofs.Ytjiacafeckokeaa.Pr
namespace Go.Proofs.Ytjiacafeckokeaa.Man
open Go.RowKit Go.Shelf Go.Proofs.Ytjiacafeckokeaa.Pr Go.Proofs.YtjiacafeckokeaaW.PrintWords
attribute [local go_sem] Oper.semAt_some
def flat:List S46→List S46
 | [] =>[]
 | s :: r =>s :: (flat s.f6 ++ (flat s.f7 ++ flat r))
termination_by l =>SizeOf.sizeOf l
decreasing_by
 all_goals (obtain ⟨f0,f1,f2,f3,f4,f5,f6,f7⟩:=s;simp;omega)
def rowOf (bx:Option Nat) (W:World):Option Nat:=bx.bind fun b =>(W.cell? ⟨b,0,none⟩).bind Value.ownBlock
def Good (bx:Option Nat) (W:World):Prop:=∀ k,rowOf bx W = some k→k < W.heap.size
def Kp (n0 B:Nat) (bx:Option Nat) (W W':World):Prop :=
 Below n0 W W'∧(Good bx W→Good bx W'∧(rowOf bx W' = rowOf bx W∨∀ k,rowOf bx W' = some k→W.heap.size≤k) ∧
  ∀ k c,B≤k→W.heap[k]? = some c→c.isCells = true→rowOf bx W≠some k→W'.heap[k]? = some c)
theorem Kp.refl (n0 B:Nat) (bx:Option Nat) (W:World):Kp n0 B bx W W :=
 ⟨Below.refl _ _,fun h =>⟨h,.inl rfl,fun _ _ _ h _ _ =>h⟩⟩
theorem Kp.trans {n0 B:Nat} {bx:Option Nat} {X Y Z:World} (h:Kp n0 B bx X Y) (k:Kp n0 B bx Y Z):Kp n0 B bx X Z:=by
 refine ⟨h.1.trans k.1,fun hg =>?_⟩
 obtain ⟨g1,r1,c1⟩:=h.2 hg
 obtain ⟨g2,r2,c2⟩:=k.2 g1
 have hs:X.heap.size≤Y.heap.size:=h.1.size
 refine ⟨g2,?_,?_⟩
 ·rcases r2 with r2 | r2
  ·rw [r2];exact r1
  ·exact .inr fun j hj =>Nat.le_trans hs (r2 j hj)
 ·intro j c hB hc hcc hne
  have hlt:j < X.heap.size:=(Array.getElem?_eq_some_iff.1 hc).1
  refine c2 j c hB (c1 j c hB hc hcc hne) hcc ?_
  rcases r1 with r1 | r1
  ·rw [r1];exact hne
  ·intro e;have:=r1 j e;omega
theorem Kp.putObj {n0 B:Nat} {bx:Option Nat} (hn:n0≤B) (hb:∀ b,bx = some b→b < B) (W:World) (l:Nat) (o o':Obj) (hl:B≤l) (h:W.heap[l]? = some o) (ho:o.isCells = false) (_:o.isWalk = false):Kp n0 B bx W (W.putObj l o'):=by
 have hlt:l < W.heap.size:=(Array.getElem?_eq_some_iff.1 h).1
 have hoth:∀ j,j≠l→(W.putObj l o').heap[j]? = W.heap[j]?:=fun j hj =>World.putObj_heap_other hj
 have hrow:rowOf bx (W.putObj l o') = rowOf bx W:=by
  unfold rowOf
  cases bx with
  | none =>rfl
  | some b =>
   have hb':=hb b rfl
   simp only [Option.bind_some]
   rw [show (W.putObj l o').cell? ⟨b,0,none⟩ = W.cell? ⟨b,0,none⟩ from World.cell?_of_block (hoth b (by omega))]
 have hsz:W.heap.size≤(W.putObj l o').heap.size:=(grownBy_putObj' W l o').size
 refine ⟨(Below.refl n0 W).grown (grownBy_putObj' W l o') (by omega) (fun k e =>by cases e;omega),fun hg =>⟨fun k hk =>?_,.inl hrow,fun k c hB hc hcc _ =>?_⟩⟩
 ·rw [hrow] at hk;exact Nat.lt_of_lt_of_le (hg k hk) hsz
 ·rw [hoth k ?_];exact hc
  intro e;subst e;rw [h] at hc;cases hc;rw [ho] at hcc;cases hcc
theorem a6W (bx:Option Nat) (W:World) (o:Obj) (hb:∀ b,bx = some b→b < W.heap.size):rowOf bx (W.alloc o) = rowOf bx W:=by
 unfold rowOf
 cases bx with
 | none =>rfl
 | some b =>simp only [Option.bind_some];rw [World.cell?_of_block (Below.heap_alloc W o b (hb b rfl))]
theorem Kp.alloc {n0 B:Nat} {bx:Option Nat} {X W:World} (h:Kp n0 B bx X W) (o:Obj) (hn:n0≤W.heap.size) (hb:∀ b,bx = some b→b < W.heap.size):Kp n0 B bx X (W.alloc o):=by
 refine h.trans ⟨(Below.refl _ _).alloc hn o,fun hg =>⟨fun k hk =>?_,.inl (a6W bx W o hb),fun k c hB hc _ _ =>?_⟩⟩
 ·rw [a6W bx W o hb] at hk;have:=hg k hk;simp;omega
 ·rw [Below.heap_alloc W o k (Array.getElem?_eq_some_iff.1 hc).1];exact hc
abbrev Elt (w:World) (P:Nat→Prop) (T:S46→Prop):Type:={ p:S46 × List Value // Kd.FK k46 w P p.1 p.2∧T p.1 }
def encE {w:World} {P:Nat→Prop} {T:S46→Prop} (x:Elt w P T):Array Value:=#[.agg x.1.2.toArray]
open Go.RowKit Go.Shelf Go.Proofs.Ytjiacafeckokeaa.Pr Go.Proofs.YtjiacafeckokeaaW.PrintWords
attribute [local go_sem] Oper.semAt_some
theorem a2Z (l:List S46) (k:Nat) (h:k < l.length):flat (l.take (k + 1)) = flat (l.take k) ++ (l[k] :: (flat l[k].f6 ++ flat l[k].f7)):=by
 induction l generalizing k with
 | nil =>simp at h
 | cons s r ih =>
  cases k with
  | zero =>simp [flat]
  | succ k =>simp [flat,ih k (by simpa using h)]
theorem a4Z (a b:List S46):flat (a ++ b) = flat a ++ flat b:=by
 induction a with
 | nil =>simp [flat]
 | cons s r ih =>simp [flat,ih]
theorem b3H (l:List S46) (k:Nat) (h:k < l.length):(flat (l.take k)).length + (1 + ((flat (a0J l k).f6).length + (flat (a0J l k).f7).length))≤(flat l).length:=by
 have h1:=a2Z l k h
 have h2:flat l = flat (l.take (k + 1)) ++ flat (l.drop (k + 1)):=by rw [← a4Z,List.take_append_drop]
 have h3:a0J l k = l[k]:=by simp [a0J,List.getD,h]
 rw [h2,h1,h3]
 simp;omega
theorem a6O (l:List S46) (k:Nat) (h:k < l.length) (s:S46) (hs:s ∈ a0J l k :: (flat (a0J l k).f6 ++ flat (a0J l k).f7)):s ∈ flat l:=by
 have h1:=a2Z l k h
 have h2:flat l = flat (l.take (k + 1)) ++ flat (l.drop (k + 1)):=by rw [← a4Z,List.take_append_drop]
 have h3:a0J l k = l[k]:=by simp [a0J,List.getD,h]
 rw [h3] at hs
 rw [h2,h1]
 exact List.mem_append_left _ (List.mem_append_right _ hs)
theorem a8A (l:List S46) (k:Nat) (h:k < l.length):SizeOf.sizeOf (a0J l k).f6 < SizeOf.sizeOf l∧SizeOf.sizeOf (a0J l k).f7 < SizeOf.sizeOf l:=by
 have h3:a0J l k = l[k]:=by simp [a0J,List.getD,h]
 have h4:=List.sizeOf_lt_of_mem (List.getElem_mem h)
 rw [h3]
 generalize l[k] = s at h4
 obtain ⟨f0,f1,f2,f3,f4,f5,f6,f7⟩:=s
 simp at h4
 simp;omega
theorem Kp.keep {n0 B:Nat} {bx:Option Nat} {W W':World} (h:Kp n0 B bx W W') (hg:Good bx W) {k:Nat} {c:Array Value} {t:TypeId} (hB:B≤k) (hc:W.heap[k]? = some (.cells c t (0,0))) (hne:rowOf bx W≠some k) :
  W'.heap[k]? = some (.cells c t (0,0))∧rowOf bx W'≠some k:=by
 obtain ⟨g1,r1,c1⟩:=h.2 hg
 refine ⟨c1 k _ hB hc rfl hne,?_⟩
 have hlt:k < W.heap.size:=(Array.getElem?_eq_some_iff.1 hc).1
 rcases r1 with r1 | r1
 ·rw [r1];exact hne
 ·intro e;have:=r1 k e;omega
theorem a1T {W:World} {k:Nat} {c:Array Value} {t:TypeId} (hc:W.heap[k]? = some (.cells c t (0,0))) (j:Nat):W.cell? ⟨k,j,none⟩ = c[j]?:=by
 simp [World.cell?,hc]
theorem atF {w:World} {P:Nat→Prop} {A:Option Addr} {xs:List S46} (h:Kd.F k46 w P A xs.length xs) (k:Nat) (hk:k < xs.length):∃ ad A4 c4 A5 c5 A6 c6 A7 c7,A = some ad∧w.cell? (ad.add (k * 8)) = some (.int .i64 (a0J xs k).f0) ∧
  w.cell? ⟨(ad.add (k * 8)).block,(ad.add (k * 8)).off + 1,none⟩ = some (.string (a0J xs k).f1)∧w.cell? ⟨(ad.add (k * 8)).block,(ad.add (k * 8)).off + 2,none⟩ = some (.string (a0J xs k).f2) ∧
  w.cell? ⟨(ad.add (k * 8)).block,(ad.add (k * 8)).off + 3,none⟩ = some (.string (a0J xs k).f3)∧w.cell? ⟨(ad.add (k * 8)).block,(ad.add (k * 8)).off + 4,none⟩ = some (.slice A4 (a0J xs k).f4.length c4) ∧
  w.cell? ⟨(ad.add (k * 8)).block,(ad.add (k * 8)).off + 5,none⟩ = some (.slice A5 (a0J xs k).f5.length c5)∧w.cell? ⟨(ad.add (k * 8)).block,(ad.add (k * 8)).off + 6,none⟩ = some (.slice A6 (a0J xs k).f6.length c6) ∧
  w.cell? ⟨(ad.add (k * 8)).block,(ad.add (k * 8)).off + 7,none⟩ = some (.slice A7 (a0J xs k).f7.length c7)∧(a0J xs k).f4.length≤c4∧Kd.F k56 w P A4 (a0J xs k).f4.length (a0J xs k).f4 ∧
  (a0J xs k).f5.length≤c5∧Kd.F Kd.string w P A5 (a0J xs k).f5.length (a0J xs k).f5∧(a0J xs k).f6.length≤c6∧Kd.F k46 w P A6 (a0J xs k).f6.length (a0J xs k).f6 ∧
  (a0J xs k).f7.length≤c7∧Kd.F k46 w P A7 (a0J xs k).f7.length (a0J xs k).f7 ∧
  Kd.FK k46 w P (a0J xs k) [.int .i64 (a0J xs k).f0,.string (a0J xs k).f1,.string (a0J xs k).f2,.string (a0J xs k).f3,.slice A4 (a0J xs k).f4.length c4,.slice A5 (a0J xs k).f5.length c5,.slice A6 (a0J xs k).f6.length c6,.slice A7 (a0J xs k).f7.length c7]:=by
 obtain ⟨ad,_,e,_⟩:=Kd.b1T (Kd.a8V h) z46 (k:Int) (by omega) (by omega)
 subst e
 have hV:Kd.V k46 46 w 0 P (.slice (some ad) xs.length xs.length) xs:=Kd.V_mk (Nat.le_refl _) h
 obtain ⟨c,hcl,hFK,hcc⟩:=Kd.V_get hV z46 (k:Int) (by omega) (by omega)
 simp only [Int.toNat_natCast] at hFK hcc
 replace hcc:∀ j u,c[j]? = some u→w.cell? (ad.add (k * 8 + j)) = some u:=hcc
 replace hFK:Kd.FK k46 w P (a0J xs k) c:=hFK
 have hFK':=hFK
 obtain ⟨A4,c4,A5,c5,A6,c6,A7,c7,rfl,l4,g4,l5,g5,l6,g6,l7,g7⟩:=a2H hFK
 exact ⟨ad,A4,c4,A5,c5,A6,c6,A7,c7,rfl,hcc 0 _ rfl,by rw [← a0W _ _ 1 (by omega)];exact hcc 1 _ rfl,by rw [← a0W _ _ 2 (by omega)];exact hcc 2 _ rfl,by rw [← a0W _ _ 3 (by omega)];exact hcc 3 _ rfl,
  by rw [← a0W _ _ 4 (by omega)];exact hcc 4 _ rfl,by rw [← a0W _ _ 5 (by omega)];exact hcc 5 _ rfl,by rw [← a0W _ _ 6 (by omega)];exact hcc 6 _ rfl,by rw [← a0W _ _ 7 (by omega)];exact hcc 7 _ rfl,l4,g4,l5,g5,l6,g6,l7,g7,hFK'⟩
set_option maxRecDepth 100000 in
set_option maxHeartbeats 2000000 in
theorem all_in (w:World) (P:Nat→Prop) (T:S46→Prop) (l:Nat) (B N:Nat) (bx:Option Nat) (hn:w.heap.size≤B) (hb:∀ b,bx = some b→b < B) (J Jx:List (Elt w P T)→World→Prop)
  (hY:∀ m pre x W,J pre W→pre.length < N→YieldAt Fence.wide m Try.prog l (encE x) W fun e W' =>
   (e = .returned (.bool true)∧J (pre ++ [x]) W'∧Kp w.heap.size B bx W W')∨(e = .returned (.bool false)∧Jx (pre ++ [x]) W'))
  (hJ:∀ pre W W',J pre W→W.grownBy W' none→J pre W') :
  ∀ (m:Nat) (xs:List S46),SizeOf.sizeOf xs < m→∀ (n:Nat) (A:Option Addr) (c:Nat) (pre:List (Elt w P T)) (W:World),xs.length≤c→(∀ s,s ∈ flat xs→T s)→Kd.F k46 w P A xs.length xs→J pre W→Below w.heap.size w W→Good bx W→B≤W.heap.size→pre.length + (flat xs).length≤N →
   CallsIn Fence.wide n Try.prog 38 #[.slice A xs.length c,.func (.yield l) #[] #[]] W fun e W' =>
    (e = .returned (.bool true)∧∃ es:List (Elt w P T),es.map (·.1.1) = flat xs∧J (pre ++ es) W'∧Kp w.heap.size B bx W W') ∨
    (e = .returned (.bool false)∧∃ (es:List (Elt w P T)) (q:List S46),es.map (·.1.1) ++ q = flat xs∧Jx (pre ++ es) W'):=by
 intro m
 induction m with
 | zero =>intro xs h;omega
 | succ m ih =>
 intro xs hsz n A c pre W hlc hT hC hJ0 hBe hG hBW hN
 have hdd:∀ k:Nat,(Fence.wide.depth.isSome = true→1≤k):=fun k h =>by simp [Fence.wide] at h
 have hlen:xs.length≤9223372036854775807:=Kd.F_max hC
 refine callsIn_of_wp Try.func38 rfl trivial ?_ rfl
 simp only [Try.ntmps38,List.size_toArray,List.length_cons,List.length_nil,Nat.reduceAdd,Nat.reduceSub,Array.replicate_succ,Array.replicate_zero,List.push_toArray,List.append_toArray,List.nil_append,List.cons_append]
 have IH:=Lib.hid ih
 have HY:=Lib.hid hY
 have HJ:=Lib.hid hJ
 have HC:=Lib.hid hC
 have HG:=Lib.hid hG
 have HT:=Lib.hid hT
 clear ih hY hJ hC hG hT
 gi_wp2
 gi_loopw [9] (fun i wr =>∃ (k:Nat) (es:List (Elt w P T)),k≤xs.length∧i = .int .i64 k∧Hid (es.map (·.1.1) = flat (xs.take k))∧Hid (J (pre ++ es) wr)∧Hid (Kp w.heap.size B bx W wr))
  (fun i _ =>xs.length - (intOf i).toNat)
 case atStart =>exact ⟨0,[],Nat.zero_le _,rfl,by simp [Hid,flat],by simpa [Hid] using hJ0,Kp.refl _ _ _ _⟩
 case round =>
  obtain ⟨k,es,hk,rfl,hes,hJk,hKp⟩:=hrel
  have hle:=hKp.out.1.size
  by_cases hlt:k < xs.length
  ·have hfl:=b3H xs k hlt
   obtain ⟨hs6,hs7⟩:=a8A xs k hlt
   have hel:es.length = (flat (xs.take k)).length:=by rw [← hes.out];simp
   have hbel:=Lib.hid (hBe.trans hKp.out.1)
   obtain ⟨ad,A4,c4,A5,c5,A6,c6,A7,c7,e0,h0,h1,h2,h3,h4,h5,h6,h7,l4,g4,l5,g5,l6,g6,l7,g7,hK⟩:=atF HC.out k hlt
   obtain ⟨x,hx⟩:∃ x:Elt w P T,x = ⟨(a0J xs k,_),hK,HT.out _ (a6O xs k hlt _ (by simp))⟩:=⟨_,rfl⟩
   replace h0:=a0C hbel.out h0
   replace h1:=a0C hbel.out h1
   replace h2:=a0C hbel.out h2
   replace h3:=a0C hbel.out h3
   replace h4:=a0C hbel.out h4
   replace h5:=a0C hbel.out h5
   replace h6:=a0C hbel.out h6
   replace h7:=a0C hbel.out h7
   have G6:=Lib.hid g6
   have G7:=Lib.hid g7
   clear g4 g5 l4 l5 g6 g7
   subst e0
   obtain ⟨s,hs⟩:∃ s,s = a0J xs k:=⟨_,rfl⟩
   have HX:Hid (encE x = #[.agg #[.int .i64 (a0J xs k).f0,.string (a0J xs k).f1,.string (a0J xs k).f2,.string (a0J xs k).f3,.slice A4 (a0J xs k).f4.length c4,.slice A5 (a0J xs k).f5.length c5,.slice A6 (a0J xs k).f6.length c6,.slice A7 (a0J xs k).f7.length c7]]):=by rw [hx];rfl
   have HX1:Hid (x.1.1 = a0J xs k):=by rw [hx];rfl
   clear hx hK
   rw [← hs] at h0 h1 h2 h3 h4 h5 h6 h7 l6 l7 hs6 hs7 hfl HX HX1 G6 G7
   have HS:=Lib.hid hs
   clear hs
   have hy:=HY.out (n - 1) (pre ++ es) x (wr.alloc (.cells #[.int .i64 s.f0,.string s.f1,.string s.f2,.string s.f3,.slice A4 s.f4.length c4,.slice A5 s.f5.length c5,.slice A6 s.f6.length c6,.slice A7 s.f7.length c7] 46)) (HJ.out _ _ _ hJk.out (World.grownBy_alloc _ _ _)) (by simp;omega)
   rw [HX.out] at hy
   have hg0:Good bx wr:=(hKp.out.2 HG.out).1
   have hbw:∀ b,bx = some b→b < wr.heap.size:=fun b e =>by have:=hb b e;omega
   have hn1:rowOf bx (wr.alloc (.cells #[.int .i64 s.f0,.string s.f1,.string s.f2,.string s.f3,.slice A4 s.f4.length c4,.slice A5 s.f5.length c5,.slice A6 s.f6.length c6,.slice A7 s.f7.length c7] 46))≠some wr.heap.size:=by
    rw [a6W bx wr _ hbw];intro e;have:=hg0 _ e;omega
   have hK1:=Kp.alloc hKp.out (.cells #[.int .i64 s.f0,.string s.f1,.string s.f2,.string s.f3,.slice A4 s.f4.length c4,.slice A5 s.f5.length c5,.slice A6 s.f6.length c6,.slice A7 s.f7.length c7] 46) (by omega) hbw
   have hblk:=World.alloc_heap_new wr (.cells #[.int .i64 s.f0,.string s.f1,.string s.f2,.string s.f3,.slice A4 s.f4.length c4,.slice A5 s.f5.length c5,.slice A6 s.f6.length c6,.slice A7 s.f7.length c7] 46)
   have hg1:=(hK1.2 HG.out).1
   generalize hW1:(wr.alloc (.cells #[.int .i64 s.f0,.string s.f1,.string s.f2,.string s.f3,.slice A4 s.f4.length c4,.slice A5 s.f5.length c5,.slice A6 s.f6.length c6,.slice A7 s.f7.length c7] 46)) = W1 at hy hn1 hK1 hblk hg1
   have h7c:∀ W3 e7,e7 = es ++ [x]→∀ e6:List (Elt w P T),e6.map (·.1.1) = flat s.f6→J (pre ++ (e7 ++ e6)) W3→Kp w.heap.size B bx W1 W3→CallsIn Fence.wide (n - 1) Try.prog 38 #[.slice A7 s.f7.length c7,.func (.yield l) #[] #[]] W3 fun e W4 =>
     (e = .returned (.bool true)∧Hid (∃ es:List (Elt w P T),es.map (·.1.1) = flat (xs.take (k + 1))∧J (pre ++ es) W4∧Kp w.heap.size B bx W W4)) ∨
     (e = .returned (.bool false)∧Hid (∃ (es:List (Elt w P T)) (q:List S46),es.map (·.1.1) ++ q = flat xs∧Jx (pre ++ es) W4)):=by
    rintro W3 _ rfl e6 he6 hj hk3
    have hl6:e6.length = (flat s.f6).length:=by rw [← he6];simp
    refine (IH.out s.f7 (by omega) (n - 1) A7 c7 _ W3 l7 (fun s' hs' =>HT.out s' (a6O xs k hlt s' (by rw [← HS.out];simp [hs']))) G7.out hj ((hBe.trans hK1.1).trans hk3.1) ((hk3.2 hg1).1) (by have:=hk3.1.size;have:=hK1.1.size;omega) (by simp;omega)).mono ?_
    have htk:=a2Z xs k hlt
    have h3:xs[k] = s:=by rw [HS.out];simp [a0J,List.getD,hlt]
    rw [h3] at htk
    have hx1:x.1.1 = s:=by rw [HX1.out]
    rintro e W4 (⟨rfl,e8,he8,hj8,hk8⟩ | ⟨rfl,e8,q,he8,hj8⟩)
    ·refine .inl ⟨rfl,(es ++ [x]) ++ e6 ++ e8,?_,by simpa [List.append_assoc] using hj8,(hK1.trans hk3).trans hk8⟩
     rw [htk];simp [hes.out,he6,he8,hx1]
    ·refine .inr ⟨rfl,(es ++ [x]) ++ e6 ++ e8,q ++ flat (xs.drop (k + 1)),?_,by simpa [List.append_assoc] using hj8⟩
     rw [show flat xs = flat (xs.take (k + 1)) ++ flat (xs.drop (k + 1)) from by rw [← a4Z,List.take_append_drop],htk,← he8]
     simp [hes.out,he6,hx1]
   have h6c:∀ W2,J (pre ++ es ++ [x]) W2→Kp w.heap.size B bx W1 W2→CallsIn Fence.wide (n - 1) Try.prog 38 #[.slice A6 s.f6.length c6,.func (.yield l) #[] #[]] W2 fun e W3 =>
     (e = .returned (.bool true)∧W3.cell? ⟨wr.heap.size,7,none⟩ = some (.slice A7 s.f7.length c7)∧Hid (CallsIn Fence.wide (n - 1) Try.prog 38 #[.slice A7 s.f7.length c7,.func (.yield l) #[] #[]] W3 fun e W4 =>
      (e = .returned (.bool true)∧Hid (∃ es:List (Elt w P T),es.map (·.1.1) = flat (xs.take (k + 1))∧J (pre ++ es) W4∧Kp w.heap.size B bx W W4)) ∨
      (e = .returned (.bool false)∧Hid (∃ (es:List (Elt w P T)) (q:List S46),es.map (·.1.1) ++ q = flat xs∧Jx (pre ++ es) W4)))) ∨
     (e = .returned (.bool false)∧Hid (∃ (es:List (Elt w P T)) (q:List S46),es.map (·.1.1) ++ q = flat xs∧Jx (pre ++ es) W3)):=by
    intro W2 hj hk2
    obtain ⟨hb2,hr2⟩:=hk2.keep hg1 (by omega) hblk hn1
    refine (IH.out s.f6 (by omega) (n - 1) A6 c6 _ W2 l6 (fun s' hs' =>HT.out s' (a6O xs k hlt s' (by rw [← HS.out];simp [hs']))) G6.out hj ((hBe.trans hK1.1).trans hk2.1) ((hk2.2 hg1).1) (by have:=hk2.1.size;have:=hK1.1.size;omega) (by simp;omega)).mono ?_
    have htk:=a2Z xs k hlt
    have h3:xs[k] = s:=by rw [HS.out];simp [a0J,List.getD,hlt]
    rw [h3] at htk
    have hx1:x.1.1 = s:=by rw [HX1.out]
    rintro e W3 (⟨rfl,e6,he6,hj6,hk6⟩ | ⟨rfl,e6,q,he6,hj6⟩)
    ·obtain ⟨hb3,hr3⟩:=hk6.keep ((hk2.2 hg1).1) (by omega) hb2 hr2
     exact .inl ⟨rfl,by rw [a1T hb3];rfl,h7c W3 _ rfl e6 he6 (by simpa [List.append_assoc] using hj6) (hk2.trans hk6)⟩
    ·refine .inr ⟨rfl,(es ++ [x]) ++ e6,q ++ (flat s.f7 ++ flat (xs.drop (k + 1))),?_,by simpa [List.append_assoc] using hj6⟩
     rw [show flat xs = flat (xs.take (k + 1)) ++ flat (xs.drop (k + 1)) from by rw [← a4Z,List.take_append_drop],htk,← he6]
     simp [hes.out,hx1]
   have hy2:=YieldAt.mono (R':=fun e W2 =>
     (e = .returned (.bool true)∧W2.cell? ⟨wr.heap.size,6,none⟩ = some (.slice A6 s.f6.length c6)∧Hid (CallsIn Fence.wide (n - 1) Try.prog 38 #[.slice A6 s.f6.length c6,.func (.yield l) #[] #[]] W2 fun e W3 =>
     (e = .returned (.bool true)∧W3.cell? ⟨wr.heap.size,7,none⟩ = some (.slice A7 s.f7.length c7)∧Hid (CallsIn Fence.wide (n - 1) Try.prog 38 #[.slice A7 s.f7.length c7,.func (.yield l) #[] #[]] W3 fun e W4 =>
      (e = .returned (.bool true)∧Hid (∃ es:List (Elt w P T),es.map (·.1.1) = flat (xs.take (k + 1))∧J (pre ++ es) W4∧Kp w.heap.size B bx W W4)) ∨
      (e = .returned (.bool false)∧Hid (∃ (es:List (Elt w P T)) (q:List S46),es.map (·.1.1) ++ q = flat xs∧Jx (pre ++ es) W4)))) ∨
     (e = .returned (.bool false)∧Hid (∃ (es:List (Elt w P T)) (q:List S46),es.map (·.1.1) ++ q = flat xs∧Jx (pre ++ es) W3)))) ∨
     (e = .returned (.bool false)∧Hid (∃ (es:List (Elt w P T)) (q:List S46),es.map (·.1.1) ++ q = flat xs∧Jx (pre ++ es) W2))) hy (fun e W2 h =>by
    have htk:=a2Z xs k hlt
    have h3:xs[k] = s:=by rw [HS.out];simp [a0J,List.getD,hlt]
    rw [h3] at htk
    have hx1:x.1.1 = s:=by rw [HX1.out]
    rcases h with ⟨rfl,hj,hk2⟩ | ⟨rfl,hj⟩
    ·obtain ⟨hb2,hr2⟩:=hk2.keep hg1 (by omega) hblk hn1
     exact .inl ⟨rfl,by rw [a1T hb2];rfl,h6c W2 hj hk2⟩
    ·refine .inr ⟨rfl,es ++ [x],(flat s.f6 ++ flat s.f7) ++ flat (xs.drop (k + 1)),?_,by simpa [List.append_assoc] using hj⟩
     rw [show flat xs = flat (xs.take (k + 1)) ++ flat (xs.drop (k + 1)) from by rw [← a4Z,List.take_append_drop],htk]
     simp [hes.out,hx1])
   have h29:Fence.wide.fn 38:=trivial
   subst hW1
   clear hy h6c h7c hblk hg1 hK1 hn1 hbw hg0
   obtain ⟨fn,tmps,assign,body,hy,hR⟩:=hy2
   gi_wp2_with (first
    | ((try refine ⟨hdd _,?_⟩);refine hR.mono ?_;clear hR;rintro e W2 (⟨rfl,hc6,hcall6⟩ | ⟨rfl,hx2⟩))
    | ((try refine ⟨hdd _,?_⟩);gi_at_call 38;refine hcall6.out.mono ?_;clear hcall6;rintro e W3 (⟨rfl,hc7,hcall7⟩ | ⟨rfl,hx3⟩))
    | ((try refine ⟨hdd _,?_⟩);gi_at_call 38;refine hcall7.out.mono ?_;clear hcall7;rintro e W4 (⟨rfl,hd4⟩ | ⟨rfl,hx4⟩)))
   ·go_roundw
    case rel =>
     obtain ⟨es',he',hj',hk'⟩:=hd4.out
     exact ⟨k + 1,es',by omega,by go_num,he',hj',hk'⟩
    case measure =>simp [intOf];omega
   ·go_ret
    exact .inr ⟨rfl,hx4.out⟩
   ·go_ret
    exact .inr ⟨rfl,hx3.out⟩
   ·go_ret
    exact .inr ⟨rfl,hx2.out⟩
  ·have hke:k = xs.length:=by omega
   gi_wp2
   go_ret
   refine .inl ⟨rfl,es,?_,hJk.out,hKp.out⟩
   rw [hes.out,hke,List.take_length]
open Go.RowKit Go.Shelf Go.Proofs.Ytjiacafeckokeaa.Pr Go.Proofs.YtjiacafeckokeaaW.PrintWords
attribute [local go_sem] Oper.semAt_some
theorem b0Z {F:Fence} (hd:F.depth = none) (k:Nat):F.room k:=fun d h =>by rw [hd] at h;cases h
theorem a7Y {F:Fence} (hd:F.depth = none) {m m':Nat} {P:Program} {l:Nat} {f:FuncId} {tmps:Array Value} {assign body:Code} {w:World} {R:Ending→World→Prop}
  (h:RoundIn F m P l f tmps assign body w R):RoundIn F m' P l f tmps assign body w R:=⟨h.1,fun c cs _ =>h.2 c cs (b0Z hd _)⟩
theorem a7X {F:Fence} (hd:F.depth = none) {m:Nat} (m':Nat) {P:Program} {l:Nat} {args:Array Value} {W:World} {R:Ending→World→Prop} (h:YieldAt F m P l args W R):YieldAt F m' P l args W R:=by
 obtain ⟨fn,tmps,assign,body,hy,hR⟩:=h
 exact ⟨fn,tmps,assign,body,hy,a7Y hd hR⟩
set_option maxHeartbeats 1000000 in
theorem all1_in (w:World) (P:Nat→Prop) (T:S46→Prop) (n l:Nat) (B:Nat) (bx:Option Nat) (hn:w.heap.size≤B) (hb:∀ b,bx = some b→b < B) (J Jx:List (Elt w P T)→World→Prop) (xs:List S46) (A:Option Addr) (c:Nat) (hlc:xs.length≤c) (hT:∀ s,s ∈ flat xs→T s) (hC:Kd.F k46 w P A xs.length xs)
  (hY:∀ pre x W,J pre W→pre.length < (flat xs).length→YieldAt Fence.wide (n - 1) Try.prog l (encE x) W fun e W' =>
   (e = .returned (.bool true)∧J (pre ++ [x]) W'∧Kp w.heap.size B bx W W')∨(e = .returned (.bool false)∧Jx (pre ++ [x]) W'))
  (hJ:∀ pre W W',J pre W→W.grownBy W' none→J pre W') (W:World) (hJ0:J [] W) (hBe:Below w.heap.size w W) (hG:Good bx W) (hBW:B≤W.heap.size) (Bt:Nat) (hBt:W.cell? ⟨Bt,0,none⟩ = some (.slice A xs.length c)) :
  CallsIn Fence.wide n Try.prog 37 #[.func (.yield l) #[] #[],.pointer (some ⟨Bt,0,none⟩)] W fun e W' =>(∃ v,e = .returned v) ∧
   ((∃ es:List (Elt w P T),es.map (·.1.1) = flat xs∧J es W')∨(∃ es:List (Elt w P T),(∃ q,es.map (·.1.1) ++ q = flat xs)∧Jx es W')):=by
 have hdd:∀ k:Nat,(Fence.wide.depth.isSome = true→1≤k):=fun k h =>by simp [Fence.wide] at h
 have hp:=all_in w P T l B (flat xs).length bx hn hb J Jx (fun m pre x W hj hl =>a7X rfl m (hY pre x W hj hl)) hJ _ xs (Nat.lt_succ_self _) (n - 1) A c [] W hlc hT hC hJ0 hBe hG hBW (by simp)
 have h29:Fence.wide.fn 38:=trivial
 clear hY hJ hC hT
 refine callsIn_of_wp Try.func37 rfl trivial ?_ rfl
 simp only [Try.ntmps37,List.size_toArray,List.length_cons,List.length_nil,Nat.reduceAdd,Nat.reduceSub,Array.replicate_succ,Array.replicate_zero,List.push_toArray,List.append_toArray,List.nil_append,List.cons_append]
 gi_wp2_with ((try refine ⟨hdd _,?_⟩);gi_at_call 38;refine hp.mono ?_;clear hp;rintro e W1 (⟨rfl,es,hes,hJ1,_⟩ | ⟨rfl,es,q,hq,hx⟩))
 ·go_end0
  exact ⟨⟨_,rfl⟩,.inl ⟨es,hes,by simpa using hJ1⟩⟩
 ·go_end0
  exact ⟨⟨_,rfl⟩,.inr ⟨es,⟨q,hq⟩,by simpa using hx⟩⟩
theorem b6G (w w1:World) (P:Nat→Prop) (T:S46→Prop) (n:Nat) (bx:Option Nat) (xs:List S46) (A:Option Addr) (c:Nat) (hlc:xs.length≤c) (hT:∀ s,s ∈ flat xs→T s) (hC:Kd.F k46 w P A xs.length xs) (hBe:Below w.heap.size w w1) (Bt:Nat) (hlt:Bt < w1.heap.size)
  (hBt:w1.cell? ⟨Bt,0,none⟩ = some (.slice A xs.length c)) (hb:∀ b,bx = some b→b < w1.heap.size) (hG:Good bx w1) :
  SeqStopsK Fence.wide n Try.prog 37 #[.pointer (some ⟨Bt,0,none⟩)] (encE (w:=w) (P:=P) (T:=T)) (Kp w.heap.size w1.heap.size bx) (fun es =>es.map (·.1.1) = flat xs) (fun es =>∃ q,es.map (·.1.1) ++ q = flat xs) (flat xs).length w1:=by
 intro l J Jx W hW hJ _ hY h0
 refine all1_in w P T n l w1.heap.size bx hBe.size hb J Jx xs A c hlc hT hC hY (fun pre X Y hj hg =>hJ pre X Y none hj hg (fun r e =>by cases e)) W h0 (hBe.trans (hW.mono hBe.size)) ?_ hW.size Bt ((hW.cell (p:=⟨Bt,0,none⟩) hlt).trans hBt)
 intro k hk
 have hr:rowOf bx W = rowOf bx w1:=by
  unfold rowOf
  cases bx with
  | none =>rfl
  | some b =>simp only [Option.bind_some];rw [hW.cell (p:=⟨b,0,none⟩) (hb b rfl)]
 rw [hr] at hk
 exact Nat.lt_of_lt_of_le (hG k hk) hW.size
set_option maxHeartbeats 1000000 in
theorem a9Y (n:Nat) (v:Value) (hv:v.oneCell' = true) (w:World) :
  CallsIn Fence.wide n Try.prog 26 #[v] w fun e w' =>e = .returned (.func (.func 37) #[] #[.pointer (some ⟨w.heap.size,0,none⟩)])∧w' = w.alloc (.cells #[v] 30):=by
 refine callsIn_of_wp Try.func26 rfl trivial ?_ rfl
 simp only [Try.ntmps26,List.size_toArray,List.length_cons,List.length_nil,Nat.reduceAdd,Nat.reduceSub,Array.replicate_succ,Array.replicate_zero,List.push_toArray,List.append_toArray,List.nil_append,List.cons_append]
 gi_wp2
 go_ret
 exact ⟨rfl,rfl⟩
open Go.RowKit Go.Shelf Go.Proofs.Ytjiacafeckokeaa.Pr Go.Proofs.YtjiacafeckokeaaW.PrintWords
attribute [local go_sem] Oper.semAt_some
theorem Good.none (W:World):Good none W:=fun k h =>by simp [rowOf] at h
theorem Kp.setBox {n0 B:Nat} (W:World) (b:Nat) (v:Value) (hn:n0≤b) (hb:b < B):Kp n0 B Option.none W (W.setCell ⟨b,0,Option.none⟩ v):=by
 refine ⟨(Below.refl _ _).setCell (p:=⟨b,0,Option.none⟩) hn _,fun _ =>⟨Good.none _,.inl rfl,fun k c hB hc _ _ =>?_⟩⟩
 rw [Below.heap_setCell W ⟨b,0,Option.none⟩ v k (by intro e;simp at e;omega)];exact hc
def Ev {α:Type} (f:Nat→Option α) (r:α):Prop:=∃ k,∀ k',k≤k'→f k' = some r
theorem Ev.const {α:Type} (r:α):Ev (fun _ =>some r) r:=⟨0,fun _ _ =>rfl⟩
theorem Ev.bind {α β:Type} {f:Nat→Option α} {g:Nat→α→Option β} {a:α} {b:β} (h:Ev f a) (h2:Ev (fun k =>g k a) b):Ev (fun k =>(f k).bind (g k)) b:=by
 obtain ⟨k1,e1⟩:=h
 obtain ⟨k2,e2⟩:=h2
 exact ⟨max k1 k2,fun k' hk =>by show (f k').bind (g k') = some b;rw [e1 k' (by omega)];exact e2 k' (by omega)⟩
theorem Ev.succ {α:Type} {f g:Nat→Option α} {r:α} (h:Ev g r) (hs:∀ k,f (k + 1) = g k):Ev f r:=by
 obtain ⟨k,e⟩:=h
 exact ⟨k + 1,fun k' hk =>by obtain ⟨j,rfl⟩:∃ j,k' = j + 1:=⟨k' - 1,by omega⟩;rw [hs];exact e j (by omega)⟩
theorem Ev.step {α:Type} {f:Nat→Option α} {r:α} (h:Ev (fun k =>f (k + 1)) r):Ev f r:=h.succ (fun _ =>rfl)
theorem pz (n:Nat) (h:n≤1050000):wrap64 ((n:Int) + 1) = ((n + 1:Nat):Int):=by simp only [wrap64];omega
open Go.RowKit Go.Shelf Go.Proofs.Ytjiacafeckokeaa.Pr Go.Proofs.YtjiacafeckokeaaW.PrintWords
attribute [local go_sem] Oper.semAt_some
def leftOf (listed:Array Bool):Nat:=(listed.toList.filter (fun b =>!b)).length
theorem b3D (l : List Bool) (i : Nat) (h : l[i]? = some false) : ((l.set i true).filter (fun b => !b)).length + 1 = (l.filter (fun b => !b)).length := by
  induction l generalizing i with
  | nil => simp at h
  | cons b r ih =>
    cases i with
    | zero => obtain rfl : b = false := by simpa using h
              simp
    | succ i =>
      have := ih i (by simpa using h)
      cases b <;> simp <;> omega
theorem a7D {md:Region.Mode} {ops:Array Oper} {listed:Array Bool} {i:Nat} (h:i ∈ Region.ready md ops listed):listed.toList[i]? = some false:=by
 unfold Region.ready at h
 have:=(List.mem_filter.1 h).2
 simp only [Bool.and_eq_true,Bool.not_eq_true'] at this
 have h1:=this.1
 rw [Array.getD_eq_getD_getElem?] at h1
 rw [Array.getElem?_toList]
 cases hh:listed[i]? with
 | none =>rw [hh] at h1;simp at h1
 | some b =>rw [hh] at h1;simp at h1;rw [h1]
theorem a8I {F:Fence} {n:Nat} {P:Program} {md:Region.Mode} {ops:Array Oper} {Q:Exit→Act→World→Prop} (I:Array Bool→Act→World→Prop)
  (hstep:∀ listed a w i,I listed a w→i ∈ Region.ready md ops listed→wpOpIn F n P ops Q i (fun a w =>I (listed.setIfInBounds i true) a w) a w)
  (hend:∀ listed a w,I listed a w→Region.ready md ops listed = []→Q .normal a w) :
  ∀ fuel listed a w,leftOf listed≤fuel→I listed a w→wpAnyIn F n P md ops Q fuel listed a w:=by
 intro fuel
 induction fuel with
 | zero =>
  intro listed a w hf hi
  have hr:Region.ready md ops listed = []:=by
   cases hh:Region.ready md ops listed with
   | nil =>rfl
   | cons i r =>
    have h1:=a7D (md:=md) (ops:=ops) (listed:=listed) (i:=i) (by rw [hh];simp)
    have:=b3D _ _ h1
    unfold leftOf at hf;omega
  exact ⟨hr,hend _ _ _ hi hr⟩
 | succ fuel ih =>
  intro listed a w hf hi
  refine ⟨fun hr =>hend _ _ _ hi hr,fun i hi' =>wpOpIn_mono (fun a' w' h =>ih _ a' w' ?_ h) (hstep _ _ _ i hi hi')⟩
  have h1:=a7D hi'
  have:=b3D _ _ h1
  unfold leftOf at hf ⊢
  simp only [Array.toList_setIfInBounds]
  omega
theorem rangeAll {w w1:World} {P:Nat→Prop} {T:S46→Prop} {g:Operand} {ps:Array Tmp} {assign body:Code} {Q:Exit→Act→World→Prop} {a:Act} {n:Nat} (hn:1≤n)
  (l:List S46) (A:Option Addr) (c:Nat) (hlc:l.length≤c) (hT:∀ s,s ∈ flat l→T s) (hC:Kd.F k46 w P A l.length l) (hBe:Below w.heap.size w w1) (Bt:Nat) (hlt:Bt < w1.heap.size)
  (hBt:w1.cell? ⟨Bt,0,none⟩ = some (.slice A l.length c)) (hg:a.eval g = .func (.func 37) #[] #[.pointer (some ⟨Bt,0,none⟩)])
  (bx:Option Nat) (hb:∀ b,bx = some b→b < w1.heap.size) (hG:Good bx w1) (hps:ps.size = 1)
  (I:List (Elt w P T)→World→Prop) (Ix:Code→List (Elt w P T)→World→Prop) (hI:OwnFrom w1.heap.size I) (hIx:∀ c,OwnFrom w1.heap.size (Ix c)) (h0:I [] w1) (Ax:Elt w P T→Act→World→Prop) (hAx:∀ x a',OwnFrom w1.heap.size (fun (_:Unit) W =>Ax x a' W))
  (hassign:∀ (l:Nat) (pre:List (Elt w P T)) (x:Elt w P T) (W:World) (K:Act→World→Prop),I pre W→(∀ a' W',KeepsFrom w1.heap.size W W'→Kp w.heap.size w1.heap.size bx W W'→I pre W'→Ax x a' W'→K a' W') →
   assign.wpIn (Fence.wide.inRound l) (n - 1 - 1) Try.prog (Exit.then K (fun _ _ _ =>False)) { tmps:=(ps.zip (encE x)).foldl (fun t (p,v) =>t.setIfInBounds p v) a.tmps,defers:=[] } W)
  (hbody:∀ (l':Nat) (pre:List (Elt w P T)) (x:Elt w P T) (a':Act) (W:World),w1.heap.size≤l'→(∃ r,W.heap[l']? = some (.loop r))→I pre W→Ax x a' W→pre.length < (flat l).length→body.wpIn (Fence.wide.inRound l') (n - 1 - 1) Try.prog (ownPostG w1.heap.size (Kp w.heap.size w1.heap.size bx) I Ix (pre ++ [x]) W) a' W)
  (hdone:∀ (D:Nat) (es:List (Elt w P T)) (W:World),w1.heap.size≤D→es.map (·.1.1) = flat l→I es W→W.heap[D]? = some (.deferred (some []))→Q .normal { a with defers:={ target:=.collected D,args:=#[] } :: a.defers } W)
  (hstop:∀ (D:Nat) (c:Code) (pre:List (Elt w P T)) (W:World),w1.heap.size≤D→(∃ q,pre.map (·.1.1) ++ q = flat l)→Ix c pre W→W.heap[D]? = some (.deferred (some []))→c.wpIn Fence.wide n Try.prog Q { a with defers:={ target:=.collected D,args:=#[] } :: a.defers } W) :
  (Code.rangeFunc g ps assign body).wpIn Fence.wide n Try.prog Q a w1 :=
 wpIn_rangeFunc_ownH (F:=Fence.wide) rfl hn (gf:=37) (lb:=#[.pointer (some ⟨Bt,0,none⟩)]) hg trivial (enters_of Try.func37 (by kernel_rfl) rfl)
  (b6G w w1 P T _ bx l A c hlc hT hC hBe Bt hlt hBt hb hG) (fun h k =>Kp.trans h k) (Kp.putObj hBe.size hb) (Below.refl _ _) (fun _ =>by simp [encE,hps])
  I Ix hI hIx h0 Ax hAx hassign hbody hdone hstop
open Go.RowKit Go.Shelf Go.Lib Go.Sort Go.Proofs.Ytjiacafeckokeaa.Pr Go.Proofs.YtjiacafeckokeaaW.PrintWords
def srtS (xs:List (List UInt8)):List (List UInt8):=xs.mergeSort (fun x y =>decide (x≤y))
theorem a7Z (xs:List (List UInt8)):(srtS xs).length = xs.length:=List.length_mergeSort _
theorem a9T {w:World} {base g n cap:Nat} {xs:List Value} (h:w.ownsRow base 9 1 (.slice (some ⟨g,0,none⟩) n cap) n xs) (ys:List (List UInt8)) (hl:ys.length = n) (q:Nat) (os:Array Obj) :
  (Go.Sort.grow (Go.Sort.putRow encStr (Go.Sort.ahead w q) g 0 ys.toArray) os).ownsRow base 9 1 (.slice (some ⟨g,0,none⟩) n cap) n (ys.map encStr) ∧
  w.grownBy (Go.Sort.grow (Go.Sort.putRow encStr (Go.Sort.ahead w q) g 0 ys.toArray) os) (some g):=by
 obtain ⟨_,⟨h1,_⟩ | ⟨g',cap',cur,hv,hb,hh,hn,hc,hs,ht⟩⟩:=h
 ·simp at h1
 simp only [Value.slice.injEq,Option.some.injEq,Addr.mk.injEq,and_true,true_and] at hv
 obtain ⟨rfl,rfl⟩:=hv
 have hlt:g < w.heap.size:=(Array.getElem?_eq_some_iff.1 hh).1
 have hat:(Go.Sort.putRow encStr (Go.Sort.ahead w q) g 0 ys.toArray).heap[g]? = some (.cells (Go.Sort.putCells encStr 0 ys.toArray cur) 9 (0,0)):=by
  simp only [Go.Sort.putRow,Go.Sort.mapBlock,Go.Sort.ahead,Array.getElem?_modify,if_true,hh,Option.map_some,Go.Sort.onCells]
 refine ⟨⟨by simp [hl],.inr ⟨g,cap,Go.Sort.putCells encStr 0 ys.toArray cur,rfl,hb,?_,hn,hc,by simpa [Go.Sort.putCells] using hs,?_⟩⟩,rfl,rfl,rfl,by simp [Go.Sort.grow,Go.Sort.ahead],fun k hk hne =>?_⟩
 ·rw [show (Go.Sort.grow (Go.Sort.putRow encStr (Go.Sort.ahead w q) g 0 ys.toArray) os).heap = (Go.Sort.putRow encStr (Go.Sort.ahead w q) g 0 ys.toArray).heap ++ os from rfl,
   Array.getElem?_append_left (by simpa [Go.Sort.ahead] using hlt)]
  exact hat
 ·apply List.ext_getElem?
  intro j
  rw [List.getElem?_take]
  by_cases hj:j < n
  ·rw [if_pos (by omega)]
   have hjc:j < cur.size:=by omega
   simp only [Go.Sort.putCells,Array.getElem?_toList,Array.getElem?_mapIdx,List.getElem?_map]
   rw [Array.getElem?_eq_getElem hjc,Option.map_some,if_pos ⟨Nat.zero_le _,by simpa [hl] using hj⟩,Nat.sub_zero,List.getElem?_eq_getElem (by omega)]
   simp [hl,hj]
  ·rw [if_neg (by omega)]
   symm
   simp only [List.getElem?_map,Option.map_eq_none_iff]
   exact List.getElem?_eq_none (by omega)
 ·rw [show (Go.Sort.grow (Go.Sort.putRow encStr (Go.Sort.ahead w q) g 0 ys.toArray) os).heap = (Go.Sort.putRow encStr (Go.Sort.ahead w q) g 0 ys.toArray).heap ++ os from rfl,
   Array.getElem?_append_left (by simpa [Go.Sort.ahead] using hk)]
  simp only [Go.Sort.putRow,Go.Sort.mapBlock,Array.getElem?_modify]
  rw [if_neg (fun e =>hne (by rw [e]))]
  rfl
theorem a7M {w:World} {base g n cap:Nat} {xs:List (List UInt8)} (h:w.ownsRow base 9 1 (.slice (some ⟨g,0,none⟩) n cap) n (xs.map encStr)) (hn:xs.length = n):Go.Sort.Holds encStr w g 0 xs.toArray∧g < w.heap.size∧n≤cap:=by
 obtain ⟨_,⟨h1,_⟩ | ⟨g',cap',cur,hv,hb,hh,hnc,hc,hs,ht⟩⟩:=h
 ·simp at h1
 simp only [Value.slice.injEq,Option.some.injEq,Addr.mk.injEq,and_true,true_and] at hv
 obtain ⟨rfl,rfl⟩:=hv
 refine ⟨fun j hj =>?_,(Array.getElem?_eq_some_iff.1 hh).1,hnc⟩
 have hj':j < xs.length:=by simpa using hj
 have e:cur.toList[j]? = some (encStr xs[j]):=by
  have:=congrArg (fun l =>l[j]?) ht
  simp only [List.getElem?_take,List.getElem?_map] at this
  rw [if_pos (by omega),List.getElem?_eq_getElem hj'] at this
  simpa using this
 constructor
 ·simp only [World.cell?,hh,Nat.zero_add]
  rw [Array.getElem?_toList] at e
  simp [e,hj']
 ·simp [World.frozen?,hh]
theorem b4T (xs:List (List UInt8)) (v:Value) (base:Nat) (w:World) (h:w.ownsRow base 9 1 v xs.length (xs.map encStr)) (hsz:xs.length < 4611686018427387904) :
  Calls Try.prog 41 #[v] w fun e w' =>e = .returned (.tuple #[])∧w'.ownsRow base 9 1 v xs.length ((srtS xs).map encStr)∧w.grownBy w' v.ownBlock:=by
 rcases h.2 with ⟨rfl,h0⟩ | ⟨g,cap,cur,rfl,_⟩
 ·have hx:xs = []:=List.length_eq_zero_iff.1 h0
  subst hx
  refine (Try.slices_Sort_string_none none 0 w).mono ?_
  rintro e w' ⟨rfl,rfl⟩
  exact ⟨rfl,by simpa [srtS] using World.ownsRow_nil _ _ _ _,⟨rfl,rfl,rfl,Nat.le_refl _,fun _ _ _ =>rfl⟩⟩
 ·obtain ⟨hH,hlt,_⟩:=a7M h rfl
  refine (Try.slices_Sort_string g 0 cap xs w hH hlt hsz).mono ?_
  rintro e w' ⟨rfl,q,os,rfl⟩
  exact ⟨rfl,a9T h (srtS xs) (a7Z xs) q os⟩
theorem b1O (xs:List (List UInt8)) (v:Value) (base:Nat) (w:World) (h:w.ownsRow base 9 1 v xs.length (xs.map encStr)) (hsz:xs.length < 4611686018427387904) :
  Calls Try.prog 42 #[v] w fun e w' =>∃ v',e = .returned v'∧w'.ownsRow base 9 1 v' (Lib.compact xs).length ((Lib.compact xs).map encStr)∧w.grownBy w' v.ownBlock∧v'.ownBlock = v.ownBlock:=by
 rcases h.2 with ⟨rfl,h0⟩ | ⟨g,cap,cur,rfl,_⟩
 ·have hx:xs = []:=List.length_eq_zero_iff.1 h0
  subst hx
  refine (Try.slices_Compact_string_empty none 0 w).mono ?_
  rintro e w' ⟨rfl,rfl⟩
  exact ⟨_,rfl,World.ownsRow_nil _ _ _ _,⟨rfl,rfl,rfl,Nat.le_refl _,fun _ _ _ =>rfl⟩,rfl⟩
 ·obtain ⟨hH,hlt,hcap⟩:=a7M h rfl
  refine (Try.slices_Compact_string g 0 cap xs w hH (by omega) hcap).mono ?_
  rintro e w' ⟨rfl,q,rfl⟩
  have hle:=Go.Lib.compact_length_le xs
  obtain ⟨h1,h2⟩:=a9T h (Lib.compact xs ++ List.replicate (xs.length - (Lib.compact xs).length) []) (by simp;omega) q #[]
  rw [Go.Sort.grow_empty] at h1 h2
  have h3:=b3B h1 hle
  rw [Nat.mul_one,List.map_append,List.take_left' (by simp)] at h3
  exact ⟨_,rfl,h3,h2,rfl⟩
theorem b3E (x:List UInt8) (W:World):FnGives Try.prog 40 #[] #[encStr x] (.bool (x == [])) W:=by
 show Calls Try.prog 40 #[.string ⟨x.toArray⟩] W _
 go_enter Try.func40,Try.ntmps40
 go_wp2
 go_ret
 refine ⟨?_,0,rfl⟩
 cases x with
 | nil =>rfl
 | cons a r =>simp [Lib.toList_data]
def full (xs:List (List UInt8)):List (List UInt8):=xs.filter fun x =>!(x == [])
set_option maxRecDepth 100000 in
theorem idx_nil (f:Value) (w:World):Calls Try.prog 55 #[.slice none 0 0,f] w fun e w' =>e = .returned (.int .i64 (-1))∧w' = w:=by
 go_enter Try.func55,Try.ntmps55
 go_wp2
 refine wp_loop_rounds 1 ?_
 rw [rounds_succ]
 go_wp2
 go_ret
 exact ⟨rfl,rfl⟩
set_option maxRecDepth 100000 in
theorem b4B (f:Value) (w:World):Calls Try.prog 39 #[.slice none 0 0,f] w fun e w' =>e = .returned (.slice none 0 0)∧w' = w:=by
 go_enter Try.func39,Try.ntmps39
 go_wp2_with (first
  | (go_at_call 55;refine (idx_nil f _).mono ?_;rintro e w1 ⟨rfl,rfl⟩))
 go_ret
 exact ⟨rfl,rfl⟩
theorem b2J (xs:List (List UInt8)) (v:Value) (base:Nat) (w:World) (h:w.ownsRow base 9 1 v xs.length (xs.map encStr)) (hsz:xs.length < 4611686018427387904) :
  Calls Try.prog 39 #[v,.func (.func 40) #[] #[]] w fun e w' =>∃ v',e = .returned v'∧w'.ownsRow base 9 1 v' (full xs).length ((full xs).map encStr)∧w.grownBy w' v.ownBlock∧v'.ownBlock = v.ownBlock:=by
 have eg:∀ args w,(callFunc 40 args).run Try.prog w = .ok (.enter 40 args) w:=enters_of Try.func40 (by kernel_rfl) rfl
 rcases h.2 with ⟨rfl,h0⟩ | ⟨g,cap,cur,rfl,_⟩
 ·have hx:xs = []:=List.length_eq_zero_iff.1 h0
  subst hx
  refine (b4B _ w).mono ?_
  rintro e w' ⟨rfl,rfl⟩
  exact ⟨_,rfl,World.ownsRow_nil _ _ _ _,⟨rfl,rfl,rfl,Nat.le_refl _,fun _ _ _ =>rfl⟩,rfl⟩
 ·obtain ⟨hH,hlt,hcap⟩:=a7M h rfl
  have hcon:=AnyE.slices_DeleteFunc Try.laysDel encStr (fun _ =>rfl) (fun x =>x == []) 40 #[] eg [] Try.zeroValue9 g 0 cap xs.toArray w
   (fun W x _ =>b3E x W) (fun _ _ _ x _ =>b3E x _) hH (by simp;omega) (by simpa using hcap)
  change Calls Try.prog 39 _ _ _ at hcon
  rw [show (xs.toArray.toList.filter fun x =>!(x == [])) = full xs from rfl,show xs.toArray.size = xs.length from by simp] at hcon
  refine hcon.mono ?_
  rintro e w' ⟨rfl,q,rfl⟩
  have hle:(full xs).length≤xs.length:=List.length_filter_le _ _
  obtain ⟨h1,h2⟩:=a9T h (full xs ++ List.replicate (xs.length - (full xs).length) []) (by simp;omega) q #[]
  rw [Go.Sort.grow_empty] at h1 h2
  have h3:=b3B h1 hle
  rw [Nat.mul_one,List.map_append,List.take_left' (by simp)] at h3
  exact ⟨_,rfl,h3,h2,rfl⟩
def uniqS (xs:List (List UInt8)):List (List UInt8):=Lib.compact (srtS (full xs))
set_option maxRecDepth 100000 in
theorem b3L (xs:List (List UInt8)) (v:Value) (base:Nat) (w:World) (h:w.ownsRow base 9 1 v xs.length (xs.map encStr)) (hsz:xs.length < 4611686018427387904) :
  Calls Try.prog 27 #[v] w fun e w' =>∃ v',e = .returned v'∧w'.ownsRow base 9 1 v' (uniqS xs).length ((uniqS xs).map encStr)∧w.grownBy w' v.ownBlock∧v'.ownBlock = v.ownBlock:=by
 have H0:=Lib.hid h
 have hfl:(full xs).length≤xs.length:=List.length_filter_le _ _
 have hs1:(full xs).length < 4611686018427387904:=Nat.lt_of_le_of_lt hfl hsz
 have hs2:(srtS (full xs)).length < 4611686018427387904:=by rw [a7Z];exact hs1
 have HS0:=Lib.hid hsz
 have HS1:=Lib.hid hs1
 have HS2:=Lib.hid hs2
 clear h hsz hs1 hs2 hfl
 go_enter Try.func27,Try.ntmps27
 go_wp2_with (first
  | (go_at_call 39;((refine (b2J xs v base _ H0.out HS0.out).mono ?_));rintro e w1 ⟨v1,rfl,h1,g1,b1⟩;have H1:=Lib.hid h1;have G1:=Lib.hid g1;have B1:=Lib.hid b1;clear h1 g1 b1)
  | (go_at_call 41;((refine (b4T (full xs) v1 base _ H1.out HS1.out).mono ?_));rintro e w2 ⟨rfl,h2,g2⟩;have H2:=Lib.hid h2;have G2:=Lib.hid g2;clear h2 g2)
  | (go_at_call 42;((refine (b1O (srtS (full xs)) v1 base _ (by rw [a7Z];exact H2.out) HS2.out).mono ?_));rintro e w3 ⟨v3,rfl,h3,g3,b3⟩;have H3:=Lib.hid h3;have G3:=Lib.hid g3;have B3:=Lib.hid b3;clear h3 g3 b3))
 go_ret
 have e1:v1.ownBlock = v.ownBlock:=B1.out
 have g2:=G2.out
 have g3:=G3.out
 rw [e1] at g2 g3
 exact ⟨v3,rfl,H3.out,(G1.out.trans g2).trans g3,B3.out.trans e1⟩
open Go.RowKit Go.Proofs.Ytjiacafeckokeaa.Pr Go.Proofs.YtjiacafeckokeaaW.PrintWords
attribute [local go_sem] Oper.semAt_some
theorem b4Y (s nm:ByteArray) (A1 A2:Option Addr) (n1 c1 n2 c2 b:Nat) (w:World) (hb:w.cell? ⟨b,0,none⟩ = some (.string nm)) :
  Calls Try.prog 34 #[.agg #[.string s,.slice A1 n1 c1,.slice A2 n2 c2],.pointer (some ⟨b,0,none⟩)] w fun e w' =>e = .returned (.bool (s.toList == nm.toList))∧Below w.heap.size w w':=by
 have hlt:=World.block_lt_of_cell? _ _ hb
 have hne:¬ b = w.heap.size:=Nat.ne_of_lt hlt
 have hb':(w.alloc (.cells #[.string s,.slice A1 n1 c1,.slice A2 n2 c2] 32)).cell? ⟨b,0,none⟩ = some (.string nm):=((a0D (Below.refl _ w) _).cell hlt).trans hb
 go_enter Try.func34,Try.ntmps34
 go_wp2
 go_ret
 exact ⟨rfl,a0D (Below.refl _ _) _⟩
def firstIx (nm:ByteArray):List S32→Nat→Int
 | [],_ =>-1
 | f :: r,i =>if (f.f0.toList == nm.toList) = true then (i:Int) else firstIx nm r (i + 1)
def funIx (l:List S32) (nm:ByteArray):Int:=firstIx nm l 0
theorem a7H (l:List S32) (j:Nat) (h:j < l.length):l.drop j = a0P l (j:Int) :: l.drop (j + 1):=by
 rw [List.drop_eq_getElem_cons h]
 congr 1
 unfold a0P;rw [Int.toNat_natCast,List.getD_eq_getElem?_getD,List.getElem?_eq_getElem h];rfl
set_option maxRecDepth 100000 in
set_option maxHeartbeats 8000000 in
theorem b5O (l:List S32) (A:Option Addr) (c b:Nat) (nm:ByteArray) (w:World) (hc:l.length≤c) (hC:Kd.C k32 w A l.length l) (hb:w.cell? ⟨b,0,none⟩ = some (.string nm)) (hl:l.length≤1050000) :
  Calls Try.prog 33 #[.slice A l.length c,.func (.func 34) #[] #[.pointer (some ⟨b,0,none⟩)]] w fun e w' =>e = .returned (.int .i64 (funIx l nm))∧Below w.heap.size w w':=by
 have HB:=Lib.hid (Below.refl w.heap.size w)
 have K0:=Lib.hid hC
 have HN:=Lib.hid hb
 have hlt:=World.block_lt_of_cell? _ _ hb
 clear hC hb
 go_enter Try.func33,Try.ntmps33
 go_wp2
 go_loopg [8,5] l.length (fun kq v8 v5 w' =>∃ j:Nat,j + kq = l.length∧v8 = .int .i64 j∧Hid (firstIx nm (l.drop j) j = funIx l nm)∧Hid (Below w.heap.size w w'))
 case atStart =>exact ⟨0,by omega,rfl,Lib.hid rfl,HB⟩
 case round =>
  obtain ⟨j,hj,rfl,HI,HB⟩:=hrel
  by_cases hjl:j < l.length
  ·obtain ⟨ad,A1,c1,A2,c2,eA,x0,x1,x2,_⟩:=a3N (Kd.a0N K0.out HB.out) (j:Int) (by omega) (by omega)
   subst eA
   rw [Int.toNat_natCast] at x0 x1 x2
   have hw:=pz j (by omega)
   obtain ⟨k1,rfl⟩:∃ k1,gk = k1 + 1:=⟨gk - 1,by omega⟩
   have hcall:=Lib.hid (b4Y (a0P l (j:Int)).f0 nm A1 A2 (a0P l (j:Int)).f1.length c1 (a0P l (j:Int)).f2.length c2 b wr ((HB.out.cell hlt).trans HN.out))
   have hd:=a7H l j hjl
   have HD:=Lib.hid hd
   clear hd
   cases hbb:((a0P l (j:Int)).f0.toList == nm.toList) with
   | true =>
    rw [hbb] at hcall
    have hres:=Lib.hid (show funIx l nm = (j:Int) by rw [← HI.out,HD.out];simp only [firstIx,hbb,if_true])
    clear hbb
    go_wp2_with (first
     | (go_at_call 34;with_reducible refine hcall.out.mono ?_;rintro x w1 ⟨rfl,hb1⟩;have HB:=Lib.hid (a0H HB.out hb1);clear hb1))
    go_ret
    exact ⟨by rw [hres.out];rfl,HB.out⟩
   | false =>
    rw [hbb] at hcall
    have hres:=Lib.hid (show firstIx nm (l.drop (j + 1)) (j + 1) = funIx l nm by rw [← HI.out,HD.out];simp only [firstIx,hbb,Bool.false_eq_true,if_false])
    clear hbb
    go_wp2_with (first
     | (go_at_call 34;with_reducible refine hcall.out.mono ?_;rintro x w1 ⟨rfl,hb1⟩;have HB:=Lib.hid (a0H HB.out hb1);clear hb1))
    go_roundg k1
    case measure =>exact Nat.lt_succ_self _
    case rel =>exact ⟨j + 1,by rw [Nat.add_assoc,Nat.add_comm 1];exact hj,by first | rw [hw] | simp,hres,HB⟩
  ·have hje:j = l.length:=by omega
   have hres:=Lib.hid (show funIx l nm = -1 by rw [← HI.out,hje,List.drop_of_length_le (Nat.le_refl _)];rfl)
   go_wp2
   go_ret
   exact ⟨by rw [hres.out];rfl,HB.out⟩
theorem a4Y (l:List S32) (A:Option Addr) (c:Nat) (nm:ByteArray) (w:World) (hc:l.length≤c) (hC:Kd.C k32 w A l.length l) (hl:l.length≤1050000) :
  Calls Try.prog 15 #[.agg #[.slice A l.length c],.string nm] w fun e w' =>e = .returned (.int .i64 (funIx l nm))∧Below w.heap.size w w':=by
 have K0:=Lib.hid hC
 clear hC
 go_enter Try.func15,Try.ntmps15
 go_wp2_with (first
  | (go_at_call 33;have hb:=a0D (a0D (Below.refl w.heap.size w) (.cells #[.slice A l.length c] 24)) (.cells #[.string nm] 9);with_reducible refine (b5O l A c (w.heap.size + 1) nm _ hc (Kd.a0N K0.out hb) (by have:=a8R (w.alloc (.cells #[.slice A l.length c] 24)) (.cells #[.string nm] 9);exact (a0G (by simpa using this) 0).trans rfl) hl).mono ?_;rintro x w1 ⟨rfl,hb1⟩;have HB:=Lib.hid (a0H hb hb1);clear hb hb1))
 go_ret
 exact ⟨rfl,HB.out⟩
open Go.RowKit Go.Proofs.Ytjiacafeckokeaa.Pr Go.Proofs.YtjiacafeckokeaaW.PrintWords
attribute [local go_sem] Oper.semAt_some
def lostOp (fs:List S32) (o:S56):Bool:=decide (o.f0 = 3) && decide (funIx fs o.f2 < 0)
set_option maxRecDepth 100000 in
theorem lost_one (fs:List S32) (A:Option Addr) (c:Nat) (o:S56) (b:Nat) (w:World) (hc:fs.length≤c) (hC:Kd.C k32 w A fs.length fs) (hb:w.cell? ⟨b,0,none⟩ = some (.slice A fs.length c)) (hl:fs.length≤1050000) :
  Calls Try.prog 44 #[.agg #[.int .i64 o.f0,.int .i64 o.f1,.string o.f2],.pointer (some ⟨b,0,none⟩)] w fun e w' =>e = .returned (.bool (lostOp fs o))∧Below w.heap.size w w':=by
 have hlt:=World.block_lt_of_cell? _ _ hb
 have hne:¬ b = w.heap.size:=Nat.ne_of_lt hlt
 have hba:=a0D (Below.refl w.heap.size w) (.cells #[.int .i64 o.f0,.int .i64 o.f1,.string o.f2] 56)
 have hb':(w.alloc (.cells #[.int .i64 o.f0,.int .i64 o.f1,.string o.f2] 56)).cell? ⟨b,0,none⟩ = some (.slice A fs.length c):=(hba.cell hlt).trans hb
 have HF:=Lib.hid (a4Y fs A c o.f2 (w.alloc (.cells #[.int .i64 o.f0,.int .i64 o.f1,.string o.f2] 56)) hc (Kd.a0N hC hba) hl)
 have HBA:=Lib.hid hba
 clear hC hba
 by_cases h3:o.f0 = 3
 ·have h3':(o.f0 == 3) = true:=by simpa using h3
  have hres:=Lib.hid (show lostOp fs o = decide (funIx fs o.f2 < 0) by simp [lostOp,h3])
  clear h3
  go_enter Try.func44,Try.ntmps44
  go_wp2_with (first
   | (go_at_call 15;with_reducible refine HF.out.mono ?_;rintro x w1 ⟨rfl,hb1⟩;have HB:=Lib.hid (a0H HBA.out hb1);clear hb1))
  go_ret
  exact ⟨by rw [hres.out];rfl,HB.out⟩
 ·have h3':(o.f0 == 3) = false:=by simpa using h3
  have hres:=Lib.hid (show lostOp fs o = false by simp [lostOp,h3])
  clear h3
  go_enter Try.func44,Try.ntmps44
  go_wp2
  go_ret
  exact ⟨by rw [hres.out];rfl,HBA.out⟩
theorem b2I (l:List S56) (j:Nat) (h:j < l.length):l.drop j = a1R l (j:Int) :: l.drop (j + 1):=by
 rw [List.drop_eq_getElem_cons h]
 congr 1
 unfold a1R;rw [Int.toNat_natCast,List.getD_eq_getElem?_getD,List.getElem?_eq_getElem h];rfl
def firstLost (fs:List S32):List S56→Nat→Int
 | [],_ =>-1
 | o :: r,i =>if lostOp fs o = true then (i:Int) else firstLost fs r (i + 1)
theorem b0D (fs:List S32):∀ (l:List S56) (i:Nat),decide (firstLost fs l i ≥ 0) = l.any (lostOp fs):=by
 intro l
 induction l with
 | nil =>intro i;rfl
 | cons o r ih =>
  intro i
  unfold firstLost
  by_cases h:lostOp fs o = true
  ·rw [if_pos h];simp [h]
  ·rw [if_neg h,ih (i + 1)]
   simp [h]
set_option maxRecDepth 100000 in
set_option maxHeartbeats 8000000 in
theorem index_op (fs:List S32) (A:Option Addr) (c:Nat) (l:List S56) (A4:Option Addr) (c4 b:Nat) (w:World) (hc:fs.length≤c) (hC:Kd.C k32 w A fs.length fs) (hb:w.cell? ⟨b,0,none⟩ = some (.slice A fs.length c)) (hl:fs.length≤1050000)
  (hc4:l.length≤c4) (hC4:Kd.C k56 w A4 l.length l) (hl4:l.length≤1050000) :
  Calls Try.prog 58 #[.slice A4 l.length c4,.func (.func 44) #[] #[.pointer (some ⟨b,0,none⟩)]] w fun e w' =>e = .returned (.int .i64 (firstLost fs l 0))∧Below w.heap.size w w':=by
 have HB:=Lib.hid (Below.refl w.heap.size w)
 have K0:=Lib.hid hC
 have K4:=Lib.hid hC4
 have HN:=Lib.hid hb
 have HL:=Lib.hid hl
 have hlt:=World.block_lt_of_cell? _ _ hb
 clear hC hb hC4 hl
 go_enter Try.func58,Try.ntmps58
 go_wp2
 go_loopg [8,5] l.length (fun kq v8 v5 w' =>∃ j:Nat,j + kq = l.length∧v8 = .int .i64 j∧Hid (firstLost fs (l.drop j) j = firstLost fs l 0)∧Hid (Below w.heap.size w w'))
 case atStart =>exact ⟨0,by omega,rfl,Lib.hid rfl,HB⟩
 case round =>
  obtain ⟨j,hj,rfl,HI,HB⟩:=hrel
  by_cases hjl:j < l.length
  ·obtain ⟨ad,eA,x0,x1,x2⟩:=a6T (Kd.a0N K4.out HB.out) (j:Int) (Int.natCast_nonneg j) (Int.ofNat_lt.2 hjl)
   subst eA
   rw [Int.toNat_natCast] at x0 x1 x2
   have hw:=pz j (Nat.le_trans (Nat.le_of_lt hjl) hl4)
   obtain ⟨k1,rfl⟩:∃ k1,gk = k1 + 1:=⟨gk - 1,by omega⟩
   have hcall:=Lib.hid (lost_one fs A c (a1R l (j:Int)) b wr hc (Kd.a0N K0.out HB.out) ((HB.out.cell hlt).trans HN.out) HL.out)
   have HD:=Lib.hid (b2I l j hjl)
   cases hbb:lostOp fs (a1R l (j:Int)) with
   | true =>
    rw [hbb] at hcall
    have hres:=Lib.hid (show firstLost fs l 0 = (j:Int) by rw [← HI.out,HD.out];simp only [firstLost,hbb,if_true])
    clear hbb
    go_wp2_with (first
     | (go_at_call 44;with_reducible refine hcall.out.mono ?_;rintro x w1 ⟨rfl,hb1⟩;have HB:=Lib.hid (a0H HB.out hb1);clear hb1))
    go_ret
    exact ⟨by rw [hres.out];rfl,HB.out⟩
   | false =>
    rw [hbb] at hcall
    have hres:=Lib.hid (show firstLost fs (l.drop (j + 1)) (j + 1) = firstLost fs l 0 by rw [← HI.out,HD.out];simp only [firstLost,hbb,Bool.false_eq_true,if_false])
    clear hbb
    go_wp2_with (first
     | (go_at_call 44;with_reducible refine hcall.out.mono ?_;rintro x w1 ⟨rfl,hb1⟩;have HB:=Lib.hid (a0H HB.out hb1);clear hb1))
    go_roundg k1
    case measure =>exact Nat.lt_succ_self _
    case rel =>exact ⟨j + 1,by rw [Nat.add_assoc,Nat.add_comm 1];exact hj,by first | rw [hw] | simp,hres,HB⟩
  ·have hje:j = l.length:=by omega
   have hres:=Lib.hid (show firstLost fs l 0 = -1 by rw [← HI.out,hje,List.drop_of_length_le (Nat.le_refl _)];rfl)
   go_wp2
   go_ret
   exact ⟨by rw [hres.out];rfl,HB.out⟩
theorem a3T (fs:List S32) (A:Option Addr) (c:Nat) (l:List S56) (A4:Option Addr) (c4 b:Nat) (w:World) (hc:fs.length≤c) (hC:Kd.C k32 w A fs.length fs) (hb:w.cell? ⟨b,0,none⟩ = some (.slice A fs.length c)) (hl:fs.length≤1050000)
  (hc4:l.length≤c4) (hC4:Kd.C k56 w A4 l.length l) (hl4:l.length≤1050000) :
  Calls Try.prog 43 #[.slice A4 l.length c4,.func (.func 44) #[] #[.pointer (some ⟨b,0,none⟩)]] w fun e w' =>e = .returned (.bool (l.any (lostOp fs)))∧Below w.heap.size w w':=by
 have HI:=Lib.hid (index_op fs A c l A4 c4 b w hc hC hb hl hc4 hC4 hl4)
 have hres:=b0D fs l 0
 obtain ⟨q,hq⟩:∃ q,q = firstLost fs l 0:=⟨_,rfl⟩
 rw [← hq] at HI hres
 have HR:=Lib.hid hres
 clear hC hC4 hb hq hres
 go_enter Try.func43,Try.ntmps43
 go_wp2_with (first
  | (go_at_call 58;with_reducible refine HI.out.mono ?_;rintro x w1 ⟨rfl,hb1⟩;have HB:=Lib.hid hb1;clear hb1))
 go_ret
 exact ⟨by rw [HR.out];rfl,HB.out⟩
open Go.RowKit Go.Proofs.Ytjiacafeckokeaa.Pr Go.Proofs.YtjiacafeckokeaaW.PrintWords
attribute [local go_sem] Oper.semAt_some
theorem a6E {H:Type} {P:Program} (w:World) {ops:Array Oper} {rest:List Oper} {o:Oper} {a:Act} {Q:Exit→Act→World→Prop}
  (hg:o.guard = none) (m x:Operand) (t:TypeId) (hop:o.op = Op.lookup t m x false)
  (k e:TypeId) (K:Maps.Keyed P k) (ht:P.underlying t = some (.map k e)) (he:P.underlying e = some .bool) (hz:(zeroValue e).run P w = .ok (.bool false) w) (b n:Nat) (D:DataW H)
  (hm:a.eval m = .map (some b)) (hown:w.ownsMap P k (plainElem P e) b n D) (key:Value) (kl:Lit) (hx:a.eval x = key) (hkey:keyOf P k key = some kl) (c:Bool) (hc:D.atKey kl (.lit (.bool false)) = .lit (.bool c))
  (hK:wpList P ops Q rest (a.put o.dst (.bool c)) w) :
  wpList P ops Q (o :: rest) a w:=by
 refine wpList_plain hg fun K' hK' =>?_
 obtain ⟨v,ps,hrun,hv⟩:=hown.lookup K ht hz (plainElem_bool he false) hkey
 rw [hc] at hv
 have hvc:v = .bool c:=by
  unfold plainElem at hv
  rw [he] at hv
  cases v <;> simp at hv
  rw [hv.1]
 subst hvc
 unfold Oper.wp
 simp [execOp,hop,hm,hx,hrun,Result.andThen]
 exact hK' _ _ hK
theorem b0P (w:World):(zeroValue 4).run Try.prog w = .ok (.bool false) w:=by kernel_rfl
def seenD (l:List ByteArray):DataW Unit:=l.foldl (fun D s =>D.put (.string s.data.toList) (.lit (.bool true))) (.map [])
theorem b4X (l:List ByteArray):Maps.IsMap (seenD l):=by
 unfold seenD
 suffices h:∀ (l:List ByteArray) (D:DataW Unit),Maps.IsMap D→Maps.IsMap (l.foldl (fun D s =>D.put (.string s.data.toList) (.lit (.bool true))) D) from h l _ ⟨[],rfl⟩
 intro l
 induction l with
 | nil =>intro D h;exact h
 | cons s r ih =>rintro D ⟨es,rfl⟩;exact ih _ ⟨_,rfl⟩
theorem a9E (l:List ByteArray) (s:ByteArray):seenD (l ++ [s]) = (seenD l).put (.string s.data.toList) (.lit (.bool true)):=by simp [seenD]
def isSeen (l:List ByteArray) (s:ByteArray):Bool:=l.any (fun t =>decide (t.data.toList = s.data.toList))
theorem seenD_at (s:ByteArray):∀ l:List ByteArray,(seenD l).atKey (.string s.data.toList) (.lit (.bool false)) = .lit (.bool (isSeen l s)):=by
 intro l
 suffices h:∀ r:List ByteArray,(seenD r.reverse).atKey (.string s.data.toList) (.lit (.bool false)) = .lit (.bool (isSeen r.reverse s)) by
  have:=h l.reverse;rwa [List.reverse_reverse] at this
 intro r
 induction r with
 | nil =>rfl
 | cons t r ih =>
  rw [List.reverse_cons,a9E]
  by_cases e:t.data.toList = s.data.toList
  ·rw [e,Maps.atKey_put_same (b4X _) (by trivial)]
   simp only [isSeen,List.any_append,List.any_cons,List.any_nil,Bool.or_false,decide_eq_true e,Bool.or_true]
  ·rw [Maps.atKey_put_other (fun h =>e (by injection h with h;exact h.symm)),ih]
   simp only [isSeen,List.any_append,List.any_cons,List.any_nil,Bool.or_false,decide_eq_false e]
def twiceFrom:List ByteArray→List ByteArray→Bool
 | _,[] =>false
 | seen,s :: r =>isSeen seen s || twiceFrom (seen ++ [s]) r
def twiceB (l:List ByteArray):Bool:=twiceFrom [] l
theorem a7G (l:List ByteArray) (j:Nat) (h:j < l.length):l.drop j = rdOf ByteArray.empty l (j:Int) :: l.drop (j + 1)∧l.take (j + 1) = l.take j ++ [rdOf ByteArray.empty l (j:Int)]:=by
 have e:rdOf ByteArray.empty l (j:Int) = l[j]:=by unfold rdOf;rw [Int.toNat_natCast,List.getD_eq_getElem?_getD,List.getElem?_eq_getElem h];rfl
 rw [e]
 exact ⟨List.drop_eq_getElem_cons h,(List.take_succ_eq_append_getElem h)⟩
set_option maxRecDepth 100000 in
set_option maxHeartbeats 8000000 in
theorem a7A (l:List ByteArray) (A:Option Addr) (c:Nat) (w:World) (hc:l.length≤c) (hC:Kd.C Kd.string w A l.length l) (hl:l.length≤1050000) (hs:∀ i:Nat,(rdOf ByteArray.empty l (i:Int)).size≤maxLen) :
  Calls Try.prog 29 #[.slice A l.length c] w fun e w' =>e = .returned (.bool (twiceB l))∧Below w.heap.size w w':=by
 have K0:=Lib.hid hC
 have HS:=Lib.hid hs
 clear hC hs
 have hmm:=@run_makeMap Try.prog
 go_enter Try.func29,Try.ntmps29
 go_wp2
 go_loopg [9,5] l.length (fun kq v9 v5 w' =>∃ j:Nat,j + kq = l.length∧v9 = .int .i64 j∧Hid (twiceFrom (l.take j) (l.drop j) = twiceB l)∧Hid (w'.ownsMap Try.prog 9 (plainElem Try.prog 4) w.heap.size j (seenD (l.take j)))∧Hid (Below w.heap.size w w'))
 case atStart =>exact ⟨0,by omega,rfl,Lib.hid rfl,Lib.hid (World.ownsMap_made w _ _ _),Lib.hid (a0D (Below.refl _ _) _)⟩
 case round =>
  obtain ⟨j,hj,rfl,HI,HM,HB⟩:=hrel
  by_cases hjl:j < l.length
  ·obtain ⟨ad,eA,x0⟩:=Kd.a2D (Kd.a0N K0.out HB.out) (j:Int) (Int.natCast_nonneg j) (Int.ofNat_lt.2 hjl)
   subst eA
   rw [Int.toNat_natCast] at x0
   have hw:=pz j (Nat.le_trans (Nat.le_of_lt hjl) hl)
   obtain ⟨k1,rfl⟩:∃ k1,gk = k1 + 1:=⟨gk - 1,by omega⟩
   obtain ⟨hd,htk⟩:=a7G l j hjl
   have hk:=Lib.hid (WideMaps.keyOf_string_mk (P:=Try.prog) Try.underlying9 (HS.out j))
   have hat:=Lib.hid (seenD_at (rdOf ByteArray.empty l (j:Int)) (l.take j))
   have hlt:j < maxLen:=Nat.lt_of_lt_of_le hjl (Nat.le_trans hl (by decide))
   cases hbb:isSeen (l.take j) (rdOf ByteArray.empty l (j:Int)) with
   | true =>
    rw [hbb] at hat
    have hres:=Lib.hid (show twiceB l = true by rw [← HI.out,hd];simp [twiceFrom,hbb])
    clear hbb hd htk
    go_wp2_with (first
     | (at_lookup;((refine a6E _ rfl _ _ _ rfl 9 4 (Maps.string_keyed Try.underlying9) Try.underlying71 Try.underlying4 (b0P _) w.heap.size j _ rfl HM.out _ _ rfl hk.out true hat.out ?_))))
    go_ret
    exact ⟨by rw [hres.out];rfl,HB.out⟩
   | false =>
    rw [hbb] at hat
    have hres:=Lib.hid (show twiceFrom (l.take (j + 1)) (l.drop (j + 1)) = twiceB l by rw [← HI.out,hd,htk];simp [twiceFrom,hbb])
    have htk':=Lib.hid htk
    clear hbb hd htk
    go_wp2_with (first
     | (at_lookup;((refine a6E _ rfl _ _ _ rfl 9 4 (Maps.string_keyed Try.underlying9) Try.underlying71 Try.underlying4 (b0P _) w.heap.size j _ rfl HM.out _ _ rfl hk.out false hat.out ?_)))
     | (at_mapUpdate;refine wpList_mapUpdate_own _ rfl _ _ _ _ rfl 9 4 (Maps.string_keyed Try.underlying9) Try.underlying71 _ w.heap.size j _ rfl HM.out hlt _ _ _ rfl rfl hk.out (.lit (.bool true)) [] (plainElem_bool Try.underlying4 true) ?_;intro w1 hown1 hgrow1;have HM1:=Lib.hid hown1;have HB1:=Lib.hid (HB.out.grown hgrow1 HB.out.size (fun k e =>by cases e;exact Nat.le_refl _));clear hown1 hgrow1))
    go_roundg k1
    case measure =>exact Nat.lt_succ_self _
    case rel =>exact ⟨j + 1,by rw [Nat.add_assoc,Nat.add_comm 1];exact hj,by first | rw [hw] | simp,hres,Lib.hid (by rw [htk'.out,a9E];exact HM1.out),HB1⟩
  ·have hje:j = l.length:=by omega
   have hres:=Lib.hid (show twiceB l = false by rw [← HI.out,hje,List.drop_of_length_le (Nat.le_refl _)];rfl)
   go_wp2
   go_ret
   exact ⟨by rw [hres.out];rfl,HB.out⟩
open Go.RowKit Go.Proofs.Ytjiacafeckokeaa.Pr Go.Proofs.YtjiacafeckokeaaW.PrintWords
attribute [local go_sem] Oper.semAt_some
def stmtB (fs:List S32) (s:S46):Int :=
 if s.f0 = 4∧twiceB s.f5 = true then 50
 else if s.f4.any (lostOp fs) = true then 51
 else if s.f0 = 5 then (if funIx fs s.f3 < 0 then 51 else if (a0P fs (funIx fs s.f3)).f1.length = s.f4.length then 0 else 52)
 else 0
theorem b3Y (nm:ByteArray):∀ (l:List S32) (i:Nat),firstIx nm l i < ((i + l.length:Nat):Int)∧(firstIx nm l i < 0→firstIx nm l i = -1):=by
 intro l
 induction l with
 | nil =>intro i;unfold firstIx;exact ⟨by omega,fun _ =>rfl⟩
 | cons f r ih =>
  intro i
  unfold firstIx
  split
  ·exact ⟨by simp only [List.length_cons];omega,fun h =>by omega⟩
  ·have:=ih (i + 1)
   refine ⟨?_,this.2⟩
   have h1:=this.1
   simp only [List.length_cons]
   omega
theorem a8C (l:List S32) (nm:ByteArray):funIx l nm < (l.length:Int):=by have:=(b3Y nm l 0).1;unfold funIx;omega
structure StB (B:Nat) (A:Option Addr) (n c:Nat) (s:S46) (A4 A5:Option Addr) (c4 c5:Nat) (W:World):Prop where
 p:W.cell? ⟨B,0,none⟩ = some (.slice A n c)
 s0:W.cell? ⟨B + 1,0,none⟩ = some (.int .i64 s.f0)
 s3:W.cell? ⟨B + 1,3,none⟩ = some (.string s.f3)
 s4:W.cell? ⟨B + 1,4,none⟩ = some (.slice A4 s.f4.length c4)
 s5:W.cell? ⟨B + 1,5,none⟩ = some (.slice A5 s.f5.length c5)
theorem StB.below {B:Nat} {A:Option Addr} {n c:Nat} {s:S46} {A4 A5:Option Addr} {c4 c5:Nat} {W W':World} (h:StB B A n c s A4 A5 c4 c5 W) (hb:Below W.heap.size W W'):StB B A n c s A4 A5 c4 c5 W' :=
 ⟨(hb.cell (World.block_lt_of_cell? _ _ h.p)).trans h.p,(hb.cell (World.block_lt_of_cell? _ _ h.s0)).trans h.s0,(hb.cell (World.block_lt_of_cell? _ _ h.s3)).trans h.s3,(hb.cell (World.block_lt_of_cell? _ _ h.s4)).trans h.s4,(hb.cell (World.block_lt_of_cell? _ _ h.s5)).trans h.s5⟩
set_option maxRecDepth 100000 in
set_option maxHeartbeats 8000000 in
theorem stmt_any (fs:List S32) (A:Option Addr) (c:Nat) (s:S46) (A4 A5 A6 A7:Option Addr) (c4 c5 n6 c6 n7 c7:Nat) (w:World) (hc:fs.length≤c) (hC:Kd.C k32 w A fs.length fs) (hl:fs.length≤1050000)
  (hc4:s.f4.length≤c4) (hC4:Kd.C k56 w A4 s.f4.length s.f4) (hl4:s.f4.length≤1050000) (hc5:s.f5.length≤c5) (hC5:Kd.C Kd.string w A5 s.f5.length s.f5) (hl5:s.f5.length≤1050000) (hs5:∀ i:Nat,(rdOf ByteArray.empty s.f5 (i:Int)).size≤maxLen) :
  Calls Try.prog 30 #[.agg #[.slice A fs.length c],.agg #[.int .i64 s.f0,.string s.f1,.string s.f2,.string s.f3,.slice A4 s.f4.length c4,.slice A5 s.f5.length c5,.slice A6 n6 c6,.slice A7 n7 c7]] w
   fun e w' =>e = .returned (.int .i64 (stmtB fs s))∧Below w.heap.size w w':=by
 have K0:=Lib.hid hC
 have K4:=Lib.hid hC4
 have K5:=Lib.hid hC5
 have HL:=Lib.hid hl
 have HS5:=Lib.hid hs5
 clear hC hC4 hC5 hs5
 go_enter Try.func30,Try.ntmps30
 go_upto_region 1 with (fail)
 have hb0:=a0D (a0D (Below.refl w.heap.size w) (.cells #[.slice A fs.length c] 24)) (.cells #[.int .i64 s.f0,.string s.f1,.string s.f2,.string s.f3,.slice A4 s.f4.length c4,.slice A5 s.f5.length c5,.slice A6 n6 c6,.slice A7 n7 c7] 46)
 have hst:StB w.heap.size A fs.length c s A4 A5 c4 c5 ((w.alloc (.cells #[.slice A fs.length c] 24)).alloc (.cells #[.int .i64 s.f0,.string s.f1,.string s.f2,.string s.f3,.slice A4 s.f4.length c4,.slice A5 s.f5.length c5,.slice A6 n6 c6,.slice A7 n7 c7] 46)):=by
  constructor <;> go_simp
 generalize hW:(w.alloc (.cells #[.slice A fs.length c] 24)).alloc (.cells #[.int .i64 s.f0,.string s.f1,.string s.f2,.string s.f3,.slice A4 s.f4.length c4,.slice A5 s.f5.length c5,.slice A6 n6 c6,.slice A7 n7 c7] 46) = W at hb0 hst ⊢
 clear hW
 have HB:=Lib.hid hb0
 have HST:=Lib.hid hst
 have cs0:=hst.s0
 have cs5:=hst.s5
 have cs4:=hst.s4
 clear hb0 hst
 by_cases h4:s.f0 = 4
 ·have h4':(s.f0 == 4) = true:=by simpa using h4
  cases hT:twiceB s.f5 with
  | true =>
   have hres:=Lib.hid (show stmtB fs s = 50 by simp [stmtB,h4,hT])
   have HT:=Lib.hid hT
   clear hT h4
   go_wp2_with (first
    | (go_at_call 29;((refine (a7A s.f5 A5 c5 _ hc5 (Kd.a0N K5.out HB.out) hl5 HS5.out).mono ?_));rw [HT.out];rintro e Y ⟨rfl,hb⟩;clear cs0 cs4 cs5;have HB:=Lib.hid (a0H HB.out hb);have HST:=Lib.hid (HST.out.below hb);have cs0:=HST.out.s0;have cs4:=HST.out.s4;have cs5:=HST.out.s5;have cs3:=HST.out.s3;have csp:=HST.out.p;clear hb))
   go_ret
   exact ⟨by rw [hres.out];rfl,by first | exact HB.out | (apply a0B;exact HB.out)⟩
  | false =>
   cases hA:s.f4.any (lostOp fs) with
   | true =>
    have hres:=Lib.hid (show stmtB fs s = 51 by simp [stmtB,h4,hA,hT])
    have HA:=Lib.hid hA
    have HT:=Lib.hid hT
    clear hA h4 hT
    go_wp2_with (first
     | (go_at_call 29;((refine (a7A s.f5 A5 c5 _ hc5 (Kd.a0N K5.out HB.out) hl5 HS5.out).mono ?_));rw [HT.out];rintro e Y ⟨rfl,hb⟩;clear cs0 cs4 cs5;have HB:=Lib.hid (a0H HB.out hb);have HST:=Lib.hid (HST.out.below hb);have cs0:=HST.out.s0;have cs4:=HST.out.s4;have cs5:=HST.out.s5;have cs3:=HST.out.s3;have csp:=HST.out.p;clear hb)
     | (go_at_call 43;((refine (a3T fs A c s.f4 A4 c4 w.heap.size _ hc (Kd.a0N K0.out HB.out) HST.out.p HL.out hc4 (Kd.a0N K4.out HB.out) hl4).mono ?_));rw [HA.out];rintro e Y ⟨rfl,hb⟩;clear cs0 cs4 cs5;have HB:=Lib.hid (a0H HB.out hb);have HST:=Lib.hid (HST.out.below hb);have cs0:=HST.out.s0;have cs4:=HST.out.s4;have cs5:=HST.out.s5;have cs3:=HST.out.s3;have csp:=HST.out.p;clear hb))
    go_ret
    exact ⟨by rw [hres.out];rfl,by first | exact HB.out | (apply a0B;exact HB.out)⟩
   | false =>
    have HA:=Lib.hid hA
    have HT:=Lib.hid hT
    have hres:=Lib.hid (show stmtB fs s = 0 by simp [stmtB,h4,hA,hT])
    have hn5:(s.f0 != 5) = true:=by simp [h4]
    clear hA h4 hT
    go_wp2_with (first
     | (go_at_call 29;((refine (a7A s.f5 A5 c5 _ hc5 (Kd.a0N K5.out HB.out) hl5 HS5.out).mono ?_));rw [HT.out];rintro e Y ⟨rfl,hb⟩;clear cs0 cs4 cs5;have HB:=Lib.hid (a0H HB.out hb);have HST:=Lib.hid (HST.out.below hb);have cs0:=HST.out.s0;have cs4:=HST.out.s4;have cs5:=HST.out.s5;have cs3:=HST.out.s3;have csp:=HST.out.p;clear hb)
     | (go_at_call 43;((refine (a3T fs A c s.f4 A4 c4 w.heap.size _ hc (Kd.a0N K0.out HB.out) HST.out.p HL.out hc4 (Kd.a0N K4.out HB.out) hl4).mono ?_));rw [HA.out];rintro e Y ⟨rfl,hb⟩;clear cs0 cs4 cs5;have HB:=Lib.hid (a0H HB.out hb);have HST:=Lib.hid (HST.out.below hb);have cs0:=HST.out.s0;have cs4:=HST.out.s4;have cs5:=HST.out.s5;have cs3:=HST.out.s3;have csp:=HST.out.p;clear hb))
    go_ret
    exact ⟨by rw [hres.out];rfl,by first | exact HB.out | (apply a0B;exact HB.out)⟩
 ·have h4':(s.f0 == 4) = false:=by simpa using h4
  cases hA:s.f4.any (lostOp fs) with
  | true =>
   have hres:=Lib.hid (show stmtB fs s = 51 by simp [stmtB,h4,hA])
   have HA:=Lib.hid hA
   clear hA h4
   go_wp2_with (first
    | (go_at_call 43;((refine (a3T fs A c s.f4 A4 c4 w.heap.size _ hc (Kd.a0N K0.out HB.out) HST.out.p HL.out hc4 (Kd.a0N K4.out HB.out) hl4).mono ?_));rw [HA.out];rintro e Y ⟨rfl,hb⟩;clear cs0 cs4 cs5;have HB:=Lib.hid (a0H HB.out hb);have HST:=Lib.hid (HST.out.below hb);have cs0:=HST.out.s0;have cs4:=HST.out.s4;have cs5:=HST.out.s5;have cs3:=HST.out.s3;have csp:=HST.out.p;clear hb))
   go_ret
   exact ⟨by rw [hres.out];rfl,by first | exact HB.out | (apply a0B;exact HB.out)⟩
  | false =>
   have HA:=Lib.hid hA
   by_cases h5:s.f0 = 5
   ·have hn5:(s.f0 != 5) = false:=by simp [h5]
    obtain ⟨q,hq⟩:∃ q,q = funIx fs s.f3:=⟨_,rfl⟩
    have HQ:=Lib.hid hq
    by_cases h0:q < 0
    ·have h0b:decide (q < 0) = true:=decide_eq_true h0
     have hres:=Lib.hid (show stmtB fs s = 51 by rw [hq] at h0;simp [stmtB,h4,h5,hA,h0])
     clear hA h4 h5 hq h0
     go_wp2_with (first
      | (go_at_call 43;((refine (a3T fs A c s.f4 A4 c4 w.heap.size _ hc (Kd.a0N K0.out HB.out) HST.out.p HL.out hc4 (Kd.a0N K4.out HB.out) hl4).mono ?_));rw [HA.out];rintro e Y ⟨rfl,hb⟩;clear cs0 cs4 cs5;have HB:=Lib.hid (a0H HB.out hb);have HST:=Lib.hid (HST.out.below hb);have cs0:=HST.out.s0;have cs4:=HST.out.s4;have cs5:=HST.out.s5;have cs3:=HST.out.s3;have csp:=HST.out.p;clear hb)
      | (go_at_call 15;((refine (a4Y fs A c s.f3 _ hc (Kd.a0N K0.out HB.out) HL.out).mono ?_));rw [← HQ.out];rintro e Y ⟨rfl,hb⟩;clear cs0 cs4 cs5;have HB:=Lib.hid (a0H HB.out hb);have HST:=Lib.hid (HST.out.below hb);have cs0:=HST.out.s0;have cs4:=HST.out.s4;have cs5:=HST.out.s5;have cs3:=HST.out.s3;have csp:=HST.out.p;clear hb))
     go_ret
     exact ⟨by rw [hres.out];rfl,by first | exact HB.out | (apply a0B;exact HB.out)⟩
    ·have h0b:decide (q < 0) = false:=decide_eq_false h0
     have p0:0≤q:=Int.not_lt.1 h0
     have p1:q < (fs.length:Int):=by rw [hq];exact a8C fs s.f3
     obtain ⟨ad,A1,c1,A2,c2,eA,_,x1,_⟩:=a3N K0.out q p0 p1
     subst eA
     have X1:=Lib.hid x1
     clear x1
     by_cases he:(a0P fs q).f1.length = s.f4.length
     ·have hne:(((a0P fs q).f1.length:Int) != (s.f4.length:Int)) = false:=by simp [he]
      have hres:=Lib.hid (show stmtB fs s = 0 by rw [hq] at h0 he;simp [stmtB,h4,h5,hA,h0,he])
      clear hA h4 h5 hq h0 he
      go_wp2_with (first
       | (go_at_call 43;((refine (a3T fs (some ad) c s.f4 A4 c4 w.heap.size _ hc (Kd.a0N K0.out HB.out) HST.out.p HL.out hc4 (Kd.a0N K4.out HB.out) hl4).mono ?_));rw [HA.out];rintro e Y ⟨rfl,hb⟩;clear cs0 cs4 cs5;have HB:=Lib.hid (a0H HB.out hb);have HST:=Lib.hid (HST.out.below hb);have cs0:=HST.out.s0;have cs4:=HST.out.s4;have cs5:=HST.out.s5;have cs3:=HST.out.s3;have csp:=HST.out.p;clear hb)
       | (go_at_call 15;((refine (a4Y fs (some ad) c s.f3 _ hc (Kd.a0N K0.out HB.out) HL.out).mono ?_));rw [← HQ.out];rintro e Y ⟨rfl,hb⟩;clear cs0 cs4 cs5;have HB:=Lib.hid (a0H HB.out hb);have HST:=Lib.hid (HST.out.below hb);have cs0:=HST.out.s0;have cs4:=HST.out.s4;have cs5:=HST.out.s5;have cs3:=HST.out.s3;have csp:=HST.out.p;clear hb;have x1:=(HB.out.cell (World.block_lt_of_cell? _ _ X1.out)).trans X1.out)
       | go_quiet (fail))
      go_ret
      exact ⟨by rw [hres.out];rfl,by first | exact HB.out | (apply a0B;exact HB.out)⟩
     ·have hne:(((a0P fs q).f1.length:Int) != (s.f4.length:Int)) = true:=by simp;omega
      have hres:=Lib.hid (show stmtB fs s = 52 by rw [hq] at h0 he;simp [stmtB,h4,h5,hA,h0,he])
      clear hA h4 h5 hq h0 he
      go_wp2_with (first
       | (go_at_call 43;((refine (a3T fs (some ad) c s.f4 A4 c4 w.heap.size _ hc (Kd.a0N K0.out HB.out) HST.out.p HL.out hc4 (Kd.a0N K4.out HB.out) hl4).mono ?_));rw [HA.out];rintro e Y ⟨rfl,hb⟩;clear cs0 cs4 cs5;have HB:=Lib.hid (a0H HB.out hb);have HST:=Lib.hid (HST.out.below hb);have cs0:=HST.out.s0;have cs4:=HST.out.s4;have cs5:=HST.out.s5;have cs3:=HST.out.s3;have csp:=HST.out.p;clear hb)
       | (go_at_call 15;((refine (a4Y fs (some ad) c s.f3 _ hc (Kd.a0N K0.out HB.out) HL.out).mono ?_));rw [← HQ.out];rintro e Y ⟨rfl,hb⟩;clear cs0 cs4 cs5;have HB:=Lib.hid (a0H HB.out hb);have HST:=Lib.hid (HST.out.below hb);have cs0:=HST.out.s0;have cs4:=HST.out.s4;have cs5:=HST.out.s5;have cs3:=HST.out.s3;have csp:=HST.out.p;clear hb;have x1:=(HB.out.cell (World.block_lt_of_cell? _ _ X1.out)).trans X1.out)
       | go_quiet (fail))
      go_ret
      exact ⟨by rw [hres.out];rfl,by first | exact HB.out | (apply a0B;exact HB.out)⟩
   ·have hn5:(s.f0 != 5) = true:=by simpa using h5
    have hres:=Lib.hid (show stmtB fs s = 0 by simp [stmtB,h4,h5,hA])
    clear hA h4 h5
    go_wp2_with (first
     | (go_at_call 43;((refine (a3T fs A c s.f4 A4 c4 w.heap.size _ hc (Kd.a0N K0.out HB.out) HST.out.p HL.out hc4 (Kd.a0N K4.out HB.out) hl4).mono ?_));rw [HA.out];rintro e Y ⟨rfl,hb⟩;clear cs0 cs4 cs5;have HB:=Lib.hid (a0H HB.out hb);have HST:=Lib.hid (HST.out.below hb);have cs0:=HST.out.s0;have cs4:=HST.out.s4;have cs5:=HST.out.s5;have cs3:=HST.out.s3;have csp:=HST.out.p;clear hb))
    go_ret
    exact ⟨by rw [hres.out];rfl,by first | exact HB.out | (apply a0B;exact HB.out)⟩
open Go.RowKit Go.Shelf Go.Proofs.Ytjiacafeckokeaa.Pr Go.Proofs.YtjiacafeckokeaaW.PrintWords
attribute [local go_sem] Oper.semAt_some
theorem a1U {F:Fence} {n:Nat} {P:Program} {ops:Array Oper} {Q:Exit→Act→World→Prop} {i:Nat} {K:Act→World→Prop} {a:Act} {w w':World} {o:Oper} {r:Value}
  (ho:ops[i]? = some o) (hg:o.guard = none) (hd:∀ c,o.op≠.defer c) (hab:o.about P w a.eval = none)
  (hrun:(execOp a.eval o).run P w = .ok (.value r) w') (hK:K (a.put o.dst r) w'):wpOpIn F n P ops Q i K a w:=by
 unfold wpOpIn
 simp only [ho,Region.wanted,hg,if_true]
 refine ⟨fun f h =>(by rw [hab] at h;cases h),?_⟩
 rw [Oper.semAt_eq _ _ _ hd,hrun]
 exact hK
theorem b1U {F:Fence} {n:Nat} {P:Program} {ops:Array Oper} {Q:Exit→Act→World→Prop} {i:Nat} {K:Act→World→Prop} {a:Act} {w w':World} {o:Oper}
  (ho:ops[i]? = some o) (hg:o.guard = none) (hd:∀ c,o.op≠.defer c) (hab:o.about P w a.eval = none)
  (hrun:(execOp a.eval o).run P w = .ok .skip w') (hK:K (a.put o.dst undef) w'):wpOpIn F n P ops Q i K a w:=by
 unfold wpOpIn
 simp only [ho,Region.wanted,hg,if_true]
 refine ⟨fun f h =>(by rw [hab] at h;cases h),?_⟩
 rw [Oper.semAt_eq _ _ _ hd,hrun]
 exact hK
def dstOf (ops:Array Oper) (j:Nat):Option Tmp:=(ops[j]?).bind (·.dst)
def flowOk (ops:Array Oper) (n:Nat):Bool :=
 (List.range ops.size).all fun i =>(match dstOf ops i with | none =>true | some d =>decide (d < n)) &&
  (List.range ops.size).all fun j =>i == j || (dstOf ops i).isNone || !((dstOf ops i) == (dstOf ops j))
def putTmps (ops:Array Oper) (val:Nat→Value) (t:Array Value):Nat→Array Value
 | 0 =>t
 | j + 1 =>match dstOf ops j with
  | some d =>(putTmps ops val t j).setIfInBounds d (val j)
  | none =>putTmps ops val t j
def waitsOk (ops:Array Oper):Bool:=(List.range ops.size).all fun i =>match ops[i]? with
 | some o =>o.after.all fun e =>!Region.binds .any e || decide (e.on < i)
 | none =>true
structure Agrees (ops:Array Oper) (base:Act) (val:Nat→Value) (done:Nat→Bool) (a:Act):Prop where
 defers:a.defers = base.defers
 size:a.tmps.size = base.tmps.size
 has:∀ j d,dstOf ops j = some d→done j = true→a.tmps.getD d undef = val j
 other:∀ t,(∀ j,dstOf ops j≠some t)→a.tmps.getD t undef = base.tmps.getD t undef
def upd (done:Nat→Bool) (i:Nat):Nat→Bool:=fun j =>if j = i then true else done j
theorem b5R {ops:Array Oper} {n:Nat} (h:flowOk ops n = true) {j d:Nat} (hd:dstOf ops j = some d):d < n:=by
 have hj:j < ops.size:=by
  by_cases hj:j < ops.size
  ·exact hj
  ·simp [dstOf,Array.getElem?_eq_none (Nat.le_of_not_lt hj)] at hd
 have:=List.all_eq_true.1 h j (List.mem_range.2 hj)
 simp only [hd,Bool.and_eq_true,decide_eq_true_eq] at this
 exact this.1
theorem a8E {ops:Array Oper} {n:Nat} (h:flowOk ops n = true) {i j d:Nat} (hi:dstOf ops i = some d) (hj:dstOf ops j = some d):i = j:=by
 have lt:∀ {k:Nat},dstOf ops k = some d→k < ops.size:=fun {k} hk =>by
  by_cases hj:k < ops.size
  ·exact hj
  ·simp [dstOf,Array.getElem?_eq_none (Nat.le_of_not_lt hj)] at hk
 have:=List.all_eq_true.1 h i (List.mem_range.2 (lt hi))
 simp only [Bool.and_eq_true] at this
 have:=List.all_eq_true.1 this.2 j (List.mem_range.2 (lt hj))
 rw [hi,hj] at this
 simpa using this
theorem b0B (t:Array Value) (d:Nat) (v:Value) (k:Nat):(t.setIfInBounds d v).getD k undef = if k = d∧d < t.size then v else t.getD k undef:=by
 rw [Array.getD_eq_getD_getElem?,Array.getD_eq_getD_getElem?,Array.getElem?_setIfInBounds]
 by_cases h:d = k
 ·subst h
  by_cases h2:d < t.size
  ·simp [h2]
  ·simp [h2]
 ·rw [if_neg h,if_neg (fun e =>h e.1.symm)]
theorem Agrees.put {ops:Array Oper} {base:Act} {val:Nat→Value} {done:Nat→Bool} {a:Act} (hok:flowOk ops base.tmps.size = true) (h:Agrees ops base val done a) (i:Nat) {o:Oper} (ho:ops[i]? = some o) :
  Agrees ops base val (upd done i) (a.put o.dst (val i)):=by
 have hdi:dstOf ops i = o.dst:=by simp [dstOf,ho]
 cases hd:o.dst with
 | none =>
  refine ⟨h.defers,h.size,fun j d hj hdn =>?_,h.other⟩
  refine h.has j d hj ?_
  unfold upd at hdn
  split at hdn
  ·rename_i e;subst e;rw [hdi,hd] at hj;cases hj
  ·exact hdn
 | some d =>
  rw [hd] at hdi
  refine ⟨h.defers,by simp [Act.put,h.size],fun j d' hj hdn =>?_,fun t ht =>?_⟩
  ·simp only [Act.put,b0B]
   by_cases e:d' = d
   ·subst e
    obtain rfl:=a8E hok hj hdi
    rw [if_pos ⟨rfl,by rw [h.size];exact b5R hok hdi⟩]
   ·rw [if_neg (fun x =>e x.1)]
    refine h.has j d' hj ?_
    unfold upd at hdn
    split at hdn
    ·rename_i e2;subst e2;rw [hdi] at hj;cases hj;exact absurd rfl e
    ·exact hdn
  ·simp only [Act.put,b0B]
   rw [if_neg (fun x =>ht i (by rw [hdi,x.1]))]
   exact h.other t ht
theorem a7U (ops:Array Oper) (val:Nat→Value) (t:Array Value) (n:Nat):(putTmps ops val t n).size = t.size:=by
 induction n with
 | zero =>rfl
 | succ n ih =>unfold putTmps;split <;> simp [ih]
theorem b2A {ops:Array Oper} {N:Nat} (hok:flowOk ops N = true) (val:Nat→Value) (t:Array Value) (hN:t.size = N):∀ n k,(putTmps ops val t n).getD k undef = if h:∃ j,j < n∧dstOf ops j = some k then val (Classical.choose h) else t.getD k undef:=by
 intro n
 induction n with
 | zero =>intro k;rw [dif_neg (by rintro ⟨j,hj,_⟩;omega)];rfl
 | succ n ih =>
  intro k
  unfold putTmps
  cases hd:dstOf ops n with
  | none =>
   simp only [ih]
   have:(∃ j,j < n∧dstOf ops j = some k) ↔ (∃ j,j < n + 1∧dstOf ops j = some k) :=
    ⟨fun ⟨j,h1,h2⟩ =>⟨j,by omega,h2⟩,fun ⟨j,h1,h2⟩ =>⟨j,by (have:j≠n:=fun e =>(by subst e;rw [hd] at h2;cases h2));omega,h2⟩⟩
   by_cases hh:∃ j,j < n∧dstOf ops j = some k
   ·rw [dif_pos hh,dif_pos (this.1 hh)]
    congr 1
    exact a8E hok (Classical.choose_spec hh).2 (Classical.choose_spec (this.1 hh)).2
   ·rw [dif_neg hh,dif_neg (fun h =>hh (this.2 h))]
  | some d =>
   simp only [b0B,a7U]
   by_cases e:k = d
   ·subst e
    have hh:∃ j,j < n + 1∧dstOf ops j = some k:=⟨n,by omega,hd⟩
    rw [if_pos ⟨rfl,by rw [hN];exact b5R hok hd⟩,dif_pos hh]
    congr 1
    exact a8E hok hd (Classical.choose_spec hh).2
   ·rw [if_neg (fun x =>e x.1),ih]
    have:(∃ j,j < n∧dstOf ops j = some k) ↔ (∃ j,j < n + 1∧dstOf ops j = some k) :=
     ⟨fun ⟨j,h1,h2⟩ =>⟨j,by omega,h2⟩,fun ⟨j,h1,h2⟩ =>⟨j,by (have:j≠n:=fun e' =>(by subst e';rw [hd] at h2;cases h2;exact e rfl));omega,h2⟩⟩
    by_cases hh:∃ j,j < n∧dstOf ops j = some k
    ·rw [dif_pos hh,dif_pos (this.1 hh)]
     congr 1
     exact a8E hok (Classical.choose_spec hh).2 (Classical.choose_spec (this.1 hh)).2
    ·rw [dif_neg hh,dif_neg (fun h =>hh (this.2 h))]
theorem Agrees.all {ops:Array Oper} {base:Act} {val:Nat→Value} {done:Nat→Bool} {a:Act} (hok:flowOk ops base.tmps.size = true) (h:Agrees ops base val done a) (hd:∀ j,j < ops.size→done j = true) :
  a = { tmps:=putTmps ops val base.tmps ops.size,defers:=base.defers }:=by
 obtain ⟨at_,ad⟩:=a
 have h1:=h.defers
 have h2:=h.size
 simp only at h1 h2
 subst h1
 congr 1
 apply Array.ext
 ·rw [a7U];exact h2
 ·intro k k1 k2
  have e1:at_[k] = at_.getD k undef:=by simp [k1]
  have e2:(putTmps ops val base.tmps ops.size)[k] = (putTmps ops val base.tmps ops.size).getD k undef:=by rw [Array.getD_eq_getD_getElem?,Array.getElem?_eq_getElem k2];rfl
  rw [e1,e2,b2A hok val base.tmps rfl]
  by_cases hh:∃ j,j < ops.size∧dstOf ops j = some k
  ·rw [dif_pos hh]
   exact h.has _ k (Classical.choose_spec hh).2 (hd _ (Classical.choose_spec hh).1)
  ·rw [dif_neg hh]
   refine h.other k (fun j hj =>hh ⟨j,?_,hj⟩)
   by_cases hlt:j < ops.size
   ·exact hlt
   ·simp [dstOf,Array.getElem?_eq_none (Nat.le_of_not_lt hlt)] at hj
theorem a7R {F:Fence} {n:Nat} {P:Program} {ops:Array Oper} {Q:Exit→Act→World→Prop} (base:Act) (val:Nat→Value) (S:(Nat→Bool)→World→Prop) (hok:flowOk ops base.tmps.size = true) (hwt:waitsOk ops = true) (w0:World)
  (h0:S (fun _ =>false) w0)
  (hstep:∀ i o done a w,ops[i]? = some o→done i = false→(∀ e ∈ o.after,Region.binds .any e = true→done e.on = true)→Agrees ops base val done a→S done w →
   ∀ K:Act→World→Prop,(∀ w',S (upd done i) w'→K (a.put o.dst (val i)) w')→wpOpIn F n P ops Q i K a w)
  (hend:∀ w done,(∀ j,j < ops.size→done j = true)→S done w→Q .normal { tmps:=putTmps ops val base.tmps ops.size,defers:=base.defers } w) :
  wpAnyIn F n P .any ops Q ops.size (Array.replicate ops.size false) base w0:=by
 refine a8I (fun listed a w =>listed.size = ops.size∧∃ done,(∀ j,j < ops.size→listed[j]? = some (done j))∧Agrees ops base val done a∧S done w) ?_ ?_ _ _ _ _ (by simp [leftOf]) ⟨by simp,fun _ =>false,fun j hj =>by simp [hj],⟨rfl,rfl,fun _ _ _ h =>(by cases h),fun _ _ =>rfl⟩,h0⟩
 ·rintro listed a w i ⟨hs,done,hl,ha,hS⟩ hr
  have hmem:=a7D hr
  have hlt:i < ops.size:=by
   rw [Array.getElem?_toList] at hmem
   have:=(Array.getElem?_eq_some_iff.1 hmem).1
   omega
  have hdi:done i = false:=by
   rw [Array.getElem?_toList,hl i hlt] at hmem;simpa using hmem
  have ho:ops[i]? = some ops[i]:=Array.getElem?_eq_getElem hlt
  refine hstep i ops[i] done a w ho hdi (fun e he hb =>?_) ha hS _ (fun w' hw' =>⟨by simp [hs],upd done i,fun j hj =>?_,ha.put hok i ho,hw'⟩)
  ·have:=(List.mem_filter.1 hr).2
   simp only [Bool.and_eq_true,ho,Option.map_some,Option.getD_some] at this
   have h2:=Array.all_eq_true_iff_forall_mem.1 this.2 e he
   rw [hb] at h2
   simp only [Bool.not_true,Bool.false_or] at h2
   rw [Array.getD_eq_getD_getElem?] at h2
   by_cases hlt2:e.on < ops.size
   ·rw [hl e.on hlt2] at h2;simpa using h2
   ·rw [Array.getElem?_eq_none (by omega)] at h2;simp at h2
  ·rw [Array.getElem?_setIfInBounds]
   by_cases e:i = j
   ·subst e;rw [if_pos rfl,if_pos (by omega)];simp [upd]
   ·rw [if_neg e,hl j hj];simp [upd,Ne.symm e]
 ·rintro listed a w ⟨hs,done,hl,ha,hS⟩ hr
  have hall:∀ j,j < ops.size→done j = true:=by
   intro j
   induction j using Nat.strongRecOn with
   | _ j ih =>
   intro hj
   cases hdj:done j with
   | true =>rfl
   | false =>
    exfalso
    have:j ∈ Region.ready .any ops listed:=by
     unfold Region.ready
     refine List.mem_filter.2 ⟨List.mem_range.2 hj,?_⟩
     simp only [Bool.and_eq_true]
     refine ⟨by rw [Array.getD_eq_getD_getElem?,hl j hj,hdj];rfl,?_⟩
     rw [Array.getElem?_eq_getElem hj]
     simp only [Option.map_some,Option.getD_some]
     refine Array.all_eq_true_iff_forall_mem.2 fun e he =>?_
     have hw:=List.all_eq_true.1 hwt j (List.mem_range.2 hj)
     rw [Array.getElem?_eq_getElem hj] at hw
     have hw2:=Array.all_eq_true_iff_forall_mem.1 hw e he
     cases hb:Region.binds .any e with
     | false =>simp
     | true =>
      rw [hb] at hw2
      simp only [Bool.not_true,Bool.false_or,decide_eq_true_eq] at hw2
      have hlt:e.on < ops.size:=by omega
      simp only [Bool.not_true,Bool.false_or]
      rw [Array.getD_eq_getD_getElem?,hl e.on hlt,ih e.on hw2 hlt];rfl
    rw [hr] at this;cases this
  rw [ha.all hok hall]
  exact hend w done hall hS
theorem Agrees.keep {ops:Array Oper} {base:Act} {val:Nat→Value} {done:Nat→Bool} {a:Act} (h:Agrees ops base val done a) (t:Tmp) (hc:((List.range ops.size).all fun j =>!(dstOf ops j == some t)) = true):a.eval (.tmp t) = base.eval (.tmp t) :=
 h.other t (fun j hj =>by
  have hlt:j < ops.size:=by
   by_cases hlt:j < ops.size
   ·exact hlt
   ·simp [dstOf,Array.getElem?_eq_none (Nat.le_of_not_lt hlt)] at hj
  have:=List.all_eq_true.1 hc j (List.mem_range.2 hlt)
  rw [hj] at this
  simp at this)
theorem Agrees.val_ {ops:Array Oper} {base:Act} {val:Nat→Value} {done:Nat→Bool} {a:Act} (h:Agrees ops base val done a) {j t:Nat} (hj:dstOf ops j = some t) (hd:done j = true):a.eval (.tmp t) = val j:=h.has j t hj hd
theorem a8S {w w1 W W':World} (h:Below W.heap.size W W') (hn:w.heap.size≤W.heap.size):KeepsFrom w1.heap.size W W'∧Kp w.heap.size w1.heap.size none W W'∧Below w.heap.size W W' :=
 ⟨⟨h.size,fun k o _ hk _ =>(h.block k (Array.getElem?_eq_some_iff.1 hk).1).trans hk⟩,⟨h.mono hn,fun _ =>⟨Good.none _,.inl rfl,fun k c _ hk _ _ =>(h.block k (Array.getElem?_eq_some_iff.1 hk).1).trans hk⟩⟩,h.mono hn⟩
theorem a5Y {W W':World} {B:Nat} {t:TypeId} {v:Value} (h:Boxed W B t v) (hb:Below W.heap.size W W'):Boxed W' B t v:=(hb.block B h.lt).trans h
def setv (val:Nat→Value) (i:Nat) (r:Value):Nat→Value:=fun j =>if j = i then r else val j
theorem Agrees.put2 {ops:Array Oper} {base:Act} {val:Nat→Value} {done:Nat→Bool} {a:Act} (hok:flowOk ops base.tmps.size = true) (h:Agrees ops base val done a) (i:Nat) {o:Oper} (ho:ops[i]? = some o) (hd:done i = false) (r:Value) :
  Agrees ops base (setv val i r) (upd done i) (a.put o.dst r):=by
 have h2:Agrees ops base (setv val i r) done a:=⟨h.defers,h.size,fun j d hj hdn =>by
  rw [h.has j d hj hdn];unfold setv;rw [if_neg (fun e =>by subst e;rw [hd] at hdn;cases hdn)],h.other⟩
 have h3:=h2.put hok i ho
 have e:setv val i r i = r:=by simp [setv]
 rw [e] at h3;exact h3
theorem a9Q {F:Fence} {n:Nat} {P:Program} {ops:Array Oper} {Q:Exit→Act→World→Prop} (base:Act) (v0:Nat→Value) (S:(Nat→Bool)→(Nat→Value)→World→Prop) (hok:flowOk ops base.tmps.size = true) (hwt:waitsOk ops = true) (w0:World)
  (h0:S (fun _ =>false) v0 w0)
  (hstep:∀ i o done val a w,ops[i]? = some o→done i = false→(∀ e ∈ o.after,Region.binds .any e = true→done e.on = true)→Agrees ops base val done a→S done val w →
   ∀ K:Act→World→Prop,(∀ r w',S (upd done i) (setv val i r) w'→K (a.put o.dst r) w')→wpOpIn F n P ops Q i K a w)
  (hend:∀ w done val,(∀ j,j < ops.size→done j = true)→S done val w→Q .normal { tmps:=putTmps ops val base.tmps ops.size,defers:=base.defers } w) :
  wpAnyIn F n P .any ops Q ops.size (Array.replicate ops.size false) base w0:=by
 refine a8I (fun listed a w =>listed.size = ops.size∧∃ done val,(∀ j,j < ops.size→listed[j]? = some (done j))∧Agrees ops base val done a∧S done val w) ?_ ?_ _ _ _ _ (by simp [leftOf]) ⟨by simp,fun _ =>false,v0,fun j hj =>by simp [hj],⟨rfl,rfl,fun _ _ _ h =>(by cases h),fun _ _ =>rfl⟩,h0⟩
 ·rintro listed a w i ⟨hs,done,val,hl,ha,hS⟩ hr
  have hmem:=a7D hr
  have hlt:i < ops.size:=by
   rw [Array.getElem?_toList] at hmem
   have:=(Array.getElem?_eq_some_iff.1 hmem).1
   omega
  have hdi:done i = false:=by
   rw [Array.getElem?_toList,hl i hlt] at hmem;simpa using hmem
  have ho:ops[i]? = some ops[i]:=Array.getElem?_eq_getElem hlt
  refine hstep i ops[i] done val a w ho hdi (fun e he hb =>?_) ha hS _ (fun r w' hw' =>⟨by simp [hs],upd done i,setv val i r,fun j hj =>?_,ha.put2 hok i ho hdi r,hw'⟩)
  ·have:=(List.mem_filter.1 hr).2
   simp only [Bool.and_eq_true,ho,Option.map_some,Option.getD_some] at this
   have h2:=Array.all_eq_true_iff_forall_mem.1 this.2 e he
   rw [hb] at h2
   simp only [Bool.not_true,Bool.false_or] at h2
   rw [Array.getD_eq_getD_getElem?] at h2
   by_cases hlt2:e.on < ops.size
   ·rw [hl e.on hlt2] at h2;simpa using h2
   ·rw [Array.getElem?_eq_none (by omega)] at h2;simp at h2
  ·rw [Array.getElem?_setIfInBounds]
   by_cases e:i = j
   ·subst e;rw [if_pos rfl,if_pos (by omega)];simp [upd]
   ·rw [if_neg e,hl j hj];simp [upd,Ne.symm e]
 ·rintro listed a w ⟨hs,done,val,hl,ha,hS⟩ hr
  have hall:∀ j,j < ops.size→done j = true:=by
   intro j
   induction j using Nat.strongRecOn with
   | _ j ih =>
   intro hj
   cases hdj:done j with
   | true =>rfl
   | false =>
    exfalso
    have:j ∈ Region.ready .any ops listed:=by
     unfold Region.ready
     refine List.mem_filter.2 ⟨List.mem_range.2 hj,?_⟩
     simp only [Bool.and_eq_true]
     refine ⟨by rw [Array.getD_eq_getD_getElem?,hl j hj,hdj];rfl,?_⟩
     rw [Array.getElem?_eq_getElem hj]
     simp only [Option.map_some,Option.getD_some]
     refine Array.all_eq_true_iff_forall_mem.2 fun e he =>?_
     have hw:=List.all_eq_true.1 hwt j (List.mem_range.2 hj)
     rw [Array.getElem?_eq_getElem hj] at hw
     have hw2:=Array.all_eq_true_iff_forall_mem.1 hw e he
     cases hb:Region.binds .any e with
     | false =>simp
     | true =>
      rw [hb] at hw2
      simp only [Bool.not_true,Bool.false_or,decide_eq_true_eq] at hw2
      have hlt:e.on < ops.size:=by omega
      simp only [Bool.not_true,Bool.false_or]
      rw [Array.getD_eq_getD_getElem?,hl e.on hlt,ih e.on hw2 hlt];rfl
    rw [hr] at this;cases this
  rw [ha.all hok hall]
  exact hend w done val hall hS
open Go.RowKit Go.Shelf Go.Proofs.Ytjiacafeckokeaa.Pr Go.Proofs.YtjiacafeckokeaaW.PrintWords
attribute [local go_sem] Oper.semAt_some
def faultIn (fs:List S32) (i:Nat):List S46→Nat→Option (Int × Int)
 | [],_ =>none
 | s :: r,n =>if stmtB fs s = 0 then faultIn fs i r (n + 1) else some (stmtB fs s,(i:Int) * 10000 + ((n + 1:Nat):Int))
def checkAt (fs:List S32) (f:S32) (i:Nat):Option (Int × Int) :=
 if ((funIx fs f.f0 != (i:Int)) || twiceB f.f1) = true then some (50,(i:Int) * 10000) else faultIn fs i (flat f.f2) 0
def mainB (fs:List S32):Int × Int :=
 if funIx fs ⟨#[109,97,105,110]⟩ < 0 then (53,-1) else if 0 < (a0P fs (funIx fs ⟨#[109,97,105,110]⟩)).f1.length then (53,-1) else (0,0)
def checkRest (fs:List S32):List S32→Nat→Int × Int
 | [],_ =>mainB fs
 | f :: r,i =>match checkAt fs f i with | some p =>p | none =>checkRest fs r (i + 1)
def checkF (fs:List S32):Int × Int:=checkRest fs fs 0
theorem a6Q (fs:List S32) (i:Nat):∀ (L M:List S46) (n:Nat),faultIn fs i (L ++ M) n = match faultIn fs i L n with | some p =>some p | none =>faultIn fs i M (n + L.length):=by
 intro L
 induction L with
 | nil =>intro M n;rfl
 | cons s r ih =>
  intro M n
  simp only [List.cons_append,faultIn]
  split
  ·rw [ih M (n + 1)];simp only [List.length_cons];rw [show n + 1 + r.length = n + (r.length + 1) by omega]
  ·rfl
def FitS (s:S46):Prop:=s.f4.length≤1050000∧s.f5.length≤1050000∧∀ i:Nat,(rdOf ByteArray.empty s.f5 (i:Int)).size≤maxLen
def FitN (f:S32):Prop:=f.f1.length≤1050000∧(∀ i:Nat,(rdOf ByteArray.empty f.f1 (i:Int)).size≤maxLen)∧(flat f.f2).length≤2000000∧∀ s,s ∈ flat f.f2→FitS s
def FitC (fs:List S32):Prop:=fs.length≤1050000∧∀ f,f ∈ fs→FitN f
theorem b3J {ops:Array Oper} {t:Array Value} {j d:Nat} {b:Bool} (hd:dstOf ops j = some d) (h:t.getD d undef = .bool b):yielded ops t j = some b:=by
 have e:t[d]? = some (.bool b):=by
  rw [Array.getD_eq_getD_getElem?] at h
  cases hh:t[d]? with
  | none =>rw [hh] at h;simp [undef] at h
  | some v =>rw [hh] at h;simp at h;rw [h]
 unfold dstOf at hd
 simp only [yielded,hd,Option.bind_some,e]
theorem b0R {ops:Array Oper} {t:Array Value} {o:Oper} {j d:Nat} {b q:Bool} (hg:o.guard = some (j,q)) (hd:dstOf ops j = some d) (h:t.getD d undef = .bool b):Region.wanted o (yielded ops t) = (b == q):=by
 simp only [Region.wanted,hg,b3J hd h]
 cases b <;> cases q <;> rfl
theorem a6J {ops:Array Oper} {t:Array Value} {o:Oper} {j d:Nat} {b:Bool} (hg:o.guard = some (j,!b)) (hd:dstOf ops j = some d) (h:t.getD d undef = .bool b):Region.wanted o (yielded ops t) = false:=by
 rw [b0R hg hd h];cases b <;> rfl
theorem a6Z {ops:Array Oper} {t:Array Value} {o:Oper} {j d:Nat} {b:Bool} (hg:o.guard = some (j,b)) (hd:dstOf ops j = some d) (h:t.getD d undef = .bool b):Region.wanted o (yielded ops t) = true:=by
 rw [b0R hg hd h];cases b <;> rfl
theorem a7L {F:Fence} {n:Nat} {P:Program} {ops:Array Oper} {Q:Exit→Act→World→Prop} {i:Nat} {K:Act→World→Prop} {a:Act} {w:World} {o:Oper}
  (ho:ops[i]? = some o) (hw:Region.wanted o (yielded ops a.tmps) = false) (hab:∀ f,o.about P w a.eval = some f→F.fn f) (hK:K (a.put o.dst undef) w):wpOpIn F n P ops Q i K a w:=by
 unfold wpOpIn
 simp only [ho,hw,Bool.false_eq_true,if_false]
 exact ⟨hab,hK⟩
theorem a6X {F:Fence} {n:Nat} {P:Program} {ops:Array Oper} {Q:Exit→Act→World→Prop} {i:Nat} {K:Act→World→Prop} {a:Act} {w w':World} {o:Oper} {r:Value}
  (ho:ops[i]? = some o) (hw:Region.wanted o (yielded ops a.tmps) = true) (hd:∀ c,o.op≠.defer c) (hab:o.about P w a.eval = none)
  (hrun:(execOp a.eval o).run P w = .ok (.value r) w') (hK:K (a.put o.dst r) w'):wpOpIn F n P ops Q i K a w:=by
 unfold wpOpIn
 simp only [ho,hw,if_true]
 refine ⟨fun f h =>(by rw [hab] at h;cases h),?_⟩
 rw [Oper.semAt_eq _ _ _ hd,hrun]
 exact hK
theorem a6A {n:Nat} {P:Program} {ops:Array Oper} {Q:Exit→Act→World→Prop} {i:Nat} {K:Act→World→Prop} {a:Act} {w:World} {o:Oper} {f:FuncId} {xs:Array Operand} {ts:Array TypeId} {R:Ending→World→Prop}
  (ho:ops[i]? = some o) (hw:Region.wanted o (yielded ops a.tmps) = true) (hop:o.op = .call { callee:=.value (.func f),args:=xs,argTypes:=ts }) (eg:∀ args w,(callFunc f args).run P w = .ok (.enter f args) w)
  (hcall:Calls P f (xs.map a.eval) w R) (hK:∀ e w',R e w'→∃ v,e = .returned v∧K (a.put o.dst v) w'):wpOpIn Fence.wide n P ops Q i K a w:=by
 unfold wpOpIn
 simp only [ho,hw,if_true]
 refine ⟨fun f h =>trivial,?_⟩
 rw [Oper.semAt_eq _ _ _ (by rw [hop];intro c h;cases h)]
 have hrun:(execOp a.eval o).run P w = .ok (.enter f (xs.map a.eval)) w:=by
  simp [execOp,hop,resolve,invoke,go_sem,eg]
 rw [hrun]
 refine ⟨fun h =>by simp [Fence.wide] at h,CallsIn.mono (callsIn_wide.2 hcall) fun e w' hr =>?_⟩
 obtain ⟨v,rfl,hk⟩:=hK e w' hr
 exact hk
theorem mixed:Try.prog.follows .mixedOrders = true:=by kernel_rfl
theorem mul_z (n:Nat) (h:n≤1050000):wrap64 ((n:Int) * 10000) = (n:Int) * 10000:=by simp only [wrap64];omega
def mkD (D:Nat):Deferred:={ target:=.collected D,args:=#[] }
theorem a7N {F:Fence} {n:Nat} {P:Program} {fn:Func} {tmps:Array Value} {R:Ending→World→Prop} (B:Nat) (J:World→Prop) (hJ:∀ W D,J W→B≤D→W.heap[D]? = some (.deferred (some []))→J (W.putObj D (.deferred none)))
  (hend:∀ W,J W→LeavesIn F n P fn tmps R [] .returning W):∀ (ds:List Nat) (W:World),J W→ds.Nodup→(∀ D,D ∈ ds→B≤D∧W.heap[D]? = some (.deferred (some [])))→LeavesInM F n P fn tmps R (ds.map mkD) .returning W:=by
 intro ds
 induction ds with
 | nil =>intro W h _ _;exact hend W h
 | cons D ds ih =>
  intro W h hn hd
  obtain ⟨hn1,hn2⟩:=List.nodup_cons.1 hn
  obtain ⟨hB,hD⟩:=hd D List.mem_cons_self
  refine ⟨by simp,.inl ⟨D,_,rfl,run_takeDeferred hD,ih _ (hJ W D h hB hD) hn2 fun E hE =>?_⟩⟩
  obtain ⟨hE1,hE2⟩:=hd E (List.mem_cons_of_mem _ hE)
  have hne:D≠E:=fun e =>hn1 (e ▸ hE)
  exact ⟨hE1,by rw [(grownBy_putObj' W D _).block E (Array.getElem?_eq_some_iff.1 hE2).1 (fun e =>hne (by cases e;rfl))];exact hE2⟩
def Blk (W:World) (B:Nat) (t:TypeId) (vs:Array Value):Prop:=W.heap[B]? = some (.cells vs t (0,0))
theorem Blk.lt {W:World} {B:Nat} {t:TypeId} {vs:Array Value} (h:Blk W B t vs):B < W.heap.size:=(Array.getElem?_eq_some_iff.1 h).1
structure OC (w:World) (A:Option Addr) (n c:Nat) (ds:List Nat) (e p:Int) (W:World):Prop where
 be:Below w.heap.size w W
 bp:Boxed W w.heap.size 24 (.slice A n c)
 bo:Blk W (w.heap.size + 1) 35 #[.int .i64 e,.int .i64 p]
 df:∀ D,D ∈ ds→w.heap.size≤D∧W.heap[D]? = some (.deferred (some []))
section
variable {w W W':World} {A:Option Addr} {n c:Nat} {ds:List Nat} {e p:Int}
theorem OC.below (h:OC w A n c ds e p W) (hb:Below W.heap.size W W'):OC w A n c ds e p W' :=
 ⟨h.be.trans (hb.mono h.be.size),(hb.block _ h.bp.lt).trans h.bp,(hb.block _ h.bo.lt).trans h.bo,fun D hD =>⟨(h.df D hD).1,(hb.block D (Array.getElem?_eq_some_iff.1 (h.df D hD).2).1).trans (h.df D hD).2⟩⟩
theorem OC.turn (h:OC w A n c ds e p W) {B:Nat} {row:Option Nat} (hn:w.heap.size≤B) (hd:∀ D,D ∈ ds→D < B) (hg:W.grownBy W' row) (hr:∀ r,row = some r→B≤r∧∃ o:Obj,W.heap[r]? = some o∧o.isCells = false):OC w A n c ds e p W':=by
 have hc:∀ k cs t,W.heap[k]? = some (.cells cs t (0,0))→some k≠row:=fun k cs t h1 e =>by
  obtain ⟨_,o,ho,hoc⟩:=hr k e.symm
  rw [h1] at ho;cases ho;cases hoc
 refine ⟨h.be.grown hg h.be.size (fun k hk =>Nat.le_trans hn (hr k hk).1),h.bp.kept hg (hc _ _ _ h.bp),(hg.block _ h.bo.lt (hc _ _ _ h.bo)).trans h.bo,fun D hD =>⟨(h.df D hD).1,?_⟩⟩
 have h1:=(h.df D hD).2
 rw [hg.block D (Array.getElem?_eq_some_iff.1 h1).1 (fun e =>by have:=(hr D e.symm).1;have:=hd D hD;omega)]
 exact h1
theorem OC.set (h:OC w A n c ds e p W) {b:Nat} (hb:w.heap.size + 2≤b) {t:TypeId} {u:Value} (hB:Boxed W b t u) (v:Value):OC w A n c ds e p (W.setCell ⟨b,0,none⟩ v):=by
 refine ⟨h.be.setCell (p:=⟨b,0,none⟩) (by show w.heap.size≤b;omega) v,h.bp.other (by omega) v,?_,fun D hD =>⟨(h.df D hD).1,?_⟩⟩
 ·have:=h.bo
  unfold Blk at this ⊢
  rw [Below.heap_setCell W ⟨b,0,none⟩ v _ (by show w.heap.size + 1≠b;omega)];exact this
 ·have h1:=(h.df D hD).2
  rw [Below.heap_setCell W ⟨b,0,none⟩ v D (fun e =>by have h2:W.heap[b]? = _:=hB;rw [show D = b from e,h2] at h1;cases h1)]
  exact h1
theorem OC.cons (h:OC w A n c ds e p W) {D:Nat} (hD:w.heap.size≤D) (hZ:W.heap[D]? = some (.deferred (some []))):OC w A n c (D :: ds) e p W :=
 ⟨h.be,h.bp,h.bo,fun E hE =>by
  rcases List.mem_cons.1 hE with rfl | hE
  ·exact ⟨hD,hZ⟩
  ·exact h.df E hE⟩
end
theorem Blk.cell {W:World} {B:Nat} {t:TypeId} {vs:Array Value} (h:Blk W B t vs) (j:Nat):W.cell? ⟨B,j,none⟩ = vs[j]?:=a1T h j
theorem Blk.frozen {W:World} {B:Nat} {t:TypeId} {vs:Array Value} (h:Blk W B t vs) (j:Nat):W.frozen? ⟨B,j,none⟩ = false:=by
 have h':W.heap[B]? = some (.cells vs t (0,0)):=h
 simp [World.frozen?,h']
theorem Blk.set {W:World} {B:Nat} {t:TypeId} {vs:Array Value} (h:Blk W B t vs) (j:Nat) (v:Value):Blk (W.setCell ⟨B,j,none⟩ v) B t (vs.setIfInBounds j v):=by
 have h':W.heap[B]? = some (.cells vs t (0,0)):=h
 simp [Blk,World.setCell,Array.getElem?_modify,h']
theorem OC.res {w W:World} {A:Option Addr} {n c:Nat} {ds:List Nat} {e p:Int} (h:OC w A n c ds e p W) (e' p':Int):OC w A n c ds e' p' ((W.setCell ⟨w.heap.size + 1,0,none⟩ (.int .i64 e')).setCell ⟨w.heap.size + 1,1,none⟩ (.int .i64 p')):=by
 refine ⟨(h.be.setCell (p:=⟨w.heap.size + 1,0,none⟩) (by show w.heap.size≤w.heap.size + 1;omega) _).setCell (p:=⟨w.heap.size + 1,1,none⟩) (by show w.heap.size≤w.heap.size + 1;omega) _,?_,(h.bo.set 0 _).set 1 _,fun D hD =>⟨(h.df D hD).1,?_⟩⟩
 ·show (World.heap _)[w.heap.size]? = _
  rw [Below.heap_setCell _ _ _ _ (by show w.heap.size≠w.heap.size + 1;omega),Below.heap_setCell _ _ _ _ (by show w.heap.size≠w.heap.size + 1;omega)]
  exact h.bp
 ·have h1:=(h.df D hD).2
  have hne:D≠w.heap.size + 1:=fun e =>by have h2:W.heap[w.heap.size + 1]? = _:=h.bo;rw [e,h2] at h1;cases h1
  rw [Below.heap_setCell _ _ _ _ hne,Below.heap_setCell _ _ _ _ hne]
  exact h1
theorem a5M {w W:World} {A:Option Addr} {n c:Nat} {ds:List Nat} {e p:Int} {fs:List S32} (tmps:Array Value) (h2:tmps.getD 2 undef = .pointer (some ⟨w.heap.size + 1,0,none⟩)) (hO:OC w A n c ds e p W) (hn:ds.Nodup) (hres:checkF fs = (e,p)) :
  LeavesInM Fence.wide 5 Try.prog Try.f13 tmps (fun x w' =>x = .returned (.agg #[.int .i64 (checkF fs).1,.int .i64 (checkF fs).2])∧Below w.heap.size w w') (ds.map mkD) .returning W:=by
 refine a7N w.heap.size (fun Y =>OC w A n c [] e p Y) ?_ ?_ ds W ⟨hO.be,hO.bp,hO.bo,fun _ h =>by cases h⟩ hn hO.df
 ·intro Y D hY hB hD
  exact hY.turn (Nat.le_refl _) (fun _ h =>by cases h) (grownBy_putObj' Y D _) (fun r e =>by cases e;exact ⟨hB,_,hD,rfl⟩)
 ·intro Y hY
  have r0:Y.cell? ⟨w.heap.size + 1,0,none⟩ = some (.int .i64 e):=by rw [hY.bo.cell];rfl
  have r1:Y.cell? ⟨w.heap.size + 1,1,none⟩ = some (.int .i64 p):=by rw [hY.bo.cell];rfl
  have h2':tmps[2]?.getD undef = .pointer (some ⟨w.heap.size + 1,0,none⟩):=by rw [← Array.getD_eq_getD_getElem?];exact h2
  rw [hres]
  exact ⟨.agg #[.int .i64 e,.int .i64 p],by simp [results,Try.results13,go_sem,h2',r0,r1],rfl,hY.be⟩
def VarBx {w:World} {P:Nat→Prop} {T:S46→Prop} (B:Nat) (act:Nat→Elt w P T→Act) (x:Elt w P T) (a':Act) (W:World):Prop :=
 ∃ Bv,B≤Bv∧W.heap[Bv]? = some (.cells x.1.2.toArray 46 (0,0))∧a' = act Bv x
theorem VarBx.own {w:World} {P:Nat→Prop} {T:S46→Prop} (B:Nat) (act:Nat→Elt w P T→Act) (x:Elt w P T) (a':Act):OwnFrom B (fun (_:Unit) W =>VarBx B act x a' W):=by
 rintro _ X Y row ⟨Bv,h1,h2,h4⟩ hg hr
 refine ⟨Bv,h1,?_,h4⟩
 rw [hg.block Bv (Array.getElem?_eq_some_iff.1 h2).1 ?_]
 ·exact h2
 ·intro e;obtain ⟨_,o,ho,hc⟩:=hr Bv e.symm;rw [h2] at ho;cases ho;cases hc
theorem a9K {X Y:World} {b B:Nat} {t:TypeId} {v:Value} {row:Option Nat} (h:Boxed X b t v) (hg:X.grownBy Y row) (hr:∀ r,row = some r→B≤r∧∃ o:Obj,X.heap[r]? = some o∧o.isCells = false):Boxed Y b t v :=
 h.kept hg (fun e =>by obtain ⟨_,o,ho,hc⟩:=hr b e.symm;rw [show X.heap[b]? = _ from h] at ho;cases ho;cases hc)
theorem b4V {w w1 W:World} (b:Nat) (v:Value) (h1:w.heap.size≤b) (h2:b < w1.heap.size):KeepsFrom w1.heap.size W (W.setCell ⟨b,0,none⟩ v)∧Kp w.heap.size w1.heap.size none W (W.setCell ⟨b,0,none⟩ v)∧Below w.heap.size W (W.setCell ⟨b,0,none⟩ v)∧W.heap.size≤(W.setCell ⟨b,0,none⟩ v).heap.size :=
 ⟨(KeepsOthers.setCell _ _ _).from _,Kp.setBox W b _ h1 h2,(Below.refl _ W).setCell (p:=⟨b,0,none⟩) h1 _,(grownBy_setCell' W b v).size⟩
def CK (w:World) (A:Option Addr) (n c:Nat) (ds:List Nat) (fs:List S32) (j Bi Bn B:Nat) (L:List S46) (X:World):Prop :=
 OC w A n c ds 0 0 X∧Boxed X Bi 3 (.int .i64 (j:Nat))∧Boxed X Bn 3 (.int .i64 (L.length:Nat))∧B≤X.heap.size∧faultIn fs j L 0 = none
def CKx (w:World) (A:Option Addr) (n c:Nat) (ds:List Nat) (fs:List S32) (j B:Nat) (cd:Code) (L:List S46) (X:World):Prop :=
 cd = .ret∧∃ e p,OC w A n c ds e p X∧B≤X.heap.size∧faultIn fs j L 0 = some (e,p)
theorem mul_z3 (j n:Nat) (h:j≤1050000) (hn:n≤2000000):wrap64 ((j:Int) * 10000 + ((n:Int) + 1)) = (j:Int) * 10000 + ((n:Int) + 1):=by simp only [wrap64];omega
def CP (w w1:World) (A:Option Addr) (n c:Nat) (ds:List Nat) (fs:List S32) (j Bi Bn:Nat) (L:List S46) (X:World):Exit→World→Prop
 | .normal,Y =>KeepsFrom w1.heap.size X Y∧Kp w.heap.size w1.heap.size none X Y∧CK w A n c ds fs j Bi Bn w1.heap.size L Y
 | .ret,Y =>KeepsFrom w1.heap.size X Y∧CKx w A n c ds fs j w1.heap.size .ret L Y
 | _,_ =>False
theorem a4P (w:World) (a:Addr) (v:Value):(w.setCell a v).heap.size = w.heap.size:=by simp [World.setCell]
theorem pz2 (n:Nat) (h:n≤2000000):wrap64 ((n:Int) + 1) = (n:Int) + 1:=by simp only [wrap64];omega
theorem b4A (fs:List S32) (j:Nat) (L:List S46) (s:S46) (h:faultIn fs j L 0 = none):faultIn fs j (L ++ [s]) 0 = if stmtB fs s = 0 then none else some (stmtB fs s,(j:Int) * 10000 + ((L.length + 1:Nat):Int)):=by
 rw [a6Q,h]
 simp only [faultIn,Nat.zero_add]
set_option maxRecDepth 1000000 in
set_option maxHeartbeats 40000000 in
theorem a7I (w:World) (fs:List S32) (A:Option Addr) (c:Nat) (hlc:fs.length≤c) (hC:Kd.C k32 w A fs.length fs) (hfit:FitC fs) :
  Calls Try.prog 13 #[.agg #[.slice A fs.length c]] w fun e w' =>e = .returned (.agg #[.int .i64 (checkF fs).1,.int .i64 (checkF fs).2])∧Below w.heap.size w w':=by
 refine (callsIn_wide (n:=5)).1 ?_
 refine callsIn_of_wp_marks Try.func13 rfl trivial ?_ rfl
 simp only [Try.ntmps13,List.size_toArray,List.length_cons,List.length_nil,Nat.reduceAdd,Nat.reduceSub,Array.replicate_succ,Array.replicate_zero,List.push_toArray,List.append_toArray,List.nil_append,List.cons_append]
 have hfn:Fence.wide.fn 26:=trivial
 have hfn2:Fence.wide.fn 15:=trivial
 have hfn3:Fence.wide.fn 30:=trivial
 have K0:=Lib.hid hC
 have HF:=Lib.hid hfit
 have hl:fs.length≤1050000:=hfit.1
 clear hC hfit
 gi_wp2
 obtain ⟨W0,hW0⟩:∃ W0,W0 = (w.alloc (Obj.cells #[Value.slice A fs.length c] 24)).alloc (Obj.cells #[Value.int .i64 0,Value.int .i64 0] 35):=⟨_,rfl⟩
 have hO0:OC w A fs.length c [] 0 0 W0:=by
  rw [hW0]
  refine ⟨a0D (a0D (Below.refl _ _) _) _,(Boxed.new w _ _).alloc _,?_,fun _ h =>by cases h⟩
  have:=World.alloc_heap_new (w.alloc (Obj.cells #[Value.slice A fs.length c] 24)) (Obj.cells #[Value.int .i64 0,Value.int .i64 0] 35)
  simpa [Blk] using this
 rw [← hW0]
 clear hW0
 refine wpIn_loop_ghost_k (fun k a W =>∃ (j:Nat) (ds:List Nat) (v12 u3 u4 u5 u13 u14 u15 u16 u17 u18 u19 u20 u21 u22 u23 u24 u25 u26 u27 u28 u29 u30 u31 u32 u33 u48:Value),j + k = fs.length∧v12 = .int .i64 (j:Nat)∧a = { tmps:=#[.agg #[.slice A fs.length c],.pointer (some ⟨w.heap.size,0,none⟩),.pointer (some ⟨w.heap.size + 1,0,none⟩),u3,u4,u5,undef,undef,undef,.pointer (some ⟨w.heap.size,0,none⟩),.slice A fs.length c,.int .i64 (fs.length:Nat),v12,u13,u14,u15,u16,u17,u18,u19,u20,u21,u22,u23,u24,u25,u26,u27,u28,u29,u30,u31,u32,u33,undef,undef,undef,undef,undef,undef,undef,undef,undef,undef,undef,undef,undef,undef,u48,undef,undef,undef,undef,undef,undef,undef,undef,undef,undef,undef,undef,undef,undef,undef,undef],defers:=ds.map mkD } ∧
  Hid (OC w A fs.length c ds 0 0 W)∧Hid ds.Nodup∧Hid (checkRest fs (fs.drop j) j = checkF fs)) fs.length ?start ?round
 case start =>exact ⟨0,[],.int .i64 0,undef,undef,undef,undef,undef,undef,undef,undef,undef,undef,undef,undef,undef,undef,undef,undef,undef,undef,undef,undef,undef,undef,undef,undef,undef,by omega,rfl,rfl,Lib.hid hO0,Lib.hid List.nodup_nil,Lib.hid rfl⟩
 case round =>
  rintro k a W ⟨j,ds,v12,u3,u4,u5,u13,u14,u15,u16,u17,u18,u19,u20,u21,u22,u23,u24,u25,u26,u27,u28,u29,u30,u31,u32,u33,u48,hj,rfl,rfl,HO,HD,HI⟩ J K hJ hK
  have hwsz:=HO.out.be.size
  by_cases hjl:j < fs.length
  ·obtain ⟨ad,A1,c1,A2,c2,eA,y0,y1,y2,l1,g1,l2,g2⟩:=a3N K0.out (j:Int) (Int.natCast_nonneg j) (Int.ofNat_lt.2 hjl)
   subst eA
   rw [Int.toNat_natCast] at y0 y1 y2
   have x0:=(HO.out.be.cell (World.block_lt_of_cell? _ _ y0)).trans y0
   have x1:=(HO.out.be.cell (World.block_lt_of_cell? _ _ y1)).trans y1
   have x2:=(HO.out.be.cell (World.block_lt_of_cell? _ _ y2)).trans y2
   have hkk:=pz j (Nat.le_trans (Nat.le_of_lt hjl) hl)
   have G1:=Lib.hid g1
   have G2:=Lib.hid g2
   clear y0 y1 y2 g1 g2
   gi_wp2
   obtain ⟨W2,hW2⟩:∃ W2,W2 = (W.alloc (Obj.cells #[Value.int .i64 (j:Nat)] 3)).alloc (Obj.cells #[Value.string (a0P fs (j:Int)).f0,Value.slice A1 (a0P fs (j:Int)).f1.length c1,Value.slice A2 (a0P fs (j:Int)).f2.length c2] 32):=⟨_,rfl⟩
   have hb2:Below W.heap.size W W2:=by rw [hW2];exact a0D (a0D (Below.refl _ _) _) _
   have hO2:=HO.out.below hb2
   have bi2:Boxed W2 W.heap.size 3 (.int .i64 (j:Nat)):=by rw [hW2];exact (Boxed.new W _ _).alloc _
   have bf2:Blk W2 (W.heap.size + 1) 32 #[Value.string (a0P fs (j:Int)).f0,Value.slice A1 (a0P fs (j:Int)).f1.length c1,Value.slice A2 (a0P fs (j:Int)).f2.length c2]:=by
    rw [hW2];have:=World.alloc_heap_new (W.alloc (Obj.cells #[Value.int .i64 (j:Nat)] 3)) (Obj.cells #[Value.string (a0P fs (j:Int)).f0,Value.slice A1 (a0P fs (j:Int)).f1.length c1,Value.slice A2 (a0P fs (j:Int)).f2.length c2] 32);simpa [Blk] using this
   have hsz2:W2.heap.size = W.heap.size + 2:=by rw [hW2];simp
   rw [← hW2]
   clear hW2
   have hFN:FitN (a0P fs (j:Int)):=HF.out.2 _ (by unfold a0P;rw [Int.toNat_natCast,List.getD_eq_getElem?_getD,List.getElem?_eq_getElem hjl];exact List.getElem_mem hjl)
   have hdr:=a7H fs j hjl
   obtain ⟨F,hFe⟩:∃ F,F = (a0P fs (j:Int)):=⟨_,rfl⟩
   rw [← hFe] at hFN hdr bf2 l1 l2 G1 G2 ⊢
   clear hFe
   have HFN:=Lib.hid hFN
   have cp:=hO2.bp.cell
   have ci:=bi2.cell
   have cf0:W2.cell? ⟨W.heap.size + 1,0,none⟩ = some (.string F.f0):=by rw [a1T bf2];rfl
   have cf1:W2.cell? ⟨W.heap.size + 1,1,none⟩ = some (.slice A1 F.f1.length c1):=by rw [a1T bf2];rfl
   have cf2:W2.cell? ⟨W.heap.size + 1,2,none⟩ = some (.slice A2 F.f2.length c2):=by rw [a1T bf2];rfl
   obtain ⟨q,hq⟩:∃ q,q = funIx fs F.f0:=⟨_,rfl⟩
   obtain ⟨tw,htw⟩:∃ tw,tw = twiceB F.f1:=⟨_,rfl⟩
   have hca:checkAt fs F j = if ((q != (j:Int)) || tw) = true then some (50,(j:Int) * 10000) else faultIn fs j (flat F.f2) 0:=by rw [hq,htw];rfl
   have hrest:checkF fs = match checkAt fs F j with | some p =>p | none =>checkRest fs (fs.drop (j + 1)) (j + 1):=by rw [← HI.out,hdr];rfl
   have HQ:=Lib.hid hq
   have HTW:=Lib.hid htw
   clear hFN hdr hq htw
   cases hqb:(q != (j:Int)) with
   | true =>
    rw [hqb,Bool.true_or,if_pos rfl] at hca
    rw [hca] at hrest
    have HRES:=Lib.hid hrest
    clear hca hrest
    refine wpIn_region_any mixed ?_
    refine a7R _ (fun i =>match i with | 0 =>.agg #[.slice (some ad) fs.length c] | 1 =>.pointer (some ⟨W.heap.size + 1,0,none⟩) | 2 =>.string F.f0 | 3 =>.int .i64 q | 4 =>.int .i64 j | 5 =>.bool true | 6 =>.bool true | 7 =>undef | 8 =>undef | 9 =>undef | 10 =>.bool true | _ =>undef) (fun done Z =>Below W2.heap.size W2 Z) rfl (by kernel_rfl) _ ?hz ?st4 ?en4
    case hz =>exact (Below.refl W2.heap.size W2).drew
    case st4 =>
     intro i o done a Z ho hdn hdep hag hS K2 hK2
     have hi:i < 11:=by
      by_cases h:i < 11
      ·exact h
      ·rw [Array.getElem?_eq_none (by simp;omega)] at ho;cases ho
     obtain rfl | rfl | rfl | rfl | rfl | rfl | rfl | rfl | rfl | rfl | rfl:i = 0∨i = 1∨i = 2∨i = 3∨i = 4∨i = 5∨i = 6∨i = 7∨i = 8∨i = 9∨i = 10:=by omega
     ·cases ho
      have e:a.eval (.tmp 1) = .pointer (some ⟨w.heap.size,0,none⟩):=hag.keep 1 rfl
      have hc:=(hS.cell (World.block_lt_of_cell? _ _ cp)).trans cp
      refine a1U (i:=0) rfl rfl (fun c h =>by cases h) rfl ?_ (hK2 Z hS)
      have ec:∀ v,a.eval (.const v) = v:=fun _ =>rfl
      generalize a.eval = ev at *
      simp [execOp,go_sem,ec,e,hc]
     ·cases ho
      have e:a.eval (.tmp 4) = .pointer (some ⟨W.heap.size + 1,0,none⟩):=hag.keep 4 rfl
      refine a1U (i:=1) rfl rfl (fun c h =>by cases h) rfl ?_ (hK2 Z hS)
      have ec:∀ v,a.eval (.const v) = v:=fun _ =>rfl
      generalize a.eval = ev at *
      simp [execOp,go_sem,ec,e]
     ·cases ho
      have h1:=hdep ⟨1,.data⟩ (by simp) rfl
      have e:=hag.val_ (j:=1) (t:=18) rfl h1
      have hc:=(hS.cell (World.block_lt_of_cell? _ _ cf0)).trans cf0
      refine a1U (i:=2) rfl rfl (fun c h =>by cases h) rfl ?_ (hK2 Z hS)
      have ec:∀ v,a.eval (.const v) = v:=fun _ =>rfl
      generalize a.eval = ev at *
      simp [execOp,go_sem,ec,e,hc]
     ·cases ho
      have h0:=hdep ⟨0,.data⟩ (by simp) rfl
      have h2:=hdep ⟨2,.data⟩ (by simp) rfl
      have e0:=hag.val_ (j:=0) (t:=17) rfl h0
      have e2:=hag.val_ (j:=2) (t:=19) rfl h2
      refine a6A (i:=3) (f:=15) (R:=fun e w2 =>e = .returned (.int .i64 q)∧Below Z.heap.size Z w2) rfl rfl rfl (fun _ _ =>rfl) ?_ ?_
      ·simp only [List.map_toArray,List.map_cons,List.map_nil,e0,e2]
       have:=a4Y fs (some ad) c F.f0 Z hlc (Kd.a0N K0.out ((hO2.be).trans (hS.mono hO2.be.size))) hl
       rwa [← HQ.out] at this
      ·rintro e' w2 ⟨rfl,hb⟩
       exact ⟨_,rfl,hK2 w2 (hS.trans (hb.mono hS.size))⟩
     ·cases ho
      have e:a.eval (.tmp 3) = .pointer (some ⟨W.heap.size,0,none⟩):=hag.keep 3 rfl
      have hc:=(hS.cell (World.block_lt_of_cell? _ _ ci)).trans ci
      refine a1U (i:=4) rfl rfl (fun c h =>by cases h) rfl ?_ (hK2 Z hS)
      have ec:∀ v,a.eval (.const v) = v:=fun _ =>rfl
      generalize a.eval = ev at *
      simp [execOp,go_sem,ec,e,hc]
     ·cases ho
      have h3:=hdep ⟨3,.data⟩ (by simp) rfl
      have h4:=hdep ⟨4,.data⟩ (by simp) rfl
      have e0:=hag.val_ (j:=3) (t:=20) rfl h3
      have e2:=hag.val_ (j:=4) (t:=21) rfl h4
      refine a1U (i:=5) rfl rfl (fun c h =>by cases h) rfl ?_ (hK2 Z hS)
      have ec:∀ v,a.eval (.const v) = v:=fun _ =>rfl
      generalize a.eval = ev at *
      simp [execOp,go_sem,ec,e0,e2,hqb]
     ·cases ho
      have h5:=hdep ⟨5,.data⟩ (by simp) rfl
      have e:=hag.val_ (j:=5) (t:=22) rfl h5
      refine a1U (i:=6) rfl rfl (fun c h =>by cases h) rfl ?_ (hK2 Z hS)
      have ec:∀ v,a.eval (.const v) = v:=fun _ =>rfl
      generalize a.eval = ev at *
      simp [execOp,go_sem,ec,e]
     ·cases ho
      have h6:=hdep ⟨6,.guard⟩ (by simp) rfl
      have e:=hag.val_ (j:=6) (t:=23) rfl h6
      refine a7L (i:=7) rfl (a6J (j:=6) (d:=23) (b:=true) rfl rfl e) (fun _ _ =>trivial) (hK2 Z hS)
     ·cases ho
      have h6:=hdep ⟨6,.guard⟩ (by simp) rfl
      have e:=hag.val_ (j:=6) (t:=23) rfl h6
      refine a7L (i:=8) rfl (a6J (j:=6) (d:=23) (b:=true) rfl rfl e) (fun _ _ =>trivial) (hK2 Z hS)
     ·cases ho
      have h6:=hdep ⟨6,.guard⟩ (by simp) rfl
      have e:=hag.val_ (j:=6) (t:=23) rfl h6
      refine a7L (i:=9) rfl (a6J (j:=6) (d:=23) (b:=true) rfl rfl e) (fun _ _ =>trivial) (hK2 Z hS)
     ·cases ho
      have h6:=hdep ⟨6,.data⟩ (by simp) rfl
      have h9:=hdep ⟨9,.data⟩ (by simp) rfl
      have e:=hag.val_ (j:=6) (t:=23) rfl h6
      refine a1U (i:=10) rfl rfl (fun c h =>by cases h) rfl ?_ (hK2 Z hS)
      have ec:∀ v,a.eval (.const v) = v:=fun _ =>rfl
      generalize a.eval = ev at *
      simp [execOp,go_sem,ec,e]
    case en4 =>
     intro Z done hdn hS
     have hOZ:=hO2.below hS
     have biZ:Boxed Z W.heap.size 3 (.int .i64 (j:Nat)):=(hS.block _ bi2.lt).trans bi2
     have cf2Z:=(hS.cell (World.block_lt_of_cell? _ _ cf2)).trans cf2
     have hszZ:=hS.size
     clear hS hO2 bi2 bf2 cp ci cf0 cf1 cf2 hdn x0 x1 x2
     simp only [putTmps,dstOf,List.size_toArray,List.length_cons,List.length_nil,Nat.reduceAdd,List.getElem?_toArray,List.getElem?_cons_zero,List.getElem?_cons_succ,Option.bind_some,List.setIfInBounds_toArray,List.set_cons_zero,List.set_cons_succ]
     have ciZ:=biZ.cell
     have hm:wrap64 ((j:Int) * 10000) = (j:Int) * 10000:=mul_z j (Nat.le_trans (Nat.le_of_lt hjl) hl)
     have co0:Z.cell? ⟨w.heap.size + 1,0,none⟩ = some (.int .i64 0):=by rw [a1T hOZ.bo];rfl
     have co1:Z.cell? ⟨w.heap.size + 1,1,none⟩ = some (.int .i64 0):=by rw [a1T hOZ.bo];rfl
     have fo0:=hOZ.bo.frozen 0
     have fo1:=hOZ.bo.frozen 1
     have HOZ:=Lib.hid hOZ
     clear hOZ hJ hK biZ
     gi_wp2
     exact a5M _ rfl (HOZ.out.res 50 _) HD.out HRES.out
   | false =>
    rw [hqb,Bool.false_or] at hca
    refine wpIn_region_any mixed ?_
    refine a7R _ (fun i =>match i with | 0 =>.agg #[.slice (some ad) fs.length c] | 1 =>.pointer (some ⟨W.heap.size + 1,0,none⟩) | 2 =>.string F.f0 | 3 =>.int .i64 q | 4 =>.int .i64 j | 5 =>.bool false | 6 =>.bool false | 7 =>.pointer (some ⟨W.heap.size + 1,1,none⟩) | 8 =>.slice A1 F.f1.length c1 | 9 =>.bool tw | 10 =>.bool tw | _ =>undef) (fun done Z =>Below W2.heap.size W2 Z) rfl (by kernel_rfl) _ ?hz ?st4 ?en4
    case hz =>exact (Below.refl W2.heap.size W2).drew
    case st4 =>
     intro i o done a Z ho hdn hdep hag hS K2 hK2
     have hi:i < 11:=by
      by_cases h:i < 11
      ·exact h
      ·rw [Array.getElem?_eq_none (by simp;omega)] at ho;cases ho
     obtain rfl | rfl | rfl | rfl | rfl | rfl | rfl | rfl | rfl | rfl | rfl:i = 0∨i = 1∨i = 2∨i = 3∨i = 4∨i = 5∨i = 6∨i = 7∨i = 8∨i = 9∨i = 10:=by omega
     ·cases ho
      have e:a.eval (.tmp 1) = .pointer (some ⟨w.heap.size,0,none⟩):=hag.keep 1 rfl
      have hc:=(hS.cell (World.block_lt_of_cell? _ _ cp)).trans cp
      refine a1U (i:=0) rfl rfl (fun c h =>by cases h) rfl ?_ (hK2 Z hS)
      have ec:∀ v,a.eval (.const v) = v:=fun _ =>rfl
      generalize a.eval = ev at *
      simp [execOp,go_sem,ec,e,hc]
     ·cases ho
      have e:a.eval (.tmp 4) = .pointer (some ⟨W.heap.size + 1,0,none⟩):=hag.keep 4 rfl
      refine a1U (i:=1) rfl rfl (fun c h =>by cases h) rfl ?_ (hK2 Z hS)
      have ec:∀ v,a.eval (.const v) = v:=fun _ =>rfl
      generalize a.eval = ev at *
      simp [execOp,go_sem,ec,e]
     ·cases ho
      have h1:=hdep ⟨1,.data⟩ (by simp) rfl
      have e:=hag.val_ (j:=1) (t:=18) rfl h1
      have hc:=(hS.cell (World.block_lt_of_cell? _ _ cf0)).trans cf0
      refine a1U (i:=2) rfl rfl (fun c h =>by cases h) rfl ?_ (hK2 Z hS)
      have ec:∀ v,a.eval (.const v) = v:=fun _ =>rfl
      generalize a.eval = ev at *
      simp [execOp,go_sem,ec,e,hc]
     ·cases ho
      have h0:=hdep ⟨0,.data⟩ (by simp) rfl
      have h2:=hdep ⟨2,.data⟩ (by simp) rfl
      have e0:=hag.val_ (j:=0) (t:=17) rfl h0
      have e2:=hag.val_ (j:=2) (t:=19) rfl h2
      refine a6A (i:=3) (f:=15) (R:=fun e w2 =>e = .returned (.int .i64 q)∧Below Z.heap.size Z w2) rfl rfl rfl (fun _ _ =>rfl) ?_ ?_
      ·simp only [List.map_toArray,List.map_cons,List.map_nil,e0,e2]
       have:=a4Y fs (some ad) c F.f0 Z hlc (Kd.a0N K0.out ((hO2.be).trans (hS.mono hO2.be.size))) hl
       rwa [← HQ.out] at this
      ·rintro e' w2 ⟨rfl,hb⟩
       exact ⟨_,rfl,hK2 w2 (hS.trans (hb.mono hS.size))⟩
     ·cases ho
      have e:a.eval (.tmp 3) = .pointer (some ⟨W.heap.size,0,none⟩):=hag.keep 3 rfl
      have hc:=(hS.cell (World.block_lt_of_cell? _ _ ci)).trans ci
      refine a1U (i:=4) rfl rfl (fun c h =>by cases h) rfl ?_ (hK2 Z hS)
      have ec:∀ v,a.eval (.const v) = v:=fun _ =>rfl
      generalize a.eval = ev at *
      simp [execOp,go_sem,ec,e,hc]
     ·cases ho
      have h3:=hdep ⟨3,.data⟩ (by simp) rfl
      have h4:=hdep ⟨4,.data⟩ (by simp) rfl
      have e0:=hag.val_ (j:=3) (t:=20) rfl h3
      have e2:=hag.val_ (j:=4) (t:=21) rfl h4
      refine a1U (i:=5) rfl rfl (fun c h =>by cases h) rfl ?_ (hK2 Z hS)
      have ec:∀ v,a.eval (.const v) = v:=fun _ =>rfl
      generalize a.eval = ev at *
      simp [execOp,go_sem,ec,e0,e2,hqb]
     ·cases ho
      have h5:=hdep ⟨5,.data⟩ (by simp) rfl
      have e:=hag.val_ (j:=5) (t:=22) rfl h5
      refine a1U (i:=6) rfl rfl (fun c h =>by cases h) rfl ?_ (hK2 Z hS)
      have ec:∀ v,a.eval (.const v) = v:=fun _ =>rfl
      generalize a.eval = ev at *
      simp [execOp,go_sem,ec,e]
     ·cases ho
      have h6:=hdep ⟨6,.guard⟩ (by simp) rfl
      have e6:=hag.val_ (j:=6) (t:=23) rfl h6
      have e:a.eval (.tmp 4) = .pointer (some ⟨W.heap.size + 1,0,none⟩):=hag.keep 4 rfl
      refine a6X (i:=7) rfl (a6Z (j:=6) (d:=23) (b:=false) rfl rfl e6) (fun c h =>by cases h) rfl ?_ (hK2 Z hS)
      generalize a.eval = ev at *
      simp [execOp,go_sem,e]
     ·cases ho
      have h6:=hdep ⟨6,.guard⟩ (by simp) rfl
      have e6:=hag.val_ (j:=6) (t:=23) rfl h6
      have h7:=hdep ⟨7,.data⟩ (by simp) rfl
      have e:=hag.val_ (j:=7) (t:=24) rfl h7
      have hc:=(hS.cell (World.block_lt_of_cell? _ _ cf1)).trans cf1
      refine a6X (i:=8) rfl (a6Z (j:=6) (d:=23) (b:=false) rfl rfl e6) (fun c h =>by cases h) rfl ?_ (hK2 Z hS)
      generalize a.eval = ev at *
      simp [execOp,go_sem,e,hc]
     ·cases ho
      have h6:=hdep ⟨6,.guard⟩ (by simp) rfl
      have e6:=hag.val_ (j:=6) (t:=23) rfl h6
      have h8:=hdep ⟨8,.data⟩ (by simp) rfl
      have e:=hag.val_ (j:=8) (t:=25) rfl h8
      refine a6A (i:=9) (f:=29) (R:=fun e w2 =>e = .returned (.bool tw)∧Below Z.heap.size Z w2) rfl (a6Z (j:=6) (d:=23) (b:=false) rfl rfl e6) rfl (fun _ _ =>rfl) ?_ ?_
      ·simp only [List.map_toArray,List.map_cons,List.map_nil,e]
       have:=a7A F.f1 A1 c1 Z l1 (Kd.a0N G1.out ((hO2.be).trans (hS.mono hO2.be.size))) HFN.out.1 HFN.out.2.1
       rwa [← HTW.out] at this
      ·rintro e' w2 ⟨rfl,hb⟩
       exact ⟨_,rfl,hK2 w2 (hS.trans (hb.mono hS.size))⟩
     ·cases ho
      have h6:=hdep ⟨6,.data⟩ (by simp) rfl
      have h9:=hdep ⟨9,.data⟩ (by simp) rfl
      have e:=hag.val_ (j:=6) (t:=23) rfl h6
      have e9:=hag.val_ (j:=9) (t:=26) rfl h9
      refine a1U (i:=10) rfl rfl (fun c h =>by cases h) rfl ?_ (hK2 Z hS)
      have ec:∀ v,a.eval (.const v) = v:=fun _ =>rfl
      generalize a.eval = ev at *
      simp [execOp,go_sem,ec,e,e9]
    case en4 =>
     intro Z done hdn hS
     have hOZ:=hO2.below hS
     have biZ:Boxed Z W.heap.size 3 (.int .i64 (j:Nat)):=(hS.block _ bi2.lt).trans bi2
     have cf2Z:=(hS.cell (World.block_lt_of_cell? _ _ cf2)).trans cf2
     have hszZ:=hS.size
     clear hS hO2 bi2 bf2 cp ci cf0 cf1 cf2 hdn x0 x1 x2
     simp only [putTmps,dstOf,List.size_toArray,List.length_cons,List.length_nil,Nat.reduceAdd,List.getElem?_toArray,List.getElem?_cons_zero,List.getElem?_cons_succ,Option.bind_some,List.setIfInBounds_toArray,List.set_cons_zero,List.set_cons_succ]
     cases htb:tw with
     | true =>
      rw [htb,if_pos rfl] at hca
      rw [hca] at hrest
      have HRES:=Lib.hid hrest
      clear hca hrest
      have ciZ:=biZ.cell
      have hm:wrap64 ((j:Int) * 10000) = (j:Int) * 10000:=mul_z j (Nat.le_trans (Nat.le_of_lt hjl) hl)
      have co0:Z.cell? ⟨w.heap.size + 1,0,none⟩ = some (.int .i64 0):=by rw [a1T hOZ.bo];rfl
      have co1:Z.cell? ⟨w.heap.size + 1,1,none⟩ = some (.int .i64 0):=by rw [a1T hOZ.bo];rfl
      have fo0:=hOZ.bo.frozen 0
      have fo1:=hOZ.bo.frozen 1
      have HOZ:=Lib.hid hOZ
      clear hOZ hJ hK biZ
      gi_wp2
      exact a5M _ rfl (HOZ.out.res 50 _) HD.out HRES.out
     | false =>
      rw [htb,if_neg Bool.false_ne_true] at hca
      rw [hca] at hrest
      have HRES:=Lib.hid hrest
      have HOZ:=Lib.hid hOZ
      have HBI:=Lib.hid biZ
      clear hca hrest hOZ biZ
      have cf2A:=((a0D (Below.refl Z.heap.size Z) (Obj.cells #[Value.int .i64 0] 3)).cell (World.block_lt_of_cell? _ _ cf2Z)).trans cf2Z
      gi_wp2_with ((try refine ⟨fun _ =>by decide,?_⟩);gi_at_call 26;refine (a9Y _ _ rfl _).mono ?_;rintro e w' ⟨rfl,rfl⟩)
      obtain ⟨w1,hw1⟩:∃ w1,w1 = (Z.alloc (Obj.cells #[Value.int .i64 0] 3)).alloc (Obj.cells #[Value.slice A2 F.f2.length c2] 30):=⟨_,rfl⟩
      rw [← hw1]
      have hb1:Below Z.heap.size Z w1:=by rw [hw1];exact a0D (a0D (Below.refl _ _) _) _
      have hs1:w1.heap.size = Z.heap.size + 2:=by rw [hw1];simp
      have hbn:Boxed w1 Z.heap.size 3 (.int .i64 0):=by rw [hw1];exact (Boxed.new Z _ _).alloc _
      have hbt:w1.cell? ⟨Z.heap.size + 1,0,none⟩ = some (.slice A2 F.f2.length c2):=by
       rw [hw1];have:=(Boxed.new (Z.alloc (Obj.cells #[Value.int .i64 0] 3)) 30 (Value.slice A2 F.f2.length c2)).cell;simp only [World.size_alloc] at this;exact this
      clear hw1 cf2Z cf2A
      have hO1:=HOZ.out.below hb1
      have hi1:Boxed w1 W.heap.size 3 (.int .i64 (j:Nat)):=(hb1.block _ HBI.out.lt).trans HBI.out
      have hdl:∀ D,D ∈ ds→D < w1.heap.size:=fun D hD =>(Array.getElem?_eq_some_iff.1 (hO1.df D hD).2).1
      have hwZ:w.heap.size + 2≤W.heap.size:=HO.out.bo.lt
      have hWZ:W.heap.size + 2≤Z.heap.size:=by omega
      have hs1a:Z.heap.size < w1.heap.size:=by omega
      have hs1b:Z.heap.size + 1 < w1.heap.size:=by omega
      have H1:=Lib.hid hO1
      have HDL:=Lib.hid hdl
      have hw1s:=hO1.be.size
      clear hO1 hdl hb1 hs1 hszZ hsz2
      refine rangeAll (w:=w) (P:=fun k =>k < w.heap.size) (T:=fun s =>s ∈ flat F.f2) (n:=5) (by decide) F.f2 A2 c2 l2 (fun _ h =>h) (Kd.C_F a6M G2.out) H1.out.be (Z.heap.size + 1) hs1b hbt rfl none (fun b e =>by cases e) (Good.none _) rfl
       (fun pre X =>CK w (some ad) fs.length c ds fs j W.heap.size Z.heap.size w1.heap.size (pre.map (·.1.1)) X)
       (fun cd pre X =>CKx w (some ad) fs.length c ds fs j w1.heap.size cd (pre.map (·.1.1)) X)
       ?own1 ?own2 ⟨H1.out,hi1,hbn,Nat.le_refl _,rfl⟩
       (VarBx w1.heap.size fun Bv x =>{ tmps:=#[.agg #[.slice (some ad) fs.length c],.pointer (some ⟨w.heap.size,0,none⟩),.pointer (some ⟨w.heap.size + 1,0,none⟩),.pointer (some ⟨W.heap.size,0,none⟩),.pointer (some ⟨W.heap.size + 1,0,none⟩),.pointer (some ⟨Z.heap.size,0,none⟩),.pointer (some ⟨Bv,0,none⟩),undef,undef,.pointer (some ⟨w.heap.size,0,none⟩),.slice (some ad) fs.length c,.int .i64 (fs.length:Nat),.int .i64 (j:Nat),.bool true,.int .i64 (j:Nat),.pointer (some (ad.add (j * 3))),.agg #[.string F.f0,.slice A1 F.f1.length c1,.slice A2 F.f2.length c2],.agg #[.slice (some ad) fs.length c],.pointer (some ⟨W.heap.size + 1,0,none⟩),.string F.f0,.int .i64 q,.int .i64 (j:Nat),.bool false,.bool false,.pointer (some ⟨W.heap.size + 1,1,none⟩),.slice A1 F.f1.length c1,.bool false,.bool false,u28,u29,u30,.pointer (some ⟨W.heap.size + 1,2,none⟩),.slice A2 F.f2.length c2,.func (.func 37) #[] #[.pointer (some ⟨Z.heap.size + 1,0,none⟩)],.agg x.1.2.toArray,undef,undef,undef,undef,undef,undef,undef,undef,undef,undef,undef,undef,undef,u48,undef,undef,undef,undef,undef,undef,undef,undef,undef,undef,undef,undef,undef,undef,undef,undef],defers:=[] })
       (fun x a' =>VarBx.own _ _ _ _) ?assign ?body ?done ?stop
      case own1 =>
       rintro pre X Y row ⟨h,hi,hn,hle,hf⟩ hg hr
       exact ⟨h.turn hw1s HDL.out hg hr,a9K hi hg hr,a9K hn hg hr,Nat.le_trans hle hg.size,hf⟩
      case own2 =>
       rintro cd pre X Y row ⟨e,e1,p1,h,hle,hf⟩ hg hr
       exact ⟨e,e1,p1,h.turn hw1s HDL.out hg hr,Nat.le_trans hle hg.size,hf⟩
      case assign =>
       rintro lp pre ⟨⟨s,cs⟩,hKs,hT⟩ X K2 ⟨hO,hi,hn,hle,hf⟩ hk
       have hk':=Lib.hid (hk ({ tmps:=#[.agg #[.slice (some ad) fs.length c],.pointer (some ⟨w.heap.size,0,none⟩),.pointer (some ⟨w.heap.size + 1,0,none⟩),.pointer (some ⟨W.heap.size,0,none⟩),.pointer (some ⟨W.heap.size + 1,0,none⟩),.pointer (some ⟨Z.heap.size,0,none⟩),.pointer (some ⟨X.heap.size,0,none⟩),undef,undef,.pointer (some ⟨w.heap.size,0,none⟩),.slice (some ad) fs.length c,.int .i64 (fs.length:Nat),.int .i64 (j:Nat),.bool true,.int .i64 (j:Nat),.pointer (some (ad.add (j * 3))),.agg #[.string F.f0,.slice A1 F.f1.length c1,.slice A2 F.f2.length c2],.agg #[.slice (some ad) fs.length c],.pointer (some ⟨W.heap.size + 1,0,none⟩),.string F.f0,.int .i64 q,.int .i64 (j:Nat),.bool false,.bool false,.pointer (some ⟨W.heap.size + 1,1,none⟩),.slice A1 F.f1.length c1,.bool false,.bool false,u28,u29,u30,.pointer (some ⟨W.heap.size + 1,2,none⟩),.slice A2 F.f2.length c2,.func (.func 37) #[] #[.pointer (some ⟨Z.heap.size + 1,0,none⟩)],.agg cs.toArray,undef,undef,undef,undef,undef,undef,undef,undef,undef,undef,undef,undef,undef,u48,undef,undef,undef,undef,undef,undef,undef,undef,undef,undef,undef,undef,undef,undef,undef,undef],defers:=[] }) _ ((KeepsOthers.alloc _ _).from _) ((Kp.refl _ _ _ X).alloc _ hO.be.size (fun b e =>by cases e)) ⟨hO.below (a0D (Below.refl _ _) _),hi.alloc _,hn.alloc _,by simp;omega,hf⟩ ⟨X.heap.size,hle,World.alloc_heap_new X (.cells cs.toArray 46),rfl⟩)
       clear hk hO hi hn hf
       have hcs:=a3R (Kd.a5F hKs)
       dsimp only at hcs hKs hk'
       obtain ⟨A4,c4,A5,c5,A6,c6,A7,c7,rfl,_⟩:=hcs
       rw [show ((#[34]:Array Tmp).zip (encE ⟨(s,_),hKs,hT⟩)) = #[(34,Value.agg #[Value.int IntKind.i64 s.f0,Value.string s.f1,Value.string s.f2,Value.string s.f3,Value.slice A4 s.f4.length c4,Value.slice A5 s.f5.length c5,Value.slice A6 s.f6.length c6,Value.slice A7 s.f7.length c7])] from by simp [encE]]
       gi_wp2
       exact hk'.out
      case body =>
       rintro lp pre ⟨⟨s,cs⟩,hKs,hT⟩ a' X hlp hlr ⟨hO,hi,hn,hle,hf⟩ ⟨Bv,hBv,hbv,rfl⟩ hlen
       have hcs:=a3R (Kd.a5F hKs)
       dsimp only at hcs hKs hbv hT
       obtain ⟨A4,c4,A5,c5,A6,c6,A7,c7,rfl,l4,g4,l5,g5,_⟩:=hcs
       have cb0:X.cell? ⟨Bv,0,none⟩ = some (.int .i64 s.f0):=by rw [a1T hbv];rfl
       have cb1:X.cell? ⟨Bv,1,none⟩ = some (.string s.f1):=by rw [a1T hbv];rfl
       have cb2:X.cell? ⟨Bv,2,none⟩ = some (.string s.f2):=by rw [a1T hbv];rfl
       have cb3:X.cell? ⟨Bv,3,none⟩ = some (.string s.f3):=by rw [a1T hbv];rfl
       have cb4:X.cell? ⟨Bv,4,none⟩ = some (.slice A4 s.f4.length c4):=by rw [a1T hbv];rfl
       have cb5:X.cell? ⟨Bv,5,none⟩ = some (.slice A5 s.f5.length c5):=by rw [a1T hbv];rfl
       have cb6:X.cell? ⟨Bv,6,none⟩ = some (.slice A6 s.f6.length c6):=by rw [a1T hbv];rfl
       have cb7:X.cell? ⟨Bv,7,none⟩ = some (.slice A7 s.f7.length c7):=by rw [a1T hbv];rfl
       have fitS:=HFN.out.2.2.2 s hT
       have hLl:(pre.map (·.1.1)).length≤2000000:=by rw [List.length_map];exact Nat.le_trans (Nat.le_of_lt hlen) HFN.out.2.2.1
       obtain ⟨L,hL⟩:∃ L,L = pre.map (·.1.1):=⟨_,rfl⟩
       rw [← hL] at hn hf hLl
       have hpost:∀ (e:Exit) (a:Act) (Y:World),CP w w1 (some ad) fs.length c ds fs j W.heap.size Z.heap.size (L ++ [s]) X e Y→ownPostG w1.heap.size (Kp w.heap.size w1.heap.size none) (fun pre X =>CK w (some ad) fs.length c ds fs j W.heap.size Z.heap.size w1.heap.size (pre.map (·.1.1)) X) (fun cd pre X =>CKx w (some ad) fs.length c ds fs j w1.heap.size cd (pre.map (·.1.1)) X) (pre ++ [(⟨(s,_),hKs,hT⟩:Elt w (fun k =>k < w.heap.size) (fun s =>s ∈ flat F.f2))]) X e a Y:=by
        intro e a Y h
        have e0:(pre ++ [(⟨(s,_),hKs,hT⟩:Elt w (fun k =>k < w.heap.size) (fun s =>s ∈ flat F.f2))]).map (·.1.1) = L ++ [s]:=by rw [List.map_append,hL];rfl
        cases e with
        | normal =>exact ⟨h.1,h.2.1,by show CK _ _ _ _ _ _ _ _ _ _ (List.map _ _) _;rw [e0];exact h.2.2⟩
        | ret =>exact ⟨h.1,by show CKx _ _ _ _ _ _ _ _ _ (List.map _ _) _;rw [e0];exact h.2⟩
        | exit =>exact h.elim
        | goto =>exact h.elim
        | panic =>exact h.elim
        | outgrown =>exact h.elim
       refine wpIn_mono ?_ hpost
       clear hpost hL hbv hlen
       have hw:=pz2 L.length hLl
       have n1:¬ Bv = Z.heap.size:=by omega
       have n2:¬ w.heap.size = Z.heap.size:=by omega
       have n3:¬ W.heap.size = Z.heap.size:=by omega
       obtain ⟨k1,p1,q1,z1⟩:=b4V (w:=w) (w1:=w1) (W:=X) Z.heap.size (.int .i64 ((L.length:Int) + 1)) (by omega) hs1a
       have hO2:=hO.set (b:=Z.heap.size) (by omega) hn (.int .i64 ((L.length:Int) + 1))
       have hi2:=hi.other (B':=Z.heap.size) (by omega) (.int .i64 ((L.length:Int) + 1))
       have hn2:=hn.set (.int .i64 ((L.length:Int) + 1))
       have hcall:=stmt_any fs (some ad) c s A4 A5 A6 A7 c4 c5 s.f6.length c6 s.f7.length c7 (X.setCell ⟨Z.heap.size,0,none⟩ (.int .i64 ((L.length:Int) + 1))) hlc (Kd.a0N K0.out hO2.be) hl l4 (Kd.a0N g4 hO2.be) fitS.1 l5 (Kd.a0N g5 hO2.be) fitS.2.1 fitS.2.2
       have hfs:=b4A fs j L s hf
       obtain ⟨ev,hev⟩:∃ ev,ev = stmtB fs s:=⟨_,rfl⟩
       rw [← hev] at hcall hfs
       have cn:=hn.cell
       have fn:=hn.frozen
       have cp:=hO.bp.cell
       have HCALL:=Lib.hid hcall
       have HO2:=Lib.hid hO2
       have HI2:=Lib.hid hi2
       have HN2:=Lib.hid hn2
       have HFS:=Lib.hid hfs
       have HKP:=Lib.hid (show KeepsFrom w1.heap.size X _∧Kp w.heap.size w1.heap.size none X _∧X.heap.size≤_ from ⟨k1,p1,z1⟩)
       have hXw:=hO.be.size
       have HLL:=Lib.hid hLl
       clear hcall hO2 hi2 hn2 hfs hev hO hi hn hf k1 p1 q1 z1 l4 g4 l5 g5 fitS hLl
       by_cases h0:ev = 0
       ·have h0b:(ev != 0) = false:=by simpa using h0
        have H0:=Lib.hid h0
        clear h0
        gi_wp2_with (first | (gi_at_call 30;((refine (CallsIn.inRound _ (callsIn_wide.2 HCALL.out)).mono ?_));rintro e Y ⟨rfl,hb⟩;clear cn fn cp;have HB:=Lib.hid hb;have HOY:=Lib.hid (HO2.out.below hb);have HIY:=Lib.hid (a5Y HI2.out hb);have HNY:=Lib.hid (a5Y HN2.out hb);have ciY:=HIY.out.cell;have cnY:=HNY.out.cell;have co0:Y.cell? ⟨w.heap.size + 1,0,none⟩ = some (.int .i64 0):=(by rw [HOY.out.bo.cell];rfl);have co1:Y.cell? ⟨w.heap.size + 1,1,none⟩ = some (.int .i64 0):=(by rw [HOY.out.bo.cell];rfl);have fo0:=HOY.out.bo.frozen 0;have fo1:=HOY.out.bo.frozen 1;clear hb))
        obtain ⟨r1,r2,r3⟩:=a8S (w:=w) (w1:=w1) HB.out (HO2.out.be.size)
        exact ⟨HKP.out.1.trans r1,HKP.out.2.1.trans r2,HOY.out,HIY.out,by rw [List.length_append];exact HNY.out,by have:=HB.out.size;have:=HKP.out.2.2;omega,by rw [HFS.out,if_pos H0.out]⟩
       ·have h0b:(ev != 0) = true:=by simpa using h0
        have H0:=Lib.hid h0
        have hm:=mul_z j (Nat.le_trans (Nat.le_of_lt hjl) hl)
        have hm2:=mul_z3 j L.length (Nat.le_trans (Nat.le_of_lt hjl) hl) HLL.out
        clear h0
        gi_wp2_with (first | (gi_at_call 30;((refine (CallsIn.inRound _ (callsIn_wide.2 HCALL.out)).mono ?_));rintro e Y ⟨rfl,hb⟩;clear cn fn cp;have HB:=Lib.hid hb;have HOY:=Lib.hid (HO2.out.below hb);have HIY:=Lib.hid (a5Y HI2.out hb);have HNY:=Lib.hid (a5Y HN2.out hb);have ciY:=HIY.out.cell;have cnY:=HNY.out.cell;have co0:Y.cell? ⟨w.heap.size + 1,0,none⟩ = some (.int .i64 0):=(by rw [HOY.out.bo.cell];rfl);have co1:Y.cell? ⟨w.heap.size + 1,1,none⟩ = some (.int .i64 0):=(by rw [HOY.out.bo.cell];rfl);have fo0:=HOY.out.bo.frozen 0;have fo1:=HOY.out.bo.frozen 1;clear hb))
        obtain ⟨r1,r2,r3⟩:=a8S (w:=w) (w1:=w1) HB.out (HO2.out.be.size)
        exact ⟨(HKP.out.1.trans r1).trans (((KeepsOthers.setCell _ _ _).from _).trans ((KeepsOthers.setCell _ _ _).from _)),rfl,_,_,HOY.out.res _ _,by have:=HB.out.size;have:=HKP.out.2.2;simp only [a4P];omega,by rw [HFS.out,if_neg H0.out];rfl⟩
      case done =>
       rintro D ys X hD hys ⟨hO,hi,hn,hle,hf⟩ hDX
       rw [hys] at hf
       have hres:=HRES.out
       rw [hf] at hres
       have HO9:=Lib.hid (hO.cons (Nat.le_trans hw1s hD) hDX)
       have HR9:=Lib.hid hres
       clear hO hi hn hf hys hres hDX
       obtain ⟨k1,rfl⟩:∃ k1,k = k1 + 1:=⟨k - 1,by omega⟩
       gi_wp2
       refine ⟨k1,Nat.lt_succ_self _,hJ _ _ _ ⟨j + 1,D :: ds,_,_,_,_,_,_,_,_,_,_,_,_,_,_,_,_,_,_,_,_,_,_,_,_,_,_,by omega,?_,rfl,HO9,?_,?_⟩⟩
       ·first | rfl | rw [hkk] | simp [hkk]
       ·exact Lib.hid (List.nodup_cons.2 ⟨fun h =>by have:=HDL.out D h;omega,HD.out⟩)
       ·exact Lib.hid HR9.out.symm
      case stop =>
       rintro D cd pre X hD ⟨qs,hqs⟩ ⟨rfl,e1,p1,hO,hle,hf⟩ hDX
       have hres:=HRES.out
       rw [← hqs,a6Q,hf] at hres
       have HO9:=Lib.hid (hO.cons (Nat.le_trans hw1s hD) hDX)
       have HR9:=Lib.hid hres
       clear hO hf hres hDX
       gi_wp2
       exact a5M _ rfl HO9.out (List.nodup_cons.2 ⟨fun h =>by have:=HDL.out D h;omega,HD.out⟩) HR9.out
  ·have hje:j = fs.length:=by omega
   have hmb:checkF fs = mainB fs:=by rw [← HI.out,hje,List.drop_of_length_le (Nat.le_refl _)];rfl
   have cp:=HO.out.bp.cell
   obtain ⟨q,hq⟩:∃ q,q = funIx fs (⟨#[109,97,105,110]⟩:ByteArray):=⟨_,rfl⟩
   have HQ:=Lib.hid hq
   have hmb2:mainB fs = if q < 0 then (53,-1) else if 0 < (a0P fs q).f1.length then (53,-1) else (0,0):=by rw [hq];rfl
   have hql:q < (fs.length:Int):=by rw [hq];exact a8C fs _
   clear hq hJ hK
   by_cases h0:q < 0
   ·have h0b:decide (q < 0) = true:=decide_eq_true h0
    have HR:=Lib.hid (show checkF fs = (53,-1) by rw [hmb,hmb2,if_pos h0])
    clear h0 hmb hmb2 hje hql
    gi_wp2_with ((try refine ⟨fun _ =>by decide,?_⟩);(gi_at_call 15;((refine (callsIn_wide.2 (a4Y fs A c (⟨#[109,97,105,110]⟩:ByteArray) W hlc (Kd.a0N K0.out HO.out.be) hl)).mono ?_));rw [← HQ.out];rintro e Y ⟨rfl,hb⟩;clear cp;have HOY:=Lib.hid (HO.out.below hb);have cpY:=HOY.out.bp.cell;have co0:Y.cell? ⟨w.heap.size + 1,0,none⟩ = some (.int .i64 0):=(by rw [HOY.out.bo.cell];rfl);have co1:Y.cell? ⟨w.heap.size + 1,1,none⟩ = some (.int .i64 0):=(by rw [HOY.out.bo.cell];rfl);have fo0:=HOY.out.bo.frozen 0;have fo1:=HOY.out.bo.frozen 1;clear hb))
    exact a5M _ rfl (HOY.out.res 53 (-1)) HD.out HR.out
   ·have h0b:decide (q < 0) = false:=decide_eq_false h0
    have p0:0≤q:=Int.not_lt.1 h0
    obtain ⟨ad,A1,c1,A2,c2,eA,_,x1,_⟩:=a3N K0.out q p0 hql
    subst eA
    have X1:=Lib.hid x1
    clear x1
    by_cases he:0 < (a0P fs q).f1.length
    ·have hne:decide (((a0P fs q).f1.length:Int) > 0) = true:=decide_eq_true (Int.ofNat_lt.2 he)
     have heb:decide (0 < (a0P fs q).f1.length) = true:=decide_eq_true he
     have HR:=Lib.hid (show checkF fs = (53,-1) by rw [hmb,hmb2,if_neg h0,if_pos he])
     clear h0 hmb hmb2 hje
     gi_wp2_with ((try refine ⟨fun _ =>by decide,?_⟩);(gi_at_call 15;((refine (callsIn_wide.2 (a4Y fs (some ad) c (⟨#[109,97,105,110]⟩:ByteArray) W hlc (Kd.a0N K0.out HO.out.be) hl)).mono ?_));rw [← HQ.out];rintro e Y ⟨rfl,hb⟩;clear cp;have HOY:=Lib.hid (HO.out.below hb);have cpY:=HOY.out.bp.cell;have co0:Y.cell? ⟨w.heap.size + 1,0,none⟩ = some (.int .i64 0):=(by rw [HOY.out.bo.cell];rfl);have co1:Y.cell? ⟨w.heap.size + 1,1,none⟩ = some (.int .i64 0):=(by rw [HOY.out.bo.cell];rfl);have fo0:=HOY.out.bo.frozen 0;have fo1:=HOY.out.bo.frozen 1;clear hb;have x1:=(HOY.out.be.cell (World.block_lt_of_cell? _ _ X1.out)).trans X1.out))
     exact a5M _ rfl (HOY.out.res 53 (-1)) HD.out HR.out
    ·have hne:decide (((a0P fs q).f1.length:Int) > 0) = false:=decide_eq_false (fun h =>he (Int.ofNat_lt.1 h))
     have heb:decide (0 < (a0P fs q).f1.length) = false:=decide_eq_false he
     have HR:=Lib.hid (show checkF fs = (0,0) by rw [hmb,hmb2,if_neg h0,if_neg he])
     clear h0 hmb hmb2 hje
     gi_wp2_with ((try refine ⟨fun _ =>by decide,?_⟩);(gi_at_call 15;((refine (callsIn_wide.2 (a4Y fs (some ad) c (⟨#[109,97,105,110]⟩:ByteArray) W hlc (Kd.a0N K0.out HO.out.be) hl)).mono ?_));rw [← HQ.out];rintro e Y ⟨rfl,hb⟩;clear cp;have HOY:=Lib.hid (HO.out.below hb);have cpY:=HOY.out.bp.cell;have co0:Y.cell? ⟨w.heap.size + 1,0,none⟩ = some (.int .i64 0):=(by rw [HOY.out.bo.cell];rfl);have co1:Y.cell? ⟨w.heap.size + 1,1,none⟩ = some (.int .i64 0):=(by rw [HOY.out.bo.cell];rfl);have fo0:=HOY.out.bo.frozen 0;have fo1:=HOY.out.bo.frozen 1;clear hb;have x1:=(HOY.out.be.cell (World.block_lt_of_cell? _ _ X1.out)).trans X1.out))
     exact a5M _ rfl (HOY.out.res 0 0) HD.out HR.out
open Go.RowKit Go.Shelf Go.Proofs.Ytjiacafeckokeaa.Pr Go.Proofs.YtjiacafeckokeaaW.PrintWords
structure Fr (S:Nat→Prop) (W W':World):Prop where
 size:W.heap.size≤W'.heap.size
 block:∀ k,k < W.heap.size→¬ S k→W'.heap[k]? = W.heap[k]?
theorem Fr.refl (S:Nat→Prop) (W:World):Fr S W W:=⟨Nat.le_refl _,fun _ _ _ =>rfl⟩
theorem Fr.trans {S S':Nat→Prop} {X Y Z:World} (h:Fr S X Y) (k:Fr S' Y Z) (hs:∀ i,i < X.heap.size→S' i→S i):Fr S X Z :=
 ⟨Nat.le_trans h.size k.size,fun i hi hn =>(k.block i (Nat.lt_of_lt_of_le hi h.size) (fun e =>hn (hs i hi e))).trans (h.block i hi hn)⟩
theorem Fr.a8B {W W':World} (S:Nat→Prop) (h:Below W.heap.size W W'):Fr S W W':=⟨h.size,fun k hk _ =>h.block k hk⟩
theorem Fr.a9X {W W':World} {row:Option Nat} (h:W.grownBy W' row):Fr (fun k =>some k = row) W W':=⟨h.size,fun k hk hn =>h.block k hk hn⟩
theorem Fr.of_set (W:World) (b:Nat) (v:Value):Fr (fun k =>k = b) W (W.setCell ⟨b,0,none⟩ v):=⟨(grownBy_setCell' W b v).size,fun k _ hn =>Below.heap_setCell W ⟨b,0,none⟩ v k hn⟩
theorem Fr.others {S:Nat→Prop} {W W':World} (h:Fr S W W') (hs:∀ k o,S k→W.heap[k]? = some o→o.isCells = true):KeepsOthers W W' :=
 ⟨h.size,fun k o hk ho =>(h.block k (Array.getElem?_eq_some_iff.1 hk).1 (fun e =>by have:=hs k o e hk;rw [ho] at this;cases this)).trans hk⟩
structure VS (w:World) (bL:Nat) (ds:List Nat) (W:World) (vb v:Value) (xs:List ByteArray):Prop where
 be:Below w.heap.size w W
 bl:Boxed W bL 28 vb
 lb:w.heap.size≤bL
 rl:W.ownsRow w.heap.size 9 1 v xs.length (xs.map Value.string)
 df:∀ D,D ∈ ds→w.heap.size≤D∧W.heap[D]? = some (.deferred (some []))
section
variable {w W W':World} {bL:Nat} {ds:List Nat} {vb v:Value} {xs:List ByteArray}
theorem VS.below (h:VS w bL ds W vb v xs) (hb:Below W.heap.size W W'):VS w bL ds W' vb v xs :=
 ⟨h.be.trans (hb.mono h.be.size),(hb.block _ h.bl.lt).trans h.bl,h.lb,a5U h.rl (fun k hk =>hb.block k (a6P h.rl k hk)),
  fun D hD =>⟨(h.df D hD).1,(hb.block D (Array.getElem?_eq_some_iff.1 (h.df D hD).2).1).trans (h.df D hD).2⟩⟩
theorem VS.nrow (h:VS w bL ds W vb v xs):some bL≠v.ownBlock:=h.bl.not_row (by decide) h.rl
theorem VS.row (h:VS w bL ds W vb v xs) {v1:Value} {ys:List ByteArray} (hr:W'.ownsRow w.heap.size 9 1 v1 ys.length (ys.map Value.string)) (hg:W.grownBy W' v.ownBlock):VS w bL ds W' vb v1 ys:=by
 refine ⟨h.be.grown hg h.be.size (fun k hk =>a5D h.rl k hk),h.bl.kept hg h.nrow,h.lb,hr,fun D hD =>⟨(h.df D hD).1,?_⟩⟩
 have h1:=(h.df D hD).2
 rw [hg.block D (Array.getElem?_eq_some_iff.1 h1).1 (fun e =>by obtain ⟨cs,hc⟩:=a3D h.rl D e.symm;rw [h1] at hc;cases hc)]
 exact h1
theorem VS.setL (h:VS w bL ds W vb v xs) (u:Value):VS w bL ds (W.setCell ⟨bL,0,none⟩ u) u v xs:=by
 have hl:=h.lb
 refine ⟨h.be.setCell (p:=⟨bL,0,none⟩) hl u,h.bl.set u,h.lb,a5U h.rl (fun k hk =>Below.heap_setCell W ⟨bL,0,none⟩ u k (fun e =>h.nrow (by rw [hk];exact congrArg some e.symm))),fun D hD =>⟨(h.df D hD).1,?_⟩⟩
 have h1:=(h.df D hD).2
 rw [Below.heap_setCell W ⟨bL,0,none⟩ u D (fun e =>by have h2:W.heap[bL]? = _:=h.bl;rw [show D = bL from e,h2] at h1;cases h1)]
 exact h1
theorem VS.turn (h:VS w bL ds W vb v xs) {B:Nat} {row:Option Nat} (hn:w.heap.size≤B) (hd:∀ D,D ∈ ds→D < B) (hg:W.grownBy W' row) (hr:∀ r,row = some r→B≤r∧∃ o:Obj,W.heap[r]? = some o∧o.isCells = false):VS w bL ds W' vb v xs:=by
 have hc:∀ k cs t,W.heap[k]? = some (.cells cs t (0,0))→some k≠row:=fun k cs t h1 e =>by
  obtain ⟨_,o,ho,hoc⟩:=hr k e.symm
  rw [h1] at ho;cases ho;cases hoc
 refine ⟨h.be.grown hg h.be.size (fun k hk =>Nat.le_trans hn (hr k hk).1),h.bl.kept hg (hc _ _ _ h.bl),h.lb,
  a5U h.rl (fun k hk =>hg.block k (a6P h.rl k hk) (by obtain ⟨cs,hcs⟩:=a3D h.rl k hk;exact hc _ _ _ hcs)),fun D hD =>⟨(h.df D hD).1,?_⟩⟩
 have h1:=(h.df D hD).2
 rw [hg.block D (Array.getElem?_eq_some_iff.1 h1).1 (fun e =>by have:=(hr D e.symm).1;have:=hd D hD;omega)]
 exact h1
theorem VS.cons (h:VS w bL ds W vb v xs) {D:Nat} (hD:w.heap.size≤D) (hZ:W.heap[D]? = some (.deferred (some []))):VS w bL (D :: ds) W vb v xs :=
 ⟨h.be,h.bl,h.lb,h.rl,fun E hE =>by
  rcases List.mem_cons.1 hE with rfl | hE
  ·exact ⟨hD,hZ⟩
  ·exact h.df E hE⟩
theorem VS.kp {B:Nat} {v1:Value} {ys:List ByteArray} (h:VS w bL ds W v v xs) (h':VS w bL ds W' v1 v1 ys) (hb:bL < B) (hB:Below w.heap.size W W') (hf:Fr (fun k =>k = bL∨some k = v.ownBlock) W W')
  (hat:v1.ownBlock = v.ownBlock∨∃ b,v1.ownBlock = some b∧W.heap.size≤b):KeepsFrom B W W'∧Kp w.heap.size B (some bL) W W':=by
 have r1:rowOf (some bL) W = v.ownBlock:=by simp [rowOf,h.bl.cell]
 have r2:rowOf (some bL) W' = v1.ownBlock:=by simp [rowOf,h'.bl.cell]
 refine ⟨(hf.others ?_).from B,hB,fun _ =>⟨fun k hk =>?_,?_,fun k o hk ho hc hne =>?_⟩⟩
 ·rintro k o (rfl | hk) ho
  ·have h2:W.heap[k]? = _:=h.bl
   rw [h2] at ho;cases ho;rfl
  ·obtain ⟨cs,hcs⟩:=a3D h.rl k hk.symm
   rw [hcs] at ho;cases ho;rfl
 ·rw [r2] at hk;exact a6P h'.rl k hk
 ·rw [r1,r2]
  rcases hat with hat | ⟨b,hb1,hb2⟩
  ·exact .inl hat
  ·right;intro k hk;rw [hb1] at hk;cases hk;exact hb2
 ·rw [hf.block k (Array.getElem?_eq_some_iff.1 ho).1 (by rintro (e | e);omega;rw [r1] at hne;exact hne e.symm)]
  exact ho
theorem VS.step {B:Nat} {X Y Z:World} {v0 v1:Value} {xs ys:List ByteArray} (h:VS w bL ds X v0 v0 xs) (hXY:Below X.heap.size X Y) (hg:VS w bL ds Z v0 v1 ys) (hf:Fr (fun k =>some k = v0.ownBlock) Y Z) (hbe:Below w.heap.size Y Z) (hat:v1.ownBlock = v0.ownBlock∨∃ b,v1.ownBlock = some b∧Y.heap.size≤b) (hb:bL < B) :
  VS w bL ds (Z.setCell ⟨bL,0,none⟩ v1) v1 v1 ys∧KeepsFrom B X (Z.setCell ⟨bL,0,none⟩ v1)∧Kp w.heap.size B (some bL) X (Z.setCell ⟨bL,0,none⟩ v1)∧X.heap.size≤(Z.setCell ⟨bL,0,none⟩ v1).heap.size:=by
 have hg2:=hg.setL v1
 have hlb:=h.lb
 have hF:Fr (fun k =>k = bL∨some k = v0.ownBlock) X (Z.setCell ⟨bL,0,none⟩ v1):=((Fr.a8B (fun k =>k = bL∨some k = v0.ownBlock) hXY).trans hf (fun i _ e =>.inr e)).trans (Fr.of_set Z bL v1) (fun i _ e =>.inl e)
 have hB:Below w.heap.size X (Z.setCell ⟨bL,0,none⟩ v1):=((hXY.mono h.be.size).trans hbe).setCell (p:=⟨bL,0,none⟩) (by show w.heap.size≤bL;omega) v1
 obtain ⟨q1,q2⟩:=h.kp hg2 hb hB hF (hat.imp_right fun ⟨b,e,hb⟩ =>⟨b,e,Nat.le_trans hXY.size hb⟩)
 exact ⟨hg2,q1,q2,hF.size⟩
end
theorem a8J {P:Program} (w:World) (base:Nat) (t ty e:TypeId) (i:TypeInfo) (size:Nat) (ht:P.underlying t = some (.slice e)) (hi:P.info? e = some i) (v:Value) (n:Nat) (xs:List Value) (hown:w.ownsRow base e size v n xs) (c:Nat) :
  (Builtin.append_ #[t,t] ty #[v,.slice none 0 c]).run P w = .ok v w:=by
 rcases hown.2 with ⟨rfl,rfl⟩ | ⟨g,cap,cur,rfl,hbg,hg,hnc,_⟩
 ·simp [Builtin.append_,run_underlying ht,sizeOf,typeInfo,hi,Builtin.lenOf,Builtin.firstCells,loadCells,loadCellsFrom]
 ·simp [Builtin.append_,run_underlying ht,sizeOf,typeInfo,hi,Builtin.lenOf,Builtin.firstCells,loadCells,loadCellsFrom,storeCells,hnc]
section
variable {F:Fence} {nF:Nat} {ops:Array Oper} {rest:List Oper} {o:Oper} {a:Act} {Q:Exit→Act→World→Prop} {w W:World} {bL:Nat} {ds:List Nat} {vb v:Value} {xs:List ByteArray}
theorem a2L (ys:List ByteArray) (A:Option Addr) (c:Nat) (hgd:o.guard = none) (s y:Operand) (ho:o.op = .call { callee:=.builtin .append,args:=#[s,y],argTypes:=#[28,28] }) (hs:a.eval s = v) (hx:a.eval y = .slice A ys.length c)
  (hsrc:Kd.C Kd.string W A ys.length ys) (h:VS w bL ds W vb v xs) (hl:xs.length + ys.length≤8000000000000)
  (hK:∀ v1 W1,VS w bL ds W1 vb v1 (xs ++ ys)→Below w.heap.size W W1→Fr (fun k =>some k = v.ownBlock) W W1→(v1.ownBlock = v.ownBlock∨∃ b,v1.ownBlock = some b∧W.heap.size≤b)→(∃ A' n' c',v1 = .slice A' n' c')→wpListIn F nF Try.prog ops Q rest (a.put o.dst v1) W1) :
  wpListIn F nF Try.prog ops Q (o :: rest) a W:=by
 obtain ⟨i0,hi,hz0,hz1,hz2⟩:=info_parts b1K
 cases A with
 | none =>
  have hy:ys = []:=by
   rcases Nat.eq_zero_or_pos ys.length with h0 | h0
   ·exact List.length_eq_zero_iff.1 h0
   ·obtain ⟨ad,e,_⟩:=Kd.a2D hsrc 0 (by omega) (by omega)
    cases e
  subst hy
  refine wpListIn_plain hgd fun K hK' =>?_
  have hr:=a8J (P:=Try.prog) W w.heap.size 28 o.type 9 i0 1 Try.underlying28 hi v xs.length (xs.map Value.string) h.rl c
  unfold Oper.wpIn
  refine ⟨by simp [Oper.about,ho,resolve,Target.leads,Sem.run_pure],?_⟩
  rw [Oper.semAt_plain F _ _ (by rw [ho];intro c hc';cases hc')]
  simp only [List.length_nil] at hx
  simp [execOp,ho,resolve,invoke,builtin,hs,hx,hr,Result.andThen]
  obtain ⟨A',n',c',e'⟩:∃ A' n' c',v = .slice A' n' c':=by
   rcases h.rl.2 with ⟨e,_⟩ | ⟨g,cap,cur,e,_⟩ <;> exact ⟨_,_,_,e⟩
  exact hK' _ _ (hK v W (by rw [List.append_nil];exact h) (Below.refl _ _) (Fr.refl _ _) (.inl rfl) ⟨A',n',c',e'⟩)
 | some ad =>
  refine wpListIn_append_own_at (w:=W) hgd s y 28 ho w.heap.size 9 i0 _ 1 16 Try.underlying28 hi hz0 hz1 hz2 rfl (by decide) v xs.length (xs.map Value.string) hs h.rl ad ys.length c (ys.map Value.string) hx (by simp) ?_ ?_
   (by unfold maxLen;omega) (by omega) h.be.size ?_
  ·intro j u hu
   rw [List.getElem?_map] at hu
   have hj:j < ys.length:=by
    by_cases hj:j < ys.length
    ·exact hj
    ·rw [List.getElem?_eq_none (by omega)] at hu;cases hu
   obtain ⟨ad',e,hc⟩:=Kd.a2D hsrc (j:Int) (Int.natCast_nonneg j) (Int.ofNat_lt.2 hj)
   cases e
   rw [List.getElem?_eq_getElem hj] at hu
   cases hu
   rw [Int.toNat_natCast] at hc
   rw [hc]
   unfold rdOf;rw [Int.toNat_natCast,List.getD_eq_getElem?_getD,List.getElem?_eq_getElem hj];rfl
  ·intro u hu
   obtain ⟨b,_,rfl⟩:=List.mem_map.1 hu
   rfl
  ·intro v1 W1 hown hg _ hat
   have h1:=h.row (ys:=xs ++ ys) (v1:=v1) (by simpa using hown) hg
   refine hK v1 W1 h1 ((Below.refl _ _).grown hg h.be.size (fun k hk =>a5D h.rl k hk)) (Fr.a9X hg) (hat.imp_right fun e =>⟨_,e,Nat.le_refl _⟩) ?_
   rcases h1.rl.2 with ⟨e,_⟩ | ⟨g,cap,cur,e,_⟩ <;> exact ⟨_,_,_,e⟩
end
theorem b0I (b o j:Nat):(⟨b,o,none⟩:Addr).add j = ⟨b,o + j,none⟩:=by
 unfold Addr.add
 split
 ·next h =>rw [h];rfl
 ·rfl
theorem b5L (W:World) (ys:List ByteArray) (hl:ys.length≤1050000):Kd.C Kd.string (W.alloc (.cells (ys.map Value.string).toArray 9)) (some ⟨W.heap.size,0,none⟩) ys.length ys:=by
 refine Kd.a9N (d:=ByteArray.empty) ⟨rfl,Nat.le_trans hl (by decide),fun _ =>⟨_,rfl,fun j hj =>?_⟩⟩
 rw [b0I,a1T (World.alloc_heap_new W _)]
 simp [List.getD,hj]
theorem b5Z (l:List ByteArray) (A:Option Addr) (c:Nat) (w:World) (hC:Kd.C Kd.string w A l.length l) (hl:l.length≤1000000000) :
  Calls Try.prog 25 #[.slice A l.length c] w fun e w' =>∃ v',e = .returned v'∧w'.ownsRow w.heap.size 9 1 v' l.length (l.map Value.string)∧Below w.heap.size w w':=by
 cases A with
 | none =>
  have hy:l = []:=by
   rcases Nat.eq_zero_or_pos l.length with h0 | h0
   ·exact List.length_eq_zero_iff.1 h0
   ·obtain ⟨ad,e,_⟩:=Kd.a2D hC 0 (by omega) (by omega)
    cases e
  subst hy
  refine (Try.slices_Clone_string_nil 0 c w).mono ?_
  rintro e w' ⟨rfl,rfl⟩
  exact ⟨_,rfl,World.ownsRow_nil _ _ _ _,Below.refl _ _⟩
 | some ad =>
  rcases Nat.eq_zero_or_pos l.length with h0 | h0
  ·have hy:l = []:=List.length_eq_zero_iff.1 h0
   subst hy
   refine (Try.slices_Clone_string_zero ad c w).mono ?_
   rintro e w' ⟨v',rfl,h1,_,hb⟩
   exact ⟨v',rfl,h1,hb⟩
  ·have hall:∀ j,j < l.length→w.cell? (ad.add j) = some (.string (l.getD j ByteArray.empty)):=by
    intro j hj
    obtain ⟨ad',e,hc⟩:=Kd.a2D hC (j:Int) (Int.natCast_nonneg j) (Int.ofNat_lt.2 hj)
    cases e
    rw [Int.toNat_natCast] at hc
    rw [hc];unfold rdOf;rw [Int.toNat_natCast]
   have hsp:ad.spot = none:=World.cell?_spot (hall 0 h0)
   obtain ⟨b,off,sp⟩:=ad
   simp only at hsp
   subst hsp
   refine (Try.slices_Clone_string b off l.length c l w (Nat.le_refl _) (by omega) (fun j hj =>by rw [← b0I];exact hall j hj)).mono ?_
   rintro e w' ⟨v',rfl,h1,_,hb⟩
   rw [List.take_length] at h1
   exact ⟨v',rfl,h1,hb⟩
open Go.RowKit Go.Shelf Go.Lib Go.Sort Go.Proofs.Ytjiacafeckokeaa.Pr Go.Proofs.YtjiacafeckokeaaW.PrintWords
attribute [local go_sem] Oper.semAt_some
def uniqB (xs:List ByteArray):List ByteArray:=(uniqS (xs.map (·.data.toList))).map (fun x =>⟨x.toArray⟩)
theorem b6E (xs:List ByteArray):(xs.map (·.data.toList)).map encStr = xs.map Value.string:=by
 rw [List.map_map];congr 1
theorem b4R (xs:List ByteArray):(uniqS (xs.map (·.data.toList))).map encStr = (uniqB xs).map Value.string:=by
 unfold uniqB;rw [List.map_map];rfl
theorem b2U (xs:List ByteArray) (v:Value) (base:Nat) (w:World) (h:w.ownsRow base 9 1 v xs.length (xs.map Value.string)) (hsz:xs.length < 4611686018427387904) :
  Calls Try.prog 27 #[v] w fun e w' =>∃ v',e = .returned v'∧w'.ownsRow base 9 1 v' (uniqB xs).length ((uniqB xs).map Value.string)∧w.grownBy w' v.ownBlock∧v'.ownBlock = v.ownBlock:=by
 have hu:=b3L (xs.map (·.data.toList)) v base w (by rw [b6E,List.length_map];exact h) (by rw [List.length_map];exact hsz)
 rw [b4R] at hu
 have e:(uniqS (xs.map (·.data.toList))).length = (uniqB xs).length:=by unfold uniqB;rw [List.length_map]
 rw [e] at hu
 exact hu
theorem b5H {w:World} {b b' e size n:Nat} {v:Value} {xs:List Value} (h:w.ownsRow b e size v n xs) (hb:b'≤b):w.ownsRow b' e size v n xs:=by
 rcases h with ⟨h0,⟨h1,h2⟩ | ⟨g,cap,cur,hv,hg,r⟩⟩
 ·exact ⟨h0,.inl ⟨h1,h2⟩⟩
 ·exact ⟨h0,.inr ⟨g,cap,cur,hv,Nat.le_trans hb hg,r⟩⟩
theorem ownSlice {w:World} {base e size n:Nat} {v:Value} {xs:List Value} (h:w.ownsRow base e size v n xs):∃ A n' c,v = .slice A n' c:=by
 rcases h.2 with ⟨rfl,_⟩ | ⟨g,cap,cur,rfl,_⟩
 ·exact ⟨_,_,_,rfl⟩
 ·exact ⟨_,_,_,rfl⟩
theorem VS.blk {w W W':World} {bL:Nat} {ds:List Nat} {vb v:Value} {xs:List ByteArray} (h:VS w bL ds W vb v xs) {B:Nat} {t:TypeId} {vs:Array Value} (hB:Blk W B t vs) (ht:t≠(9:Nat)) (hf:Fr (fun k =>some k = v.ownBlock) W W'):Blk W' B t vs :=
 (hf.block B hB.lt (fun e =>by obtain ⟨cs,hcs⟩:=a3D h.rl B e.symm;rw [show W.heap[B]? = _ from hB] at hcs;cases hcs;exact ht rfl)).trans hB
theorem blkBelow {W W':World} {B:Nat} {t:TypeId} {vs:Array Value} (h:Blk W B t vs) (hb:Below W.heap.size W W'):Blk W' B t vs:=(hb.block B h.lt).trans h
def CV (w:World) (bL:Nat) (ds:List Nat) (G:S46→List ByteArray) (P0:List ByteArray) (B:Nat) (L:List S46) (X:World):Prop :=
 ∃ v,VS w bL ds X v v (P0 ++ L.flatMap G)∧B≤X.heap.size
def PV (w w1:World) (bL:Nat) (ds:List Nat) (G:S46→List ByteArray) (P0:List ByteArray) (L:List S46) (X:World):Exit→World→Prop
 | .normal,Y =>KeepsFrom w1.heap.size X Y∧Kp w.heap.size w1.heap.size (some bL) X Y∧CV w bL ds G P0 w1.heap.size L Y
 | _,_ =>False
theorem a7E {α β:Type} (g:α→List β) (k:Nat):∀ L:List α,(∀ s,s ∈ L→(g s).length≤k)→(L.flatMap g).length≤L.length * k:=by
 intro L
 induction L with
 | nil =>intro _;simp
 | cons s r ih =>
  intro h
  have h1:=h s List.mem_cons_self
  have h2:=ih (fun x hx =>h x (List.mem_cons_of_mem _ hx))
  simp only [List.flatMap_cons,List.length_append,List.length_cons,Nat.add_mul,Nat.one_mul]
  omega
def namesOf (l:List S56):List ByteArray:=(l.filter (fun o =>decide (o.f0 = 4))).map (·.f2)
def varG (s:S46):List ByteArray:=[s.f1,s.f2] ++ namesOf s.f4
def varsF (f:S32):List ByteArray:=uniqB (f.f1 ++ (flat f.f2).flatMap varG)
theorem a4T (l:List S56):(namesOf l).length≤l.length:=by unfold namesOf;rw [List.length_map];exact List.length_filter_le _ _
theorem b3W (l:List S56) (i:Nat) (h:i < l.length):namesOf (l.take (i + 1)) = namesOf (l.take i) ++ (if (a1R l (i:Int)).f0 = 4 then [(a1R l (i:Int)).f2] else []):=by
 have e:a1R l (i:Int) = l[i]:=by unfold a1R;rw [Int.toNat_natCast,List.getD_eq_getElem?_getD,List.getElem?_eq_getElem h];rfl
 rw [e,List.take_succ_eq_append_getElem h]
 unfold namesOf
 rw [List.filter_append,List.map_append]
 congr 1
 by_cases h4:l[i].f0 = 4 <;> simp [h4]
set_option maxRecDepth 1000000 in
set_option maxHeartbeats 40000000 in
theorem b2T (w:World) (f:S32) (A1 A2:Option Addr) (c1 c2:Nat) (l1:f.f1.length≤c1) (g1:Kd.C Kd.string w A1 f.f1.length f.f1) (l2:f.f2.length≤c2) (g2:Kd.C k46 w A2 f.f2.length f.f2) (hfit:FitN f) :
  Calls Try.prog 11 #[.agg #[.string f.f0,.slice A1 f.f1.length c1,.slice A2 f.f2.length c2]] w fun e w' =>∃ v,e = .returned v∧w'.ownsRow w.heap.size 9 1 v (varsF f).length ((varsF f).map Value.string)∧Below w.heap.size w w':=by
 refine (callsIn_wide (n:=5)).1 ?_
 refine callsIn_of_wp_marks Try.func11 rfl trivial ?_ rfl
 simp only [Try.ntmps11,List.size_toArray,List.length_cons,List.length_nil,Nat.reduceAdd,Nat.reduceSub,Array.replicate_succ,Array.replicate_zero,List.push_toArray,List.append_toArray,List.nil_append,List.cons_append]
 have hfn:Fence.wide.fn 26:=trivial
 have hfn2:Fence.wide.fn 25:=trivial
 have hfn3:Fence.wide.fn 27:=trivial
 have hb0:=a0D (Below.refl w.heap.size w) (Obj.cells #[Value.string f.f0,Value.slice A1 f.f1.length c1,Value.slice A2 f.f2.length c2] 32)
 have bf0:Blk (w.alloc (Obj.cells #[Value.string f.f0,Value.slice A1 f.f1.length c1,Value.slice A2 f.f2.length c2] 32)) w.heap.size 32 #[Value.string f.f0,Value.slice A1 f.f1.length c1,Value.slice A2 f.f2.length c2]:=World.alloc_heap_new w _
 have HCL:=Lib.hid (b5Z f.f1 A1 c1 _ (Kd.a0N g1 hb0) (Nat.le_trans hfit.1 (by decide)))
 have HB0:=Lib.hid hb0
 have BF0:=Lib.hid bf0
 have G2:=Lib.hid g2
 have HFN:=Lib.hid hfit
 clear g1 g2 hfit hb0 bf0
 gi_wp2_with (first
  | ((try refine ⟨fun _ =>by decide,?_⟩);gi_at_call 25;((refine (callsIn_wide.2 HCL.out).mono ?_));rintro e Y ⟨v0,rfl,ho,hb⟩;obtain ⟨A0,n0,c0,rfl⟩:=ownSlice ho;have HO0:=Lib.hid ho;have HB:=Lib.hid hb;have bfY:=blkBelow BF0.out hb;have cf2:=bfY.cell 2;have cf2A:=((a0D (Below.refl Y.heap.size Y) (Obj.cells #[Value.slice A0 n0 c0] 28)).cell (World.block_lt_of_cell? _ _ cf2)).trans cf2;clear ho hb)
  | ((try refine ⟨fun _ =>by decide,?_⟩);gi_at_call 26;refine (a9Y _ _ rfl _).mono ?_;rintro e w' ⟨rfl,rfl⟩))
 obtain ⟨w1,hw1⟩:∃ w1,w1 = (Y.alloc (Obj.cells #[Value.slice A0 n0 c0] 28)).alloc (Obj.cells #[Value.slice A2 f.f2.length c2] 30):=⟨_,rfl⟩
 rw [← hw1]
 have hsw:(w.alloc (Obj.cells #[Value.string f.f0,Value.slice A1 f.f1.length c1,Value.slice A2 f.f2.length c2] 32)).heap.size = w.heap.size + 1:=by simp
 have hb1:Below Y.heap.size Y w1:=by rw [hw1];exact a0D (a0D (Below.refl _ _) _) _
 have hs1:w1.heap.size = Y.heap.size + 2:=by rw [hw1];simp
 have hwY:w.heap.size + 1≤Y.heap.size:=by have:=HB.out.size;omega
 have hbn:Boxed w1 Y.heap.size 28 (.slice A0 n0 c0):=by rw [hw1];exact (Boxed.new Y _ _).alloc _
 have hbt:w1.cell? ⟨Y.heap.size + 1,0,none⟩ = some (.slice A2 f.f2.length c2):=by
  rw [hw1];have:=(Boxed.new (Y.alloc (Obj.cells #[Value.slice A0 n0 c0] 28)) 30 (Value.slice A2 f.f2.length c2)).cell;simp only [World.size_alloc] at this;exact this
 have hbe:Below w.heap.size w w1:=(HB0.out.trans (HB.out.mono (by omega))).trans (hb1.mono (by omega))
 have hV1:VS w Y.heap.size [] w1 (.slice A0 n0 c0) (.slice A0 n0 c0) f.f1:=⟨hbe,hbn,by omega,b5H (a5U HO0.out (fun k hk =>hb1.block k (a6P HO0.out k hk))) (by omega),fun _ h =>by cases h⟩
 clear hw1 cf2 cf2A bfY hb1 hbn hbe hsw
 have H1:=Lib.hid hV1
 have hw1s:=hV1.be.size
 have hs1a:Y.heap.size < w1.heap.size:=by omega
 have hs1b:Y.heap.size + 1 < w1.heap.size:=by omega
 clear hV1 hs1
 refine rangeAll (w:=w) (P:=fun k =>k < w.heap.size) (T:=fun s =>s ∈ flat f.f2) (n:=5) (by decide) f.f2 A2 c2 l2 (fun _ h =>h) (Kd.C_F a6M G2.out) H1.out.be (Y.heap.size + 1) hs1b hbt rfl (some Y.heap.size) (fun b e =>by cases e;exact hs1a) (fun k h =>by simp only [rowOf,Option.bind_some,H1.out.bl.cell] at h;exact a6P H1.out.rl k h) rfl
  (fun pre X =>CV w Y.heap.size [] varG f.f1 w1.heap.size (pre.map (·.1.1)) X)
  (fun cd pre X =>False)
  ?own1 ?own2 ⟨_,by simpa using H1.out,Nat.le_refl _⟩
  (VarBx w1.heap.size fun Bv x =>{ tmps:=#[.agg #[.string f.f0,.slice A1 f.f1.length c1,.slice A2 f.f2.length c2],.pointer (some ⟨w.heap.size,0,none⟩),.slice none 0 0,.pointer (some ⟨Y.heap.size,0,none⟩),.pointer (some ⟨Bv,0,none⟩),undef,undef,.pointer (some ⟨w.heap.size,1,none⟩),.slice A1 f.f1.length c1,.slice A0 n0 c0,.pointer (some ⟨w.heap.size,2,none⟩),.slice A2 f.f2.length c2,.func (.func 37) #[] #[.pointer (some ⟨Y.heap.size + 1,0,none⟩)],.agg x.1.2.toArray,undef,undef,undef,undef,undef,undef,undef,undef,undef,undef,undef,undef,undef,undef,undef,undef,undef,undef,undef,undef,undef,undef,undef,undef,undef],defers:=[] })
  (fun x a' =>VarBx.own _ _ _ _) ?assign ?body ?done ?stop
 case own1 =>
  rintro pre X Z row ⟨v,h,hle⟩ hg hr
  exact ⟨v,h.turn hw1s (fun _ h =>by cases h) hg hr,Nat.le_trans hle hg.size⟩
 case own2 =>exact fun _ _ _ _ _ h _ _ =>h.elim
 case assign =>
  rintro lp pre ⟨⟨s,cs⟩,hKs,hT⟩ X K2 ⟨v,hG,hle⟩ hk
  have hk':=Lib.hid (hk ({ tmps:=#[.agg #[.string f.f0,.slice A1 f.f1.length c1,.slice A2 f.f2.length c2],.pointer (some ⟨w.heap.size,0,none⟩),.slice none 0 0,.pointer (some ⟨Y.heap.size,0,none⟩),.pointer (some ⟨X.heap.size,0,none⟩),undef,undef,.pointer (some ⟨w.heap.size,1,none⟩),.slice A1 f.f1.length c1,.slice A0 n0 c0,.pointer (some ⟨w.heap.size,2,none⟩),.slice A2 f.f2.length c2,.func (.func 37) #[] #[.pointer (some ⟨Y.heap.size + 1,0,none⟩)],.agg cs.toArray,undef,undef,undef,undef,undef,undef,undef,undef,undef,undef,undef,undef,undef,undef,undef,undef,undef,undef,undef,undef,undef,undef,undef,undef,undef],defers:=[] }) _ ((KeepsOthers.alloc _ _).from _) ((Kp.refl _ _ _ X).alloc _ hG.be.size (fun b e =>by cases e;exact hG.bl.lt)) ⟨v,hG.below (a0D (Below.refl _ _) _),by simp;omega⟩ ⟨X.heap.size,hle,World.alloc_heap_new X (.cells cs.toArray 46),rfl⟩)
  clear hk hG
  have hcs:=a3R (Kd.a5F hKs)
  dsimp only at hcs hKs hk'
  obtain ⟨A4,c4,A5,c5,A6,c6,A7,c7,rfl,_⟩:=hcs
  rw [show ((#[13]:Array Tmp).zip (encE ⟨(s,_),hKs,hT⟩)) = #[(13,Value.agg #[Value.int IntKind.i64 s.f0,Value.string s.f1,Value.string s.f2,Value.string s.f3,Value.slice A4 s.f4.length c4,Value.slice A5 s.f5.length c5,Value.slice A6 s.f6.length c6,Value.slice A7 s.f7.length c7])] from by simp [encE]]
  gi_wp2
  exact hk'.out
 case body =>
  rintro lp pre ⟨⟨s,cs⟩,hKs,hT⟩ a' X hlp hlr ⟨v,hV,hle⟩ ⟨Bv,hBv,hbv,rfl⟩ hlen
  have hcs:=a3R (Kd.a5F hKs)
  dsimp only at hcs hKs hbv hT
  obtain ⟨A4,c4,A5,c5,A6,c6,A7,c7,rfl,l4,g4,l5,g5,_⟩:=hcs
  have hbk:Blk X Bv 46 #[Value.int IntKind.i64 s.f0,Value.string s.f1,Value.string s.f2,Value.string s.f3,Value.slice A4 s.f4.length c4,Value.slice A5 s.f5.length c5,Value.slice A6 s.f6.length c6,Value.slice A7 s.f7.length c7]:=hbv
  have fitS:=HFN.out.2.2.2 s hT
  have hLs:∀ s',s' ∈ pre.map (·.1.1)→s' ∈ flat f.f2:=by
   intro s' hs';obtain ⟨x,_,rfl⟩:=List.mem_map.1 hs';exact x.2.2
  obtain ⟨L,hL⟩:∃ L,L = pre.map (·.1.1):=⟨_,rfl⟩
  have hLl:L.length≤2000000:=by rw [hL,List.length_map];exact Nat.le_trans (Nat.le_of_lt hlen) HFN.out.2.2.1
  rw [← hL] at hV hLs
  have hpost:∀ (e:Exit) (a:Act) (Z:World),PV w w1 Y.heap.size [] varG f.f1 (L ++ [s]) X e Z→ownPostG w1.heap.size (Kp w.heap.size w1.heap.size (some Y.heap.size)) (fun pre X =>CV w Y.heap.size [] varG f.f1 w1.heap.size (pre.map (·.1.1)) X) (fun cd pre X =>False) (pre ++ [(⟨(s,_),hKs,hT⟩:Elt w (fun k =>k < w.heap.size) (fun s =>s ∈ flat f.f2))]) X e a Z:=by
   intro e a Z h
   have e0:(pre ++ [(⟨(s,_),hKs,hT⟩:Elt w (fun k =>k < w.heap.size) (fun s =>s ∈ flat f.f2))]).map (·.1.1) = L ++ [s]:=by rw [List.map_append,hL];rfl
   cases e with
   | normal =>exact ⟨h.1,h.2.1,by show CV _ _ _ _ _ _ (List.map _ _) _;rw [e0];exact h.2.2⟩
   | ret =>exact h.elim
   | exit =>exact h.elim
   | goto =>exact h.elim
   | panic =>exact h.elim
   | outgrown =>exact h.elim
  refine wpIn_mono ?_ hpost
  clear hpost hL hbv hlen
  have cb0:=hbk.cell 0
  have cb1:=hbk.cell 1
  have cb2:=hbk.cell 2
  have cb3:=hbk.cell 3
  have cb4:=hbk.cell 4
  have cb5:=hbk.cell 5
  have cb6:=hbk.cell 6
  have cb7:=hbk.cell 7
  obtain ⟨XS,hXS⟩:∃ XS,XS = f.f1 ++ L.flatMap varG:=⟨_,rfl⟩
  have hxl:XS.length≤2500000000000:=by
   have h1:=a7E varG 1050002 L (fun s' hs' =>by have h2:=a4T s'.f4;have h3:=(HFN.out.2.2.2 s' (hLs s' hs')).1;unfold varG;simp only [List.length_append,List.length_cons,List.length_nil];omega)
   have h2:=HFN.out.1
   have h3:L.length * 1050002≤2000000 * 1050002:=Nat.mul_le_mul_right _ hLl
   rw [hXS,List.length_append];exact Nat.le_trans (Nat.add_le_add h2 (Nat.le_trans h1 h3)) (by decide)
  have hf4:=fitS.1
  rw [← hXS] at hV
  have H2:=Lib.hid hV
  have hxl1:XS.length + [s.f1,s.f2].length≤8000000000000:=Nat.le_trans (Nat.add_le_add hxl (Nat.le_refl 2)) (by decide)
  have G4:=Lib.hid g4
  have HX1:=Lib.hid hxl1
  have HXL:=Lib.hid hxl
  clear hxl hxl1
  have cl:=hV.bl.cell
  have fl:=hV.bl.frozen
  have hXw:=hV.be.size
  have HBK:=Lib.hid hbk
  clear hV g4 g5 fitS hLs hbk
  gi_wp2_with (gi_at_builtin;((refine a2L [s.f1,s.f2] (some ⟨X.heap.size,0,none⟩) 2 rfl (.tmp 14) (.tmp 19) rfl rfl rfl (b5L X [s.f1,s.f2] (by simp)) (H2.out.below (a0D (Below.refl _ _) _)) HX1.out ?_));rintro v1 W1 hg hbe hf hat ⟨A',n',c',e'⟩;subst e';clear cl fl;have HG1:=Lib.hid hg;have HB1:=Lib.hid hbe;have HF1:=Lib.hid hf;have HA1:=Lib.hid hat;have cl:=hg.bl.cell;have fl:=hg.bl.frozen;have HBK1:=Lib.hid ((H2.out.below (a0D (Below.refl _ _) _)).blk (blkBelow HBK.out (a0D (Below.refl _ _) _)) (by decide) hf);have cw4:=HBK1.out.cell 4;clear hg hbe hf hat cb0 cb1 cb2 cb3 cb4 cb5 cb6 cb7)
  obtain ⟨hS1,hk1,hp1,hz1⟩:=VS.step H2.out (a0D (Below.refl X.heap.size X) (Obj.cells ([s.f1,s.f2].map Value.string).toArray 9)) HG1.out HF1.out HB1.out HA1.out hs1a
  obtain ⟨X1,hX1⟩:∃ X1,X1 = W1.setCell ⟨Y.heap.size,0,none⟩ (.slice A' n' c'):=⟨_,rfl⟩
  rw [← hX1] at hS1 hk1 hp1 hz1 ⊢
  have HS1:=Lib.hid hS1
  have HKP:=Lib.hid (show KeepsFrom w1.heap.size X X1∧Kp w.heap.size w1.heap.size (some Y.heap.size) X X1∧X.heap.size≤X1.heap.size from ⟨hk1,hp1,hz1⟩)
  clear hS1 hk1 hp1 hz1 hX1 cl fl cw4
  gi_loopg [24] s.f4.length (fun kq v24 Z =>∃ (i:Nat) (vz:Value),i + kq = s.f4.length∧v24 = .int .i64 i∧Hid (VS w Y.heap.size [] Z vz vz ((XS ++ [s.f1,s.f2]) ++ namesOf (s.f4.take i)))∧Hid (KeepsFrom w1.heap.size X Z∧Kp w.heap.size w1.heap.size (some Y.heap.size) X Z∧X.heap.size≤Z.heap.size))
  case atStart =>exact ⟨0,.slice A' n' c',by omega,rfl,Lib.hid (by simpa [namesOf] using HS1.out),HKP⟩
  case round =>
   obtain ⟨i,vz,hi,rfl,HS,HK⟩:=hrel
   have cl:=HS.out.bl.cell
   have hlt3:=HS.out.bl.lt
   by_cases hil:i < s.f4.length
   ·obtain ⟨ad,eA,x0,x1,x2⟩:=a6T (Kd.a0N G4.out HS.out.be) (i:Int) (Int.natCast_nonneg i) (Int.ofNat_lt.2 hil)
    subst eA
    rw [Int.toNat_natCast] at x0 x1 x2
    have hw:=pz i (Nat.le_trans (Nat.le_of_lt hil) hf4)
    obtain ⟨k1,rfl⟩:∃ k1,gk = k1 + 1:=⟨gk - 1,by omega⟩
    have hne:¬ Y.heap.size = wr.heap.size:=Nat.ne_of_lt hlt3
    have hba:=a0D (Below.refl wr.heap.size wr) (Obj.cells #[Value.int .i64 (a1R s.f4 (i:Int)).f0,Value.int .i64 (a1R s.f4 (i:Int)).f1,Value.string (a1R s.f4 (i:Int)).f2] 56)
    have clA:=(hba.cell (World.block_lt_of_cell? _ _ cl)).trans cl
    have hnt:=b3W s.f4 i hil
    have HVA:=Lib.hid (HS.out.below hba)
    have hnl:=a4T (s.f4.take i)
    rw [List.length_take] at hnl
    have hxl2:(XS ++ [s.f1,s.f2] ++ namesOf (s.f4.take i)).length + [(a1R s.f4 (i:Int)).f2].length≤8000000000000:=by rw [List.length_append,List.length_append];exact Nat.le_trans (Nat.add_le_add (Nat.add_le_add (Nat.add_le_add HXL.out (Nat.le_refl 2)) (Nat.le_trans (Nat.le_trans hnl (Nat.min_le_right _ _)) hf4)) (Nat.le_refl 1)) (by decide)
    have HX2:=Lib.hid hxl2
    clear hxl2 hnl
    by_cases h4:(a1R s.f4 (i:Int)).f0 = 4
    ·have h4b:((a1R s.f4 (i:Int)).f0 == 4) = true:=by simpa using h4
     rw [if_pos h4] at hnt
     have HNT:=Lib.hid hnt
     have hlit:Kd.C Kd.string ((wr.alloc (Obj.cells #[Value.int .i64 (a1R s.f4 (i:Int)).f0,Value.int .i64 (a1R s.f4 (i:Int)).f1,Value.string (a1R s.f4 (i:Int)).f2] 56)).alloc (Obj.cells ([(a1R s.f4 (i:Int)).f2].map Value.string).toArray 9)) (some ⟨wr.heap.size + 1,0,none⟩) [(a1R s.f4 (i:Int)).f2].length [(a1R s.f4 (i:Int)).f2]:=by
      have:=b5L (wr.alloc (Obj.cells #[Value.int .i64 (a1R s.f4 (i:Int)).f0,Value.int .i64 (a1R s.f4 (i:Int)).f1,Value.string (a1R s.f4 (i:Int)).f2] 56)) [(a1R s.f4 (i:Int)).f2] (by simp);rwa [World.size_alloc] at this
     have HLIT:=Lib.hid hlit
     have HVB:=Lib.hid (HVA.out.below (a0D (Below.refl _ _) (Obj.cells ([(a1R s.f4 (i:Int)).f2].map Value.string).toArray 9)))
     have HBB:=Lib.hid (hba.trans ((a0D (Below.refl _ _) (Obj.cells ([(a1R s.f4 (i:Int)).f2].map Value.string).toArray 9)).mono hba.size))
     clear h4 hnt hlit hba
     gi_wp2_with (gi_at_builtin;((refine a2L [(a1R s.f4 (i:Int)).f2] (some ⟨wr.heap.size + 1,0,none⟩) 1 rfl (.tmp 31) (.tmp 34) rfl rfl rfl HLIT.out HVB.out HX2.out ?_));rintro v1 W2 hg hbe hf hat ⟨A',n',c',e'⟩;subst e';clear cl clA;have HG1:=Lib.hid hg;have HB1:=Lib.hid hbe;have HF1:=Lib.hid hf;have HA1:=Lib.hid hat;have cl:=hg.bl.cell;have fl:=hg.bl.frozen;clear hg hbe hf hat)
     obtain ⟨hS2,hk2,hp2,hz2⟩:=VS.step HS.out HBB.out HG1.out HF1.out HB1.out HA1.out hs1a
     gi_roundg k1
     case measure =>exact Nat.lt_succ_self _
     case rel =>exact ⟨i + 1,_,by rw [Nat.add_assoc,Nat.add_comm 1];exact hi,by first | rw [hw] | simp,Lib.hid (by rw [HNT.out,← List.append_assoc];exact hS2),Lib.hid ⟨HK.out.1.trans hk2,HK.out.2.1.trans hp2,Nat.le_trans HK.out.2.2 hz2⟩⟩
    ·have h4b:((a1R s.f4 (i:Int)).f0 == 4) = false:=by simpa using h4
     rw [if_neg h4,List.append_nil] at hnt
     have HNT:=Lib.hid hnt
     have HBA:=Lib.hid hba
     clear h4 hnt hba
     gi_wp2
     gi_roundg k1
     case measure =>exact Nat.lt_succ_self _
     case rel =>exact ⟨i + 1,_,by rw [Nat.add_assoc,Nat.add_comm 1];exact hi,by first | rw [hw] | simp,Lib.hid (by rw [HNT.out];exact HVA.out),Lib.hid ⟨HK.out.1.trans ((KeepsOthers.alloc _ _).from _),HK.out.2.1.trans ((Kp.refl _ _ _ wr).alloc _ HS.out.be.size (fun b e =>by cases e;exact hlt3)),Nat.le_trans HK.out.2.2 HBA.out.size⟩⟩
   ·have hie:i = s.f4.length:=by omega
    have HSE:=Lib.hid HS.out
    rw [hie,List.take_length] at HSE
    have HXS:=Lib.hid hXS
    clear hXS
    gi_wp2
    exact ⟨HK.out.1,HK.out.2.1,_,by rw [List.flatMap_append,← List.append_assoc,← HXS.out];simpa [varG] using HSE.out,Nat.le_trans hle HK.out.2.2⟩
 case done =>
  rintro D ys X hD hys ⟨v,hV,hle⟩ hDX
  rw [hys] at hV
  have hxl:(f.f1 ++ (flat f.f2).flatMap varG).length < 4611686018427387904:=by
   have h1:=a7E varG 1050002 (flat f.f2) (fun s' hs' =>by have h2:=a4T s'.f4;have h3:=(HFN.out.2.2.2 s' hs').1;unfold varG;simp only [List.length_append,List.length_cons,List.length_nil];omega)
   have h2:=HFN.out.1
   have h3:(flat f.f2).length * 1050002≤2000000 * 1050002:=Nat.mul_le_mul_right _ HFN.out.2.2.1
   rw [List.length_append];exact Nat.lt_of_le_of_lt (Nat.add_le_add h2 (Nat.le_trans h1 h3)) (by decide)
  have cl:=hV.bl.cell
  have HU:=Lib.hid (b2U _ v w.heap.size X hV.rl hxl)
  have HV:=Lib.hid hV
  have HDX:=Lib.hid hDX
  clear hV hys hDX hxl
  gi_wp2_with ((try refine ⟨fun _ =>by decide,?_⟩);gi_at_call 27;((refine (callsIn_wide.2 HU.out).mono ?_));rintro e Z ⟨v',rfl,hr,hg,hob⟩;have HR:=Lib.hid hr;have HG:=Lib.hid hg;clear hr hg hob cl)
  have hbZ:Below w.heap.size w Z:=HV.out.be.grown HG.out HV.out.be.size (fun k hk =>a5D HV.out.rl k hk)
  have hDZ:Z.heap[D]? = some (.deferred (some [])):=by
   rw [HG.out.block D (Array.getElem?_eq_some_iff.1 HDX.out).1 (fun e =>by obtain ⟨cs,hcs⟩:=a3D HV.out.rl D e.symm;rw [HDX.out] at hcs;cases hcs)];exact HDX.out
  refine a7N w.heap.size (fun Q =>Q.ownsRow w.heap.size 9 1 v' (varsF f).length ((varsF f).map Value.string)∧Below w.heap.size w Q) ?_ ?_ [D] Z ⟨HR.out,hbZ⟩ (by simp) (fun E hE =>by obtain rfl:=List.mem_singleton.1 hE;exact ⟨Nat.le_trans hw1s hD,hDZ⟩)
  ·intro Q E hQ hB hE
   refine ⟨a5U hQ.1 (fun k hk =>(grownBy_putObj' Q E _).block k (a6P hQ.1 k hk) (fun e =>by cases e;obtain ⟨cs,hcs⟩:=a3D hQ.1 _ hk;rw [hE] at hcs;cases hcs)),hQ.2.grown (grownBy_putObj' Q E _) hQ.2.size (fun k e =>by cases e;exact hB)⟩
  ·intro Q hQ
   exact ⟨_,results_tmp rfl _ _ _,v',rfl,hQ.1,hQ.2⟩
 case stop =>exact fun _ _ _ _ _ _ h _ =>h.elim
open Go.RowKit Go.Shelf Go.Lib Go.Sort Go.Proofs.Ytjiacafeckokeaa.Pr Go.Proofs.YtjiacafeckokeaaW.PrintWords
attribute [local go_sem] Oper.semAt_some
def propG (s:S46):List ByteArray:=s.f5 ++ (if s.f0 = 2∨s.f0 = 3 then [s.f3] else [])
def flatF (f:S32):List S46:=flat f.f2
def propsF (fs:List S32):List ByteArray:=uniqB ((fs.flatMap flatF).flatMap propG)
def FitW (fs:List S32):Prop:=FitC fs∧(fs.flatMap flatF).length≤2000000
theorem fm_take {α β:Type} (g:α→List β) (l:List α) (j:Nat):((l.take j).flatMap g).length≤(l.flatMap g).length:=by
 have h:=congrArg List.length (congrArg (List.flatMap g) (List.take_append_drop j l))
 rw [List.flatMap_append,List.length_append] at h
 omega
theorem b1F (s:S46) (h:FitS s):(propG s).length≤1050001:=by
 have:=h.2.1
 unfold propG
 rw [List.length_append]
 split <;> simp <;> omega
theorem a8F {fs:List S32} (h:FitC fs) (j:Nat):∀ s,s ∈ (fs.take j).flatMap flatF→(propG s).length≤1050001:=by
 intro s hs
 obtain ⟨f,hf,hs⟩:=List.mem_flatMap.1 hs
 exact b1F s ((h.2 f (List.mem_of_mem_take hf)).2.2.2 s hs)
set_option maxRecDepth 1000000 in
set_option maxHeartbeats 40000000 in
theorem b1E (w:World) (fs:List S32) (A:Option Addr) (c:Nat) (hlc:fs.length≤c) (hC:Kd.C k32 w A fs.length fs) (hfit:FitW fs) :
  Calls Try.prog 17 #[.agg #[.slice A fs.length c]] w fun e w' =>∃ v,e = .returned v∧w'.ownsRow w.heap.size 9 1 v (propsF fs).length ((propsF fs).map Value.string)∧Below w.heap.size w w':=by
 refine (callsIn_wide (n:=5)).1 ?_
 refine callsIn_of_wp_marks Try.func17 rfl trivial ?_ rfl
 simp only [Try.ntmps17,List.size_toArray,List.length_cons,List.length_nil,Nat.reduceAdd,Nat.reduceSub,Array.replicate_succ,Array.replicate_zero,List.push_toArray,List.append_toArray,List.nil_append,List.cons_append]
 have hfn:Fence.wide.fn 26:=trivial
 have hfn3:Fence.wide.fn 27:=trivial
 have K0:=Lib.hid hC
 have HF:=Lib.hid hfit
 have hl:fs.length≤1050000:=hfit.1.1
 clear hC hfit
 gi_wp2
 obtain ⟨W0,hW0⟩:∃ W0,W0 = (w.alloc (Obj.cells #[Value.slice A fs.length c] 24)).alloc (Obj.cells #[Value.slice none 0 0] 28):=⟨_,rfl⟩
 have hO0:VS w (w.heap.size + 1) [] W0 (.slice none 0 0) (.slice none 0 0) []:=by
  rw [hW0]
  refine ⟨a0D (a0D (Below.refl _ _) _) _,?_,by omega,World.ownsRow_nil _ _ _ _,fun _ h =>by cases h⟩
  have:=Boxed.new (w.alloc (Obj.cells #[Value.slice A fs.length c] 24)) 28 (.slice none 0 0)
  simpa using this
 rw [← hW0]
 clear hW0
 refine wpIn_loop_ghost_k (fun k a W =>∃ (j:Nat) (ds:List Nat) (vv v10 u5 u11 u12 u13 u14 u15 u16 u35:Value),j + k = fs.length∧v10 = .int .i64 (j:Nat)∧a = { tmps:=#[.agg #[.slice A fs.length c],.pointer (some ⟨w.heap.size,0,none⟩),.slice none 0 0,.pointer (some ⟨w.heap.size + 1,0,none⟩),undef,u5,undef,.pointer (some ⟨w.heap.size,0,none⟩),.slice A fs.length c,.int .i64 (fs.length:Nat),v10,u11,u12,u13,u14,u15,u16,undef,undef,undef,undef,undef,undef,undef,undef,undef,undef,undef,undef,undef,undef,undef,undef,undef,undef,u35,undef,undef],defers:=ds.map mkD } ∧
  Hid (VS w (w.heap.size + 1) ds W vv vv (((fs.take j).flatMap flatF).flatMap propG))∧Hid ds.Nodup) fs.length ?start ?round
 case start =>exact ⟨0,[],.slice none 0 0,.int .i64 0,undef,undef,undef,undef,undef,undef,undef,undef,by omega,rfl,rfl,Lib.hid (by simpa using hO0),Lib.hid List.nodup_nil⟩
 case round =>
  rintro k a W ⟨j,ds,vv,v10,u5,u11,u12,u13,u14,u15,u16,u35,hj,rfl,rfl,HO,HD⟩ J K hJ hK
  have hwsz:=HO.out.be.size
  by_cases hjl:j < fs.length
  ·obtain ⟨ad,A1,c1,A2,c2,eA,y0,y1,y2,_,_,l2,g2⟩:=a3N K0.out (j:Int) (Int.natCast_nonneg j) (Int.ofNat_lt.2 hjl)
   subst eA
   rw [Int.toNat_natCast] at y0 y1 y2
   have x0:=(HO.out.be.cell (World.block_lt_of_cell? _ _ y0)).trans y0
   have x1:=(HO.out.be.cell (World.block_lt_of_cell? _ _ y1)).trans y1
   have x2:=(HO.out.be.cell (World.block_lt_of_cell? _ _ y2)).trans y2
   have hkk:=pz j (Nat.le_trans (Nat.le_of_lt hjl) hl)
   have G2:=Lib.hid g2
   clear y0 y1 y2 g2
   gi_wp2_with ((try refine ⟨fun _ =>by decide,?_⟩);gi_at_call 26;refine (a9Y _ _ rfl _).mono ?_;rintro e w' ⟨rfl,rfl⟩)
   obtain ⟨w1,hw1⟩:∃ w1,w1 = (W.alloc (Obj.cells #[Value.string (a0P fs (j:Int)).f0,Value.slice A1 (a0P fs (j:Int)).f1.length c1,Value.slice A2 (a0P fs (j:Int)).f2.length c2] 32)).alloc (Obj.cells #[Value.slice A2 (a0P fs (j:Int)).f2.length c2] 30):=⟨_,rfl⟩
   rw [← hw1]
   have hb1:Below W.heap.size W w1:=by rw [hw1];exact a0D (a0D (Below.refl _ _) _) _
   have hs1:w1.heap.size = W.heap.size + 2:=by rw [hw1];simp
   have hbt:w1.cell? ⟨W.heap.size + 1,0,none⟩ = some (.slice A2 (a0P fs (j:Int)).f2.length c2):=by
    rw [hw1];have:=(Boxed.new (W.alloc (Obj.cells #[Value.string (a0P fs (j:Int)).f0,Value.slice A1 (a0P fs (j:Int)).f1.length c1,Value.slice A2 (a0P fs (j:Int)).f2.length c2] 32)) 30 (Value.slice A2 (a0P fs (j:Int)).f2.length c2)).cell;simp only [World.size_alloc] at this;exact this
   have hV1:=HO.out.below hb1
   have hfm:(a0P fs (j:Int)) ∈ fs:=by unfold a0P;rw [Int.toNat_natCast,List.getD_eq_getElem?_getD,List.getElem?_eq_getElem hjl];exact List.getElem_mem hjl
   have HFN:=Lib.hid (HF.out.1.2 _ hfm)
   have hnx:(fs.take (j + 1)).flatMap flatF = (fs.take j).flatMap flatF ++ flat (a0P fs (j:Int)).f2:=by
    rw [List.take_succ_eq_append_getElem hjl,List.flatMap_append];congr 1;unfold a0P;rw [Int.toNat_natCast,List.getD_eq_getElem?_getD,List.getElem?_eq_getElem hjl];simp [flatF]
   have HNX:=Lib.hid hnx
   have HPL:=Lib.hid (Nat.le_trans (a7E propG 1050001 _ (a8F HF.out.1 j)) (Nat.mul_le_mul_right 1050001 (Nat.le_trans (fm_take flatF fs j) HF.out.2)))
   obtain ⟨P0,hP0⟩:∃ P0,P0 = ((fs.take j).flatMap flatF).flatMap propG:=⟨_,rfl⟩
   rw [← hP0] at hV1 HPL
   have HP0:=Lib.hid hP0
   have hdl:∀ D,D ∈ ds→D < w1.heap.size:=fun D hD =>(Array.getElem?_eq_some_iff.1 (hV1.df D hD).2).1
   have hbL:=HO.out.bl.lt
   have hs1a:w.heap.size + 1 < w1.heap.size:=by omega
   have hs1b:W.heap.size + 1 < w1.heap.size:=by omega
   have H1:=Lib.hid hV1
   have HDL:=Lib.hid hdl
   have hw1s:=hV1.be.size
   clear hw1 hb1 hs1 hV1 hdl hfm hnx hP0
   refine rangeAll (w:=w) (P:=fun k =>k < w.heap.size) (T:=fun s =>s ∈ flat (a0P fs (j:Int)).f2) (n:=5) (by decide) (a0P fs (j:Int)).f2 A2 c2 l2 (fun _ h =>h) (Kd.C_F a6M G2.out) H1.out.be (W.heap.size + 1) hs1b hbt rfl (some (w.heap.size + 1)) (fun b e =>by cases e;exact hs1a) (fun k h =>by simp only [rowOf,Option.bind_some,H1.out.bl.cell] at h;exact a6P H1.out.rl k h) rfl
    (fun pre X =>CV w (w.heap.size + 1) ds propG P0 w1.heap.size (pre.map (·.1.1)) X)
    (fun cd pre X =>False)
    ?own1 ?own2 ⟨_,by simpa using H1.out,Nat.le_refl _⟩
    (VarBx w1.heap.size fun Bv x =>{ tmps:=#[.agg #[.slice (some ad) fs.length c],.pointer (some ⟨w.heap.size,0,none⟩),.slice none 0 0,.pointer (some ⟨w.heap.size + 1,0,none⟩),undef,.pointer (some ⟨W.heap.size,0,none⟩),.pointer (some ⟨Bv,0,none⟩),.pointer (some ⟨w.heap.size,0,none⟩),.slice (some ad) fs.length c,.int .i64 (fs.length:Nat),.int .i64 (j:Nat),.bool true,.pointer (some (ad.add (j * 3))),.agg #[.string (a0P fs (j:Int)).f0,.slice A1 (a0P fs (j:Int)).f1.length c1,.slice A2 (a0P fs (j:Int)).f2.length c2],.pointer (some ⟨W.heap.size,2,none⟩),.slice A2 (a0P fs (j:Int)).f2.length c2,.func (.func 37) #[] #[.pointer (some ⟨W.heap.size + 1,0,none⟩)],.agg x.1.2.toArray,undef,undef,undef,undef,undef,undef,undef,undef,undef,undef,undef,undef,undef,undef,undef,undef,undef,u35,undef,undef],defers:=[] })
    (fun x a' =>VarBx.own _ _ _ _) ?assign ?body ?done ?stop
   case own1 =>
    rintro pre X Z row ⟨v,h,hle⟩ hg hr
    exact ⟨v,h.turn hw1s HDL.out hg hr,Nat.le_trans hle hg.size⟩
   case own2 =>exact fun _ _ _ _ _ h _ _ =>h.elim
   case assign =>
    rintro lp pre ⟨⟨s,cs⟩,hKs,hT⟩ X K2 ⟨v,hG,hle⟩ hk
    have hk':=Lib.hid (hk ({ tmps:=#[.agg #[.slice (some ad) fs.length c],.pointer (some ⟨w.heap.size,0,none⟩),.slice none 0 0,.pointer (some ⟨w.heap.size + 1,0,none⟩),undef,.pointer (some ⟨W.heap.size,0,none⟩),.pointer (some ⟨X.heap.size,0,none⟩),.pointer (some ⟨w.heap.size,0,none⟩),.slice (some ad) fs.length c,.int .i64 (fs.length:Nat),.int .i64 (j:Nat),.bool true,.pointer (some (ad.add (j * 3))),.agg #[.string (a0P fs (j:Int)).f0,.slice A1 (a0P fs (j:Int)).f1.length c1,.slice A2 (a0P fs (j:Int)).f2.length c2],.pointer (some ⟨W.heap.size,2,none⟩),.slice A2 (a0P fs (j:Int)).f2.length c2,.func (.func 37) #[] #[.pointer (some ⟨W.heap.size + 1,0,none⟩)],.agg cs.toArray,undef,undef,undef,undef,undef,undef,undef,undef,undef,undef,undef,undef,undef,undef,undef,undef,undef,u35,undef,undef],defers:=[] }) _ ((KeepsOthers.alloc _ _).from _) ((Kp.refl _ _ _ X).alloc _ hG.be.size (fun b e =>by cases e;exact hG.bl.lt)) ⟨v,hG.below (a0D (Below.refl _ _) _),by simp;omega⟩ ⟨X.heap.size,hle,World.alloc_heap_new X (.cells cs.toArray 46),rfl⟩)
    clear hk hG
    have hcs:=a3R (Kd.a5F hKs)
    dsimp only at hcs hKs hk'
    obtain ⟨A4,c4,A5,c5,A6,c6,A7,c7,rfl,_⟩:=hcs
    rw [show ((#[17]:Array Tmp).zip (encE ⟨(s,_),hKs,hT⟩)) = #[(17,Value.agg #[Value.int IntKind.i64 s.f0,Value.string s.f1,Value.string s.f2,Value.string s.f3,Value.slice A4 s.f4.length c4,Value.slice A5 s.f5.length c5,Value.slice A6 s.f6.length c6,Value.slice A7 s.f7.length c7])] from by simp [encE]]
    gi_wp2
    exact hk'.out
   case body =>
    rintro lp pre ⟨⟨s,cs⟩,hKs,hT⟩ a' X hlp hlr ⟨v,hV,hle⟩ ⟨Bv,hBv,hbv,rfl⟩ hlen
    have hcs:=a3R (Kd.a5F hKs)
    dsimp only at hcs hKs hbv hT
    obtain ⟨A4,c4,A5,c5,A6,c6,A7,c7,rfl,l4,g4,l5,g5,_⟩:=hcs
    have hbk:Blk X Bv 46 #[Value.int IntKind.i64 s.f0,Value.string s.f1,Value.string s.f2,Value.string s.f3,Value.slice A4 s.f4.length c4,Value.slice A5 s.f5.length c5,Value.slice A6 s.f6.length c6,Value.slice A7 s.f7.length c7]:=hbv
    have fitS:=HFN.out.2.2.2 s hT
    have hLs:∀ s',s' ∈ pre.map (·.1.1)→s' ∈ flat (a0P fs (j:Int)).f2:=by
     intro s' hs';obtain ⟨x,_,rfl⟩:=List.mem_map.1 hs';exact x.2.2
    obtain ⟨L,hL⟩:∃ L,L = pre.map (·.1.1):=⟨_,rfl⟩
    have hLl:L.length≤2000000:=by rw [hL,List.length_map];exact Nat.le_trans (Nat.le_of_lt hlen) HFN.out.2.2.1
    rw [← hL] at hV hLs
    have hpost:∀ (e:Exit) (a:Act) (Z:World),PV w w1 (w.heap.size + 1) ds propG P0 (L ++ [s]) X e Z→ownPostG w1.heap.size (Kp w.heap.size w1.heap.size (some (w.heap.size + 1))) (fun pre X =>CV w (w.heap.size + 1) ds propG P0 w1.heap.size (pre.map (·.1.1)) X) (fun cd pre X =>False) (pre ++ [(⟨(s,_),hKs,hT⟩:Elt w (fun k =>k < w.heap.size) (fun s =>s ∈ flat (a0P fs (j:Int)).f2))]) X e a Z:=by
     intro e a Z h
     have e0:(pre ++ [(⟨(s,_),hKs,hT⟩:Elt w (fun k =>k < w.heap.size) (fun s =>s ∈ flat (a0P fs (j:Int)).f2))]).map (·.1.1) = L ++ [s]:=by rw [List.map_append,hL];rfl
     cases e with
     | normal =>exact ⟨h.1,h.2.1,by show CV _ _ _ _ _ _ (List.map _ _) _;rw [e0];exact h.2.2⟩
     | ret =>exact h.elim
     | exit =>exact h.elim
     | goto =>exact h.elim
     | panic =>exact h.elim
     | outgrown =>exact h.elim
    refine wpIn_mono ?_ hpost
    clear hpost hL hbv hlen
    have cb0:=hbk.cell 0
    have cb1:=hbk.cell 1
    have cb2:=hbk.cell 2
    have cb3:=hbk.cell 3
    have cb4:=hbk.cell 4
    have cb5:=hbk.cell 5
    have cb6:=hbk.cell 6
    have cb7:=hbk.cell 7
    obtain ⟨XS,hXS⟩:∃ XS,XS = P0 ++ L.flatMap propG:=⟨_,rfl⟩
    have hf5:=fitS.2.1
    have hxl:XS.length≤2000000 * 1050001 + 2000000 * 1050001:=by
     have h1:=a7E propG 1050001 L (fun s' hs' =>b1F s' (HFN.out.2.2.2 s' (hLs s' hs')))
     rw [hXS,List.length_append];exact Nat.add_le_add HPL.out (Nat.le_trans h1 (Nat.mul_le_mul_right _ hLl))
    have HX1:=Lib.hid (show XS.length + s.f5.length≤8000000000000 from Nat.le_trans (Nat.add_le_add hxl hf5) (by decide))
    have HX2:=Lib.hid (show (XS ++ s.f5).length + [s.f3].length≤8000000000000 by rw [List.length_append];exact Nat.le_trans (Nat.add_le_add (Nat.add_le_add hxl hf5) (Nat.le_refl 1)) (by decide))
    rw [← hXS] at hV
    have H2:=Lib.hid hV
    have G5:=Lib.hid (Kd.a0N g5 hV.be)
    have cl:=hV.bl.cell
    have fl:=hV.bl.frozen
    have hXw:=hV.be.size
    have HBK:=Lib.hid hbk
    have HXS:=Lib.hid hXS
    have n1:¬ Bv = w.heap.size + 1:=by omega
    clear hV g4 g5 fitS hLs hbk hxl hXS
    by_cases h2:s.f0 = 2
    ·have h2b:(s.f0 == 2) = true:=by simpa using h2
     have hpg:propG s = s.f5 ++ [s.f3]:=by simp [propG,h2]
     have HPG:=Lib.hid hpg
     clear hpg
     gi_wp2_with (first | (gi_at_builtin;(refine a2L s.f5 A5 c5 rfl (.tmp 18) (.tmp 20) rfl rfl rfl G5.out H2.out HX1.out ?_);rintro v1 W1 hg hbe hf hat ⟨A',n',c',e'⟩;subst e';clear cl fl;have HG1:=Lib.hid hg;have HB1:=Lib.hid hbe;have HF1:=Lib.hid hf;have HA1:=Lib.hid hat;have cl:=hg.bl.cell;have fl:=hg.bl.frozen;have hbk1:=H2.out.blk HBK.out (by decide) hf;have cw0:=hbk1.cell 0;have cw3:=hbk1.cell 3;have hlit:=b5L (W1.setCell ⟨w.heap.size + 1,0,none⟩ (.slice A' n' c')) [s.f3] (by simp);rw [a4P] at hlit;have HLIT:=Lib.hid hlit;clear hlit hbk1 hg hbe hf hat cb0 cb1 cb2 cb3 cb4 cb5 cb6 cb7) | (gi_at_builtin;((refine a2L [s.f3] (some ⟨W1.heap.size,0,none⟩) 1 rfl (.tmp 30) (.tmp 33) rfl rfl rfl HLIT.out ((HG1.out.setL _).below (a0D (Below.refl _ _) _)) HX2.out ?_));rintro v2 W2 hg hbe hf hat ⟨A9,n9,c9,e9⟩;subst e9;clear cl fl;have HG2:=Lib.hid hg;have HB2:=Lib.hid hbe;have HF2:=Lib.hid hf;have HA2:=Lib.hid hat;have cl:=hg.bl.cell;have fl:=hg.bl.frozen;clear hg hbe hf hat))
     obtain ⟨hS1,hk1,hp1,hz1⟩:=VS.step H2.out (Below.refl _ X) HG1.out HF1.out HB1.out HA1.out hs1a
     obtain ⟨hS2,hk2,hp2,hz2⟩:=VS.step hS1 (a0D (Below.refl _ _) (Obj.cells ([s.f3].map Value.string).toArray 9)) HG2.out HF2.out HB2.out HA2.out hs1a
     exact ⟨hk1.trans hk2,hp1.trans hp2,_,by rw [List.flatMap_append,← List.append_assoc,← HXS.out];simpa [HPG.out] using hS2,Nat.le_trans hle (Nat.le_trans hz1 hz2)⟩
    ·have h2b:(s.f0 == 2) = false:=by simpa using h2
     by_cases h3:s.f0 = 3
     ·have h3b:(s.f0 == 3) = true:=by simpa using h3
      have hpg:propG s = s.f5 ++ [s.f3]:=by simp [propG,h3]
      have HPG:=Lib.hid hpg
      clear hpg
      gi_wp2_with (first | (gi_at_builtin;(refine a2L s.f5 A5 c5 rfl (.tmp 18) (.tmp 20) rfl rfl rfl G5.out H2.out HX1.out ?_);rintro v1 W1 hg hbe hf hat ⟨A',n',c',e'⟩;subst e';clear cl fl;have HG1:=Lib.hid hg;have HB1:=Lib.hid hbe;have HF1:=Lib.hid hf;have HA1:=Lib.hid hat;have cl:=hg.bl.cell;have fl:=hg.bl.frozen;have hbk1:=H2.out.blk HBK.out (by decide) hf;have cw0:=hbk1.cell 0;have cw3:=hbk1.cell 3;have hlit:=b5L (W1.setCell ⟨w.heap.size + 1,0,none⟩ (.slice A' n' c')) [s.f3] (by simp);rw [a4P] at hlit;have HLIT:=Lib.hid hlit;clear hlit hbk1 hg hbe hf hat cb0 cb1 cb2 cb3 cb4 cb5 cb6 cb7) | (gi_at_builtin;((refine a2L [s.f3] (some ⟨W1.heap.size,0,none⟩) 1 rfl (.tmp 30) (.tmp 33) rfl rfl rfl HLIT.out ((HG1.out.setL _).below (a0D (Below.refl _ _) _)) HX2.out ?_));rintro v2 W2 hg hbe hf hat ⟨A9,n9,c9,e9⟩;subst e9;clear cl fl;have HG2:=Lib.hid hg;have HB2:=Lib.hid hbe;have HF2:=Lib.hid hf;have HA2:=Lib.hid hat;have cl:=hg.bl.cell;have fl:=hg.bl.frozen;clear hg hbe hf hat))
      obtain ⟨hS1,hk1,hp1,hz1⟩:=VS.step H2.out (Below.refl _ X) HG1.out HF1.out HB1.out HA1.out hs1a
      obtain ⟨hS2,hk2,hp2,hz2⟩:=VS.step hS1 (a0D (Below.refl _ _) (Obj.cells ([s.f3].map Value.string).toArray 9)) HG2.out HF2.out HB2.out HA2.out hs1a
      exact ⟨hk1.trans hk2,hp1.trans hp2,_,by rw [List.flatMap_append,← List.append_assoc,← HXS.out];simpa [HPG.out] using hS2,Nat.le_trans hle (Nat.le_trans hz1 hz2)⟩
     ·have h3b:(s.f0 == 3) = false:=by simpa using h3
      have hpg:propG s = s.f5:=by simp [propG,h2,h3]
      have HPG:=Lib.hid hpg
      clear hpg
      gi_wp2_with (first | (gi_at_builtin;((refine a2L s.f5 A5 c5 rfl (.tmp 18) (.tmp 20) rfl rfl rfl G5.out H2.out HX1.out ?_));rintro v1 W1 hg hbe hf hat ⟨A',n',c',e'⟩;subst e';clear cl fl;have HG1:=Lib.hid hg;have HB1:=Lib.hid hbe;have HF1:=Lib.hid hf;have HA1:=Lib.hid hat;have cl:=hg.bl.cell;have fl:=hg.bl.frozen;have hbk1:=H2.out.blk HBK.out (by decide) hf;have cw0:=hbk1.cell 0;have cw3:=hbk1.cell 3;have hlit:=b5L (W1.setCell ⟨w.heap.size + 1,0,none⟩ (.slice A' n' c')) [s.f3] (by simp);rw [a4P] at hlit;have HLIT:=Lib.hid hlit;clear hlit hbk1 hg hbe hf hat cb0 cb1 cb2 cb3 cb4 cb5 cb6 cb7))
      obtain ⟨hS1,hk1,hp1,hz1⟩:=VS.step H2.out (Below.refl _ X) HG1.out HF1.out HB1.out HA1.out hs1a
      exact ⟨hk1,hp1,_,by rw [List.flatMap_append,← List.append_assoc,← HXS.out];simpa [HPG.out] using hS1,Nat.le_trans hle hz1⟩
   case done =>
    rintro D ys X hD hys ⟨v,hV,hle⟩ hDX
    rw [hys] at hV
    have HO9:=Lib.hid (hV.cons (Nat.le_trans hw1s hD) hDX)
    clear hV hys hDX
    obtain ⟨k1,rfl⟩:∃ k1,k = k1 + 1:=⟨k - 1,by omega⟩
    gi_wp2
    refine ⟨k1,Nat.lt_succ_self _,hJ _ _ _ ⟨j + 1,D :: ds,v,_,_,_,_,_,_,_,_,_,by omega,?_,rfl,?_,?_⟩⟩
    ·first | rfl | rw [hkk] | simp [hkk]
    ·refine Lib.hid ?_
     rw [HNX.out,List.flatMap_append,← HP0.out];exact HO9.out
    ·exact Lib.hid (List.nodup_cons.2 ⟨fun h =>by have:=HDL.out D h;omega,HD.out⟩)
   case stop =>exact fun _ _ _ _ _ _ h _ =>h.elim
  ·have hje:j = fs.length:=by omega
   have hV:=HO.out
   rw [hje,List.take_length] at hV
   have hxl:((fs.flatMap flatF).flatMap propG).length < 4611686018427387904:=by
    have h1:=a7E propG 1050001 (fs.flatMap flatF) (fun s' hs' =>a8F HF.out.1 fs.length s' (by rw [List.take_length];exact hs'))
    exact Nat.lt_of_le_of_lt (Nat.le_trans h1 (Nat.mul_le_mul_right _ HF.out.2)) (by decide)
   have cl:=hV.bl.cell
   have HU:=Lib.hid (b2U _ vv w.heap.size W hV.rl hxl)
   have HV:=Lib.hid hV
   clear hV hxl hJ hK
   gi_wp2_with ((try refine ⟨fun _ =>by decide,?_⟩);gi_at_call 27;((refine (callsIn_wide.2 HU.out).mono ?_));rintro e Z ⟨v',rfl,hr,hg,hob⟩;have HR:=Lib.hid hr;have HG:=Lib.hid hg;clear hr hg hob cl)
   have hbZ:Below w.heap.size w Z:=HV.out.be.grown HG.out HV.out.be.size (fun k hk =>a5D HV.out.rl k hk)
   have hDZ:∀ D,D ∈ ds→w.heap.size≤D∧Z.heap[D]? = some (.deferred (some [])):=by
    intro D hD
    have h1:=(HV.out.df D hD).2
    refine ⟨(HV.out.df D hD).1,?_⟩
    rw [HG.out.block D (Array.getElem?_eq_some_iff.1 h1).1 (fun e =>by obtain ⟨cs,hcs⟩:=a3D HV.out.rl D e.symm;rw [h1] at hcs;cases hcs)];exact h1
   refine a7N w.heap.size (fun Q =>Q.ownsRow w.heap.size 9 1 v' (propsF fs).length ((propsF fs).map Value.string)∧Below w.heap.size w Q) ?_ ?_ ds Z ⟨HR.out,hbZ⟩ HD.out hDZ
   ·intro Q E hQ hB hE
    refine ⟨a5U hQ.1 (fun k hk =>(grownBy_putObj' Q E _).block k (a6P hQ.1 k hk) (fun e =>by cases e;obtain ⟨cs,hcs⟩:=a3D hQ.1 _ hk;rw [hE] at hcs;cases hcs)),hQ.2.grown (grownBy_putObj' Q E _) hQ.2.size (fun k e =>by cases e;exact hB)⟩
   ·intro Q hQ
    exact ⟨_,results_tmp rfl _ _ _,v',rfl,hQ.1,hQ.2⟩
open Go.RowKit Go.Proofs.Ytjiacafeckokeaa.Pr Go.Proofs.YtjiacafeckokeaaW.PrintWords
set_option maxRecDepth 100000
theorem bulk_pos {H:Type} (d:DataW H):1≤Rows.uptoBulk d:=by
 cases d with
 | lit l =>cases l <;> simp [Rows.uptoBulk]
 | nil =>simp [Rows.uptoBulk]
 | ptr d =>simp [Rows.uptoBulk]
 | slice elems spare =>simp [Rows.uptoBulk]
 | agg parts =>simp [Rows.uptoBulk]
 | iface t d =>simp [Rows.uptoBulk]
 | map entries =>simp [Rows.uptoBulk]
 | held h =>simp [Rows.uptoBulk]
theorem a5X {H:Type} (l:List (DataW H)):l.length≤Rows.uptoBulkAll l:=by
 induction l with
 | nil =>simp [Rows.uptoBulkAll]
 | cons x r ih =>have:=bulk_pos x;simp only [Rows.uptoBulkAll,List.length_cons];omega
theorem a9Z {α β:Type} (f:α→Option β):∀ (l:List α) (r:List β),l.mapM f = some r→r.length = l.length∧∀ (i:Nat) a,l[i]? = some a→∃ b,r[i]? = some b∧f a = some b:=by
 intro l
 induction l with
 | nil =>intro r h;simp at h;subst h;exact ⟨rfl,fun i a h =>by simp at h⟩
 | cons x l ih =>
  intro r h
  simp only [List.mapM_cons,Option.bind_eq_bind,Option.bind_eq_some_iff,Option.pure_def,Option.some.injEq] at h
  obtain ⟨b,hb,r',hr',rfl⟩:=h
  obtain ⟨h1,h2⟩:=ih r' hr'
  refine ⟨by simp [h1],fun i a ha =>?_⟩
  cases i with
  | zero =>simp at ha;subst ha;exact ⟨b,rfl,hb⟩
  | succ i =>simpa using h2 i a (by simpa using ha)
theorem b6B {w:World} {b n:Nat} {a:Addr} {c:List Value} (h:w.cells? b a n = some c):c.length = n∧∀ (i:Nat) u,c[i]? = some u→w.cell? (a.add i) = some u:=by
 unfold World.cells? at h
 split at h
 ·obtain ⟨h1,h2⟩:=a9Z _ _ _ h
  rw [List.length_range] at h1
  refine ⟨h1,fun i u hu =>?_⟩
  have hi:i < n:=by rw [← h1];exact (List.getElem?_eq_some_iff.1 hu).1
  obtain ⟨b,hb,hf⟩:=h2 i i (by simp [hi])
  rw [hu] at hb;cases hb;exact hf
 ·cases h
theorem addr_add (a:Addr) (i j:Nat):a.add (i + j) = (a.add i).add j:=by
 unfold Addr.add
 by_cases h1:i = 0
 ·subst h1;simp
 ·by_cases h2:j = 0
  ·subst h2;simp [h1]
  ·simp [h1,h2,Nat.add_assoc]
theorem a3H {H:Type} {enc:TypeId × Value→H} {w:World} {α:Type} {t e:TypeId} (hu:Try.prog.underlying t = some (.slice e)) (d:Kd α) (z:α) (hsz:Try.prog.cellsOf e = d.sz) (Q:α→Nat→Prop) (fuel:Nat) {held:Bool} {sp:Nat→Bool}
  (hE:∀ cs (D:DataW H) ps,DataW.trod enc Try.prog w 0 sp held fuel e cs = some (D,ps)→∃ x,d.K w x cs∧Q x (Rows.uptoBulk D)) (cs:List Value) (D:DataW H) (ps:List MemPlace)
  (h:DataW.trod enc Try.prog w 0 sp held (fuel + 1) t cs = some (D,ps)) :
  ∃ (A:Option Addr) (c:Nat) (xs:List α) (Ds:List (DataW H)),cs = [.slice A xs.length c]∧xs.length≤c∧d.C w A xs.length xs∧Rows.uptoBulkAll Ds + 1≤Rows.uptoBulk D∧xs.length = Ds.length∧∀ (i:Nat) x D',xs[i]? = some x→Ds[i]? = some D'→Q x (Rows.uptoBulk D'):=by
 unfold DataW.trod at h
 rw [hu] at h
 split at h <;> rename_i he
 all_goals first | (cases he;done) | skip
 ·-- nil
  cases h
  exact ⟨none,0,[],[],rfl,Nat.le_refl _,Kd.C_nil _ _,by simp [Rows.uptoBulkAll,Rows.uptoBulk],rfl,fun i x D' hx =>by simp at hx⟩
 ·rename_i e2 a len cap
  cases he
  dsimp only at h
  split at h
  ·rename_i hc
   simp only [Option.bind_eq_some_iff,Option.map_eq_some_iff] at h
   obtain ⟨els,hels,rest,_,hD⟩:=h
   simp only [Prod.mk.injEq] at hD
   obtain ⟨rfl,_⟩:=hD
   obtain ⟨hl,hg⟩:=a9Z _ _ _ hels
   rw [List.length_range] at hl
   have hx:∀ i,i < len→∃ cs,cs.length = d.sz∧(∀ (j:Nat) u,cs[j]? = some u→w.cell? ((a.add (i * d.sz)).add j) = some u)∧∃ x,d.K w x cs∧∀ q,els[i]? = some q→Q x (Rows.uptoBulk q.1):=by
    intro i hi
    obtain ⟨q,hq,hf⟩:=hg i i (by simp [hi])
    simp only [Option.bind_eq_some_iff] at hf
    obtain ⟨cs,hcs,ht⟩:=hf
    obtain ⟨h1,h2⟩:=b6B hcs
    obtain ⟨x,hK,hQ⟩:=hE cs q.1 q.2 ht
    rw [hsz] at h1 h2
    exact ⟨cs,h1,h2,x,hK,fun q' hq' =>by rw [hq] at hq';cases hq';exact hQ⟩
   have hch:∃ f:Nat→α,∀ i,i < len→∃ cs,cs.length = d.sz∧(∀ (j:Nat) u,cs[j]? = some u→w.cell? ((a.add (i * d.sz)).add j) = some u)∧d.K w (f i) cs∧∀ q,els[i]? = some q→Q (f i) (Rows.uptoBulk q.1):=by
    refine ⟨fun i =>if hi:i < len then Classical.choose (Classical.choose_spec (hx i hi)).2.2 else z,fun i hi =>?_⟩
    have hs:=Classical.choose_spec (hx i hi)
    refine ⟨Classical.choose (hx i hi),hs.1,hs.2.1,?_⟩
    simp only [dif_pos hi]
    exact Classical.choose_spec hs.2.2
   obtain ⟨f,hf⟩:=hch
   refine ⟨some a,cap,(List.range len).map f,els.map (·.1),by simp,by simp;exact hc.2.1,⟨rfl,?_,fun _ =>⟨a,rfl,fun j p hj =>?_⟩⟩,?_,by simp [hl],fun i x D' hi hD' =>?_⟩
   ·have:=hc.2.2;simp [maxLen] at this ⊢;omega
   ·simp only [List.getElem?_map,Option.map_eq_some_iff] at hj
    obtain ⟨j',hj',rfl⟩:=hj
    obtain ⟨h1,h2⟩:=List.getElem?_eq_some_iff.1 hj'
    simp at h1 h2;subst h2
    obtain ⟨cs,c1,c2,c3,_⟩:=hf j h1
    refine ⟨cs,c1,c3,fun i u hu =>?_⟩
    rw [← c2 i u hu]
    congr 1
    exact addr_add a _ _
   ·simp only [Rows.uptoBulk];omega
   ·simp only [List.getElem?_map,Option.map_eq_some_iff] at hi hD'
    obtain ⟨i',hi',rfl⟩:=hi
    obtain ⟨q,hq,rfl⟩:=hD'
    obtain ⟨h1,h2⟩:=List.getElem?_eq_some_iff.1 hi'
    simp at h1 h2;subst h2
    obtain ⟨cs,c1,c2,c3,c4⟩:=hf i h1
    exact c4 q hq
  ·cases h
 all_goals first | (cases h;done) | skip
theorem a7O {H:Type} {enc:TypeId × Value→H} {w:World} {t:TypeId} {k:IntKind} (hu:Try.prog.underlying t = some (.int k)) {held:Bool} {sp:Nat→Bool} (fuel:Nat) (cs:List Value) (D:DataW H) (ps:List MemPlace)
  (h:DataW.trod enc Try.prog w 0 sp held fuel t cs = some (D,ps)):∃ n,cs = [.int k n]:=by
 cases fuel with
 | zero =>cases h
 | succ fuel =>
 unfold DataW.trod at h
 rw [hu] at h
 split at h <;> rename_i he
 all_goals first | (cases he;done) | skip
 ·rename_i k2 k3 n
  cases he
  split at h
  ·rename_i hk;exact ⟨n,by rw [hk.1]⟩
  ·cases h
 all_goals first | (cases h;done) | skip
theorem a3L {H : Type} {enc : TypeId × Value → H} {w : World} {t : TypeId} (hu : Try.prog.underlying t = some .string) {held : Bool} {sp : Nat → Bool} (fuel : Nat) (cs : List Value) (D : DataW H) (ps : List MemPlace)
    (h : DataW.trod enc Try.prog w 0 sp held fuel t cs = some (D, ps)) : ∃ s, cs = [.string s] ∧ s.size ≤ Rows.uptoBulk D := by
  cases fuel with
  | zero => cases h
  | succ fuel =>
  unfold DataW.trod at h
  rw [hu] at h
  split at h <;> rename_i he
  all_goals first | (cases he; done) | skip
  · rename_i s
    split at h
    · cases h
      exact ⟨s, rfl, by simp only [Rows.uptoBulk]; have e : s.data.toList.length = s.size := by rw [Array.length_toList]; rfl
                        omega⟩
    · cases h
  all_goals first | (cases h; done) | skip
theorem a4Q {H:Type} {enc:TypeId × Value→H} {w:World} {t:TypeId} {fs:Array Field} (hu:Try.prog.underlying t = some (.struct fs)) {held:Bool} {sp:Nat→Bool} (fuel:Nat) (cs:List Value) (D:DataW H) (ps:List MemPlace)
  (h:DataW.trod enc Try.prog w 0 sp held (fuel + 1) t cs = some (D,ps)):cs.length = Try.prog.cellsOf t∧∃ Ds,Rows.uptoBulk D = Rows.uptoBulkAll Ds + 1∧Ds.length = fs.size ∧
   ∀ (i:Nat) f,fs[i]? = some f→∃ D' p',Ds[i]? = some D'∧DataW.trod enc Try.prog w 0 sp held fuel f.type ((cs.drop f.offset).take (Try.prog.cellsOf f.type)) = some (D',p'):=by
 unfold DataW.trod at h
 rw [hu] at h
 split at h <;> rename_i he
 all_goals first | (cases he;done) | skip
 ·rename_i fs'
  cases he
  split at h
  ·rename_i hc
   simp only [Option.map_eq_some_iff,Prod.mk.injEq] at h
   obtain ⟨xs,hxs,rfl,_⟩:=h
   obtain ⟨h1,h2⟩:=a9Z _ _ _ hxs
   refine ⟨hc,xs.map (·.1),by simp [Rows.uptoBulk],by simpa using h1,fun i f hf =>?_⟩
   obtain ⟨q,hq,ht⟩:=h2 i f (by simpa using hf)
   exact ⟨q.1,q.2,by simp [hq],ht⟩
  ·cases h
 all_goals exact absurd rfl ((by assumption:∀ fs':Array Field,some (TypeDesc.struct fs) = some (TypeDesc.struct fs')→False) _)
open Go.RowKit Go.Proofs.Ytjiacafeckokeaa.Pr Go.Proofs.YtjiacafeckokeaaW.PrintWords
set_option maxRecDepth 100000
def Fit (l:List S46) (n:Nat):Prop:=(flat l).length≤n∧∀ s ∈ flat l,s.f4.length≤n∧s.f5.length≤n∧s.f6.length≤n∧s.f7.length≤n∧∀ b ∈ s.f5,b.size≤n
theorem b1N {s:S46} {n m:Nat} (h:s.f4.length≤n∧s.f5.length≤n∧s.f6.length≤n∧s.f7.length≤n∧∀ b ∈ s.f5,b.size≤n) (hm:n≤m):s.f4.length≤m∧s.f5.length≤m∧s.f6.length≤m∧s.f7.length≤m∧∀ b ∈ s.f5,b.size≤m :=
 ⟨Nat.le_trans h.1 hm,Nat.le_trans h.2.1 hm,Nat.le_trans h.2.2.1 hm,Nat.le_trans h.2.2.2.1 hm,fun b hb =>Nat.le_trans (h.2.2.2.2 b hb) hm⟩
theorem Fit.mono {l:List S46} {n m:Nat} (h:Fit l n) (hm:n≤m):Fit l m :=
 ⟨Nat.le_trans h.1 hm,fun s hs =>b1N (h.2 s hs) hm⟩
theorem a7F (s:S46) (r:List S46):flat (s :: r) = s :: (flat s.f6 ++ (flat s.f7 ++ flat r)):=by rw [flat]
theorem Fit.cons {s:S46} {r:List S46} {n m:Nat} (h:Fit [s] n) (hr:Fit r m):Fit (s :: r) (n + m):=by
 have e:flat (s :: r) = flat [s] ++ flat r:=by rw [a7F,a7F];simp [flat]
 unfold Fit
 rw [e]
 refine ⟨by rw [List.length_append];have:=h.1;have:=hr.1;omega,fun x hx =>?_⟩
 rcases List.mem_append.1 hx with hx | hx
 ·exact b1N (h.2 x hx) (Nat.le_add_right _ _)
 ·exact b1N (hr.2 x hx) (Nat.le_add_left _ _)
theorem b0C (l:List S46) {H:Type} (Ds:List (DataW H)) (hl:l.length = Ds.length) (h:∀ (i:Nat) x D',l[i]? = some x→Ds[i]? = some D'→Fit [x] (Rows.uptoBulk D')):Fit l (Rows.uptoBulkAll Ds):=by
 induction l generalizing Ds with
 | nil =>exact ⟨by simp [flat],fun s hs =>by simp [flat] at hs⟩
 | cons x r ih =>
  cases Ds with
  | nil =>simp at hl
  | cons D Ds =>exact Fit.cons (h 0 x D rfl rfl) (ih Ds (by simpa using hl) (fun i y D' h1 h2 =>h (i + 1) y D' (by simpa using h1) (by simpa using h2)))
open Go.RowKit Go.Proofs.Ytjiacafeckokeaa.Pr Go.Proofs.YtjiacafeckokeaaW.PrintWords
set_option maxRecDepth 100000
theorem a9J:Try.prog.cellsOf 3 = 1:=by kernel_rfl
theorem a4D:Try.prog.cellsOf 9 = 1:=by kernel_rfl
theorem a6S:Try.prog.cellsOf 56 = 3:=by kernel_rfl
theorem a8O:Try.prog.cellsOf 44 = 1:=by kernel_rfl
theorem a6R:Try.prog.cellsOf 28 = 1:=by kernel_rfl
theorem a7W:Try.prog.cellsOf 30 = 1:=by kernel_rfl
theorem a5W:Try.prog.cellsOf 46 = 8:=by kernel_rfl
theorem a9A {H:Type} {enc:TypeId × Value→H} {w:World} {held:Bool} {sp:Nat→Bool} (fuel:Nat) (cs:List Value) (D:DataW H) (ps:List MemPlace)
  (h:DataW.trod enc Try.prog w 0 sp held fuel 56 cs = some (D,ps)):∃ x,k56.K w x cs∧0≤Rows.uptoBulk D:=by
 cases fuel with
 | zero =>cases h
 | succ fuel =>
 obtain ⟨hl,Ds,hb,hn,hf⟩:=a4Q Try.underlying56 fuel cs D ps h
 rw [a6S] at hl
 obtain ⟨a,b,c,rfl⟩:∃ a b c,cs = [a,b,c]:=by
  match cs,hl with
  | [a,b,c],_ =>exact ⟨a,b,c,rfl⟩
 obtain ⟨D0,p0,g0,t0⟩:=hf 0 _ rfl
 obtain ⟨D1,p1,g1,t1⟩:=hf 1 _ rfl
 obtain ⟨D2,p2,g2,t2⟩:=hf 2 _ rfl
 simp only [List.getElem_toArray,List.getElem_cons_zero,List.getElem_cons_succ,a9J,a4D,List.drop_zero,List.drop_succ_cons,List.take_succ_cons,List.take_zero] at t0 t1 t2
 obtain ⟨n0,e0⟩:=a7O Try.underlying3 _ _ _ _ t0
 obtain ⟨n1,e1⟩:=a7O Try.underlying3 _ _ _ _ t1
 obtain ⟨s2,e2,_⟩:=a3L Try.underlying9 _ _ _ _ t2
 cases e0;cases e1;cases e2
 exact ⟨⟨n0,n1,s2⟩,k56_mk w ⟨n0,n1,s2⟩,Nat.zero_le _⟩
theorem a8Q {H:Type} {enc:TypeId × Value→H} {w:World} {held:Bool} {sp:Nat→Bool} (fuel:Nat) (cs:List Value) (D:DataW H) (ps:List MemPlace)
  (h:DataW.trod enc Try.prog w 0 sp held fuel 9 cs = some (D,ps)):∃ x,Kd.string.K w x cs∧x.size≤Rows.uptoBulk D:=by
 obtain ⟨s,rfl,hs⟩:=a3L Try.underlying9 _ _ _ _ h
 exact ⟨s,rfl,hs⟩
theorem b0G {H:Type}:∀ (Ds:List (DataW H)) (i:Nat) (D:DataW H),Ds[i]? = some D→Rows.uptoBulk D≤Rows.uptoBulkAll Ds:=by
 intro Ds
 induction Ds with
 | nil =>intro i D h;simp at h
 | cons x r ih =>
  intro i D h
  cases i with
  | zero =>simp at h;subst h;simp only [Rows.uptoBulkAll];omega
  | succ i =>have:=ih i D (by simpa using h);simp only [Rows.uptoBulkAll];omega
theorem b0W {H:Type} {xs:List ByteArray} {Ds:List (DataW H)} (hn:xs.length = Ds.length) (hf:∀ (i:Nat) x D',xs[i]? = some x→Ds[i]? = some D'→x.size≤Rows.uptoBulk D'):∀ b ∈ xs,b.size≤Rows.uptoBulkAll Ds:=by
 intro b hb
 obtain ⟨i,hi,rfl⟩:=List.getElem_of_mem hb
 have hD:Ds[i]? = some (Ds[i]'(by omega)):=List.getElem?_eq_getElem (by omega)
 exact Nat.le_trans (hf i _ _ (List.getElem?_eq_getElem hi) hD) (b0G Ds i _ hD)
theorem b2M {H:Type} {enc:TypeId × Value→H} {w:World} {held:Bool} {sp:Nat→Bool} (fuel:Nat):∀ (cs:List Value) (D:DataW H) (ps:List MemPlace)
  (h:DataW.trod enc Try.prog w 0 sp held fuel 46 cs = some (D,ps)),∃ x,k46.K w x cs∧Fit [x] (Rows.uptoBulk D):=by
 induction fuel using Nat.strongRecOn with
 | _ fuel ih =>
 intro cs D ps h
 cases fuel with
 | zero =>cases h
 | succ fuel =>
 obtain ⟨hl,Ds,hb,hn,hf⟩:=a4Q Try.underlying46 fuel cs D ps h
 rw [a5W] at hl
 obtain ⟨a,b,c,d,e,f,g,i,rfl⟩:∃ a b c d e f g i,cs = [a,b,c,d,e,f,g,i]:=by
  match cs,hl with
  | [a,b,c,d,e,f,g,i],_ =>exact ⟨a,b,c,d,e,f,g,i,rfl⟩
 obtain ⟨D0,p0,g0,t0⟩:=hf 0 _ rfl
 obtain ⟨D1,p1,g1,t1⟩:=hf 1 _ rfl
 obtain ⟨D2,p2,g2,t2⟩:=hf 2 _ rfl
 obtain ⟨D3,p3,g3,t3⟩:=hf 3 _ rfl
 obtain ⟨D4,p4,g4,t4⟩:=hf 4 _ rfl
 obtain ⟨D5,p5,g5,t5⟩:=hf 5 _ rfl
 obtain ⟨D6,p6,g6,t6⟩:=hf 6 _ rfl
 obtain ⟨D7,p7,g7,t7⟩:=hf 7 _ rfl
 simp only [List.getElem_toArray,List.getElem_cons_zero,List.getElem_cons_succ,a9J,a4D,a8O,a6R,a7W,List.drop_zero,List.drop_succ_cons,List.take_succ_cons,List.take_zero] at t0 t1 t2 t3 t4 t5 t6 t7
 cases fuel with
 | zero =>cases t0
 | succ fuel =>
 obtain ⟨n0,e0⟩:=a7O Try.underlying3 _ _ _ _ t0
 obtain ⟨s1,e1,_⟩:=a3L Try.underlying9 _ _ _ _ t1
 obtain ⟨s2,e2,_⟩:=a3L Try.underlying9 _ _ _ _ t2
 obtain ⟨s3,e3,_⟩:=a3L Try.underlying9 _ _ _ _ t3
 obtain ⟨A4,c4,l4,D4s,e4,m4,q4,b4,n4,_⟩:=a3H Try.underlying44 k56 z56 a6S (fun _ _ =>True) fuel (fun cs D ps h =>by obtain ⟨x,hx,_⟩:=a9A fuel cs D ps h;exact ⟨x,hx,trivial⟩) _ _ _ t4
 obtain ⟨A5,c5,l5,D5s,e5,m5,q5,b5,n5,f5⟩:=a3H Try.underlying28 Kd.string (⟨#[]⟩:ByteArray) a4D (fun x n =>x.size≤n) fuel (fun cs D ps h =>a8Q fuel cs D ps h) _ _ _ t5
 obtain ⟨A6,c6,l6,D6s,e6,m6,q6,b6,n6,f6⟩:=a3H Try.underlying30 k46 z46 a5W (fun x n =>Fit [x] n) fuel (fun cs D ps h =>ih fuel (by omega) cs D ps h) _ _ _ t6
 obtain ⟨A7,c7,l7,D7s,e7,m7,q7,b7,n7,f7⟩:=a3H Try.underlying30 k46 z46 a5W (fun x n =>Fit [x] n) fuel (fun cs D ps h =>ih fuel (by omega) cs D ps h) _ _ _ t7
 cases e0;cases e1;cases e2;cases e3;cases e4;cases e5;cases e6;cases e7
 have F6:=b0C l6 D6s n6 f6
 have F7:=b0C l7 D7s n7 f7
 refine ⟨⟨n0,s1,s2,s3,l4,l5,l6,l7⟩,k46_mk w ⟨n0,s1,s2,s3,l4,l5,l6,l7⟩ m4 q4 m5 q5 m6 q6 m7 q7,?_⟩
 have B4:=a5X D4s
 have B5:=a5X D5s
 have B6:=a5X D6s
 have B7:=a5X D7s
 have hsum:Rows.uptoBulk D4 + Rows.uptoBulk D5 + Rows.uptoBulk D6 + Rows.uptoBulk D7 + 1≤Rows.uptoBulk D:=by
  rw [hb]
  obtain ⟨x0,x1,x2,x3,x4,x5,x6,x7,rfl⟩:∃ x0 x1 x2 x3 x4 x5 x6 x7,Ds = [x0,x1,x2,x3,x4,x5,x6,x7]:=by
   match Ds,hn with
   | [x0,x1,x2,x3,x4,x5,x6,x7],_ =>exact ⟨x0,x1,x2,x3,x4,x5,x6,x7,rfl⟩
  cases g4;cases g5;cases g6;cases g7
  simp only [Rows.uptoBulkAll];omega
 unfold Fit
 rw [a7F]
 simp only [flat,List.append_nil,List.length_cons,List.length_append,List.mem_cons,List.mem_append]
 refine ⟨by have:=F6.1;have:=F7.1;omega,fun x hx =>?_⟩
 rcases hx with rfl | hx | hx
 ·have S5:=b0W n5 f5
  exact ⟨by simp only;omega,by simp only;omega,by simp only;omega,by simp only;omega,fun b hb =>Nat.le_trans (S5 b hb) (by omega)⟩
 ·exact b1N (F6.2 x hx) (by omega)
 ·exact b1N (F7.2 x hx) (by omega)
open Go.RowKit Go.Proofs.Ytjiacafeckokeaa.Pr Go.Proofs.YtjiacafeckokeaaW.PrintWords
set_option maxRecDepth 100000
theorem a8P:Try.prog.cellsOf 32 = 3:=by kernel_rfl
theorem b1Q:Try.prog.cellsOf 22 = 1:=by kernel_rfl
theorem b2L:Try.prog.cellsOf 24 = 1:=by kernel_rfl
def FitF (f:S32) (n:Nat):Prop:=f.f1.length≤n∧Fit f.f2 n∧∀ b ∈ f.f1,b.size≤n
def FitP (l:List S32) (n:Nat):Prop:=l.length≤n∧∀ f ∈ l,FitF f n
theorem FitF.mono {f:S32} {n m:Nat} (h:FitF f n) (hm:n≤m):FitF f m:=⟨by have:=h.1;omega,h.2.1.mono hm,fun b hb =>Nat.le_trans (h.2.2 b hb) hm⟩
theorem FitP.mono {l:List S32} {n m:Nat} (h:FitP l n) (hm:n≤m):FitP l m:=⟨by have:=h.1;omega,fun f hf =>(h.2 f hf).mono hm⟩
theorem b2O {H:Type} {enc:TypeId × Value→H} {w:World} {held:Bool} {sp:Nat→Bool} (fuel:Nat) (cs:List Value) (D:DataW H) (ps:List MemPlace)
  (h:DataW.trod enc Try.prog w 0 sp held fuel 32 cs = some (D,ps)):∃ x,k32.K w x cs∧FitF x (Rows.uptoBulk D):=by
 cases fuel with
 | zero =>cases h
 | succ fuel =>
 obtain ⟨hl,Ds,hb,hn,hf⟩:=a4Q Try.underlying32 fuel cs D ps h
 rw [a8P] at hl
 obtain ⟨a,b,c,rfl⟩:∃ a b c,cs = [a,b,c]:=by
  match cs,hl with
  | [a,b,c],_ =>exact ⟨a,b,c,rfl⟩
 obtain ⟨D0,p0,g0,t0⟩:=hf 0 _ rfl
 obtain ⟨D1,p1,g1,t1⟩:=hf 1 _ rfl
 obtain ⟨D2,p2,g2,t2⟩:=hf 2 _ rfl
 simp only [List.getElem_toArray,List.getElem_cons_zero,List.getElem_cons_succ,a4D,a6R,a7W,List.drop_zero,List.drop_succ_cons,List.take_succ_cons,List.take_zero] at t0 t1 t2
 cases fuel with
 | zero =>cases t0
 | succ fuel =>
 obtain ⟨s0,e0,_⟩:=a3L Try.underlying9 _ _ _ _ t0
 obtain ⟨A1,c1,l1,D1s,e1,m1,q1,b1,n1,f1⟩:=a3H Try.underlying28 Kd.string (⟨#[]⟩:ByteArray) a4D (fun x n =>x.size≤n) fuel (fun cs D ps h =>a8Q fuel cs D ps h) _ _ _ t1
 obtain ⟨A2,c2,l2,D2s,e2,m2,q2,b2,n2,f2⟩:=a3H Try.underlying30 k46 z46 a5W (fun x n =>Fit [x] n) fuel (fun cs D ps h =>b2M fuel cs D ps h) _ _ _ t2
 cases e0;cases e1;cases e2
 have F2:=b0C l2 D2s n2 f2
 have B1:=a5X D1s
 have B2:=a5X D2s
 have hsum:Rows.uptoBulk D1 + Rows.uptoBulk D2 + 1≤Rows.uptoBulk D:=by
  rw [hb]
  obtain ⟨x0,x1,x2,rfl⟩:∃ x0 x1 x2,Ds = [x0,x1,x2]:=by
   match Ds,hn with
   | [x0,x1,x2],_ =>exact ⟨x0,x1,x2,rfl⟩
  cases g1;cases g2
  simp only [Rows.uptoBulkAll];omega
 exact ⟨⟨s0,l1,l2⟩,k32_mk w ⟨s0,l1,l2⟩ m1 q1 m2 q2,by simp only;omega,F2.mono (by omega),fun b hb =>Nat.le_trans (b0W n1 f1 b hb) (by omega)⟩
theorem b5V {H:Type}:∀ (l:List S32) (Ds:List (DataW H)),l.length = Ds.length→(∀ (i:Nat) x D',l[i]? = some x→Ds[i]? = some D'→FitF x (Rows.uptoBulk D'))→(l.flatMap fun f =>flat f.f2).length≤Rows.uptoBulkAll Ds:=by
 intro l
 induction l with
 | nil =>intro Ds _ _;simp
 | cons x r ih =>
  intro Ds hl h
  cases Ds with
  | nil =>simp at hl
  | cons D Ds =>
   have h1:=(h 0 x D rfl rfl).2.1.1
   have h2:=ih Ds (by simpa using hl) (fun i y D' h1 h2 =>h (i + 1) y D' (by simpa using h1) (by simpa using h2))
   simp only [List.flatMap_cons,List.length_append,Rows.uptoBulkAll]
   omega
theorem b1R {H:Type} {enc:TypeId × Value→H} {w:World} {held:Bool} {sp:Nat→Bool} (fuel:Nat) (cs:List Value) (D:DataW H) (ps:List MemPlace)
  (h:DataW.trod enc Try.prog w 0 sp held fuel 22 cs = some (D,ps)):∃ A c l,cs = [.slice A l.length c]∧l.length≤c∧Kd.C k32 w A l.length l∧FitP l (Rows.uptoBulk D)∧(l.flatMap fun f =>flat f.f2).length≤Rows.uptoBulk D:=by
 cases fuel with
 | zero =>cases h
 | succ fuel =>
 obtain ⟨A,c,l,Ds,e,m,q,hb,hn,hf⟩:=a3H Try.underlying22 k32 z32 a8P (fun x n =>FitF x n) fuel (fun cs D ps h =>b2O fuel cs D ps h) _ _ _ h
 have B:=a5X Ds
 refine ⟨A,c,l,e,m,q,⟨by omega,fun f hfm =>?_⟩,Nat.le_trans (b5V l Ds hn hf) (by omega)⟩
 obtain ⟨i,hi,rfl⟩:=List.getElem_of_mem hfm
 have hD:Ds[i]? = some (Ds[i]'(by omega)):=List.getElem?_eq_getElem (by omega)
 have h1:=hf i _ _ (List.getElem?_eq_getElem hi) hD
 have h2:=b0G Ds i _ hD
 exact h1.mono (by omega)
theorem b2N {H:Type} {enc:TypeId × Value→H} {w:World} {held:Bool} {sp:Nat→Bool} (fuel:Nat) (v:Array Value) (D:DataW H) (ps:List MemPlace)
  (h:DataW.trod enc Try.prog w 0 sp held fuel 24 (Value.agg v).cells.toList = some (D,ps)):∃ A c l,v = #[.slice A l.length c]∧l.length≤c∧Kd.C k32 w A l.length l∧FitP l (Rows.uptoBulk D)∧(l.flatMap fun f =>flat f.f2).length≤Rows.uptoBulk D:=by
 cases fuel with
 | zero =>cases h
 | succ fuel =>
 obtain ⟨hl,Ds,hb,hn,hf⟩:=a4Q Try.underlying24 fuel _ D ps h
 rw [b2L] at hl
 obtain ⟨v0,hv⟩:∃ a,v = #[a]:=by
  have hl':v.size = 1:=by simpa [Value.cells] using hl
  obtain ⟨l⟩:=v
  match l,hl' with
  | [a],_ =>exact ⟨a,rfl⟩
 subst hv
 obtain ⟨D0,p0,g0,t0⟩:=hf 0 _ rfl
 simp only [Value.cells,List.getElem_toArray,List.getElem_cons_zero,b1Q,List.drop_zero,List.take_succ_cons,List.take_zero] at t0
 obtain ⟨A,c,l,e,m,q,hB,hT⟩:=b1R fuel _ _ _ t0
 have hsum:Rows.uptoBulk D0≤Rows.uptoBulk D:=by have:=b0G Ds 0 D0 g0;omega
 obtain rfl:v0 = .slice A l.length c:=by simpa using e
 exact ⟨A,c,l,rfl,m,q,hB.mono hsum,Nat.le_trans hT hsum⟩
theorem len_flat (l:List S46):l.length≤(flat l).length:=by
 induction l with
 | nil =>simp
 | cons s r ih =>rw [a7F];simp;omega
open Go.Lib
abbrev Nm:=List UInt8
def Rises (l:List Nm):Prop:=l.Pairwise (· < ·)
def withK (s:Nm):Bool→List Nm→List Nm
 | laid,[] =>if laid = true then [] else [s]
 | laid,x :: r =>if laid = false∧¬ x < s then (if s < x then s :: x :: withK s true r else x :: withK s true r) else x :: withK s laid r
def withF (l:List Nm) (s:Nm):List Nm:=withK s (s == []) l
theorem a9B (s:Nm) (l:List Nm):withK s true l = l:=by
 induction l with
 | nil =>rfl
 | cons x r ih =>
  unfold withK
  rw [if_neg (fun h =>by simp at h),ih]
theorem b1V (s:Nm):∀ l:List Nm,Rises l→Rises (withK s false l)∧∀ y,y ∈ withK s false l ↔ y = s∨y ∈ l:=by
 intro l
 induction l with
 | nil =>intro _;exact ⟨List.pairwise_singleton _ _,fun y =>by simp [withK]⟩
 | cons x r ih =>
  intro h
  obtain ⟨hx,hr⟩:=List.pairwise_cons.1 h
  unfold withK
  by_cases h1:x < s
  ·rw [if_neg (fun e =>e.2 h1)]
   obtain ⟨i1,i2⟩:=ih hr
   refine ⟨List.pairwise_cons.2 ⟨fun y hy =>?_,i1⟩,fun y =>?_⟩
   ·rcases (i2 y).1 hy with rfl | hy
    ·exact h1
    ·exact hx y hy
   ·simp only [List.mem_cons,i2 y]
    constructor
    ·rintro (e | e | e)
     ·exact .inr (.inl e)
     ·exact .inl e
     ·exact .inr (.inr e)
    ·rintro (e | e | e)
     ·exact .inr (.inl e)
     ·exact .inl e
     ·exact .inr (.inr e)
  ·rw [if_pos ⟨rfl,h1⟩,a9B]
   by_cases h2:s < x
   ·rw [if_pos h2]
    refine ⟨List.pairwise_cons.2 ⟨fun y hy =>?_,h⟩,fun y =>by simp⟩
    rcases List.mem_cons.1 hy with rfl | hy
    ·exact h2
    ·exact List.lt_trans h2 (hx y hy)
   ·rw [if_neg h2]
    have e:x = s:=List.le_antisymm (List.not_lt.1 h2) (List.not_lt.1 h1)
    refine ⟨h,fun y =>?_⟩
    subst e
    simp
theorem b3K (l:List Nm) (s:Nm) (h:Rises l):Rises (withF l s)∧∀ y,y ∈ withF l s ↔ (y = s∧s≠[])∨y ∈ l:=by
 unfold withF
 cases s with
 | nil =>rw [show (([]:Nm) == []) = true from rfl,a9B];exact ⟨h,fun y =>by simp⟩
 | cons a r =>
  rw [show ((a :: r:Nm) == []) = false from rfl]
  obtain ⟨h1,h2⟩:=b1V (a :: r) l h
  exact ⟨h1,fun y =>by rw [h2 y];simp⟩
theorem b5Q:∀ (xs l:List Nm),Rises l→Rises (xs.foldl withF l)∧∀ y,y ∈ xs.foldl withF l ↔ (y ∈ xs∧y≠[])∨y ∈ l:=by
 intro xs
 induction xs with
 | nil =>intro l h;exact ⟨h,fun y =>by simp⟩
 | cons s r ih =>
  intro l h
  obtain ⟨h1,h2⟩:=b3K l s h
  obtain ⟨h3,h4⟩:=ih _ h1
  refine ⟨h3,fun y =>?_⟩
  show y ∈ r.foldl withF (withF l s) ↔ _
  rw [h4 y,h2 y,List.mem_cons]
  constructor
  ·rintro (⟨a,b⟩ | ⟨rfl,b⟩ | a)
   ·exact .inl ⟨.inr a,b⟩
   ·exact .inl ⟨.inl rfl,b⟩
   ·exact .inr a
  ·rintro (⟨rfl | a,b⟩ | a)
   ·exact .inr (.inl ⟨rfl,b⟩)
   ·exact .inl ⟨a,b⟩
   ·exact .inr (.inr a)
theorem b1A:∀ a b:List Nm,Rises a→Rises b→(∀ y,y ∈ a ↔ y ∈ b)→a = b:=by
 intro a
 induction a with
 | nil =>
  intro b _ _ h
  cases b with
  | nil =>rfl
  | cons y r =>exact absurd ((h y).2 List.mem_cons_self) (by simp)
 | cons x r ih =>
  intro b ha hb h
  cases b with
  | nil =>exact absurd ((h x).1 List.mem_cons_self) (by simp)
  | cons y q =>
   obtain ⟨a1,a2⟩:=List.pairwise_cons.1 ha
   obtain ⟨b1,b2⟩:=List.pairwise_cons.1 hb
   have e:x = y:=by
    rcases List.mem_cons.1 ((h x).1 List.mem_cons_self) with e | e
    ·exact e
    ·rcases List.mem_cons.1 ((h y).2 List.mem_cons_self) with e2 | e2
     ·exact e2.symm
     ·exact absurd (List.lt_trans (a1 y e2) (b1 x e)) (List.lt_irrefl x)
   subst e
   congr 1
   refine ih q a2 b2 fun z =>?_
   constructor
   ·intro hz
    rcases List.mem_cons.1 ((h z).1 (List.mem_cons_of_mem _ hz)) with e | e
    ·subst e;exact absurd (a1 z hz) (List.lt_irrefl z)
    ·exact e
   ·intro hz
    rcases List.mem_cons.1 ((h z).2 (List.mem_cons_of_mem _ hz)) with e | e
    ·subst e;exact absurd (b1 z hz) (List.lt_irrefl z)
    ·exact e
theorem a5I (xs:List Nm):Rises (uniqS xs)∧∀ y,y ∈ uniqS xs ↔ y ∈ xs∧y≠[]:=by
 have hp:(srtS (full xs)).Perm (full xs):=List.mergeSort_perm _ _
 have ht:∀ a b c:List UInt8,decide (a≤b) = true→decide (b≤c) = true→decide (a≤c) = true:=fun a b c h1 h2 =>decide_eq_true (List.le_trans (of_decide_eq_true h1) (of_decide_eq_true h2))
 have hto:∀ a b:List UInt8,(decide (a≤b) || decide (b≤a)) = true:=fun a b =>by rcases List.le_total (α:=UInt8) a b with h | h <;> simp [h]
 have hs:(srtS (full xs)).Pairwise (fun a b =>decide (a≤b) = true):=List.pairwise_mergeSort (le:=fun a b:List UInt8 =>decide (a≤b)) ht hto _
 constructor
 ·have hr:=b0E (srtS (full xs)) (fun a b =>a≤b) (fun a b h1 h2 =>List.le_antisymm h1 h2) (fun i j hi hj hij =>by
   rcases Nat.lt_or_ge i j with h | h
   ·exact of_decide_eq_true (List.pairwise_iff_getElem.1 hs i j hi hj h)
   ·obtain rfl:i = j:=Nat.le_antisymm hij h
    exact List.le_refl _)
  exact hr.imp fun {a b} h =>List.not_le.1 (fun e =>h.2 (List.le_antisymm h.1 e))
 ·intro y
  unfold uniqS
  rw [b2K,hp.mem_iff]
  unfold full
  rw [List.mem_filter]
  simp
theorem b4P (xs:List Nm):uniqS xs = xs.foldl withF []:=by
 obtain ⟨h1,h2⟩:=a5I xs
 obtain ⟨h3,h4⟩:=b5Q xs [] List.Pairwise.nil
 exact b1A _ _ h1 h3 fun y =>by rw [h2 y,h4 y];simp
end Go.Proofs.Ytjiacafeckokeaa.Man
namespace Go.Proofs.Ytjiacafeckokeaa.Pr
open Go.RowKit Go.Proofs.YtjiacafeckokeaaW.PrintWords Go.Proofs.YtjiacafeckokeaaW.PrintLast Go.Proofs.YtjiacafeckokeaaW.PrintMore
attribute [local go_sem] a4B a3Z a4W a4V a3G a3F a4A a3Y   -- for this text's walks alone
theorem eqA35 (d:Nat) (w:World) (x0 y0:Int) (x1 y1:Int) :
  (Op.equalIn (d + 2) 35 (.agg #[.int .i64 x0,.int .i64 x1]) (.agg #[.int .i64 y0,.int .i64 y1])).run Try.prog w = .ok (x0 == y0 && (x1 == y1)) w:=by
 refine eqA_of Try.underlying35 (by kernel_rfl) ?_
 refine eqf_cons (by rfl) (by go_simp;rfl) (by go_simp;rfl) (by go_simp) ?_
 exact eqf_last (by rfl) (by go_simp;rfl) (by go_simp;rfl) (by go_simp)
open Go.RowKit Go.Proofs.YtjiacafeckokeaaW.PrintWords Go.Proofs.YtjiacafeckokeaaW.PrintLast Go.Proofs.YtjiacafeckokeaaW.PrintMore
attribute [local go_sem] a4B a3Z a4W a4V a3G a3F a4A a3Y   -- for this text's walks alone
open Classical in
noncomputable def resolve_Fun.f (k:Nat) (aA:List (S32)) (a1:ByteArray):Option (Int):=if aA.length≤1050000 then some (Man.funIx aA a1) else none
theorem resolve_Fun.calls (k:Nat) (aC:Option Addr) (aD:Nat) (aA:List (S32)) (a1:ByteArray) (r:Int) (w:World) (aH:Kd.C k32 w aC aA.length aA) (aI:aA.length≤aD) (h:resolve_Fun.f k aA a1 = some r) :
  Calls Try.prog 15 #[.agg #[.slice aC aA.length aD],.string a1] w fun e w' =>e = .returned (.int .i64 r)∧Below w.heap.size w w' :=
 by
 unfold resolve_Fun.f at h
 split at h
 ·next hN =>
  cases h
  exact Man.a4Y aA aC aD a1 w aI aH hN
 ·cases h
open Go.RowKit Go.Proofs.YtjiacafeckokeaaW.PrintWords Go.Proofs.YtjiacafeckokeaaW.PrintLast Go.Proofs.YtjiacafeckokeaaW.PrintMore
attribute [local go_sem] a4B a3Z a4W a4V a3G a3F a4A a3Y   -- for this text's walks alone
open Classical in
noncomputable def resolve_Vars.f (k:Nat) (aJ:ByteArray) (aE:List ByteArray) (aG:List (S46)):Option (List ByteArray):=if Man.FitN ⟨aJ,aE,aG⟩ then some (Man.varsF ⟨aJ,aE,aG⟩) else none
theorem resolve_Vars.calls (k:Nat) (aJ:ByteArray) (aK:Option Addr) (aM:Nat) (aE:List ByteArray) (aN:Option Addr) (aQ:Nat) (aG:List (S46)) (r:List ByteArray) (w:World) (aT:Kd.C Kd.string w aK aE.length aE) (aU:aE.length≤aM) (aV:Kd.C k46 w aN aG.length aG) (aW:aG.length≤aQ) (h:resolve_Vars.f k aJ aE aG = some r) :
  Calls Try.prog 11 #[.agg #[.string aJ,.slice aK aE.length aM,.slice aN aG.length aQ]] w fun e w' =>∃ v0_:Value,e = .returned (v0_)∧Kd.R Kd.string 9 w' w.heap.size (fun _ =>True) v0_ r∧Below w.heap.size w w' :=
 by
 unfold resolve_Vars.f at h
 split at h
 ·next hN =>
  cases h
  refine (Man.b2T w ⟨aJ,aE,aG⟩ aK aN aM aQ aU aT aW aV hN).mono ?_
  rintro e w' ⟨v,he,ho,hb⟩
  exact ⟨v,he,Kd.b0K ho (fun _ _ =>trivial),hb⟩
 ·cases h
open Go.RowKit Go.Proofs.YtjiacafeckokeaaW.PrintWords Go.Proofs.YtjiacafeckokeaaW.PrintLast Go.Proofs.YtjiacafeckokeaaW.PrintMore
attribute [local go_sem] a4B a3Z a4W a4V a3G a3F a4A a3Y   -- for this text's walks alone
open Classical in
noncomputable def resolve_Props.f (k:Nat) (aA:List (S32)):Option (List ByteArray):=if Man.FitW aA then some (Man.propsF aA) else none
theorem resolve_Props.calls (k:Nat) (aC:Option Addr) (aD:Nat) (aA:List (S32)) (r:List ByteArray) (w:World) (aH:Kd.C k32 w aC aA.length aA) (aI:aA.length≤aD) (h:resolve_Props.f k aA = some r) :
  Calls Try.prog 17 #[.agg #[.slice aC aA.length aD]] w fun e w' =>∃ v0_:Value,e = .returned (v0_)∧Kd.R Kd.string 9 w' w.heap.size (fun _ =>True) v0_ r∧Below w.heap.size w w' :=
 by
 unfold resolve_Props.f at h
 split at h
 ·next hN =>
  cases h
  refine (Man.b1E w aA aC aD aI aH hN).mono ?_
  rintro e w' ⟨v,he,ho,hb⟩
  exact ⟨v,he,Kd.b0K ho (fun _ _ =>trivial),hb⟩
 ·cases h
open Go.RowKit Go.Proofs.YtjiacafeckokeaaW.PrintWords Go.Proofs.YtjiacafeckokeaaW.PrintLast Go.Proofs.YtjiacafeckokeaaW.PrintMore
attribute [local go_sem] a4B a3Z a4W a4V a3G a3F a4A a3Y   -- for this text's walks alone
open Classical in
noncomputable def resolve_Check.f (k:Nat) (aA:List (S32)):Option (Int × Int):=if Man.FitC aA then some (Man.checkF aA) else none
theorem resolve_Check.calls (k:Nat) (aC:Option Addr) (aD:Nat) (aA:List (S32)) (r1:Int) (r2:Int) (w:World) (aH:Kd.C k32 w aC aA.length aA) (aI:aA.length≤aD) (h:resolve_Check.f k aA = some (r1,r2)) :
  Calls Try.prog 13 #[.agg #[.slice aC aA.length aD]] w fun e w' =>e = .returned (.agg #[.int .i64 r1,.int .i64 r2])∧Below w.heap.size w w' :=
 by
 unfold resolve_Check.f at h
 split at h
 ·next hN =>
  have e:=Option.some.inj h
  have hk:=Man.a7I w aA aC aD aI aH hN
  rw [e] at hk
  exact hk
 ·cases h
end Go.Proofs.Ytjiacafeckokeaa.Pr
