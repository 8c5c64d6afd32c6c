/- A part of the proof that ResolveTells returns true for every argument (the row of ResolveTellsUpto: theorem resolveTells_holds). No conditions beyond the given statement's own. -/
import Derived.Test.YtjiacafeckokeaaRTells2
import Derived.Test.YtjiacafeckokeaaRTells3
import Derived.Test.YtjiacafeckokeaaRTells6
import Derived.Test.YtjiacafeckokeaaRTells7
import Derived.Test.YtjiacafeckokeaaRows
import Derived.WalkKit
import Derived.ProofKit
import Derived.OpenShut
import Derived.ShutString
import Derived.ChangeOld
import Derived.Below
import Derived.SizedLaws
import Derived.JoinedCond
set_option linter.unusedVariables false
set_option linter.unusedSimpArgs false
namespace Go.Proofs.Ytjiacafeckokeaa.Pr
open Go.RowKit Go.Proofs.YtjiacafeckokeaaW.PrintWords Go.Proofs.YtjiacafeckokeaaW.PrintLast Go.Proofs.YtjiacafeckokeaaW.PrintMore
attribute [local go_sem] a4B a3Z a4W a4V a3G a3F a4A a3Y   -- for this text's walks alone
theorem a3U (t:TypeId) (a b:ByteArray):binOp .leq t (.string a) (.string b) = pure (.bool (!(Op.bytesLess b.toList a.toList))):=by
 have key:∀ x y:List UInt8,(Op.bytesLess x y || x == y) = !(Op.bytesLess y x):=by
  intro x
  induction x with
  | nil =>intro y;cases y <;> simp [Op.bytesLess]
  | cons p x ih =>
   intro y
   cases y with
   | nil =>simp [Op.bytesLess]
   | cons q y =>
    simp only [Op.bytesLess]
    rcases Nat.lt_trichotomy p.toNat q.toNat with h | h | h
    ·have h1:p < q:=UInt8.lt_iff_toNat_lt.2 h
     have h2:¬ q < p:=fun e =>by have:=UInt8.lt_iff_toNat_lt.1 e;omega
     have h3:¬ q = p:=fun e =>by rw [e] at h;omega
     simp [h1,h2,h3]
    ·obtain rfl:p = q:=UInt8.toNat_inj.1 h
     have h2:¬ p < p:=fun e =>by have:=UInt8.lt_iff_toNat_lt.1 e;omega
     have:=ih y
     simp [h2] at this ⊢
     exact this
    ·have h1:q < p:=UInt8.lt_iff_toNat_lt.2 h
     have h2:¬ p < q:=fun e =>by have:=UInt8.lt_iff_toNat_lt.1 e;omega
     have h3:¬ p = q:=fun e =>by rw [e] at h;omega
     simp [h1,h2,h3]
 simp [binOp,Op.stringOp,key]
attribute [local go_sem] a3U
theorem a3I (t:TypeId) (a b:ByteArray):binOp .geq t (.string a) (.string b) = pure (.bool (!(Op.bytesLess a.toList b.toList))):=by simp [binOp,Op.stringOp]
attribute [local go_sem] a3I
attribute [local go_sem high] eqA35
noncomputable def w05_ResolveTells.l0:Nat→ByteArray→Int→List (S32)→Option (Bool)
 | 0,_,_,_ =>none
 | k + 1,x1,x5,x293000 =>if x5 < (x293000.length:Int) then (if 0≤x5 then ((resolve_Vars.f k ((a0P x293000 x5).f0) ((a0P x293000 x5).f1) ((a0P x293000 x5).f2)).bind fun t296 =>((r05_Vars.f k ((a0P x293000 x5).f0) ((a0P x293000 x5).f1) ((a0P x293000 x5).f2)).bind fun t300 =>((r02_Texts.f k t296 t300).bind fun t303 =>(if t303 = true then (w05_ResolveTells.l0 k x1 (wrap64 (x5 + 1)) x293000) else (some false))))) else (none)) else ((w05_fixed.f).bind fun t304 =>(if t304 = true then ((resolve_Check.f k x293000).bind fun bt305 =>((r05_Check.f k x293000).bind fun bt307 =>(if (bt305.1 == bt307.1 && (bt305.2 == bt307.2)) = true then ((resolve_Fun.f k x293000 x1).bind fun t309 =>((r05_Fun.f k x293000 x1).bind fun t310 =>(if t309 = t310 then ((resolve_Props.f k x293000).bind fun t311 =>((r05_Props.f k x293000).bind fun t314 =>((r02_Texts.f k t311 t314).bind fun t317 =>(some t317)))) else (some false)))) else (some false)))) else (some false)))
noncomputable def w05_ResolveTells.f (k:Nat) (aC:List (S32)) (a1:ByteArray):Option (Bool):=(r03_Big.f k aC).bind fun t293 =>(if t293 = true then ((w05_fixed.f).bind fun t294 =>(some t294)) else (w05_ResolveTells.l0 k a1 0 aC))
def w05_ResolveTells.T6:Bool × List (List Nat × List Nat):=(true,[([],[]),([0],[0]),([],[]),([1,2],[1,2]),([3],[3]),([4],[4]),([],[]),([6],[6]),([],[]),([7,8],[7,8]),([9],[9]),([10,5],[10]),([5,11,11],[5,11]),([12],[12])])
def w05_ResolveTells.B6:List Nat:=[0,1,0,7,15,31,0,64,0,448,960,2047,4095,8191]
theorem w05_ResolveTells.tab6:rtab .any (opsOf Try.f3 6) = w05_ResolveTells.T6:=by kernel_rfl
theorem w05_ResolveTells.b4D:waitsOk w05_ResolveTells.T6.2 w05_ResolveTells.B6 = true:=by kernel_rfl
def w05_ResolveTells.T8:Bool × List (List Nat × List Nat):=(true,[([],[]),([0,0],[0]),([1],[1]),([2,1,1],[1,2]),([1],[1]),([4,3,1],[1,4]),([3,5,1],[1,3,5]),([1,6],[1,6]),([7,5],[7]),([8],[8]),([8],[8]),([9,10,8,8],[8,9,10]),([8],[8]),([8],[8]),([12,13,11,8],[8,12,13]),([11,14,8],[8,11,14]),([8,15],[8,15]),([16,14],[16]),([17],[17]),([18,17,17],[17,18]),([17],[17]),([20,19,17],[17,20]),([19,21,21,17],[17,19,21]),([17,22],[17,22]),([23,22,0,1,2,3,4,5,6,7,8,9,10,11,12,13,14,15,16,17,18,19,20,21,22,23],[23])])
def w05_ResolveTells.B8:List Nat:=[0,1,3,7,3,31,63,127,255,511,511,2047,511,511,16383,32767,65535,131071,262143,524287,262143,2097151,4194303,8388607,16777215]
theorem w05_ResolveTells.tab8:rtab .any (opsOf Try.f3 8) = w05_ResolveTells.T8:=by kernel_rfl
theorem w05_ResolveTells.bits8:waitsOk w05_ResolveTells.T8.2 w05_ResolveTells.B8 = true:=by kernel_rfl
set_option maxHeartbeats 8000000 in
set_option maxRecDepth 100000 in
theorem w05_ResolveTells.calls (k:Nat) (aI:Option Addr) (aH:Nat) (aC:List (S32)) (a1:ByteArray) (r:Bool) (w:World) (cD:Kd.C k32 w aI aC.length aC) (cE:aC.length≤aH) (h:w05_ResolveTells.f k aC a1 = some r) :
    Calls Try.prog 3 #[.agg #[.slice aI aC.length aH],.string a1] w fun e w' =>e = .returned (.bool r)∧Below w.heap.size w w':=by
 have hu24:=Try.underlying24
 have hu32:=Try.underlying32
 have aU:=a0A.mk cD
 have bD:=a0A.mk cE
 clear cD cE
 have HB:=a0A.mk (Below.refl w.heap.size w)
 have H:((r03_Big.f k aC).bind fun t293 =>(if t293 = true then ((w05_fixed.f).bind fun t294 =>(some t294)) else (w05_ResolveTells.l0 k a1 0 aC))) = some r:=h
 clear h
 replace H:=Option.bind_eq_some_iff.mp H
 obtain ⟨t293,A30,H⟩:=H
 replace H:(if t293 = true then ((w05_fixed.f).bind fun t294 =>(some t294)) else (w05_ResolveTells.l0 k a1 0 aC)) = some r:=H
 have A3:=a0A.mk A30
 clear A30
 by_cases c4:t293 = true
 ·subst c4
  have H1:((w05_fixed.f).bind fun t294 =>(some t294)) = some r:=by rw [if_pos rfl] at H;exact H
  clear H
  have H:=H1
  clear H1
  replace H:=Option.bind_eq_some_iff.mp H
  obtain ⟨t294,A50,H⟩:=H
  replace H:(some t294) = some r:=H
  have A5:=a0A.mk A50
  clear A50
  obtain rfl:=Option.some.inj H
  go_enter Try.func3,Try.ntmps3
  go_wp2_with (first | ((with_reducible refine a1C (N:=2) rfl ?_);refine a1A ?hg (N:=2) ?hd (cs:=#[.slice aI aC.length aH]) (t:=24) ?hr ?_;(case hd =>rfl);(case hg =>rfl);(case hr =>first | (go_simp;done) | (go_simp;rfl));intro aE hg w6 hbox hb;have aJ:=a0A.mk (a0H (by repeat (first | (with_reducible first | exact HB.out | apply a0D | apply a0B | apply a0E) | exact HB.out)) hb);have aK:=a0A.mk (hbox);have bV:=a0A.mk ((by rw [hg];exact (a0V (by repeat (first | (with_reducible first | exact HB.out | apply a0D | apply a0B | apply a0E) | exact HB.out))):w.heap.size≤aE));have cA:=a0A.mk ((by rw [hg];exact (a0V (by repeat (first | (with_reducible first | exact HB.out | apply a0D | apply a0B | apply a0E) | exact HB.out))):w.heap.size≤aE));clear HB;have HB:=aJ;have aA:=aK;have GW292:=bV;have aG:=cA;clear aJ aK bV cA;clear hb hbox hg;have cF:w6.cell? ⟨aE,0,none⟩ = some (.slice aI aC.length aH):=(a0G aA.out 0).trans rfl;have cG:=a0F aA.out 0) | ((with_reducible refine a1H (f:=8) rfl ?_);refine a2G (some 7) rfl rfl Try.func8 (by kernel_rfl) rfl #[.agg #[.slice aI aC.length aH]] rfl (by (try simp only [List.map_toArray,List.map_cons,List.map_nil]);first | done | rfl | (simp only [List.length_drop,List.length_take];rfl)) ?_;(with_reducible refine (r03_Big.calls k _ _ aC true _ ?side1 ?side2 A3.out).mono ?_);(case side1 =>repeat (first | exact (Kd.a0N aU.out HB.out) | (with_reducible refine Kd.a0R ?_ _) | (with_reducible refine Kd.a0Q ?_ _) | (with_reducible refine Kd.a1B ?_)));(case side2 =>exact bD.out);rintro e w8 ⟨rfl,hb⟩;refine ⟨_,rfl,?_⟩;have aJ:=a0A.mk (a0U (g:=aE) (o:=.cells #[.slice aI aC.length aH] 24 (0,0)) (by (with_reducible repeat (first | refine a0L ?_ _ | refine a0M ?_ | refine a0K ?_ _));exact aA.out) hb);have aK:=a0A.mk (a0H (by repeat (first | (with_reducible first | exact HB.out | apply a0D | apply a0B | apply a0E | refine a0I ?_ aG.out) | exact HB.out)) hb);clear aA;clear HB;have aA:=aJ;have HB:=aK;clear aJ aK;(try clear hb);(try clear hb2);(try clear hk);(try clear hi)) | ((with_reducible refine a1H (f:=9) rfl ?_);refine a2G (some 8) rfl rfl Try.func9 (by kernel_rfl) rfl #[] rfl (by (try simp only [List.map_toArray,List.map_cons,List.map_nil]);first | done | rfl | (simp only [List.length_drop,List.length_take];rfl)) ?_;(with_reducible refine (w05_fixed.calls  t294 _ A5.out).mono ?_);rintro e w9 ⟨rfl,hb⟩;refine ⟨_,rfl,?_⟩;have aJ:=a0A.mk (a0U (g:=aE) (o:=.cells #[.slice aI aC.length aH] 24 (0,0)) (by (with_reducible repeat (first | refine a0L ?_ _ | refine a0M ?_ | refine a0K ?_ _));exact aA.out) hb);have aK:=a0A.mk (a0H (by repeat (first | (with_reducible first | exact HB.out | apply a0D | apply a0B | apply a0E | refine a0I ?_ aG.out) | exact HB.out)) hb);clear aA;clear HB;have aA:=aJ;have HB:=aK;clear aJ aK;(try clear hb);(try clear hb2);(try clear hk);(try clear hi)))
  go_ret
  exact ⟨by first | rfl | (simp [a0T,a0S] <;> rfl) | (simp [*,a0T,a0S] <;> rfl),by repeat (first | (with_reducible first | exact HB.out | apply a0D | apply a0B | apply a0E | refine a0I ?_ aG.out) | exact HB.out)⟩
 ·replace c4:=Bool.eq_false_iff.mpr c4
  subst c4
  have H1:(w05_ResolveTells.l0 k a1 0 aC) = some r:=by rw [if_neg (show ¬ (false = true) by decide)] at H;exact H
  clear H
  have H:=H1
  clear H1
  have H':=a0A.mk H
  clear H
  go_enter Try.func3,Try.ntmps3
  go_wp2_with (first | ((with_reducible refine a1C (N:=2) rfl ?_);refine a1A ?hg (N:=2) ?hd (cs:=#[.slice aI aC.length aH]) (t:=24) ?hr ?_;(case hd =>rfl);(case hg =>rfl);(case hr =>first | (go_simp;done) | (go_simp;rfl));intro aE hg w10 hbox hb;have aJ:=a0A.mk (a0H (by repeat (first | (with_reducible first | exact HB.out | apply a0D | apply a0B | apply a0E) | exact HB.out)) hb);have aK:=a0A.mk (hbox);have bV:=a0A.mk ((by rw [hg];exact (a0V (by repeat (first | (with_reducible first | exact HB.out | apply a0D | apply a0B | apply a0E) | exact HB.out))):w.heap.size≤aE));have cA:=a0A.mk ((by rw [hg];exact (a0V (by repeat (first | (with_reducible first | exact HB.out | apply a0D | apply a0B | apply a0E) | exact HB.out))):w.heap.size≤aE));clear HB;have HB:=aJ;have aA:=aK;have GW292:=bV;have aG:=cA;clear aJ aK bV cA;clear hb hbox hg;have cB:w10.cell? ⟨aE,0,none⟩ = some (.slice aI aC.length aH):=(a0G aA.out 0).trans rfl;have cC:=a0F aA.out 0) | ((with_reducible refine a1H (f:=8) rfl ?_);refine a2G (some 7) rfl rfl Try.func8 (by kernel_rfl) rfl #[.agg #[.slice aI aC.length aH]] rfl (by (try simp only [List.map_toArray,List.map_cons,List.map_nil]);first | done | rfl | (simp only [List.length_drop,List.length_take];rfl)) ?_;(with_reducible refine (r03_Big.calls k _ _ aC false _ ?side1 ?side2 A3.out).mono ?_);(case side1 =>repeat (first | exact (Kd.a0N aU.out HB.out) | (with_reducible refine Kd.a0R ?_ _) | (with_reducible refine Kd.a0Q ?_ _) | (with_reducible refine Kd.a1B ?_)));(case side2 =>exact bD.out);rintro e w12 ⟨rfl,hb⟩;refine ⟨_,rfl,?_⟩;have aJ:=a0A.mk (a0U (g:=aE) (o:=.cells #[.slice aI aC.length aH] 24 (0,0)) (by (with_reducible repeat (first | refine a0L ?_ _ | refine a0M ?_ | refine a0K ?_ _));exact aA.out) hb);have aK:=a0A.mk (a0H (by repeat (first | (with_reducible first | exact HB.out | apply a0D | apply a0B | apply a0E | refine a0I ?_ aG.out) | exact HB.out)) hb);clear aA;clear HB;have aA:=aJ;have HB:=aK;clear aJ aK;(try clear hb);(try clear hb2);(try clear hk);(try clear hi)))
  go_loopg [5] k (fun kq v5 w' =>∃ (aD:Int),v5 = .int .i64 aD∧a0A (w05_ResolveTells.l0 kq a1 aD aC = some r)∧a0A (kq≤k)∧a0A (w'.heap[aE]? = some (.cells #[(.slice aI aC.length aH)] 24 (0,0)))∧a0A (Below w.heap.size w w'))
  case atStart =>exact ⟨(0),(by first | rfl | (simp;done) | (simp [*];done)),H',⟨Nat.le_refl _⟩,⟨by (with_reducible repeat (first | refine a0L ?_ _ | refine a0M ?_ | refine a0K ?_ _));exact aA.out⟩,⟨by repeat (first | (with_reducible first | exact HB.out | apply a0D | apply a0B | apply a0E | refine a0I ?_ aG.out) | exact HB.out)⟩⟩
  case round =>
   clear H'
   try clear p2
   try clear c3
   try clear c4
   try clear c8
   try clear c9
   try clear cB
   try clear cF
   try clear cC
   try clear cG
   obtain ⟨aD,rfl,HA,HK1,aA,HB⟩:=hrel
   cases gk with
   | zero =>exact absurd HA.out (by simp [w05_ResolveTells.l0])
   | succ k1 =>
    have H:=HA.out
    clear HA
    simp only [w05_ResolveTells.l0] at H
    by_cases c13:aD < (aC.length:Int)
    ·rw [if_pos c13] at H
     have c13b0:decide (aD < (aC.length:Int)) = true:=decide_eq_true c13
     clear c13
     by_cases c14:0≤aD
     ·rw [if_pos c14] at H
      have c14b0:decide (0≤aD) = true:=decide_eq_true c14
      clear c14
      replace H:=Option.bind_eq_some_iff.mp H
      obtain ⟨t296,A150,H⟩:=H
      replace H:((r05_Vars.f k1 ((a0P aC aD).f0) ((a0P aC aD).f1) ((a0P aC aD).f2)).bind fun t300 =>((r02_Texts.f k1 t296 t300).bind fun t303 =>(if t303 = true then (w05_ResolveTells.l0 k1 a1 (wrap64 (aD + 1)) aC) else (some false)))) = some r:=H
      have A15:=a0A.mk A150
      clear A150
      replace H:=Option.bind_eq_some_iff.mp H
      obtain ⟨t300,A160,H⟩:=H
      replace H:((r02_Texts.f k1 t296 t300).bind fun t303 =>(if t303 = true then (w05_ResolveTells.l0 k1 a1 (wrap64 (aD + 1)) aC) else (some false))) = some r:=H
      have A16:=a0A.mk A160
      clear A160
      replace H:=Option.bind_eq_some_iff.mp H
      obtain ⟨t303,A170,H⟩:=H
      replace H:(if t303 = true then (w05_ResolveTells.l0 k1 a1 (wrap64 (aD + 1)) aC) else (some false)) = some r:=H
      have A17:=a0A.mk A170
      clear A170
      by_cases c18:t303 = true
      ·subst c18
       have H1:(w05_ResolveTells.l0 k1 a1 (wrap64 (aD + 1)) aC) = some r:=by rw [if_pos rfl] at H;exact H
       clear H
       have H:=H1
       clear H1
       have H':=a0A.mk H
       clear H
       have cL:wr.cell? ⟨aE,0,none⟩ = some (.slice aI aC.length aH):=(a0G aA.out 0).trans rfl
       have cM:=a0F aA.out 0
       try go_wp2
       have aJ:=a0A.mk (a0M aA.out)
       have aK:=a0A.mk (a0E HB.out)
       clear aA
       clear HB
       have aA:=aJ
       have HB:=aK
       clear aJ aK
       have p295:0≤(aD:Int):=of_decide_eq_true (by first | (with_reducible assumption) | assumption)
       have q295:aD < (aC.length:Int):=of_decide_eq_true (by first | (with_reducible assumption) | assumption)
       obtain ⟨ad295,bE,bF,bG,bH,e295,aV,aM,aN,bI,bJ,bK,bM⟩:=a3N aU.out aD p295 q295
       have aW:=aN
       have aX:=aM
       have aY:=aV
       cases e295
       replace aV:=a0C HB.out aV
       replace aM:=a0C HB.out aM
       replace aN:=a0C HB.out aN
       have bN:=a0A.mk bJ
       have bW:=a0A.mk bI
       clear bJ bI
       have bO:=a0A.mk bM
       have bX:=a0A.mk bK
       clear bM bK
       replace p295:=eq_true p295
       replace q295:=eq_true q295
       have p299:0≤(aD:Int):=of_decide_eq_true (by first | (with_reducible assumption) | assumption)
       have q299:aD < (aC.length:Int):=of_decide_eq_true (by first | (with_reducible assumption) | assumption)
       obtain ⟨ad299,cH,cI,cJ,cK,e299,aZ,aQ,aT,bP,bQ,bR,bS⟩:=a3N aU.out aD p299 q299
       have bA:=aT
       have bB:=aQ
       have bC:=aZ
       obtain rfl:ad295 = ad299:=(by injection e299)
       replace aZ:=a0C HB.out aZ
       replace aQ:=a0C HB.out aQ
       replace aT:=a0C HB.out aT
       have bT:=a0A.mk bQ
       have bY:=a0A.mk bP
       clear bQ bP
       have bU:=a0A.mk bS
       have bZ:=a0A.mk bR
       clear bS bR
       replace p299:=eq_true p299
       replace q299:=eq_true q299
       have ea_:=Option.some.inj (aM.symm.trans aQ)
       injection ea_ with ea_ en_ ec_
       subst ea_
       subst ec_
       clear en_
       have ea_:=Option.some.inj (aN.symm.trans aT)
       injection ea_ with ea_ en_ ec_
       subst ea_
       subst ec_
       clear en_
       refine a4L (n:=14) (S:=fun w' =>w'.cell? ⟨aE,0,none⟩ = some (.slice (some ad295) aC.length aH)∧w'.cell? (ad295.add ((aD).toNat * 3)) = some (.string ((a0P aC aD).f0))∧w'.cell? ⟨(ad295.add ((aD).toNat * 3)).block,(ad295.add ((aD).toNat * 3)).off + 1,none⟩ = some (.slice bE ((a0P aC aD).f1).length bF)∧w'.cell? ⟨(ad295.add ((aD).toNat * 3)).block,(ad295.add ((aD).toNat * 3)).off + 2,none⟩ = some (.slice bG ((a0P aC aD).f2).length bH)∧w'.cell? (ad295.add ((aD).toNat * 3)) = some (.string ((a0P aC aD).f0))∧w'.cell? ⟨(ad295.add ((aD).toNat * 3)).block,(ad295.add ((aD).toNat * 3)).off + 1,none⟩ = some (.slice bE ((a0P aC aD).f1).length bF)∧w'.cell? ⟨(ad295.add ((aD).toNat * 3)).block,(ad295.add ((aD).toNat * 3)).off + 2,none⟩ = some (.slice bG ((a0P aC aD).f2).length bH)) (ds:=[]) #[false,false,false,false,false,false,false,false,false,false,false,false,false,false] (by kernel_rfl) rfl rfl ⟨(a0G aA.out 0).trans rfl,(a0C HB.out aY),(a0C HB.out aX),(a0C HB.out aW),(a0C HB.out bC),(a0C HB.out bB),(a0C HB.out bA)⟩ (fun hHeld =>?_);refine a2R w05_ResolveTells.tab6 w05_ResolveTells.b4D (fun HT_ HW_ =>?_)
       generalize wr.drew = w20 at aA HB bN bO bT bU aV aM aN aZ aQ aT hHeld ⊢
       refine a1E (i:=0) (N:=some 16) (v:=?_) (a':=?_) #[true,false,false,false,false,false,false,false,false,false,false,false,false,false] rfl rfl (a0Z HT_.out (by kernel_rfl)) (fun _ _ _ h =>h) (Or.inl ⟨by rfl,?_⟩) ?_ ?_
       rotate_left
       ·intro w'
        go_simp
        with_reducible rfl
       rotate_left
       ·simp only [Act.put,List.setIfInBounds_toArray,List.set_cons_zero,List.set_cons_succ,a0X,a0Y]
        rfl
       refine a1E (i:=2) (N:=some 18) (v:=?_) (a':=?_) #[true,false,true,false,false,false,false,false,false,false,false,false,false,false] rfl rfl (a0Z HT_.out (by kernel_rfl)) (fun _ _ _ h =>h) (Or.inl ⟨by rfl,?_⟩) ?_ ?_
       rotate_left
       ·intro w'
        go_simp
        with_reducible rfl
       rotate_left
       ·simp only [Act.put,List.setIfInBounds_toArray,List.set_cons_zero,List.set_cons_succ,a0X,a0Y]
        rfl
       refine a1E (i:=6) (N:=some 22) (v:=?_) (a':=?_) #[true,false,true,false,false,false,true,false,false,false,false,false,false,false] rfl rfl (a0Z HT_.out (by kernel_rfl)) (fun _ _ _ h =>h) (Or.inl ⟨by rfl,?_⟩) ?_ ?_
       rotate_left
       ·intro w'
        go_simp
        with_reducible rfl
       rotate_left
       ·simp only [Act.put,List.setIfInBounds_toArray,List.set_cons_zero,List.set_cons_succ,a0X,a0Y]
        rfl
       refine a1E (i:=8) (N:=some 24) (v:=?_) (a':=?_) #[true,false,true,false,false,false,true,false,true,false,false,false,false,false] rfl rfl (a0Z HT_.out (by kernel_rfl)) (fun _ _ _ h =>h) (Or.inl ⟨by rfl,?_⟩) ?_ ?_
       rotate_left
       ·intro w'
        go_simp
        with_reducible rfl
       rotate_left
       ·simp only [Act.put,List.setIfInBounds_toArray,List.set_cons_zero,List.set_cons_succ,a0X,a0Y]
        rfl
       refine a2M (i:=1) (N:=some 17) (v:=?_) (a':=?_) #[true,true,true,false,false,false,true,false,true,false,false,false,false,false] rfl rfl (a1O HT_.out HW_.out (by kernel_rfl)) (fun _ _ _ h =>h) (Or.inl ⟨by rfl,?_⟩) hHeld ?_ ?_
       rotate_left
       ·rintro w' ⟨s0,s1,s2,s3,s4,s5,s6⟩
        go_simp
        with_reducible rfl
       rotate_left
       ·simp only [Act.put,List.setIfInBounds_toArray,List.set_cons_zero,List.set_cons_succ,a0X,a0Y]
        rfl
       refine a1E (i:=3) (N:=some 19) (v:=?_) (a':=?_) #[true,true,true,true,false,false,true,false,true,false,false,false,false,false] rfl rfl (a0Z HT_.out (by kernel_rfl)) (fun _ _ _ h =>h) (Or.inl ⟨by rfl,?_⟩) ?_ ?_
       rotate_left
       ·intro w'
        go_simp
        with_reducible rfl
       rotate_left
       ·simp only [Act.put,List.setIfInBounds_toArray,List.set_cons_zero,List.set_cons_succ,a0X,a0Y]
        rfl
       refine a2M (i:=4) (N:=some 20) (v:=?_) (a':=?_) #[true,true,true,true,true,false,true,false,true,false,false,false,false,false] rfl rfl (a1O HT_.out HW_.out (by kernel_rfl)) (fun _ _ _ h =>h) (Or.inl ⟨by rfl,?_⟩) hHeld ?_ ?_
       rotate_left
       ·rintro w' ⟨s0,s1,s2,s3,s4,s5,s6⟩
        go_simp
        with_reducible rfl
       rotate_left
       ·simp only [Act.put,List.setIfInBounds_toArray,List.set_cons_zero,List.set_cons_succ,a0X,a0Y]
        rfl
       refine a2M (i:=7) (N:=some 23) (v:=?_) (a':=?_) #[true,true,true,true,true,false,true,true,true,false,false,false,false,false] rfl rfl (a1O HT_.out HW_.out (by kernel_rfl)) (fun _ _ _ h =>h) (Or.inl ⟨by rfl,?_⟩) hHeld ?_ ?_
       rotate_left
       ·rintro w' ⟨s0,s1,s2,s3,s4,s5,s6⟩
        go_simp
        with_reducible rfl
       rotate_left
       ·simp only [Act.put,List.setIfInBounds_toArray,List.set_cons_zero,List.set_cons_succ,a0X,a0Y]
        rfl
       refine a1E (i:=9) (N:=some 25) (v:=?_) (a':=?_) #[true,true,true,true,true,false,true,true,true,true,false,false,false,false] rfl rfl (a0Z HT_.out (by kernel_rfl)) (fun _ _ _ h =>h) (Or.inl ⟨by rfl,?_⟩) ?_ ?_
       rotate_left
       ·intro w'
        go_simp
        with_reducible rfl
       rotate_left
       ·simp only [Act.put,List.setIfInBounds_toArray,List.set_cons_zero,List.set_cons_succ,a0X,a0Y]
        rfl
       refine a2M (i:=10) (N:=some 26) (v:=?_) (a':=?_) #[true,true,true,true,true,false,true,true,true,true,true,false,false,false] rfl rfl (a1O HT_.out HW_.out (by kernel_rfl)) (fun _ _ _ h =>h) (Or.inl ⟨by rfl,?_⟩) hHeld ?_ ?_
       rotate_left
       ·rintro w' ⟨s0,s1,s2,s3,s4,s5,s6⟩
        go_simp
        with_reducible rfl
       rotate_left
       ·simp only [Act.put,List.setIfInBounds_toArray,List.set_cons_zero,List.set_cons_succ,a0X,a0Y]
        rfl
       refine one_ (i:=5) (N:=some 21) #[true,true,true,true,true,true,true,true,true,true,true,false,false,false] rfl rfl (a2O HT_.out (by kernel_rfl)) (by decide) (fun K hK =>?_)
       refine a3K Try.func11 (by kernel_rfl) rfl #[.agg #[.string ((a0P aC aD).f0),.slice bE ((a0P aC aD).f1).length bF,.slice bG ((a0P aC aD).f2).length bH]] (by rfl) rfl rfl (by (try simp only [List.map_toArray,List.map_cons,List.map_nil]);first | done | rfl | (simp only [List.length_drop,List.length_take];rfl)) ?_
       with_reducible refine (resolve_Vars.calls k1 ((a0P aC aD).f0) _ _ ((a0P aC aD).f1) _ _ ((a0P aC aD).f2) t296 _ ?side1 ?side2 ?side3 ?side4 A15.out).mono ?_
       (case side1 =>repeat (first | exact (Kd.a0N bN.out HB.out) | (with_reducible refine Kd.a0R ?_ _) | (with_reducible refine Kd.a0Q ?_ _) | (with_reducible refine Kd.a1B ?_)))
       (case side2 =>exact bW.out)
       (case side3 =>repeat (first | exact (Kd.a0N bO.out HB.out) | (with_reducible refine Kd.a0R ?_ _) | (with_reducible refine Kd.a0Q ?_ _) | (with_reducible refine Kd.a1B ?_)))
       (case side4 =>exact bX.out)
       rintro e w21 ⟨v297,rfl,ho0,hb⟩
       refine ⟨_,rfl,?_⟩
       have aJ:=a0A.mk (Kd.a2Y ho0 (a0V (by repeat (first | (with_reducible first | exact HB.out | apply a0D | apply a0B | apply a0E | refine a0I ?_ aG.out) | exact HB.out))))
       have aK:=a0A.mk (a0U (g:=aE) (o:=.cells #[.slice (some ad295) aC.length aH] 24 (0,0)) (by (with_reducible repeat (first | refine a0L ?_ _ | refine a0M ?_ | refine a0K ?_ _));exact aA.out) hb)
       have bV:=a0A.mk (a0H (by repeat (first | (with_reducible first | exact HB.out | apply a0D | apply a0B | apply a0E | refine a0I ?_ aG.out) | exact HB.out)) hb)
       clear aA
       clear HB
       have HO298:=aJ
       have aA:=aK
       have HB:=bV
       clear aJ aK bV
       (try clear hb)
       (try clear hb2)
       (try clear hk)
       (try clear hi)
       (try clear ho0)
       refine hK.out _ _ ⟨(a0G aA.out 0).trans rfl,(a0C HB.out aY),(a0C HB.out aX),(a0C HB.out aW),(a0C HB.out bC),(a0C HB.out bB),(a0C HB.out bA)⟩ (fun hHeld =>?_)
       clear hK K
       refine a3J (a':=?_) ?_ ?_
       rotate_left
       ·show Act.put _ (some 21) _ = _
        simp only [Act.put,List.setIfInBounds_toArray,List.set_cons_zero,List.set_cons_succ,a0X,a0Y]
        rfl
       refine one_ (i:=11) (N:=some 27) #[true,true,true,true,true,true,true,true,true,true,true,true,false,false] rfl rfl (a2O HT_.out (by kernel_rfl)) (by decide) (fun K hK =>?_)
       refine a3K Try.func12 (by kernel_rfl) rfl #[.agg #[.string ((a0P aC aD).f0),.slice bE ((a0P aC aD).f1).length bF,.slice bG ((a0P aC aD).f2).length bH]] (by rfl) rfl rfl (by (try simp only [List.map_toArray,List.map_cons,List.map_nil]);first | done | rfl | (simp only [List.length_drop,List.length_take];rfl)) ?_
       with_reducible refine (r05_Vars.calls k1 ((a0P aC aD).f0) _ _ ((a0P aC aD).f1) _ _ ((a0P aC aD).f2) t300 _ ?side1 ?side2 ?side3 ?side4 A16.out).mono ?_
       (case side1 =>repeat (first | exact (Kd.a0N bT.out HB.out) | (with_reducible refine Kd.a0R ?_ _) | (with_reducible refine Kd.a0Q ?_ _) | (with_reducible refine Kd.a1B ?_)))
       (case side2 =>exact bY.out)
       (case side3 =>repeat (first | exact (Kd.a0N bU.out HB.out) | (with_reducible refine Kd.a0R ?_ _) | (with_reducible refine Kd.a0Q ?_ _) | (with_reducible refine Kd.a1B ?_)))
       (case side4 =>exact bZ.out)
       rintro e w22 ⟨v301,rfl,ho0,hb⟩
       refine ⟨_,rfl,?_⟩
       have aJ:=a0A.mk (Kd.a4K (by (with_reducible repeat (first | apply Kd.a1N | apply Kd.a1M | apply Kd.a1S));exact HO298.out) (Kd.a1X ho0) hb)
       have aK:=a0A.mk (Kd.a2Y (Kd.a6U ho0 (Kd.R_lt (by (with_reducible repeat (first | apply Kd.a1N | apply Kd.a1M | apply Kd.a1S));exact HO298.out))) (a0V (by repeat (first | (with_reducible first | exact HB.out | apply a0D | apply a0B | apply a0E | refine a0I ?_ aG.out) | exact HB.out))))
       have bV:=a0A.mk (a0U (g:=aE) (o:=.cells #[.slice (some ad295) aC.length aH] 24 (0,0)) (by (with_reducible repeat (first | refine a0L ?_ _ | refine a0M ?_ | refine a0K ?_ _));exact aA.out) hb)
       have cA:=a0A.mk (a0H (by repeat (first | (with_reducible first | exact HB.out | apply a0D | apply a0B | apply a0E | refine a0I ?_ aG.out) | exact HB.out)) hb)
       clear HO298
       clear aA
       clear HB
       have HO298:=aJ
       have HO302:=aK
       have aA:=bV
       have HB:=cA
       clear aJ aK bV cA
       (try clear hb)
       (try clear hb2)
       (try clear hk)
       (try clear hi)
       (try clear ho0)
       obtain ⟨Ao23,co23,eo23⟩:=Kd.a3O HO298.out
       (first | subst eo23 | (injection eo23 with f1_ f2_ f3_;have f4_:=f1_.symm;have f5_:=f3_.symm;clear f1_ f2_ f3_;subst f4_;subst f5_))
       obtain ⟨Ao24,co24,eo24⟩:=Kd.a3O HO302.out
       (first | subst eo24 | (injection eo24 with f1_ f2_ f3_;have f4_:=f1_.symm;have f5_:=f3_.symm;clear f1_ f2_ f3_;subst f4_;subst f5_))
       refine hK.out _ _ ⟨(a0G aA.out 0).trans rfl,(a0C HB.out aY),(a0C HB.out aX),(a0C HB.out aW),(a0C HB.out bC),(a0C HB.out bB),(a0C HB.out bA)⟩ (fun hHeld =>?_)
       clear hK K
       refine a3J (a':=?_) ?_ ?_
       rotate_left
       ·show Act.put _ (some 27) _ = _
        simp only [Act.put,List.setIfInBounds_toArray,List.set_cons_zero,List.set_cons_succ,a0X,a0Y]
        rfl
       refine one_ (i:=12) (N:=some 28) #[true,true,true,true,true,true,true,true,true,true,true,true,true,false] rfl rfl (a2O HT_.out (by kernel_rfl)) (by decide) (fun K hK =>?_)
       refine a3K Try.func10 (by kernel_rfl) rfl #[.slice Ao23 t296.length co23,.slice Ao24 t300.length co24] (by rfl) rfl rfl (by (try simp only [List.map_toArray,List.map_cons,List.map_nil]);first | done | rfl | (simp only [List.length_drop,List.length_take];rfl)) ?_
       with_reducible refine (r02_Texts.calls k1 _ _ t296 _ _ t300 true _ ?side1 ?side2 ?side3 ?side4 A17.out).mono ?_
       (case side1 =>repeat (first | exact (Kd.a1Y HO298.out).2.2 | (with_reducible refine Kd.a0R ?_ _) | (with_reducible refine Kd.a0Q ?_ _) | (with_reducible refine Kd.a1B ?_)))
       (case side2 =>exact (Kd.a1Y HO298.out).2.1)
       (case side3 =>repeat (first | exact (Kd.a1Y HO302.out).2.2 | (with_reducible refine Kd.a0R ?_ _) | (with_reducible refine Kd.a0Q ?_ _) | (with_reducible refine Kd.a1B ?_)))
       (case side4 =>exact (Kd.a1Y HO302.out).2.1)
       rintro e w' ⟨rfl,⟨nd,rfl⟩⟩
       refine ⟨_,rfl,?_⟩
       refine hK.out _ _ ⟨(a0G aA.out 0).trans rfl,(a0C HB.out aY),(a0C HB.out aX),(a0C HB.out aW),(a0C HB.out bC),(a0C HB.out bB),(a0C HB.out bA)⟩ (fun hHeld =>?_)
       clear hK K
       refine a3J (a':=?_) ?_ ?_
       rotate_left
       ·show Act.put _ (some 28) _ = _
        simp only [Act.put,List.setIfInBounds_toArray,List.set_cons_zero,List.set_cons_succ,a0X,a0Y]
        rfl
       refine a1E (i:=13) (N:=some 29) (v:=?_) (a':=?_) #[true,true,true,true,true,true,true,true,true,true,true,true,true,true] rfl rfl (a0Z HT_.out (by kernel_rfl)) (fun _ _ _ h =>h) (Or.inl ⟨by rfl,?_⟩) ?_ ?_
       rotate_left
       ·intro w'
        go_simp
        with_reducible rfl
       rotate_left
       ·simp only [Act.put,List.setIfInBounds_toArray,List.set_cons_zero,List.set_cons_succ,a0X,a0Y]
        rfl
       refine a6F (a3S HT_.out (by kernel_rfl)) ?_
       try go_wp2
       go_roundg k1
       case measure =>have:=HK1.out;omega
       case rel =>exact ⟨(wrap64 (aD + 1)),(by first | rfl | (simp;done) | (simp [*];done)),H',⟨by have:=HK1.out;omega⟩,⟨by (with_reducible repeat (first | refine a0L ?_ _ | refine a0M ?_ | refine a0K ?_ _));exact aA.out⟩,⟨by repeat (first | (with_reducible first | exact HB.out | apply a0D | apply a0B | apply a0E | refine a0I ?_ aG.out) | exact HB.out)⟩⟩
      ·replace c18:=Bool.eq_false_iff.mpr c18
       subst c18
       have H1:(some false) = some r:=by rw [if_neg (show ¬ (false = true) by decide)] at H;exact H
       clear H
       have H:=H1
       clear H1
       obtain rfl:=Option.some.inj H
       have cN:wr.cell? ⟨aE,0,none⟩ = some (.slice aI aC.length aH):=(a0G aA.out 0).trans rfl
       have cO:=a0F aA.out 0
       try go_wp2
       have aJ:=a0A.mk (a0M aA.out)
       have aK:=a0A.mk (a0E HB.out)
       clear aA
       clear HB
       have aA:=aJ
       have HB:=aK
       clear aJ aK
       have p295:0≤(aD:Int):=of_decide_eq_true (by first | (with_reducible assumption) | assumption)
       have q295:aD < (aC.length:Int):=of_decide_eq_true (by first | (with_reducible assumption) | assumption)
       obtain ⟨ad295,bE,bF,bG,bH,e295,aV,aM,aN,bI,bJ,bK,bM⟩:=a3N aU.out aD p295 q295
       have aW:=aN
       have aX:=aM
       have aY:=aV
       cases e295
       replace aV:=a0C HB.out aV
       replace aM:=a0C HB.out aM
       replace aN:=a0C HB.out aN
       have bN:=a0A.mk bJ
       have bW:=a0A.mk bI
       clear bJ bI
       have bO:=a0A.mk bM
       have bX:=a0A.mk bK
       clear bM bK
       replace p295:=eq_true p295
       replace q295:=eq_true q295
       have p299:0≤(aD:Int):=of_decide_eq_true (by first | (with_reducible assumption) | assumption)
       have q299:aD < (aC.length:Int):=of_decide_eq_true (by first | (with_reducible assumption) | assumption)
       obtain ⟨ad299,cH,cI,cJ,cK,e299,aZ,aQ,aT,bP,bQ,bR,bS⟩:=a3N aU.out aD p299 q299
       have bA:=aT
       have bB:=aQ
       have bC:=aZ
       obtain rfl:ad295 = ad299:=(by injection e299)
       replace aZ:=a0C HB.out aZ
       replace aQ:=a0C HB.out aQ
       replace aT:=a0C HB.out aT
       have bT:=a0A.mk bQ
       have bY:=a0A.mk bP
       clear bQ bP
       have bU:=a0A.mk bS
       have bZ:=a0A.mk bR
       clear bS bR
       replace p299:=eq_true p299
       replace q299:=eq_true q299
       have ea_:=Option.some.inj (aM.symm.trans aQ)
       injection ea_ with ea_ en_ ec_
       subst ea_
       subst ec_
       clear en_
       have ea_:=Option.some.inj (aN.symm.trans aT)
       injection ea_ with ea_ en_ ec_
       subst ea_
       subst ec_
       clear en_
       refine a4L (n:=14) (S:=fun w' =>w'.cell? ⟨aE,0,none⟩ = some (.slice (some ad295) aC.length aH)∧w'.cell? (ad295.add ((aD).toNat * 3)) = some (.string ((a0P aC aD).f0))∧w'.cell? ⟨(ad295.add ((aD).toNat * 3)).block,(ad295.add ((aD).toNat * 3)).off + 1,none⟩ = some (.slice bE ((a0P aC aD).f1).length bF)∧w'.cell? ⟨(ad295.add ((aD).toNat * 3)).block,(ad295.add ((aD).toNat * 3)).off + 2,none⟩ = some (.slice bG ((a0P aC aD).f2).length bH)∧w'.cell? (ad295.add ((aD).toNat * 3)) = some (.string ((a0P aC aD).f0))∧w'.cell? ⟨(ad295.add ((aD).toNat * 3)).block,(ad295.add ((aD).toNat * 3)).off + 1,none⟩ = some (.slice bE ((a0P aC aD).f1).length bF)∧w'.cell? ⟨(ad295.add ((aD).toNat * 3)).block,(ad295.add ((aD).toNat * 3)).off + 2,none⟩ = some (.slice bG ((a0P aC aD).f2).length bH)) (ds:=[]) #[false,false,false,false,false,false,false,false,false,false,false,false,false,false] (by kernel_rfl) rfl rfl ⟨(a0G aA.out 0).trans rfl,(a0C HB.out aY),(a0C HB.out aX),(a0C HB.out aW),(a0C HB.out bC),(a0C HB.out bB),(a0C HB.out bA)⟩ (fun hHeld =>?_);refine a2R w05_ResolveTells.tab6 w05_ResolveTells.b4D (fun HT_ HW_ =>?_)
       generalize wr.drew = w26 at aA HB bN bO bT bU aV aM aN aZ aQ aT hHeld ⊢
       refine a1E (i:=0) (N:=some 16) (v:=?_) (a':=?_) #[true,false,false,false,false,false,false,false,false,false,false,false,false,false] rfl rfl (a0Z HT_.out (by kernel_rfl)) (fun _ _ _ h =>h) (Or.inl ⟨by rfl,?_⟩) ?_ ?_
       rotate_left
       ·intro w'
        go_simp
        with_reducible rfl
       rotate_left
       ·simp only [Act.put,List.setIfInBounds_toArray,List.set_cons_zero,List.set_cons_succ,a0X,a0Y]
        rfl
       refine a1E (i:=2) (N:=some 18) (v:=?_) (a':=?_) #[true,false,true,false,false,false,false,false,false,false,false,false,false,false] rfl rfl (a0Z HT_.out (by kernel_rfl)) (fun _ _ _ h =>h) (Or.inl ⟨by rfl,?_⟩) ?_ ?_
       rotate_left
       ·intro w'
        go_simp
        with_reducible rfl
       rotate_left
       ·simp only [Act.put,List.setIfInBounds_toArray,List.set_cons_zero,List.set_cons_succ,a0X,a0Y]
        rfl
       refine a1E (i:=6) (N:=some 22) (v:=?_) (a':=?_) #[true,false,true,false,false,false,true,false,false,false,false,false,false,false] rfl rfl (a0Z HT_.out (by kernel_rfl)) (fun _ _ _ h =>h) (Or.inl ⟨by rfl,?_⟩) ?_ ?_
       rotate_left
       ·intro w'
        go_simp
        with_reducible rfl
       rotate_left
       ·simp only [Act.put,List.setIfInBounds_toArray,List.set_cons_zero,List.set_cons_succ,a0X,a0Y]
        rfl
       refine a1E (i:=8) (N:=some 24) (v:=?_) (a':=?_) #[true,false,true,false,false,false,true,false,true,false,false,false,false,false] rfl rfl (a0Z HT_.out (by kernel_rfl)) (fun _ _ _ h =>h) (Or.inl ⟨by rfl,?_⟩) ?_ ?_
       rotate_left
       ·intro w'
        go_simp
        with_reducible rfl
       rotate_left
       ·simp only [Act.put,List.setIfInBounds_toArray,List.set_cons_zero,List.set_cons_succ,a0X,a0Y]
        rfl
       refine a2M (i:=1) (N:=some 17) (v:=?_) (a':=?_) #[true,true,true,false,false,false,true,false,true,false,false,false,false,false] rfl rfl (a1O HT_.out HW_.out (by kernel_rfl)) (fun _ _ _ h =>h) (Or.inl ⟨by rfl,?_⟩) hHeld ?_ ?_
       rotate_left
       ·rintro w' ⟨s0,s1,s2,s3,s4,s5,s6⟩
        go_simp
        with_reducible rfl
       rotate_left
       ·simp only [Act.put,List.setIfInBounds_toArray,List.set_cons_zero,List.set_cons_succ,a0X,a0Y]
        rfl
       refine a1E (i:=3) (N:=some 19) (v:=?_) (a':=?_) #[true,true,true,true,false,false,true,false,true,false,false,false,false,false] rfl rfl (a0Z HT_.out (by kernel_rfl)) (fun _ _ _ h =>h) (Or.inl ⟨by rfl,?_⟩) ?_ ?_
       rotate_left
       ·intro w'
        go_simp
        with_reducible rfl
       rotate_left
       ·simp only [Act.put,List.setIfInBounds_toArray,List.set_cons_zero,List.set_cons_succ,a0X,a0Y]
        rfl
       refine a2M (i:=4) (N:=some 20) (v:=?_) (a':=?_) #[true,true,true,true,true,false,true,false,true,false,false,false,false,false] rfl rfl (a1O HT_.out HW_.out (by kernel_rfl)) (fun _ _ _ h =>h) (Or.inl ⟨by rfl,?_⟩) hHeld ?_ ?_
       rotate_left
       ·rintro w' ⟨s0,s1,s2,s3,s4,s5,s6⟩
        go_simp
        with_reducible rfl
       rotate_left
       ·simp only [Act.put,List.setIfInBounds_toArray,List.set_cons_zero,List.set_cons_succ,a0X,a0Y]
        rfl
       refine a2M (i:=7) (N:=some 23) (v:=?_) (a':=?_) #[true,true,true,true,true,false,true,true,true,false,false,false,false,false] rfl rfl (a1O HT_.out HW_.out (by kernel_rfl)) (fun _ _ _ h =>h) (Or.inl ⟨by rfl,?_⟩) hHeld ?_ ?_
       rotate_left
       ·rintro w' ⟨s0,s1,s2,s3,s4,s5,s6⟩
        go_simp
        with_reducible rfl
       rotate_left
       ·simp only [Act.put,List.setIfInBounds_toArray,List.set_cons_zero,List.set_cons_succ,a0X,a0Y]
        rfl
       refine a1E (i:=9) (N:=some 25) (v:=?_) (a':=?_) #[true,true,true,true,true,false,true,true,true,true,false,false,false,false] rfl rfl (a0Z HT_.out (by kernel_rfl)) (fun _ _ _ h =>h) (Or.inl ⟨by rfl,?_⟩) ?_ ?_
       rotate_left
       ·intro w'
        go_simp
        with_reducible rfl
       rotate_left
       ·simp only [Act.put,List.setIfInBounds_toArray,List.set_cons_zero,List.set_cons_succ,a0X,a0Y]
        rfl
       refine a2M (i:=10) (N:=some 26) (v:=?_) (a':=?_) #[true,true,true,true,true,false,true,true,true,true,true,false,false,false] rfl rfl (a1O HT_.out HW_.out (by kernel_rfl)) (fun _ _ _ h =>h) (Or.inl ⟨by rfl,?_⟩) hHeld ?_ ?_
       rotate_left
       ·rintro w' ⟨s0,s1,s2,s3,s4,s5,s6⟩
        go_simp
        with_reducible rfl
       rotate_left
       ·simp only [Act.put,List.setIfInBounds_toArray,List.set_cons_zero,List.set_cons_succ,a0X,a0Y]
        rfl
       refine one_ (i:=5) (N:=some 21) #[true,true,true,true,true,true,true,true,true,true,true,false,false,false] rfl rfl (a2O HT_.out (by kernel_rfl)) (by decide) (fun K hK =>?_)
       refine a3K Try.func11 (by kernel_rfl) rfl #[.agg #[.string ((a0P aC aD).f0),.slice bE ((a0P aC aD).f1).length bF,.slice bG ((a0P aC aD).f2).length bH]] (by rfl) rfl rfl (by (try simp only [List.map_toArray,List.map_cons,List.map_nil]);first | done | rfl | (simp only [List.length_drop,List.length_take];rfl)) ?_
       with_reducible refine (resolve_Vars.calls k1 ((a0P aC aD).f0) _ _ ((a0P aC aD).f1) _ _ ((a0P aC aD).f2) t296 _ ?side1 ?side2 ?side3 ?side4 A15.out).mono ?_
       (case side1 =>repeat (first | exact (Kd.a0N bN.out HB.out) | (with_reducible refine Kd.a0R ?_ _) | (with_reducible refine Kd.a0Q ?_ _) | (with_reducible refine Kd.a1B ?_)))
       (case side2 =>exact bW.out)
       (case side3 =>repeat (first | exact (Kd.a0N bO.out HB.out) | (with_reducible refine Kd.a0R ?_ _) | (with_reducible refine Kd.a0Q ?_ _) | (with_reducible refine Kd.a1B ?_)))
       (case side4 =>exact bX.out)
       rintro e w27 ⟨v297,rfl,ho0,hb⟩
       refine ⟨_,rfl,?_⟩
       have aJ:=a0A.mk (Kd.a2Y ho0 (a0V (by repeat (first | (with_reducible first | exact HB.out | apply a0D | apply a0B | apply a0E | refine a0I ?_ aG.out) | exact HB.out))))
       have aK:=a0A.mk (a0U (g:=aE) (o:=.cells #[.slice (some ad295) aC.length aH] 24 (0,0)) (by (with_reducible repeat (first | refine a0L ?_ _ | refine a0M ?_ | refine a0K ?_ _));exact aA.out) hb)
       have bV:=a0A.mk (a0H (by repeat (first | (with_reducible first | exact HB.out | apply a0D | apply a0B | apply a0E | refine a0I ?_ aG.out) | exact HB.out)) hb)
       clear aA
       clear HB
       have HO298:=aJ
       have aA:=aK
       have HB:=bV
       clear aJ aK bV
       (try clear hb)
       (try clear hb2)
       (try clear hk)
       (try clear hi)
       (try clear ho0)
       refine hK.out _ _ ⟨(a0G aA.out 0).trans rfl,(a0C HB.out aY),(a0C HB.out aX),(a0C HB.out aW),(a0C HB.out bC),(a0C HB.out bB),(a0C HB.out bA)⟩ (fun hHeld =>?_)
       clear hK K
       refine a3J (a':=?_) ?_ ?_
       rotate_left
       ·show Act.put _ (some 21) _ = _
        simp only [Act.put,List.setIfInBounds_toArray,List.set_cons_zero,List.set_cons_succ,a0X,a0Y]
        rfl
       refine one_ (i:=11) (N:=some 27) #[true,true,true,true,true,true,true,true,true,true,true,true,false,false] rfl rfl (a2O HT_.out (by kernel_rfl)) (by decide) (fun K hK =>?_)
       refine a3K Try.func12 (by kernel_rfl) rfl #[.agg #[.string ((a0P aC aD).f0),.slice bE ((a0P aC aD).f1).length bF,.slice bG ((a0P aC aD).f2).length bH]] (by rfl) rfl rfl (by (try simp only [List.map_toArray,List.map_cons,List.map_nil]);first | done | rfl | (simp only [List.length_drop,List.length_take];rfl)) ?_
       with_reducible refine (r05_Vars.calls k1 ((a0P aC aD).f0) _ _ ((a0P aC aD).f1) _ _ ((a0P aC aD).f2) t300 _ ?side1 ?side2 ?side3 ?side4 A16.out).mono ?_
       (case side1 =>repeat (first | exact (Kd.a0N bT.out HB.out) | (with_reducible refine Kd.a0R ?_ _) | (with_reducible refine Kd.a0Q ?_ _) | (with_reducible refine Kd.a1B ?_)))
       (case side2 =>exact bY.out)
       (case side3 =>repeat (first | exact (Kd.a0N bU.out HB.out) | (with_reducible refine Kd.a0R ?_ _) | (with_reducible refine Kd.a0Q ?_ _) | (with_reducible refine Kd.a1B ?_)))
       (case side4 =>exact bZ.out)
       rintro e w28 ⟨v301,rfl,ho0,hb⟩
       refine ⟨_,rfl,?_⟩
       have aJ:=a0A.mk (Kd.a4K (by (with_reducible repeat (first | apply Kd.a1N | apply Kd.a1M | apply Kd.a1S));exact HO298.out) (Kd.a1X ho0) hb)
       have aK:=a0A.mk (Kd.a2Y (Kd.a6U ho0 (Kd.R_lt (by (with_reducible repeat (first | apply Kd.a1N | apply Kd.a1M | apply Kd.a1S));exact HO298.out))) (a0V (by repeat (first | (with_reducible first | exact HB.out | apply a0D | apply a0B | apply a0E | refine a0I ?_ aG.out) | exact HB.out))))
       have bV:=a0A.mk (a0U (g:=aE) (o:=.cells #[.slice (some ad295) aC.length aH] 24 (0,0)) (by (with_reducible repeat (first | refine a0L ?_ _ | refine a0M ?_ | refine a0K ?_ _));exact aA.out) hb)
       have cA:=a0A.mk (a0H (by repeat (first | (with_reducible first | exact HB.out | apply a0D | apply a0B | apply a0E | refine a0I ?_ aG.out) | exact HB.out)) hb)
       clear HO298
       clear aA
       clear HB
       have HO298:=aJ
       have HO302:=aK
       have aA:=bV
       have HB:=cA
       clear aJ aK bV cA
       (try clear hb)
       (try clear hb2)
       (try clear hk)
       (try clear hi)
       (try clear ho0)
       obtain ⟨Ao29,co29,eo29⟩:=Kd.a3O HO298.out
       (first | subst eo29 | (injection eo29 with f1_ f2_ f3_;have f4_:=f1_.symm;have f5_:=f3_.symm;clear f1_ f2_ f3_;subst f4_;subst f5_))
       obtain ⟨Ao30,co30,eo30⟩:=Kd.a3O HO302.out
       (first | subst eo30 | (injection eo30 with f1_ f2_ f3_;have f4_:=f1_.symm;have f5_:=f3_.symm;clear f1_ f2_ f3_;subst f4_;subst f5_))
       refine hK.out _ _ ⟨(a0G aA.out 0).trans rfl,(a0C HB.out aY),(a0C HB.out aX),(a0C HB.out aW),(a0C HB.out bC),(a0C HB.out bB),(a0C HB.out bA)⟩ (fun hHeld =>?_)
       clear hK K
       refine a3J (a':=?_) ?_ ?_
       rotate_left
       ·show Act.put _ (some 27) _ = _
        simp only [Act.put,List.setIfInBounds_toArray,List.set_cons_zero,List.set_cons_succ,a0X,a0Y]
        rfl
       refine one_ (i:=12) (N:=some 28) #[true,true,true,true,true,true,true,true,true,true,true,true,true,false] rfl rfl (a2O HT_.out (by kernel_rfl)) (by decide) (fun K hK =>?_)
       refine a3K Try.func10 (by kernel_rfl) rfl #[.slice Ao29 t296.length co29,.slice Ao30 t300.length co30] (by rfl) rfl rfl (by (try simp only [List.map_toArray,List.map_cons,List.map_nil]);first | done | rfl | (simp only [List.length_drop,List.length_take];rfl)) ?_
       with_reducible refine (r02_Texts.calls k1 _ _ t296 _ _ t300 false _ ?side1 ?side2 ?side3 ?side4 A17.out).mono ?_
       (case side1 =>repeat (first | exact (Kd.a1Y HO298.out).2.2 | (with_reducible refine Kd.a0R ?_ _) | (with_reducible refine Kd.a0Q ?_ _) | (with_reducible refine Kd.a1B ?_)))
       (case side2 =>exact (Kd.a1Y HO298.out).2.1)
       (case side3 =>repeat (first | exact (Kd.a1Y HO302.out).2.2 | (with_reducible refine Kd.a0R ?_ _) | (with_reducible refine Kd.a0Q ?_ _) | (with_reducible refine Kd.a1B ?_)))
       (case side4 =>exact (Kd.a1Y HO302.out).2.1)
       rintro e w' ⟨rfl,⟨nd,rfl⟩⟩
       refine ⟨_,rfl,?_⟩
       refine hK.out _ _ ⟨(a0G aA.out 0).trans rfl,(a0C HB.out aY),(a0C HB.out aX),(a0C HB.out aW),(a0C HB.out bC),(a0C HB.out bB),(a0C HB.out bA)⟩ (fun hHeld =>?_)
       clear hK K
       refine a3J (a':=?_) ?_ ?_
       rotate_left
       ·show Act.put _ (some 28) _ = _
        simp only [Act.put,List.setIfInBounds_toArray,List.set_cons_zero,List.set_cons_succ,a0X,a0Y]
        rfl
       refine a1E (i:=13) (N:=some 29) (v:=?_) (a':=?_) #[true,true,true,true,true,true,true,true,true,true,true,true,true,true] rfl rfl (a0Z HT_.out (by kernel_rfl)) (fun _ _ _ h =>h) (Or.inl ⟨by rfl,?_⟩) ?_ ?_
       rotate_left
       ·intro w'
        go_simp
        with_reducible rfl
       rotate_left
       ·simp only [Act.put,List.setIfInBounds_toArray,List.set_cons_zero,List.set_cons_succ,a0X,a0Y]
        rfl
       refine a6F (a3S HT_.out (by kernel_rfl)) ?_
       try go_wp2
       go_ret
       exact ⟨by first | rfl | (simp [a0T,a0S] <;> rfl) | (simp [*,a0T,a0S] <;> rfl),by repeat (first | (with_reducible first | exact HB.out | apply a0D | apply a0B | apply a0E | refine a0I ?_ aG.out) | exact HB.out)⟩
     ·rw [if_neg c14] at H
      exact absurd H (by simp)
    ·rw [if_neg c13] at H
     have c13b0:decide (aD < (aC.length:Int)) = false:=decide_eq_false c13
     clear c13
     replace H:=Option.bind_eq_some_iff.mp H
     obtain ⟨t304,A310,H⟩:=H
     replace H:(if t304 = true then ((resolve_Check.f k1 aC).bind fun bt305 =>((r05_Check.f k1 aC).bind fun bt307 =>(if (bt305.1 == bt307.1 && (bt305.2 == bt307.2)) = true then ((resolve_Fun.f k1 aC a1).bind fun t309 =>((r05_Fun.f k1 aC a1).bind fun t310 =>(if t309 = t310 then ((resolve_Props.f k1 aC).bind fun t311 =>((r05_Props.f k1 aC).bind fun t314 =>((r02_Texts.f k1 t311 t314).bind fun t317 =>(some t317)))) else (some false)))) else (some false)))) else (some false)) = some r:=H
     have A31:=a0A.mk A310
     clear A310
     by_cases c32:t304 = true
     ·subst c32
      have H1:((resolve_Check.f k1 aC).bind fun bt305 =>((r05_Check.f k1 aC).bind fun bt307 =>(if (bt305.1 == bt307.1 && (bt305.2 == bt307.2)) = true then ((resolve_Fun.f k1 aC a1).bind fun t309 =>((r05_Fun.f k1 aC a1).bind fun t310 =>(if t309 = t310 then ((resolve_Props.f k1 aC).bind fun t311 =>((r05_Props.f k1 aC).bind fun t314 =>((r02_Texts.f k1 t311 t314).bind fun t317 =>(some t317)))) else (some false)))) else (some false)))) = some r:=by rw [if_pos rfl] at H;exact H
      clear H
      have H:=H1
      clear H1
      replace H:=Option.bind_eq_some_iff.mp H
      obtain ⟨⟨t305,t306⟩,A330,H⟩:=H
      replace H:((r05_Check.f k1 aC).bind fun bt307 =>(if (t305 == bt307.1 && (t306 == bt307.2)) = true then ((resolve_Fun.f k1 aC a1).bind fun t309 =>((r05_Fun.f k1 aC a1).bind fun t310 =>(if t309 = t310 then ((resolve_Props.f k1 aC).bind fun t311 =>((r05_Props.f k1 aC).bind fun t314 =>((r02_Texts.f k1 t311 t314).bind fun t317 =>(some t317)))) else (some false)))) else (some false))) = some r:=H
      have A33:=a0A.mk A330
      clear A330
      replace H:=Option.bind_eq_some_iff.mp H
      obtain ⟨⟨t307,t308⟩,A340,H⟩:=H
      replace H:(if (t305 == t307 && (t306 == t308)) = true then ((resolve_Fun.f k1 aC a1).bind fun t309 =>((r05_Fun.f k1 aC a1).bind fun t310 =>(if t309 = t310 then ((resolve_Props.f k1 aC).bind fun t311 =>((r05_Props.f k1 aC).bind fun t314 =>((r02_Texts.f k1 t311 t314).bind fun t317 =>(some t317)))) else (some false)))) else (some false)) = some r:=H
      have A34:=a0A.mk A340
      clear A340
      by_cases c35:(t305 == t307 && (t306 == t308)) = true
      ·rw [if_pos c35] at H
       have c35b0:(t305 == t307 && (t306 == t308)) = true:=c35
       (try (have c35b1:decide (t305 = t307 && (t306 == t308)) = true:=by simpa using c35))
       (try (have c35b2:(t305 == t307 && (t306 == t308)) = true:=by simpa using c35))
       clear c35
       replace H:=Option.bind_eq_some_iff.mp H
       obtain ⟨t309,A360,H⟩:=H
       replace H:((r05_Fun.f k1 aC a1).bind fun t310 =>(if t309 = t310 then ((resolve_Props.f k1 aC).bind fun t311 =>((r05_Props.f k1 aC).bind fun t314 =>((r02_Texts.f k1 t311 t314).bind fun t317 =>(some t317)))) else (some false))) = some r:=H
       have A36:=a0A.mk A360
       clear A360
       replace H:=Option.bind_eq_some_iff.mp H
       obtain ⟨t310,A370,H⟩:=H
       replace H:(if t309 = t310 then ((resolve_Props.f k1 aC).bind fun t311 =>((r05_Props.f k1 aC).bind fun t314 =>((r02_Texts.f k1 t311 t314).bind fun t317 =>(some t317)))) else (some false)) = some r:=H
       have A37:=a0A.mk A370
       clear A370
       by_cases c38:t309 = t310
       ·rw [if_pos c38] at H
        have c38b0:(t309 == t310) = true:=beq_iff_eq.mpr c38
        have c38b1:(t309 != t310) = false:=bne_eq_false_iff_eq.mpr c38
        clear c38
        replace H:=Option.bind_eq_some_iff.mp H
        obtain ⟨t311,A390,H⟩:=H
        replace H:((r05_Props.f k1 aC).bind fun t314 =>((r02_Texts.f k1 t311 t314).bind fun t317 =>(some t317))) = some r:=H
        have A39:=a0A.mk A390
        clear A390
        replace H:=Option.bind_eq_some_iff.mp H
        obtain ⟨t314,A400,H⟩:=H
        replace H:((r02_Texts.f k1 t311 t314).bind fun t317 =>(some t317)) = some r:=H
        have A40:=a0A.mk A400
        clear A400
        replace H:=Option.bind_eq_some_iff.mp H
        obtain ⟨t317,A410,H⟩:=H
        replace H:(some t317) = some r:=H
        have A41:=a0A.mk A410
        clear A410
        obtain rfl:=Option.some.inj H
        have cR:wr.cell? ⟨aE,0,none⟩ = some (.slice aI aC.length aH):=(a0G aA.out 0).trans rfl
        have cS:=a0F aA.out 0
        try go_wp2
        have aJ:=a0A.mk (a0M aA.out)
        have aK:=a0A.mk (a0E HB.out)
        clear aA
        clear HB
        have aA:=aJ
        have HB:=aK
        clear aJ aK
        refine a4L (n:=25) (S:=fun w' =>w'.cell? ⟨aE,0,none⟩ = some (.slice aI aC.length aH)) (ds:=[]) #[false,false,false,false,false,false,false,false,false,false,false,false,false,false,false,false,false,false,false,false,false,false,false,false,false] (by kernel_rfl) rfl rfl ((a0G aA.out 0).trans rfl) (fun hHeld =>?_);refine a2R w05_ResolveTells.tab8 w05_ResolveTells.bits8 (fun HT_ HW_ =>?_)
        generalize wr.drew = w43 at aA HB hHeld ⊢
        refine one_ (i:=0) (N:=some 30) #[true,false,false,false,false,false,false,false,false,false,false,false,false,false,false,false,false,false,false,false,false,false,false,false,false] rfl rfl (a2O HT_.out (by kernel_rfl)) (by decide) (fun K hK =>?_)
        refine a3K Try.func9 (by kernel_rfl) rfl #[] (by rfl) rfl rfl (by (try simp only [List.map_toArray,List.map_cons,List.map_nil]);first | done | rfl | (simp only [List.length_drop,List.length_take];rfl)) ?_
        with_reducible refine (w05_fixed.calls  true _ A31.out).mono ?_
        rintro e w44 ⟨rfl,hb⟩
        refine ⟨_,rfl,?_⟩
        have aJ:=a0A.mk (a0U (g:=aE) (o:=.cells #[.slice aI aC.length aH] 24 (0,0)) (by (with_reducible repeat (first | refine a0L ?_ _ | refine a0M ?_ | refine a0K ?_ _));exact aA.out) hb)
        have aK:=a0A.mk (a0H (by repeat (first | (with_reducible first | exact HB.out | apply a0D | apply a0B | apply a0E | refine a0I ?_ aG.out) | exact HB.out)) hb)
        clear aA
        clear HB
        have aA:=aJ
        have HB:=aK
        clear aJ aK
        (try clear hb)
        (try clear hb2)
        (try clear hk)
        (try clear hi)
        refine hK.out _ _ ((a0G aA.out 0).trans rfl) (fun hHeld =>?_)
        clear hK K
        refine a3J (a':=?_) ?_ ?_
        rotate_left
        ·show Act.put _ (some 30) _ = _
         simp only [Act.put,List.setIfInBounds_toArray,List.set_cons_zero,List.set_cons_succ,a0X,a0Y]
         rfl
        refine a1E (i:=1) (N:=some 31) (v:=?_) (a':=?_) #[true,true,false,false,false,false,false,false,false,false,false,false,false,false,false,false,false,false,false,false,false,false,false,false,false] rfl rfl (a0Z HT_.out (by kernel_rfl)) (fun _ _ _ h =>h) (Or.inl ⟨by rfl,?_⟩) ?_ ?_
        rotate_left
        ·intro w'
         go_simp
         with_reducible rfl
        rotate_left
        ·simp only [Act.put,List.setIfInBounds_toArray,List.set_cons_zero,List.set_cons_succ,a0X,a0Y]
         rfl
        refine a2M (i:=2) (N:=some 32) (v:=?_) (a':=?_) #[true,true,true,false,false,false,false,false,false,false,false,false,false,false,false,false,false,false,false,false,false,false,false,false,false] rfl rfl (a1O HT_.out HW_.out (by kernel_rfl)) (fun _ _ _ h =>h) (Or.inl ⟨by rfl,?_⟩) hHeld ?_ ?_
        rotate_left
        ·intro w' s0
         go_simp
         with_reducible rfl
        rotate_left
        ·simp only [Act.put,List.setIfInBounds_toArray,List.set_cons_zero,List.set_cons_succ,a0X,a0Y]
         rfl
        refine a2M (i:=4) (N:=some 34) (v:=?_) (a':=?_) #[true,true,true,false,true,false,false,false,false,false,false,false,false,false,false,false,false,false,false,false,false,false,false,false,false] rfl rfl (a1O HT_.out HW_.out (by kernel_rfl)) (fun _ _ _ h =>h) (Or.inl ⟨by rfl,?_⟩) hHeld ?_ ?_
        rotate_left
        ·intro w' s0
         go_simp
         with_reducible rfl
        rotate_left
        ·simp only [Act.put,List.setIfInBounds_toArray,List.set_cons_zero,List.set_cons_succ,a0X,a0Y]
         rfl
        refine one_ (i:=3) (N:=some 33) #[true,true,true,true,true,false,false,false,false,false,false,false,false,false,false,false,false,false,false,false,false,false,false,false,false] rfl rfl (a2O HT_.out (by kernel_rfl)) (by decide) (fun K hK =>?_)
        refine a3K Try.func13 (by kernel_rfl) rfl #[.agg #[.slice aI aC.length aH]] (by rfl) rfl rfl (by (try simp only [List.map_toArray,List.map_cons,List.map_nil]);first | done | rfl | (simp only [List.length_drop,List.length_take];rfl)) ?_
        with_reducible refine (resolve_Check.calls k1 _ _ aC t305 t306 _ ?side1 ?side2 A33.out).mono ?_
        (case side1 =>repeat (first | exact (Kd.a0N aU.out HB.out) | (with_reducible refine Kd.a0R ?_ _) | (with_reducible refine Kd.a0Q ?_ _) | (with_reducible refine Kd.a1B ?_)))
        (case side2 =>exact bD.out)
        rintro e w45 ⟨rfl,hb⟩
        refine ⟨_,rfl,?_⟩
        have aJ:=a0A.mk (a0U (g:=aE) (o:=.cells #[.slice aI aC.length aH] 24 (0,0)) (by (with_reducible repeat (first | refine a0L ?_ _ | refine a0M ?_ | refine a0K ?_ _));exact aA.out) hb)
        have aK:=a0A.mk (a0H (by repeat (first | (with_reducible first | exact HB.out | apply a0D | apply a0B | apply a0E | refine a0I ?_ aG.out) | exact HB.out)) hb)
        clear aA
        clear HB
        have aA:=aJ
        have HB:=aK
        clear aJ aK
        (try clear hb)
        (try clear hb2)
        (try clear hk)
        (try clear hi)
        refine hK.out _ _ ((a0G aA.out 0).trans rfl) (fun hHeld =>?_)
        clear hK K
        refine a3J (a':=?_) ?_ ?_
        rotate_left
        ·show Act.put _ (some 33) _ = _
         simp only [Act.put,List.setIfInBounds_toArray,List.set_cons_zero,List.set_cons_succ,a0X,a0Y]
         rfl
        refine one_ (i:=5) (N:=some 35) #[true,true,true,true,true,true,false,false,false,false,false,false,false,false,false,false,false,false,false,false,false,false,false,false,false] rfl rfl (a2O HT_.out (by kernel_rfl)) (by decide) (fun K hK =>?_)
        refine a3K Try.func14 (by kernel_rfl) rfl #[.agg #[.slice aI aC.length aH]] (by rfl) rfl rfl (by (try simp only [List.map_toArray,List.map_cons,List.map_nil]);first | done | rfl | (simp only [List.length_drop,List.length_take];rfl)) ?_
        with_reducible refine (r05_Check.calls k1 _ _ aC t307 t308 _ ?side1 ?side2 A34.out).mono ?_
        (case side1 =>repeat (first | exact (Kd.a0N aU.out HB.out) | (with_reducible refine Kd.a0R ?_ _) | (with_reducible refine Kd.a0Q ?_ _) | (with_reducible refine Kd.a1B ?_)))
        (case side2 =>exact bD.out)
        rintro e w46 ⟨rfl,hb⟩
        refine ⟨_,rfl,?_⟩
        have aJ:=a0A.mk (a0U (g:=aE) (o:=.cells #[.slice aI aC.length aH] 24 (0,0)) (by (with_reducible repeat (first | refine a0L ?_ _ | refine a0M ?_ | refine a0K ?_ _));exact aA.out) hb)
        have aK:=a0A.mk (a0H (by repeat (first | (with_reducible first | exact HB.out | apply a0D | apply a0B | apply a0E | refine a0I ?_ aG.out) | exact HB.out)) hb)
        clear aA
        clear HB
        have aA:=aJ
        have HB:=aK
        clear aJ aK
        (try clear hb)
        (try clear hb2)
        (try clear hk)
        (try clear hi)
        refine hK.out _ _ ((a0G aA.out 0).trans rfl) (fun hHeld =>?_)
        clear hK K
        refine a3J (a':=?_) ?_ ?_
        rotate_left
        ·show Act.put _ (some 35) _ = _
         simp only [Act.put,List.setIfInBounds_toArray,List.set_cons_zero,List.set_cons_succ,a0X,a0Y]
         rfl
        refine a1E (i:=6) (N:=some 36) (v:=?_) (a':=?_) #[true,true,true,true,true,true,true,false,false,false,false,false,false,false,false,false,false,false,false,false,false,false,false,false,false] rfl rfl (a0Z HT_.out (by kernel_rfl)) (fun _ _ _ h =>h) (Or.inl ⟨by rfl,?_⟩) ?_ ?_
        rotate_left
        ·intro w'
         go_simp
         with_reducible rfl
        rotate_left
        ·simp only [Act.put,List.setIfInBounds_toArray,List.set_cons_zero,List.set_cons_succ,a0X,a0Y]
         rfl
        refine a1E (i:=7) (N:=some 37) (v:=?_) (a':=?_) #[true,true,true,true,true,true,true,true,false,false,false,false,false,false,false,false,false,false,false,false,false,false,false,false,false] rfl rfl (a0Z HT_.out (by kernel_rfl)) (fun _ _ _ h =>h) (Or.inl ⟨by rfl,?_⟩) ?_ ?_
        rotate_left
        ·intro w'
         go_simp
         with_reducible rfl
        rotate_left
        ·simp only [Act.put,List.setIfInBounds_toArray,List.set_cons_zero,List.set_cons_succ,a0X,a0Y]
         rfl
        refine a1E (i:=8) (N:=some 38) (v:=?_) (a':=?_) #[true,true,true,true,true,true,true,true,true,false,false,false,false,false,false,false,false,false,false,false,false,false,false,false,false] rfl rfl (a0Z HT_.out (by kernel_rfl)) (fun _ _ _ h =>h) (Or.inl ⟨by rfl,?_⟩) ?_ ?_
        rotate_left
        ·intro w'
         go_simp
         with_reducible rfl
        rotate_left
        ·simp only [Act.put,List.setIfInBounds_toArray,List.set_cons_zero,List.set_cons_succ,a0X,a0Y]
         rfl
        refine a1E (i:=10) (N:=some 40) (v:=?_) (a':=?_) #[true,true,true,true,true,true,true,true,true,false,true,false,false,false,false,false,false,false,false,false,false,false,false,false,false] rfl rfl (a0Z HT_.out (by kernel_rfl)) (fun _ _ _ h =>h) (Or.inl ⟨by rfl,?_⟩) ?_ ?_
        rotate_left
        ·intro w'
         go_simp
         with_reducible rfl
        rotate_left
        ·simp only [Act.put,List.setIfInBounds_toArray,List.set_cons_zero,List.set_cons_succ,a0X,a0Y]
         rfl
        refine a1E (i:=13) (N:=some 43) (v:=?_) (a':=?_) #[true,true,true,true,true,true,true,true,true,false,true,false,false,true,false,false,false,false,false,false,false,false,false,false,false] rfl rfl (a0Z HT_.out (by kernel_rfl)) (fun _ _ _ h =>h) (Or.inl ⟨by rfl,?_⟩) ?_ ?_
        rotate_left
        ·intro w'
         go_simp
         with_reducible rfl
        rotate_left
        ·simp only [Act.put,List.setIfInBounds_toArray,List.set_cons_zero,List.set_cons_succ,a0X,a0Y]
         rfl
        refine a2M (i:=9) (N:=some 39) (v:=?_) (a':=?_) #[true,true,true,true,true,true,true,true,true,true,true,false,false,true,false,false,false,false,false,false,false,false,false,false,false] rfl rfl (a1O HT_.out HW_.out (by kernel_rfl)) (fun _ _ _ h =>h) (Or.inl ⟨by rfl,?_⟩) hHeld ?_ ?_
        rotate_left
        ·intro w' s0
         go_simp
         with_reducible rfl
        rotate_left
        ·simp only [Act.put,List.setIfInBounds_toArray,List.set_cons_zero,List.set_cons_succ,a0X,a0Y]
         rfl
        refine a2M (i:=12) (N:=some 42) (v:=?_) (a':=?_) #[true,true,true,true,true,true,true,true,true,true,true,false,true,true,false,false,false,false,false,false,false,false,false,false,false] rfl rfl (a1O HT_.out HW_.out (by kernel_rfl)) (fun _ _ _ h =>h) (Or.inl ⟨by rfl,?_⟩) hHeld ?_ ?_
        rotate_left
        ·intro w' s0
         go_simp
         with_reducible rfl
        rotate_left
        ·simp only [Act.put,List.setIfInBounds_toArray,List.set_cons_zero,List.set_cons_succ,a0X,a0Y]
         rfl
        refine one_ (i:=11) (N:=some 41) #[true,true,true,true,true,true,true,true,true,true,true,true,true,true,false,false,false,false,false,false,false,false,false,false,false] rfl rfl (a2O HT_.out (by kernel_rfl)) (by decide) (fun K hK =>?_)
        refine a3K Try.func15 (by kernel_rfl) rfl #[.agg #[.slice aI aC.length aH],.string a1] (by rfl) rfl rfl (by (try simp only [List.map_toArray,List.map_cons,List.map_nil]);first | done | rfl | (simp only [List.length_drop,List.length_take];rfl)) ?_
        with_reducible refine (resolve_Fun.calls k1 _ _ aC a1 t309 _ ?side1 ?side2 A36.out).mono ?_
        (case side1 =>repeat (first | exact (Kd.a0N aU.out HB.out) | (with_reducible refine Kd.a0R ?_ _) | (with_reducible refine Kd.a0Q ?_ _) | (with_reducible refine Kd.a1B ?_)))
        (case side2 =>exact bD.out)
        rintro e w47 ⟨rfl,hb⟩
        refine ⟨_,rfl,?_⟩
        have aJ:=a0A.mk (a0U (g:=aE) (o:=.cells #[.slice aI aC.length aH] 24 (0,0)) (by (with_reducible repeat (first | refine a0L ?_ _ | refine a0M ?_ | refine a0K ?_ _));exact aA.out) hb)
        have aK:=a0A.mk (a0H (by repeat (first | (with_reducible first | exact HB.out | apply a0D | apply a0B | apply a0E | refine a0I ?_ aG.out) | exact HB.out)) hb)
        clear aA
        clear HB
        have aA:=aJ
        have HB:=aK
        clear aJ aK
        (try clear hb)
        (try clear hb2)
        (try clear hk)
        (try clear hi)
        refine hK.out _ _ ((a0G aA.out 0).trans rfl) (fun hHeld =>?_)
        clear hK K
        refine a3J (a':=?_) ?_ ?_
        rotate_left
        ·show Act.put _ (some 41) _ = _
         simp only [Act.put,List.setIfInBounds_toArray,List.set_cons_zero,List.set_cons_succ,a0X,a0Y]
         rfl
        refine one_ (i:=14) (N:=some 44) #[true,true,true,true,true,true,true,true,true,true,true,true,true,true,true,false,false,false,false,false,false,false,false,false,false] rfl rfl (a2O HT_.out (by kernel_rfl)) (by decide) (fun K hK =>?_)
        refine a3K Try.func16 (by kernel_rfl) rfl #[.agg #[.slice aI aC.length aH],.string a1] (by rfl) rfl rfl (by (try simp only [List.map_toArray,List.map_cons,List.map_nil]);first | done | rfl | (simp only [List.length_drop,List.length_take];rfl)) ?_
        with_reducible refine (r05_Fun.calls k1 _ _ aC a1 t310 _ ?side1 ?side2 A37.out).mono ?_
        (case side1 =>repeat (first | exact (Kd.a0N aU.out HB.out) | (with_reducible refine Kd.a0R ?_ _) | (with_reducible refine Kd.a0Q ?_ _) | (with_reducible refine Kd.a1B ?_)))
        (case side2 =>exact bD.out)
        rintro e w48 ⟨rfl,hb⟩
        refine ⟨_,rfl,?_⟩
        have aJ:=a0A.mk (a0U (g:=aE) (o:=.cells #[.slice aI aC.length aH] 24 (0,0)) (by (with_reducible repeat (first | refine a0L ?_ _ | refine a0M ?_ | refine a0K ?_ _));exact aA.out) hb)
        have aK:=a0A.mk (a0H (by repeat (first | (with_reducible first | exact HB.out | apply a0D | apply a0B | apply a0E | refine a0I ?_ aG.out) | exact HB.out)) hb)
        clear aA
        clear HB
        have aA:=aJ
        have HB:=aK
        clear aJ aK
        (try clear hb)
        (try clear hb2)
        (try clear hk)
        (try clear hi)
        refine hK.out _ _ ((a0G aA.out 0).trans rfl) (fun hHeld =>?_)
        clear hK K
        refine a3J (a':=?_) ?_ ?_
        rotate_left
        ·show Act.put _ (some 44) _ = _
         simp only [Act.put,List.setIfInBounds_toArray,List.set_cons_zero,List.set_cons_succ,a0X,a0Y]
         rfl
        refine a1E (i:=15) (N:=some 45) (v:=?_) (a':=?_) #[true,true,true,true,true,true,true,true,true,true,true,true,true,true,true,true,false,false,false,false,false,false,false,false,false] rfl rfl (a0Z HT_.out (by kernel_rfl)) (fun _ _ _ h =>h) (Or.inl ⟨by rfl,?_⟩) ?_ ?_
        rotate_left
        ·intro w'
         go_simp
         with_reducible rfl
        rotate_left
        ·simp only [Act.put,List.setIfInBounds_toArray,List.set_cons_zero,List.set_cons_succ,a0X,a0Y]
         rfl
        refine a1E (i:=16) (N:=some 46) (v:=?_) (a':=?_) #[true,true,true,true,true,true,true,true,true,true,true,true,true,true,true,true,true,false,false,false,false,false,false,false,false] rfl rfl (a0Z HT_.out (by kernel_rfl)) (fun _ _ _ h =>h) (Or.inl ⟨by rfl,?_⟩) ?_ ?_
        rotate_left
        ·intro w'
         go_simp
         with_reducible rfl
        rotate_left
        ·simp only [Act.put,List.setIfInBounds_toArray,List.set_cons_zero,List.set_cons_succ,a0X,a0Y]
         rfl
        refine a1E (i:=17) (N:=some 47) (v:=?_) (a':=?_) #[true,true,true,true,true,true,true,true,true,true,true,true,true,true,true,true,true,true,false,false,false,false,false,false,false] rfl rfl (a0Z HT_.out (by kernel_rfl)) (fun _ _ _ h =>h) (Or.inl ⟨by rfl,?_⟩) ?_ ?_
        rotate_left
        ·intro w'
         go_simp
         with_reducible rfl
        rotate_left
        ·simp only [Act.put,List.setIfInBounds_toArray,List.set_cons_zero,List.set_cons_succ,a0X,a0Y]
         rfl
        refine a2M (i:=18) (N:=some 48) (v:=?_) (a':=?_) #[true,true,true,true,true,true,true,true,true,true,true,true,true,true,true,true,true,true,true,false,false,false,false,false,false] rfl rfl (a1O HT_.out HW_.out (by kernel_rfl)) (fun _ _ _ h =>h) (Or.inl ⟨by rfl,?_⟩) hHeld ?_ ?_
        rotate_left
        ·intro w' s0
         go_simp
         with_reducible rfl
        rotate_left
        ·simp only [Act.put,List.setIfInBounds_toArray,List.set_cons_zero,List.set_cons_succ,a0X,a0Y]
         rfl
        refine a2M (i:=20) (N:=some 50) (v:=?_) (a':=?_) #[true,true,true,true,true,true,true,true,true,true,true,true,true,true,true,true,true,true,true,false,true,false,false,false,false] rfl rfl (a1O HT_.out HW_.out (by kernel_rfl)) (fun _ _ _ h =>h) (Or.inl ⟨by rfl,?_⟩) hHeld ?_ ?_
        rotate_left
        ·intro w' s0
         go_simp
         with_reducible rfl
        rotate_left
        ·simp only [Act.put,List.setIfInBounds_toArray,List.set_cons_zero,List.set_cons_succ,a0X,a0Y]
         rfl
        refine one_ (i:=19) (N:=some 49) #[true,true,true,true,true,true,true,true,true,true,true,true,true,true,true,true,true,true,true,true,true,false,false,false,false] rfl rfl (a2O HT_.out (by kernel_rfl)) (by decide) (fun K hK =>?_)
        refine a3K Try.func17 (by kernel_rfl) rfl #[.agg #[.slice aI aC.length aH]] (by rfl) rfl rfl (by (try simp only [List.map_toArray,List.map_cons,List.map_nil]);first | done | rfl | (simp only [List.length_drop,List.length_take];rfl)) ?_
        with_reducible refine (resolve_Props.calls k1 _ _ aC t311 _ ?side1 ?side2 A39.out).mono ?_
        (case side1 =>repeat (first | exact (Kd.a0N aU.out HB.out) | (with_reducible refine Kd.a0R ?_ _) | (with_reducible refine Kd.a0Q ?_ _) | (with_reducible refine Kd.a1B ?_)))
        (case side2 =>exact bD.out)
        rintro e w49 ⟨v312,rfl,ho0,hb⟩
        refine ⟨_,rfl,?_⟩
        have aJ:=a0A.mk (Kd.a2Y ho0 (a0V (by repeat (first | (with_reducible first | exact HB.out | apply a0D | apply a0B | apply a0E | refine a0I ?_ aG.out) | exact HB.out))))
        have aK:=a0A.mk (a0U (g:=aE) (o:=.cells #[.slice aI aC.length aH] 24 (0,0)) (by (with_reducible repeat (first | refine a0L ?_ _ | refine a0M ?_ | refine a0K ?_ _));exact aA.out) hb)
        have bV:=a0A.mk (a0H (by repeat (first | (with_reducible first | exact HB.out | apply a0D | apply a0B | apply a0E | refine a0I ?_ aG.out) | exact HB.out)) hb)
        clear aA
        clear HB
        have HO313:=aJ
        have aA:=aK
        have HB:=bV
        clear aJ aK bV
        (try clear hb)
        (try clear hb2)
        (try clear hk)
        (try clear hi)
        (try clear ho0)
        refine hK.out _ _ ((a0G aA.out 0).trans rfl) (fun hHeld =>?_)
        clear hK K
        refine a3J (a':=?_) ?_ ?_
        rotate_left
        ·show Act.put _ (some 49) _ = _
         simp only [Act.put,List.setIfInBounds_toArray,List.set_cons_zero,List.set_cons_succ,a0X,a0Y]
         rfl
        refine one_ (i:=21) (N:=some 51) #[true,true,true,true,true,true,true,true,true,true,true,true,true,true,true,true,true,true,true,true,true,true,false,false,false] rfl rfl (a2O HT_.out (by kernel_rfl)) (by decide) (fun K hK =>?_)
        refine a3K Try.func18 (by kernel_rfl) rfl #[.agg #[.slice aI aC.length aH]] (by rfl) rfl rfl (by (try simp only [List.map_toArray,List.map_cons,List.map_nil]);first | done | rfl | (simp only [List.length_drop,List.length_take];rfl)) ?_
        with_reducible refine (r05_Props.calls k1 _ _ aC t314 _ ?side1 ?side2 A40.out).mono ?_
        (case side1 =>repeat (first | exact (Kd.a0N aU.out HB.out) | (with_reducible refine Kd.a0R ?_ _) | (with_reducible refine Kd.a0Q ?_ _) | (with_reducible refine Kd.a1B ?_)))
        (case side2 =>exact bD.out)
        rintro e w50 ⟨v315,rfl,ho0,hb⟩
        refine ⟨_,rfl,?_⟩
        have aJ:=a0A.mk (Kd.a4K (by (with_reducible repeat (first | apply Kd.a1N | apply Kd.a1M | apply Kd.a1S));exact HO313.out) (Kd.a1X ho0) hb)
        have aK:=a0A.mk (Kd.a2Y (Kd.a6U ho0 (Kd.R_lt (by (with_reducible repeat (first | apply Kd.a1N | apply Kd.a1M | apply Kd.a1S));exact HO313.out))) (a0V (by repeat (first | (with_reducible first | exact HB.out | apply a0D | apply a0B | apply a0E | refine a0I ?_ aG.out) | exact HB.out))))
        have bV:=a0A.mk (a0U (g:=aE) (o:=.cells #[.slice aI aC.length aH] 24 (0,0)) (by (with_reducible repeat (first | refine a0L ?_ _ | refine a0M ?_ | refine a0K ?_ _));exact aA.out) hb)
        have cA:=a0A.mk (a0H (by repeat (first | (with_reducible first | exact HB.out | apply a0D | apply a0B | apply a0E | refine a0I ?_ aG.out) | exact HB.out)) hb)
        clear HO313
        clear aA
        clear HB
        have HO313:=aJ
        have HO316:=aK
        have aA:=bV
        have HB:=cA
        clear aJ aK bV cA
        (try clear hb)
        (try clear hb2)
        (try clear hk)
        (try clear hi)
        (try clear ho0)
        obtain ⟨Ao51,co51,eo51⟩:=Kd.a3O HO313.out
        (first | subst eo51 | (injection eo51 with f1_ f2_ f3_;have f4_:=f1_.symm;have f5_:=f3_.symm;clear f1_ f2_ f3_;subst f4_;subst f5_))
        obtain ⟨Ao52,co52,eo52⟩:=Kd.a3O HO316.out
        (first | subst eo52 | (injection eo52 with f1_ f2_ f3_;have f4_:=f1_.symm;have f5_:=f3_.symm;clear f1_ f2_ f3_;subst f4_;subst f5_))
        refine hK.out _ _ ((a0G aA.out 0).trans rfl) (fun hHeld =>?_)
        clear hK K
        refine a3J (a':=?_) ?_ ?_
        rotate_left
        ·show Act.put _ (some 51) _ = _
         simp only [Act.put,List.setIfInBounds_toArray,List.set_cons_zero,List.set_cons_succ,a0X,a0Y]
         rfl
        refine one_ (i:=22) (N:=some 52) #[true,true,true,true,true,true,true,true,true,true,true,true,true,true,true,true,true,true,true,true,true,true,true,false,false] rfl rfl (a2O HT_.out (by kernel_rfl)) (by decide) (fun K hK =>?_)
        refine a3K Try.func10 (by kernel_rfl) rfl #[.slice Ao51 t311.length co51,.slice Ao52 t314.length co52] (by rfl) rfl rfl (by (try simp only [List.map_toArray,List.map_cons,List.map_nil]);first | done | rfl | (simp only [List.length_drop,List.length_take];rfl)) ?_
        with_reducible refine (r02_Texts.calls k1 _ _ t311 _ _ t314 t317 _ ?side1 ?side2 ?side3 ?side4 A41.out).mono ?_
        (case side1 =>repeat (first | exact (Kd.a1Y HO313.out).2.2 | (with_reducible refine Kd.a0R ?_ _) | (with_reducible refine Kd.a0Q ?_ _) | (with_reducible refine Kd.a1B ?_)))
        (case side2 =>exact (Kd.a1Y HO313.out).2.1)
        (case side3 =>repeat (first | exact (Kd.a1Y HO316.out).2.2 | (with_reducible refine Kd.a0R ?_ _) | (with_reducible refine Kd.a0Q ?_ _) | (with_reducible refine Kd.a1B ?_)))
        (case side4 =>exact (Kd.a1Y HO316.out).2.1)
        rintro e w' ⟨rfl,⟨nd,rfl⟩⟩
        refine ⟨_,rfl,?_⟩
        refine hK.out _ _ ((a0G aA.out 0).trans rfl) (fun hHeld =>?_)
        clear hK K
        refine a3J (a':=?_) ?_ ?_
        rotate_left
        ·show Act.put _ (some 52) _ = _
         simp only [Act.put,List.setIfInBounds_toArray,List.set_cons_zero,List.set_cons_succ,a0X,a0Y]
         rfl
        refine a1E (i:=23) (N:=some 53) (v:=?_) (a':=?_) #[true,true,true,true,true,true,true,true,true,true,true,true,true,true,true,true,true,true,true,true,true,true,true,true,false] rfl rfl (a0Z HT_.out (by kernel_rfl)) (fun _ _ _ h =>h) (Or.inl ⟨by rfl,?_⟩) ?_ ?_
        rotate_left
        ·intro w'
         go_simp
         with_reducible rfl
        rotate_left
        ·simp only [Act.put,List.setIfInBounds_toArray,List.set_cons_zero,List.set_cons_succ,a0X,a0Y]
         rfl
        refine a1E (i:=24) (N:=some 4) (v:=?_) (a':=?_) #[true,true,true,true,true,true,true,true,true,true,true,true,true,true,true,true,true,true,true,true,true,true,true,true,true] rfl rfl (a0Z HT_.out (by kernel_rfl)) (fun _ _ _ h =>h) (Or.inl ⟨by rfl,?_⟩) ?_ ?_
        rotate_left
        ·intro w'
         go_simp
         with_reducible rfl
        rotate_left
        ·simp only [Act.put,List.setIfInBounds_toArray,List.set_cons_zero,List.set_cons_succ,a0X,a0Y]
         rfl
        refine a6F (a3S HT_.out (by kernel_rfl)) ?_
        try go_wp2
        go_ret
        exact ⟨by first | rfl | (simp [a0T,a0S] <;> rfl) | (simp [*,a0T,a0S] <;> rfl),by repeat (first | (with_reducible first | exact HB.out | apply a0D | apply a0B | apply a0E | refine a0I ?_ aG.out) | exact HB.out)⟩
       ·rw [if_neg c38] at H
        have c38b0:(t309 == t310) = false:=beq_eq_false_iff_ne.mpr c38
        have c38b1:(t309 != t310) = true:=bne_iff_ne.mpr c38
        obtain rfl:=Option.some.inj H
        have cT:wr.cell? ⟨aE,0,none⟩ = some (.slice aI aC.length aH):=(a0G aA.out 0).trans rfl
        have cU:=a0F aA.out 0
        try go_wp2
        have aJ:=a0A.mk (a0M aA.out)
        have aK:=a0A.mk (a0E HB.out)
        clear aA
        clear HB
        have aA:=aJ
        have HB:=aK
        clear aJ aK
        refine a4L (n:=25) (S:=fun w' =>w'.cell? ⟨aE,0,none⟩ = some (.slice aI aC.length aH)) (ds:=[]) #[false,false,false,false,false,false,false,false,false,false,false,false,false,false,false,false,false,false,false,false,false,false,false,false,false] (by kernel_rfl) rfl rfl ((a0G aA.out 0).trans rfl) (fun hHeld =>?_);refine a2R w05_ResolveTells.tab8 w05_ResolveTells.bits8 (fun HT_ HW_ =>?_)
        generalize wr.drew = w54 at aA HB hHeld ⊢
        refine one_ (i:=0) (N:=some 30) #[true,false,false,false,false,false,false,false,false,false,false,false,false,false,false,false,false,false,false,false,false,false,false,false,false] rfl rfl (a2O HT_.out (by kernel_rfl)) (by decide) (fun K hK =>?_)
        refine a3K Try.func9 (by kernel_rfl) rfl #[] (by rfl) rfl rfl (by (try simp only [List.map_toArray,List.map_cons,List.map_nil]);first | done | rfl | (simp only [List.length_drop,List.length_take];rfl)) ?_
        with_reducible refine (w05_fixed.calls  true _ A31.out).mono ?_
        rintro e w55 ⟨rfl,hb⟩
        refine ⟨_,rfl,?_⟩
        have aJ:=a0A.mk (a0U (g:=aE) (o:=.cells #[.slice aI aC.length aH] 24 (0,0)) (by (with_reducible repeat (first | refine a0L ?_ _ | refine a0M ?_ | refine a0K ?_ _));exact aA.out) hb)
        have aK:=a0A.mk (a0H (by repeat (first | (with_reducible first | exact HB.out | apply a0D | apply a0B | apply a0E | refine a0I ?_ aG.out) | exact HB.out)) hb)
        clear aA
        clear HB
        have aA:=aJ
        have HB:=aK
        clear aJ aK
        (try clear hb)
        (try clear hb2)
        (try clear hk)
        (try clear hi)
        refine hK.out _ _ ((a0G aA.out 0).trans rfl) (fun hHeld =>?_)
        clear hK K
        refine a3J (a':=?_) ?_ ?_
        rotate_left
        ·show Act.put _ (some 30) _ = _
         simp only [Act.put,List.setIfInBounds_toArray,List.set_cons_zero,List.set_cons_succ,a0X,a0Y]
         rfl
        refine a1E (i:=1) (N:=some 31) (v:=?_) (a':=?_) #[true,true,false,false,false,false,false,false,false,false,false,false,false,false,false,false,false,false,false,false,false,false,false,false,false] rfl rfl (a0Z HT_.out (by kernel_rfl)) (fun _ _ _ h =>h) (Or.inl ⟨by rfl,?_⟩) ?_ ?_
        rotate_left
        ·intro w'
         go_simp
         with_reducible rfl
        rotate_left
        ·simp only [Act.put,List.setIfInBounds_toArray,List.set_cons_zero,List.set_cons_succ,a0X,a0Y]
         rfl
        refine a2M (i:=2) (N:=some 32) (v:=?_) (a':=?_) #[true,true,true,false,false,false,false,false,false,false,false,false,false,false,false,false,false,false,false,false,false,false,false,false,false] rfl rfl (a1O HT_.out HW_.out (by kernel_rfl)) (fun _ _ _ h =>h) (Or.inl ⟨by rfl,?_⟩) hHeld ?_ ?_
        rotate_left
        ·intro w' s0
         go_simp
         with_reducible rfl
        rotate_left
        ·simp only [Act.put,List.setIfInBounds_toArray,List.set_cons_zero,List.set_cons_succ,a0X,a0Y]
         rfl
        refine a2M (i:=4) (N:=some 34) (v:=?_) (a':=?_) #[true,true,true,false,true,false,false,false,false,false,false,false,false,false,false,false,false,false,false,false,false,false,false,false,false] rfl rfl (a1O HT_.out HW_.out (by kernel_rfl)) (fun _ _ _ h =>h) (Or.inl ⟨by rfl,?_⟩) hHeld ?_ ?_
        rotate_left
        ·intro w' s0
         go_simp
         with_reducible rfl
        rotate_left
        ·simp only [Act.put,List.setIfInBounds_toArray,List.set_cons_zero,List.set_cons_succ,a0X,a0Y]
         rfl
        refine one_ (i:=3) (N:=some 33) #[true,true,true,true,true,false,false,false,false,false,false,false,false,false,false,false,false,false,false,false,false,false,false,false,false] rfl rfl (a2O HT_.out (by kernel_rfl)) (by decide) (fun K hK =>?_)
        refine a3K Try.func13 (by kernel_rfl) rfl #[.agg #[.slice aI aC.length aH]] (by rfl) rfl rfl (by (try simp only [List.map_toArray,List.map_cons,List.map_nil]);first | done | rfl | (simp only [List.length_drop,List.length_take];rfl)) ?_
        with_reducible refine (resolve_Check.calls k1 _ _ aC t305 t306 _ ?side1 ?side2 A33.out).mono ?_
        (case side1 =>repeat (first | exact (Kd.a0N aU.out HB.out) | (with_reducible refine Kd.a0R ?_ _) | (with_reducible refine Kd.a0Q ?_ _) | (with_reducible refine Kd.a1B ?_)))
        (case side2 =>exact bD.out)
        rintro e w56 ⟨rfl,hb⟩
        refine ⟨_,rfl,?_⟩
        have aJ:=a0A.mk (a0U (g:=aE) (o:=.cells #[.slice aI aC.length aH] 24 (0,0)) (by (with_reducible repeat (first | refine a0L ?_ _ | refine a0M ?_ | refine a0K ?_ _));exact aA.out) hb)
        have aK:=a0A.mk (a0H (by repeat (first | (with_reducible first | exact HB.out | apply a0D | apply a0B | apply a0E | refine a0I ?_ aG.out) | exact HB.out)) hb)
        clear aA
        clear HB
        have aA:=aJ
        have HB:=aK
        clear aJ aK
        (try clear hb)
        (try clear hb2)
        (try clear hk)
        (try clear hi)
        refine hK.out _ _ ((a0G aA.out 0).trans rfl) (fun hHeld =>?_)
        clear hK K
        refine a3J (a':=?_) ?_ ?_
        rotate_left
        ·show Act.put _ (some 33) _ = _
         simp only [Act.put,List.setIfInBounds_toArray,List.set_cons_zero,List.set_cons_succ,a0X,a0Y]
         rfl
        refine one_ (i:=5) (N:=some 35) #[true,true,true,true,true,true,false,false,false,false,false,false,false,false,false,false,false,false,false,false,false,false,false,false,false] rfl rfl (a2O HT_.out (by kernel_rfl)) (by decide) (fun K hK =>?_)
        refine a3K Try.func14 (by kernel_rfl) rfl #[.agg #[.slice aI aC.length aH]] (by rfl) rfl rfl (by (try simp only [List.map_toArray,List.map_cons,List.map_nil]);first | done | rfl | (simp only [List.length_drop,List.length_take];rfl)) ?_
        with_reducible refine (r05_Check.calls k1 _ _ aC t307 t308 _ ?side1 ?side2 A34.out).mono ?_
        (case side1 =>repeat (first | exact (Kd.a0N aU.out HB.out) | (with_reducible refine Kd.a0R ?_ _) | (with_reducible refine Kd.a0Q ?_ _) | (with_reducible refine Kd.a1B ?_)))
        (case side2 =>exact bD.out)
        rintro e w57 ⟨rfl,hb⟩
        refine ⟨_,rfl,?_⟩
        have aJ:=a0A.mk (a0U (g:=aE) (o:=.cells #[.slice aI aC.length aH] 24 (0,0)) (by (with_reducible repeat (first | refine a0L ?_ _ | refine a0M ?_ | refine a0K ?_ _));exact aA.out) hb)
        have aK:=a0A.mk (a0H (by repeat (first | (with_reducible first | exact HB.out | apply a0D | apply a0B | apply a0E | refine a0I ?_ aG.out) | exact HB.out)) hb)
        clear aA
        clear HB
        have aA:=aJ
        have HB:=aK
        clear aJ aK
        (try clear hb)
        (try clear hb2)
        (try clear hk)
        (try clear hi)
        refine hK.out _ _ ((a0G aA.out 0).trans rfl) (fun hHeld =>?_)
        clear hK K
        refine a3J (a':=?_) ?_ ?_
        rotate_left
        ·show Act.put _ (some 35) _ = _
         simp only [Act.put,List.setIfInBounds_toArray,List.set_cons_zero,List.set_cons_succ,a0X,a0Y]
         rfl
        refine a1E (i:=6) (N:=some 36) (v:=?_) (a':=?_) #[true,true,true,true,true,true,true,false,false,false,false,false,false,false,false,false,false,false,false,false,false,false,false,false,false] rfl rfl (a0Z HT_.out (by kernel_rfl)) (fun _ _ _ h =>h) (Or.inl ⟨by rfl,?_⟩) ?_ ?_
        rotate_left
        ·intro w'
         go_simp
         with_reducible rfl
        rotate_left
        ·simp only [Act.put,List.setIfInBounds_toArray,List.set_cons_zero,List.set_cons_succ,a0X,a0Y]
         rfl
        refine a1E (i:=7) (N:=some 37) (v:=?_) (a':=?_) #[true,true,true,true,true,true,true,true,false,false,false,false,false,false,false,false,false,false,false,false,false,false,false,false,false] rfl rfl (a0Z HT_.out (by kernel_rfl)) (fun _ _ _ h =>h) (Or.inl ⟨by rfl,?_⟩) ?_ ?_
        rotate_left
        ·intro w'
         go_simp
         with_reducible rfl
        rotate_left
        ·simp only [Act.put,List.setIfInBounds_toArray,List.set_cons_zero,List.set_cons_succ,a0X,a0Y]
         rfl
        refine a1E (i:=8) (N:=some 38) (v:=?_) (a':=?_) #[true,true,true,true,true,true,true,true,true,false,false,false,false,false,false,false,false,false,false,false,false,false,false,false,false] rfl rfl (a0Z HT_.out (by kernel_rfl)) (fun _ _ _ h =>h) (Or.inl ⟨by rfl,?_⟩) ?_ ?_
        rotate_left
        ·intro w'
         go_simp
         with_reducible rfl
        rotate_left
        ·simp only [Act.put,List.setIfInBounds_toArray,List.set_cons_zero,List.set_cons_succ,a0X,a0Y]
         rfl
        refine a1E (i:=10) (N:=some 40) (v:=?_) (a':=?_) #[true,true,true,true,true,true,true,true,true,false,true,false,false,false,false,false,false,false,false,false,false,false,false,false,false] rfl rfl (a0Z HT_.out (by kernel_rfl)) (fun _ _ _ h =>h) (Or.inl ⟨by rfl,?_⟩) ?_ ?_
        rotate_left
        ·intro w'
         go_simp
         with_reducible rfl
        rotate_left
        ·simp only [Act.put,List.setIfInBounds_toArray,List.set_cons_zero,List.set_cons_succ,a0X,a0Y]
         rfl
        refine a1E (i:=13) (N:=some 43) (v:=?_) (a':=?_) #[true,true,true,true,true,true,true,true,true,false,true,false,false,true,false,false,false,false,false,false,false,false,false,false,false] rfl rfl (a0Z HT_.out (by kernel_rfl)) (fun _ _ _ h =>h) (Or.inl ⟨by rfl,?_⟩) ?_ ?_
        rotate_left
        ·intro w'
         go_simp
         with_reducible rfl
        rotate_left
        ·simp only [Act.put,List.setIfInBounds_toArray,List.set_cons_zero,List.set_cons_succ,a0X,a0Y]
         rfl
        refine a2M (i:=9) (N:=some 39) (v:=?_) (a':=?_) #[true,true,true,true,true,true,true,true,true,true,true,false,false,true,false,false,false,false,false,false,false,false,false,false,false] rfl rfl (a1O HT_.out HW_.out (by kernel_rfl)) (fun _ _ _ h =>h) (Or.inl ⟨by rfl,?_⟩) hHeld ?_ ?_
        rotate_left
        ·intro w' s0
         go_simp
         with_reducible rfl
        rotate_left
        ·simp only [Act.put,List.setIfInBounds_toArray,List.set_cons_zero,List.set_cons_succ,a0X,a0Y]
         rfl
        refine a2M (i:=12) (N:=some 42) (v:=?_) (a':=?_) #[true,true,true,true,true,true,true,true,true,true,true,false,true,true,false,false,false,false,false,false,false,false,false,false,false] rfl rfl (a1O HT_.out HW_.out (by kernel_rfl)) (fun _ _ _ h =>h) (Or.inl ⟨by rfl,?_⟩) hHeld ?_ ?_
        rotate_left
        ·intro w' s0
         go_simp
         with_reducible rfl
        rotate_left
        ·simp only [Act.put,List.setIfInBounds_toArray,List.set_cons_zero,List.set_cons_succ,a0X,a0Y]
         rfl
        refine one_ (i:=11) (N:=some 41) #[true,true,true,true,true,true,true,true,true,true,true,true,true,true,false,false,false,false,false,false,false,false,false,false,false] rfl rfl (a2O HT_.out (by kernel_rfl)) (by decide) (fun K hK =>?_)
        refine a3K Try.func15 (by kernel_rfl) rfl #[.agg #[.slice aI aC.length aH],.string a1] (by rfl) rfl rfl (by (try simp only [List.map_toArray,List.map_cons,List.map_nil]);first | done | rfl | (simp only [List.length_drop,List.length_take];rfl)) ?_
        with_reducible refine (resolve_Fun.calls k1 _ _ aC a1 t309 _ ?side1 ?side2 A36.out).mono ?_
        (case side1 =>repeat (first | exact (Kd.a0N aU.out HB.out) | (with_reducible refine Kd.a0R ?_ _) | (with_reducible refine Kd.a0Q ?_ _) | (with_reducible refine Kd.a1B ?_)))
        (case side2 =>exact bD.out)
        rintro e w58 ⟨rfl,hb⟩
        refine ⟨_,rfl,?_⟩
        have aJ:=a0A.mk (a0U (g:=aE) (o:=.cells #[.slice aI aC.length aH] 24 (0,0)) (by (with_reducible repeat (first | refine a0L ?_ _ | refine a0M ?_ | refine a0K ?_ _));exact aA.out) hb)
        have aK:=a0A.mk (a0H (by repeat (first | (with_reducible first | exact HB.out | apply a0D | apply a0B | apply a0E | refine a0I ?_ aG.out) | exact HB.out)) hb)
        clear aA
        clear HB
        have aA:=aJ
        have HB:=aK
        clear aJ aK
        (try clear hb)
        (try clear hb2)
        (try clear hk)
        (try clear hi)
        refine hK.out _ _ ((a0G aA.out 0).trans rfl) (fun hHeld =>?_)
        clear hK K
        refine a3J (a':=?_) ?_ ?_
        rotate_left
        ·show Act.put _ (some 41) _ = _
         simp only [Act.put,List.setIfInBounds_toArray,List.set_cons_zero,List.set_cons_succ,a0X,a0Y]
         rfl
        refine one_ (i:=14) (N:=some 44) #[true,true,true,true,true,true,true,true,true,true,true,true,true,true,true,false,false,false,false,false,false,false,false,false,false] rfl rfl (a2O HT_.out (by kernel_rfl)) (by decide) (fun K hK =>?_)
        refine a3K Try.func16 (by kernel_rfl) rfl #[.agg #[.slice aI aC.length aH],.string a1] (by rfl) rfl rfl (by (try simp only [List.map_toArray,List.map_cons,List.map_nil]);first | done | rfl | (simp only [List.length_drop,List.length_take];rfl)) ?_
        with_reducible refine (r05_Fun.calls k1 _ _ aC a1 t310 _ ?side1 ?side2 A37.out).mono ?_
        (case side1 =>repeat (first | exact (Kd.a0N aU.out HB.out) | (with_reducible refine Kd.a0R ?_ _) | (with_reducible refine Kd.a0Q ?_ _) | (with_reducible refine Kd.a1B ?_)))
        (case side2 =>exact bD.out)
        rintro e w59 ⟨rfl,hb⟩
        refine ⟨_,rfl,?_⟩
        have aJ:=a0A.mk (a0U (g:=aE) (o:=.cells #[.slice aI aC.length aH] 24 (0,0)) (by (with_reducible repeat (first | refine a0L ?_ _ | refine a0M ?_ | refine a0K ?_ _));exact aA.out) hb)
        have aK:=a0A.mk (a0H (by repeat (first | (with_reducible first | exact HB.out | apply a0D | apply a0B | apply a0E | refine a0I ?_ aG.out) | exact HB.out)) hb)
        clear aA
        clear HB
        have aA:=aJ
        have HB:=aK
        clear aJ aK
        (try clear hb)
        (try clear hb2)
        (try clear hk)
        (try clear hi)
        refine hK.out _ _ ((a0G aA.out 0).trans rfl) (fun hHeld =>?_)
        clear hK K
        refine a3J (a':=?_) ?_ ?_
        rotate_left
        ·show Act.put _ (some 44) _ = _
         simp only [Act.put,List.setIfInBounds_toArray,List.set_cons_zero,List.set_cons_succ,a0X,a0Y]
         rfl
        refine a1E (i:=15) (N:=some 45) (v:=?_) (a':=?_) #[true,true,true,true,true,true,true,true,true,true,true,true,true,true,true,true,false,false,false,false,false,false,false,false,false] rfl rfl (a0Z HT_.out (by kernel_rfl)) (fun _ _ _ h =>h) (Or.inl ⟨by rfl,?_⟩) ?_ ?_
        rotate_left
        ·intro w'
         go_simp
         with_reducible rfl
        rotate_left
        ·simp only [Act.put,List.setIfInBounds_toArray,List.set_cons_zero,List.set_cons_succ,a0X,a0Y]
         rfl
        refine a1E (i:=16) (N:=some 46) (v:=?_) (a':=?_) #[true,true,true,true,true,true,true,true,true,true,true,true,true,true,true,true,true,false,false,false,false,false,false,false,false] rfl rfl (a0Z HT_.out (by kernel_rfl)) (fun _ _ _ h =>h) (Or.inl ⟨by rfl,?_⟩) ?_ ?_
        rotate_left
        ·intro w'
         go_simp
         with_reducible rfl
        rotate_left
        ·simp only [Act.put,List.setIfInBounds_toArray,List.set_cons_zero,List.set_cons_succ,a0X,a0Y]
         rfl
        refine a1E (i:=17) (N:=some 47) (v:=?_) (a':=?_) #[true,true,true,true,true,true,true,true,true,true,true,true,true,true,true,true,true,true,false,false,false,false,false,false,false] rfl rfl (a0Z HT_.out (by kernel_rfl)) (fun _ _ _ h =>h) (Or.inl ⟨by rfl,?_⟩) ?_ ?_
        rotate_left
        ·intro w'
         go_simp
         with_reducible rfl
        rotate_left
        ·simp only [Act.put,List.setIfInBounds_toArray,List.set_cons_zero,List.set_cons_succ,a0X,a0Y]
         rfl
        refine a1E (i:=18) (N:=some 48) (v:=undef) (a':=?_) #[true,true,true,true,true,true,true,true,true,true,true,true,true,true,true,true,true,true,true,false,false,false,false,false,false] rfl rfl (a0Z HT_.out (by kernel_rfl)) (fun _ _ _ h =>h) (Or.inr ⟨by rfl,rfl⟩) ?_ ?_
        rotate_left
        ·simp only [Act.put,List.setIfInBounds_toArray,List.set_cons_zero,List.set_cons_succ,a0X,a0Y]
         rfl
        refine a1E (i:=19) (N:=some 49) (v:=undef) (a':=?_) #[true,true,true,true,true,true,true,true,true,true,true,true,true,true,true,true,true,true,true,true,false,false,false,false,false] rfl rfl (a0Z HT_.out (by kernel_rfl)) (fun _ _ _ h =>h) (Or.inr ⟨by rfl,rfl⟩) ?_ ?_
        rotate_left
        ·simp only [Act.put,List.setIfInBounds_toArray,List.set_cons_zero,List.set_cons_succ,a0X,a0Y]
         rfl
        refine a1E (i:=20) (N:=some 50) (v:=undef) (a':=?_) #[true,true,true,true,true,true,true,true,true,true,true,true,true,true,true,true,true,true,true,true,true,false,false,false,false] rfl rfl (a0Z HT_.out (by kernel_rfl)) (fun _ _ _ h =>h) (Or.inr ⟨by rfl,rfl⟩) ?_ ?_
        rotate_left
        ·simp only [Act.put,List.setIfInBounds_toArray,List.set_cons_zero,List.set_cons_succ,a0X,a0Y]
         rfl
        refine a1E (i:=21) (N:=some 51) (v:=undef) (a':=?_) #[true,true,true,true,true,true,true,true,true,true,true,true,true,true,true,true,true,true,true,true,true,true,false,false,false] rfl rfl (a0Z HT_.out (by kernel_rfl)) (fun _ _ _ h =>h) (Or.inr ⟨by rfl,rfl⟩) ?_ ?_
        rotate_left
        ·simp only [Act.put,List.setIfInBounds_toArray,List.set_cons_zero,List.set_cons_succ,a0X,a0Y]
         rfl
        refine a1E (i:=22) (N:=some 52) (v:=undef) (a':=?_) #[true,true,true,true,true,true,true,true,true,true,true,true,true,true,true,true,true,true,true,true,true,true,true,false,false] rfl rfl (a0Z HT_.out (by kernel_rfl)) (fun _ _ _ h =>h) (Or.inr ⟨by rfl,rfl⟩) ?_ ?_
        rotate_left
        ·simp only [Act.put,List.setIfInBounds_toArray,List.set_cons_zero,List.set_cons_succ,a0X,a0Y]
         rfl
        refine a1E (i:=23) (N:=some 53) (v:=?_) (a':=?_) #[true,true,true,true,true,true,true,true,true,true,true,true,true,true,true,true,true,true,true,true,true,true,true,true,false] rfl rfl (a0Z HT_.out (by kernel_rfl)) (fun _ _ _ h =>h) (Or.inl ⟨by rfl,?_⟩) ?_ ?_
        rotate_left
        ·intro w'
         go_simp
         with_reducible rfl
        rotate_left
        ·simp only [Act.put,List.setIfInBounds_toArray,List.set_cons_zero,List.set_cons_succ,a0X,a0Y]
         rfl
        refine a1E (i:=24) (N:=some 4) (v:=?_) (a':=?_) #[true,true,true,true,true,true,true,true,true,true,true,true,true,true,true,true,true,true,true,true,true,true,true,true,true] rfl rfl (a0Z HT_.out (by kernel_rfl)) (fun _ _ _ h =>h) (Or.inl ⟨by rfl,?_⟩) ?_ ?_
        rotate_left
        ·intro w'
         go_simp
         with_reducible rfl
        rotate_left
        ·simp only [Act.put,List.setIfInBounds_toArray,List.set_cons_zero,List.set_cons_succ,a0X,a0Y]
         rfl
        refine a6F (a3S HT_.out (by kernel_rfl)) ?_
        try go_wp2
        go_ret
        exact ⟨by first | rfl | (simp [a0T,a0S] <;> rfl) | (simp [*,a0T,a0S] <;> rfl),by repeat (first | (with_reducible first | exact HB.out | apply a0D | apply a0B | apply a0E | refine a0I ?_ aG.out) | exact HB.out)⟩
      ·rw [if_neg c35] at H
       have c35b0:(t305 == t307 && (t306 == t308)) = false:=by simpa using c35
       (try (have c35b1:decide (t305 = t307 && (t306 == t308)) = false:=by simpa using c35))
       (try (have c35b2:(t305 == t307 && (t306 == t308)) = false:=by simpa using c35))
       (try (have c35b3:¬ (t305 = t307 && (t306 == t308)):=by simpa using c35))
       clear c35
       obtain rfl:=Option.some.inj H
       have cV:wr.cell? ⟨aE,0,none⟩ = some (.slice aI aC.length aH):=(a0G aA.out 0).trans rfl
       have cW:=a0F aA.out 0
       try go_wp2
       have aJ:=a0A.mk (a0M aA.out)
       have aK:=a0A.mk (a0E HB.out)
       clear aA
       clear HB
       have aA:=aJ
       have HB:=aK
       clear aJ aK
       refine a4L (n:=25) (S:=fun w' =>w'.cell? ⟨aE,0,none⟩ = some (.slice aI aC.length aH)) (ds:=[]) #[false,false,false,false,false,false,false,false,false,false,false,false,false,false,false,false,false,false,false,false,false,false,false,false,false] (by kernel_rfl) rfl rfl ((a0G aA.out 0).trans rfl) (fun hHeld =>?_);refine a2R w05_ResolveTells.tab8 w05_ResolveTells.bits8 (fun HT_ HW_ =>?_)
       generalize wr.drew = w61 at aA HB hHeld ⊢
       refine one_ (i:=0) (N:=some 30) #[true,false,false,false,false,false,false,false,false,false,false,false,false,false,false,false,false,false,false,false,false,false,false,false,false] rfl rfl (a2O HT_.out (by kernel_rfl)) (by decide) (fun K hK =>?_)
       refine a3K Try.func9 (by kernel_rfl) rfl #[] (by rfl) rfl rfl (by (try simp only [List.map_toArray,List.map_cons,List.map_nil]);first | done | rfl | (simp only [List.length_drop,List.length_take];rfl)) ?_
       with_reducible refine (w05_fixed.calls  true _ A31.out).mono ?_
       rintro e w62 ⟨rfl,hb⟩
       refine ⟨_,rfl,?_⟩
       have aJ:=a0A.mk (a0U (g:=aE) (o:=.cells #[.slice aI aC.length aH] 24 (0,0)) (by (with_reducible repeat (first | refine a0L ?_ _ | refine a0M ?_ | refine a0K ?_ _));exact aA.out) hb)
       have aK:=a0A.mk (a0H (by repeat (first | (with_reducible first | exact HB.out | apply a0D | apply a0B | apply a0E | refine a0I ?_ aG.out) | exact HB.out)) hb)
       clear aA
       clear HB
       have aA:=aJ
       have HB:=aK
       clear aJ aK
       (try clear hb)
       (try clear hb2)
       (try clear hk)
       (try clear hi)
       refine hK.out _ _ ((a0G aA.out 0).trans rfl) (fun hHeld =>?_)
       clear hK K
       refine a3J (a':=?_) ?_ ?_
       rotate_left
       ·show Act.put _ (some 30) _ = _
        simp only [Act.put,List.setIfInBounds_toArray,List.set_cons_zero,List.set_cons_succ,a0X,a0Y]
        rfl
       refine a1E (i:=1) (N:=some 31) (v:=?_) (a':=?_) #[true,true,false,false,false,false,false,false,false,false,false,false,false,false,false,false,false,false,false,false,false,false,false,false,false] rfl rfl (a0Z HT_.out (by kernel_rfl)) (fun _ _ _ h =>h) (Or.inl ⟨by rfl,?_⟩) ?_ ?_
       rotate_left
       ·intro w'
        go_simp
        with_reducible rfl
       rotate_left
       ·simp only [Act.put,List.setIfInBounds_toArray,List.set_cons_zero,List.set_cons_succ,a0X,a0Y]
        rfl
       refine a2M (i:=2) (N:=some 32) (v:=?_) (a':=?_) #[true,true,true,false,false,false,false,false,false,false,false,false,false,false,false,false,false,false,false,false,false,false,false,false,false] rfl rfl (a1O HT_.out HW_.out (by kernel_rfl)) (fun _ _ _ h =>h) (Or.inl ⟨by rfl,?_⟩) hHeld ?_ ?_
       rotate_left
       ·intro w' s0
        go_simp
        with_reducible rfl
       rotate_left
       ·simp only [Act.put,List.setIfInBounds_toArray,List.set_cons_zero,List.set_cons_succ,a0X,a0Y]
        rfl
       refine a2M (i:=4) (N:=some 34) (v:=?_) (a':=?_) #[true,true,true,false,true,false,false,false,false,false,false,false,false,false,false,false,false,false,false,false,false,false,false,false,false] rfl rfl (a1O HT_.out HW_.out (by kernel_rfl)) (fun _ _ _ h =>h) (Or.inl ⟨by rfl,?_⟩) hHeld ?_ ?_
       rotate_left
       ·intro w' s0
        go_simp
        with_reducible rfl
       rotate_left
       ·simp only [Act.put,List.setIfInBounds_toArray,List.set_cons_zero,List.set_cons_succ,a0X,a0Y]
        rfl
       refine one_ (i:=3) (N:=some 33) #[true,true,true,true,true,false,false,false,false,false,false,false,false,false,false,false,false,false,false,false,false,false,false,false,false] rfl rfl (a2O HT_.out (by kernel_rfl)) (by decide) (fun K hK =>?_)
       refine a3K Try.func13 (by kernel_rfl) rfl #[.agg #[.slice aI aC.length aH]] (by rfl) rfl rfl (by (try simp only [List.map_toArray,List.map_cons,List.map_nil]);first | done | rfl | (simp only [List.length_drop,List.length_take];rfl)) ?_
       with_reducible refine (resolve_Check.calls k1 _ _ aC t305 t306 _ ?side1 ?side2 A33.out).mono ?_
       (case side1 =>repeat (first | exact (Kd.a0N aU.out HB.out) | (with_reducible refine Kd.a0R ?_ _) | (with_reducible refine Kd.a0Q ?_ _) | (with_reducible refine Kd.a1B ?_)))
       (case side2 =>exact bD.out)
       rintro e w63 ⟨rfl,hb⟩
       refine ⟨_,rfl,?_⟩
       have aJ:=a0A.mk (a0U (g:=aE) (o:=.cells #[.slice aI aC.length aH] 24 (0,0)) (by (with_reducible repeat (first | refine a0L ?_ _ | refine a0M ?_ | refine a0K ?_ _));exact aA.out) hb)
       have aK:=a0A.mk (a0H (by repeat (first | (with_reducible first | exact HB.out | apply a0D | apply a0B | apply a0E | refine a0I ?_ aG.out) | exact HB.out)) hb)
       clear aA
       clear HB
       have aA:=aJ
       have HB:=aK
       clear aJ aK
       (try clear hb)
       (try clear hb2)
       (try clear hk)
       (try clear hi)
       refine hK.out _ _ ((a0G aA.out 0).trans rfl) (fun hHeld =>?_)
       clear hK K
       refine a3J (a':=?_) ?_ ?_
       rotate_left
       ·show Act.put _ (some 33) _ = _
        simp only [Act.put,List.setIfInBounds_toArray,List.set_cons_zero,List.set_cons_succ,a0X,a0Y]
        rfl
       refine one_ (i:=5) (N:=some 35) #[true,true,true,true,true,true,false,false,false,false,false,false,false,false,false,false,false,false,false,false,false,false,false,false,false] rfl rfl (a2O HT_.out (by kernel_rfl)) (by decide) (fun K hK =>?_)
       refine a3K Try.func14 (by kernel_rfl) rfl #[.agg #[.slice aI aC.length aH]] (by rfl) rfl rfl (by (try simp only [List.map_toArray,List.map_cons,List.map_nil]);first | done | rfl | (simp only [List.length_drop,List.length_take];rfl)) ?_
       with_reducible refine (r05_Check.calls k1 _ _ aC t307 t308 _ ?side1 ?side2 A34.out).mono ?_
       (case side1 =>repeat (first | exact (Kd.a0N aU.out HB.out) | (with_reducible refine Kd.a0R ?_ _) | (with_reducible refine Kd.a0Q ?_ _) | (with_reducible refine Kd.a1B ?_)))
       (case side2 =>exact bD.out)
       rintro e w64 ⟨rfl,hb⟩
       refine ⟨_,rfl,?_⟩
       have aJ:=a0A.mk (a0U (g:=aE) (o:=.cells #[.slice aI aC.length aH] 24 (0,0)) (by (with_reducible repeat (first | refine a0L ?_ _ | refine a0M ?_ | refine a0K ?_ _));exact aA.out) hb)
       have aK:=a0A.mk (a0H (by repeat (first | (with_reducible first | exact HB.out | apply a0D | apply a0B | apply a0E | refine a0I ?_ aG.out) | exact HB.out)) hb)
       clear aA
       clear HB
       have aA:=aJ
       have HB:=aK
       clear aJ aK
       (try clear hb)
       (try clear hb2)
       (try clear hk)
       (try clear hi)
       refine hK.out _ _ ((a0G aA.out 0).trans rfl) (fun hHeld =>?_)
       clear hK K
       refine a3J (a':=?_) ?_ ?_
       rotate_left
       ·show Act.put _ (some 35) _ = _
        simp only [Act.put,List.setIfInBounds_toArray,List.set_cons_zero,List.set_cons_succ,a0X,a0Y]
        rfl
       refine a1E (i:=6) (N:=some 36) (v:=?_) (a':=?_) #[true,true,true,true,true,true,true,false,false,false,false,false,false,false,false,false,false,false,false,false,false,false,false,false,false] rfl rfl (a0Z HT_.out (by kernel_rfl)) (fun _ _ _ h =>h) (Or.inl ⟨by rfl,?_⟩) ?_ ?_
       rotate_left
       ·intro w'
        go_simp
        with_reducible rfl
       rotate_left
       ·simp only [Act.put,List.setIfInBounds_toArray,List.set_cons_zero,List.set_cons_succ,a0X,a0Y]
        rfl
       refine a1E (i:=7) (N:=some 37) (v:=?_) (a':=?_) #[true,true,true,true,true,true,true,true,false,false,false,false,false,false,false,false,false,false,false,false,false,false,false,false,false] rfl rfl (a0Z HT_.out (by kernel_rfl)) (fun _ _ _ h =>h) (Or.inl ⟨by rfl,?_⟩) ?_ ?_
       rotate_left
       ·intro w'
        go_simp
        with_reducible rfl
       rotate_left
       ·simp only [Act.put,List.setIfInBounds_toArray,List.set_cons_zero,List.set_cons_succ,a0X,a0Y]
        rfl
       refine a1E (i:=8) (N:=some 38) (v:=?_) (a':=?_) #[true,true,true,true,true,true,true,true,true,false,false,false,false,false,false,false,false,false,false,false,false,false,false,false,false] rfl rfl (a0Z HT_.out (by kernel_rfl)) (fun _ _ _ h =>h) (Or.inl ⟨by rfl,?_⟩) ?_ ?_
       rotate_left
       ·intro w'
        go_simp
        with_reducible rfl
       rotate_left
       ·simp only [Act.put,List.setIfInBounds_toArray,List.set_cons_zero,List.set_cons_succ,a0X,a0Y]
        rfl
       refine a1E (i:=9) (N:=some 39) (v:=undef) (a':=?_) #[true,true,true,true,true,true,true,true,true,true,false,false,false,false,false,false,false,false,false,false,false,false,false,false,false] rfl rfl (a0Z HT_.out (by kernel_rfl)) (fun _ _ _ h =>h) (Or.inr ⟨by rfl,rfl⟩) ?_ ?_
       rotate_left
       ·simp only [Act.put,List.setIfInBounds_toArray,List.set_cons_zero,List.set_cons_succ,a0X,a0Y]
        rfl
       refine a1E (i:=10) (N:=some 40) (v:=undef) (a':=?_) #[true,true,true,true,true,true,true,true,true,true,true,false,false,false,false,false,false,false,false,false,false,false,false,false,false] rfl rfl (a0Z HT_.out (by kernel_rfl)) (fun _ _ _ h =>h) (Or.inr ⟨by rfl,rfl⟩) ?_ ?_
       rotate_left
       ·simp only [Act.put,List.setIfInBounds_toArray,List.set_cons_zero,List.set_cons_succ,a0X,a0Y]
        rfl
       refine a1E (i:=11) (N:=some 41) (v:=undef) (a':=?_) #[true,true,true,true,true,true,true,true,true,true,true,true,false,false,false,false,false,false,false,false,false,false,false,false,false] rfl rfl (a0Z HT_.out (by kernel_rfl)) (fun _ _ _ h =>h) (Or.inr ⟨by rfl,rfl⟩) ?_ ?_
       rotate_left
       ·simp only [Act.put,List.setIfInBounds_toArray,List.set_cons_zero,List.set_cons_succ,a0X,a0Y]
        rfl
       refine a1E (i:=12) (N:=some 42) (v:=undef) (a':=?_) #[true,true,true,true,true,true,true,true,true,true,true,true,true,false,false,false,false,false,false,false,false,false,false,false,false] rfl rfl (a0Z HT_.out (by kernel_rfl)) (fun _ _ _ h =>h) (Or.inr ⟨by rfl,rfl⟩) ?_ ?_
       rotate_left
       ·simp only [Act.put,List.setIfInBounds_toArray,List.set_cons_zero,List.set_cons_succ,a0X,a0Y]
        rfl
       refine a1E (i:=13) (N:=some 43) (v:=undef) (a':=?_) #[true,true,true,true,true,true,true,true,true,true,true,true,true,true,false,false,false,false,false,false,false,false,false,false,false] rfl rfl (a0Z HT_.out (by kernel_rfl)) (fun _ _ _ h =>h) (Or.inr ⟨by rfl,rfl⟩) ?_ ?_
       rotate_left
       ·simp only [Act.put,List.setIfInBounds_toArray,List.set_cons_zero,List.set_cons_succ,a0X,a0Y]
        rfl
       refine a1E (i:=14) (N:=some 44) (v:=undef) (a':=?_) #[true,true,true,true,true,true,true,true,true,true,true,true,true,true,true,false,false,false,false,false,false,false,false,false,false] rfl rfl (a0Z HT_.out (by kernel_rfl)) (fun _ _ _ h =>h) (Or.inr ⟨by rfl,rfl⟩) ?_ ?_
       rotate_left
       ·simp only [Act.put,List.setIfInBounds_toArray,List.set_cons_zero,List.set_cons_succ,a0X,a0Y]
        rfl
       refine a1E (i:=15) (N:=some 45) (v:=undef) (a':=?_) #[true,true,true,true,true,true,true,true,true,true,true,true,true,true,true,true,false,false,false,false,false,false,false,false,false] rfl rfl (a0Z HT_.out (by kernel_rfl)) (fun _ _ _ h =>h) (Or.inr ⟨by rfl,rfl⟩) ?_ ?_
       rotate_left
       ·simp only [Act.put,List.setIfInBounds_toArray,List.set_cons_zero,List.set_cons_succ,a0X,a0Y]
        rfl
       refine a1E (i:=16) (N:=some 46) (v:=?_) (a':=?_) #[true,true,true,true,true,true,true,true,true,true,true,true,true,true,true,true,true,false,false,false,false,false,false,false,false] rfl rfl (a0Z HT_.out (by kernel_rfl)) (fun _ _ _ h =>h) (Or.inl ⟨by rfl,?_⟩) ?_ ?_
       rotate_left
       ·intro w'
        go_simp
        with_reducible rfl
       rotate_left
       ·simp only [Act.put,List.setIfInBounds_toArray,List.set_cons_zero,List.set_cons_succ,a0X,a0Y]
        rfl
       refine a1E (i:=17) (N:=some 47) (v:=?_) (a':=?_) #[true,true,true,true,true,true,true,true,true,true,true,true,true,true,true,true,true,true,false,false,false,false,false,false,false] rfl rfl (a0Z HT_.out (by kernel_rfl)) (fun _ _ _ h =>h) (Or.inl ⟨by rfl,?_⟩) ?_ ?_
       rotate_left
       ·intro w'
        go_simp
        with_reducible rfl
       rotate_left
       ·simp only [Act.put,List.setIfInBounds_toArray,List.set_cons_zero,List.set_cons_succ,a0X,a0Y]
        rfl
       refine a1E (i:=18) (N:=some 48) (v:=undef) (a':=?_) #[true,true,true,true,true,true,true,true,true,true,true,true,true,true,true,true,true,true,true,false,false,false,false,false,false] rfl rfl (a0Z HT_.out (by kernel_rfl)) (fun _ _ _ h =>h) (Or.inr ⟨by rfl,rfl⟩) ?_ ?_
       rotate_left
       ·simp only [Act.put,List.setIfInBounds_toArray,List.set_cons_zero,List.set_cons_succ,a0X,a0Y]
        rfl
       refine a1E (i:=19) (N:=some 49) (v:=undef) (a':=?_) #[true,true,true,true,true,true,true,true,true,true,true,true,true,true,true,true,true,true,true,true,false,false,false,false,false] rfl rfl (a0Z HT_.out (by kernel_rfl)) (fun _ _ _ h =>h) (Or.inr ⟨by rfl,rfl⟩) ?_ ?_
       rotate_left
       ·simp only [Act.put,List.setIfInBounds_toArray,List.set_cons_zero,List.set_cons_succ,a0X,a0Y]
        rfl
       refine a1E (i:=20) (N:=some 50) (v:=undef) (a':=?_) #[true,true,true,true,true,true,true,true,true,true,true,true,true,true,true,true,true,true,true,true,true,false,false,false,false] rfl rfl (a0Z HT_.out (by kernel_rfl)) (fun _ _ _ h =>h) (Or.inr ⟨by rfl,rfl⟩) ?_ ?_
       rotate_left
       ·simp only [Act.put,List.setIfInBounds_toArray,List.set_cons_zero,List.set_cons_succ,a0X,a0Y]
        rfl
       refine a1E (i:=21) (N:=some 51) (v:=undef) (a':=?_) #[true,true,true,true,true,true,true,true,true,true,true,true,true,true,true,true,true,true,true,true,true,true,false,false,false] rfl rfl (a0Z HT_.out (by kernel_rfl)) (fun _ _ _ h =>h) (Or.inr ⟨by rfl,rfl⟩) ?_ ?_
       rotate_left
       ·simp only [Act.put,List.setIfInBounds_toArray,List.set_cons_zero,List.set_cons_succ,a0X,a0Y]
        rfl
       refine a1E (i:=22) (N:=some 52) (v:=undef) (a':=?_) #[true,true,true,true,true,true,true,true,true,true,true,true,true,true,true,true,true,true,true,true,true,true,true,false,false] rfl rfl (a0Z HT_.out (by kernel_rfl)) (fun _ _ _ h =>h) (Or.inr ⟨by rfl,rfl⟩) ?_ ?_
       rotate_left
       ·simp only [Act.put,List.setIfInBounds_toArray,List.set_cons_zero,List.set_cons_succ,a0X,a0Y]
        rfl
       refine a1E (i:=23) (N:=some 53) (v:=?_) (a':=?_) #[true,true,true,true,true,true,true,true,true,true,true,true,true,true,true,true,true,true,true,true,true,true,true,true,false] rfl rfl (a0Z HT_.out (by kernel_rfl)) (fun _ _ _ h =>h) (Or.inl ⟨by rfl,?_⟩) ?_ ?_
       rotate_left
       ·intro w'
        go_simp
        with_reducible rfl
       rotate_left
       ·simp only [Act.put,List.setIfInBounds_toArray,List.set_cons_zero,List.set_cons_succ,a0X,a0Y]
        rfl
       refine a1E (i:=24) (N:=some 4) (v:=?_) (a':=?_) #[true,true,true,true,true,true,true,true,true,true,true,true,true,true,true,true,true,true,true,true,true,true,true,true,true] rfl rfl (a0Z HT_.out (by kernel_rfl)) (fun _ _ _ h =>h) (Or.inl ⟨by rfl,?_⟩) ?_ ?_
       rotate_left
       ·intro w'
        go_simp
        with_reducible rfl
       rotate_left
       ·simp only [Act.put,List.setIfInBounds_toArray,List.set_cons_zero,List.set_cons_succ,a0X,a0Y]
        rfl
       refine a6F (a3S HT_.out (by kernel_rfl)) ?_
       try go_wp2
       go_ret
       exact ⟨by first | rfl | (simp [a0T,a0S] <;> rfl) | (simp [*,a0T,a0S] <;> rfl),by repeat (first | (with_reducible first | exact HB.out | apply a0D | apply a0B | apply a0E | refine a0I ?_ aG.out) | exact HB.out)⟩
     ·replace c32:=Bool.eq_false_iff.mpr c32
      subst c32
      have H1:(some false) = some r:=by rw [if_neg (show ¬ (false = true) by decide)] at H;exact H
      clear H
      have H:=H1
      clear H1
      obtain rfl:=Option.some.inj H
      have cX:wr.cell? ⟨aE,0,none⟩ = some (.slice aI aC.length aH):=(a0G aA.out 0).trans rfl
      have cY:=a0F aA.out 0
      try go_wp2
      have aJ:=a0A.mk (a0M aA.out)
      have aK:=a0A.mk (a0E HB.out)
      clear aA
      clear HB
      have aA:=aJ
      have HB:=aK
      clear aJ aK
      refine a4L (n:=25) (S:=fun w' =>True) (ds:=[]) #[false,false,false,false,false,false,false,false,false,false,false,false,false,false,false,false,false,false,false,false,false,false,false,false,false] (by kernel_rfl) rfl rfl trivial (fun hHeld =>?_);refine a2R w05_ResolveTells.tab8 w05_ResolveTells.bits8 (fun HT_ HW_ =>?_)
      generalize wr.drew = w66 at aA HB hHeld ⊢
      refine one_ (i:=0) (N:=some 30) #[true,false,false,false,false,false,false,false,false,false,false,false,false,false,false,false,false,false,false,false,false,false,false,false,false] rfl rfl (a2O HT_.out (by kernel_rfl)) (by decide) (fun K hK =>?_)
      refine a3K Try.func9 (by kernel_rfl) rfl #[] (by rfl) rfl rfl (by (try simp only [List.map_toArray,List.map_cons,List.map_nil]);first | done | rfl | (simp only [List.length_drop,List.length_take];rfl)) ?_
      with_reducible refine (w05_fixed.calls  false _ A31.out).mono ?_
      rintro e w67 ⟨rfl,hb⟩
      refine ⟨_,rfl,?_⟩
      have aJ:=a0A.mk (a0U (g:=aE) (o:=.cells #[.slice aI aC.length aH] 24 (0,0)) (by (with_reducible repeat (first | refine a0L ?_ _ | refine a0M ?_ | refine a0K ?_ _));exact aA.out) hb)
      have aK:=a0A.mk (a0H (by repeat (first | (with_reducible first | exact HB.out | apply a0D | apply a0B | apply a0E | refine a0I ?_ aG.out) | exact HB.out)) hb)
      clear aA
      clear HB
      have aA:=aJ
      have HB:=aK
      clear aJ aK
      (try clear hb)
      (try clear hb2)
      (try clear hk)
      (try clear hi)
      refine hK.out _ _ trivial (fun hHeld =>?_)
      clear hK K
      refine a3J (a':=?_) ?_ ?_
      rotate_left
      ·show Act.put _ (some 30) _ = _
       simp only [Act.put,List.setIfInBounds_toArray,List.set_cons_zero,List.set_cons_succ,a0X,a0Y]
       rfl
      refine a1E (i:=1) (N:=some 31) (v:=?_) (a':=?_) #[true,true,false,false,false,false,false,false,false,false,false,false,false,false,false,false,false,false,false,false,false,false,false,false,false] rfl rfl (a0Z HT_.out (by kernel_rfl)) (fun _ _ _ h =>h) (Or.inl ⟨by rfl,?_⟩) ?_ ?_
      rotate_left
      ·intro w'
       go_simp
       with_reducible rfl
      rotate_left
      ·simp only [Act.put,List.setIfInBounds_toArray,List.set_cons_zero,List.set_cons_succ,a0X,a0Y]
       rfl
      refine a1E (i:=2) (N:=some 32) (v:=undef) (a':=?_) #[true,true,true,false,false,false,false,false,false,false,false,false,false,false,false,false,false,false,false,false,false,false,false,false,false] rfl rfl (a0Z HT_.out (by kernel_rfl)) (fun _ _ _ h =>h) (Or.inr ⟨by rfl,rfl⟩) ?_ ?_
      rotate_left
      ·simp only [Act.put,List.setIfInBounds_toArray,List.set_cons_zero,List.set_cons_succ,a0X,a0Y]
       rfl
      refine a1E (i:=3) (N:=some 33) (v:=undef) (a':=?_) #[true,true,true,true,false,false,false,false,false,false,false,false,false,false,false,false,false,false,false,false,false,false,false,false,false] rfl rfl (a0Z HT_.out (by kernel_rfl)) (fun _ _ _ h =>h) (Or.inr ⟨by rfl,rfl⟩) ?_ ?_
      rotate_left
      ·simp only [Act.put,List.setIfInBounds_toArray,List.set_cons_zero,List.set_cons_succ,a0X,a0Y]
       rfl
      refine a1E (i:=4) (N:=some 34) (v:=undef) (a':=?_) #[true,true,true,true,true,false,false,false,false,false,false,false,false,false,false,false,false,false,false,false,false,false,false,false,false] rfl rfl (a0Z HT_.out (by kernel_rfl)) (fun _ _ _ h =>h) (Or.inr ⟨by rfl,rfl⟩) ?_ ?_
      rotate_left
      ·simp only [Act.put,List.setIfInBounds_toArray,List.set_cons_zero,List.set_cons_succ,a0X,a0Y]
       rfl
      refine a1E (i:=5) (N:=some 35) (v:=undef) (a':=?_) #[true,true,true,true,true,true,false,false,false,false,false,false,false,false,false,false,false,false,false,false,false,false,false,false,false] rfl rfl (a0Z HT_.out (by kernel_rfl)) (fun _ _ _ h =>h) (Or.inr ⟨by rfl,rfl⟩) ?_ ?_
      rotate_left
      ·simp only [Act.put,List.setIfInBounds_toArray,List.set_cons_zero,List.set_cons_succ,a0X,a0Y]
       rfl
      refine a1E (i:=6) (N:=some 36) (v:=undef) (a':=?_) #[true,true,true,true,true,true,true,false,false,false,false,false,false,false,false,false,false,false,false,false,false,false,false,false,false] rfl rfl (a0Z HT_.out (by kernel_rfl)) (fun _ _ _ h =>h) (Or.inr ⟨by rfl,rfl⟩) ?_ ?_
      rotate_left
      ·simp only [Act.put,List.setIfInBounds_toArray,List.set_cons_zero,List.set_cons_succ,a0X,a0Y]
       rfl
      refine a1E (i:=7) (N:=some 37) (v:=?_) (a':=?_) #[true,true,true,true,true,true,true,true,false,false,false,false,false,false,false,false,false,false,false,false,false,false,false,false,false] rfl rfl (a0Z HT_.out (by kernel_rfl)) (fun _ _ _ h =>h) (Or.inl ⟨by rfl,?_⟩) ?_ ?_
      rotate_left
      ·intro w'
       go_simp
       with_reducible rfl
      rotate_left
      ·simp only [Act.put,List.setIfInBounds_toArray,List.set_cons_zero,List.set_cons_succ,a0X,a0Y]
       rfl
      refine a1E (i:=8) (N:=some 38) (v:=?_) (a':=?_) #[true,true,true,true,true,true,true,true,true,false,false,false,false,false,false,false,false,false,false,false,false,false,false,false,false] rfl rfl (a0Z HT_.out (by kernel_rfl)) (fun _ _ _ h =>h) (Or.inl ⟨by rfl,?_⟩) ?_ ?_
      rotate_left
      ·intro w'
       go_simp
       with_reducible rfl
      rotate_left
      ·simp only [Act.put,List.setIfInBounds_toArray,List.set_cons_zero,List.set_cons_succ,a0X,a0Y]
       rfl
      refine a1E (i:=9) (N:=some 39) (v:=undef) (a':=?_) #[true,true,true,true,true,true,true,true,true,true,false,false,false,false,false,false,false,false,false,false,false,false,false,false,false] rfl rfl (a0Z HT_.out (by kernel_rfl)) (fun _ _ _ h =>h) (Or.inr ⟨by rfl,rfl⟩) ?_ ?_
      rotate_left
      ·simp only [Act.put,List.setIfInBounds_toArray,List.set_cons_zero,List.set_cons_succ,a0X,a0Y]
       rfl
      refine a1E (i:=10) (N:=some 40) (v:=undef) (a':=?_) #[true,true,true,true,true,true,true,true,true,true,true,false,false,false,false,false,false,false,false,false,false,false,false,false,false] rfl rfl (a0Z HT_.out (by kernel_rfl)) (fun _ _ _ h =>h) (Or.inr ⟨by rfl,rfl⟩) ?_ ?_
      rotate_left
      ·simp only [Act.put,List.setIfInBounds_toArray,List.set_cons_zero,List.set_cons_succ,a0X,a0Y]
       rfl
      refine a1E (i:=11) (N:=some 41) (v:=undef) (a':=?_) #[true,true,true,true,true,true,true,true,true,true,true,true,false,false,false,false,false,false,false,false,false,false,false,false,false] rfl rfl (a0Z HT_.out (by kernel_rfl)) (fun _ _ _ h =>h) (Or.inr ⟨by rfl,rfl⟩) ?_ ?_
      rotate_left
      ·simp only [Act.put,List.setIfInBounds_toArray,List.set_cons_zero,List.set_cons_succ,a0X,a0Y]
       rfl
      refine a1E (i:=12) (N:=some 42) (v:=undef) (a':=?_) #[true,true,true,true,true,true,true,true,true,true,true,true,true,false,false,false,false,false,false,false,false,false,false,false,false] rfl rfl (a0Z HT_.out (by kernel_rfl)) (fun _ _ _ h =>h) (Or.inr ⟨by rfl,rfl⟩) ?_ ?_
      rotate_left
      ·simp only [Act.put,List.setIfInBounds_toArray,List.set_cons_zero,List.set_cons_succ,a0X,a0Y]
       rfl
      refine a1E (i:=13) (N:=some 43) (v:=undef) (a':=?_) #[true,true,true,true,true,true,true,true,true,true,true,true,true,true,false,false,false,false,false,false,false,false,false,false,false] rfl rfl (a0Z HT_.out (by kernel_rfl)) (fun _ _ _ h =>h) (Or.inr ⟨by rfl,rfl⟩) ?_ ?_
      rotate_left
      ·simp only [Act.put,List.setIfInBounds_toArray,List.set_cons_zero,List.set_cons_succ,a0X,a0Y]
       rfl
      refine a1E (i:=14) (N:=some 44) (v:=undef) (a':=?_) #[true,true,true,true,true,true,true,true,true,true,true,true,true,true,true,false,false,false,false,false,false,false,false,false,false] rfl rfl (a0Z HT_.out (by kernel_rfl)) (fun _ _ _ h =>h) (Or.inr ⟨by rfl,rfl⟩) ?_ ?_
      rotate_left
      ·simp only [Act.put,List.setIfInBounds_toArray,List.set_cons_zero,List.set_cons_succ,a0X,a0Y]
       rfl
      refine a1E (i:=15) (N:=some 45) (v:=undef) (a':=?_) #[true,true,true,true,true,true,true,true,true,true,true,true,true,true,true,true,false,false,false,false,false,false,false,false,false] rfl rfl (a0Z HT_.out (by kernel_rfl)) (fun _ _ _ h =>h) (Or.inr ⟨by rfl,rfl⟩) ?_ ?_
      rotate_left
      ·simp only [Act.put,List.setIfInBounds_toArray,List.set_cons_zero,List.set_cons_succ,a0X,a0Y]
       rfl
      refine a1E (i:=16) (N:=some 46) (v:=?_) (a':=?_) #[true,true,true,true,true,true,true,true,true,true,true,true,true,true,true,true,true,false,false,false,false,false,false,false,false] rfl rfl (a0Z HT_.out (by kernel_rfl)) (fun _ _ _ h =>h) (Or.inl ⟨by rfl,?_⟩) ?_ ?_
      rotate_left
      ·intro w'
       go_simp
       with_reducible rfl
      rotate_left
      ·simp only [Act.put,List.setIfInBounds_toArray,List.set_cons_zero,List.set_cons_succ,a0X,a0Y]
       rfl
      refine a1E (i:=17) (N:=some 47) (v:=?_) (a':=?_) #[true,true,true,true,true,true,true,true,true,true,true,true,true,true,true,true,true,true,false,false,false,false,false,false,false] rfl rfl (a0Z HT_.out (by kernel_rfl)) (fun _ _ _ h =>h) (Or.inl ⟨by rfl,?_⟩) ?_ ?_
      rotate_left
      ·intro w'
       go_simp
       with_reducible rfl
      rotate_left
      ·simp only [Act.put,List.setIfInBounds_toArray,List.set_cons_zero,List.set_cons_succ,a0X,a0Y]
       rfl
      refine a1E (i:=18) (N:=some 48) (v:=undef) (a':=?_) #[true,true,true,true,true,true,true,true,true,true,true,true,true,true,true,true,true,true,true,false,false,false,false,false,false] rfl rfl (a0Z HT_.out (by kernel_rfl)) (fun _ _ _ h =>h) (Or.inr ⟨by rfl,rfl⟩) ?_ ?_
      rotate_left
      ·simp only [Act.put,List.setIfInBounds_toArray,List.set_cons_zero,List.set_cons_succ,a0X,a0Y]
       rfl
      refine a1E (i:=19) (N:=some 49) (v:=undef) (a':=?_) #[true,true,true,true,true,true,true,true,true,true,true,true,true,true,true,true,true,true,true,true,false,false,false,false,false] rfl rfl (a0Z HT_.out (by kernel_rfl)) (fun _ _ _ h =>h) (Or.inr ⟨by rfl,rfl⟩) ?_ ?_
      rotate_left
      ·simp only [Act.put,List.setIfInBounds_toArray,List.set_cons_zero,List.set_cons_succ,a0X,a0Y]
       rfl
      refine a1E (i:=20) (N:=some 50) (v:=undef) (a':=?_) #[true,true,true,true,true,true,true,true,true,true,true,true,true,true,true,true,true,true,true,true,true,false,false,false,false] rfl rfl (a0Z HT_.out (by kernel_rfl)) (fun _ _ _ h =>h) (Or.inr ⟨by rfl,rfl⟩) ?_ ?_
      rotate_left
      ·simp only [Act.put,List.setIfInBounds_toArray,List.set_cons_zero,List.set_cons_succ,a0X,a0Y]
       rfl
      refine a1E (i:=21) (N:=some 51) (v:=undef) (a':=?_) #[true,true,true,true,true,true,true,true,true,true,true,true,true,true,true,true,true,true,true,true,true,true,false,false,false] rfl rfl (a0Z HT_.out (by kernel_rfl)) (fun _ _ _ h =>h) (Or.inr ⟨by rfl,rfl⟩) ?_ ?_
      rotate_left
      ·simp only [Act.put,List.setIfInBounds_toArray,List.set_cons_zero,List.set_cons_succ,a0X,a0Y]
       rfl
      refine a1E (i:=22) (N:=some 52) (v:=undef) (a':=?_) #[true,true,true,true,true,true,true,true,true,true,true,true,true,true,true,true,true,true,true,true,true,true,true,false,false] rfl rfl (a0Z HT_.out (by kernel_rfl)) (fun _ _ _ h =>h) (Or.inr ⟨by rfl,rfl⟩) ?_ ?_
      rotate_left
      ·simp only [Act.put,List.setIfInBounds_toArray,List.set_cons_zero,List.set_cons_succ,a0X,a0Y]
       rfl
      refine a1E (i:=23) (N:=some 53) (v:=?_) (a':=?_) #[true,true,true,true,true,true,true,true,true,true,true,true,true,true,true,true,true,true,true,true,true,true,true,true,false] rfl rfl (a0Z HT_.out (by kernel_rfl)) (fun _ _ _ h =>h) (Or.inl ⟨by rfl,?_⟩) ?_ ?_
      rotate_left
      ·intro w'
       go_simp
       with_reducible rfl
      rotate_left
      ·simp only [Act.put,List.setIfInBounds_toArray,List.set_cons_zero,List.set_cons_succ,a0X,a0Y]
       rfl
      refine a1E (i:=24) (N:=some 4) (v:=?_) (a':=?_) #[true,true,true,true,true,true,true,true,true,true,true,true,true,true,true,true,true,true,true,true,true,true,true,true,true] rfl rfl (a0Z HT_.out (by kernel_rfl)) (fun _ _ _ h =>h) (Or.inl ⟨by rfl,?_⟩) ?_ ?_
      rotate_left
      ·intro w'
       go_simp
       with_reducible rfl
      rotate_left
      ·simp only [Act.put,List.setIfInBounds_toArray,List.set_cons_zero,List.set_cons_succ,a0X,a0Y]
       rfl
      refine a6F (a3S HT_.out (by kernel_rfl)) ?_
      try go_wp2
      go_ret
      exact ⟨by first | rfl | (simp [a0T,a0S] <;> rfl) | (simp [*,a0T,a0S] <;> rfl),by repeat (first | (with_reducible first | exact HB.out | apply a0D | apply a0B | apply a0E | refine a0I ?_ aG.out) | exact HB.out)⟩
end Go.Proofs.Ytjiacafeckokeaa.Pr
namespace Go.Proofs.Ytjiacafeckokeaa.Man
open Go.RowKit Go.Proofs.Ytjiacafeckokeaa.Pr Go.Proofs.YtjiacafeckokeaaW.PrintWords
theorem a9D (l:List ByteArray) (hl:l.length≤8000000000000):Ev (fun k =>r02_Texts.f k l l) true:=by
 suffices h:∀ m i:Nat,i + m = l.length→Ev (fun k =>r02_Texts.l0 k l l (i:Int)) true by
  have:=h l.length 0 (by omega)
  simpa [r02_Texts.f] using this
 intro m
 induction m with
 | zero =>
  intro i hi
  have hnl:¬ ((i:Int) < (l.length:Int)):=by rw [show i = l.length from hi];exact Int.lt_irrefl _
  refine Ev.step ?_
  simp only [r02_Texts.l0,if_neg hnl]
  exact Ev.const true
 | succ m ih =>
  intro i hi
  have hil:i < l.length:=by omega
  have c1:(0:Int)≤(i:Int):=Int.natCast_nonneg i
  have c2:(i:Int) < (l.length:Int):=Int.ofNat_lt.2 hil
  have hw:=pzL i (Nat.le_trans (Nat.le_of_lt hil) hl)
  refine Ev.step ?_
  simp only [r02_Texts.l0,if_pos c1,if_pos c2,if_true,hw]
  exact ih (i + 1) (by omega)
theorem b0U (xs:List ByteArray):(uniqB xs).length≤xs.length:=by
 unfold uniqB uniqS
 rw [List.length_map]
 refine Nat.le_trans (Go.Lib.compact_length_le _) ?_
 rw [a7Z]
 exact Nat.le_trans (List.length_filter_le _ _) (by rw [List.length_map];exact Nat.le_refl _)
theorem b4M (f:S32) (hfit:FitN f):(varsF f).length≤8000000000000:=by
 have h1:=a7E varG 1050002 (flat f.f2) (fun s' hs' =>by have h2:=a4T s'.f4;have h3:=(hfit.2.2.2 s' hs').1;unfold varG;simp only [List.length_append,List.length_cons,List.length_nil];omega)
 have h3:(flat f.f2).length * 1050002≤2000000 * 1050002:=Nat.mul_le_mul_right _ hfit.2.2.1
 refine Nat.le_trans (b0U _) ?_
 rw [List.length_append]
 exact Nat.le_trans (Nat.add_le_add hfit.1 (Nat.le_trans h1 h3)) (by decide)
theorem b3R (fs:List S32) (hfit:FitW fs):(propsF fs).length≤8000000000000:=by
 refine Nat.le_trans (b0U _) (Nat.le_trans (a7E propG 1050001 (fs.flatMap flatF) fun s hs =>a8F hfit.1 fs.length s (by rw [List.take_length];exact hs)) (Nat.le_trans (Nat.mul_le_mul_right _ hfit.2) (by decide)))
theorem rvars_ev (f:S32) (h:FitN f):Ev (fun k =>resolve_Vars.f k f.f0 f.f1 f.f2) (varsF f):=by
 have e:(⟨f.f0,f.f1,f.f2⟩:S32) = f:=by cases f;rfl
 refine ⟨0,fun k _ =>?_⟩
 unfold resolve_Vars.f
 rw [e,if_pos h]
theorem b4Z (fs:List S32) (h:FitW fs):Ev (fun k =>resolve_Props.f k fs) (propsF fs):=⟨0,fun k _ =>by unfold resolve_Props.f;rw [if_pos h]⟩
theorem b5C (fs:List S32) (h:FitC fs):Ev (fun k =>resolve_Check.f k fs) (checkF fs):=⟨0,fun k _ =>by unfold resolve_Check.f;rw [if_pos h]⟩
theorem rfun_ev (fs:List S32) (h:fs.length≤1050000) (nm:ByteArray):Ev (fun k =>resolve_Fun.f k fs nm) (funIx fs nm):=⟨0,fun k _ =>by unfold resolve_Fun.f;rw [if_pos h]⟩
theorem tells_ev (fs:List S32) (nm:ByteArray) (hfit:FitW fs) (hlow:LowP fs):Ev (fun k =>w05_ResolveTells.f k fs nm) true:=by
 have hlw:∀ f,f ∈ fs→Low f.f2:=fun f hf =>(hlow.2 f hf).2.2
 obtain ⟨b,hb⟩:=big_ev fs hlow
 unfold w05_ResolveTells.f
 refine Ev.bind hb ?_
 cases b with
 | true =>simp only [if_true,w05_fixed.f,Option.bind_some];exact Ev.const true
 | false =>
  simp only [Bool.false_eq_true,if_false]
  suffices h:∀ m i:Nat,i + m = fs.length→Ev (fun k =>w05_ResolveTells.l0 k nm (i:Int) fs) true from h fs.length 0 (by omega)
  intro m
  induction m with
  | zero =>
   intro i hi
   have hnl:¬ ((i:Int) < (fs.length:Int)):=by rw [show i = fs.length from hi];exact Int.lt_irrefl _
   refine Ev.step ?_
   simp only [w05_ResolveTells.l0,if_neg hnl,w05_fixed.f,Option.bind_some,if_true]
   refine Ev.bind (b5C fs hfit.1) (Ev.bind (b0F fs hfit.1 hlw) ?_)
   simp only [beq_self_eq_true,Bool.and_self,if_true]
   refine Ev.bind (rfun_ev fs hfit.1.1 nm) (Ev.bind (a9H fs hlow.1 nm) ?_)
   simp only [if_true]
   refine Ev.bind (b4Z fs hfit) (Ev.bind (b2Z fs hfit hlw) ?_)
   exact Ev.bind (a9D _ (b3R fs hfit)) (Ev.const true)
  | succ m ih =>
   intro i hi
   have hil:i < fs.length:=by omega
   have c1:(0:Int)≤(i:Int):=Int.natCast_nonneg i
   have c2:(i:Int) < (fs.length:Int):=Int.ofNat_lt.2 hil
   have hw:=pz i (Nat.le_trans (Nat.le_of_lt hil) hfit.1.1)
   have hmem:=a9S hil
   have hfn:=hfit.1.2 _ hmem
   refine Ev.step ?_
   simp only [w05_ResolveTells.l0,if_pos c1,if_pos c2,hw]
   refine Ev.bind (rvars_ev _ hfn) (Ev.bind (b4K _ hfn (hlw _ hmem)) (Ev.bind (a9D _ (b4M _ hfn)) ?_))
   simp only [if_true]
   exact ih (i + 1) (by omega)
end Go.Proofs.Ytjiacafeckokeaa.Man
namespace Go.Proofs.Ytjiacafeckokeaa.resolveTells
open Go.ChangeShapes Go.WideShapes Go.ChangeAt Go.RowKit Go.Proofs.Ytjiacafeckokeaa.Pr Go.Proofs.YtjiacafeckokeaaW.PrintWords
open Go.ChangeMaps (open_string shut_string)
theorem own:ownKnob Try.prog.godebug = none:=by kernel_rfl
theorem laidOut:laidOutB Try.prog = true:=by kernel_rfl
theorem walk (A0:Option Addr) (c0:Nat) (l0:List S32) (hc0:l0.length≤c0) (a1:ByteArray) (w:World) (hC0:Kd.C k32 w A0 l0.length l0) (hP:Man.FitP l0 1048576) (hT:(l0.flatMap fun f =>Man.flat f.f2).length≤1048576) :
  Calls Try.prog 3 #[.agg #[.slice A0 l0.length c0],.string a1] w fun e w' =>e = .returned (.bool true)∧Below w.heap.size w w':=by
 obtain ⟨k,e⟩:=Man.tells_ev l0 a1 (Man.b2G (by decide) hP hT) (Man.b2D hP (by decide))
 exact w05_ResolveTells.calls k A0 c0 l0 a1 true w hC0 hc0 (e k (Nat.le_refl _))
set_option maxRecDepth 100000 in
set_option maxHeartbeats 4000000 in
theorem lifted (os:Os) (started:os.Started) (H:Type) (enc:TypeId × Value→H) (F:Stop.Interp) :
  ReturnsInHanded {} Try.checked os 3 .any ((Rows.OpenSpec.upto Rows.resolveTellsSpec).pre6 enc Try.prog Try.f3 Rows.resolveTellsUptoRow.domain false) (((Rows.OpenSpec.upto Rows.resolveTellsSpec).at F).post enc Try.prog Try.f3 false true false false):=by
 refine returnsInHanded_of_cond (C:=Try.checked) (s:=(Rows.OpenSpec.upto Rows.resolveTellsSpec)) (k:=Rows.uptoSmall) rfl own started (by kernel_rfl) Try.func3
  (OpenSpec.witness (enc:=enc) (C:=Try.checked) (s:=(Rows.OpenSpec.upto Rows.resolveTellsSpec)) (k:=Rows.uptoSmall) rfl false ⟨#[],#[.agg #[.slice none 0 0],.string ⟨#[]⟩],[]⟩ 8 (by kernel_rfl) (by kernel_rfl) (by kernel_rfl)
   (x:=([.agg [.nil],.lit (.string [])],[],[])) (by kernel_rfl) rfl (by kernel_rfl)) ?_
 intro W base args ds gs before hval0 hW _ hk _
 have hval:∀ (j:Nat) t v,Try.f3.params[j]? = some t→args[j]? = some v→Value.okWide Try.prog W .any base t v:=hval0
 have hW':=hW
 obtain ⟨p,q,hA0,hV,rfl,hfz,hnd⟩:=hW
 have hA:DataW.TrodAll enc Try.prog W 0 (fun _ =>true) true Try.f3.params.toList args.toList ds p:=hA0
 rw [Try.params3] at hA hval
 obtain ⟨v0,vs0,d0,ds0,p0,q0,hargs,rfl,rfl,h0,r0⟩:=trodAll_cons hA
 obtain ⟨v1,vs1,d1,ds1,p1,q1,rfl,rfl,rfl,h1,r1⟩:=trodAll_cons r0
 obtain ⟨rfl,rfl,rfl⟩:=trodAll_nil r1
 obtain rfl:args = #[v0,v1]:=by cases args;simp_all
 obtain ⟨rfl,rfl⟩:=trodVars_none hV
 obtain ⟨cs0,rfl,hz0⟩:=okWide_struct Try.underlying24 (hval 0 24 v0 rfl rfl)
 have k0:=h0
 have lt0:∀ x ∈ p0,x.block < W.heap.size:=by obtain ⟨m,hm⟩:=k0;exact DataW.trod_lt m _ _ _ hm
 obtain ⟨fuel0,hf0⟩:=h0
 obtain ⟨a1,rfl,rfl,rfl,w1⟩:=open_string Try.underlying9 (hval 1 9 v1 rfl rfl) h1
 have hbulk:Rows.uptoBulkAll ([d0,DataW.lit (.string a1.data.toList)] ++ [])≤1048576:=of_decide_eq_true hk
 simp only [List.append_nil,Rows.uptoBulkAll] at hbulk
 obtain ⟨A0,c0,l0,hv0,hc0,hC0,hB0,hT0⟩:=Man.b2N fuel0 cs0 _ _ hf0
 subst hv0
 have hP0:Man.FitP l0 1048576:=hB0.mono (by omega)
 clear hA0 hval0
 refine (walk _ _ l0 hc0 a1 W hC0 hP0 (Nat.le_trans hT0 (by omega))).mono fun e W' ⟨he,bel⟩ =>?_
 subst he
 exact ⟨_,rfl,_,_,_,[],_,[],hW',trodAll_mk1 (shut_bool Try.underlying4 _),(trodAll_cons_mk (Below.trod laidOut (by kernel_rfl) (of_decide_eq_true (by kernel_rfl)) k0 bel lt0) (trodAll_cons_mk (shut_string Try.underlying9 w1) trodAll_mk0)),rfl,bel.frame _,fun h =>by cases h⟩
theorem proved:Rows.ResolveTellsUptoSaid :=
 OpenClaim.holds_of_cond 3 Try.f3 rfl rfl rfl rfl rfl rfl rfl ⟨rfl,rfl,rfl,rfl,rfl⟩ rfl rfl rfl rfl rfl (by kernel_rfl) Try.func3 (by kernel_rfl)
  (of_decide_eq_true (by kernel_rfl)) (by unfold Func.isWrapper;first | (rw [if_pos (by decide +kernel)];kernel_rfl) | (rw [if_neg (by decide +kernel)];exact ⟨rfl,rfl⟩))
  (fun os started H enc _ F =>lifted os started H enc F)
end Go.Proofs.Ytjiacafeckokeaa.resolveTells
namespace Go.Proofs.Ytjiacafeckokeaa
theorem resolveTells_holds:Rows.ResolveTellsUptoSaid:=resolveTells.proved
end Go.Proofs.Ytjiacafeckokeaa
