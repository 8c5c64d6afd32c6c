/- A part of the proof that EffectsTells returns true for every argument (the row of EffectsTellsUpto: theorem effectsTells_holds). No conditions beyond the given statement's own. -/
import Derived.Test.YthhgfncliffggaaGreatET2
import Derived.Test.YthhgfncliffggaaGreatET7
import Derived.Test.YthhgfncliffggaaGreatET3
import Derived.Test.YthhgfncliffggaaGreatET5
import Derived.Test.YthhgfncliffggaaGreatET6
import Derived.Test.YthhgfncliffggaaGreatRows
import Derived.WalkKit
import Derived.ProofKit
import Derived.OpenShut
import Derived.ShutString
import Derived.ChangeOld
import Derived.Below
import Derived.SizedLaws
import Derived.JoinedCond
set_option maxHeartbeats 8000000
set_option maxRecDepth 100000
set_option linter.unusedVariables false
set_option linter.unusedSimpArgs false
namespace Go.Proofs.YthhgfncliffggaaGreat.Pr
open Go.RowKit Go.Proofs.YthhgfncliffggaaGreatW.PrintWords Go.Proofs.YthhgfncliffggaaGreatW.PrintLast Go.Proofs.YthhgfncliffggaaGreatW.PrintMore
attribute [local go_sem] a3J a3I a4D a4C a3F a3E a3T a3S   -- for this text's walks alone
open Classical in
noncomputable def w14_fixed.f :Option (Bool):=some true
theorem w14_fixed.calls  (r:Bool) (w:World) (h:w14_fixed.f  = some r) :
  Calls Tryz.prog 8 #[] w fun e w' =>e = .returned (.bool r)∧Below w.heap.size w w' :=
 by
 cases h;exact Man.c2X w
mutual
noncomputable def w14_EffectsTells.j0:Nat→List ByteArray→List ByteArray→Bool→List (S34)→Option (Bool)
 | 0,_,_,_,_ =>none
 | k + 1,x1,x2,x26,x367000 =>if x26 = true then ((w14_fixed.f).bind fun t368 =>(some t368)) else ((effects_Sigs.f x367000).bind fun t369 =>(w14_EffectsTells.l0 k x1 x2 t369 0 x367000))
noncomputable def w14_EffectsTells.l0:Nat→List ByteArray→List ByteArray→List (S42)→Int→List (S34)→Option (Bool)
 | 0,_,_,_,_,_ =>none
 | k + 1,x1,x2,x7,x8,x367000 =>if x8 < (x367000.length:Int) then (if 0≤x8 then ((effects_Own.f ((a0S x367000 x8).f0) ((a0S x367000 x8).f1) ((a0S x367000 x8).f2)).bind fun t373 =>((r14_Own.f ((a0S x367000 x8).f0) ((a0S x367000 x8).f1) ((a0S x367000 x8).f2)).bind fun t377 =>((r14_Texts.f k t373 t377).bind fun t380 =>(if t380 = true then (w14_EffectsTells.l0 k x1 x2 x7 (wrap64 (x8 + 1)) x367000) else (none))))) else (none)) else ((w14_fixed.f).bind fun t381 =>(if t381 = true then ((r14_Sigs.f k x367000).bind fun t382 =>((r14_Same.f x7 t382).bind fun t385 =>(if t385 = true then ((effects_Union.f x1 x2).bind fun t386 =>((r14_Union.f x1 x2).bind fun t389 =>((r14_Texts.f k t386 t389).bind fun t392 =>(if t392 = true then ((effects_All.f x7).bind fun t393 =>((r14_Sigs.f k x367000).bind fun t396 =>((r14_All.f k t396).bind fun t399 =>((r14_Texts.f k t393 t399).bind fun t402 =>(some t402))))) else (some false))))) else (some false)))) else (some false)))
end
noncomputable def w14_EffectsTells.f (k:Nat) (aC:List (S34)) (l1:List ByteArray) (l2:List ByteArray):Option (Bool):=(r03_Big.f k aC).bind fun t367 =>(if t367 = true then (w14_EffectsTells.j0 k l1 l2 true aC) else (if (aC.length:Int) > 60 then (w14_EffectsTells.j0 k l1 l2 true aC) else (if (l1.length:Int) > 100 then (w14_EffectsTells.j0 k l1 l2 true aC) else (w14_EffectsTells.j0 k l1 l2 (decide ((l2.length:Int) > 100)) aC))))
def w14_EffectsTells.T7:Bool × List (List Nat × List Nat):=(true,[([],[]),([0],[0]),([],[]),([1,2],[1,2]),([3],[3]),([4],[4]),([],[]),([6],[6]),([],[]),([7,8],[7,8]),([9],[9]),([10,5],[10]),([5,11,11],[5,11]),([12],[12])])
def w14_EffectsTells.B7:List Nat:=[0,1,0,7,15,31,0,64,0,448,960,2047,4095,8191]
theorem w14_EffectsTells.tab7:rtab .any (opsOf Tryz.f3 7) = w14_EffectsTells.T7:=by kernel_rfl
theorem w14_EffectsTells.bits7:waitsOk w14_EffectsTells.T7.2 w14_EffectsTells.B7 = true:=by kernel_rfl
def w14_EffectsTells.T9:Bool × List (List Nat × List Nat):=(true,[([],[]),([0,0],[0]),([1],[1]),([1],[1]),([3,1,1],[1,3]),([2,4,4,1],[1,2,4]),([1,5],[1,5]),([6,5],[6]),([7],[7]),([7],[7]),([8,9,7,7],[7,8,9]),([7],[7]),([7],[7]),([11,12,10,7],[7,11,12]),([10,13,13,7],[7,10,13]),([7,14],[7,14]),([15,14],[15]),([16],[16]),([17,16,16],[16,17]),([16],[16]),([19,18,16],[16,19]),([20,20,16],[16,20]),([18,21,21,16],[16,18,21]),([16,22],[16,22]),([23,22,0,1,2,3,4,5,6,7,8,9,10,11,12,13,14,15,16,17,18,19,20,21,22,23],[23])])
def w14_EffectsTells.B9:List Nat:=[0,1,3,3,11,31,63,127,255,255,1023,255,255,8191,16383,32767,65535,131071,262143,131071,1048575,2097151,4194303,8388607,16777215]
theorem w14_EffectsTells.tab9:rtab .any (opsOf Tryz.f3 9) = w14_EffectsTells.T9:=by kernel_rfl
theorem w14_EffectsTells.bits9:waitsOk w14_EffectsTells.T9.2 w14_EffectsTells.B9 = true:=by kernel_rfl
theorem w14_EffectsTells.calls (k:Nat) (aI:Option Addr) (aH:Nat) (aC:List (S34)) (A1:Option Addr) (c1:Nat) (l1:List ByteArray) (A2:Option Addr) (c2:Nat) (l2:List ByteArray) (r:Bool) (w:World) (cH:Kd.C k34 w aI aC.length aC) (cI:aC.length≤aH) (hr1:Kd.C Kd.string w A1 l1.length l1) (hc1:l1.length≤c1) (hr2:Kd.C Kd.string w A2 l2.length l2) (hc2:l2.length≤c2) (h:w14_EffectsTells.f k aC l1 l2 = some r) :
    Calls Tryz.prog 3 #[.agg #[.slice aI aC.length aH],.slice A1 l1.length c1,.slice A2 l2.length c2] w fun e w' =>e = .returned (.bool r)∧Below w.heap.size w w':=by
 have hu24:=Tryz.underlying24;have hu34:=Tryz.underlying34;have aT:=a0D.mk cH;have aU:=a0D.mk cI;clear cH cI;have HR1:=a0D.mk hr1;have HC1:=a0D.mk hc1;clear hr1 hc1;have HR2:=a0D.mk hr2;have HC2:=a0D.mk hc2;clear hr2 hc2;have HB:=a0D.mk (zL0 w.heap.size w);have H:((r03_Big.f k aC).bind fun t367 =>(if t367 = true then (w14_EffectsTells.j0 k l1 l2 true aC) else (if (aC.length:Int) > 60 then (w14_EffectsTells.j0 k l1 l2 true aC) else (if (l1.length:Int) > 100 then (w14_EffectsTells.j0 k l1 l2 true aC) else (w14_EffectsTells.j0 k l1 l2 (decide ((l2.length:Int) > 100)) aC))))) = some r:=h;clear h;have HC4:=a0D.mk H;clear H;go_enter Tryz.func3,Tryz.ntmps3
 go_upto_region 1 with (first | ((with_reducible refine a0T (N:=3) rfl ?_);(try (refine a3D qH1 ?_;dsimp only));refine a2A ?hg (N:=3) ?hd (cs:=#[.slice aI aC.length aH]) (t:=24) ?hr ?_;(case hd =>rfl);(case hg =>rfl);(case hr =>first | (go_simp;done) | (go_simp;rfl));intro aE hg w5 hbox hb;have aK:=a0D.mk (a0K qC0 hb);have aM:=a0D.mk (hbox);have aN:=a0D.mk ((by rw [hg];exact (a0R qC0):w.heap.size≤aE));have aQ:=a0D.mk ((by rw [hg];exact (a0R qC0):w.heap.size≤aE));clear HB;have HB:=aK;have aA:=aM;have GW366:=aN;have aG:=aQ;clear aK aM aN aQ;clear hb hbox hg))
 (try simp only [Act.put,zC0,zG0,zH0])
 go_cut [26] (fun v26 wc =>∃ (kq:Nat) (bO:Bool),v26 = .bool bO∧a0D (w14_EffectsTells.j0 kq l1 l2 bO aC = some r)∧a0D (kq≤k)∧a0D (wc.heap[aE]? = some (.cells #[(.slice aI aC.length aH)] 24 (0,0)))∧a0D (Below w.heap.size w wc))
 case first =>
  have H:=HC4.out;clear HC4;obtain ⟨t367,A6,H⟩:=ob_ H;by_cases c7:t367 = true
  ·subst c7;rw [if_pos rfl] at H;have H':=a0D.mk H;clear H;have dJ:w5.cell? ⟨aE,0,none⟩ = some (.slice aI aC.length aH):=(a0L aA.out 0).trans rfl;have dK:=a0Q aA.out 0;go_wp2_with (first | ((with_reducible refine a0Y (f:=7) rfl ?_);refine a2F (some 10) rfl rfl Tryz.func7 qE0 rfl #[.agg #[.slice aI aC.length aH]] rfl qB0 ?_;(with_reducible refine (r03_Big.calls k _ _ aC true _ ?side1 ?side2 A6.out).mono ?_);(case side1 =>repeat (first | exact (Kd.a0H aT.out HB.out) | (with_reducible refine Kd.a1D ?_ _) | (with_reducible refine Kd.a1C ?_ _) | (with_reducible refine Kd.a1K ?_)));(case side2 =>exact aU.out);rintro e w9 ⟨rfl,hb⟩;refine ⟨_,rfl,?_⟩;replace aA:=a0D.mk (a0P (g:=aE) (o:=.cells #[.slice aI aC.length aH] 24 (0,0)) qJ0 hb);replace HB:=a0D.mk (a0K qG0 hb);(try clear hb)));go_meet
   case rel =>exact ⟨_,(true),qH0,H',⟨by first | omega | exact zM0 _⟩,⟨by (with_reducible repeat (first | refine a0N ?_ _ | refine a0O ?_ | refine a0J ?_ _));exact aA.out⟩,⟨by repeat (first | (with_reducible first | exact HB.out | apply a0C | apply a0A | apply a0E | refine a0F ?_ aG.out) | exact HB.out)⟩⟩
  ·replace c7:=Bool.eq_false_iff.mpr c7;subst c7;rw [if_neg (show ¬ (false = true) by decide)] at H;by_cases c10:(aC.length:Int) > 60
   ·rw [if_pos c10] at H;have c10b0:decide (60 < (aC.length:Int)) = true:=zD0 c10;have c10b1:decide (60 < aC.length) = true:=zD0 qD0;clear c10
    (first | rw [c10b0] | (simp only [a1L,a1Q];rw [c10b0]) | skip)
    have H':=a0D.mk H;clear H;have cN:w5.cell? ⟨aE,0,none⟩ = some (.slice aI aC.length aH):=(a0L aA.out 0).trans rfl;have cO:=a0Q aA.out 0;go_wp2_with (first | ((with_reducible refine a0Y (f:=7) rfl ?_);refine a2F (some 10) rfl rfl Tryz.func7 qE0 rfl #[.agg #[.slice aI aC.length aH]] rfl qB0 ?_;(with_reducible refine (r03_Big.calls k _ _ aC false _ ?side1 ?side2 A6.out).mono ?_);(case side1 =>repeat (first | exact (Kd.a0H aT.out HB.out) | (with_reducible refine Kd.a1D ?_ _) | (with_reducible refine Kd.a1C ?_ _) | (with_reducible refine Kd.a1K ?_)));(case side2 =>exact aU.out);rintro e w12 ⟨rfl,hb⟩;refine ⟨_,rfl,?_⟩;replace aA:=a0D.mk (a0P (g:=aE) (o:=.cells #[.slice aI aC.length aH] 24 (0,0)) qJ0 hb);replace HB:=a0D.mk (a0K qG0 hb);(try clear hb);have cQ:w12.cell? ⟨aE,0,none⟩ = some (.slice aI aC.length aH):=(a0L aA.out 0).trans rfl;have cR:=a0Q aA.out 0));go_meet
    case rel =>exact ⟨_,(true),qH0,H',⟨by first | omega | exact zM0 _⟩,⟨by (with_reducible repeat (first | refine a0N ?_ _ | refine a0O ?_ | refine a0J ?_ _));exact aA.out⟩,⟨by repeat (first | (with_reducible first | exact HB.out | apply a0C | apply a0A | apply a0E | refine a0F ?_ aG.out) | exact HB.out)⟩⟩
   ·rw [if_neg c10] at H;have c10b0:decide (60 < (aC.length:Int)) = false:=zO0 c10;have c10b1:decide (60 < aC.length) = false:=zO0 qD0;clear c10
    (first | rw [c10b0] | (simp only [a1L,a1Q];rw [c10b0]) | skip)
    by_cases c14:(l1.length:Int) > 100
    ·rw [if_pos c14] at H;have c14b0:decide (100 < (l1.length:Int)) = true:=zD0 c14;have c14b1:decide (100 < l1.length) = true:=zD0 qD0;clear c14;have H':=a0D.mk H;clear H;have cU:w5.cell? ⟨aE,0,none⟩ = some (.slice aI aC.length aH):=(a0L aA.out 0).trans rfl;have cV:=a0Q aA.out 0;go_wp2_with (first | ((with_reducible refine a0Y (f:=7) rfl ?_);refine a2F (some 10) rfl rfl Tryz.func7 qE0 rfl #[.agg #[.slice aI aC.length aH]] rfl qB0 ?_;(with_reducible refine (r03_Big.calls k _ _ aC false _ ?side1 ?side2 A6.out).mono ?_);(case side1 =>repeat (first | exact (Kd.a0H aT.out HB.out) | (with_reducible refine Kd.a1D ?_ _) | (with_reducible refine Kd.a1C ?_ _) | (with_reducible refine Kd.a1K ?_)));(case side2 =>exact aU.out);rintro e w16 ⟨rfl,hb⟩;refine ⟨_,rfl,?_⟩;replace aA:=a0D.mk (a0P (g:=aE) (o:=.cells #[.slice aI aC.length aH] 24 (0,0)) qJ0 hb);replace HB:=a0D.mk (a0K qG0 hb);(try clear hb);have cW:w16.cell? ⟨aE,0,none⟩ = some (.slice aI aC.length aH):=(a0L aA.out 0).trans rfl;have cX:=a0Q aA.out 0));go_meet
     case rel =>exact ⟨_,(true),qH0,H',⟨by first | omega | exact zM0 _⟩,⟨by (with_reducible repeat (first | refine a0N ?_ _ | refine a0O ?_ | refine a0J ?_ _));exact aA.out⟩,⟨by repeat (first | (with_reducible first | exact HB.out | apply a0C | apply a0A | apply a0E | refine a0F ?_ aG.out) | exact HB.out)⟩⟩
    ·rw [if_neg c14] at H;have c14b0:decide (100 < (l1.length:Int)) = false:=zO0 c14;have c14b1:decide (100 < l1.length) = false:=zO0 qD0;clear c14;have H':=a0D.mk H;clear H;have cY:w5.cell? ⟨aE,0,none⟩ = some (.slice aI aC.length aH):=(a0L aA.out 0).trans rfl;have cZ:=a0Q aA.out 0;go_wp2_with (first | ((with_reducible refine a0Y (f:=7) rfl ?_);refine a2F (some 10) rfl rfl Tryz.func7 qE0 rfl #[.agg #[.slice aI aC.length aH]] rfl qB0 ?_;(with_reducible refine (r03_Big.calls k _ _ aC false _ ?side1 ?side2 A6.out).mono ?_);(case side1 =>repeat (first | exact (Kd.a0H aT.out HB.out) | (with_reducible refine Kd.a1D ?_ _) | (with_reducible refine Kd.a1C ?_ _) | (with_reducible refine Kd.a1K ?_)));(case side2 =>exact aU.out);rintro e w19 ⟨rfl,hb⟩;refine ⟨_,rfl,?_⟩;replace aA:=a0D.mk (a0P (g:=aE) (o:=.cells #[.slice aI aC.length aH] 24 (0,0)) qJ0 hb);replace HB:=a0D.mk (a0K qG0 hb);(try clear hb);have dA:w19.cell? ⟨aE,0,none⟩ = some (.slice aI aC.length aH):=(a0L aA.out 0).trans rfl;have dB:=a0Q aA.out 0));go_meet
     case rel =>exact ⟨_,(decide ((l2.length:Int) > 100)),qH0,H',⟨by first | omega | exact zM0 _⟩,⟨by (with_reducible repeat (first | refine a0N ?_ _ | refine a0O ?_ | refine a0J ?_ _));exact aA.out⟩,⟨by repeat (first | (with_reducible first | exact HB.out | apply a0C | apply a0A | apply a0E | refine a0F ?_ aG.out) | exact HB.out)⟩⟩
 case rest =>
  clear HC4;obtain ⟨kq,bO,rfl,HA,HJ3,aA,HB⟩:=hcut;cases kq with
  | zero =>exact absurd HA.out (by simp [w14_EffectsTells.j0])
  | succ kj3 =>
   have H:=HA.out;clear HA;simp only [w14_EffectsTells.j0] at H;by_cases c21:bO = true
   ·subst c21;rw [if_pos rfl] at H;obtain ⟨t368,A22,H⟩:=ob_ H;obtain rfl:=zI0 H;go_wp2_with (first | ((with_reducible refine a0Y (f:=8) rfl ?_);refine a2F (some 27) rfl rfl Tryz.func8 qE0 rfl #[] rfl qB0 ?_;(with_reducible refine (w14_fixed.calls  t368 _ A22.out).mono ?_);rintro e w23 ⟨rfl,hb⟩;refine ⟨_,rfl,?_⟩;replace aA:=a0D.mk (a0P (g:=aE) (o:=.cells #[.slice aI aC.length aH] 24 (0,0)) qJ0 hb);replace HB:=a0D.mk (a0K qG0 hb);(try clear hb)));go_ret;exact qY3
   ·replace c21:=Bool.eq_false_iff.mpr c21;subst c21;rw [if_neg (show ¬ (false = true) by decide)] at H;obtain ⟨t369,A24,H⟩:=ob_ H;have H':=a0D.mk H;clear H;have dC:wc.cell? ⟨aE,0,none⟩ = some (.slice aI aC.length aH):=(a0L aA.out 0).trans rfl;have dD:=a0Q aA.out 0;go_wp2_with (first | ((with_reducible refine a0Y (f:=9) rfl ?_);refine a2F (some 29) rfl rfl Tryz.func9 qE0 rfl #[.agg #[.slice aI aC.length aH]] rfl qB0 ?_;(with_reducible refine (effects_Sigs.calls _ _ aC t369 _ ?side1 ?side2 A24.out).mono ?_);(case side1 =>repeat (first | exact (Kd.a0H aT.out HB.out) | (with_reducible refine Kd.a1D ?_ _) | (with_reducible refine Kd.a1C ?_ _) | (with_reducible refine Kd.a1K ?_)));(case side2 =>exact aU.out);rintro e w26 ⟨v370,rfl,ho0,hb⟩;refine ⟨_,rfl,?_⟩;have HO371:=a0D.mk (Kd.a7C (Kd.a3Q (ok':=fun k_ =>k_≠aE) ho0 (fun k_ hk_ =>(Kd.freshB (g:=aE) (o:=.cells #[.slice aI aC.length aH] 24 (0,0)) qJ0 k_ hk_))) (a0R qG0));replace aA:=a0D.mk (a0P (g:=aE) (o:=.cells #[.slice aI aC.length aH] 24 (0,0)) qJ0 hb);replace HB:=a0D.mk (a0K qG0 hb);(try clear hb);(try clear ho0)));go_loopg [8] kj3 (fun kq v8 w' =>∃ (aJ:Int),v8 = .int .i64 aJ∧a0D (w14_EffectsTells.l0 kq l1 l2 t369 aJ aC = some r)∧a0D (kq≤kj3)∧a0D (Kd.N k42 42 w' w.heap.size (fun k_ =>k_≠aE) v370 t369)∧a0D (w'.heap[aE]? = some (.cells #[(.slice aI aC.length aH)] 24 (0,0)))∧a0D (Below w.heap.size w w'))
    case atStart =>exact ⟨(0),qH0,H',⟨zM0 _⟩,⟨by (with_reducible repeat (first | apply Kd.a1P | apply Kd.a1O | apply Kd.a1T));exact HO371.out⟩,⟨by (with_reducible repeat (first | refine a0N ?_ _ | refine a0O ?_ | refine a0J ?_ _));exact aA.out⟩,⟨by repeat (first | (with_reducible first | exact HB.out | apply a0C | apply a0A | apply a0E | refine a0F ?_ aG.out) | exact HB.out)⟩⟩
    case round =>
     clear H';obtain ⟨aJ,rfl,HA,HK2,aD,aA,HB⟩:=hrel;cases gk with
     | zero =>exact absurd HA.out (by simp [w14_EffectsTells.l0])
     | succ k2 =>
      have H:=HA.out;clear HA;simp only [w14_EffectsTells.l0] at H;by_cases c27:aJ < (aC.length:Int)
      ·rw [if_pos c27] at H;have c27b0:decide (aJ < (aC.length:Int)) = true:=zD0 c27;clear c27;by_cases c28:0≤aJ
       ·rw [if_pos c28] at H;have c28b0:decide (0≤aJ) = true:=zD0 c28;clear c28;obtain ⟨t373,A29,H⟩:=ob_ H;obtain ⟨t377,A30,H⟩:=ob_ H;obtain ⟨t380,A31,H⟩:=ob_ H;by_cases c32:t380 = true
        ·subst c32;rw [if_pos rfl] at H;have H':=a0D.mk H;clear H;have dE:=cf1 aA.out
         try go_wp2
         have aK:=a0D.mk (Kd.a1T aD.out);have aM:=a0D.mk (a0O aA.out);have aN:=a0D.mk (a0E HB.out);clear aD;clear aA;clear HB;have aD:=aK;have aA:=aM;have HB:=aN;clear aK aM aN;have p372:0≤(aJ:Int):=zB0 qA0;have q372:aJ < (aC.length:Int):=zB0 qA0;obtain ⟨ad372,bJ,bK,bM,bN,e372,aZ,aV,aW,bP,bQ,bR,bS⟩:=a5F aT.out aJ p372 q372;have bA:=aW;have bC:=aV;have bD:=aZ;cases e372;replace aZ:=a0B HB.out aZ;replace aV:=a0B HB.out aV;replace aW:=a0B HB.out aW;have bT:=a0D.mk bQ;have cC:=a0D.mk bP;clear bQ bP;have bU:=a0D.mk bS;have cD:=a0D.mk bR;clear bS bR;replace p372:=eq_true p372;replace q372:=eq_true q372;have p376:0≤(aJ:Int):=zB0 qA0;have q376:aJ < (aC.length:Int):=zB0 qA0;obtain ⟨ad376,dL,dM,dN,dO,e376,bE,aX,aY,bV,bW,bX,bY⟩:=a5F aT.out aJ p376 q376;have bF:=aY;have bG:=aX;have bH:=bE;obtain rfl:ad372 = ad376:=(by injection e376);replace bE:=a0B HB.out bE;replace aX:=a0B HB.out aX;replace aY:=a0B HB.out aY;have bZ:=a0D.mk bW;have cE:=a0D.mk bV;clear bW bV;have cA:=a0D.mk bY;have cG:=a0D.mk bX;clear bY bX;replace p376:=eq_true p376;replace q376:=eq_true q376;have ea_:=zI0 (aV.symm.trans aX);injection ea_ with ea_ en_ ec_
         subst ea_;subst ec_;clear en_;have ea_:=zI0 (aW.symm.trans aY);injection ea_ with ea_ en_ ec_
         subst ea_;subst ec_;clear en_;refine a7Y (n:=14) (S:=fun w' =>w'.cell? ⟨aE,0,none⟩ = some (.slice (some ad372) aC.length aH)∧w'.cell? (ad372.add ((aJ).toNat * 3)) = some (.string ((a0S aC aJ).f0))∧w'.cell? ⟨(ad372.add ((aJ).toNat * 3)).block,(ad372.add ((aJ).toNat * 3)).off + 1,none⟩ = some (.slice bJ ((a0S aC aJ).f1).length bK)∧w'.cell? ⟨(ad372.add ((aJ).toNat * 3)).block,(ad372.add ((aJ).toNat * 3)).off + 2,none⟩ = some (.slice bM ((a0S aC aJ).f2).length bN)∧w'.cell? (ad372.add ((aJ).toNat * 3)) = some (.string ((a0S aC aJ).f0))∧w'.cell? ⟨(ad372.add ((aJ).toNat * 3)).block,(ad372.add ((aJ).toNat * 3)).off + 1,none⟩ = some (.slice bJ ((a0S aC aJ).f1).length bK)∧w'.cell? ⟨(ad372.add ((aJ).toNat * 3)).block,(ad372.add ((aJ).toNat * 3)).off + 2,none⟩ = some (.slice bM ((a0S aC aJ).f2).length bN)) (ds:=[]) #[false,false,false,false,false,false,false,false,false,false,false,false,false,false] qE0 rfl rfl ⟨(a0L aA.out 0).trans rfl,(a0B HB.out bD),(a0B HB.out bC),(a0B HB.out bA),(a0B HB.out bH),(a0B HB.out bG),(a0B HB.out bF)⟩ (fun hHeld =>?_);refine a4L w14_EffectsTells.tab7 w14_EffectsTells.bits7 (fun HT_ HW_ =>?_);generalize wr.drew = w34 at aD aA HB bT bU bZ cA aZ aV aW bE aX aY hHeld ⊢;refine pz_ 0 (some 37) HT_.out rfl rfl (fun _ _ _ h =>h) (h:=?_);refine pz_ 2 (some 39) HT_.out rfl rfl (fun _ _ _ h =>h) (h:=?_);refine pz_ 6 (some 43) HT_.out rfl rfl (fun _ _ _ h =>h) (h:=?_);refine pz_ 8 (some 45) HT_.out rfl rfl (fun _ _ _ h =>h) (h:=?_);refine a5D (i:=1) (N:=some 38) (v:=?_) (a':=?_) #[true,true,true,false,false,false,true,false,true,false,false,false,false,false] rfl rfl (a2L HT_.out HW_.out qE0) (fun _ _ _ h =>h) (Or.inl ⟨by rfl,?_⟩) hHeld ?_ ?_;rotate_left
         ·rintro w' ⟨s0,s1,s2,s3,s4,s5,s6⟩;go_simp
          with_reducible rfl
         rotate_left
         ·simp only [Act.put,zC0,zG0,zH0,a1L,a1Q]
          rfl
         refine pz_ 3 (some 40) HT_.out rfl rfl (fun _ _ _ h =>h) (h:=?_);refine a5D (i:=4) (N:=some 41) (v:=?_) (a':=?_) #[true,true,true,true,true,false,true,false,true,false,false,false,false,false] rfl rfl (a2L HT_.out HW_.out qE0) (fun _ _ _ h =>h) (Or.inl ⟨by rfl,?_⟩) hHeld ?_ ?_;rotate_left
         ·rintro w' ⟨s0,s1,s2,s3,s4,s5,s6⟩;go_simp
          with_reducible rfl
         rotate_left
         ·simp only [Act.put,zC0,zG0,zH0,a1L,a1Q]
          rfl
         refine a5D (i:=7) (N:=some 44) (v:=?_) (a':=?_) #[true,true,true,true,true,false,true,true,true,false,false,false,false,false] rfl rfl (a2L HT_.out HW_.out qE0) (fun _ _ _ h =>h) (Or.inl ⟨by rfl,?_⟩) hHeld ?_ ?_;rotate_left
         ·rintro w' ⟨s0,s1,s2,s3,s4,s5,s6⟩;go_simp
          with_reducible rfl
         rotate_left
         ·simp only [Act.put,zC0,zG0,zH0,a1L,a1Q]
          rfl
         refine pz_ 9 (some 46) HT_.out rfl rfl (fun _ _ _ h =>h) (h:=?_);refine a5D (i:=10) (N:=some 47) (v:=?_) (a':=?_) #[true,true,true,true,true,false,true,true,true,true,true,false,false,false] rfl rfl (a2L HT_.out HW_.out qE0) (fun _ _ _ h =>h) (Or.inl ⟨by rfl,?_⟩) hHeld ?_ ?_;rotate_left
         ·rintro w' ⟨s0,s1,s2,s3,s4,s5,s6⟩;go_simp
          with_reducible rfl
         rotate_left
         ·simp only [Act.put,zC0,zG0,zH0,a1L,a1Q]
          rfl
         refine one_ (i:=5) (N:=some 42) #[true,true,true,true,true,true,true,true,true,true,true,false,false,false] rfl rfl (a3B HT_.out qE0) qF0 (fun K hK =>?_);refine a4P Tryz.func11 qE0 rfl #[.agg #[.string ((a0S aC aJ).f0),.slice bJ ((a0S aC aJ).f1).length bK,.slice bM ((a0S aC aJ).f2).length bN]] qH1 rfl rfl qB0 ?_
         with_reducible refine (effects_Own.calls ((a0S aC aJ).f0) _ _ ((a0S aC aJ).f1) _ _ ((a0S aC aJ).f2) t373 _ ?side1 ?side2 ?side3 ?side4 A29.out).mono ?_
         (case side1 =>repeat (first | exact (Kd.a0H bT.out HB.out) | (with_reducible refine Kd.a1D ?_ _) | (with_reducible refine Kd.a1C ?_ _) | (with_reducible refine Kd.a1K ?_)))
         (case side2 =>exact cC.out)
         (case side3 =>repeat (first | exact (Kd.a0H bU.out HB.out) | (with_reducible refine Kd.a1D ?_ _) | (with_reducible refine Kd.a1C ?_ _) | (with_reducible refine Kd.a1K ?_)))
         (case side4 =>exact cD.out)
         rintro e w35 ⟨v374,rfl,ho0,hb⟩;refine ⟨_,rfl,?_⟩;have aK:=a0D.mk (Kd.a2P qK0 (Kd.a2X ho0) hb);have aM:=a0D.mk (Kd.a2H ho0 (a0R qG0));have aN:=a0D.mk (a0P (g:=aE) (o:=.cells #[.slice (some ad372) aC.length aH] 24 (0,0)) qJ0 hb);have aQ:=a0D.mk (a0K qG0 hb);clear aD;clear aA;clear HB;have aD:=aK;have HO375:=aM;have aA:=aN;have HB:=aQ;clear aK aM aN aQ
         (try clear hb)
         (try clear hb2)
         (try clear hk)
         (try clear hi)
         (try clear ho0)
         refine hK.out _ _ ⟨(a0L aA.out 0).trans rfl,(a0B HB.out bD),(a0B HB.out bC),(a0B HB.out bA),(a0B HB.out bH),(a0B HB.out bG),(a0B HB.out bF)⟩ (fun hHeld =>?_);clear hK K;refine a4M (a':=?_) ?_ ?_;rotate_left
         ·show Act.put _ (some 42) _ = _;simp only [Act.put,zC0,zG0,zH0,a1L,a1Q]
          rfl
         refine one_ (i:=11) (N:=some 48) #[true,true,true,true,true,true,true,true,true,true,true,true,false,false] rfl rfl (a3B HT_.out qE0) qF0 (fun K hK =>?_);refine a4P Tryz.func12 qE0 rfl #[.agg #[.string ((a0S aC aJ).f0),.slice bJ ((a0S aC aJ).f1).length bK,.slice bM ((a0S aC aJ).f2).length bN]] qH1 rfl rfl qB0 ?_
         with_reducible refine (r14_Own.calls ((a0S aC aJ).f0) _ _ ((a0S aC aJ).f1) _ _ ((a0S aC aJ).f2) t377 _ ?side1 ?side2 ?side3 ?side4 A30.out).mono ?_
         (case side1 =>repeat (first | exact (Kd.a0H bZ.out HB.out) | (with_reducible refine Kd.a1D ?_ _) | (with_reducible refine Kd.a1C ?_ _) | (with_reducible refine Kd.a1K ?_)))
         (case side2 =>exact cE.out)
         (case side3 =>repeat (first | exact (Kd.a0H cA.out HB.out) | (with_reducible refine Kd.a1D ?_ _) | (with_reducible refine Kd.a1C ?_ _) | (with_reducible refine Kd.a1K ?_)))
         (case side4 =>exact cG.out)
         rintro e w36 ⟨v378,rfl,ho0,hb⟩;refine ⟨_,rfl,?_⟩;have aK:=a0D.mk (Kd.a2P qK0 (Kd.a2X ho0) hb);have aM:=a0D.mk (Kd.a4K qI2 (Kd.a2X ho0) hb);have aN:=a0D.mk (Kd.a2H (Kd.a7F ho0 (Kd.R_lt qI2)) (a0R qG0));have aQ:=a0D.mk (a0P (g:=aE) (o:=.cells #[.slice (some ad372) aC.length aH] 24 (0,0)) qJ0 hb);have bI:=a0D.mk (a0K qG0 hb);clear aD;clear HO375;clear aA;clear HB;have aD:=aK;have HO375:=aM;have HO379:=aN;have aA:=aQ;have HB:=bI;clear aK aM aN aQ bI
         (try clear hb)
         (try clear hb2)
         (try clear hk)
         (try clear hi)
         (try clear ho0)
         obtain ⟨Ao37,co37,eo37⟩:=Kd.a1Y HO375.out
         (first | subst eo37 | (injection eo37 with f1_ f2_ f3_;have f4_:=f1_.symm;have f5_:=f3_.symm;clear f1_ f2_ f3_;subst f4_;subst f5_))
         obtain ⟨Ao38,co38,eo38⟩:=Kd.a1Y HO379.out
         (first | subst eo38 | (injection eo38 with f1_ f2_ f3_;have f4_:=f1_.symm;have f5_:=f3_.symm;clear f1_ f2_ f3_;subst f4_;subst f5_))
         refine hK.out _ _ ⟨(a0L aA.out 0).trans rfl,(a0B HB.out bD),(a0B HB.out bC),(a0B HB.out bA),(a0B HB.out bH),(a0B HB.out bG),(a0B HB.out bF)⟩ (fun hHeld =>?_);clear hK K;refine a4M (a':=?_) ?_ ?_;rotate_left
         ·show Act.put _ (some 48) _ = _;simp only [Act.put,zC0,zG0,zH0,a1L,a1Q]
          rfl
         refine one_ (i:=12) (N:=some 49) #[true,true,true,true,true,true,true,true,true,true,true,true,true,false] rfl rfl (a3B HT_.out qE0) qF0 (fun K hK =>?_);refine a4P Tryz.func10 qE0 rfl #[.slice Ao37 t373.length co37,.slice Ao38 t377.length co38] qH1 rfl rfl qB0 ?_
         with_reducible refine (r14_Texts.calls k2 _ _ t373 _ _ t377 true _ ?side1 ?side2 ?side3 ?side4 A31.out).mono ?_
         (case side1 =>repeat (first | exact (Kd.a1H HO375.out).2.2 | (with_reducible refine Kd.a1D ?_ _) | (with_reducible refine Kd.a1C ?_ _) | (with_reducible refine Kd.a1K ?_)))
         (case side2 =>exact (Kd.a1H HO375.out).2.1)
         (case side3 =>repeat (first | exact (Kd.a1H HO379.out).2.2 | (with_reducible refine Kd.a1D ?_ _) | (with_reducible refine Kd.a1C ?_ _) | (with_reducible refine Kd.a1K ?_)))
         (case side4 =>exact (Kd.a1H HO379.out).2.1)
         rintro e w' ⟨rfl,⟨nd,rfl⟩⟩;refine ⟨_,rfl,?_⟩;refine hK.out _ _ ⟨(a0L aA.out 0).trans rfl,(a0B HB.out bD),(a0B HB.out bC),(a0B HB.out bA),(a0B HB.out bH),(a0B HB.out bG),(a0B HB.out bF)⟩ (fun hHeld =>?_);clear hK K;refine a4M (a':=?_) ?_ ?_;rotate_left
         ·show Act.put _ (some 49) _ = _;simp only [Act.put,zC0,zG0,zH0,a1L,a1Q]
          rfl
         refine pz_ 13 (some 50) HT_.out rfl rfl (fun _ _ _ h =>h) (h:=?_);refine b2C (a6F HT_.out qE0) ?_
         try go_wp2
         go_roundg k2
         case measure =>have:=HJ3.out;have:=HK2.out;omega
         case rel =>exact ⟨(wrap64 (aJ + 1)),qH0,H',⟨by have:=HJ3.out;have:=HK2.out;omega⟩,⟨by (with_reducible repeat (first | apply Kd.a1P | apply Kd.a1O | apply Kd.a1T));exact Kd.a3Q aD.out (fun _ hk =>hk.1.1)⟩,⟨by (with_reducible repeat (first | refine a0N ?_ _ | refine a0O ?_ | refine a0J ?_ _));exact aA.out⟩,⟨by repeat (first | (with_reducible first | exact HB.out | apply a0C | apply a0A | apply a0E | refine a0F ?_ aG.out) | exact HB.out)⟩⟩
        ·replace c32:=Bool.eq_false_iff.mpr c32;subst c32;rw [if_neg (show ¬ (false = true) by decide)] at H;exact absurd H qI0
       ·rw [if_neg c28] at H;exact absurd H qI0
      ·rw [if_neg c27] at H;have c27b0:decide (aJ < (aC.length:Int)) = false:=zO0 c27;clear c27;obtain ⟨t381,A39,H⟩:=ob_ H;by_cases c40:t381 = true
       ·subst c40;rw [if_pos rfl] at H;obtain ⟨t382,A41,H⟩:=ob_ H;obtain ⟨t385,A42,H⟩:=ob_ H;by_cases c43:t385 = true
        ·subst c43;rw [if_pos rfl] at H;obtain ⟨t386,A44,H⟩:=ob_ H;obtain ⟨t389,A45,H⟩:=ob_ H;obtain ⟨t392,A46,H⟩:=ob_ H;by_cases c47:t392 = true
         ·subst c47;rw [if_pos rfl] at H;obtain ⟨t393,A48,H⟩:=ob_ H;obtain ⟨t396,A49,H⟩:=ob_ H;obtain ⟨t399,A50,H⟩:=ob_ H;obtain ⟨t402,A51,H⟩:=ob_ H;obtain rfl:=zI0 H;have dF:=cf1 aA.out
          try go_wp2
          have aK:=a0D.mk (Kd.a1T aD.out);have aM:=a0D.mk (a0O aA.out);have aN:=a0D.mk (a0E HB.out);clear aD;clear aA;clear HB;have aD:=aK;have aA:=aM;have HB:=aN;clear aK aM aN;refine a7Y (n:=25) (S:=fun w' =>w'.cell? ⟨aE,0,none⟩ = some (.slice aI aC.length aH)) (ds:=[]) #[false,false,false,false,false,false,false,false,false,false,false,false,false,false,false,false,false,false,false,false,false,false,false,false,false] qE0 rfl rfl ((a0L aA.out 0).trans rfl) (fun hHeld =>?_);refine a4L w14_EffectsTells.tab9 w14_EffectsTells.bits9 (fun HT_ HW_ =>?_);generalize wr.drew = w53 at aD aA HB hHeld ⊢;refine one_ (i:=0) (N:=some 51) #[true,false,false,false,false,false,false,false,false,false,false,false,false,false,false,false,false,false,false,false,false,false,false,false,false] rfl rfl (a3B HT_.out qE0) qF0 (fun K hK =>?_);refine a4P Tryz.func8 qE0 rfl #[] qH1 rfl rfl qB0 ?_
          with_reducible refine (w14_fixed.calls  true _ A39.out).mono ?_
          rintro e w54 ⟨rfl,hb⟩;refine ⟨_,rfl,?_⟩;have aK:=a0D.mk (Kd.a2B qK0 hb);have aM:=a0D.mk (a0P (g:=aE) (o:=.cells #[.slice aI aC.length aH] 24 (0,0)) qJ0 hb);have aN:=a0D.mk (a0K qG0 hb);clear aD;clear aA;clear HB;have aD:=aK;have aA:=aM;have HB:=aN;clear aK aM aN
          (try clear hb)
          (try clear hb2)
          (try clear hk)
          (try clear hi)
          refine hK.out _ _ ((a0L aA.out 0).trans rfl) (fun hHeld =>?_);clear hK K;refine a4M (a':=?_) ?_ ?_;rotate_left
          ·show Act.put _ (some 51) _ = _;simp only [Act.put,zC0,zG0,zH0,a1L,a1Q]
           rfl
          refine pz_ 1 (some 52) HT_.out rfl rfl (fun _ _ _ h =>h) (h:=?_);refine pz_ 2 (some 53) HT_.out rfl rfl (fun _ _ _ h =>h) (h:=?_);refine a5D (i:=3) (N:=some 54) (v:=?_) (a':=?_) #[true,true,true,true,false,false,false,false,false,false,false,false,false,false,false,false,false,false,false,false,false,false,false,false,false] rfl rfl (a2L HT_.out HW_.out qE0) (fun _ _ _ h =>h) (Or.inl ⟨by rfl,?_⟩) hHeld ?_ ?_;rotate_left
          ·intro w' s0;go_simp
           with_reducible rfl
          rotate_left
          ·simp only [Act.put,zC0,zG0,zH0,a1L,a1Q]
           rfl
          refine one_ (i:=4) (N:=some 55) #[true,true,true,true,true,false,false,false,false,false,false,false,false,false,false,false,false,false,false,false,false,false,false,false,false] rfl rfl (a3B HT_.out qE0) qF0 (fun K hK =>?_);refine a4P Tryz.func14 qE0 rfl #[.agg #[.slice aI aC.length aH]] qH1 rfl rfl qB0 ?_
          with_reducible refine (r14_Sigs.calls k2 _ _ aC t382 _ ?side1 ?side2 A41.out).mono ?_
          (case side1 =>repeat (first | exact (Kd.a0H aT.out HB.out) | (with_reducible refine Kd.a1D ?_ _) | (with_reducible refine Kd.a1C ?_ _) | (with_reducible refine Kd.a1K ?_)))
          (case side2 =>exact aU.out)
          rintro e w55 ⟨v383,rfl,ho0,hb⟩;refine ⟨_,rfl,?_⟩;have aK:=a0D.mk (Kd.a2P qK0 (Kd.a3H (Kd.S_N ho0)) hb);have aM:=a0D.mk (Kd.a7C (Kd.a3Q (ok':=fun k_ =>some k_≠(v370:Value).ownBlock∧k_≠aE) (Kd.S_N (Kd.a7B ho0)) (fun k_ hk_ =>⟨(Kd.fresh' (Kd.N_lt qK0) k_ hk_.2.1),(Kd.freshB (g:=aE) (o:=.cells #[.slice aI aC.length aH] 24 (0,0)) qJ0 k_ hk_.2.1)⟩)) (a0R qG0));have aN:=a0D.mk (a0P (g:=aE) (o:=.cells #[.slice aI aC.length aH] 24 (0,0)) qJ0 hb);have aQ:=a0D.mk (a0K qG0 hb);clear aD;clear aA;clear HB;have aD:=aK;have HO384:=aM;have aA:=aN;have HB:=aQ;clear aK aM aN aQ
          (try clear hb)
          (try clear hb2)
          (try clear hk)
          (try clear hi)
          (try clear ho0)
          obtain ⟨Ao56,co56,eo56⟩:=Kd.a3V aD.out
          (first | subst eo56 | (injection eo56 with f1_ f2_ f3_;have f4_:=f1_.symm;have f5_:=f3_.symm;clear f1_ f2_ f3_;subst f4_;subst f5_))
          obtain ⟨Ao57,co57,eo57⟩:=Kd.a3V HO384.out
          (first | subst eo57 | (injection eo57 with f1_ f2_ f3_;have f4_:=f1_.symm;have f5_:=f3_.symm;clear f1_ f2_ f3_;subst f4_;subst f5_))
          refine hK.out _ _ ((a0L aA.out 0).trans rfl) (fun hHeld =>?_);clear hK K;refine a4M (a':=?_) ?_ ?_;rotate_left
          ·show Act.put _ (some 55) _ = _;simp only [Act.put,zC0,zG0,zH0,a1L,a1Q]
           rfl
          refine one_ (i:=5) (N:=some 56) #[true,true,true,true,true,true,false,false,false,false,false,false,false,false,false,false,false,false,false,false,false,false,false,false,false] rfl rfl (a3B HT_.out qE0) qF0 (fun K hK =>?_);refine a4P Tryz.func13 qE0 rfl #[.slice Ao56 t369.length co56,.slice Ao57 t382.length co57] qH1 rfl rfl qB0 ?_
          with_reducible refine (r14_Same.calls _ _ t369 _ _ t382 true _ ?side1 ?side2 ?side3 ?side4 A42.out).mono ?_
          (case side1 =>repeat (first | exact (Kd.a2G aD.out).2.2 | (with_reducible refine Kd.a1D ?_ _) | (with_reducible refine Kd.a1C ?_ _) | (with_reducible refine Kd.a1K ?_)))
          (case side2 =>exact (Kd.a2G aD.out).2.1)
          (case side3 =>repeat (first | exact (Kd.a2G HO384.out).2.2 | (with_reducible refine Kd.a1D ?_ _) | (with_reducible refine Kd.a1C ?_ _) | (with_reducible refine Kd.a1K ?_)))
          (case side4 =>exact (Kd.a2G HO384.out).2.1)
          rintro e w58 ⟨rfl,hb⟩;refine ⟨_,rfl,?_⟩;have aK:=a0D.mk (Kd.a2B qK0 hb);have aM:=a0D.mk (Kd.a2B qP0 hb);have aN:=a0D.mk (a0P (g:=aE) (o:=.cells #[.slice aI aC.length aH] 24 (0,0)) qJ0 hb);have aQ:=a0D.mk (a0K qG0 hb);clear aD;clear HO384;clear aA;clear HB;have aD:=aK;have HO384:=aM;have aA:=aN;have HB:=aQ;clear aK aM aN aQ
          (try clear hb)
          (try clear hb2)
          (try clear hk)
          (try clear hi)
          refine hK.out _ _ ((a0L aA.out 0).trans rfl) (fun hHeld =>?_);clear hK K;refine a4M (a':=?_) ?_ ?_;rotate_left
          ·show Act.put _ (some 56) _ = _;simp only [Act.put,zC0,zG0,zH0,a1L,a1Q]
           rfl
          refine pz_ 6 (some 57) HT_.out rfl rfl (fun _ _ _ h =>h) (h:=?_);refine pz_ 7 (some 58) HT_.out rfl rfl (fun _ _ _ h =>h) (h:=?_);refine pz_ 8 (some 59) HT_.out rfl rfl (fun _ _ _ h =>h) (h:=?_);refine pz_ 9 (some 60) HT_.out rfl rfl (fun _ _ _ h =>h) (h:=?_);refine pz_ 11 (some 62) HT_.out rfl rfl (fun _ _ _ h =>h) (h:=?_);refine pz_ 12 (some 63) HT_.out rfl rfl (fun _ _ _ h =>h) (h:=?_);refine one_ (i:=10) (N:=some 61) #[true,true,true,true,true,true,true,true,true,true,true,true,true,false,false,false,false,false,false,false,false,false,false,false,false] rfl rfl (a3B HT_.out qE0) qF0 (fun K hK =>?_);refine a4P Tryz.func15 qE0 rfl #[.slice A1 l1.length c1,.slice A2 l2.length c2] qH1 rfl rfl qB0 ?_
          with_reducible refine (effects_Union.calls _ _ l1 _ _ l2 t386 _ ?side1 ?side2 ?side3 ?side4 A44.out).mono ?_
          (case side1 =>repeat (first | exact (Kd.a0H HR1.out HB.out) | (with_reducible refine Kd.a1D ?_ _) | (with_reducible refine Kd.a1C ?_ _) | (with_reducible refine Kd.a1K ?_)))
          (case side2 =>exact HC1.out)
          (case side3 =>repeat (first | exact (Kd.a0H HR2.out HB.out) | (with_reducible refine Kd.a1D ?_ _) | (with_reducible refine Kd.a1C ?_ _) | (with_reducible refine Kd.a1K ?_)))
          (case side4 =>exact HC2.out)
          rintro e w59 ⟨v387,rfl,ho0,hb⟩;refine ⟨_,rfl,?_⟩;have aK:=a0D.mk (Kd.a2P qK0 (Kd.a2X ho0) hb);have aM:=a0D.mk (Kd.a2P qP0 (Kd.a2X ho0) hb);have aN:=a0D.mk (Kd.a2H ho0 (a0R qG0));have aQ:=a0D.mk (a0P (g:=aE) (o:=.cells #[.slice aI aC.length aH] 24 (0,0)) qJ0 hb);have bI:=a0D.mk (a0K qG0 hb);clear aD;clear HO384;clear aA;clear HB;have aD:=aK;have HO384:=aM;have HO388:=aN;have aA:=aQ;have HB:=bI;clear aK aM aN aQ bI
          (try clear hb)
          (try clear hb2)
          (try clear hk)
          (try clear hi)
          (try clear ho0)
          refine hK.out _ _ ((a0L aA.out 0).trans rfl) (fun hHeld =>?_);clear hK K;refine a4M (a':=?_) ?_ ?_;rotate_left
          ·show Act.put _ (some 61) _ = _;simp only [Act.put,zC0,zG0,zH0,a1L,a1Q]
           rfl
          refine one_ (i:=13) (N:=some 64) #[true,true,true,true,true,true,true,true,true,true,true,true,true,true,false,false,false,false,false,false,false,false,false,false,false] rfl rfl (a3B HT_.out qE0) qF0 (fun K hK =>?_);refine a4P Tryz.func16 qE0 rfl #[.slice A1 l1.length c1,.slice A2 l2.length c2] qH1 rfl rfl qB0 ?_
          with_reducible refine (r14_Union.calls _ _ l1 _ _ l2 t389 _ ?side1 ?side2 ?side3 ?side4 A45.out).mono ?_
          (case side1 =>repeat (first | exact (Kd.a0H HR1.out HB.out) | (with_reducible refine Kd.a1D ?_ _) | (with_reducible refine Kd.a1C ?_ _) | (with_reducible refine Kd.a1K ?_)))
          (case side2 =>exact HC1.out)
          (case side3 =>repeat (first | exact (Kd.a0H HR2.out HB.out) | (with_reducible refine Kd.a1D ?_ _) | (with_reducible refine Kd.a1C ?_ _) | (with_reducible refine Kd.a1K ?_)))
          (case side4 =>exact HC2.out)
          rintro e w60 ⟨v390,rfl,ho0,hb⟩;refine ⟨_,rfl,?_⟩;have aK:=a0D.mk (Kd.a2P qK0 (Kd.a2X ho0) hb);have aM:=a0D.mk (Kd.a2P qP0 (Kd.a2X ho0) hb);have aN:=a0D.mk (Kd.a4K qR0 (Kd.a2X ho0) hb);have aQ:=a0D.mk (Kd.a2H (Kd.a7F ho0 (Kd.R_lt qR0)) (a0R qG0));have bI:=a0D.mk (a0P (g:=aE) (o:=.cells #[.slice aI aC.length aH] 24 (0,0)) qJ0 hb);have cB:=a0D.mk (a0K qG0 hb);clear aD;clear HO384;clear HO388;clear aA;clear HB;have aD:=aK;have HO384:=aM;have HO388:=aN;have HO391:=aQ;have aA:=bI;have HB:=cB;clear aK aM aN aQ bI cB
          (try clear hb)
          (try clear hb2)
          (try clear hk)
          (try clear hi)
          (try clear ho0)
          obtain ⟨Ao61,co61,eo61⟩:=Kd.a1Y HO388.out
          (first | subst eo61 | (injection eo61 with f1_ f2_ f3_;have f4_:=f1_.symm;have f5_:=f3_.symm;clear f1_ f2_ f3_;subst f4_;subst f5_))
          obtain ⟨Ao62,co62,eo62⟩:=Kd.a1Y HO391.out
          (first | subst eo62 | (injection eo62 with f1_ f2_ f3_;have f4_:=f1_.symm;have f5_:=f3_.symm;clear f1_ f2_ f3_;subst f4_;subst f5_))
          refine hK.out _ _ ((a0L aA.out 0).trans rfl) (fun hHeld =>?_);clear hK K;refine a4M (a':=?_) ?_ ?_;rotate_left
          ·show Act.put _ (some 64) _ = _;simp only [Act.put,zC0,zG0,zH0,a1L,a1Q]
           rfl
          refine one_ (i:=14) (N:=some 65) #[true,true,true,true,true,true,true,true,true,true,true,true,true,true,true,false,false,false,false,false,false,false,false,false,false] rfl rfl (a3B HT_.out qE0) qF0 (fun K hK =>?_);refine a4P Tryz.func10 qE0 rfl #[.slice Ao61 t386.length co61,.slice Ao62 t389.length co62] qH1 rfl rfl qB0 ?_
          with_reducible refine (r14_Texts.calls k2 _ _ t386 _ _ t389 true _ ?side1 ?side2 ?side3 ?side4 A46.out).mono ?_
          (case side1 =>repeat (first | exact (Kd.a1H HO388.out).2.2 | (with_reducible refine Kd.a1D ?_ _) | (with_reducible refine Kd.a1C ?_ _) | (with_reducible refine Kd.a1K ?_)))
          (case side2 =>exact (Kd.a1H HO388.out).2.1)
          (case side3 =>repeat (first | exact (Kd.a1H HO391.out).2.2 | (with_reducible refine Kd.a1D ?_ _) | (with_reducible refine Kd.a1C ?_ _) | (with_reducible refine Kd.a1K ?_)))
          (case side4 =>exact (Kd.a1H HO391.out).2.1)
          rintro e w' ⟨rfl,⟨nd,rfl⟩⟩;refine ⟨_,rfl,?_⟩;refine hK.out _ _ ((a0L aA.out 0).trans rfl) (fun hHeld =>?_);clear hK K;refine a4M (a':=?_) ?_ ?_;rotate_left
          ·show Act.put _ (some 65) _ = _;simp only [Act.put,zC0,zG0,zH0,a1L,a1Q]
           rfl
          refine pz_ 15 (some 66) HT_.out rfl rfl (fun _ _ _ h =>h) (h:=?_);refine pz_ 16 (some 67) HT_.out rfl rfl (fun _ _ _ h =>h) (h:=?_);refine pz_ 17 (some 68) HT_.out rfl rfl (fun _ _ _ h =>h) (h:=?_);refine a5D (i:=19) (N:=some 70) (v:=?_) (a':=?_) #[true,true,true,true,true,true,true,true,true,true,true,true,true,true,true,true,true,true,false,true,false,false,false,false,false] rfl rfl (a2L HT_.out HW_.out qE0) (fun _ _ _ h =>h) (Or.inl ⟨by rfl,?_⟩) hHeld ?_ ?_;rotate_left
          ·intro w' s0;go_simp
           with_reducible rfl
          rotate_left
          ·simp only [Act.put,zC0,zG0,zH0,a1L,a1Q]
           rfl
          refine one_ (i:=18) (N:=some 69) #[true,true,true,true,true,true,true,true,true,true,true,true,true,true,true,true,true,true,true,true,false,false,false,false,false] rfl rfl (a3B HT_.out qE0) qF0 (fun K hK =>?_);refine a4P Tryz.func17 qE0 rfl #[.slice Ao56 t369.length co56] qH1 rfl rfl qB0 ?_
          with_reducible refine (effects_All.calls _ _ t369 t393 _ ?side1 ?side2 A48.out).mono ?_
          (case side1 =>repeat (first | exact (Kd.a2G aD.out).2.2 | (with_reducible refine Kd.a1D ?_ _) | (with_reducible refine Kd.a1C ?_ _) | (with_reducible refine Kd.a1K ?_)))
          (case side2 =>exact (Kd.a2G aD.out).2.1)
          rintro e w63 ⟨v394,rfl,ho0,hb⟩;refine ⟨_,rfl,?_⟩;have aK:=a0D.mk (Kd.a2P qK0 (Kd.a2X ho0) hb);have aM:=a0D.mk (Kd.a2P qP0 (Kd.a2X ho0) hb);have aN:=a0D.mk (Kd.a4K qR0 (Kd.a2X ho0) hb);have aQ:=a0D.mk (Kd.a4K qY0 (Kd.a2X ho0) hb);have bI:=a0D.mk (Kd.a2H (Kd.a7F (Kd.a7F ho0 (Kd.R_lt qR0)) (Kd.R_lt qY0)) (a0R qG0));have cB:=a0D.mk (a0P (g:=aE) (o:=.cells #[.slice aI aC.length aH] 24 (0,0)) qJ0 hb);have cJ:=a0D.mk (a0K qG0 hb);clear aD;clear HO384;clear HO388;clear HO391;clear aA;clear HB;have aD:=aK;have HO384:=aM;have HO388:=aN;have HO391:=aQ;have HO395:=bI;have aA:=cB;have HB:=cJ;clear aK aM aN aQ bI cB cJ
          (try clear hb)
          (try clear hb2)
          (try clear hk)
          (try clear hi)
          (try clear ho0)
          refine hK.out _ _ ((a0L aA.out 0).trans rfl) (fun hHeld =>?_);clear hK K;refine a4M (a':=?_) ?_ ?_;rotate_left
          ·show Act.put _ (some 69) _ = _;simp only [Act.put,zC0,zG0,zH0,a1L,a1Q]
           rfl
          refine one_ (i:=20) (N:=some 71) #[true,true,true,true,true,true,true,true,true,true,true,true,true,true,true,true,true,true,true,true,true,false,false,false,false] rfl rfl (a3B HT_.out qE0) qF0 (fun K hK =>?_);refine a4P Tryz.func14 qE0 rfl #[.agg #[.slice aI aC.length aH]] qH1 rfl rfl qB0 ?_
          with_reducible refine (r14_Sigs.calls k2 _ _ aC t396 _ ?side1 ?side2 A49.out).mono ?_
          (case side1 =>repeat (first | exact (Kd.a0H aT.out HB.out) | (with_reducible refine Kd.a1D ?_ _) | (with_reducible refine Kd.a1C ?_ _) | (with_reducible refine Kd.a1K ?_)))
          (case side2 =>exact aU.out)
          rintro e w64 ⟨v397,rfl,ho0,hb⟩;refine ⟨_,rfl,?_⟩;have aK:=a0D.mk (Kd.a2P qK0 (Kd.a3H (Kd.S_N ho0)) hb);have aM:=a0D.mk (Kd.a2P qP0 (Kd.a3H (Kd.S_N ho0)) hb);have aN:=a0D.mk (Kd.a3U qR0 hb);have aQ:=a0D.mk (Kd.a3U qY0 hb);have bI:=a0D.mk (Kd.a3U qE1 hb);have cB:=a0D.mk (Kd.a7C (Kd.a3Q (ok':=fun k_ =>some k_≠(.slice Ao56 t369.length co56:Value).ownBlock∧some k_≠(.slice Ao57 t382.length co57:Value).ownBlock∧some k_≠(.slice Ao61 t386.length co61:Value).ownBlock∧some k_≠(.slice Ao62 t389.length co62:Value).ownBlock∧some k_≠(v394:Value).ownBlock∧k_≠aE) (Kd.S_N (Kd.a7B ho0)) (fun k_ hk_ =>⟨(Kd.fresh' (Kd.N_lt qK0) k_ hk_.2.1),(Kd.fresh' (Kd.N_lt qP0) k_ hk_.2.1),(Kd.fresh' (Kd.R_lt qR0) k_ hk_.2.1),(Kd.fresh' (Kd.R_lt qY0) k_ hk_.2.1),(Kd.fresh' (Kd.R_lt qE1) k_ hk_.2.1),(Kd.freshB (g:=aE) (o:=.cells #[.slice aI aC.length aH] 24 (0,0)) qJ0 k_ hk_.2.1)⟩)) (a0R qG0));have cJ:=a0D.mk (a0P (g:=aE) (o:=.cells #[.slice aI aC.length aH] 24 (0,0)) qJ0 hb);have cM:=a0D.mk (a0K qG0 hb);clear aD;clear HO384;clear HO388;clear HO391;clear HO395;clear aA;clear HB;have aD:=aK;have HO384:=aM;have HO388:=aN;have HO391:=aQ;have HO395:=bI;have HO398:=cB;have aA:=cJ;have HB:=cM;clear aK aM aN aQ bI cB cJ cM
          (try clear hb)
          (try clear hb2)
          (try clear hk)
          (try clear hi)
          (try clear ho0)
          obtain ⟨Ao65,co65,eo65⟩:=Kd.a3V HO398.out
          (first | subst eo65 | (injection eo65 with f1_ f2_ f3_;have f4_:=f1_.symm;have f5_:=f3_.symm;clear f1_ f2_ f3_;subst f4_;subst f5_))
          refine hK.out _ _ ((a0L aA.out 0).trans rfl) (fun hHeld =>?_);clear hK K;refine a4M (a':=?_) ?_ ?_;rotate_left
          ·show Act.put _ (some 71) _ = _;simp only [Act.put,zC0,zG0,zH0,a1L,a1Q]
           rfl
          refine one_ (i:=21) (N:=some 72) #[true,true,true,true,true,true,true,true,true,true,true,true,true,true,true,true,true,true,true,true,true,true,false,false,false] rfl rfl (a3B HT_.out qE0) qF0 (fun K hK =>?_);refine a4P Tryz.func18 qE0 rfl #[.slice Ao65 t396.length co65] qH1 rfl rfl qB0 ?_
          with_reducible refine (r14_All.calls k2 _ _ t396 t399 _ ?side1 ?side2 A50.out).mono ?_
          (case side1 =>repeat (first | exact (Kd.a2G HO398.out).2.2 | (with_reducible refine Kd.a1D ?_ _) | (with_reducible refine Kd.a1C ?_ _) | (with_reducible refine Kd.a1K ?_)))
          (case side2 =>exact (Kd.a2G HO398.out).2.1)
          rintro e w66 ⟨v400,rfl,ho0,hb⟩;refine ⟨_,rfl,?_⟩;have aK:=a0D.mk (Kd.a2P qK0 (Kd.a2X ho0) hb);have aM:=a0D.mk (Kd.a2P qP0 (Kd.a2X ho0) hb);have aN:=a0D.mk (Kd.a4K qR0 (Kd.a2X ho0) hb);have aQ:=a0D.mk (Kd.a4K qY0 (Kd.a2X ho0) hb);have bI:=a0D.mk (Kd.a4K qE1 (Kd.a2X ho0) hb);have cB:=a0D.mk (Kd.a2P (by (with_reducible repeat (first | apply Kd.a1P | apply Kd.a1O | apply Kd.a1T));exact HO398.out) (Kd.a2X ho0) hb);have cJ:=a0D.mk (Kd.a2H (Kd.a7F (Kd.a7F (Kd.a7F ho0 (Kd.R_lt qR0)) (Kd.R_lt qY0)) (Kd.R_lt qE1)) (a0R qG0));have cM:=a0D.mk (a0P (g:=aE) (o:=.cells #[.slice aI aC.length aH] 24 (0,0)) qJ0 hb);have dP:=a0D.mk (a0K qG0 hb);clear aD;clear HO384;clear HO388;clear HO391;clear HO395;clear HO398;clear aA;clear HB;have aD:=aK;have HO384:=aM;have HO388:=aN;have HO391:=aQ;have HO395:=bI;have HO398:=cB;have HO401:=cJ;have aA:=cM;have HB:=dP;clear aK aM aN aQ bI cB cJ cM dP
          (try clear hb)
          (try clear hb2)
          (try clear hk)
          (try clear hi)
          (try clear ho0)
          obtain ⟨Ao67,co67,eo67⟩:=Kd.a1Y HO395.out
          (first | subst eo67 | (injection eo67 with f1_ f2_ f3_;have f4_:=f1_.symm;have f5_:=f3_.symm;clear f1_ f2_ f3_;subst f4_;subst f5_))
          obtain ⟨Ao68,co68,eo68⟩:=Kd.a1Y HO401.out
          (first | subst eo68 | (injection eo68 with f1_ f2_ f3_;have f4_:=f1_.symm;have f5_:=f3_.symm;clear f1_ f2_ f3_;subst f4_;subst f5_))
          refine hK.out _ _ ((a0L aA.out 0).trans rfl) (fun hHeld =>?_);clear hK K;refine a4M (a':=?_) ?_ ?_;rotate_left
          ·show Act.put _ (some 72) _ = _;simp only [Act.put,zC0,zG0,zH0,a1L,a1Q]
           rfl
          refine one_ (i:=22) (N:=some 73) #[true,true,true,true,true,true,true,true,true,true,true,true,true,true,true,true,true,true,true,true,true,true,true,false,false] rfl rfl (a3B HT_.out qE0) qF0 (fun K hK =>?_);refine a4P Tryz.func10 qE0 rfl #[.slice Ao67 t393.length co67,.slice Ao68 t399.length co68] qH1 rfl rfl qB0 ?_
          with_reducible refine (r14_Texts.calls k2 _ _ t393 _ _ t399 t402 _ ?side1 ?side2 ?side3 ?side4 A51.out).mono ?_
          (case side1 =>repeat (first | exact (Kd.a1H HO395.out).2.2 | (with_reducible refine Kd.a1D ?_ _) | (with_reducible refine Kd.a1C ?_ _) | (with_reducible refine Kd.a1K ?_)))
          (case side2 =>exact (Kd.a1H HO395.out).2.1)
          (case side3 =>repeat (first | exact (Kd.a1H HO401.out).2.2 | (with_reducible refine Kd.a1D ?_ _) | (with_reducible refine Kd.a1C ?_ _) | (with_reducible refine Kd.a1K ?_)))
          (case side4 =>exact (Kd.a1H HO401.out).2.1)
          rintro e w' ⟨rfl,⟨nd,rfl⟩⟩;refine ⟨_,rfl,?_⟩;refine hK.out _ _ ((a0L aA.out 0).trans rfl) (fun hHeld =>?_);clear hK K;refine a4M (a':=?_) ?_ ?_;rotate_left
          ·show Act.put _ (some 73) _ = _;simp only [Act.put,zC0,zG0,zH0,a1L,a1Q]
           rfl
          refine pz_ 23 (some 74) HT_.out rfl rfl (fun _ _ _ h =>h) (h:=?_);refine pz_ 24 (some 6) HT_.out rfl rfl (fun _ _ _ h =>h) (h:=?_);refine b2C (a6F HT_.out qE0) ?_
          try go_wp2
          go_ret;exact qY3
         ·replace c47:=Bool.eq_false_iff.mpr c47;subst c47;rw [if_neg (show ¬ (false = true) by decide)] at H;obtain rfl:=zI0 H;have dG:=cf1 aA.out
          try go_wp2
          have aK:=a0D.mk (Kd.a1T aD.out);have aM:=a0D.mk (a0O aA.out);have aN:=a0D.mk (a0E HB.out);clear aD;clear aA;clear HB;have aD:=aK;have aA:=aM;have HB:=aN;clear aK aM aN;refine a7Y (n:=25) (S:=fun w' =>w'.cell? ⟨aE,0,none⟩ = some (.slice aI aC.length aH)) (ds:=[]) #[false,false,false,false,false,false,false,false,false,false,false,false,false,false,false,false,false,false,false,false,false,false,false,false,false] qE0 rfl rfl ((a0L aA.out 0).trans rfl) (fun hHeld =>?_);refine a4L w14_EffectsTells.tab9 w14_EffectsTells.bits9 (fun HT_ HW_ =>?_);generalize wr.drew = w70 at aD aA HB hHeld ⊢;refine one_ (i:=0) (N:=some 51) #[true,false,false,false,false,false,false,false,false,false,false,false,false,false,false,false,false,false,false,false,false,false,false,false,false] rfl rfl (a3B HT_.out qE0) qF0 (fun K hK =>?_);refine a4P Tryz.func8 qE0 rfl #[] qH1 rfl rfl qB0 ?_
          with_reducible refine (w14_fixed.calls  true _ A39.out).mono ?_
          rintro e w71 ⟨rfl,hb⟩;refine ⟨_,rfl,?_⟩;have aK:=a0D.mk (Kd.a2B qK0 hb);have aM:=a0D.mk (a0P (g:=aE) (o:=.cells #[.slice aI aC.length aH] 24 (0,0)) qJ0 hb);have aN:=a0D.mk (a0K qG0 hb);clear aD;clear aA;clear HB;have aD:=aK;have aA:=aM;have HB:=aN;clear aK aM aN
          (try clear hb)
          (try clear hb2)
          (try clear hk)
          (try clear hi)
          refine hK.out _ _ ((a0L aA.out 0).trans rfl) (fun hHeld =>?_);clear hK K;refine a4M (a':=?_) ?_ ?_;rotate_left
          ·show Act.put _ (some 51) _ = _;simp only [Act.put,zC0,zG0,zH0,a1L,a1Q]
           rfl
          refine pz_ 1 (some 52) HT_.out rfl rfl (fun _ _ _ h =>h) (h:=?_);refine pz_ 2 (some 53) HT_.out rfl rfl (fun _ _ _ h =>h) (h:=?_);refine a5D (i:=3) (N:=some 54) (v:=?_) (a':=?_) #[true,true,true,true,false,false,false,false,false,false,false,false,false,false,false,false,false,false,false,false,false,false,false,false,false] rfl rfl (a2L HT_.out HW_.out qE0) (fun _ _ _ h =>h) (Or.inl ⟨by rfl,?_⟩) hHeld ?_ ?_;rotate_left
          ·intro w' s0;go_simp
           with_reducible rfl
          rotate_left
          ·simp only [Act.put,zC0,zG0,zH0,a1L,a1Q]
           rfl
          refine one_ (i:=4) (N:=some 55) #[true,true,true,true,true,false,false,false,false,false,false,false,false,false,false,false,false,false,false,false,false,false,false,false,false] rfl rfl (a3B HT_.out qE0) qF0 (fun K hK =>?_);refine a4P Tryz.func14 qE0 rfl #[.agg #[.slice aI aC.length aH]] qH1 rfl rfl qB0 ?_
          with_reducible refine (r14_Sigs.calls k2 _ _ aC t382 _ ?side1 ?side2 A41.out).mono ?_
          (case side1 =>repeat (first | exact (Kd.a0H aT.out HB.out) | (with_reducible refine Kd.a1D ?_ _) | (with_reducible refine Kd.a1C ?_ _) | (with_reducible refine Kd.a1K ?_)))
          (case side2 =>exact aU.out)
          rintro e w72 ⟨v383,rfl,ho0,hb⟩;refine ⟨_,rfl,?_⟩;have aK:=a0D.mk (Kd.a2P qK0 (Kd.a3H (Kd.S_N ho0)) hb);have aM:=a0D.mk (Kd.a7C (Kd.a3Q (ok':=fun k_ =>some k_≠(v370:Value).ownBlock∧k_≠aE) (Kd.S_N (Kd.a7B ho0)) (fun k_ hk_ =>⟨(Kd.fresh' (Kd.N_lt qK0) k_ hk_.2.1),(Kd.freshB (g:=aE) (o:=.cells #[.slice aI aC.length aH] 24 (0,0)) qJ0 k_ hk_.2.1)⟩)) (a0R qG0));have aN:=a0D.mk (a0P (g:=aE) (o:=.cells #[.slice aI aC.length aH] 24 (0,0)) qJ0 hb);have aQ:=a0D.mk (a0K qG0 hb);clear aD;clear aA;clear HB;have aD:=aK;have HO384:=aM;have aA:=aN;have HB:=aQ;clear aK aM aN aQ
          (try clear hb)
          (try clear hb2)
          (try clear hk)
          (try clear hi)
          (try clear ho0)
          obtain ⟨Ao73,co73,eo73⟩:=Kd.a3V aD.out
          (first | subst eo73 | (injection eo73 with f1_ f2_ f3_;have f4_:=f1_.symm;have f5_:=f3_.symm;clear f1_ f2_ f3_;subst f4_;subst f5_))
          obtain ⟨Ao74,co74,eo74⟩:=Kd.a3V HO384.out
          (first | subst eo74 | (injection eo74 with f1_ f2_ f3_;have f4_:=f1_.symm;have f5_:=f3_.symm;clear f1_ f2_ f3_;subst f4_;subst f5_))
          refine hK.out _ _ ((a0L aA.out 0).trans rfl) (fun hHeld =>?_);clear hK K;refine a4M (a':=?_) ?_ ?_;rotate_left
          ·show Act.put _ (some 55) _ = _;simp only [Act.put,zC0,zG0,zH0,a1L,a1Q]
           rfl
          refine one_ (i:=5) (N:=some 56) #[true,true,true,true,true,true,false,false,false,false,false,false,false,false,false,false,false,false,false,false,false,false,false,false,false] rfl rfl (a3B HT_.out qE0) qF0 (fun K hK =>?_);refine a4P Tryz.func13 qE0 rfl #[.slice Ao73 t369.length co73,.slice Ao74 t382.length co74] qH1 rfl rfl qB0 ?_
          with_reducible refine (r14_Same.calls _ _ t369 _ _ t382 true _ ?side1 ?side2 ?side3 ?side4 A42.out).mono ?_
          (case side1 =>repeat (first | exact (Kd.a2G aD.out).2.2 | (with_reducible refine Kd.a1D ?_ _) | (with_reducible refine Kd.a1C ?_ _) | (with_reducible refine Kd.a1K ?_)))
          (case side2 =>exact (Kd.a2G aD.out).2.1)
          (case side3 =>repeat (first | exact (Kd.a2G HO384.out).2.2 | (with_reducible refine Kd.a1D ?_ _) | (with_reducible refine Kd.a1C ?_ _) | (with_reducible refine Kd.a1K ?_)))
          (case side4 =>exact (Kd.a2G HO384.out).2.1)
          rintro e w75 ⟨rfl,hb⟩;refine ⟨_,rfl,?_⟩;have aK:=a0D.mk (Kd.a2B qK0 hb);have aM:=a0D.mk (Kd.a2B qP0 hb);have aN:=a0D.mk (a0P (g:=aE) (o:=.cells #[.slice aI aC.length aH] 24 (0,0)) qJ0 hb);have aQ:=a0D.mk (a0K qG0 hb);clear aD;clear HO384;clear aA;clear HB;have aD:=aK;have HO384:=aM;have aA:=aN;have HB:=aQ;clear aK aM aN aQ
          (try clear hb)
          (try clear hb2)
          (try clear hk)
          (try clear hi)
          refine hK.out _ _ ((a0L aA.out 0).trans rfl) (fun hHeld =>?_);clear hK K;refine a4M (a':=?_) ?_ ?_;rotate_left
          ·show Act.put _ (some 56) _ = _;simp only [Act.put,zC0,zG0,zH0,a1L,a1Q]
           rfl
          refine pz_ 6 (some 57) HT_.out rfl rfl (fun _ _ _ h =>h) (h:=?_);refine pz_ 7 (some 58) HT_.out rfl rfl (fun _ _ _ h =>h) (h:=?_);refine pz_ 8 (some 59) HT_.out rfl rfl (fun _ _ _ h =>h) (h:=?_);refine pz_ 9 (some 60) HT_.out rfl rfl (fun _ _ _ h =>h) (h:=?_);refine pz_ 11 (some 62) HT_.out rfl rfl (fun _ _ _ h =>h) (h:=?_);refine pz_ 12 (some 63) HT_.out rfl rfl (fun _ _ _ h =>h) (h:=?_);refine one_ (i:=10) (N:=some 61) #[true,true,true,true,true,true,true,true,true,true,true,true,true,false,false,false,false,false,false,false,false,false,false,false,false] rfl rfl (a3B HT_.out qE0) qF0 (fun K hK =>?_);refine a4P Tryz.func15 qE0 rfl #[.slice A1 l1.length c1,.slice A2 l2.length c2] qH1 rfl rfl qB0 ?_
          with_reducible refine (effects_Union.calls _ _ l1 _ _ l2 t386 _ ?side1 ?side2 ?side3 ?side4 A44.out).mono ?_
          (case side1 =>repeat (first | exact (Kd.a0H HR1.out HB.out) | (with_reducible refine Kd.a1D ?_ _) | (with_reducible refine Kd.a1C ?_ _) | (with_reducible refine Kd.a1K ?_)))
          (case side2 =>exact HC1.out)
          (case side3 =>repeat (first | exact (Kd.a0H HR2.out HB.out) | (with_reducible refine Kd.a1D ?_ _) | (with_reducible refine Kd.a1C ?_ _) | (with_reducible refine Kd.a1K ?_)))
          (case side4 =>exact HC2.out)
          rintro e w76 ⟨v387,rfl,ho0,hb⟩;refine ⟨_,rfl,?_⟩;have aK:=a0D.mk (Kd.a2P qK0 (Kd.a2X ho0) hb);have aM:=a0D.mk (Kd.a2P qP0 (Kd.a2X ho0) hb);have aN:=a0D.mk (Kd.a2H ho0 (a0R qG0));have aQ:=a0D.mk (a0P (g:=aE) (o:=.cells #[.slice aI aC.length aH] 24 (0,0)) qJ0 hb);have bI:=a0D.mk (a0K qG0 hb);clear aD;clear HO384;clear aA;clear HB;have aD:=aK;have HO384:=aM;have HO388:=aN;have aA:=aQ;have HB:=bI;clear aK aM aN aQ bI
          (try clear hb)
          (try clear hb2)
          (try clear hk)
          (try clear hi)
          (try clear ho0)
          refine hK.out _ _ ((a0L aA.out 0).trans rfl) (fun hHeld =>?_);clear hK K;refine a4M (a':=?_) ?_ ?_;rotate_left
          ·show Act.put _ (some 61) _ = _;simp only [Act.put,zC0,zG0,zH0,a1L,a1Q]
           rfl
          refine one_ (i:=13) (N:=some 64) #[true,true,true,true,true,true,true,true,true,true,true,true,true,true,false,false,false,false,false,false,false,false,false,false,false] rfl rfl (a3B HT_.out qE0) qF0 (fun K hK =>?_);refine a4P Tryz.func16 qE0 rfl #[.slice A1 l1.length c1,.slice A2 l2.length c2] qH1 rfl rfl qB0 ?_
          with_reducible refine (r14_Union.calls _ _ l1 _ _ l2 t389 _ ?side1 ?side2 ?side3 ?side4 A45.out).mono ?_
          (case side1 =>repeat (first | exact (Kd.a0H HR1.out HB.out) | (with_reducible refine Kd.a1D ?_ _) | (with_reducible refine Kd.a1C ?_ _) | (with_reducible refine Kd.a1K ?_)))
          (case side2 =>exact HC1.out)
          (case side3 =>repeat (first | exact (Kd.a0H HR2.out HB.out) | (with_reducible refine Kd.a1D ?_ _) | (with_reducible refine Kd.a1C ?_ _) | (with_reducible refine Kd.a1K ?_)))
          (case side4 =>exact HC2.out)
          rintro e w77 ⟨v390,rfl,ho0,hb⟩;refine ⟨_,rfl,?_⟩;have aK:=a0D.mk (Kd.a2P qK0 (Kd.a2X ho0) hb);have aM:=a0D.mk (Kd.a2P qP0 (Kd.a2X ho0) hb);have aN:=a0D.mk (Kd.a4K qR0 (Kd.a2X ho0) hb);have aQ:=a0D.mk (Kd.a2H (Kd.a7F ho0 (Kd.R_lt qR0)) (a0R qG0));have bI:=a0D.mk (a0P (g:=aE) (o:=.cells #[.slice aI aC.length aH] 24 (0,0)) qJ0 hb);have cB:=a0D.mk (a0K qG0 hb);clear aD;clear HO384;clear HO388;clear aA;clear HB;have aD:=aK;have HO384:=aM;have HO388:=aN;have HO391:=aQ;have aA:=bI;have HB:=cB;clear aK aM aN aQ bI cB
          (try clear hb)
          (try clear hb2)
          (try clear hk)
          (try clear hi)
          (try clear ho0)
          obtain ⟨Ao78,co78,eo78⟩:=Kd.a1Y HO388.out
          (first | subst eo78 | (injection eo78 with f1_ f2_ f3_;have f4_:=f1_.symm;have f5_:=f3_.symm;clear f1_ f2_ f3_;subst f4_;subst f5_))
          obtain ⟨Ao79,co79,eo79⟩:=Kd.a1Y HO391.out
          (first | subst eo79 | (injection eo79 with f1_ f2_ f3_;have f4_:=f1_.symm;have f5_:=f3_.symm;clear f1_ f2_ f3_;subst f4_;subst f5_))
          refine hK.out _ _ ((a0L aA.out 0).trans rfl) (fun hHeld =>?_);clear hK K;refine a4M (a':=?_) ?_ ?_;rotate_left
          ·show Act.put _ (some 64) _ = _;simp only [Act.put,zC0,zG0,zH0,a1L,a1Q]
           rfl
          refine one_ (i:=14) (N:=some 65) #[true,true,true,true,true,true,true,true,true,true,true,true,true,true,true,false,false,false,false,false,false,false,false,false,false] rfl rfl (a3B HT_.out qE0) qF0 (fun K hK =>?_);refine a4P Tryz.func10 qE0 rfl #[.slice Ao78 t386.length co78,.slice Ao79 t389.length co79] qH1 rfl rfl qB0 ?_
          with_reducible refine (r14_Texts.calls k2 _ _ t386 _ _ t389 false _ ?side1 ?side2 ?side3 ?side4 A46.out).mono ?_
          (case side1 =>repeat (first | exact (Kd.a1H HO388.out).2.2 | (with_reducible refine Kd.a1D ?_ _) | (with_reducible refine Kd.a1C ?_ _) | (with_reducible refine Kd.a1K ?_)))
          (case side2 =>exact (Kd.a1H HO388.out).2.1)
          (case side3 =>repeat (first | exact (Kd.a1H HO391.out).2.2 | (with_reducible refine Kd.a1D ?_ _) | (with_reducible refine Kd.a1C ?_ _) | (with_reducible refine Kd.a1K ?_)))
          (case side4 =>exact (Kd.a1H HO391.out).2.1)
          rintro e w' ⟨rfl,⟨nd,rfl⟩⟩;refine ⟨_,rfl,?_⟩;refine hK.out _ _ ((a0L aA.out 0).trans rfl) (fun hHeld =>?_);clear hK K;refine a4M (a':=?_) ?_ ?_;rotate_left
          ·show Act.put _ (some 65) _ = _;simp only [Act.put,zC0,zG0,zH0,a1L,a1Q]
           rfl
          refine pz_ 15 (some 66) HT_.out rfl rfl (fun _ _ _ h =>h) (h:=?_);refine pz_ 16 (some 67) HT_.out rfl rfl (fun _ _ _ h =>h) (h:=?_);refine a3X (i:=17) (N:=some 68) (v:=undef) (a':=?_) #[true,true,true,true,true,true,true,true,true,true,true,true,true,true,true,true,true,true,false,false,false,false,false,false,false] rfl rfl (a2V HT_.out qE0) (fun _ _ _ h =>h) (Or.inr ⟨by rfl,rfl⟩) ?_ ?_;rotate_left
          ·simp only [Act.put,zC0,zG0,zH0,a1L,a1Q]
           rfl
          refine a3X (i:=18) (N:=some 69) (v:=undef) (a':=?_) #[true,true,true,true,true,true,true,true,true,true,true,true,true,true,true,true,true,true,true,false,false,false,false,false,false] rfl rfl (a2V HT_.out qE0) (fun _ _ _ h =>h) (Or.inr ⟨by rfl,rfl⟩) ?_ ?_;rotate_left
          ·simp only [Act.put,zC0,zG0,zH0,a1L,a1Q]
           rfl
          refine a3X (i:=19) (N:=some 70) (v:=undef) (a':=?_) #[true,true,true,true,true,true,true,true,true,true,true,true,true,true,true,true,true,true,true,true,false,false,false,false,false] rfl rfl (a2V HT_.out qE0) (fun _ _ _ h =>h) (Or.inr ⟨by rfl,rfl⟩) ?_ ?_;rotate_left
          ·simp only [Act.put,zC0,zG0,zH0,a1L,a1Q]
           rfl
          refine a3X (i:=20) (N:=some 71) (v:=undef) (a':=?_) #[true,true,true,true,true,true,true,true,true,true,true,true,true,true,true,true,true,true,true,true,true,false,false,false,false] rfl rfl (a2V HT_.out qE0) (fun _ _ _ h =>h) (Or.inr ⟨by rfl,rfl⟩) ?_ ?_;rotate_left
          ·simp only [Act.put,zC0,zG0,zH0,a1L,a1Q]
           rfl
          refine a3X (i:=21) (N:=some 72) (v:=undef) (a':=?_) #[true,true,true,true,true,true,true,true,true,true,true,true,true,true,true,true,true,true,true,true,true,true,false,false,false] rfl rfl (a2V HT_.out qE0) (fun _ _ _ h =>h) (Or.inr ⟨by rfl,rfl⟩) ?_ ?_;rotate_left
          ·simp only [Act.put,zC0,zG0,zH0,a1L,a1Q]
           rfl
          refine a3X (i:=22) (N:=some 73) (v:=undef) (a':=?_) #[true,true,true,true,true,true,true,true,true,true,true,true,true,true,true,true,true,true,true,true,true,true,true,false,false] rfl rfl (a2V HT_.out qE0) (fun _ _ _ h =>h) (Or.inr ⟨by rfl,rfl⟩) ?_ ?_;rotate_left
          ·simp only [Act.put,zC0,zG0,zH0,a1L,a1Q]
           rfl
          refine pz_ 23 (some 74) HT_.out rfl rfl (fun _ _ _ h =>h) (h:=?_);refine pz_ 24 (some 6) HT_.out rfl rfl (fun _ _ _ h =>h) (h:=?_);refine b2C (a6F HT_.out qE0) ?_
          try go_wp2
          go_ret;exact qY3
        ·replace c43:=Bool.eq_false_iff.mpr c43;subst c43;rw [if_neg (show ¬ (false = true) by decide)] at H;obtain rfl:=zI0 H;have dH:=cf1 aA.out
         try go_wp2
         have aK:=a0D.mk (Kd.a1T aD.out);have aM:=a0D.mk (a0O aA.out);have aN:=a0D.mk (a0E HB.out);clear aD;clear aA;clear HB;have aD:=aK;have aA:=aM;have HB:=aN;clear aK aM aN;refine a7Y (n:=25) (S:=fun w' =>w'.cell? ⟨aE,0,none⟩ = some (.slice aI aC.length aH)) (ds:=[]) #[false,false,false,false,false,false,false,false,false,false,false,false,false,false,false,false,false,false,false,false,false,false,false,false,false] qE0 rfl rfl ((a0L aA.out 0).trans rfl) (fun hHeld =>?_);refine a4L w14_EffectsTells.tab9 w14_EffectsTells.bits9 (fun HT_ HW_ =>?_);generalize wr.drew = w81 at aD aA HB hHeld ⊢;refine one_ (i:=0) (N:=some 51) #[true,false,false,false,false,false,false,false,false,false,false,false,false,false,false,false,false,false,false,false,false,false,false,false,false] rfl rfl (a3B HT_.out qE0) qF0 (fun K hK =>?_);refine a4P Tryz.func8 qE0 rfl #[] qH1 rfl rfl qB0 ?_
         with_reducible refine (w14_fixed.calls  true _ A39.out).mono ?_
         rintro e w82 ⟨rfl,hb⟩;refine ⟨_,rfl,?_⟩;have aK:=a0D.mk (Kd.a2B qK0 hb);have aM:=a0D.mk (a0P (g:=aE) (o:=.cells #[.slice aI aC.length aH] 24 (0,0)) qJ0 hb);have aN:=a0D.mk (a0K qG0 hb);clear aD;clear aA;clear HB;have aD:=aK;have aA:=aM;have HB:=aN;clear aK aM aN
         (try clear hb)
         (try clear hb2)
         (try clear hk)
         (try clear hi)
         refine hK.out _ _ ((a0L aA.out 0).trans rfl) (fun hHeld =>?_);clear hK K;refine a4M (a':=?_) ?_ ?_;rotate_left
         ·show Act.put _ (some 51) _ = _;simp only [Act.put,zC0,zG0,zH0,a1L,a1Q]
          rfl
         refine pz_ 1 (some 52) HT_.out rfl rfl (fun _ _ _ h =>h) (h:=?_);refine pz_ 2 (some 53) HT_.out rfl rfl (fun _ _ _ h =>h) (h:=?_);refine a5D (i:=3) (N:=some 54) (v:=?_) (a':=?_) #[true,true,true,true,false,false,false,false,false,false,false,false,false,false,false,false,false,false,false,false,false,false,false,false,false] rfl rfl (a2L HT_.out HW_.out qE0) (fun _ _ _ h =>h) (Or.inl ⟨by rfl,?_⟩) hHeld ?_ ?_;rotate_left
         ·intro w' s0;go_simp
          with_reducible rfl
         rotate_left
         ·simp only [Act.put,zC0,zG0,zH0,a1L,a1Q]
          rfl
         refine one_ (i:=4) (N:=some 55) #[true,true,true,true,true,false,false,false,false,false,false,false,false,false,false,false,false,false,false,false,false,false,false,false,false] rfl rfl (a3B HT_.out qE0) qF0 (fun K hK =>?_);refine a4P Tryz.func14 qE0 rfl #[.agg #[.slice aI aC.length aH]] qH1 rfl rfl qB0 ?_
         with_reducible refine (r14_Sigs.calls k2 _ _ aC t382 _ ?side1 ?side2 A41.out).mono ?_
         (case side1 =>repeat (first | exact (Kd.a0H aT.out HB.out) | (with_reducible refine Kd.a1D ?_ _) | (with_reducible refine Kd.a1C ?_ _) | (with_reducible refine Kd.a1K ?_)))
         (case side2 =>exact aU.out)
         rintro e w83 ⟨v383,rfl,ho0,hb⟩;refine ⟨_,rfl,?_⟩;have aK:=a0D.mk (Kd.a2P qK0 (Kd.a3H (Kd.S_N ho0)) hb);have aM:=a0D.mk (Kd.a7C (Kd.a3Q (ok':=fun k_ =>some k_≠(v370:Value).ownBlock∧k_≠aE) (Kd.S_N (Kd.a7B ho0)) (fun k_ hk_ =>⟨(Kd.fresh' (Kd.N_lt qK0) k_ hk_.2.1),(Kd.freshB (g:=aE) (o:=.cells #[.slice aI aC.length aH] 24 (0,0)) qJ0 k_ hk_.2.1)⟩)) (a0R qG0));have aN:=a0D.mk (a0P (g:=aE) (o:=.cells #[.slice aI aC.length aH] 24 (0,0)) qJ0 hb);have aQ:=a0D.mk (a0K qG0 hb);clear aD;clear aA;clear HB;have aD:=aK;have HO384:=aM;have aA:=aN;have HB:=aQ;clear aK aM aN aQ
         (try clear hb)
         (try clear hb2)
         (try clear hk)
         (try clear hi)
         (try clear ho0)
         obtain ⟨Ao84,co84,eo84⟩:=Kd.a3V aD.out
         (first | subst eo84 | (injection eo84 with f1_ f2_ f3_;have f4_:=f1_.symm;have f5_:=f3_.symm;clear f1_ f2_ f3_;subst f4_;subst f5_))
         obtain ⟨Ao85,co85,eo85⟩:=Kd.a3V HO384.out
         (first | subst eo85 | (injection eo85 with f1_ f2_ f3_;have f4_:=f1_.symm;have f5_:=f3_.symm;clear f1_ f2_ f3_;subst f4_;subst f5_))
         refine hK.out _ _ ((a0L aA.out 0).trans rfl) (fun hHeld =>?_);clear hK K;refine a4M (a':=?_) ?_ ?_;rotate_left
         ·show Act.put _ (some 55) _ = _;simp only [Act.put,zC0,zG0,zH0,a1L,a1Q]
          rfl
         refine one_ (i:=5) (N:=some 56) #[true,true,true,true,true,true,false,false,false,false,false,false,false,false,false,false,false,false,false,false,false,false,false,false,false] rfl rfl (a3B HT_.out qE0) qF0 (fun K hK =>?_);refine a4P Tryz.func13 qE0 rfl #[.slice Ao84 t369.length co84,.slice Ao85 t382.length co85] qH1 rfl rfl qB0 ?_
         with_reducible refine (r14_Same.calls _ _ t369 _ _ t382 false _ ?side1 ?side2 ?side3 ?side4 A42.out).mono ?_
         (case side1 =>repeat (first | exact (Kd.a2G aD.out).2.2 | (with_reducible refine Kd.a1D ?_ _) | (with_reducible refine Kd.a1C ?_ _) | (with_reducible refine Kd.a1K ?_)))
         (case side2 =>exact (Kd.a2G aD.out).2.1)
         (case side3 =>repeat (first | exact (Kd.a2G HO384.out).2.2 | (with_reducible refine Kd.a1D ?_ _) | (with_reducible refine Kd.a1C ?_ _) | (with_reducible refine Kd.a1K ?_)))
         (case side4 =>exact (Kd.a2G HO384.out).2.1)
         rintro e w86 ⟨rfl,hb⟩;refine ⟨_,rfl,?_⟩;have aK:=a0D.mk (Kd.a2B qK0 hb);have aM:=a0D.mk (Kd.a2B qP0 hb);have aN:=a0D.mk (a0P (g:=aE) (o:=.cells #[.slice aI aC.length aH] 24 (0,0)) qJ0 hb);have aQ:=a0D.mk (a0K qG0 hb);clear aD;clear HO384;clear aA;clear HB;have aD:=aK;have HO384:=aM;have aA:=aN;have HB:=aQ;clear aK aM aN aQ
         (try clear hb)
         (try clear hb2)
         (try clear hk)
         (try clear hi)
         refine hK.out _ _ ((a0L aA.out 0).trans rfl) (fun hHeld =>?_);clear hK K;refine a4M (a':=?_) ?_ ?_;rotate_left
         ·show Act.put _ (some 56) _ = _;simp only [Act.put,zC0,zG0,zH0,a1L,a1Q]
          rfl
         refine pz_ 6 (some 57) HT_.out rfl rfl (fun _ _ _ h =>h) (h:=?_);refine pz_ 7 (some 58) HT_.out rfl rfl (fun _ _ _ h =>h) (h:=?_);refine a3X (i:=8) (N:=some 59) (v:=undef) (a':=?_) #[true,true,true,true,true,true,true,true,true,false,false,false,false,false,false,false,false,false,false,false,false,false,false,false,false] rfl rfl (a2V HT_.out qE0) (fun _ _ _ h =>h) (Or.inr ⟨by rfl,rfl⟩) ?_ ?_;rotate_left
         ·simp only [Act.put,zC0,zG0,zH0,a1L,a1Q]
          rfl
         refine a3X (i:=9) (N:=some 60) (v:=undef) (a':=?_) #[true,true,true,true,true,true,true,true,true,true,false,false,false,false,false,false,false,false,false,false,false,false,false,false,false] rfl rfl (a2V HT_.out qE0) (fun _ _ _ h =>h) (Or.inr ⟨by rfl,rfl⟩) ?_ ?_;rotate_left
         ·simp only [Act.put,zC0,zG0,zH0,a1L,a1Q]
          rfl
         refine a3X (i:=10) (N:=some 61) (v:=undef) (a':=?_) #[true,true,true,true,true,true,true,true,true,true,true,false,false,false,false,false,false,false,false,false,false,false,false,false,false] rfl rfl (a2V HT_.out qE0) (fun _ _ _ h =>h) (Or.inr ⟨by rfl,rfl⟩) ?_ ?_;rotate_left
         ·simp only [Act.put,zC0,zG0,zH0,a1L,a1Q]
          rfl
         refine a3X (i:=11) (N:=some 62) (v:=undef) (a':=?_) #[true,true,true,true,true,true,true,true,true,true,true,true,false,false,false,false,false,false,false,false,false,false,false,false,false] rfl rfl (a2V HT_.out qE0) (fun _ _ _ h =>h) (Or.inr ⟨by rfl,rfl⟩) ?_ ?_;rotate_left
         ·simp only [Act.put,zC0,zG0,zH0,a1L,a1Q]
          rfl
         refine a3X (i:=12) (N:=some 63) (v:=undef) (a':=?_) #[true,true,true,true,true,true,true,true,true,true,true,true,true,false,false,false,false,false,false,false,false,false,false,false,false] rfl rfl (a2V HT_.out qE0) (fun _ _ _ h =>h) (Or.inr ⟨by rfl,rfl⟩) ?_ ?_;rotate_left
         ·simp only [Act.put,zC0,zG0,zH0,a1L,a1Q]
          rfl
         refine a3X (i:=13) (N:=some 64) (v:=undef) (a':=?_) #[true,true,true,true,true,true,true,true,true,true,true,true,true,true,false,false,false,false,false,false,false,false,false,false,false] rfl rfl (a2V HT_.out qE0) (fun _ _ _ h =>h) (Or.inr ⟨by rfl,rfl⟩) ?_ ?_;rotate_left
         ·simp only [Act.put,zC0,zG0,zH0,a1L,a1Q]
          rfl
         refine a3X (i:=14) (N:=some 65) (v:=undef) (a':=?_) #[true,true,true,true,true,true,true,true,true,true,true,true,true,true,true,false,false,false,false,false,false,false,false,false,false] rfl rfl (a2V HT_.out qE0) (fun _ _ _ h =>h) (Or.inr ⟨by rfl,rfl⟩) ?_ ?_;rotate_left
         ·simp only [Act.put,zC0,zG0,zH0,a1L,a1Q]
          rfl
         refine pz_ 15 (some 66) HT_.out rfl rfl (fun _ _ _ h =>h) (h:=?_);refine pz_ 16 (some 67) HT_.out rfl rfl (fun _ _ _ h =>h) (h:=?_);refine a3X (i:=17) (N:=some 68) (v:=undef) (a':=?_) #[true,true,true,true,true,true,true,true,true,true,true,true,true,true,true,true,true,true,false,false,false,false,false,false,false] rfl rfl (a2V HT_.out qE0) (fun _ _ _ h =>h) (Or.inr ⟨by rfl,rfl⟩) ?_ ?_;rotate_left
         ·simp only [Act.put,zC0,zG0,zH0,a1L,a1Q]
          rfl
         refine a3X (i:=18) (N:=some 69) (v:=undef) (a':=?_) #[true,true,true,true,true,true,true,true,true,true,true,true,true,true,true,true,true,true,true,false,false,false,false,false,false] rfl rfl (a2V HT_.out qE0) (fun _ _ _ h =>h) (Or.inr ⟨by rfl,rfl⟩) ?_ ?_;rotate_left
         ·simp only [Act.put,zC0,zG0,zH0,a1L,a1Q]
          rfl
         refine a3X (i:=19) (N:=some 70) (v:=undef) (a':=?_) #[true,true,true,true,true,true,true,true,true,true,true,true,true,true,true,true,true,true,true,true,false,false,false,false,false] rfl rfl (a2V HT_.out qE0) (fun _ _ _ h =>h) (Or.inr ⟨by rfl,rfl⟩) ?_ ?_;rotate_left
         ·simp only [Act.put,zC0,zG0,zH0,a1L,a1Q]
          rfl
         refine a3X (i:=20) (N:=some 71) (v:=undef) (a':=?_) #[true,true,true,true,true,true,true,true,true,true,true,true,true,true,true,true,true,true,true,true,true,false,false,false,false] rfl rfl (a2V HT_.out qE0) (fun _ _ _ h =>h) (Or.inr ⟨by rfl,rfl⟩) ?_ ?_;rotate_left
         ·simp only [Act.put,zC0,zG0,zH0,a1L,a1Q]
          rfl
         refine a3X (i:=21) (N:=some 72) (v:=undef) (a':=?_) #[true,true,true,true,true,true,true,true,true,true,true,true,true,true,true,true,true,true,true,true,true,true,false,false,false] rfl rfl (a2V HT_.out qE0) (fun _ _ _ h =>h) (Or.inr ⟨by rfl,rfl⟩) ?_ ?_;rotate_left
         ·simp only [Act.put,zC0,zG0,zH0,a1L,a1Q]
          rfl
         refine a3X (i:=22) (N:=some 73) (v:=undef) (a':=?_) #[true,true,true,true,true,true,true,true,true,true,true,true,true,true,true,true,true,true,true,true,true,true,true,false,false] rfl rfl (a2V HT_.out qE0) (fun _ _ _ h =>h) (Or.inr ⟨by rfl,rfl⟩) ?_ ?_;rotate_left
         ·simp only [Act.put,zC0,zG0,zH0,a1L,a1Q]
          rfl
         refine pz_ 23 (some 74) HT_.out rfl rfl (fun _ _ _ h =>h) (h:=?_);refine pz_ 24 (some 6) HT_.out rfl rfl (fun _ _ _ h =>h) (h:=?_);refine b2C (a6F HT_.out qE0) ?_
         try go_wp2
         go_ret;exact qY3
       ·replace c40:=Bool.eq_false_iff.mpr c40;subst c40;rw [if_neg (show ¬ (false = true) by decide)] at H;obtain rfl:=zI0 H;have dI:=cf1 aA.out
        try go_wp2
        have aK:=a0D.mk (Kd.a1T aD.out);have aM:=a0D.mk (a0O aA.out);have aN:=a0D.mk (a0E HB.out);clear aD;clear aA;clear HB;have aD:=aK;have aA:=aM;have HB:=aN;clear aK aM aN;refine a7Y (n:=25) (S:=fun w' =>True) (ds:=[]) #[false,false,false,false,false,false,false,false,false,false,false,false,false,false,false,false,false,false,false,false,false,false,false,false,false] qE0 rfl rfl trivial (fun hHeld =>?_);refine a4L w14_EffectsTells.tab9 w14_EffectsTells.bits9 (fun HT_ HW_ =>?_);generalize wr.drew = w88 at aD aA HB hHeld ⊢;refine one_ (i:=0) (N:=some 51) #[true,false,false,false,false,false,false,false,false,false,false,false,false,false,false,false,false,false,false,false,false,false,false,false,false] rfl rfl (a3B HT_.out qE0) qF0 (fun K hK =>?_);refine a4P Tryz.func8 qE0 rfl #[] qH1 rfl rfl qB0 ?_
        with_reducible refine (w14_fixed.calls  false _ A39.out).mono ?_
        rintro e w89 ⟨rfl,hb⟩;refine ⟨_,rfl,?_⟩;have aK:=a0D.mk (Kd.a2B qK0 hb);have aM:=a0D.mk (a0P (g:=aE) (o:=.cells #[.slice aI aC.length aH] 24 (0,0)) qJ0 hb);have aN:=a0D.mk (a0K qG0 hb);clear aD;clear aA;clear HB;have aD:=aK;have aA:=aM;have HB:=aN;clear aK aM aN
        (try clear hb)
        (try clear hb2)
        (try clear hk)
        (try clear hi)
        refine hK.out _ _ trivial (fun hHeld =>?_);clear hK K;refine a4M (a':=?_) ?_ ?_;rotate_left
        ·show Act.put _ (some 51) _ = _;simp only [Act.put,zC0,zG0,zH0,a1L,a1Q]
         rfl
        refine pz_ 1 (some 52) HT_.out rfl rfl (fun _ _ _ h =>h) (h:=?_);refine a3X (i:=2) (N:=some 53) (v:=undef) (a':=?_) #[true,true,true,false,false,false,false,false,false,false,false,false,false,false,false,false,false,false,false,false,false,false,false,false,false] rfl rfl (a2V HT_.out qE0) (fun _ _ _ h =>h) (Or.inr ⟨by rfl,rfl⟩) ?_ ?_;rotate_left
        ·simp only [Act.put,zC0,zG0,zH0,a1L,a1Q]
         rfl
        refine a3X (i:=3) (N:=some 54) (v:=undef) (a':=?_) #[true,true,true,true,false,false,false,false,false,false,false,false,false,false,false,false,false,false,false,false,false,false,false,false,false] rfl rfl (a2V HT_.out qE0) (fun _ _ _ h =>h) (Or.inr ⟨by rfl,rfl⟩) ?_ ?_;rotate_left
        ·simp only [Act.put,zC0,zG0,zH0,a1L,a1Q]
         rfl
        refine a3X (i:=4) (N:=some 55) (v:=undef) (a':=?_) #[true,true,true,true,true,false,false,false,false,false,false,false,false,false,false,false,false,false,false,false,false,false,false,false,false] rfl rfl (a2V HT_.out qE0) (fun _ _ _ h =>h) (Or.inr ⟨by rfl,rfl⟩) ?_ ?_;rotate_left
        ·simp only [Act.put,zC0,zG0,zH0,a1L,a1Q]
         rfl
        refine a3X (i:=5) (N:=some 56) (v:=undef) (a':=?_) #[true,true,true,true,true,true,false,false,false,false,false,false,false,false,false,false,false,false,false,false,false,false,false,false,false] rfl rfl (a2V HT_.out qE0) (fun _ _ _ h =>h) (Or.inr ⟨by rfl,rfl⟩) ?_ ?_;rotate_left
        ·simp only [Act.put,zC0,zG0,zH0,a1L,a1Q]
         rfl
        refine pz_ 6 (some 57) HT_.out rfl rfl (fun _ _ _ h =>h) (h:=?_);refine pz_ 7 (some 58) HT_.out rfl rfl (fun _ _ _ h =>h) (h:=?_);refine a3X (i:=8) (N:=some 59) (v:=undef) (a':=?_) #[true,true,true,true,true,true,true,true,true,false,false,false,false,false,false,false,false,false,false,false,false,false,false,false,false] rfl rfl (a2V HT_.out qE0) (fun _ _ _ h =>h) (Or.inr ⟨by rfl,rfl⟩) ?_ ?_;rotate_left
        ·simp only [Act.put,zC0,zG0,zH0,a1L,a1Q]
         rfl
        refine a3X (i:=9) (N:=some 60) (v:=undef) (a':=?_) #[true,true,true,true,true,true,true,true,true,true,false,false,false,false,false,false,false,false,false,false,false,false,false,false,false] rfl rfl (a2V HT_.out qE0) (fun _ _ _ h =>h) (Or.inr ⟨by rfl,rfl⟩) ?_ ?_;rotate_left
        ·simp only [Act.put,zC0,zG0,zH0,a1L,a1Q]
         rfl
        refine a3X (i:=10) (N:=some 61) (v:=undef) (a':=?_) #[true,true,true,true,true,true,true,true,true,true,true,false,false,false,false,false,false,false,false,false,false,false,false,false,false] rfl rfl (a2V HT_.out qE0) (fun _ _ _ h =>h) (Or.inr ⟨by rfl,rfl⟩) ?_ ?_;rotate_left
        ·simp only [Act.put,zC0,zG0,zH0,a1L,a1Q]
         rfl
        refine a3X (i:=11) (N:=some 62) (v:=undef) (a':=?_) #[true,true,true,true,true,true,true,true,true,true,true,true,false,false,false,false,false,false,false,false,false,false,false,false,false] rfl rfl (a2V HT_.out qE0) (fun _ _ _ h =>h) (Or.inr ⟨by rfl,rfl⟩) ?_ ?_;rotate_left
        ·simp only [Act.put,zC0,zG0,zH0,a1L,a1Q]
         rfl
        refine a3X (i:=12) (N:=some 63) (v:=undef) (a':=?_) #[true,true,true,true,true,true,true,true,true,true,true,true,true,false,false,false,false,false,false,false,false,false,false,false,false] rfl rfl (a2V HT_.out qE0) (fun _ _ _ h =>h) (Or.inr ⟨by rfl,rfl⟩) ?_ ?_;rotate_left
        ·simp only [Act.put,zC0,zG0,zH0,a1L,a1Q]
         rfl
        refine a3X (i:=13) (N:=some 64) (v:=undef) (a':=?_) #[true,true,true,true,true,true,true,true,true,true,true,true,true,true,false,false,false,false,false,false,false,false,false,false,false] rfl rfl (a2V HT_.out qE0) (fun _ _ _ h =>h) (Or.inr ⟨by rfl,rfl⟩) ?_ ?_;rotate_left
        ·simp only [Act.put,zC0,zG0,zH0,a1L,a1Q]
         rfl
        refine a3X (i:=14) (N:=some 65) (v:=undef) (a':=?_) #[true,true,true,true,true,true,true,true,true,true,true,true,true,true,true,false,false,false,false,false,false,false,false,false,false] rfl rfl (a2V HT_.out qE0) (fun _ _ _ h =>h) (Or.inr ⟨by rfl,rfl⟩) ?_ ?_;rotate_left
        ·simp only [Act.put,zC0,zG0,zH0,a1L,a1Q]
         rfl
        refine pz_ 15 (some 66) HT_.out rfl rfl (fun _ _ _ h =>h) (h:=?_);refine pz_ 16 (some 67) HT_.out rfl rfl (fun _ _ _ h =>h) (h:=?_);refine a3X (i:=17) (N:=some 68) (v:=undef) (a':=?_) #[true,true,true,true,true,true,true,true,true,true,true,true,true,true,true,true,true,true,false,false,false,false,false,false,false] rfl rfl (a2V HT_.out qE0) (fun _ _ _ h =>h) (Or.inr ⟨by rfl,rfl⟩) ?_ ?_;rotate_left
        ·simp only [Act.put,zC0,zG0,zH0,a1L,a1Q]
         rfl
        refine a3X (i:=18) (N:=some 69) (v:=undef) (a':=?_) #[true,true,true,true,true,true,true,true,true,true,true,true,true,true,true,true,true,true,true,false,false,false,false,false,false] rfl rfl (a2V HT_.out qE0) (fun _ _ _ h =>h) (Or.inr ⟨by rfl,rfl⟩) ?_ ?_;rotate_left
        ·simp only [Act.put,zC0,zG0,zH0,a1L,a1Q]
         rfl
        refine a3X (i:=19) (N:=some 70) (v:=undef) (a':=?_) #[true,true,true,true,true,true,true,true,true,true,true,true,true,true,true,true,true,true,true,true,false,false,false,false,false] rfl rfl (a2V HT_.out qE0) (fun _ _ _ h =>h) (Or.inr ⟨by rfl,rfl⟩) ?_ ?_;rotate_left
        ·simp only [Act.put,zC0,zG0,zH0,a1L,a1Q]
         rfl
        refine a3X (i:=20) (N:=some 71) (v:=undef) (a':=?_) #[true,true,true,true,true,true,true,true,true,true,true,true,true,true,true,true,true,true,true,true,true,false,false,false,false] rfl rfl (a2V HT_.out qE0) (fun _ _ _ h =>h) (Or.inr ⟨by rfl,rfl⟩) ?_ ?_;rotate_left
        ·simp only [Act.put,zC0,zG0,zH0,a1L,a1Q]
         rfl
        refine a3X (i:=21) (N:=some 72) (v:=undef) (a':=?_) #[true,true,true,true,true,true,true,true,true,true,true,true,true,true,true,true,true,true,true,true,true,true,false,false,false] rfl rfl (a2V HT_.out qE0) (fun _ _ _ h =>h) (Or.inr ⟨by rfl,rfl⟩) ?_ ?_;rotate_left
        ·simp only [Act.put,zC0,zG0,zH0,a1L,a1Q]
         rfl
        refine a3X (i:=22) (N:=some 73) (v:=undef) (a':=?_) #[true,true,true,true,true,true,true,true,true,true,true,true,true,true,true,true,true,true,true,true,true,true,true,false,false] rfl rfl (a2V HT_.out qE0) (fun _ _ _ h =>h) (Or.inr ⟨by rfl,rfl⟩) ?_ ?_;rotate_left
        ·simp only [Act.put,zC0,zG0,zH0,a1L,a1Q]
         rfl
        refine pz_ 23 (some 74) HT_.out rfl rfl (fun _ _ _ h =>h) (h:=?_);refine pz_ 24 (some 6) HT_.out rfl rfl (fun _ _ _ h =>h) (h:=?_);refine b2C (a6F HT_.out qE0) ?_
        try go_wp2
        go_ret;exact qY3
end Go.Proofs.YthhgfncliffggaaGreat.Pr
namespace Go.Proofs.YthhgfncliffggaaGreat.Man
open Go.RowKit Go.Proofs.YthhgfncliffggaaGreat.Pr Go.Proofs.YthhgfncliffggaaGreatW.PrintWords
theorem same_val (l:List S42) (hl:l.length≤1000000) (h:∀ i:Nat,i < l.length→(a3M l (i:Int)).f2.length≤8000000000000):r14_Same.f l l = some true:=by
 unfold r14_Same.f;rw [if_pos ⟨rfl,hl,h⟩]
theorem own_val (f:S34) (h:(flat f.f2).length≤1050000):effects_Own.f f.f0 f.f1 f.f2 = some (ownF f):=by
 unfold effects_Own.f;rw [if_pos h]
theorem sigs_val {fs:List S34} (h:SmG fs):effects_Sigs.f fs = some (sigsF fs):=by
 unfold effects_Sigs.f;rw [if_pos h]
theorem all_val {l:List S42} (h:l.length≤1050000) (h2:(l.flatMap (·.f2)).length≤1050000):effects_All.f l = some (allF l):=by
 unfold effects_All.f;rw [if_pos ⟨h,h2⟩]
theorem c2Y:w14_fixed.f = some true:=rfl
section
variable {fs:List S34}
theorem sig_rd {i:Nat} (hi:i < fs.length):(a3M (sigsF fs) (i:Int)).f2 = wrF fs (numN (callsF fs) i):=by
 unfold a3M;rw [zP0,zK0,b4W hi];rfl
theorem b8M {α β:Type} (f:α→List β) (B:Nat):∀ l:List α,(∀ x,x ∈ l→(f x).length≤B)→(l.flatMap f).length≤l.length * B
 | [],_ =>by simp
 | x :: r,h =>by
  have h1:=h x zU0;have h2:=b8M f B r (fun y hy =>h y (zV0 _ hy));simp only [List.flatMap_cons,zQ0,zX0,Nat.add_mul,Nat.one_mul];omega
theorem sigs_mem {s:S42} (h:s ∈ sigsF fs):∃ i,i < fs.length∧s.f2 = wrF fs (numN (callsF fs) i):=by
 unfold sigsF at h;obtain ⟨i,hi,rfl⟩:=zG2.1 h;exact ⟨i,zZ0.1 hi,rfl⟩
theorem sigs_sum (hs:SmG fs) (hn:fs.length≤60) (ht:total fs≤3000):((sigsF fs).flatMap (·.f2)).length≤1050000:=by
 have h:=b8M (fun s:S42 =>s.f2) 3000 (sigsF fs) (fun s hs' =>by
  obtain ⟨i,hi,e⟩:=sigs_mem hs';rw [e]
  exact zE0 (b9Y hs hi) (zE0 (a9W fs) ht))
 rw [a8S] at h;have:fs.length * 3000≤60 * 3000:=zO1 _ hn;omega
theorem c0O (hs:SmG fs) {i:Nat} (hi:i < fs.length):(a3M (sigsF fs) (i:Int)).f2.length≤1050000:=by
 rw [sig_rd hi];exact zE0 (b9Y hs hi) hs.u
end
theorem b8V (fs:List S34) (a b:List ByteArray) (hl:LowP fs):Ev (fun k =>w14_EffectsTells.f k fs a b) true:=by
 have fx:Ev (fun k =>w14_EffectsTells.j0 k a b true fs) true:=by
  refine Ev.step ?_;simp only [w14_EffectsTells.j0,if_true,c2Y,zN0];exact Ev.const true
 obtain ⟨t,ht,htot⟩:=big14 fs hl;unfold w14_EffectsTells.f;refine Ev.bind ht ?_;cases t with
 | true =>simp only [if_true];exact fx
 | false =>
 have htot:=htot rfl;simp only [Bool.false_eq_true,if_false];by_cases hn:(fs.length:Int) > 60
 ·simp only [if_pos hn];exact fx
 simp only [if_neg hn];by_cases ha:(a.length:Int) > 100
 ·simp only [if_pos ha];exact fx
 simp only [if_neg ha];by_cases hb:(b.length:Int) > 100
 ·rw [zD0 hb];exact fx
 rw [zO0 hb];have ln:fs.length≤60:=by omega
 have la:a.length≤100:=by omega
 have lb:b.length≤100:=by omega
 have hs:SmG fs:=smG_of hl qD0 qD0;have hsum:=sigs_sum hs ln htot;have hsl:=a8S fs;refine Ev.step ?_;simp only [w14_EffectsTells.j0,Bool.false_eq_true,if_false,sigs_val hs,zN0]
 suffices h:∀ m i:Nat,i + m = fs.length→Ev (fun k =>w14_EffectsTells.l0 k a b (sigsF fs) (i:Int) fs) true from h fs.length 0 qD0
 intro m
 induction m with
 | zero =>
  intro i hi;have hnl:¬ ((i:Int) < (fs.length:Int)):=by rw [show i = fs.length from hi];exact zY3 _
  refine Ev.step ?_;simp only [w14_EffectsTells.l0,if_neg hnl,c2Y,zN0,if_true];refine Ev.bind (b7V hl hs) ?_;simp only [same_val (sigsF fs) qD0 (fun i hi =>zE0 (c0O hs qD0) qD0),zN0,if_true,union14 a b qD0 qD0,zN0];refine Ev.bind (b1F a b qD0 qD0) ?_;refine Ev.bind (b3E _ (zE0 (b4S a b) qD0)) ?_;simp only [if_true,all_val (l:=sigsF fs) qD0 hsum,zN0];refine Ev.bind (b7V hl hs) ?_;refine Ev.bind (rAll_ev _ qD0 (fun i hi =>zE0 (c0O hs qD0) qD0) qD0) ?_;refine Ev.bind (b3E _ ?_) (Ev.const true);unfold allF;exact zE0 (b4S _ _) (by simp only [zN1];omega)
 | succ m ih =>
  intro i hi;have hil:i < fs.length:=by omega
  have c1:(0:Int)≤(i:Int):=zJ0 i;have c2:(i:Int) < (fs.length:Int):=zG1.2 hil;have hw:=pz14 i qD0;have hmem:=b3L hil;have hf:=hl.2 _ hmem;refine Ev.step ?_;simp only [w14_EffectsTells.l0,if_pos c1,if_pos c2,own_val _ (hs.b _ hmem),zN0,hw];refine Ev.bind (c1J _ hf.2.2 hf.2.1) ?_;refine Ev.bind (b3E _ (zE0 (b7Y hs hil) qD0)) ?_;simp only [if_true];exact ih (i + 1) qD0
end Go.Proofs.YthhgfncliffggaaGreat.Man
namespace Go.Proofs.YthhgfncliffggaaGreat.effectsTells
open Go.ChangeShapes Go.WideShapes Go.ChangeAt Go.RowKit Go.Proofs.YthhgfncliffggaaGreat.Pr Go.Proofs.YthhgfncliffggaaGreatW.PrintWords
open Go.ChangeMaps (open_string shut_string)
theorem own:ownKnob Tryz.prog.godebug = none:=by kernel_rfl
theorem laidOut:laidOutB Tryz.prog = true:=by kernel_rfl
theorem lowP {l:List S34} {n:Nat} (h:Man.FitP l n) (hn:n≤2000000):Man.LowP l :=
 ⟨by have:=h.1;omega,fun f hf =>by
  obtain ⟨h1,⟨h2,h3⟩,h4⟩:=h.2 f hf
  exact ⟨by omega,by omega,by have:=Man.len_flat f.f2;omega,fun s hs =>by have:=h3 s hs;omega⟩⟩
theorem walk (A0:Option Addr) (c0:Nat) (l0:List S34) (hc0:l0.length≤c0) (A1:Option Addr) (c1:Nat) (l1:List ByteArray) (hc1:l1.length≤c1) (A2:Option Addr) (c2:Nat) (l2:List ByteArray) (hc2:l2.length≤c2) (w:World) (hC0:Kd.C k34 w A0 l0.length l0) (hC1:Kd.C Kd.string w A1 l1.length l1) (hC2:Kd.C Kd.string w A2 l2.length l2) (hP:Man.FitP l0 1048576) :
  Calls Tryz.prog 3 #[.agg #[.slice A0 l0.length c0],.slice A1 l1.length c1,.slice A2 l2.length c2] w fun e w' =>e = .returned (.bool true)∧Below w.heap.size w w':=by
 obtain ⟨k,e⟩:=Man.b8V l0 l1 l2 (lowP hP qF0);exact w14_EffectsTells.calls k A0 c0 l0 A1 c1 l1 A2 c2 l2 true w hC0 hc0 hC1 hc1 hC2 hc2 (e k (zM0 _))
theorem lifted (os:Os) (started:os.Started) (H:Type) (enc:TypeId × Value→H) (F:Stop.Interp) :
  ReturnsInHanded {} Tryz.checked os 3 .any ((Rows.OpenSpec.upto Rows.effectsTellsSpec).pre6 enc Tryz.prog Tryz.f3 Rows.effectsTellsUptoRow.domain false) (((Rows.OpenSpec.upto Rows.effectsTellsSpec).at F).post enc Tryz.prog Tryz.f3 false true false false):=by
 refine returnsInHanded_of_cond (C:=Tryz.checked) (s:=(Rows.OpenSpec.upto Rows.effectsTellsSpec)) (k:=Rows.uptoSmall) rfl own started qE0 Tryz.func3
  (OpenSpec.witness (enc:=enc) (C:=Tryz.checked) (s:=(Rows.OpenSpec.upto Rows.effectsTellsSpec)) (k:=Rows.uptoSmall) rfl false ⟨#[],#[.agg #[.slice none 0 0],.slice none 0 0,.slice none 0 0],[]⟩ 8 qE0 qE0 qE0
   (x:=([.agg [.nil],.nil,.nil],[],[])) qE0 rfl qE0) ?_
 intro W base args ds gs before hval0 hW _ hk _;have hval:∀ (j:Nat) t v,Tryz.f3.params[j]? = some t→args[j]? = some v→Value.okWide Tryz.prog W .any base t v:=hval0;have hW':=hW;obtain ⟨p,q,hA0,hV,rfl,hfz,hnd⟩:=hW;have hA:DataW.TrodAll enc Tryz.prog W 0 (fun _ =>true) true Tryz.f3.params.toList args.toList ds p:=hA0;rw [Tryz.params3] at hA hval;obtain ⟨v0,vs0,d0,ds0,p0,q0,hargs,rfl,rfl,h0,r0⟩:=trodAll_cons hA;obtain ⟨v1,vs1,d1,ds1,p1,q1,rfl,rfl,rfl,h1,r1⟩:=trodAll_cons r0;obtain ⟨v2,vs2,d2,ds2,p2,q2,rfl,rfl,rfl,h2,r2⟩:=trodAll_cons r1;obtain ⟨rfl,rfl,rfl⟩:=trodAll_nil r2;obtain rfl:args = #[v0,v1,v2]:=by cases args;simp_all
 obtain ⟨rfl,rfl⟩:=trodVars_none hV;obtain ⟨cs0,rfl,hz0⟩:=okWide_struct Tryz.underlying24 (hval 0 24 v0 rfl rfl);have k0:=h0;have lt0:∀ x ∈ p0,x.block < W.heap.size:=by obtain ⟨m,hm⟩:=k0;exact DataW.trod_lt m _ _ _ hm
 obtain ⟨fuel0,hf0⟩:=h0;obtain ⟨b1,len1,cap1,rfl⟩:=okWide_slice Tryz.underlying25 (hval 1 25 v1 rfl rfl);have k1:=h1;have lt1:∀ x ∈ p1,x.block < W.heap.size:=by obtain ⟨m,hm⟩:=k1;exact DataW.trod_lt m _ _ _ hm
 obtain ⟨fuel1,hf1⟩:=h1;obtain ⟨b2,len2,cap2,rfl⟩:=okWide_slice Tryz.underlying25 (hval 2 25 v2 rfl rfl);have k2:=h2;have lt2:∀ x ∈ p2,x.block < W.heap.size:=by obtain ⟨m,hm⟩:=k2;exact DataW.trod_lt m _ _ _ hm
 obtain ⟨fuel2,hf2⟩:=h2;have hbulk:Rows.uptoBulkAll ([d0,d1,d2] ++ [])≤1048576:=zB0 hk;simp only [zU1,Rows.uptoBulkAll] at hbulk;obtain ⟨A0,c0,l0,hv0,hc0,hC0,hB0,hT0⟩:=Man.b7F fuel0 cs0 _ _ hf0;subst hv0;have hP0:Man.FitP l0 1048576:=hB0.mono qD0;obtain ⟨A1,c1,l1,hv1,hc1,hC1⟩:=Man.a8C fuel1 _ _ _ hf1;have e1:Value.slice b1 len1 cap1 = Value.slice A1 l1.length c1:=by simpa [Value.cells] using hv1
 cases e1;obtain ⟨A2,c2,l2,hv2,hc2,hC2⟩:=Man.a8C fuel2 _ _ _ hf2;have e2:Value.slice b2 len2 cap2 = Value.slice A2 l2.length c2:=by simpa [Value.cells] using hv2
 cases e2;clear hA0 hval0;refine (walk _ _ l0 hc0 _ _ l1 hc1 _ _ l2 hc2 W hC0 hC1 hC2 hP0).mono fun e W' ⟨he,bel⟩ =>?_
 subst he;exact ⟨_,rfl,_,_,_,[],_,[],hW',trodAll_mk1 (shut_bool Tryz.underlying4 _),(trodAll_cons_mk (Below.trod laidOut qE0 (zB0 qE0) k0 bel lt0) (trodAll_cons_mk (Below.trod laidOut qE0 (zB0 qE0) k1 bel lt1) (trodAll_cons_mk (Below.trod laidOut qE0 (zB0 qE0) k2 bel lt2) trodAll_mk0))),rfl,bel.frame _,fun h =>by cases h⟩
theorem proved:Rows.EffectsTellsUptoSaid :=
 OpenClaim.holds_of_cond 3 Tryz.f3 rfl rfl rfl rfl rfl rfl rfl ⟨rfl,rfl,rfl,rfl,rfl⟩ rfl rfl rfl rfl rfl qE0 Tryz.func3 qE0
  (zB0 qE0) (by unfold Func.isWrapper;first | (rw [if_pos (by decide +kernel)];kernel_rfl) | (rw [if_neg (by decide +kernel)];exact ⟨rfl,rfl⟩))
  (fun os started H enc _ F =>lifted os started H enc F)
end Go.Proofs.YthhgfncliffggaaGreat.effectsTells
namespace Go.Proofs.YthhgfncliffggaaGreat
theorem effectsTells_holds:Rows.EffectsTellsUptoSaid:=effectsTells.proved
end Go.Proofs.YthhgfncliffggaaGreat
